/- Lemmas: walks and plain laws. -/
import Derived.Test.YtmkjfhnlnhceiaaGreatDoorF05
set_option maxRecDepth 100000
set_option maxHeartbeats 16000000
namespace Go.Proofs.YtmkjfhnlnhceiaaGreatDoor
variable {F:Nat->Prop} {n c:Nat} {bs:List UInt8}
open Go.RowKit
attribute [local go_sem] oD
def qE (z:Nat):Nat->List UInt8->List (List UInt8)
 | 0,_=>[]
 | m+1,b=>b.take z::qE z m (b.drop z)
theorem iM (z:Nat):∀ (m:Nat) (b:List UInt8),(qE z m b).length=m
 | 0,_=>rfl
 | m+1,b=>by rw [qE,BA,iM z m]
theorem lT (z:Nat):∀ (m i:Nat) (b:List UInt8),i<m->(qE z m b)[i]?=some ((b.drop (i*z)).take z)
 | 0,i,b,h=>absurd h (RI _)
 | m+1,0,b,h=>by simp [qE]
 | m+1,i+1,b,h=>by rw [qE,LC,lT z m i _ qO,dD,show z+i*z=(i+1)*z by rw [BG,NM]]
theorem pA.piece {w:World} {b o:Nat} (h:pA w F (some ⟨b,o,none⟩) n c bs) {j k:Nat} (hk:j+k<=n):pA w F (some ⟨b,o+j,none⟩) k k ((bs.drop j).take k):=by
 obtain ⟨s,m,p,q⟩:=Row.cell h _ rfl;have r:=h.len;refine ⟨qP,lA _,by have:=Row.le h;have:=Row.max h;omega,fun e=>(by cases e),fun a d=>?_⟩;have d:=(eB d).symm;subst d;refine ⟨rfl,m,p,fun i u f=>?_⟩;have g:=q (j+i) u (by
  rw [<- f];simp only [MA];congr 1;have l:i<k:=by have:=(IA.1 f).1;simp at this;omega
  rw [List.getElem?_take_of_lt l,GM])
 simpa [vK] using g
def BS.argC (x:BS):Array Value:=#[.slice x.A x.n x.c]
structure ChR (L:List (List UInt8)) (F:Nat->Prop) (pre:List BS) (x:BS) (W:World):Prop where
 at_:L[pre.length]?=some x.data
 row:pA W F x.A x.n x.c x.data
theorem Zqm (w:World) (A:Option Addr) (n c z:Nat) (hz:1<=z):Calls Tryz.prog 162 #[.slice A n c,.int .i64 (z:Int)] w fun e w'=>e=.returned (.func (.func 191) #[] #[.pointer (some ⟨w.heap.size,0,none⟩),.pointer (some ⟨w.heap.size+1,0,none⟩)])/\Blk w' w.heap.size 39 #[.slice A n c]/\Blk w' (w.heap.size+1) 3 #[.int .i64 (z:Int)]/\Same w w':=by have d:∀ (fn:Fn) (first cap:Array Value) (w:World),(Instr.makeFunc fn first cap).run Tryz.prog w=.ok (.func fn first cap) w:=fun _ _ _ _=>rfl;have h:¬ (z:Int)<1:=qO;go_enter Tryz.func162,Tryz.ntmps162;go_wp2_with fail;go_ret;have f:=jA w 39 #[.slice A n c];have g:=(iA w).alloc (.cells #[.slice A n c] 39);have a:(w.alloc (.cells #[.slice A n c] 39)).heap.size=w.heap.size+1:=aB _ _;have b:=jA (w.alloc (.cells #[.slice A n c] 39)) 3 #[.int .i64 (z:Int)];rw [a] at b;exact ⟨rfl,f.same ((eA _ _).alloc _),b,g.alloc _⟩
theorem ZrY (n':Nat) (ae:1<=n') (w:World) {A:Option Addr} {z m sB nB:Nat} (hb:pA w F A n c bs) (hz:1<=z/\z<=255) (hm:n=m*z) (ad:m<=65536) (h1:Blk w sB 39 #[.slice A n c]) (h2:Blk w nB 3 #[.int .i64 (z:Int)]):
 SeqR (fun _=>False) Fence.wide n' Tryz.prog 191 #[.pointer (some ⟨sB,0,none⟩),.pointer (some ⟨nB,0,none⟩)] BS.argC
  (fun _ W W'=>(pA W F A n c bs->pA W' F A n c bs)/\(Blk W sB 39 #[.slice A n c]->Blk W' sB 39 #[.slice A n c])/\(Blk W nB 3 #[.int .i64 (z:Int)]->Blk W' nB 3 #[.int .i64 (z:Int)])) (ChR (qE z m bs) F)
  (fun xs=>xs.map BS.data=qE z m bs) (fun pre=>∃ k,pre.map BS.data=(qE z m bs).take k) w:=fun lp J Jx W hW hJ a9 hY h0=>by
 have d:Same w W:=JP hW;have ab:n<=16711680:=by rw [hm];exact Nat.mul_le_mul ad hz.2
 have HM:=qH hm;have E:=qH (hb.same d);have l:=qH (h1.same d);have q:=qH (h2.same d);have HJ:=qH hJ;have HY:=qH hY;have G:=qH h0;clear hm hb h1 h2 d hW hJ a9 hY h0;have q0:=l.c0;have Z:=q.c0;refine ZB.2 ?_;go_enter Tryz.func191,Tryz.ntmps191;go_wp2_with fail;go_loopg [4] m (fun gh s wr=>∃ (j p:Nat) (pre:List BS),m-j=gh/\j<=m/\s=.int .i64 (p:Int)/\Hid (p=j*z)/\Hid (pre.map BS.data=(qE z m bs).take j)/\Hid (J pre wr)/\Hid (pA wr F A n c bs)/\Hid (Blk wr sB 39 #[.slice A n c])/\Hid (Blk wr nB 3 #[.int .i64 (z:Int)]))
 case atStart=>exact ⟨0,0,[],rfl,oA _,rfl,qH (Nat.zero_mul z).symm,qH rfl,G,E,l,q⟩
 clear G E l q q0 Z;obtain ⟨j,p,pre,rfl,hj,rfl,HP,KP,KJ,P,H1,H2⟩:=hrel;have q0:=H1.c0;have Z:=H2.c0;by_cases H:j<m
 · have r:p+z<=n:=by have h1:(j+1)*z<=m*z:=gG z H;rw [HP.out,HM.out];rw [BG] at h1;exact h1
   have ac:n<=c:=P.le;obtain ⟨b,o,rfl⟩:∃ b o,A=some ⟨b,o,none⟩:=by obtain ⟨b,o,h1,_⟩:=P.at_ (i:=0) qO;exact ⟨b,o,h1⟩
   have t:=qH (pA.piece P r);have u:Hid ((qE z m bs)[j]?=some ((bs.drop p).take z)):=qH (by rw [lT z m j bs H,HP.out]);have I:pre.length=j:=Zvl KP.out (by rw [iM];omega);have a0:=qH I;have v:=qH fun (y:BS) (hy:y.data=(bs.drop p).take z)=>Zvk (f:=BS.data) (x:=y) KP.out (by rw [u.out,hy]);obtain ⟨D,hD⟩:=qx ((bs.drop p).take z);rw [hD] at t u v;have l1:(p:Int)<(n:Int):=qO;have l2:¬ c=p:=qO;have l3:(z:Int)<=(n:Int)-(p:Int):=qO;have l4:(p:Int)+(z:Int)<=(n:Int):=qO;have l5:(n:Int)<=(c:Int):=qO;clear I hD;go_upto_region 3 with fail;go_quiet (fail);have a:Hid (Same wr (wr.drewN nq)):=qH ((eA _ wr).drewN nq);generalize wr.drewN nq=wq at *;have L:=qH (P.same a);have B:=qH (H1.same a);have C:=qH (H2.same a);have a1:Hid (J pre wq):=qH (HJ.out _ _ _ KJ (a.mono qe));obtain ⟨fn,R,g,S,hy,hR⟩:=HY.out pre ⟨D,some ⟨b,o+p,none⟩,z,z⟩ wq a1.out ⟨by rw [a0.out];exact u,t.same a⟩;have a2:(Instr.yield lp #[.slice (some ⟨b,o+p,none⟩) z z]).run Tryz.prog wq=.ok (.round lp fn R g S) wq:=hy;have M:=qH hR;have q0:=B.c0;have Z:=C.c0;clear hy hR P H1 H2 KJ a t;go_upto_region 4 with fail;refine (eI (n:=n')).1 ?_;gi_wp2;refine M.mono ?_;clear a2 M;rintro e W2 ⟨aa,h⟩;rcases h with ⟨rfl,T,U,V,X⟩ | ⟨rfl,Y⟩
   case inr =>
    gi_wp2;go_wp2_with fail;refine LD (DG rfl _ _ _) rfl ?_;exact ⟨⟨_,rfl⟩,.inr ⟨_,⟨_,v.out _ rfl⟩,Y⟩⟩
   have a3:=qH (v.out ⟨D,some ⟨b,o+p,none⟩,z,z⟩ rfl);have a4:=qH T;have a5:=qH (U L);have a6:=qH (V B);have N:=qH (X C);have a7:Hid (p+z=(j+1)*z):=qH (by rw [HP.out,BG]);have Z:=N.c0;clear T U V X aa L B C;gi_wp2;go_wp2_with fail;go_roundg (m-(j+1))
   case measure=>omega
   case rel=>exact ⟨j+1,p+z,_,rfl,qO,qN,a7,a3,a4,a5,a6,N⟩
 have O:j=m:=qO;have r:p=n:=by rw [HP.out,HM.out,O]
 have a8:Hid (pre.map BS.data=qE z m bs):=qH (by rw [KP.out,cB (by rw [iM];omega)]);have l1:¬ (p:Int)<(n:Int):=qO;clear O r;go_wp2;go_end0;exact ⟨⟨_,rfl⟩,.inl ⟨pre,a8,KJ⟩⟩
end Go.Proofs.YtmkjfhnlnhceiaaGreatDoor
