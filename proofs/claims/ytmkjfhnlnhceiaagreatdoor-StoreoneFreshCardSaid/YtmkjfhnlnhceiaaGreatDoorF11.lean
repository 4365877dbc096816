/- Lemmas: walks and plain laws. -/
import Derived.Deep.CutBlock
import Derived.Test.YtmkjfhnlnhceiaaGreatDoorRows
import Derived.ProofKit
import Derived.LaidMore
import Derived.OpenShut
import Derived.Stop.Joined
import Derived.Test.YtmkjfhnlnhceiaaGreatDoorF07
set_option maxRecDepth 100000
set_option maxHeartbeats 16000000
namespace Go.Proofs.YtmkjfhnlnhceiaaGreatDoor
variable {B n c r:Nat} {W w wE:World} {F:Nat->Prop} {l bs:List UInt8} {e K ee:Int} {s:ByteArray} {tmps:Array Value} {a0 a1 a2 a3 a4 u0 u1 u2 u3 u4:Value} {R:Ending->World->Prop} {A:Option Addr}
section
open Go.RowKit
attribute [local go_sem] oD
def BI (B:Nat) (W:World) (ds:List Deferred):Prop:=∃ Ds:List Nat,ds=Ds.map (fun D=>{ target:=.collected D,args:=#[] })/\Ds.Nodup/\∀ D∈Ds,B<=D/\W.heap[D]?=some (.deferred (some []))
theorem BI.nil (B:Nat) (W:World):BI B W []:=⟨[],rfl,NL,fun _ h=>by cases h⟩
theorem BI.cons {D:Nat} {ds:List Deferred} (h:BI B W ds) {B':Nat} (i:∀ D',W.heap[D']?=some (.deferred (some []))->{ target:=.collected D',args:=#[] }∈ds->D'<B') (hD:B'<=D) (hB:B<=D) (hk:W.heap[D]?=some (.deferred (some []))):BI B W ({ target:=.collected D,args:=#[] }::ds):=by
 obtain ⟨e,b,f,c⟩:=h;refine ⟨D::e,by rw [b];rfl,lE.2 ⟨fun d=>?_,f⟩,fun D' a=>?_⟩
 · have g:=i D (c D d).2 (by rw [b];exact fC.2 ⟨D,d,rfl⟩);omega
 rcases TA.1 a with rfl | a
 · exact ⟨hB,hk⟩
 exact c D' a
end
section
open Go.RowKit
attribute [local go_sem] oD
theorem BX {F:Fence} {nF:Nat} {P:Program} {y:Array Oper} {rest:List Oper} {o:Oper} {a:Act} {Q:Exit->Act->World->Prop} (A:o.guard=none) (s x:Operand) (t tx:TypeId)
 (ho:o.op=.call { callee:=.builtin .append,args:=#[s,x],argTypes:=#[t,tx] })
 (r:Nat) (e:TypeId) (k bytes:Nat) (z:Value) (ht:P.underlying t=some (.slice e)) (hi:(P.info? e).map (fun i=>(i.zero,i.size,i.bytes))=some (some z,k,bytes))
 (B:z.cells.size=k)
 (v:Value) (n:Nat) (xs:List Value) (hs:a.eval s=v) (C:w.ownsRow r e k v n xs)
 {xv:Value} {m:Nat} {u:List Value} (hx:a.eval x=xv) (D:Src P k tx xv m u w)
 (E:n+m<=maxLen) (G:(n+m+1000)*bytes<=211106232532992) (H:r<=w.heap.size)
 (h:∀ v' w',Grew w r e k v (n+m) (xs++u) v' w'->wpListIn F nF P y Q rest (a.put o.dst v') w'):wpListIn F nF P y Q (o::rest) a w:=by
 refine wpListIn_plain A fun K b=>?_;obtain ⟨i,d,j,l,f⟩:=info_parts hi;clear hi;subst l;subst f;obtain ⟨v',w',p,q⟩:=mV (P:=P) w t tx o.type r e i z ht d j B v n xs C xv m u D E G H;unfold Oper.wpIn;refine ⟨?_,?_⟩
 · simp [Oper.about,ho,resolve,Target.leads,Sem.run_pure]
 rw [Oper.semAt_plain F _ _ (by rw [ho];intro c g;cases g)];simp [execOp,ho,resolve,invoke,builtin,hs,hx,p,Result.andThen];exact b _ _ (h v' w' q)
end
section
open Go.RowKit
theorem i64w (h:n<18446744073709551616):IntKind.i64.wrap (n:Int)=i64 n:=by rw [rF];unfold i64;split <;> omega
theorem ZtV {g:Nat} (h:CR w F c r l false) (hl:l.length=19) (hp:Blk w g 145 #[.int .i64 0,.int .i64 0,.int .i64 0,.int .i64 (-1),.int .i64 0,.int .i64 0]) (a4:¬ F g) (a5:∀ b,w.heap.size<=b->¬ F b):
 Calls Tryz.prog 127 #[.pointer (some ⟨c,0,none⟩),.pointer (some ⟨g,0,none⟩)] w fun e w'=>e=.returned (.tuple #[]) /\
  ∃ rest,CR w' F c r rest (getP l).isNone/\(∀ x,getP l=some x->Blk w' g 145 x.cells)/\(∃ cs,Blk w' g 145 cs)/\Upd (fun b=>b=c\/b=r\/b=g) w w':=by
 have n:145≠237/\145≠285:=qD;have HH:=qH h;have HP:=qH hp;clear h hp;go_enter Tryz.func127,Tryz.ntmps127;go_wp2_with fail;refine (VW (po:=0) HH qO HP.out rfl n a4 (V:=(atP l 0 2:Int)) rfl).mono ?_;rintro e w1 ⟨rfl,h1,p1,u1⟩;simp only [zA,CA] at p1;have H1:=qH h1;have P1:=qH p1;have U1:=qH u1;clear h1 p1 u1;go_wp2_with fail;refine (WJ (po:=1) H1 1 rfl qO (by simp only [QA];omega) P1.out rfl n a4 1 9 0 qO (V:=(atP l 2 1:Int)) (by unfold atP;simp)).mono ?_;rintro e j ⟨rfl,h2,Z,u2⟩;simp only [zA,JA,CA] at Z;have f:=qH h2;have v:=qH Z;have U2:=qH (U1.trans u2 qf);have q1:=Z.c1;clear h2 Z u2;have hv:=v.cell 3;obtain ⟨s,C⟩:=qx ((false || outB (atP l 0 2:Int) 0 200 || outB (atP l 2 1:Int) 1 9));have I:=qH C;rw [C,dD] at f;simp only [Nat.reduceAdd] at f;clear C H1 P1 U1 HH HP;have q3:=v.c3;have c1:=f.cod.c1;have c2:=f.cod.c2;have f2:=f.cod.frozen 2;have y:=f.ne;have z:c≠g:=fun e=>by subst e;exact absurd rfl (Blk.ne f.cod v (JF n.1))
 by_cases W:(atP l 2 1:Int)<4
 · have k1:(atP l 2 1:Int)<=3:=qO;have uA:Upd (fun b=>b=c) j (j.setCell ⟨c,2,none⟩ (.bool s)):=(eA _ j).put1 _;have hA:CR (j.setCell ⟨c,2,none⟩ (.bool s)) F c r (l.drop 3) s:=⟨f.cod.put 2 _,f.rdr.upd uA (JF y) fun b d h=>f.fc (h ▸ d),f.fr,f.fc⟩
   have k:=qH hA;have A:=qH (v.far (p:=⟨c,2,none⟩) (JF z) (.bool s));have X:=qH (U2.trans uA fun _ _ h=>.inl h);clear hA uA;have cA:=k.cod.c1;go_upto_region 3 with fail;go_cut [] from 20 to 33 (fun wx=>wx=j.setCell ⟨c,2,none⟩ (.bool s))
   case first =>
    cases s
    · go_wp2;go_meet;rfl
    go_wp2;go_meet;rfl
   case rest =>
   subst hcut;generalize j.setCell ⟨c,2,none⟩ (.bool s)=w3 at *;go_wp2_with fail;refine (gH k.rdr k.fr 8).mono ?_;rintro e m ⟨rfl,H,u4⟩;have L:RS.num ⟨l.drop 3,0⟩ (8:Int)=(atP l 3 8,⟨l.drop 11,0⟩):=by unfold RS.num;rw [show MD 8=true from rfl,show (8:Int)=((8:Nat):Int) from rfl,QK (by rw [QA];omega)];simp only [dD];rfl
   rw [L] at H ⊢;have w8:IntKind.i64.wrap ((atP l 3 8:Nat):Int)=i64 (atP l 3 8):=i64w (kT (l:=l) (i:=3) (w:=8) qO);have t:=qH (A.upd u4 (by obtain ⟨_,_,_,d,_⟩:=k.rdr;exact A.ne d n.2))
   have M:g≠r:=by obtain ⟨_,_,_,d,_⟩:=k.rdr;exact A.ne d n.2
   have C4:=qH (k.cod.upd u4 y);have R4:=qH H;have U4:=qH (X.trans u4 fun _ _ h=>.inr (.inl h));have q4:=t.c2;have z4:=t.frozen 2;clear H u4;generalize hN:i64 (atP l 3 8)=N at *;go_upto_region 11 with fail;have uB:Upd (fun b=>b=g) m (m.setCell ⟨g,2,none⟩ (.int .i64 N)):=(eA _ m).put1 _;have HB:=qH (show CR (m.setCell ⟨g,2,none⟩ (.int .i64 N)) F c r (l.drop 11) s from ⟨C4.far z _,R4.upd uB (JF M) fun b d h=>a4 (h ▸ d),k.fr,k.fc⟩);have pB:=t.put 2 (.int .i64 N);simp only [zA,JA,CA] at pB;have PB:=qH pB;have UB:=qH (U4.trans uB fun _ _ h=>.inr (.inr h));clear uB pB C4 R4 t q4 z4;generalize m.setCell ⟨g,2,none⟩ (.int .i64 N)=w5 at *;go_wp2_with fail;refine (RH (po:=4) HB (by simp only [QA];omega) PB.out rfl n a4 65536 (V:=(atP l 11 4:Int)-1) (by unfold atP;first | rfl | rw [dD])).mono ?_;rintro e w8 ⟨rfl,U,D,u8⟩;simp only [zA,JA,CA] at D;have H8:=qH U;have P8:=qH D;have U8:=qH (UB.trans u8 qf);clear U D u8;go_wp2_with fail;refine (RH (po:=5) H8 (by simp only [QA];omega) P8.out rfl n a4 65536 (V:=(atP l 15 4:Int)-1) (by unfold atP;simp only [dD])).mono ?_;rintro e w9 ⟨rfl,o,E,u9⟩;simp only [zA,JA,CA] at E;have H9:=qH o;have O:=qH E;have U9:=qH (U8.trans u9 qf);clear o E u9;go_wp2;go_end0;have P:oF l=⟨atP l 0 2,atP l 2 1,N,-1,(atP l 11 4:Int)-1,(atP l 15 4:Int)-1⟩:=by unfold oF;rw [gA W,gA W,hN]
   have R:getP l=if TD (oF l)=true then some (oF l) else none:=by rw [YW hl];simp only [W,true_or,and_true]
   have d:(s || outB ((atP l 11 4:Int)-1) (-1) 65536 || outB ((atP l 15 4:Int)-1) (-1) 65536)=(getP l).isNone:=by rw [R,<-I.out,P];unfold TD;simp only [ZN,W,lG];generalize inP (atP l 0 2:Int) 0 200=x1;generalize inP (atP l 2 1:Int) 1 9=x2;generalize inP ((atP l 11 4:Int)-1) (-1) 65536=x3;generalize inP ((atP l 15 4:Int)-1) (-1) 65536=x4;cases x1 <;> cases x2 <;> cases x3 <;> cases x4 <;> rfl
   have o:=H9.out;rw [d] at o;refine ⟨rfl,_,o,fun x a=>?_,⟨_,O⟩,U9⟩;rw [R] at a;split at a
   · rw [<- eB a,P];simp only [P1.cells];exact O
   cases a
 have k1:¬ (atP l 2 1:Int)<=3:=qO;have q2:=v.c2;have T:Hid (c<j.heap.size/\g<j.heap.size/\r<j.heap.size/\w.heap.size<=j.heap.size):=qH ⟨f.cod.lt,v.lt,f.rdr.lt,U2.size⟩;go_upto_region 8 with fail;have Y:=(iA j).alloc (.cells #[.int .i64 0] 3);have k:=qH (f.same Y);have A:=qH (v.same Y);have ZA:=qH (jA j 3 #[.int .i64 0]);have X:=qH (U2.same Y);have a0:¬ F j.heap.size:=a5 _ T.2.2.2;clear Y q1 q2 q3 c1 c2 f2 hv;generalize a3:j.heap.size=zb at *;generalize j.alloc (.cells #[.int .i64 0] 3)=w3 at *;go_wp2_with fail;refine (WJ (po:=0) k 4 rfl qO (by simp only [QA];omega) ZA.out rfl qD a0 0 1 0 qO (V:=(atP l 3 4:Int)) (by unfold atP;simp)).mono ?_;rintro e m ⟨rfl,H,_,u4⟩;have a2:=T.out;have q:=qH H;have t:=qH (A.upd u4 (by
  have M:g≠r:=by obtain ⟨_,_,_,d,_⟩:=k.rdr;exact A.ne d n.2
  omega))
 have U4:=qH (X.trans u4 (S:=fun b=>b=c\/b=r\/b=g) fun b d h=>qO);obtain ⟨u,G⟩:=qx ((s || outB (atP l 3 4:Int) 0 1));have a1:=qH G;rw [G,dD] at q;simp only [Nat.reduceAdd] at q;clear H u4 G k A X ZA;have q2:=t.c2;have c2:=q.cod.c2;have f2:=q.cod.frozen 2;have uC:Upd (fun b=>b=c) m (m.setCell ⟨c,2,none⟩ (.bool u)):=(eA _ m).put1 _;have HC:=qH (show CR (m.setCell ⟨c,2,none⟩ (.bool u)) F c r (l.drop 7) u from ⟨q.cod.put 2 _,q.rdr.upd uC (JF y) fun b d h=>q.fc (h ▸ d),q.fr,q.fc⟩);have PC:=qH (t.far (p:=⟨c,2,none⟩) (JF z) (.bool u));have UC:=qH (U4.trans uC fun _ _ h=>.inl h);clear uC;go_upto_region 9 with fail;go_cut [] from 64 to 77 (fun wx=>wx=m.setCell ⟨c,2,none⟩ (.bool u))
 case first =>
  cases u
  · go_wp2;go_meet;rfl
  go_wp2;go_meet;rfl
 case rest =>
 subst hcut;generalize m.setCell ⟨c,2,none⟩ (.bool u)=w5 at *;go_wp2_with fail;refine (WJ (po:=3) HC 4 rfl qO (by simp only [QA];omega) PC.out rfl n a4 0 65536 1 qO (V:=(atP l 7 4:Int)-1) rfl).mono ?_;rintro e w6 ⟨rfl,h6,p6,u6⟩;simp only [zA,JA,CA] at p6;have HB:=qH h6;have PB:=qH p6;have UB:=qH (UC.trans u6 qf);clear h6 p6 u6 q t q2 c2 f2;go_wp2_with fail;refine (RH (po:=4) HB (by simp only [QA];omega) PB.out rfl n a4 65536 (V:=(atP l 11 4:Int)-1) (by unfold atP;first | rfl | rw [dD])).mono ?_;rintro e w8 ⟨rfl,U,D,u8⟩;simp only [zA,JA,CA] at D;have H8:=qH U;have P8:=qH D;have U8:=qH (UB.trans u8 qf);clear U D u8;go_wp2_with fail;refine (RH (po:=5) H8 (by simp only [QA];omega) P8.out rfl n a4 65536 (V:=(atP l 15 4:Int)-1) (by unfold atP;simp only [dD])).mono ?_;rintro e w9 ⟨rfl,o,E,u9⟩;simp only [zA,JA,CA] at E;have H9:=qH o;have O:=qH E;have U9:=qH (U8.trans u9 qf);clear o E u9;go_wp2;go_end0;have P:oF l=⟨atP l 0 2,atP l 2 1,0,(atP l 7 4:Int)-1,(atP l 11 4:Int)-1,(atP l 15 4:Int)-1⟩:=by unfold oF;rw [aA qO,aA qO]
 have R:getP l=if TD (oF l)=true/\atP l 3 4=0 then some (oF l) else none:=by rw [YW hl];simp only [show ¬ (atP l 2 1:Int)<4 by omega,false_or]
 have d:(u || outB ((atP l 7 4:Int)-1) 0 65536 || outB ((atP l 11 4:Int)-1) (-1) 65536 || outB ((atP l 15 4:Int)-1) (-1) 65536)=(getP l).isNone:=by
  have B:outB (atP l 3 4:Int) 0 1=!decide (atP l 3 4=0):=by
   unfold outB;by_cases B:atP l 3 4=0
   · simp [B]
   simp [B];omega
  rw [R,<-a1.out,<-I.out,P,B];unfold TD;simp only [ZN,show ¬ (atP l 2 1:Int)<4 by omega,if_false];generalize inP (atP l 0 2:Int) 0 200=x1;generalize inP (atP l 2 1:Int) 1 9=x2;generalize inP ((atP l 11 4:Int)-1) (-1) 65536=x3;generalize inP ((atP l 15 4:Int)-1) (-1) 65536=x4;generalize inP ((atP l 7 4:Int)-1) 0 65536=x5;by_cases B:atP l 3 4=0
  · simp only [B,decide_true,and_true];cases x1 <;> cases x2 <;> cases x3 <;> cases x4 <;> cases x5 <;> rfl
  simp [B]
 have o:=H9.out;rw [d] at o;refine ⟨rfl,_,o,fun x a=>?_,⟨_,O⟩,U9⟩;rw [R] at a;split at a
 · rw [<- eB a,P];simp only [P1.cells];exact O
 cases a
structure Pre {α:Type} (p:List UInt8->Except Int (α×List UInt8)) (count:Nat) (l:List UInt8) (i:Nat) (xs:List α) (rest:List UInt8):Prop where
 le:i<=count
 len:xs.length=i
 short:rest.length<=l.length
 eq:wC p count l=match wC p (count-i) rest with
  | .error e=>.error e
  | .ok (ys,r')=>.ok (xs++ys,r')
section
variable {α:Type} {p:List UInt8->Except Int (α×List UInt8)} {count i:Nat} {l rest:List UInt8} {xs:List α}
theorem Pre.zero (p:List UInt8->Except Int (α×List UInt8)) (a:Nat) (l:List UInt8):Pre p a l 0 [] l:=by refine ⟨oA _,rfl,lA _,?_⟩;rw [BH];cases wC p a l <;> rfl
theorem Pre.next (h:Pre p count l i xs rest) (hi:i<count) {x:α} {r2:List UInt8} (hp:p rest=.ok (x,r2)) (hs:r2.length<=rest.length):Pre p count l (i+1) (xs++[x]) r2:=by
 refine ⟨hi,by simp [h.len],tA hs h.short,?_⟩;rw [h.eq,show count-i=(count-(i+1))+1 from qO];simp only [wC,hp];cases wC p (count-(i+1)) r2 with
 | error e=>rfl
 | ok y=>obtain ⟨a,b⟩:=y;simp
theorem Pre.stop (h:Pre p count l i xs rest) (hi:i<count) (hp:p rest=.error e):wC p count l=.error e:=by rw [h.eq,show count-i=(count-(i+1))+1 from qO];simp only [wC,hp]
theorem Pre.done (h:Pre p count l i xs rest) (hi:i=count):wC p count l=.ok (xs,rest):=by rw [h.eq,hi,SD];simp [wC]
end
theorem rG.ok {n:Int} {s':RS} (h:rG K l n 0 s'):∃ r,pNum K l=.ok (n,r)/\s'=⟨r,0⟩:=by
 unfold rG at h;split at h
 · exact absurd rfl h.2
 rename_i m r a;obtain ⟨_,rfl,rfl⟩:=h;exact ⟨_,a,rfl⟩
theorem rG.err {n:Int} {s':RS} (h:rG K l n e s') (he:e≠0):pNum K l=.error e:=by
 unfold rG at h;split at h
 · rename_i b a;rw [a,h.1]
 exact absurd h.1 he
theorem iH.ok {s':RS} (h:iH l s 0 s'):∃ r,jD l=.ok (s,r)/\s'=⟨r,0⟩:=by
 unfold iH at h;split at h
 · exact absurd rfl h.2
 rename_i m r a;obtain ⟨_,rfl,rfl⟩:=h;exact ⟨_,a,rfl⟩
theorem iH.err {s':RS} (h:iH l s e s') (he:e≠0):jD l=.error e:=by
 unfold iH at h;split at h
 · rename_i b a;rw [a,h.1]
 exact absurd h.1 he
def YJ (k:Int) (l:List UInt8) (B pv:Nat) (er:Int) (s':RS) (w':World):Prop :=
 match oG k l with
 | .error e0=>er=e0/\er≠0
 | .ok (g,r)=>er=0/\s'=⟨r,0⟩/\∃ v1 v2,Blk w' pv 51 #[.int .i64 k,.int .i64 0,.string ⟨#[]⟩,v1,v2] /\
    w'.ownsRow B 2 1 v1 g.nums.length (g.nums.map (Value.int .i64))/\w'.ownsRow B 9 1 v2 g.texts.length (g.texts.map Value.string)
theorem Zmw {pv:Nat} (h:Rdr w F r ⟨l,0⟩) (hF:¬ F r) (hl:l.length<=140737488355328) (kind:Int) (ac:4<kind) (hk:kind<=8)
 (hv:Blk w pv 51 #[.int .i64 kind,.int .i64 0,.string ⟨#[]⟩,.slice none 0 0,.slice none 0 0]) (a9:pv≠r) (aa:¬ F pv) (ab:∀ b,F b->b<w.heap.size):
 Calls Tryz.prog 218 #[.pointer (some ⟨r,0,none⟩),.pointer (some ⟨pv,0,none⟩)] w fun e w'=>∃ (er:Int) (s':RS),e=.returned (.int .i64 er)/\YJ kind l w.heap.size pv er s' w'/\Rdr w' F r s'/\Upd (fun b=>b=r\/b=pv) w w':=by
 have HR:=qH h;clear h;cases hlc:l with
 | nil =>
   subst hlc;have HP:Hid (oG kind []=.error 10):=qH rfl;have W:=gH HR.out hF 1;have hx:=XN (l:=[]) (k:=1) rfl qS;rw [show ((1:Nat):Int)=1 from rfl] at hx;rw [hx] at W;have HM:=qH W;clear W hx;go_enter Tryz.func218,Tryz.ntmps218;go_wp2_with fail;refine HM.mono ?_;rintro e w1 ⟨rfl,Z,T⟩;have f:=qH Z;have o:=qH (T.mono (S':=fun b=>b=r\/b=pv) fun _ _ a=>.inl a);clear Z T;go_wp2_with fail;refine (bG f).mono ?_;rintro e w2 ⟨rfl,rfl⟩;go_wp2;go_ret;exact ⟨_,_,rfl,by unfold YJ;rw [HP.out];exact ⟨rfl,qD⟩,f,o⟩
 | cons c l =>
   subst hlc;have HP:=qH (show oG kind (c::l)=if 40<c.toNat then .error 45
    else if kind=8 then match wC jD c.toNat l with
     | .error e=>.error e
     | .ok (B,r)=>.ok (⟨kind,0,⟨#[]⟩,[],B⟩,r)
    else match wC (pNum (kind-4)) c.toNat l with
     | .error e=>.error e
     | .ok (B,r)=>.ok (⟨kind,0,⟨#[]⟩,B,[]⟩,r) from rfl)
   have W:=gH HR.out hF 1;have hx:=YN (l:=c::l) (k:=1) rfl qS;rw [show ((1:Nat):Int)=1 from rfl] at hx;rw [hx] at W;have a2:be ((c::l).take 1)=c.toNat:=by simp [be]
   rw [a2] at W;have HM:=qH W;have hc:=c.toNat_lt;have a3:l.length<=140737488355328:=by simp at hl;omega
   clear W hx a2 hl;generalize c.toNat=N at *;by_cases X:40<N
   · have P:=qH (HP.trans (gA X));go_enter Tryz.func218,Tryz.ntmps218;go_wp2_with fail;refine HM.mono ?_;rintro e w1 ⟨rfl,Z,T⟩;have f:=qH Z;have o:=qH (T.mono (S':=fun b=>b=r\/b=pv) fun _ _ a=>.inl a);clear Z T;go_wp2_with fail;refine (bG f).mono ?_;rintro e w2 ⟨rfl,rfl⟩;go_wp2;go_ret;exact ⟨_,_,rfl,by unfold YJ;rw [P.out];exact ⟨rfl,qD⟩,f,o⟩
   have P:=qH (HP.trans (aA X));go_enter Tryz.func218,Tryz.ntmps218;go_wp2_with fail;refine HM.mono ?_;rintro e w1 ⟨rfl,Z,T⟩;have f:=qH (show Rdr w1 F r ⟨l,0⟩ from Z);have o:=qH (T.mono (S':=fun b=>b=r\/b=pv) fun _ _ a=>.inl a);have R:=hv.upd T a9;clear Z T;go_wp2_with fail;refine (bG f).mono ?_;rintro e w2 ⟨rfl,rfl⟩;by_cases Y:kind=8
   · have C:=qH (P.trans (gA Y));have a6:(kind==8)=true:=by simpa using Y
     have H8:=qH Y;have D:=f.lt;have E:=o.size;clear Y;go_wp2
     go_loopw [22] (fun i wr=>∃ (s:Nat) (B:List ByteArray) (rest:List UInt8) (v:Value),s<=N/\i=.int .i64 s/\Hid (Pre jD N l s B rest)/\Hid (Rdr wr F r ⟨rest,0⟩) /\
      Hid (Blk wr pv 51 #[.int .i64 kind,.int .i64 0,.string ⟨#[]⟩,.slice none 0 0,v])/\Hid (wr.ownsRow w.heap.size 9 1 v s (B.map Value.string))/\Hid (Upd (fun b=>b=r\/b=pv) w wr)) (fun i _=>N-(intOf i).toNat)
     case atStart=>exact ⟨0,[],l,_,oA _,rfl,qH (Pre.zero _ _ _),f,qH R,qH (iC _ _ _ _),o⟩
     obtain ⟨s,B,rest,v,hi,rfl,L,JR,U,JO,V⟩:=hrel;clear R f o D E;have D:=U.lt;have E:=V.size;have e0:=U.c0;by_cases G:s<N
     · have a0:=JR;have a4:rest.length<=140737488355328:=tA L.short a3;go_wp2_with fail;refine (TW a0 hF a4).mono ?_;rintro e w3 ⟨x,er,s',rfl,p,M,y⟩;have t:=qH p;have u:=qH M;have q:=qH y;have a5:=y.size;clear p M y;by_cases S:er=0
       · subst S;have j:=qH (U.upd q a9);have d:=qH (GA JO q fun g z a=>by obtain ⟨A,n,c,O,_⟩:=JR.out;exact O.ne_own JO qD (a ▸ z))
         obtain ⟨A,m,c,rfl⟩:=DE d.out;have H:=qH (j.ne_own d qD);have b4:=j.c4;go_wp2_with (at_builtin;go_must (refine XD rfl (.tmp 41) (.tmp 43) _ _ rfl w.heap.size 9 1 16 _ mI PN rfl (.slice A m c) s _ rfl (d.alloc _) rfl (GD mI (tI _ _ _) (by simp [Value.oneCell'])) qM qO qP ?_);intro v' w4 z;obtain ⟨A',m',c',rfl⟩:=DE z.own;have s1:w4.cell? ⟨pv,4,none⟩=some (.slice A m c):=(z.blk (j.alloc _) H).cell 4;have s2:w4.frozen? ⟨pv,4,none⟩=false:=(z.blk (j.alloc _) H).frozen 4;have HG:=qH z;clear z)
         go_roundw
         case rel =>
          obtain ⟨f1,f2,f3⟩:=aH (i:=4) j.out d.out qD ((eA _ w3).alloc _) HG.out;obtain ⟨r2,hp,rfl⟩:=t.ok;refine ⟨s+1,B++[x],r2,_,qO,qN,qH (L.next G hp (xS hp)),qH (u.upd f3 ?_ ?_),qH f1,qH (by rw [DB];exact f2),qH ((V.trans (q.mono (S':=fun b=>b=r\/b=pv) fun _ _ a=>.inl a) fun _ _ a=>a).trans f3 ?_)⟩
          · rintro (a | a)
            · exact a9 a.symm
            obtain ⟨A0,n0,c0,a1,_⟩:=u.out;exact a1.ne_own d qD a
          · rintro b O (a | a)
            · exact aa (a ▸ O)
            have:=ab b O;have:=(d.lt b a).1;omega
          rintro b O (a | a)
          · exact .inr a
          have:=(d.lt b a).1;omega
         case measure=>simp [intOf];omega
       have a7:(er != 0)=true:=by simpa using S
       have HZ:=qH S;clear S;go_wp2;go_ret;refine ⟨er,s',rfl,?_,u,V.trans (q.mono (S':=fun b=>b=r\/b=pv) fun _ _ a=>.inl a) fun _ _ a=>a⟩;unfold YJ;rw [C.out,L.stop G (t.err HZ)];exact ⟨rfl,HZ⟩
     have I:s=N:=qO;have HD:=qH (L.done I);clear I;go_wp2;go_ret;refine ⟨0,_,rfl,?_,JR,V⟩;unfold YJ;rw [C.out,HD.out];exact ⟨rfl,rfl,⟨.slice none 0 0,_,U,iC _ _ _ _,by have h1:=JO.out;rw [<- L.len] at h1;exact h1⟩⟩
   have C:=qH (P.trans (aA Y));have a6:(kind==8)=false:=by simpa using Y
   have H8:=qH Y;have a8:=qH (show DC kind=kind-4 from by unfold DC;rw [gA ac]);have D:=f.lt;have E:=o.size;clear Y;go_wp2
   go_loopw [22] (fun i wr=>∃ (s:Nat) (B:List Int) (rest:List UInt8) (v:Value),s<=N/\i=.int .i64 s/\Hid (Pre (pNum (kind-4)) N l s B rest)/\Hid (Rdr wr F r ⟨rest,0⟩) /\
    Hid (Blk wr pv 51 #[.int .i64 kind,.int .i64 0,.string ⟨#[]⟩,v,.slice none 0 0])/\Hid (wr.ownsRow w.heap.size 2 1 v s (B.map (Value.int .i64)))/\Hid (Upd (fun b=>b=r\/b=pv) w wr)) (fun i _=>N-(intOf i).toNat)
   case atStart=>exact ⟨0,[],l,_,oA _,rfl,qH (Pre.zero _ _ _),f,qH R,qH (iC _ _ _ _),o⟩
   obtain ⟨s,B,rest,v,hi,rfl,L,JR,U,JO,V⟩:=hrel;clear R f o D E;have D:=U.lt;have E:=V.size;have e0:=U.c0;by_cases G:s<N
   · have a0:=JR;have a4:rest.length<=140737488355328:=tA L.short a3;go_wp2_with fail;refine (SW a0 hF kind qO qO).mono ?_;rintro e w3 ⟨x,er,s',rfl,p,M,y⟩;rw [a8.out] at p;have t:=qH p;have u:=qH M;have q:=qH y;have a5:=y.size;clear p M y;by_cases S:er=0
     · subst S;have j:=qH (U.upd q a9);have d:=qH (GA JO q fun g z a=>by obtain ⟨A,n,c,O,_⟩:=JR.out;exact O.ne_own JO qD (a ▸ z))
       obtain ⟨A,m,c,rfl⟩:=DE d.out;have H:=qH (j.ne_own d qD);have b3:=j.c3;go_wp2_with (at_builtin;go_must (refine XD rfl (.tmp 63) (.tmp 65) _ _ rfl w.heap.size 2 1 8 _ ZM kW rfl (.slice A m c) s _ rfl (d.alloc _) rfl (GD ZM (tI _ _ _) (by simp [Value.oneCell'])) qM qO qP ?_);intro v' w4 z;obtain ⟨A',m',c',rfl⟩:=DE z.own;have s1:w4.cell? ⟨pv,3,none⟩=some (.slice A m c):=(z.blk (j.alloc _) H).cell 3;have s2:w4.frozen? ⟨pv,3,none⟩=false:=(z.blk (j.alloc _) H).frozen 3;have HG:=qH z;clear z)
       go_roundw
       case rel =>
        obtain ⟨f1,f2,f3⟩:=aH (i:=3) j.out d.out qD ((eA _ w3).alloc _) HG.out;obtain ⟨r2,hp,rfl⟩:=t.ok;refine ⟨s+1,B++[x],r2,_,qO,qN,qH (L.next G hp (wS hp)),qH (u.upd f3 ?_ ?_),qH f1,qH (by rw [DB];exact f2),qH ((V.trans (q.mono (S':=fun b=>b=r\/b=pv) fun _ _ a=>.inl a) fun _ _ a=>a).trans f3 ?_)⟩
        · rintro (a | a)
          · exact a9 a.symm
          obtain ⟨A0,n0,c0,a1,_⟩:=u.out;exact a1.ne_own d qD a
        · rintro b O (a | a)
          · exact aa (a ▸ O)
          have:=ab b O;have:=(d.lt b a).1;omega
        rintro b O (a | a)
        · exact .inr a
        have:=(d.lt b a).1;omega
       case measure=>simp [intOf];omega
     have a7:(er != 0)=true:=by simpa using S
     have HZ:=qH S;clear S;go_wp2;go_ret;refine ⟨er,s',rfl,?_,u,V.trans (q.mono (S':=fun b=>b=r\/b=pv) fun _ _ a=>.inl a) fun _ _ a=>a⟩;unfold YJ;rw [C.out,L.stop G (t.err HZ)];exact ⟨rfl,HZ⟩
   have I:s=N:=qO;have HD:=qH (L.done I);clear I;go_wp2;go_ret;refine ⟨0,_,rfl,?_,JR,V⟩;unfold YJ;rw [C.out,HD.out];exact ⟨rfl,rfl,⟨_,.slice none 0 0,U,by have h1:=JO.out;rw [<- L.len] at h1;exact h1,iC _ _ _ _⟩⟩
theorem Rdr.mono {F':Nat->Prop} {s:RS} (h:Rdr w F r s) (hf:∀ b,b<w.heap.size->F b->F' b):Rdr w F' r s:=by obtain ⟨A,n,c,a,d⟩:=h;exact ⟨A,n,c,a,d.mono hf⟩
theorem Zmx (n:Nat) (h:n<9223372036854775808):IntKind.i64.wrap (n:Int)=n:=by simp [IntKind.wrap,IntKind.bits,IntKind.signed];omega
theorem Rdr.drew {s:RS} (h:Rdr w F r s):Rdr w.drew F r s:=h.same (eA _ w).drew
theorem Rdr.drew_put5 {s:RS} (h:Rdr w F r s) (hr:r≠B) (hf:∀ b,F b->b≠B) (u0 u1 u2 u3 u4:Value):Rdr (put5 w.drew B u0 u1 u2 u3 u4) F r s :=
 h.upd (((eA (fun b=>b=B) w).drew).put5 u0 u1 u2 u3 u4) hr hf
def SwRes (w:World) (F:Nat->Prop) (r pv:Nat) (l:List UInt8) (er:Int) (wx:World):Prop :=
 Same w wx/\Blk wx w.heap.size 51 #[.int .i64 0,.int .i64 0,.string ⟨#[]⟩,.slice none 0 0,.slice none 0 0] /\
 (er≠0/\pVal l=.error er\/er=0/\∃ g rest v1 v2,pVal l=.ok (g,rest)/\Rdr wx F r ⟨rest,0⟩/\Blk wx pv 51 #[.int .i64 g.kind,.int .i64 g.num,.string g.text,v1,v2] /\
   wx.ownsRow w.heap.size 2 1 v1 g.nums.length (g.nums.map (Value.int .i64))/\wx.ownsRow w.heap.size 9 1 v2 g.texts.length (g.texts.map Value.string))
theorem zT {nn:Int} (h2:tmps.getD 2 undef=.pointer (some ⟨B,0,none⟩)) (h3:tmps.getD 3 undef=.int .i64 nn) (h4:tmps.getD 4 undef=.int .i64 ee)
 (hb:Blk wE B 51 #[a0,a1,a2,a3,a4]) (hR:R (.returned (.tuple #[.agg #[u0,u1,u2,u3,u4],.int .i64 nn,.int .i64 ee])) (put5 wE B u0 u1 u2 u3 u4)):
 bodyPost Tryz.prog Tryz.f197 R Exit.ret ⟨tmps,[]⟩ (put5 wE B u0 u1 u2 u3 u4):=by
 obtain ⟨a,b,c,d,e⟩:=(hb.put5 u0 u1 u2 u3 u4).five;generalize put5 wE B u0 u1 u2 u3 u4=W at *;refine LD (v:=.tuple #[.agg #[u0,u1,u2,u3,u4],.int .i64 nn,.int .i64 ee]) ?_ rfl hR;simp only [LF] at h2 h3 h4;simp [results,Tryz.results197,go_sem,h2,h3,h4,a,b,c,d,e]
theorem Zof (w:World) (hb:pA w F A n c bs) (P:GVal×Nat×Int) (hP:decP (bs.take 40082)=P):
 Calls Tryz.prog 197 #[.slice A n c] w fun e w'=>∃ v,e=.returned (.tuple #[v,.int .i64 (P.2.1:Int),.int .i64 P.2.2])/\cJ w' w.heap.size v P.1/\Same w w':=by
 have HB:=qH hb;have HP:=qH hP;have am:=Row.le hb;have ab:=Row.max hb;unfold maxLen at ab;clear hb hP;go_enter Tryz.func197,Tryz.ntmps197;go_upto_if 12 with fail;go_cut [0] from 9 (fun x wx=>wx=w.alloc (.cells #[.int .i64 0,.int .i64 0,.string ⟨#[]⟩,.slice none 0 0,.slice none 0 0] 51)/\∃ n',x=.slice A n' c/\n'<=40082/\Hid (pA w F A n' c (bs.take 40082)))
 case first =>
  by_cases b5:40082<n
  · go_wp2;go_meet
    case rel=>exact ⟨rfl,_,rfl,lA _,qH (HB.head qO)⟩
  go_wp2;go_meet
  case rel=>exact ⟨rfl,_,rfl,qO,qH (by rw [cB (by rw [HB.len];omega)];exact HB)⟩
 obtain ⟨rfl,m,rfl,hm,HX⟩:=hcut;have HL:=qH HX.len;generalize bs.take 40082=l at *;have a1:=(iA w).alloc (.cells #[.int .i64 0,.int .i64 0,.string ⟨#[]⟩,.slice none 0 0,.slice none 0 0] 51);have ac:=jA w 51 #[.int .i64 0,.int .i64 0,.string ⟨#[]⟩,.slice none 0 0,.slice none 0 0];have ad:=qH (HX.same a1);clear HB am ab;go_wp2_with fail;refine (gM ad qO).mono ?_;rintro e w1 ⟨r,rfl,ax,hr,a6⟩;have O:=a1.same a6;have V:=ac.same a6;rw [aB] at ax;have HR:=qH (Rdr.mono (F':=fun b=>w.heap.size+1<=b/\b≠r/\b<w1.heap.size) hr fun b ay hb=>⟨by have:=hb.1;simpa using this,hb.2,ay⟩);have bc:=hr.lt;clear a1 ac a6 ad hr;have h:=gH HR.out (fun X=>X.2.1 rfl) 1;cases hl:l with
 | nil =>
   subst hl;have HD:=qH (HP.symm.trans (FN (l:=[]) rfl));have hx:=XN (l:=[]) (k:=1) rfl qS;rw [show ((1:Nat):Int)=1 from rfl] at hx;rw [hx] at h;have HN:=qH h;clear h hx HP;go_wp2_with fail;refine HN.mono ?_;rintro e G ⟨rfl,T,y⟩;have i:Same w (G.alloc (.cells #[.int .i64 0,.int .i64 0,.string ⟨#[]⟩,.slice none 0 0,.slice none 0 0] 51)):=(O.trans y fun b hb H=>qO).alloc _;have d:=(V.upd y qO).alloc (.cells #[.int .i64 0,.int .i64 0,.string ⟨#[]⟩,.slice none 0 0,.slice none 0 0] 51);have D:=qH (T.same ((eA _ G).alloc (.cells #[.int .i64 0,.int .i64 0,.string ⟨#[]⟩,.slice none 0 0,.slice none 0 0] 51)));clear O V y T;go_wp2_with fail;refine (bG D).mono ?_;rintro e w3 ⟨rfl,rfl⟩;obtain ⟨b0,b1,b2,b3,b4⟩:=d.five;obtain ⟨z0,z1,z2,z3,z4⟩:=d.five_free;go_wp2;exact zT rfl rfl rfl d ⟨_,by rw [HD.out];rfl,by rw [HD.out];exact ⟨_,_,rfl,iC _ _ _ _,iC _ _ _ _⟩,i.trans (Upd.put5 (eA _ _) _ _ _ _ _) fun b hb H=>qO⟩
 | cons cc l0 =>
   subst hl;have hx:=YN (l:=cc::l0) (k:=1) rfl qS;rw [show ((1:Nat):Int)=1 from rfl,show be ((cc::l0).take 1)=cc.toNat from by simp [be],List.drop_one,xP] at hx;rw [hx] at h;have HN:=qH h;have ae:=qH (show pVal (cc::l0)=if cc.toNat<1\/8<cc.toNat then .error 40
    else if 4<cc.toNat then oG cc.toNat l0
    else if cc.toNat=4 then match jD l0 with
     | .error e=>.error e
     | .ok (s,r)=>.ok (⟨4,0,s,[],[]⟩,r)
    else match pNum cc.toNat l0 with
     | .error e=>.error e
     | .ok (n,r)=>.ok (⟨cc.toNat,n,⟨#[]⟩,[],[]⟩,r) from rfl)
   have bd:=cc.toNat_lt;have an:l0.length+1=m:=by rw [<- HL.out];rfl
   have bf:l0.length<=40081:=qO;clear h hx an;generalize cc.toNat=N at *;go_wp2_with fail;refine HN.mono ?_;rintro e G ⟨rfl,T,y⟩;have i:Same w (G.alloc (.cells #[.int .i64 N,.int .i64 0,.string ⟨#[]⟩,.slice none 0 0,.slice none 0 0] 51)):=(O.trans y fun b hb H=>qO).alloc _;have d:=(V.upd y qO).alloc (.cells #[.int .i64 N,.int .i64 0,.string ⟨#[]⟩,.slice none 0 0,.slice none 0 0] 51);have j:=jA G 51 #[.int .i64 N,.int .i64 0,.string ⟨#[]⟩,.slice none 0 0,.slice none 0 0];have D:=qH (T.same ((eA _ G).alloc (.cells #[.int .i64 N,.int .i64 0,.string ⟨#[]⟩,.slice none 0 0,.slice none 0 0] 51)));have b6:=y.size;have b7:=O.size;clear O V y T;go_wp2_with fail;refine (bG D).mono ?_;rintro e w3 ⟨rfl,rfl⟩
   go_upto_block 0 with fail
   have b8:w.heap.size<G.heap.size:=qO;have bg:r<G.heap.size:=qO;have R:G.heap.size≠r:=qO;go_cut [8] from 9 (fun s8 wx=>∃ U:Int,s8=.int .i64 U/\Hid (SwRes w (fun b=>w.heap.size+1<=b/\b≠r/\b<w1.heap.size) r G.heap.size (cc::l0) U wx))
   case first =>
    have c0:World.cell? _ ⟨G.heap.size,0,none⟩=some (.int .i64 N):=j.cell 0;by_cases ha:N<1\/8<N
    · have HV:=qH (ae.trans (gA ha));rcases ha with ha | ha
      · go_wp2;go_meet
        case rel=>exact ⟨40,rfl,qH ⟨i,d,.inl ⟨qD,HV⟩⟩⟩
      go_wp2;go_meet
      case rel=>exact ⟨40,rfl,qH ⟨i,d,.inl ⟨qD,HV⟩⟩⟩
    have af:=qH (ae.trans (aA ha));by_cases h4:4<N
    · have W:=qH (af.trans (gA h4));go_wp2_with fail;refine (Zmw D (fun X=>X.2.1 rfl) qO (N:Int) qO qO j R (fun X=>qt X.2.2) (fun b hb=>by simp;have:=hb.2.2;omega)).mono ?_;rintro e w4 ⟨U,s',rfl,a,z,f⟩;have p:=qH a;have S:=qH z;have q:=qH f;clear a z f;go_wp2;go_meet;refine ⟨U,rfl,qH ⟨i.trans q.out fun b hb H=>qO,d.upd q.out qO,?_⟩⟩;have u:=p.out;unfold YJ at u;rw [W.out];split at u
      · rename_i e0 M;left;exact ⟨u.2,by rw [M,u.1]⟩
      rename_i g rest M;right;obtain ⟨rfl,rfl,v1,v2,q1,q2,q3⟩:=u;obtain ⟨t1,t2,t3⟩:=ZnP M;refine ⟨rfl,g,rest,v1,v2,M,S,?_,RA q2 qP,RA q3 qP⟩;rw [t1,t2,t3];exact q1
    have W:=qH (af.trans (aA h4));by_cases a2:N=4
    · have a3:=qH (W.trans (gA a2));subst a2;obtain ⟨_,_,c2,_,_⟩:=j.five;have a4:=qH j;clear j;go_wp2_with fail;refine (TW D (fun X=>X.2.1 rfl) qO).mono ?_;rintro e w4 ⟨x,U,s',rfl,a,z,f⟩;have p:=qH a;have S:=qH z;have q:=qH f;have o:=a4.upd f R;have k2:=o.c2;have z2:=o.frozen 2;have a5:=qH o;clear a z f o c2;go_wp2;go_meet;have E:Upd (fun b=>b=G.heap.size) w4 (w4.setCell ⟨G.heap.size,2,none⟩ (.string x)):=(eA _ w4).put1 _;refine ⟨U,rfl,qH ⟨(i.trans q fun b hb H=>qO).trans E fun b hb H=>qO,(d.upd q qO).upd E qO,?_⟩⟩;have u:=p.out;unfold iH at u;rw [a3.out];split at u
      · rename_i e0 M;left;exact ⟨u.2,by rw [M,u.1]⟩
      rename_i t rest M;right;obtain ⟨rfl,rfl,rfl⟩:=u;refine ⟨rfl,_,rest,_,_,by rw [M],S.upd E (fun H=>R H.symm) (fun b hb H=>qt hb.2.2),a5.put 2 _,iC _ _ _ _,iC _ _ _ _⟩
    have a3:=qH (W.trans (aA a2));have b9:((N:Int)==4)=false:=by rw [WC];omega
    have a4:=qH j;clear j;go_wp2_with fail;refine (SW D (fun X=>X.2.1 rfl) (N:Int) qO qO).mono ?_;rintro e w4 ⟨x,U,s',rfl,a,z,f⟩;rw [show DC (N:Int)=N from by unfold DC;rw [aA qO]] at a;have p:=qH a;have S:=qH z;have q:=qH f;have o:=a4.upd f R;have k2:=o.c1;have z2:=o.frozen 1;have a5:=qH o;clear a z f o c0;go_wp2;go_meet;have E:Upd (fun b=>b=G.heap.size) w4 (w4.setCell ⟨G.heap.size,1,none⟩ (.int .i64 x)):=(eA _ w4).put1 _;refine ⟨U,rfl,qH ⟨(i.trans q fun b hb H=>qO).trans E fun b hb H=>qO,(d.upd q qO).upd E qO,?_⟩⟩;have u:=p.out;unfold rG at u;rw [a3.out];split at u
    · rename_i e0 M;left;exact ⟨u.2,by rw [M,u.1]⟩
    rename_i t rest M;right;obtain ⟨rfl,rfl,rfl⟩:=u;refine ⟨rfl,_,rest,_,_,by rw [M],S.upd E (fun H=>R H.symm) (fun b hb H=>qt hb.2.2),a5.put 1 _,iC _ _ _ _,iC _ _ _ _⟩
   obtain ⟨U,rfl,a7⟩:=hcut;obtain ⟨I,C,a8⟩:=a7.out;rcases a8 with ⟨a0,L⟩ | ⟨rfl,g,rest,v1,v2,L,ai,aj,Y,Z⟩
   · have HD:=qH (HP.symm.trans (FN L));have ba:(U != 0)=true:=by simpa using a0
     obtain ⟨b0,b1,b2,b3,b4⟩:=C.five;obtain ⟨z0,z1,z2,z3,z4⟩:=C.five_free;clear d j i I L a0;go_wp2;exact zT rfl rfl rfl C ⟨_,by rw [HD.out];rfl,by rw [HD.out];exact ⟨_,_,rfl,iC _ _ _ _,iC _ _ _ _⟩,a7.1.trans (Upd.put5 (eA _ _) _ _ _ _ _) fun b hb H=>qO⟩
   have HD:=qH (HP.symm.trans (GN L));obtain ⟨A1,m1,q1,rfl⟩:=DE Y;obtain ⟨A2,m2,q2,rfl⟩:=DE Z;have ao:=qH (C.ne_own Y qD);have ap:=qH (C.ne_own Z qD);have aq:=qH Y;have ar:=qH Z;have ag:=qH ai;have au:=qH I;have bb:rest.length<=m:=by have h1:=tV L;have h2:=HL.out;omega
   obtain ⟨a9,ak,aa,az,al⟩:=g;simp only at aj;clear d j i I L Y Z ai a7;obtain ⟨b0,b1,b2,b3,b4⟩:=C.five;obtain ⟨z0,z1,z2,z3,z4⟩:=C.five_free;obtain ⟨k0,k1,k2,k3,k4⟩:=aj.five;go_upto_region 17 with fail;have av:=qH ag.drew;have ah:=qH (ag.drew_put5 (B:=w.heap.size) qO (fun b hb=>qt hb.1) (.int .i64 a9) (.int .i64 ak) (.string aa) (.slice A1 m1 q1) (.slice A2 m2 q2));clear D;go_region_with (go_at_call 221;first | refine (PW av).mono ?_ | refine (PW ah).mono ?_;rintro e w' ⟨rfl,rfl⟩)
   all_goals go_wp2
   all_goals have aw:=C.drew
   all_goals have hn:((m:Int)-rest.length)=(((cc::l0).length-rest.length:Nat):Int):=by rw [HL.out];omega
   all_goals have hq:(cc::l0).length-rest.length<9223372036854775808:=by rw [HL.out];omega
   all_goals exact zT (wE:=wc.drew) rfl rfl rfl aw ⟨_,by rw [HD.out,hn,Zmx _ hq],by rw [HD.out];exact ⟨_,_,rfl,GA aq ((eA (fun b=>b=w.heap.size) wc).drew.put5 _ _ _ _ _) (fun g hg e=>ao.out (e ▸ hg)),GA ar ((eA (fun b=>b=w.heap.size) wc).drew.put5 _ _ _ _ _) (fun g hg e=>ap.out (e ▸ hg))⟩,au.trans ((eA (fun b=>b=w.heap.size) wc).drew.put5 _ _ _ _ _) fun b hb H=>qO⟩
theorem cJ.none (w:World) (B:Nat):cJ w B (.agg #[.int .i64 0,.int .i64 0,.string ⟨#[]⟩,.slice none 0 0,.slice none 0 0]) IP :=
 ⟨_,_,rfl,iC _ _ _ _,iC _ _ _ _⟩
theorem AT (h2:tmps.getD 2 undef=.pointer (some ⟨B,0,none⟩)) (h3:tmps.getD 3 undef=.int .i64 ee)
 (hb:Blk wE B 51 #[a0,a1,a2,a3,a4]) (hR:R (.returned (.tuple #[.agg #[u0,u1,u2,u3,u4],.int .i64 ee])) (put5 wE B u0 u1 u2 u3 u4)):
 bodyPost Tryz.prog Tryz.f171 R Exit.ret ⟨tmps,[]⟩ (put5 wE B u0 u1 u2 u3 u4):=by
 obtain ⟨a,b,c,d,e⟩:=(hb.put5 u0 u1 u2 u3 u4).five;generalize put5 wE B u0 u1 u2 u3 u4=W at *;refine LD (v:=.tuple #[.agg #[u0,u1,u2,u3,u4],.int .i64 ee]) ?_ rfl hR;simp only [LF] at h2 h3;simp [results,Tryz.results171,go_sem,h2,h3,a,b,c,d,e]
theorem Zog (w:World) (hb:pA w F A n c bs) (D:GVal×Int) (hD:decD n (decP (bs.take 40082))=D):
 Calls Tryz.prog 171 #[.slice A n c] w fun e w'=>∃ v,e=.returned (.tuple #[v,.int .i64 D.2])/\cJ w' w.heap.size v D.1/\Same w w':=by
 have HB:=qH hb;have a0:=Row.le hb;have O:=Row.max hb;unfold maxLen at O;have R:=qH hD;clear hb hD;go_enter Tryz.func171,Tryz.ntmps171;have j:=(iA w).alloc (.cells #[.int .i64 0,.int .i64 0,.string ⟨#[]⟩,.slice none 0 0,.slice none 0 0] 51);have q:=jA w 51 #[.int .i64 0,.int .i64 0,.string ⟨#[]⟩,.slice none 0 0,.slice none 0 0];have W:=qH (HB.same j);go_wp2_with fail;refine (Zof _ W _ rfl).mono ?_;rintro e Y ⟨v,rfl,⟨v1,v2,rfl,d,f⟩,h⟩;have r:=j.same h;have s:=q.same h;have S:=h.size;rw [aB] at d f S;clear j q h;generalize decP (bs.take 40082)=P at *;obtain ⟨⟨C,E,gt,a2,a3⟩,k,Z⟩:=P;simp only at d f;obtain ⟨G,H,I,rfl⟩:=DE d;obtain ⟨L,M,N,rfl⟩:=DE f;have t:=r.alloc (.cells #[.int .i64 C,.int .i64 E,.string gt,.slice G H I,.slice L M N] 51);have a:=s.alloc (.cells #[.int .i64 C,.int .i64 E,.string gt,.slice G H I,.slice L M N] 51);have u:=jA Y 51 #[.int .i64 C,.int .i64 E,.string gt,.slice G H I,.slice L M N];have T:=(iA Y).alloc (.cells #[.int .i64 C,.int .i64 E,.string gt,.slice G H I,.slice L M N] 51);have l:=GA d T qf;have m:=GA f T qf;have x:=qH (a.ne_own l qD);have y:=qH (a.ne_own m qD);have z:=qH (RA l (aN _));have B:=qH (RA m (aN _));have U:=qH t;clear d f l m r t s T W;obtain ⟨b0,b1,b2,b3,b4⟩:=a.five;obtain ⟨z0,z1,z2,z3,z4⟩:=a.five_free;obtain ⟨k0,k1,k2,k3,k4⟩:=u.five;clear u;by_cases V:Z=0
 · subst V;by_cases X:k<n
   · have i:=qH (R.symm.trans (gA ⟨rfl,X⟩));go_wp2;exact AT rfl rfl a ⟨_,by rw [i.out],by rw [i.out];exact cJ.none _ _,U.trans ((eA (fun b=>b=w.heap.size) _).put5 _ _ _ _ _) fun b hb p=>qO⟩
   have i:=qH (R.symm.trans (aA (fun p=>X p.2)));go_wp2;exact AT rfl rfl a ⟨_,by rw [i.out],by rw [i.out];exact ⟨_,_,rfl,GA z.out ((eA (fun b=>b=w.heap.size) _).put5 _ _ _ _ _) (fun g o e=>x.out (e ▸ o)),GA B ((eA (fun b=>b=w.heap.size) _).put5 _ _ _ _ _) (fun g o e=>y.out (e ▸ o))⟩,U.trans ((eA (fun b=>b=w.heap.size) _).put5 _ _ _ _ _) fun b hb p=>qO⟩
 have i:=qH (R.symm.trans (aA (fun p=>V p.1)));have a1:(Z==0)=false:=by rw [WC];exact V
 go_wp2;exact AT rfl rfl a ⟨_,by rw [i.out],by rw [i.out];exact ⟨_,_,rfl,GA z ((eA (fun b=>b=w.heap.size) _).put5 _ _ _ _ _) (fun g o e=>x.out (e ▸ o)),GA B ((eA (fun b=>b=w.heap.size) _).put5 _ _ _ _ _) (fun g o e=>y.out (e ▸ o))⟩,U.trans ((eA (fun b=>b=w.heap.size) _).put5 _ _ _ _ _) fun b hb p=>qO⟩
end
section
open Go.ChangeShapes Go.WideShapes Go.ChangeAt Go.RowKit
abbrev dO:List (String×DataW Unit):=[("satchel/crc.nibble", Rows.laid_satchel_crc_nibble)]
theorem ZtW (os:Os) (args:Array Value):laidMetH Tryz.prog dO ((World.doorLaid Tryz.prog 400 os).forCall (fun _ _=>0) ⟨#[],args,[]⟩).memory :=
 laidMetH_of_parts3 (fuel:=8) (laidMet_of_run' 8 qK qK) qK qK
theorem ZvA:∀ i:Fin 16,(match (Rows.laid_satchel_crc_nibble:DataW Unit) with | .agg l=>l[i.val]? | _=>none)=(crcT[i.val]?).map fun t=>.lit (.int .u32 (t.toNat:Int)):=fun i=>by
 obtain ⟨i,a⟩:=i;rcases i with _ | _ | _ | _ | _ | _ | _ | _ | _ | _ | _ | _ | _ | _ | _ | _ | i
 all_goals first | rfl | omega
theorem Zoh (h:laidMetH Tryz.prog dO W):Nib W:=by
 rw [MakeChecks.laidMetH_plain _ _ _ qK] at h;obtain ⟨C,⟨D,E,a,F,G,H,d,l,m,n,_,_⟩,_,_⟩:=h;obtain rfl:=eB ((show Tryz.prog.globalNamed "satchel/crc.nibble" = some 0 by kernel_rfl).symm.trans d);obtain rfl:=eB ((show (Tryz.prog.globals[0]?).map (·.type)=some 281 by kernel_rfl).symm.trans l);obtain ⟨r,I,rfl,e,f,A,o⟩:=DataW.trod_array Tryz.underlying281 n;have v:Tryz.prog.cellsOf 197=1:=qK;have j:Tryz.prog.cellsOf 281=16:=qK;rw [j] at f;simp only [QI] at e;have b:∀ i,W.cell? ⟨0,i,none⟩=a[i]?:=fun i=>World.var?_cell d m i;have c:∀ (i:Nat) (t:BitVec 32),crcT[i]?=some t->W.cell? ⟨0,i,none⟩=some (.int .u32 (t.toNat:Int)):=fun i t s=>by
  have p:i<16:=(sC.1 s).1;have q:=o i p;rw [v,CL,FA qO] at q;obtain ⟨k,u,B,_⟩:=DataW.trod_int Tryz.underlying197 q;have g:=ZvA ⟨i,p⟩;simp only [s,VC] at g;have w:(Rows.laid_satchel_crc_nibble:DataW Unit)=.agg (r.map (·.1)):=e.1;rw [w] at g;simp only [MA,FA (show i<r.length by omega),VC,B,SE,DataW.lit.injEq,Lit.int.injEq,jI] at g;subst g;rw [b];have x:(a.toList.drop i).take 1=[a.toList[i]'(qO)]:=by rw [List.take_one,List.head?_drop,FA qO];rfl
  rw [x] at u;have y:a.toList[i]?=some (.int .u32 (t.toNat:Int)):=by rw [FA qO];exact tB some (lI u).1
  rw [<- xL];exact y
 refine ⟨?_,c⟩;have z:=c 0 _ rfl;exact block_lt_of_cell z
end
end Go.Proofs.YtmkjfhnlnhceiaaGreatDoor
