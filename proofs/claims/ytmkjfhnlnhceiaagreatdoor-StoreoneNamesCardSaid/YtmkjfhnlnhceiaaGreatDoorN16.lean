/- Texts that the claim leans on: walks and plain laws, function by function. -/
import Derived.Deep.OwnRows
import Derived.Test.YtmkjfhnlnhceiaaGreatDoorN09
import Derived.Test.YtmkjfhnlnhceiaaGreatDoorN15
set_option maxRecDepth 100000
set_option maxHeartbeats 16000000
namespace Go.Proofs.YtmkjfhnlnhceiaaGreatDoor
open Go.RowKit
theorem NewB.trans {w w1:World} {v v1 v2:Value} (hs:w.heap.size<=w1.heap.size) (h:NewB w v v1) (k:NewB w1 v1 v2):NewB w v v2:=by
 rcases k with k | ⟨g,k,m⟩
 · rcases h with h | h
   · exact .inl (k.trans h)
   exact .inr (by rw [k];exact h)
 exact .inr ⟨g,k,Yaj hs m⟩
abbrev YeI:=@NewB.trans
theorem NewB.same {w w1:World} {v v1:Value} (hu:Same w w1) (h:NewB w1 v v1):NewB w v v1:=YeI hu.size (.inl rfl) h
theorem Zau.row {w:World} {B:Nat} {v:Value} {d:List UInt8} (h:OwnB w B v d) (hd:0<d.length):∃ x:BS,v=.slice x.A x.n x.c/\x.data=d/\x.A≠none/\Zau w B x:=by obtain ⟨A,c,rfl⟩:=Zad h;refine ⟨⟨d,A,d.length,c⟩,rfl,rfl,fun b=>?_,Zau.of h rfl⟩;have a:=Yca h;have:=a.nil b;have:=a.le;omega
theorem ZfW {B f k vs z low:Nat} {v:Value} {l:List BS} {F:Nat->Prop} {A:Option Addr} {n c:Nat} {d:List UInt8} (w:World) (h:PF w B f k vs z v l low) (hB:B<=w.heap.size) (hd:Zag w F A n c d) (hdl:d.length+1=z) (id:Nat) (hid:id<65536) :
 Calls Tryz.prog 59 #[.pointer (some ⟨f,0,none⟩),.int .i64 (id:Int),.slice A n c] w fun e w'=>e=.returned (.int .i64 0) /\
  ∃ x v',x.data=d/\x.A≠none/\PF w' B f k vs z v' (ZiX l id x) low/\Upd (Foot f v) w w'/\NewB w v v':=by
 have H:n+1=z:=qt hd.len;have I:=h.size;have L:=h.blk.c2;have M:IntKind.i64.wrap ((z:Int)-1)=(n:Int):=qw;have N:¬ (id:Int)<0:=qO;have O:¬ (65536:Int)<=(id:Int):=qO;have t:=qH h;have u:=qH hd;have a:=qH hdl;clear h hd hdl;go_enter Tryz.func59,Tryz.ntmps59;go_wp2_with fail;refine (Zcv w u qO).mono ?_;rintro e G ⟨P,rfl,o,p⟩;obtain ⟨x,rfl,i,j,q⟩:=Zau.row o (qh a);have y:=qH (q.base hB);have b:=qH i;have g:=qH j;have m:=qH p;clear o p q i j;go_wp2_with fail;refine (ZiY G (t.same m) (Yaj hB m.size) x y g (by rw [b.out];exact a) id hid).mono ?_;rintro e R ⟨rfl,v',r,u3,s⟩;have C:=qH r;have D:=qH ((m.mono (S':=Foot f v) fun _ _ f=>f.elim).trans u3 fun _ _ h=>h);have E:=qH (NewB.same m s);clear r u3 s;go_wp2;go_ret;exact ⟨rfl,x,v',b,g,C,D,E⟩
theorem Zmc {P:Program} {w w':World} {ops:Array Oper} {o:Oper} {a:Act} {K:Act->World->Prop} {Q:Exit->Act->World->Prop} {E:Prop} (hgd:o.guard=none) (l c:Operand) (t:TypeId) (ho:o.op=Op.makeSlice t l c) {vl vc v:Value} (hl:a.eval l=vl) (hc:a.eval c=vc)
 (hr:(Instr.makeSlice t vl vc).run P w=.ok v w') (h:K (a.put o.dst v) w'):if Region.wanted o (yielded ops a.tmps)=true then Oper.wp P o a w K Q else E:=by
 have b:Region.wanted o (yielded ops a.tmps)=true:=by simp [Region.wanted,hgd]
 rw [Yac b];unfold Oper.wp execOp;simp only [ho,hl,hc,Sem.run_bind,hr,Result.andThen_ok,Sem.run_pure];exact h
theorem ZkV (w:World) {n:Nat} (hn:n<=maxLen):OwnB (w.alloc (.cells (madeCells #[Value.int .u8 0] n) 5)) w.heap.size (.slice (some ⟨w.heap.size,0,none⟩) n n) (ZaB n):=by
 have e:(madeCells #[Value.int .u8 0] n).toList=(ZaB n).map u8v:=by simp [madeCells,ZaB,u8v,YdT,List.map_const']
 refine ⟨by simp [ZaB],.inr ⟨w.heap.size,n,_,by simp [ZaB],Yae _,World.alloc_heap_new w _,by simp [ZaB],hn,by simp [madeCells],?_⟩⟩;rw [e];simp [ZaB]
theorem Zgx {B f k vs z low:Nat} {v:Value} {l:List BS} (w:World) (h:PF w B f k vs z v l low) (hB:B<=w.heap.size) (hall:∀ x∈l,x.A≠none) (hl:l.length<65536) :
 Calls Tryz.prog 95 #[.pointer (some ⟨f,0,none⟩)] w fun e w'=>e=.returned (.tuple #[.int .i64 (l.length:Int),.int .i64 0]) /\
  ∃ x v',x.data=ZaB (z-1)/\x.A≠none/\PF w' B f k vs z v' (l++[x]) l.length/\Upd (Foot f v) w w'/\NewB w v v':=by
 obtain ⟨A,c,rfl⟩:=Zad h.own.row;obtain ⟨n,hn⟩:∃ n,l.length=n:=⟨_,rfl⟩
 have hz:=h.size;have G:low<=n:=by
  rcases Yfy n low with X | X
  · obtain ⟨y,F,_⟩:=h.low n X;have:=(Yaq.1 F).1;omega
  exact X
 have HN:=qH hn;have HA:=qH hall;rw [hn] at h hl ⊢;have H0:=qH h;clear h hall hn;go_enter Tryz.func95,Tryz.ntmps95;go_wp2_with fail;go_loopg [] (n-low) (fun gh wr=>∃ i:Nat,n-i=gh/\low<=i/\i<=n/\Hid (PF wr B f k vs z (.slice A n c) l i)/\Hid (Upd (Foot f (.slice A n c)) w wr))
 case atStart=>exact ⟨low,rfl,Yae _,G,H0,qH (Yaa _ w)⟩
 obtain ⟨i,rfl,a5,a6,N,HU⟩:=hrel;have a0:=fun (w:World) (a:Option Addr) (n c:Nat)=>run_neq_slice_nil_any (P:=Tryz.prog) w 39 5 a n c 0 0 Tryz.underlying39;have q:=N.blk;have q5:=q.c5;have q3:=q.c3;have q2:=q.c2;have z5:=q.frozen 5;clear q;by_cases H:i<n
 · obtain ⟨b,o,x,rfl,s,O,D,hc⟩:=N.own.at_ HN H;obtain ⟨a,ha⟩:∃ a,x.A=some a:=by
    cases t:x.A with
    | none=>exact absurd t (HA.out x D)
    | some a=>exact ⟨a,rfl⟩
   have r:=qH (show ∃ y,l[i]?=some y/\y.A≠none from ⟨x,O,HA.out x D⟩);rw [ha] at hc;have j1:(i:Int)<(n:Int):=qO;have hd:decide ((i:Int)<(n:Int))=true:=YaV j1;have w1:IntKind.i64.wrap ((i:Int)+1)=(i:Int)+1:=YbO _ ⟨qO,qO⟩;clear O D ha;go_upto_region 1 with fail;go_quiet (fail);go_wp2;go_roundg (n-(i+1))
   case measure=>omega
   have uq:Upd (Foot f (.slice (some ⟨b,o,none⟩) n c)) wr ((wr.drewN nq).setCell ⟨f,5,none⟩ (.int .i64 ((i:Int)+1))):=((Yaa _ wr).drewN nq).setCell (p:=⟨f,5,none⟩) (.inl (.inl rfl)) _;have a1:Upd (fun b=>b=f) wr ((wr.drewN nq).setCell ⟨f,5,none⟩ (.int .i64 ((i:Int)+1))):=((Yaa _ wr).drewN nq).put1 _;have m:=N.out;have b2:=(m.blk.drewN nq).put 5 (.int .i64 ((i:Int)+1));simp only [Yal,Yap,Yam] at b2;have a8:f≠b:=by rintro rfl;exact m.blk.ne_own m.own.row qD rfl
   refine ⟨i+1,rfl,qO,qO,qH ⟨m.base,by rw [show (i:Int)+1=((i+1:Nat):Int) by omega] at b2;exact b2,⟨Zae m.own.row a1 fun g hg e=>?_,fun y F=>(m.own.each y F).foot m.blk m.own.row uq⟩,m.size,m.recs,m.len,fun j hj=>?_⟩,qH (HU.trans uq fun _ _ h=>h)⟩
   · subst e;exact m.blk.ne_own m.own.row qD hg
   by_cases a2:j=i
   · subst a2;exact r
   exact m.low j qO
 have a3:i=n:=qO;subst a3;have hd:decide ((i:Int)<(i:Int))=false:=YaM qO;clear a5 a6 H;go_upto_region 1 with fail;go_quiet (fail);have sq:Same wr (wr.drewN nq):=(Yaa _ wr).drewN nq;have U:=qH (N.same sq);have V:=qH (HU.same sq);clear N HU q5 q3 q2 z5 sq a0 hd;generalize wr.drewN nq=Z at *;have u:=U.blk;have q5:=u.c5;have q2:=u.c2;obtain ⟨y,F⟩:∃ y,z=y+1:=⟨z-1,qO⟩
 have w1:IntKind.i64.wrap ((z:Int)-1)=(y:Int):=qw;have E:=qH F;clear u F;have c6:¬ (65536:Int)<=(i:Int):=qO;replace hl:=qH hl;go_upto_region 5 with fail;have W:Same Z Z.drew:=(Yaa _ Z).drew;have s:=U.blk.same W;refine Zaj 11 (fun wx=>wx.cell? ⟨f,5,none⟩=some (.int .i64 (i:Int))/\wx.cell? ⟨f,2,none⟩=some (.int .i64 (z:Int))) (by kernel_rfl) ⟨s.cell 5,s.cell 2⟩ (fun d=>?_)
 repeat
  first
   | refine Yan (v:=?_) 0 rfl ?_ ?_
   | refine Yan (v:=?_) 1 rfl ?_ ?_
   | refine Yan (v:=?_) 2 rfl ?_ ?_
   | refine Yan (v:=?_) 3 rfl ?_ ?_
   | refine Yan (v:=?_) 4 rfl ?_ ?_
   | refine Yan (v:=?_) 5 rfl ?_ ?_
   | refine Yan (v:=?_) 6 rfl ?_ ?_
   | refine Yan (v:=?_) 7 rfl ?_ ?_
   | refine Yan (v:=?_) 8 rfl ?_ ?_
   | refine Yan (v:=?_) 9 rfl ?_ ?_
  rotate_left
  · intro wx R;have h0:=R.1;have X:=R.2;go_simp;try with_reducible rfl
  simp only [Act.put,Yal,YaA,Yaz,Yaw,Yam,Yap]
 refine Yci (rs:=[10]) (by decide +kernel) (by decide +kernel) ?_;refine Ybx rfl (fun K S=>?_) YbA;have I:=run_make_row' (P:=Tryz.prog) 39 5 (.int .u8 0) 1 Tryz.underlying39 ZdY rfl .i64 .i64 y (qh E) (qh E);refine Zmc rfl (.tmp 48) (.tmp 48) _ rfl rfl rfl (I _) ?_;have sA:=W.alloc (.cells (madeCells #[.int .u8 0] y) 5);have L:=ZkV Z.drew (n:=y) (by have:=E.out;unfold maxLen;omega);obtain ⟨x,a7,T,t,O⟩:=Zau.row L (by have:=E.out;simp [ZaB];omega);have M:=qH T;have r:=qH t;have a4:=qH (O.base (Yaj hB (Yaj V.size W.size)));have Y:=qH sA;rw [a7];have C:=U.blk.same sA;clear L O T t I d s W;refine S _ _ ⟨C.cell 5,C.cell 2⟩ (fun d=>?_);clear S K;simp only [Act.put,Yal,YaA,Yaz,Yaw,Yam,Yap];refine YcO (by decide +kernel) (by decide +kernel) rfl (fun K S=>?_) _;go_simp;refine (ZiY _ (U.same Y) (Yaj hB (Yaj V.size Y.size)) x a4 r (by rw [M.out];have:=E.out;simp [ZaB];omega) i hl.out).mono ?_;rintro e w5 ⟨rfl,v',h5,u5,n5⟩;have H5:=qH h5;have U5:=qH ((V.same Y).trans u5 fun _ _ h=>h);have N5:=qH (show NewB w (.slice A i c) v' from YeI (Yaj V.size Y.size) (.inl rfl) n5);have q6:=h5.blk.c5;clear h5 u5 n5 sA C;go_wp2_with fail;refine S _ _ ?_;clear S K d;go_wp2
 go_ret2
 refine ⟨by rfl,x,v',by rw [M.out,E.out];rfl,r,?_,U5,N5⟩;have e1:ZiX l i x=l++[x]:=by have hi:=HN.out;subst hi;unfold ZiX;rw [show l.length+1-l.length=1 by omega,List.replicate_one,YcU _ _ (Yae _),YbC];rfl
 rw [<- e1];exact H5
theorem Zbo (w:World) (f:Nat):Calls Tryz.prog 71 #[.pointer (some ⟨f,0,none⟩)] w fun e w'=>e=.returned (.func (.func 122) #[] #[.pointer (some ⟨w.heap.size,0,none⟩)])/\w'=w.alloc (.cells #[.pointer (some ⟨f,0,none⟩)] 67):=by have a:∀ (fn:Fn) (first cap:Array Value) (w:World),(Instr.makeFunc fn first cap).run Tryz.prog w=.ok (.func fn first cap) w:=fun _ _ _ _=>rfl;go_enter Tryz.func71,Tryz.ntmps71;go_wp2;go_ret;exact ⟨rfl,rfl⟩
theorem Zmd {w w2:World} {B r:Nat} {bs:List UInt8} (hs:Same w w2) (h:Wtr w2 B r bs) (hB:w.heap.size=B) (width n:Nat) (hw:ZaK width=true) (hl:bs.length+8<=140737488355328) :
 Calls Tryz.prog 111 #[.pointer (some ⟨r,0,none⟩),.int .i64 width,.int .u64 n] w2 fun e w'=>e=.returned (.tuple #[])/\∃ D,D=bs++beb width n/\Wtr w' B r D/\Same w w' :=
 (Zox h width n hw hl).mono fun _ _ ⟨a,c,d⟩=>⟨a,_,rfl,c,hs.trans d fun b f hs=>qO⟩
theorem Ztk {w w2:World} {F:Nat->Prop} {B r:Nat} {v:Value} {A:Option Addr} {n c:Nat} {bs xs:List UInt8} (hs:Same w w2) (h:WtrV w2 B r v bs) (hB:w.heap.size=B) (hx:Zag w2 F A n c xs) (hl:bs.length+n<=140737488355328) :
 Calls Tryz.prog 114 #[.pointer (some ⟨r,0,none⟩),.slice A n c] w2 fun e w'=>e=.returned (.tuple #[])/\∃ v' D,D=bs++xs/\WtrV w' B r v' D/\Same w w'/\Upd (fun b=>b=r\/v.ownBlock=some b) w2 w'/\(v'.ownBlock=v.ownBlock\/∃ g,v'.ownBlock=some g/\w2.heap.size<=g) :=
 (wrawV h hx hl).mono fun _ _ ⟨d,⟨v',f,i⟩,a⟩=>⟨d,v',_,rfl,f,hs.trans a fun b k hs=>by
   have j:=h.1;rcases hs with hs | hs
   · omega
   have:=(h.2.2.lt b hs).1;omega,a,i⟩
theorem wnumW {w w2:World} {B r:Nat} {v:Value} {bs:List UInt8} (hs:Same w w2) (h:WtrV w2 B r v bs) (hB:w.heap.size=B) (width n:Nat) (hw:ZaK width=true) (hl:bs.length+8<=140737488355328) :
 Calls Tryz.prog 111 #[.pointer (some ⟨r,0,none⟩),.int .i64 width,.int .u64 n] w2 fun e w'=>e=.returned (.tuple #[])/\∃ v' D,D=bs++beb width n/\WtrV w' B r v' D/\Same w w'/\Upd (fun b=>b=r\/v.ownBlock=some b) w2 w'/\(v'.ownBlock=v.ownBlock\/∃ g,v'.ownBlock=some g/\w2.heap.size<=g) :=
 (Zum h width n hw qO hl).mono fun _ _ ⟨c,⟨v',d,f⟩,a⟩=>⟨c,v',_,rfl,by simpa using d,hs.trans a fun b j hs=>by
   have i:=h.1;rcases hs with hs | hs
   · omega
   have:=(h.2.2.lt b hs).1;omega,a,f⟩
theorem Zme {w:World} {B B':Nat} {v:Value} {bs:List UInt8} (h:OwnB w B v bs) (hB:B'<=B):OwnB w B' v bs :=
 ⟨h.1,h.2.imp id fun ⟨g,a,b,c,d,e⟩=>⟨g,a,b,c,Yaj hB d,e⟩⟩
theorem ZkW {w2 w':World} {r fr n c:Nat} {v v':Value} {bs:List UInt8} (hu:Upd (fun b=>b=r\/v.ownBlock=some b) w2 w') (hv:v'.ownBlock=v.ownBlock\/∃ g,v'.ownBlock=some g/\w2.heap.size<=g)
 (hz:OwnB w2 fr (.slice (some ⟨fr,0,none⟩) n c) bs) (hf:v.ownBlock≠some fr/\r≠fr):OwnB w' fr (.slice (some ⟨fr,0,none⟩) n c) bs/\(v'.ownBlock≠some fr/\r≠fr):=by
 refine ⟨Zae hz hu fun g d a=>?_,fun h=>?_,hf.2⟩
 · have d:fr=g:=Yax d;subst d;rcases a with a | a
   · exact hf.2 a.symm
   exact hf.1 a
 rcases hv with hv | ⟨g,hv,d⟩
 · exact hf.1 (hv ▸ h)
 rw [hv] at h;have e:=(hz.lt fr rfl).2;have:=Yax h;omega
theorem Zcm {B f k vs z low:Nat} {v:Value} {l:List BS} (w:World) (h:PF w B f k vs z v l low) (hk:k<=255) (hv:vs<=255) (hN:Nib w):Calls Tryz.prog 61 #[.pointer (some ⟨f,0,none⟩)] w fun e w' =>
 ∃ v',e=.returned v'/\OwnB w' w.heap.size v' (ZaS (filD k vs z l))/\Same w w':=by
 have hz:=h.size;obtain ⟨A,c,rfl⟩:=Zad h.own.row;obtain ⟨g,V⟩:∃ g,l.length=g:=⟨_,rfl⟩
 have a0:=qH V;have c9:g<=65536:=by rw [<- V];exact h.len
 rw [V] at h;have W:=qH h;have HN:=qH hN;clear h hN V;have k0:(0:Int)<=(k:Int)/\(k:Int)<=255:=qO;have k1:(0:Int)<=(vs:Int)/\(vs:Int)<=255:=qO;have k2:(0:Int)<=(z:Int)/\(z:Int)<=255:=qO;have k3:(0:Int)<=(g:Int)/\(g:Int)<=65536:=qO;go_enter Tryz.func61,Tryz.ntmps61;go_wp2_with fail;refine (ZbF w).mono ?_;rintro e w1 ⟨r,rfl,a9,bm⟩;obtain ⟨B1,aa⟩:∃ B1,w.heap.size=B1:=⟨_,rfl⟩
 have d:=qH aa;rw [aa] at a9;go_wp2_with fail;refine (ZlC a9 _ qD).mono ?_;rintro e w2 ⟨rfl,bn,bo⟩;have q:Hid (Same w w2):=qH (bm.trans bo fun b hb hs=>qO);obtain ⟨D2,ab⟩:∃ D,D=ZjG:=⟨_,rfl⟩
 have L:Hid (Wtr w2 B1 r D2):=qH (by rw [ab];exact bn);have M:=qH ab;have H2:=qH (W.same q);clear a9 bm bn bo ab aa;have q0:=H2.blk.c0;go_wp2_with fail;refine (Zmd q L d 1 k qD (by rw [M.out];decide)).mono ?_;clear q0;rintro e w3 ⟨rfl,D3,j,bp,ac⟩;have N:=qH ac;have O:=qH bp;have ar:Hid (D3=D2++beb 1 k):=qH j;have t:Hid (D2.length=4):=qH (by rw [M.out];rfl);have u:Hid (D3.length=D2.length+1):=qH (by rw [j,Yaf,Zab]);have H3:=qH (W.same ac);clear j ac bp L H2 q;have q0:=H3.blk.c1;go_wp2_with fail;refine (Zmd N O d 1 vs qD (by rw [u.out,t.out];decide)).mono ?_;clear q0;rintro e w4 ⟨rfl,D4,ad,bq,ae⟩;have au:=qH ae;have av:=qH bq;have aw:Hid (D4=D3++beb 1 vs):=qH ad;have R:Hid (D4.length=D3.length+1):=qH (by rw [ad,Yaf,Zab]);have H4:=qH (W.same ae);clear ad ae bq O H3 N;have q0:=H4.blk.c2;go_wp2_with fail;refine (Zmd au av d 2 z qD (by rw [R.out,u.out,t.out];decide)).mono ?_;clear q0;rintro e w5 ⟨rfl,D5,af,br,ag⟩;have ax:=qH ag;have ay:=qH br;have az:Hid (D5=D4++beb 2 z):=qH af;have a1:Hid (D5.length=D4.length+2):=qH (by rw [af,Yaf,Zab]);have H5:=qH (W.same ag);clear af ag br av H4 au;have q0:=H5.blk.c3;go_wp2_with fail;refine (Zmd ax ay d 4 g qD (by rw [a1.out,R.out,u.out,t.out];decide)).mono ?_;clear q0;rintro e w6 ⟨rfl,X,ah,bs,ai⟩;have b0:=qH ai;have a2:=qH bs;have b1:Hid (X=D5++beb 4 g):=qH ah;have b2:Hid (X.length=D5.length+4):=qH (by rw [ah,Yaf,Zab]);have H6:=qH (W.same ai);clear ah ai bs ay H5 ax;have b3:Hid (X=ZdC (filD k vs z l)):=qH (by rw [b1.out,az.out,aw.out,ar.out,M.out,<-a0.out];simp [ZdC,filD,Yak]);have m:Hid (X.length=12):=qH (by rw [b2.out,a1.out,R.out,u.out,t.out]);go_wp2_with fail;refine (Zbx a2 (by rw [m.out];decide)).mono ?_;rintro e w7 ⟨v7,rfl,aj,ak⟩;obtain ⟨A7,c7,rfl⟩:=Zad aj;have a3:=qH (b0.trans ak fun _ _ f=>f.elim);have b4:=qH (a2.same ak);have b5:=qH (ZiK w7 (YdK rfl aj) (HN.same a3));clear aj ak a2 b0 H6;go_wp2_with fail;refine b5.mono ?_;rintro e w8 ⟨rfl,rfl⟩;have k4:(0:Int)<=((crcS X).toNat:Int)/\((crcS X).toNat:Int)<=4294967295:=by have:=(crcS X).isLt;omega
 generalize bl:(crcS X).toNat=sm at *;go_wp2_with fail;refine (Zmd a3 b4 d 4 sm qD (by rw [m.out];decide)).mono ?_;rintro e w9 ⟨rfl,D9,al,E,am⟩;have b6:Hid (D9=ZdC (filD k vs z l)++beb 4 (crcS (ZdC (filD k vs z l))).toNat):=qH (by rw [al,<-bl,b3.out]);have bz:Hid (D9.length=16):=qH (by rw [al,Yaf,Zab,m.out]);have b7:=qH am;obtain ⟨v9,E⟩:=E.open;have S:=qH E;have H9:=qH (W.same am);clear al E am b4 a3 b5 bl b2 a1 R u t b3 m M ar aw az b1;have q2:=H9.blk.c2;have q3:=H9.blk.c3;have b8:=run_make_row' (P:=Tryz.prog) 39 5 (.int .u8 0) 1 Tryz.underlying39 ZdY rfl .i64 .i64 z qO qO w9;obtain ⟨Y,an⟩:∃ Y,w9.heap.size=Y:=⟨_,rfl⟩
 obtain ⟨wa,ao⟩:∃ wa,w9.alloc (.cells (madeCells #[Value.int .u8 0] z) 5)=wa:=⟨_,rfl⟩
 have T:=qH (ZkV w9 (n:=z) (by unfold maxLen;omega));have y:=qH ((Yaa (fun _=>False) w9).alloc (.cells (madeCells #[Value.int .u8 0] z) 5));rw [ao,an] at b8 T;rw [ao] at y;have b9:=qH (b7.trans y fun _ _ f=>f.elim);have ba:=qH (S.same y);have Ha:=qH (H9.same y);have bb:Hid (v9.ownBlock≠some Y/\r≠Y):=qH (by rw [<- an];exact ⟨fun e=>YcL _ (S.2.2.lt _ e).2,fun e=>YcL _ (e ▸ S.lt)⟩)
 have q4:=Ha.blk.c3;clear E S b7 y ao q3;go_wp2_with fail;obtain ⟨F,ap⟩:∃ D,ZdC (filD k vs z l)++beb 4 (crcS (ZdC (filD k vs z l))).toNat=D:=⟨_,rfl⟩
 rw [ap] at b6;have c4:Hid (∀ v' w',OwnB w' w.heap.size v' (F++l.flatMap fun x=>recB z x.rc)->OwnB w' w.heap.size v' (ZaS (filD k vs z l))):=qH fun v' w' h=>by
  have e:ZaS (filD k vs z l)=F++l.flatMap fun x=>recB z x.rc:=by rw [<- ap];simp [ZaS,filD,YeZ,Yak]
  rw [e];exact h
 clear ap;clear b8 q2 q4 H9 an;go_loopg [55] g (fun gh s wr=>∃ (i:Nat) (v':Value) (D:List UInt8),g-i=gh/\i<=g/\s=.int .i64 (i:Int)/\Hid (D=F++(l.take i).flatMap fun x=>recB z x.rc)/\Hid (D.length<=16+i*255)/\Hid (WtrV wr B1 r v' D)/\Hid (OwnB wr Y (.slice (some ⟨Y,0,none⟩) z z) (ZaB z))/\Hid (v'.ownBlock≠some Y/\r≠Y)/\Hid (Same w wr))
 case atStart=>exact ⟨0,v9,D9,rfl,Yah _,rfl,qH (by rw [b6.out];simp),qH (by rw [bz.out];omega),ba,T,bb,b9⟩
 clear ba T bb b9 Ha;obtain ⟨i,v',D,rfl,hi,rfl,HD,m,HW,T,HF,HS⟩:=hrel;have ca:=fun (w:World) (a:Option Addr) (n c:Nat)=>YcR (P:=Tryz.prog) w 39 5 a n c 0 0 Tryz.underlying39;have HP:=qH (W.same HS);by_cases bc:i<g
 · have j1:(i:Int)<(g:Int):=qO;have cb:IntKind.i64.wrap ((i:Int)+1)=((i+1:Nat):Int):=by rw [YbQ];omega
   obtain ⟨b,o,x,rfl,cc,hx,aq,hc⟩:=HP.own.at_ a0.out bc;have bd:Hid (l.take (i+1)=l.take i++[x]):=qH (by rw [Ybo,hx];rfl)
   have bf:=qH aq;have C:=qH (HP.own.each x aq);clear hx aq;cases hxA:x.A with
   | none =>
     have h5:=Row.nil C.out hxA;have h6:=Row.le C.out;rw [hxA,h5,show x.n=0 by omega] at hc;have HC:=qH (Ztk HS HW d (YdK (by simp [ZaB]) T.out) (qh m));clear h5 h6;go_wp2_with fail;refine HC.mono ?_;rintro e wz ⟨rfl,v2,Dz,Z,G,p,H,I⟩;have hk:=ZkW H I T.out HF.out;have a4:=qH hk.1;have a5:=qH hk.2;have L:=qH G;have q:=qH p;have a6:Hid (Dz=F++(l.take (i+1)).flatMap fun x=>recB z x.rc):=qH (by rw [Z,bd.out,HD.out];simp [BS.rc,hxA,recB])
     have a7:Hid (Dz.length<=16+(i+1)*255):=qH (by
      have h1:=m.out;have h2:(ZaB z).length=z:=by simp [ZaB]
      rw [Z,Yaf];omega)
     clear hk G p H I Z HC T HF HW HS HD m HP C;go_wp2;go_roundg (g-(i+1))
     case measure=>omega
     case rel=>exact ⟨i+1,v2,Dz,rfl,qO,by go_num,a6,a7,L,a4,a5,q⟩
   | some a =>
     have bg:x.data.length+1=z:=HP.recs x bf.out (by rw [hxA];simp);have bh:x.data.length=x.n:=Yct C.out;have bi:=qH bg;rw [hxA] at hc;have HC:=qH (wnumW HS HW d 1 1 qD (qh m));have c5:=qH bh;clear bg bh;go_wp2_with fail;refine HC.mono ?_;rintro e wy ⟨rfl,v2,Dy,Z,G,p,H,I⟩;have hk:=ZkW H I T.out HF.out;have bj:=qH ((W.same p).own.each x bf);have U:=bj.out;unfold Zau at U;rw [hxA] at U;have bk:=qH (Ztk p G d U (by have:=m.out;have:=c5.out;have:=bi.out;rw [Z,Yaf,Zab];omega));clear U HC;go_wp2_with fail;refine bk.mono ?_;rintro e wz ⟨rfl,v3,Dz,j,bt,bu,bv,bw⟩;have a8:=ZkW bv bw hk.1 hk.2;have a4:=qH a8.1;have a5:=qH a8.2;have O:=qH bt;have N:=qH bu;have a6:Hid (Dz=F++(l.take (i+1)).flatMap fun x=>recB z x.rc):=qH (by rw [j,Z,bd.out,HD.out];simp [BS.rc,hxA,recB,Yak,beb])
     have a7:Hid (Dz.length<=16+(i+1)*255):=qH (by have h1:=m.out;have h2:=bi.out;rw [j,Z,Yaf,Yaf,Zab];omega)
     clear hk a8 G p H I Z bt bu bv bw j bk T HF HW HS HD m HP C bj;go_wp2;go_roundg (g-(i+1))
     case measure=>omega
     case rel=>exact ⟨i+1,v3,Dz,rfl,qO,by go_num,a6,a7,O,a4,a5,N⟩
 have c6:i=g:=qO;subst c6;clear hi bc;go_wp2_with fail;refine (Zbx HW.wtr (qh m)).mono ?_;rintro e wz ⟨vz,rfl,hO,bx⟩;have HO:Hid (OwnB wz w.heap.size vz (ZaS (filD k vs z l))):=qH (c4.out _ _ (by have h1:=Zme hO HS.size;rw [HD.out,YaB (by rw [a0.out];exact Yae _)] at h1;exact h1))
 have c8:=qH (HS.trans bx fun _ _ f=>f.elim);clear hO bx;go_wp2;go_ret;exact ⟨vz,rfl,HO,c8⟩
structure PT (w:World) (B t f m k vs cnt low:Nat) (v nv:Value) (l:List BS) (ns:List ByteArray):Prop where
 base:B<=t
 blk:Blk w t 167 #[.pointer (some ⟨f,0,none⟩),nv,.map (some m)]
 file:PF w B f k vs 42 v l low
 row:w.ownsRow B 9 1 nv ns.length (ns.map Value.string)
 map:MpS w m cnt (idsF ns)
 mB:B<=m
 len:ns.length=l.length
 texts:∀ s∈ns,s.size<=40
section
variable {w w':World} {B t f m k vs cnt low:Nat} {v nv:Value} {l:List BS} {ns:List ByteArray}
theorem PT.same (h:PT w B t f m k vs cnt low v nv l ns) (hu:Same w w'):PT w' B t f m k vs cnt low v nv l ns :=
 ⟨h.base,h.blk.same hu,h.file.same hu,Zaa h.row hu,h.map.same hu,h.mB,h.len,h.texts⟩
theorem Zho:Tryz.prog.underlying 154=some (.map 9 3):=Tryz.underlying154
theorem ZeT (h:PT w B t f m k vs cnt low v nv l ns) {s:ByteArray} (hs:s.size<=40):Calls Tryz.prog 56 #[.pointer (some ⟨t,0,none⟩),.string s] w fun e w' =>
 e=.returned (.tuple #[((idsF ns s).getD (.int .i64 0)),.bool (idsF ns s).isSome])/\w=w':=by
 have a:=h.blk.c2;obtain ⟨d,_⟩:=h.map.look Zho (Zec w) (s:=s) (by unfold maxLen;omega);clear h;generalize c:(idsF ns s).getD (.int .i64 0)=u at *;generalize (idsF ns s).isSome=b at *;go_enter Tryz.func56,Tryz.ntmps56;go_wp2
 go_ret2
 exact ⟨rfl,rfl⟩
theorem ZnG (h:PT w B t f m k vs cnt low v nv l ns):Calls Tryz.prog 94 #[.pointer (some ⟨t,0,none⟩)] w fun e w'=>e=.returned (.int .i64 (cnt:Int))/\w=w':=by have b:=h.blk.c2;have c:=fun a=>h.map.len Zho a;clear h;go_enter Tryz.func94,Tryz.ntmps94;go_wp2;go_ret;exact ⟨rfl,rfl⟩
theorem Zeh (h:PT w B t f m k vs cnt low v nv l ns) (hk:k<=255) (hv:vs<=255) (hN:Nib w):Calls Tryz.prog 62 #[.pointer (some ⟨t,0,none⟩)] w fun e w' =>
 ∃ v',e=.returned v'/\OwnB w' w.heap.size v' (ZaS (filD k vs 42 l))/\Same w w':=by
 have j:=h.blk.c0;have d:=qH (Zcm w h.file hk hv hN);clear h hN;go_enter Tryz.func62,Tryz.ntmps62;go_wp2_with fail;refine d.mono ?_;rintro e n ⟨o,rfl,a,b⟩;obtain ⟨A,c,rfl⟩:=Zad a;have g:=qH a;have i:=qH b;clear a b;go_wp2;go_ret;exact ⟨_,rfl,g,i⟩
theorem Zmf (h:PT w B t f m k vs cnt low v nv l ns) (i:Int):Calls Tryz.prog 124 #[.pointer (some ⟨t,0,none⟩),.int .i64 i] w fun e w' =>
 e=.returned (.tuple #[.string (ZaY ns i),.bool (!decide (ZaY ns i=noText))])/\w=w':=by
 obtain ⟨A,c,rfl⟩:=Zad h.row;have r:=h.blk.c1;have a:=h.row;clear h;by_cases p:i<0
 · have d:ZaY ns i=noText:=Yac p;rw [d];go_enter Tryz.func124,Tryz.ntmps124;go_wp2
   go_ret2
   exact ⟨rfl,rfl⟩
 obtain ⟨n,rfl⟩:∃ n:Nat,i=(n:Int):=⟨i.toNat,qO⟩
 have d:ZaY ns (n:Int)=match ns[n]? with | some s=>s | none=>noText:=Yab p
 rw [d];obtain ⟨N,D⟩:∃ N,ns.length=N:=⟨_,rfl⟩
 rw [D] at a r;by_cases x:n<N
 · obtain ⟨g,u,rfl,E,F,j,H,_⟩:=ZaW a x;obtain ⟨s,b⟩:∃ s,ns[n]?=some s:=⟨_,Yar qO⟩
   rw [Yau,b] at j;have j:u=.string s:=(Yax j).symm;subst j;rw [b];have y:(n:Int)<(N:Int):=qO;clear a d b j;by_cases o:s=noText
   · subst o;unfold noText at *;go_enter Tryz.func124,Tryz.ntmps124;go_wp2
     go_ret2
     exact ⟨rfl,rfl⟩
   have G:s.toList.isEmpty=false:=by
    cases hq:s.toList.isEmpty with
    | false=>rfl
    | true =>
      refine absurd ?_ o;have q:=Zge s;rw [hq] at q;have z:s.size=0:=by simpa using q
      exact ByteArray.ext (Ygw z)
   have C:=qH o;clear o;go_enter Tryz.func124,Tryz.ntmps124;go_wp2
   go_ret2
   exact ⟨by simp [C.out],rfl⟩
 have b:ns[n]?=none:=Ydp qO;rw [b];have y:¬ (n:Int)<(N:Int):=qO;clear a d b;go_enter Tryz.func124,Tryz.ntmps124;go_wp2
 go_ret2
 exact ⟨rfl,rfl⟩
end
theorem Zgy (w:World) (k vs:Nat) (hk:1<=k/\k<=3) (hv:vs=1\/vs=2):Calls Tryz.prog 92 #[.int .i64 (k:Int),.int .i64 (vs:Int)] w fun e w'=>e=.returned (.bool false)/\w=w':=by
 have a:¬ (k:Int)<1:=qO;have b:decide ((3:Int)<(k:Int))=false:=YaM qO;rcases hv with rfl | rfl
 · go_enter Tryz.func92,Tryz.ntmps92;go_wp2;go_ret;exact ⟨rfl,rfl⟩
 go_enter Tryz.func92,Tryz.ntmps92;go_wp2;go_ret;exact ⟨rfl,rfl⟩
theorem Zrw (n:Nat):idsF (List.replicate n noText)=fun _=>none:=by
 funext s;have h:idxI (List.replicate n noText) s=none:=by
  unfold idxI;split
  · rfl
  rename_i a;rw [List.findIdx?_eq_none_iff];intro x b;rw [YfZ b];simpa using fun e:noText=s=>a e.symm
 unfold idsF;rw [h];rfl
theorem ZnH (w:World) {B n:Nat} (hB:B<=w.heap.size) (hn:n<=maxLen):(w.alloc (.cells (madeCells #[.string ⟨#[]⟩] n) 9)).ownsRow B 9 1 (.slice (some ⟨w.heap.size,0,none⟩) n n) n ((List.replicate n noText).map Value.string):=by refine ⟨by simp,.inr ⟨w.heap.size,n,_,rfl,hB,World.alloc_heap_new w _,Yae _,hn,by simp [madeCells],?_⟩⟩;simp [madeCells,YdT,List.map_const',noText]
theorem Zmg {B f k vs low:Nat} {v:Value} {l:List BS} (w:World) (h:PF w B f k vs 42 v l low) (hB:B<=w.heap.size):Calls Tryz.prog 93 #[.pointer (some ⟨f,0,none⟩)] w fun e w' =>
 ∃ t m nv,e=.returned (.pointer (some ⟨t,0,none⟩))/\PT w' B t f m k vs 0 low v nv l (List.replicate l.length noText)/\Same w w':=by
 have j:=qH (Zbl w h);obtain ⟨n,i⟩:∃ n,l.length=n:=⟨_,rfl⟩
 have b:=h.len;rw [i] at j b ⊢;have p:=qH h;have q:=qH i;clear h i;have r:=run_make_row' (P:=Tryz.prog) 48 9 (.string ⟨#[]⟩) 16 Tryz.underlying48 Zde rfl .i64 .i64 n qO qO;have u:=@YcC Tryz.prog;go_enter Tryz.func93,Tryz.ntmps93;go_wp2_with fail;refine j.mono ?_;rintro e a ⟨rfl,rfl⟩;go_wp2;go_ret;have o:=(Yaa (fun _=>False) w).alloc (.cells (madeCells #[.string ⟨#[]⟩] n) 9);have x:=ZnH w (n:=n) hB (by unfold maxLen;omega);have y:(w.alloc (.cells (madeCells #[.string ⟨#[]⟩] n) 9)).heap.size=w.heap.size+1:=Yav _ _;generalize w.alloc (.cells (madeCells #[.string ⟨#[]⟩] n) 9)=a at *;rw [<- y];have z:=MpS.made a;have d:=o.alloc (.map #[] 0);have A:=Zaa x ((Yaa (fun _=>False) a).alloc (.map #[] 0));have E:=o.size;have C:(a.alloc (.map #[] 0)).heap.size=a.heap.size+1:=Yav _ _;generalize a.alloc (.map #[] 0)=g at *;rw [<- C];have F:=d.size;have c:=(Yaa (fun _=>False) g).alloc (.cells #[.pointer (some ⟨f,0,none⟩),.slice (some ⟨w.heap.size,0,none⟩) n n,.map (some a.heap.size)] 167);refine ⟨g.heap.size,a.heap.size,.slice (some ⟨w.heap.size,0,none⟩) n n,rfl,⟨qO,Yad g _ _,p.same (d.trans c fun _ _ f=>f),?_,?_,qO,by rw [Ybk,q.out],?_⟩,d.trans c fun _ _ f=>f⟩
 · rw [Ybk];exact Zaa A c
 · rw [Zrw];exact z.same c
 intro s D;rw [YfZ D];decide
theorem ZnI (w:World) (k vs:Nat) (hk:1<=k/\k<=3) (hv:vs=1\/vs=2):Calls Tryz.prog 50 #[.int .i64 (k:Int),.int .i64 (vs:Int)] w fun e w' =>
 ∃ t f m nv,e=.returned (.tuple #[.pointer (some ⟨t,0,none⟩),.int .i64 0])/\PT w' w.heap.size t f m k vs 0 0 (.slice none 0 0) nv [] []/\Same w w':=by
 go_enter Tryz.func50,Tryz.ntmps50;go_wp2_with fail;refine (Zgy w k vs hk hv).mono ?_;rintro e g ⟨rfl,rfl⟩;go_wp2_with fail;refine (Zdf w k vs 42 qO qO ⟨qO,qO⟩).mono ?_;rintro e g ⟨rfl,c,d⟩;have o:=qH c;have i:=qH d;have j:=d.size;have l:=qH (Zmg g c j);clear c d;go_wp2_with fail;refine l.mono ?_;rintro e p ⟨t,m,nv,rfl,h,a⟩;have n:=qH h;have b:=qH a;clear h a;go_wp2
 go_ret2
 exact ⟨t,_,m,nv,rfl,n,i.trans b fun _ _ f=>f⟩
theorem rawN {w:World} {F:Nat->Prop} {r:Nat} {l:List UInt8} (h:Rdr w F r ⟨l,0⟩) (hF:¬ F r) (hs:l.length<=140737488355328) (n:Nat) (hn:n<=l.length) :
 Calls Tryz.prog 167 #[.pointer (some ⟨r,0,none⟩),.int .i64 (n:Int)] w fun e w' =>
  ∃ A c,e=.returned (.slice A n c)/\Hid (Zag w' (TyB w' 0) A n c (l.take n))/\Hid (Rdr w' F r ⟨l.drop n,0⟩)/\Upd (fun b=>b=r) w w':=by
 refine (ZkO h hF hs (n:Int)).mono ?_;rintro e w' ⟨v,rfl,a,d,f⟩;rw [YdL hn] at a d;obtain ⟨A,c,rfl⟩:=Zad a;have e:(l.take n).length=n:=by rw [YaJ];omega
 simp only at a ⊢;exact ⟨A,c,by rw [e],qH (YdK e (by rw [e] at a;exact a)),qH d,f⟩
theorem numN {w:World} {F:Nat->Prop} {r:Nat} {l:List UInt8} (h:Rdr w F r ⟨l,0⟩) (hF:¬ F r) (width:Nat) (hw:ZaK width=true) (hl:width<=l.length) :
 Calls Tryz.prog 166 #[.pointer (some ⟨r,0,none⟩),.int .i64 (width:Int)] w fun e w'=>∃ N:Nat,e=.returned (.int .u64 (N:Int))/\be (l.take width)=N/\N<256 ^ width/\Hid (Rdr w' F r ⟨l.drop width,0⟩)/\Upd (fun b=>b=r) w w':=by
 refine (Zcb h hF (width:Int)).mono ?_;have a:RS.num ⟨l,0⟩ (width:Int)=(be (l.take width),⟨l.drop width,0⟩):=by unfold RS.num;rw [hw,YdL hl]
 rw [a];rintro e w' ⟨rfl,d,f⟩;have c:=Zgc (l.take width);rw [YaJ,YdD hl] at c;exact ⟨_,rfl,rfl,c,qH d,f⟩
def Zdy (b:List UInt8):Except Int (Nat×Nat×Nat×Nat) :=
 if b.length<16 then .error 10
 else if b.take 4≠ZjG then .error 90
 else if be ((b.drop 12).take 4)≠(crcS (b.take 12)).toNat then .error 91
 else if be ((b.drop 6).take 2)<2\/255<be ((b.drop 6).take 2) then .error 4
 else if 65536<be ((b.drop 8).take 4)\/b.length≠16+be ((b.drop 8).take 4)*be ((b.drop 6).take 2) then .error 92
 else .ok (be ((b.drop 4).take 1),be ((b.drop 5).take 1),be ((b.drop 6).take 2),be ((b.drop 8).take 4))
theorem cut16 (bs:List UInt8) {i k:Nat} (h:i+k<=16):((bs.take 16).drop i).take k=(bs.drop i).take k:=by rw [List.drop_take,List.take_take,YdD qO]
def Zid (b:List UInt8) (w:World) (e:Ending) (w':World):Prop :=
 match Zdy b with
 | .error er=>∃ (fp:Option Addr) (cv:Int),e=.returned (.tuple #[.pointer fp,.int .i64 cv,.int .i64 er])/\Same w w'
 | .ok (k,vs,z,n)=>∃ f,e=.returned (.tuple #[.pointer (some ⟨f,0,none⟩),.int .i64 (n:Int),.int .i64 0])/\w.heap.size<=f/\Blk w' f 171 #[.int .i64 (k:Int),.int .i64 (vs:Int),.int .i64 (z:Int),.slice none 0 0,.int .i64 0,.int .i64 0]/\Same w w'
theorem Zmh {F:Nat->Prop} {A:Option Addr} {n c:Nat} {bs:List UInt8} (w:World) (hb:Zag w F A n c bs) (hn:n<=140737488355328) (hN:Nib w):Calls Tryz.prog 161 #[.slice A n c] w (Zid bs w):=by
 have HL:=qH (Yct hb);have HB:=qH hb;have HN:=qH hN;by_cases b2:n<16
 · have e:Zdy bs=.error 10:=by unfold Zdy;rw [Yac (qh HL)]
   have HR:Hid (∀ e I,Zid bs w e I↔∃ (fp:Option Addr) (cv:Int),e=.returned (.tuple #[.pointer fp,.int .i64 cv,.int .i64 10])/\Same w I):=qH fun e1 I=>by unfold Zid;rw [e]
   generalize Zid bs w=R at *;have j1:(n:Int)<16:=qO;clear hb hN e;go_enter Tryz.func161,Tryz.ntmps161;go_wp2
   go_ret3
   exact (HR.out _ _).2 ⟨_,_,rfl,Yaa _ _⟩
 have j1:¬ (n:Int)<16:=qO;clear hb hN;go_enter Tryz.func161,Tryz.ntmps161;have E:Zag w F A 16 c (bs.take 16):=Zag.head HB.out qO;have G:Zag w F A 12 c (bs.take 12):=Zag.head HB.out qO;have hc:=HB.le;have j2:¬ (c:Int)<16:=qO;have j3:¬ (c:Int)<12:=qO;have H:=qH G;have HK:=qH (ZbG E qD);clear E G;go_wp2_with fail;refine HK.mono ?_;rintro e w1 ⟨r,rfl,hr,z,aj⟩;have hF:¬ (w.heap.size<=r/\r≠r):=fun h=>h.2 rfl;generalize ai:(fun b=>w.heap.size<=b/\b≠r)=FF at z;have k:Hid (¬ FF r):=qH (by rw [<- ai];exact hF);have Z:=qH aj;have v:(bs.take 16).length=16:=by rw [YaJ,HL.out];omega
 obtain ⟨b0,B⟩:∃ b0,bs.take 16=b0:=⟨_,rfl⟩
 rw [B] at z v;have a0:=qH z;have i:=qH v;clear z aj ai hF v;go_wp2_with fail;refine (rawN a0 k (by rw [i.out];decide) 4 (by rw [i.out];decide)).mono ?_;rintro e w2 ⟨A2,c2,rfl,ak,al,am⟩;have a1:=qH (show b0.take 4=bs.take 4 by rw [<- B,List.take_take];rfl);have a2:Hid (Same w w2):=qH (Z.trans am fun b hb u=>qO);have a3:=Zcf ak.out;obtain ⟨m4,d⟩:∃ m,b0.take 4=m:=⟨_,rfl⟩
 have a4:=qH d;rw [d] at a3;clear am a0 Z ak d;go_wp2_with fail;refine (numN al k 1 qD (by rw [Yas,i.out];decide)).mono ?_;rintro e w3 ⟨p,rfl,an,b4,ao,ap⟩;have a5:=qH an;have k3:(0:Int)<=(p:Int)/\(p:Int)<=255:=qO;have a6:Hid (Same w w3):=qH (a2.trans ap fun b hb u=>qO);clear a3 ap al a2 an b4;go_wp2_with fail;refine (numN ao k 1 qD (by rw [Yas,Yas,i.out];decide)).mono ?_;rintro e w4 ⟨s,rfl,aq,b5,ar,au⟩;have a7:=qH aq;have k4:(0:Int)<=(s:Int)/\(s:Int)<=255:=qO;have a8:Hid (Same w w4):=qH (a6.trans au fun b hb u=>qO);clear au ao a6 aq b5;go_wp2_with fail;refine (numN ar k 2 qD (by rw [Yas,Yas,Yas,i.out];decide)).mono ?_;rintro e C ⟨a,rfl,av,b6,W,aw⟩;have a9:=qH av;have k5:(0:Int)<=(a:Int)/\(a:Int)<=65535:=qO;have O:Hid (Same w C):=qH (a8.trans aw fun b hb u=>qO);clear aw ar a8 av b6;go_wp2_with fail;have aa:Hid (Blk (C.alloc (.cells #[.int .i64 (p:Int),.int .i64 (s:Int),.int .i64 (a:Int),.slice none 0 0,.int .i64 0,.int .i64 0] 171)) C.heap.size 171 #[.int .i64 (p:Int),.int .i64 (s:Int),.int .i64 (a:Int),.slice none 0 0,.int .i64 0,.int .i64 0]):=qH (Yad C _ _);have P:=qH ((Yaa (fun _=>False) C).alloc (.cells #[.int .i64 (p:Int),.int .i64 (s:Int),.int .i64 (a:Int),.slice none 0 0,.int .i64 0,.int .i64 0] 171));generalize (C.alloc (.cells #[.int .i64 (p:Int),.int .i64 (s:Int),.int .i64 (a:Int),.slice none 0 0,.int .i64 0,.int .i64 0] 171))=w6 at *;have ab:=qH (W.same P);have ac:=qH (O.trans P fun _ _ f=>f.elim);have S:Hid (w.heap.size<=C.heap.size/\r≠C.heap.size):=qH ⟨O.size,fun e=>YcL _ (e ▸ W.lt)⟩;generalize C.heap.size=fb at *;clear W O P;refine (numN ab k 4 qD (by rw [Yas,Yas,Yas,Yas,i.out];decide)).mono ?_;rintro e w7 ⟨g,rfl,ax,b7,ay,X⟩;have ad:=qH ax;have k7:(0:Int)<=(g:Int)/\(g:Int)<=4294967295:=qO;have T:Hid (Same w w7):=qH (ac.trans X fun b hb u=>qO);have ae:Hid (Blk w7 fb 171 #[.int .i64 (p:Int),.int .i64 (s:Int),.int .i64 (a:Int),.slice none 0 0,.int .i64 0,.int .i64 0]):=qH (aa.upd X fun e=>S.2 e.symm);clear X ab ac ax b7 aa;obtain ⟨x,Y⟩:∃ N,be ((((((b0.drop 4).drop 1).drop 1).drop 2).drop 4).take 4)=N:=⟨_,rfl⟩
 obtain ⟨sm,D⟩:∃ m,(crcS (bs.take 12)).toNat=m:=⟨_,rfl⟩
 have af:sm<4294967296:=by rw [<- D];exact (crcS (bs.take 12)).isLt
 have U:=qH fun L (u:Same w7 L)=>(numN (ay.same u) k 4 qD (by simp only [Yas];rw [i.out];decide)).mono fun e I ⟨N,h1,h2,h3,_,h5⟩=>(show e=Ending.returned (.int .u64 (x:Int))/\x<4294967296/\Hid (Same w I)/\Hid (Upd (fun b=>b=r) w7 I) from by
  have e1:N=x:=by rw [<- h2,<-Y]
  subst e1;exact ⟨h1,h3,qH (T.trans ((u.mono fun _ _ f=>f.elim).trans h5 fun _ _ h=>h) fun b hb u=>qO),qH ((u.mono fun _ _ f=>f.elim).trans h5 fun _ _ h=>h)⟩)
 have V:=qH fun L (u:Same w L)=>(ZiK L (H.same u) (HN.same u)).mono fun e I ⟨h1,h2⟩=>(show e=Ending.returned (.int .u32 (sm:Int))/\L=I from by rw [h1,D];exact ⟨rfl,h2⟩)
 have HH:Hid (Zdy bs=if m4≠ZjG then .error 90 else if x≠sm then .error 91 else if a<2\/255<a then .error 4 else if 65536<g\/n≠16+g*a then .error 92 else .ok (p,s,a,g)):=qH (by have e1:=a4.symm.trans a1.out;have e3:=a5.out;have e4:=a7.out;have e5:=a9.out;have e7:=ad.out;have e8:=Y;rw [<- B] at e3 e4 e5 e7 e8;simp only [Ybm] at e3 e4 e5 e7 e8;rw [cut16 bs qD] at e3 e4 e5 e7 e8;unfold Zdy;rw [Yab (by rw [HL.out];exact b2),HL.out,<-e1,D];rw [e3,e4,e5,e7,e8])
 have ba:=qH af;clear Y D af B a5 a7 a9 ad a4 a1;by_cases d:m4=ZjG
 · have ag:(m4==[83,82,69,67])=true:=YbE.2 d;have y:Hid (Zdy bs=if x≠sm then .error 91 else if a<2\/255<a then .error 4 else if 65536<g\/n≠16+g*a then .error 92 else .ok (p,s,a,g)):=qH (HH.trans (Yab (not_not_intro d)));clear d HH;go_upto_region 9 with fail;go_cut [33] from 33 to 40 (fun b8 L=>∃ q:Bool,b8=.bool q/\Hid (q=true↔x≠sm)/\Hid (Same w L)/\Hid (Upd (fun b=>b=r) w7 L))
   case first =>
    go_region_with (first | (go_at_call 166;refine (U.out _ (by first | exact Yaa _ _ | exact (Yaa _ _).drew)).mono ?_;rintro e w8 ⟨rfl,bf,az,b9⟩;have k8:(0:Int)<=(x:Int)/\(x:Int)<=4294967295:=qO) | (go_at_call 112;refine (V.out _ (by exact az)).mono ?_;rintro e wz ⟨rfl,rfl⟩))
    all_goals go_wp2
    all_goals go_meet
    all_goals exact ⟨_,rfl,qH (by have b3:IntKind.u32.wrap (x:Int)=(x:Int):=IntWalk.u32_in _ ⟨qO,qO⟩;rw [b3,Ybh];omega),az,b9⟩
   obtain ⟨q,rfl,HQ,t,b1⟩:=hcut;have ah:Hid (Blk wc fb 171 #[.int .i64 (p:Int),.int .i64 (s:Int),.int .i64 (a:Int),.slice none 0 0,.int .i64 0,.int .i64 0]):=qH (ae.upd b1 fun e=>S.2 e.symm);clear U V ae b1 ay T H ag;cases q with
   | true =>
     have l:Hid (Zdy bs=.error 91):=qH (y.trans (Yac (HQ.1 rfl)));clear y;go_wp2
     go_ret3
     unfold Zid;rw [l.out];exact ⟨_,_,rfl,t⟩
   | false =>
     have o:Hid (Zdy bs=if a<2\/255<a then .error 4 else if 65536<g\/n≠16+g*a then .error 92 else .ok (p,s,a,g)):=qH (y.trans (Yab fun h=>by have:=HQ.2 h;cases this));clear y HQ;have q2:=ah.c2;by_cases h2:a<2
     · have l2:(a:Int)<2:=qO;have l:Hid (Zdy bs=.error 4):=qH (o.trans (Yac (.inl h2)));clear o;go_wp2
       go_ret3
       unfold Zid;rw [l.out];exact ⟨_,_,rfl,t⟩
     have l2:¬ (a:Int)<2:=qO;by_cases h3:255<a
     · have l3:¬ (a:Int)<=255:=qO;have l:Hid (Zdy bs=.error 4):=qH (o.trans (Yac (.inr h3)));clear o;go_wp2
       go_ret3
       unfold Zid;rw [l.out];exact ⟨_,_,rfl,t⟩
     have l3:(a:Int)<=255:=qO;have j:Hid (Zdy bs=if 65536<g\/n≠16+g*a then .error 92 else .ok (p,s,a,g)):=qH (o.trans (Yab fun h=>qO));clear o;by_cases h4:65536<g
     · have l4:¬ (g:Int)<=65536:=qO;have l:Hid (Zdy bs=.error 92):=qH (j.trans (Yac (.inl h4)));clear j;go_wp2
       go_ret3
       unfold Zid;rw [l.out];exact ⟨_,_,rfl,t⟩
     have l4:(g:Int)<=65536:=qO;obtain ⟨M,hM⟩:∃ M,g*a=M:=⟨_,rfl⟩
     have bb:(g:Int)*(a:Int)=(M:Int):=by rw [<- hM];exact (Int.natCast_mul _ _).symm
     have bc:M<=65536*255:=by rw [<- hM];exact Nat.mul_le_mul qO qO
     have bd:IntKind.i64.wrap (M:Int)=(M:Int):=YbO _ ⟨qO,qO⟩;rw [hM] at j;clear hM;by_cases h5:n=16+M
     · have l:Hid (Zdy bs=.ok (p,s,a,g)):=qH (j.trans (Yab fun h=>qO));have l5:(n:Int)=16+(M:Int):=qO;clear j;go_wp2
       go_ret3
       unfold Zid;rw [l.out];exact ⟨fb,rfl,S.1,ah,t⟩
     have l:Hid (Zdy bs=.error 92):=qH (j.trans (Yac (.inr h5)));have l5:((n:Int) != 16+(M:Int))=true:=Ybh.2 qO;clear j;go_wp2
     go_ret3
     unfold Zid;rw [l.out];exact ⟨_,_,rfl,t⟩
 have ag:(m4==[83,82,69,67])=false:=Ybn.2 d;have l:Hid (Zdy bs=.error 90):=qH (HH.trans (Yac d));clear d HH U V;go_wp2
 go_ret3
 unfold Zid;rw [l.out];exact ⟨_,_,rfl,T⟩
end Go.Proofs.YtmkjfhnlnhceiaaGreatDoor
