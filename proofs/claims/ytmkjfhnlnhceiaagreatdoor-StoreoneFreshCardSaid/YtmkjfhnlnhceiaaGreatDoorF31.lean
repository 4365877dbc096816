/- Lemmas: walks and plain laws. -/
import Derived.Test.YtmkjfhnlnhceiaaGreatDoorF30
set_option maxRecDepth 100000
set_option maxHeartbeats 16000000
namespace Go.Proofs.YtmkjfhnlnhceiaaGreatDoor
variable {k B c n p rd mB N m j:Nat} {w w':World} {A:Option Addr} {F S:Nat->Prop} {mb l:List Nat} {m1 m2 m3 ch mt:Value} {d:List UInt8}
section
open Go.RowKit
attribute [local go_sem] oD
theorem EU {l:List BS} {ns:List ByteArray} (hT:TabK ns) (h:l.map BS.rc=ns.map fun s=>some (tokD s)):filD k 1 42 l=tabF k 1 ns:=by unfold filD tabF;rw [h];congr 1;refine kG fun s a=>?_;have:=(xI (hT.good s a)).1;rw [aA qO]
theorem ZnB {b hm h:Nat} {q q':BuP} {f:Int->Option Value} {L:List L1} {hs:List Int} {g:GR} (hc:WZ g L hs) (hS:StR w w' B b q hm h f A c L hs g) (ht:∀ i,i<3->q'.l i=q.l i)
 (hb:q'.bs=zG (nsG g.dat 1) (nsG g.dat 2) L (g.rs.map RL.dat) (yG (nsG g.dat 0) (nsG g.dat 2) ((g.ns.zip hs).map fun x=>(x.1.dat,x.2)) q.bs)):RQ q'=EF (wH g.dat):=by
 have a:q.bs=⟨[],[],[],[]⟩:=by unfold BuP.bs;rw [hS.nil 3 qD qD,hS.nil 4 qD qD,hS.nil 5 qD qD,hS.nil 6 qD qD];rfl
 have d:(g.ns.zip hs).map (fun x=>(x.1.dat,x.2))=g.dat.nodes.zip hs:=by show _=(g.ns.map ND.dat).zip hs;rw [List.zip_map_left];rfl
 rw [a,d] at hb;have e:wH g.dat=⟨nsG g.dat 0,nsG g.dat 1,nsG g.dat 2,⟨4,1,17,q'.bs.nodes⟩,⟨5,1,31,q'.bs.rels⟩,⟨6,1,20,q'.bs.props⟩,⟨8,1,32,q'.bs.blobs⟩⟩:=by rw [hb];unfold wH;rw [hc.th];rfl
 rw [e];unfold RQ EF datQ;simp only;rw [EU (hc.tab 2 qD) (by rw [ht 2 qD];exact hS.rc 2 qD),EU (hc.tab 0 qD) (by rw [ht 0 qD];exact hS.rc 0 qD),EU (hc.tab 1 qD) (by rw [ht 1 qD];exact hS.rc 1 qD)];rfl
theorem Fls.upd {fs:List SF} (h:Fls w F A n c fs) (hu:Upd S w w') (hs:∀ b,F b->¬ S b):Fls w' F A n c fs:=⟨h.row.upd hu hs,fun x a=>⟨SL (h.each x a).1 hu hs,(h.each x a).2⟩⟩
theorem Fls.mono {F':Nat->Prop} {fs:List SF} (h:Fls w F A n c fs) (hf:∀ b,b<w.heap.size->F b->F' b):Fls w F' A n c fs:=⟨h.row.mono hf,fun x a=>⟨TL (h.each x a).1 hf,(h.each x a).2⟩⟩
def BuOk (w:World) (g:WB) (eb:Nat) (A:Option Addr) (n c:Nat) (W:World):Prop:=n=8/\Same w W/\∃ K fs,w.heap.size+1<K/\eb<K/\Fls W (fun x=>K<=x) A 8 c fs/\fs.map SF.dat=EF (wH g)
theorem ZvU {g:GR} (w:World) (hg:RdG w F g) (hz:RG g) (hN:Nib w) (b4:(chkP g.dat).1=0) (w2:World) (b5:Same w w2) (_:w.heap.size+2<=w2.heap.size)
 (b6:Blk w2 w.heap.size 26 #[.slice g.AN g.nN g.cN,.slice g.AR g.nR g.cR]) (b7:Blk w2 (w.heap.size+1) 29 #[.slice none 0 0]):
 Calls Tryz.prog 25 #[.pointer (some ⟨w.heap.size,0,none⟩),.pointer (some ⟨w.heap.size+1,0,none⟩)] (w2.alloc (.cells #[.int .i64 0] 30)) (VK (DU (w.heap.size+1) (BuOk w g.dat w2.heap.size)) (fun _ _=>False) w2.heap.size):=by
 obtain ⟨L,hs,hC⟩:=bcond b4;have a0:=jA w2 30 #[.int .i64 0];have d:=(iA w2).alloc (.cells #[.int .i64 0] 30);obtain ⟨OR,R⟩:=qx (VK (DU (w.heap.size+1) (BuOk w g.dat w2.heap.size)) (fun _ _=>False) w2.heap.size);have an:Hid (∀ A c W,Blk W w2.heap.size 30 #[.int .i64 0]->Blk W (w.heap.size+1) 29 #[.slice A 8 c]->BuOk w g.dat w2.heap.size A 8 c W->OR (.returned (.tuple #[])) W):=qH fun A c W h1 h2 h3=>by rw [<- R];exact ⟨h1,.inl ⟨rfl,A,8,c,h2,h3⟩⟩
 rw [R];have a1:RdG (w2.alloc (.cells #[.int .i64 0] 30)) (fun x=>x<w.heap.size) g:=((hg.mono fun b hb _=>hb).same b5).same d;have hh:=eY (nO b4).1;have h:=qH hC;have ao:=qH hh;have HZ:=qH hz;have a2:=qH (b5.trans d qf);have a3:=qH a0;have C:=qH (b6.same d);have a4:=qH (b7.same d);have HG:=qH a1;have HN:=qH hN;clear R a0 d a1 hh hC b6 b7 b5 hz hg b4 hN;generalize w2.alloc (.cells #[.int .i64 0] 30)=r at *;generalize w2.heap.size=eb at *;obtain ⟨AN,S⟩:∃ x,g.AN=x:=⟨_,rfl⟩
 obtain ⟨nN,T⟩:∃ x,g.nN=x:=⟨_,rfl⟩
 obtain ⟨cN,U⟩:∃ x,g.cN=x:=⟨_,rfl⟩
 obtain ⟨AR,V⟩:∃ x,g.AR=x:=⟨_,rfl⟩
 obtain ⟨nR,X⟩:∃ x,g.nR=x:=⟨_,rfl⟩
 obtain ⟨cR,Y⟩:∃ x,g.cR=x:=⟨_,rfl⟩
 rw [S,T,U,V,X,Y] at C;have a5:g.agg=.agg #[.slice AN nN cN,.slice AR nR cR]:=by unfold GR.agg;rw [S,T,U,V,X,Y]
 have a6:=qH a5;clear S T U V X Y a5;go_enter Tryz.func25,Tryz.ntmps25;go_upto_region 1 with fail;have a7:Blk (r.alloc (.cells #[.pointer none,.pointer none,.pointer none,.pointer none,.pointer none,.pointer none,.pointer none,.slice none 0 0,.map none] 73)) r.heap.size 73 (QE q00 0):=jA r _ _;have a:=(iA r).alloc (.cells #[.pointer none,.pointer none,.pointer none,.pointer none,.pointer none,.pointer none,.pointer none,.slice none 0 0,.map none] 73);generalize r.alloc (.cells #[.pointer none,.pointer none,.pointer none,.pointer none,.pointer none,.pointer none,.pointer none,.slice none 0 0,.map none] 73)=w3 at *;have D:w.heap.size<=r.heap.size:=a2.size;have a8:=a3.same a;have s:=C.same a;have a9:=a4.same a;have E:=ZnA w3 (B:=w.heap.size) (g:=g) (tA D a.size) a7 D (HG.same a) HZ.texts ao.out h.tab h.rise h.rid h.nd h.n4 h.th;rw [a6.out] at E;have aa:=qH E;have u:Hid (w.heap.size<r.heap.size/\w.heap.size+1<r.heap.size/\eb<r.heap.size):=qH ⟨C.lt,a4.lt,a3.lt⟩;have ap:=qH (a2.trans a qf);have q0:=s.c0;have q1:=s.c1;have aq:=qH a8;have ar:=qH s;have au:=qH a9;generalize r.heap.size=b at *;clear a7 a D a8 s a9 E;go_wp2_with fail;refine aa.mono ?_;rintro e w4 ⟨rfl,q,hm,b3,f,A,c,o⟩;have ab:=aq.upd o.up (fun e=>qh u);have G:=ar.upd o.up (fun e=>qh u);have ac:=au.upd o.up (fun e=>qh u);have H:Same w w4:=ap.trans o.up fun x hx e=>qh u;have l5:(q.l 5).length=0:=by rw [o.nil 5 qD qD];rfl
 have I:(g.ns.zip hs).map Prod.fst=g.ns:=List.map_fst_zip (by rw [h.len];exact lA _);have ad:((g.ns.zip hs).map fun x=>x.1.props.length)=g.ns.map fun x=>x.props.length:=by have:=tB (List.map fun x:ND=>x.props.length) I;rwa [MC] at this
 have M:=ZoP w4 o.m H.size o.k (by rw [o.nil 6 qD qD];simp) I (h.nodes f o.heads) h.rels (by rw [l5,ad,AE];exact h.cnt);rw [a6.out] at M;have ae:=qH M;have i:=qH o;have av:=qH ab;have aw:=qH ac;have ax:=qH H;have q0:=G.c0;have q1:=G.c1;clear o ab G ac H l5 I ad M aa;go_wp2_with fail;refine ae.mono ?_;rintro e w5 ⟨rfl,q',Z,al⟩;have j:∀ {x:Nat} {t:TypeId} {cs:Array Value},Blk w4 x t cs->t≠171->39≠t->Blk w5 x t cs:=fun hb h1 h2=>hb.upd Z.n.up (i.m.far hb h1 h2);have af:=j av.out qD qD;have ag:=j aw.out qD qD;have N:=(i.k.mv i.m Z.n.up).blk;rw [Z.cells] at N;have O:Same w w5:=ax.trans Z.n.up fun x hx e=>by have:=(i.m.ge e).1;omega
 have ah:=qH (Zno w5 Z.m N (HN.same O));have HQ:=qH (ZnB h i Z.tabs al);have ai:=qH af;have P:=qH ag;have ay:=qH O;clear af ag N O Z al j ae q0 q1;go_wp2_with fail;refine ah.mono ?_;rintro e w6 ⟨A6,c6,fs,rfl,am,z,y⟩;have v:=P.same y;have s1:=v.c0;have z1:=v.frozen 0;have az:=qH am;have b0:=qH z;have aj:=qH v;have b1:=qH (ay.trans y qf);have ak:=qH (ai.same y);clear am z v y ah;go_wp2_with fail;go_end0;refine an A6 c6 _ (ak.far (p:=⟨w.heap.size+1,0,none⟩) (fun e=>ak.ne aj.out qD e) _) (aj.put 0 _) ⟨rfl,b1.putNew (aN _) _,w5.heap.size,fs,P.lt,ai.lt,?_,b0.trans HQ⟩;have hu:Upd (fun x=>x=w.heap.size+1) w6 (w6.setCell ⟨w.heap.size+1,0,none⟩ (.slice A6 8 c6)):=(eA (fun x=>x=w.heap.size+1) w6).put1 _;have b2:∀ x,w5.heap.size<=x->¬ x=w.heap.size+1:=fun x hx e=>qt P.lt;exact az.upd hu b2
def BldR (w:World) (g:WB) (e:Ending) (w':World):Prop :=
 ((chkP g).1≠0/\e=.returned (.tuple #[.slice none 0 0,.int .i64 (chkP g).1])/\Same w w') \/
 ((chkP g).1=0/\∃ A c fs,e=.returned (.tuple #[.slice A 8 c,.int .i64 0])/\Fls w' (fun x=>w.heap.size<=x) A 8 c fs/\fs.map SF.dat=EF (wH g)/\Same w w')
theorem FU {F:Nat->Prop} {g:GR} (w:World) (hg:RdG w F g) (hz:RG g) (hN:Nib w):Calls Tryz.prog 9 #[g.agg] w (BldR w g.dat):=by
 refine (ZuD w hg hz (Ok:=BuOk w g.dat) (Bad:=fun _ _=>False) (fun _ _ h=>h.elim) fun a j k l m n=>ZvU w hg hz hN a j k l m n).mono ?_;rintro e y (⟨c,rfl,d⟩ | ⟨c,⟨o,z,p,W,b,rfl,⟨rfl,d,K,q,r,s,t,u⟩,A,v,f⟩ | ⟨B,W,_,h,_⟩⟩)
 · exact .inl ⟨c,rfl,d⟩
 · exact .inr ⟨c,o,p,q,rfl,(t.upd f fun x i e=>by omega).mono fun x _ i=>by omega,u,d.trans f fun x i e=>by omega⟩
 exact h.elim
end
section
open Go.RowKit
attribute [local go_sem] oD
theorem XZ {tmps:Array Value} {wE:World} {u0 u1 u2 u3 u4:Value} {R:Ending->World->Prop} (h4:tmps.getD 4 undef=.pointer (some ⟨B,0,none⟩)) (hb:Blk wE B 51 #[u0,u1,u2,u3,u4]) (hR:R (.returned (.agg #[u0,u1,u2,u3,u4])) wE):
 bodyPost Tryz.prog Tryz.f128 R Exit.ret ⟨tmps,[]⟩ wE:=by
 obtain ⟨a,b,c,d,e⟩:=hb.five;refine LD (v:=.agg #[u0,u1,u2,u3,u4]) ?_ rfl hR;simp only [LF] at h4;simp [results,Tryz.results128,go_sem,h4,a,b,c,d,e]
def SimR (g:GVal) (w:World) (e:Ending) (w':World):Prop:=Same w w'/\((chk g≠0/\e=cF (chk g))\/(chk g=0/\∃ v,e=.returned v/\cJ w' w.heap.size v g))
theorem Zri (w:World) (rd:Value) (x:P1) (hk : -9223372036854775808<=x.kind/\x.kind<4) (hn : -9223372036854775808<=x.num/\x.num<=9223372036854775807):
 Calls Tryz.prog 128 #[rd,.agg x.cells] w (SimR ⟨x.kind,x.num,noText,[],[]⟩ w):=by
 obtain ⟨I,b,c,L,M,ne⟩:=x;unfold P1.cells;simp only at hk hn ⊢;have P:b<=3:=qO;have A:b<=9223372036854775807:=qO;have N:Hid (∀ W,∃ F,pD W F none 0 0 none 0 0 ⟨b,c,noText,[],[]⟩):=qH fun W=>⟨_,⟨Row.weak (xF (iC W 0 2 1)),Row.weak (xF (iC W 0 9 1)),⟨hk.1,A⟩,hn,fun _ h=>by cases h⟩⟩
 obtain ⟨OR,n⟩:=qx (SimR ⟨b,c,noText,[],[]⟩ w);have i:=qH n;rw [n];clear n;go_enter Tryz.func128,Tryz.ntmps128;go_upto_region 3 with fail;have p:=(iA w).alloc (.cells #[.int .i64 I,.int .i64 b,.int .i64 c,.int .i64 L,.int .i64 M,.int .i64 ne] 145);have q:(w.alloc (.cells #[.int .i64 I,.int .i64 b,.int .i64 c,.int .i64 L,.int .i64 M,.int .i64 ne] 145)).heap.size=w.heap.size+1:=aB _ _;generalize w.alloc (.cells #[.int .i64 I,.int .i64 b,.int .i64 c,.int .i64 L,.int .i64 M,.int .i64 ne] 145)=m at *;have f:=jA m 51 #[.int .i64 0,.int .i64 0,.string ⟨#[]⟩,.slice none 0 0,.slice none 0 0];have r:=p.alloc (.cells #[.int .i64 0,.int .i64 0,.string ⟨#[]⟩,.slice none 0 0,.slice none 0 0] 51);have B:(m.alloc (.cells #[.int .i64 0,.int .i64 0,.string ⟨#[]⟩,.slice none 0 0,.slice none 0 0] 51)).heap.size=m.heap.size+1:=aB _ _;generalize m.alloc (.cells #[.int .i64 0,.int .i64 0,.string ⟨#[]⟩,.slice none 0 0,.slice none 0 0] 51)=o at *;have j:=jA o 51 #[.int .i64 b,.int .i64 c,.string ⟨#[]⟩,.slice none 0 0,.slice none 0 0];have s:=r.alloc (.cells #[.int .i64 b,.int .i64 c,.string ⟨#[]⟩,.slice none 0 0,.slice none 0 0] 51);have f:=f.same ((iA o).alloc (.cells #[.int .i64 b,.int .i64 c,.string ⟨#[]⟩,.slice none 0 0,.slice none 0 0] 51));generalize o.alloc (.cells #[.int .i64 b,.int .i64 c,.string ⟨#[]⟩,.slice none 0 0,.slice none 0 0] 51)=z at *;have g:w.heap.size+1+1=o.heap.size:=qO;rw [g,<-q];have a:w.heap.size<=m.heap.size:=qO;have t:m.heap.size≠o.heap.size:=qO;generalize m.heap.size=H at *;generalize o.heap.size=T at *;obtain ⟨V,X,Y,Z,p4⟩:=j.five;have R:=qH s;have k:=qH f;have C:=qH j;have D:Hid (w.heap.size<=H/\H≠T):=qH ⟨a,t⟩;have S:Hid (Calls Tryz.prog 139 #[.agg #[.int .i64 b,.int .i64 c,.string ⟨#[]⟩,.slice none 0 0,.slice none 0 0]] z fun e w'=>e=.returned (.int .i64 (chk ⟨b,c,noText,[],[]⟩))/\Same z w'):=qH (by obtain ⟨F,h⟩:=N.out z;exact yS z h (show (⟨#[]⟩:ByteArray).size<=9223372036854775807 by decide) (fun _ h=>by cases h))
 unfold SimR at i;generalize chk ⟨b,c,noText,[],[]⟩=U at *;clear f j s B g q a t p r N;generalize y:w.heap.size=g0 at *;have E:=qH y;clear y;go_wp2_with fail;refine S.mono ?_;rintro e O ⟨rfl,d⟩;have u:=qH (R.trans d qf);obtain ⟨V,X,Y,Z,p4⟩:=(C.same d).five;obtain ⟨r0,r1,r2,r3,r4⟩:=(k.same d).five;obtain ⟨z0,z1,z2,z3,z4⟩:=(k.same d).five_free;have G:=qH (k.same d);clear d;by_cases l:U=0
 case neg =>
  have v:=qH l;clear l;go_wp2_with fail;refine (UH O v).mono ?_;rintro e w5 ⟨rfl,rfl⟩;refine ⟨rfl,?_⟩;rw [<- i.out];exact ⟨u,.inl ⟨v,rfl⟩⟩
 subst l;go_wp2_with fail;refine (zF O).mono ?_;rintro e w5 ⟨rfl,rfl⟩;go_wp2_with fail;refine XZ rfl (G.put5 (.int .i64 b) (.int .i64 c) (.string ⟨#[]⟩) (.slice none 0 0) (.slice none 0 0)) ?_;rw [<- i.out];have a:w.heap.size<=H:=by rw [E.out];exact D.1
 exact ⟨CC (CC (CC (CC (CC u a _) a _) a _) a _) a _,.inr ⟨by first | rfl | trivial,_,rfl,_,_,rfl,iC _ _ _ _,iC _ _ _ _⟩⟩
end
section
open Go.RowKit
theorem ZoV (f:YA) (i:Int):WH f i=match mK f i with | .error e=>.error e | .ok l=>.ok ((l.map (atD f)).flatMap AF):=by
 unfold WH mK;split
 · rfl
 split
 · rfl
 cases mD f (f.recs.length+1) [] i.toNat with
 | error e=>rfl
 | ok l =>
   simp only;congr 1;rw [jN];congr 1;funext j;unfold atD;cases f.at_ j with
   | none=>rfl
   | some d=>rfl
def LdR (w:World) (X:Except Int (List UInt8)) (e:Ending) (w':World):Prop:=Same w w' /\
 match X with
 | .error er=>e=.returned (.tuple #[.slice none 0 0,.int .i64 er])/\er≠0
 | .ok bs=>∃ v,e=.returned (.tuple #[v,.int .i64 0])/\OwnB w' w.heap.size v bs/\bs.length<=1638400
theorem Zrj {f vs z low:Nat} {v:Value} {l:List BS} (w:World) (hP:PF w B f k vs z v l low) (i:Int) (hi : -9223372036854775808<=i/\i<=9223372036854775807):
 Calls Tryz.prog 170 #[.pointer (some ⟨f,0,none⟩),.int .i64 i] w (LdR w (WH (filD k vs z l) i)):=by
 have t:=ZqP w hP i hi;have a2:(filD k vs z l).recs.length<=65536:=by have:=hP.len;simpa [filD] using this
 rw [ZoV];obtain ⟨FD,Y⟩:=qx (filD k vs z l);rw [Y] at t a2 ⊢;unfold AlR at t;have y:=qH t;clear t hP Y;cases hX:mK FD i with
 | error er =>
   rw [hX] at y;clear hX;simp only;go_enter Tryz.func170,Tryz.ntmps170;go_wp2_with fail;refine y.mono ?_;rintro e I ⟨p,rfl,Z⟩;have C:=qH p;have a3:=qH Z;clear p Z;go_wp2_with fail;go_loopg [9,21] 0 (fun gh s9 s wr=>gh=0/\s9=.slice none 0 0/\s=.int .i64 0/\wr=I)
   case atStart=>exact ⟨rfl,rfl,rfl,rfl⟩
   case round =>
   obtain ⟨rfl,rfl,rfl,rfl⟩:=hrel;go_wp2
   go_ret2
   exact ⟨C,rfl,a3⟩
 | ok ids =>
   rw [hX] at y;clear hX;simp only;obtain ⟨R,hR⟩:=qx ((ids.map (atD FD)).flatMap AF);rw [hR];have HR:=qH hR;clear hR;go_enter Tryz.func170,Tryz.ntmps170;go_wp2_with fail;refine y.mono ?_;rintro e I ⟨p,v1,v2,g,rfl,E,j,a0⟩;obtain ⟨m,hm⟩:=qx g.length;have ad:m<=65536:=by have h1:=tB List.length j;rw [nA,nA] at h1;omega
   obtain ⟨A2,c2,rfl⟩:=WA E.row;have HB:=qH E;have HM:=qH hm;have C:=qH p;have a4:Hid ((g.map BV.d).flatMap AF=R):=qH (by rw [j];exact HR);rw [hm];have a5:w.heap.size<=I.heap.size:=p.size;clear p E hm j a0;go_wp2_with fail;go_loopg [9,21] m (fun gh s9 ab wr=>∃ (k:Nat) (a:Option Addr) (n c:Nat),m-k=gh/\k<=m/\s9=.slice a n c/\ab=.int .i64 (k:Int)/\n<=25*k/\Hid ((((g.take k).map BV.d).flatMap AF).length=n)/\Hid (wr.ownsRow I.heap.size 5 1 (.slice a n c) n ((((g.take k).map BV.d).flatMap AF).map u8v))/\Hid (Same I wr))
   case atStart=>exact ⟨0,none,0,0,rfl,oA _,rfl,rfl,lA _,qH rfl,qH (iC _ _ _ _),qH (eA _ _)⟩
   obtain ⟨k,a,n,c,rfl,hk,rfl,rfl,hn,KL,KO,KS⟩:=hrel;by_cases a6:k<m
   · have E:=HB.same KS;have r:=E.row;rw [HM.out] at r;obtain ⟨b,o,x,hA,hb,hF,hx,a1,M⟩:=WRow.atF (Row.weak (xF r)) BV.four qO a6;have ho:o=0:=by
      have P:=hA.symm.trans hF.1;injection P with P
      injection P
     subst hA;subst ho;rw [AE] at M;have r0:wr.cell? ⟨b,k*4,none⟩=_:=M 0 _ rfl;have r1:=M 1 _ rfl;have r2:=M 2 _ rfl;have r3:=M 3 _ rfl;clear hF;have j1:(k:Int)<(m:Int):=qO;have F:=E.each x a1;have S:=F.used;have h:=F.row;have T:(g.take (k+1)).map BV.d=(g.take k).map BV.d++[x.d]:=by rw [eD,hx,DB];rfl
     have G:Hid (((g.take (k+1)).map BV.d).flatMap AF=((g.take k).map BV.d).flatMap AF++AF x.d):=qH (by rw [T,jF,List.flatMap_singleton]);obtain ⟨d,Ax,cx⟩:=x;unfold BV.bs at h;simp only at h S r0 r1 r2 r3;obtain ⟨N,O,ac⟩:∃ N O,Ax=some ⟨N,O,none⟩:=by obtain ⟨N,O,P,_⟩:=pA.at_ (show pA wr (TyB wr 0) Ax 25 cx (d.drop 6) from h) (i:=0) qO;exact ⟨N,O,P⟩
     subst ac;have A:=pA.head (show pA wr (TyB wr 0) (some ⟨N,O,none⟩) 25 cx (d.drop 6) from h) S;have j:(d.drop 6).take (VD d)=AF d:=rfl;rw [j] at A;have U:=ZG A;have ae:25<=cx:=Row.le h;have a7:=qH A;have a8:Hid ((AF d).length=VD d):=qH U;simp only at G;generalize AF d=D at *;generalize VD d=u at *;generalize (JB d:Int)=s at *;generalize gF d=nx at *;have af:(0:Int)<=(u:Int)/\(u:Int)<=25:=qO;have ag:(u:Int)<=(cx:Int):=qO;clear E r hx a1 M F h T j A U;have H:=(iA wr).alloc (.cells #[.int .i64 s,.int .i64 (u:Int),.int .i64 nx,.slice (some ⟨N,O,none⟩) 25 cx] 203);have V:=qH H;have a9:=qH (mA KO H);have ah:I.heap.size<=wr.heap.size:=KS.size;clear H;go_wp2_with (at_builtin;go_must (refine XD rfl (.tmp 25) (.tmp 30) _ _ rfl I.heap.size 5 1 1 _ yD uI rfl (.slice a n c) n _ rfl a9 rfl (GD yD (pA.same a7 V) (rS _)) qM qO qP ?_);intro v7 w7 L;obtain ⟨A7,c7,rfl⟩:=WA L.own;have W:=qH L;clear L);go_roundg (m-(k+1))
     case measure=>omega
     refine ⟨k+1,A7,n+u,c7,rfl,qO,rfl,qN,qO,qH (by rw [G.out,kA,KL.out,a8.out]),qH ?_,qH ?_⟩
     · have X:=W.own;rw [G.out,DB];exact X
     exact (KS.trans V qf).trans W.upd fun q hq hh=>by have:=(KO.lt q hh).1;omega
   have aa:k=m:=qO;subst aa;have X:=KO.out;have h8:=KL.out;rw [cB (by first | rw [HM.out];exact lA _ | rw [HM];exact lA _),a4.out] at X h8;have H9:=qH X;have H8:=qH h8;clear X h8 KO KL;go_wp2
   go_ret2
   refine ⟨C.trans KS.out qf,_,rfl,?_,?_⟩
   · unfold OwnB;rw [H8.out];exact RA H9.out a5
   rw [H8.out];omega
attribute [local go_sem] oD
structure BlM (w:World) (mB cnt:Nat) (fB:Int->Option Value) (mb:List Nat):Prop where
 map:MpI w mB cnt fB
 cnt:cnt<=65536
 ids:∀ j:Nat,fB (j:Int)=if j∈mb then some (.int .i64 1) else none
def BlbR (s:St1) (x:P1) (mb:List Nat) (w:World) (mB cnt:Nat) (e:Ending) (w':World):Prop :=
 Upd (fun b=>b=mB) w w'/\match val1 s x mb with
 | .error er=>e=cF er
 | .ok (g,mb')=>∃ v fB',e=.returned v/\cJ w' w.heap.size v g/\MpI w' mB (cnt+1) fB'/\∀ j:Nat,fB' (j:Int)=if j∈mb' then some (.int .i64 1) else none
abbrev GU (w3:World) (rd p fb xb:Nat) (bl:Int) (wx:World):Prop:=Same w3 wx/\wx.cell? ⟨rd,0,none⟩=some (.pointer (some ⟨p,0,none⟩))/\wx.cell? ⟨p,6,none⟩=some (.pointer (some ⟨fb,0,none⟩))/\wx.cell? ⟨xb,3,none⟩=some (.int .i64 bl)
theorem ZuE (w:World) {bl:Nat} {q:StP} {s:St1} {fB:Int->Option Value} (x:P1) (hk:4<=x.kind/\x.kind<=9223372036854775807) (bn : -9223372036854775808<=x.blob/\x.blob<=9223372036854775807)
 (hs:StM w B p q s) (hr:Blk w rd 84 #[.pointer (some ⟨p,0,none⟩),m1,m2,m3,ch,mt,.map (some mB)]) (hm:BlM w mB bl fB mb):
 Calls Tryz.prog 128 #[.pointer (some ⟨rd,0,none⟩),.agg x.cells] w (BlbR s x mb w mB bl):=by
 obtain ⟨OR,a6⟩:=qx (BlbR s x mb w mB bl);have l:Hid (val1 s x mb=match WH s.blobs x.blob with
  | .error e=>.error e
  | .ok b=>if x.blob.toNat∈mb then .error 101 else if (decA b).2≠0 then .error (decA b).2 else if (decA b).1.kind≠x.kind then .error 40 else .ok ((decA b).1,x.blob.toNat::mb)):=qH (by unfold val1;rw [aA qO];rfl)
 have T:Hid (∀ er W,val1 s x mb=.error er->Upd (fun b=>b=mB) w W->OR (cF er) W):=qH fun er W u z=>by rw [<- a6];unfold BlbR;rw [u];exact ⟨z,rfl⟩
 have bh:Hid (∀ g ai W v a7,val1 s x mb=.ok (g,ai)->Upd (fun b=>b=mB) w W->cJ W w.heap.size v g->MpI W mB (bl+1) a7->(∀ j:Nat,a7 (j:Int)=if j∈ai then some (.int .i64 1) else none)->OR (.returned v) W):=qH fun g ai W v a7 u z h3 h4 h5=>by rw [<- a6];unfold BlbR;rw [u];exact ⟨z,v,a7,rfl,h3,h4,h5⟩
 rw [a6];clear a6;generalize val1 s x mb=V at *;obtain ⟨ke,ki,nu,F,pr,ne⟩:=x;unfold P1.cells;simp only at hk bn l ⊢;have c8:¬ ki<=3:=qO;have HS:=qH hs;have HR:=qH hr;have HM:=qH hm;have U:=qH bn;clear hs hr hm bn hk;go_enter Tryz.func128,Tryz.ntmps128;go_upto_region 5 with fail;have X:=jA w 145 #[.int .i64 ke,.int .i64 ki,.int .i64 nu,.int .i64 F,.int .i64 pr,.int .i64 ne];have al:=(iA w).alloc (.cells #[.int .i64 ke,.int .i64 ki,.int .i64 nu,.int .i64 F,.int .i64 pr,.int .i64 ne] 145);have am:(w.alloc (.cells #[.int .i64 ke,.int .i64 ki,.int .i64 nu,.int .i64 F,.int .i64 pr,.int .i64 ne] 145)).heap.size=w.heap.size+1:=aB _ _;rw [<- am];generalize w.alloc (.cells #[.int .i64 ke,.int .i64 ki,.int .i64 nu,.int .i64 F,.int .i64 pr,.int .i64 ne] 145)=w1 at *;have an:=jA w1 51 #[.int .i64 0,.int .i64 0,.string ⟨#[]⟩,.slice none 0 0,.slice none 0 0];have ao:=al.alloc (.cells #[.int .i64 0,.int .i64 0,.string ⟨#[]⟩,.slice none 0 0,.slice none 0 0] 51);have X:=X.same ((iA w1).alloc (.cells #[.int .i64 0,.int .i64 0,.string ⟨#[]⟩,.slice none 0 0,.slice none 0 0] 51));have m:w.heap.size<=w1.heap.size:=qO;generalize w1.alloc (.cells #[.int .i64 0,.int .i64 0,.string ⟨#[]⟩,.slice none 0 0,.slice none 0 0] 51)=P at *;have bi:=qH m;have Y:=qH X;have ap:=qH an;have Z:=qH ao;clear X an ao al am m;generalize w1.heap.size=R at *;generalize ba:w.heap.size=S at *;have aq:=qH ba;clear ba;have bj:Same P P.drew:=(eA _ P).drew;have ar:=HR.same Z.out;have a0:=HS.same Z.out;have au:Hid (∀ a,Same P a->GU P rd p q.fb S F a):=qH fun a h=>⟨h,(ar.same h).cell 0,(a0.blk.same h).cell 6,(Y.same h).cell 3⟩
 have r:Hid (∀ a,Same P a->Calls Tryz.prog 170 #[.pointer (some ⟨q.fb,0,none⟩),.int .i64 F] a fun e d=>LdR a (WH s.blobs F) e d/\Same P d):=qH fun a h=>by have u:=Zrj a (a0.fb.same h) F U.out;rw [a0.eb] at u;exact u.mono fun e d z=>⟨z,h.trans z.1 qf⟩
 clear ar a0;generalize q.fb=fb at *;unfold LdR at r;rcases hL:WH s.blobs F with er | bs
 · rw [hL] at r l;simp only at r l;clear hL;go_region_held3 (fun a=>GU P rd p fb S F a) (exact au _ qA) (first
    | (go_at_call 170;refine (r.out _ qA).mono ?_;rintro e d ⟨⟨hs,rfl,bb⟩,G⟩))
   have bk:=qH bb;have bm:=Z.trans G qf;clear bb;go_wp2_with fail;refine (UH d bk).mono ?_;rintro e w5 ⟨rfl,rfl⟩;exact ⟨rfl,T.out _ _ l (bm.mono qe)⟩
 have c9:0<=F:=by
  unfold WH at hL;split at hL
  · cases hL
  split at hL
  · cases hL
  rename_i u;omega
 rw [hL] at r l;simp only at r l;clear hL;obtain ⟨c,rfl⟩:∃ c:Nat,F=(c:Int):=⟨F.toNat,qO⟩
 rw [XB] at l;go_region_held3 (fun a=>GU P rd p fb S (c:Int) a) (exact au _ qA) (first
  | (go_at_call 170;refine (r.out _ qA).mono ?_;rintro e d ⟨⟨hs,v,rfl,ho,bc⟩,G⟩;obtain ⟨A7,c7,rfl⟩:=WA ho))
 obtain ⟨n7,aj⟩:=qx bs.length;have ad:=qH aj;have HO:=qH ho;have C:=qH (Z.trans G qf);have n:=qH G;rw [aj] at bc ⊢;clear ho hs G aj bj;go_wp2_with fail;refine (zF d).mono ?_;rintro e w5 ⟨rfl,rfl⟩;have ae:=HM.map.same C.out;have r6:=(HR.same C).c6;have x3:=(Y.same n).c3;obtain ⟨A,a8⟩:∃ A:Nat,(fB (c:Int)).getD (.int .i64 0)=.int .i64 (A:Int)/\A=if c∈mb then 1 else 0:=by
  rw [HM.ids c];by_cases h:c∈mb
  · exact ⟨1,by rw [gA h];rfl,by rw [gA h]⟩
  exact ⟨0,by rw [aA h];rfl,by rw [aA h]⟩
 have c5:A<=1:=by rw [a8.2];split <;> omega
 have bo:=qH a8.2;have av:∀ a,Same d a->(Instr.lookup 71 (.map (some mB)) (.int .i64 (c:Int)) false).run Tryz.prog a=.ok (.int .i64 (A:Int)) a:=fun a h=>by have u:=((ae.same h).look vE (aF a) (i:=(c:Int)) U).2;rw [a8.1] at u;exact u
 have ca:IntKind.i64.wrap ((A:Int)+1)=(A:Int)+1:=kF _ ⟨qO,qO⟩;clear a8;go_upto_region 7 with fail;refine eE 8 (fun a=>a.cell? ⟨rd,6,none⟩=some (.map (some mB))/\a.cell? ⟨S,3,none⟩=some (.int .i64 (c:Int))/\(Instr.lookup 71 (.map (some mB)) (.int .i64 (c:Int)) false).run Tryz.prog a=.ok (.int .i64 (A:Int)) a) qK ⟨r6,x3,av _ (eA _ d).drew⟩ (fun O=>?_)
 repeat
  first
   | refine bC 0 (v:=?_) rfl (Or.inl ⟨qR,?_⟩) qA ?_
   | refine bC 1 (v:=?_) rfl (Or.inl ⟨qR,?_⟩) qA ?_
   | refine bC 2 (v:=?_) rfl (Or.inl ⟨qR,?_⟩) qA ?_
   | refine bC 3 (v:=?_) rfl (Or.inl ⟨qR,?_⟩) qA ?_
   | refine bC 4 (v:=?_) rfl (Or.inl ⟨qR,?_⟩) qA ?_
   | refine bC 5 (v:=?_) rfl (Or.inl ⟨qR,?_⟩) qA ?_
   | refine bC 6 (v:=?_) rfl (Or.inl ⟨qR,?_⟩) qA ?_
   | refine bC 7 (v:=?_) rfl (Or.inl ⟨qR,?_⟩) qA ?_
  rotate_left
  · intro a y;have h0:=y.1;have u:=y.2.1;have z:=y.2.2;go_simp;try with_reducible rfl
  simp only [Act.put,zA,qB,oB,iB,CA,JA]
 have aw:=ae.same (iA d).drew;obtain ⟨f,c4,bd,bf⟩:=aw.store vE (by have:=HM.cnt;unfold maxLen;omega) (i:=(c:Int)) U (.int .i64 ((A:Int)+1));refine bD rfl (fun K hK=>?_);go_simp;refine hK.out _ _ ?_;clear hK K c4 O av ae aw r6 x3;have L:Hid (Upd (fun b=>b=mB) d f):=qH (((eA (fun b=>b=mB) d).drew).trans bf qf);have ax:=qH bd;have o:∀ {g:Nat} {t:TypeId} {cs:Array Value},Blk d g t cs->g≠mB:=fun h e=>(HM.map.same C).ne h e.symm;have bp:=qH ((HR.same C).upd L (o (HR.same C)));have ay:=qH ((Y.same n).upd L (o (Y.same n)));have bq:=qH ((ap.same n).upd L (o (ap.same n)));have br:Hid (OwnB f P.drew.heap.size (.slice A7 n7 c7) bs):=qH (by
  have h:=HO.out;rw [ad.out] at h;exact GA h L.out fun g hg e=>by obtain ⟨cs,h5⟩:=LA h hg;exact o h5 e)
 clear bf bd o;have az:(c∈mb/\A=1)\/(c ∉ mb/\A=0):=by
  rw [bo.out];by_cases h:c∈mb
  · exact .inl ⟨h,gA h⟩
  exact .inr ⟨h,aA h⟩
 have E:Hid (∀ a,Same f a->Same f a/\a.cell? ⟨rd,6,none⟩=some (.map (some mB))/\a.cell? ⟨S,3,none⟩=some (.int .i64 (c:Int))/\(Instr.lookup 71 (.map (some mB)) (.int .i64 (c:Int)) false).run Tryz.prog a=.ok (.int .i64 ((A:Int)+1)) a):=qH fun a h=>⟨h,(bp.same h).cell 6,(ay.same h).cell 3,by have u:=((ax.same h).look vE (aF a) (i:=(c:Int)) U).2;rw [show mpPI fB (c:Int) (.int .i64 ((A:Int)+1)) (c:Int)=some (.int .i64 ((A:Int)+1)) from gA rfl] at u;exact u⟩
 have b0:Same f f.drew:=(eA _ f).drew;have b1:Hid (Upd (fun b=>b=mB) w f):=qH ((C.mono qe).trans L qf);rcases az with ⟨k,rfl⟩ | ⟨k,rfl⟩
 · have HE:=qH (l.trans (gA k));have b2:Hid (∀ a,Same f a->Calls Tryz.prog 66 #[.bool false,.int .i64 101] a fun e d=>(e=cF 101/\a=d)/\Same f d):=qH fun a h=>(gD a 101).mono fun e d z=>⟨z,z.2 ▸ h⟩
   clear k;have E:Hid (∀ a,Same f a->Same f a/\a.cell? ⟨rd,6,none⟩=some (.map (some mB))/\a.cell? ⟨S,3,none⟩=some (.int .i64 (c:Int))/\(Instr.lookup 71 (.map (some mB)) (.int .i64 (c:Int)) false).run Tryz.prog a=.ok (.int .i64 2) a):=E;go_upto_region 8 with fail;refine eE 8 (fun a=>a.cell? ⟨rd,6,none⟩=some (.map (some mB))/\a.cell? ⟨S,3,none⟩=some (.int .i64 (c:Int))/\(Instr.lookup 71 (.map (some mB)) (.int .i64 (c:Int)) false).run Tryz.prog a=.ok (.int .i64 2) a) qK (E.out _ b0).2 (fun O=>?_)
   repeat
    first
     | refine bC 0 (v:=?_) rfl (Or.inl ⟨qR,?_⟩) qA ?_
     | refine bC 1 (v:=?_) rfl (Or.inl ⟨qR,?_⟩) qA ?_
     | refine bC 2 (v:=?_) rfl (Or.inl ⟨qR,?_⟩) qA ?_
     | refine bC 3 (v:=?_) rfl (Or.inl ⟨qR,?_⟩) qA ?_
     | refine bC 4 (v:=?_) rfl (Or.inl ⟨qR,?_⟩) qA ?_
     | refine bC 5 (v:=?_) rfl (Or.inl ⟨qR,?_⟩) qA ?_
     | refine bC 6 (v:=?_) rfl (Or.inl ⟨qR,?_⟩) qA ?_
     | refine bC 7 (v:=?_) rfl (Or.inl ⟨qR,?_⟩) qA ?_
    rotate_left
    · intro a y;have h0:=y.1;have u:=y.2.1;have z:=y.2.2;go_simp;try with_reducible rfl
    simp only [Act.put,zA,qB,oB,iB,CA,JA]
   refine bD rfl (fun K hK=>?_);go_simp;refine (gD _ 101).mono ?_;rintro e w5 ⟨rfl,rfl⟩;exact ⟨rfl,T.out _ _ HE (b1.trans ((eA (fun b=>b=mB) f).drew) qf)⟩
 have E:Hid (∀ a,Same f a->Same f a/\a.cell? ⟨rd,6,none⟩=some (.map (some mB))/\a.cell? ⟨S,3,none⟩=some (.int .i64 (c:Int))/\(Instr.lookup 71 (.map (some mB)) (.int .i64 (c:Int)) false).run Tryz.prog a=.ok (.int .i64 1) a):=E;have l:=qH (l.trans (aA k));have b2:Hid (∀ a,Same f a->Calls Tryz.prog 66 #[.bool true,.int .i64 101] a fun e d=>(e=.returned (.tuple #[])/\a=d)/\Same f d):=qH fun a h=>(lD a 101).mono fun e d z=>⟨z,z.2 ▸ h⟩
 have b3:=qH k;clear k;go_upto_region 8 with fail;go_region_held3 (fun a=>Same f a/\a.cell? ⟨rd,6,none⟩=some (.map (some mB))/\a.cell? ⟨S,3,none⟩=some (.int .i64 (c:Int))/\(Instr.lookup 71 (.map (some mB)) (.int .i64 (c:Int)) false).run Tryz.prog a=.ok (.int .i64 1) a) (exact E _ qA) (first
  | (go_at_call 66;refine (b2.out _ qA).mono ?_;rintro e d ⟨⟨rfl,rfl⟩,G⟩))
 clear b0;obtain ⟨wq,ak⟩:=qx f.drew;have a1:Same f wq:=ak ▸ (iA f).drew;rw [ak];have bt:=qH a1;have b4:=(NK ad br).same a1;have b5:Hid (decD n7 (decP (bs.take 40082))=decA bs):=qH (by rw [ZrC _ (lA _)];unfold decA;rw [ad.out]);obtain ⟨⟨⟨gk,gn,gt,cb,cc⟩,er⟩,hD⟩:∃ D:GVal×Int,decA bs=D:=⟨_,rfl⟩
 rw [hD] at b5 l;simp only at l;have bu:=qH (Zog wq b4 _ b5);have ab:Hid (Upd (fun b=>b=mB) w wq):=qH (b1.trans (a1.mono qe) qf);clear b4 hD a1 ak;go_wp2_with fail;refine bu.mono ?_;rintro e wr ⟨v,rfl,⟨v1,v2,rfl,a9,aa⟩,bg⟩;simp only at a9 aa;obtain ⟨A1,H,q1,rfl⟩:=DE a9;obtain ⟨A2,I,q2,rfl⟩:=DE aa;have b6:=qH bg;have bv:=qH a9;have bw:=qH aa;clear bg a9 aa;go_upto_region 10 with fail;have b7:=jA wr 51 #[.int .i64 gk,.int .i64 gn,.string gt,.slice A1 H q1,.slice A2 I q2];have a2:=(iA wr).alloc (.cells #[.int .i64 gk,.int .i64 gn,.string gt,.slice A1 H q1,.slice A2 I q2] 51);generalize wr.alloc (.cells #[.int .i64 gk,.int .i64 gn,.string gt,.slice A1 H q1,.slice A2 I q2] 51)=w8 at *;generalize wr.heap.size=b8 at *;have bx:=qH b7;have af:=qH ((bt.trans b6 qf).trans a2 qf);have ac:=qH a2;have M:Hid (Upd (fun b=>b=mB) w w8):=qH ((ab.trans (b6.mono qe) qf).trans (a2.mono qe) qf);clear b7 a2;by_cases a3:er=0
 case neg =>
  have HE:=qH (l.trans (gA a3));have bz:=qH a3;clear a3;go_wp2_with fail;refine (UH w8 bz).mono ?_;rintro e w5 ⟨rfl,rfl⟩;exact ⟨rfl,T.out _ _ HE M⟩
 subst a3;have l:=qH (l.trans (aA qS));obtain ⟨p0,p1,p2,p3,p4⟩:=bx.five;have x1:=(ay.same af).c1;go_wp2_with fail;refine (zF w8).mono ?_;rintro e w5 ⟨rfl,rfl⟩;by_cases N:gk=ki
 case neg =>
  have HE:=qH (l.trans (gA N));have c0:(gk==ki)=false:=WC.2 N;go_wp2_with fail;refine (gD w8 40).mono ?_;rintro e w5 ⟨rfl,rfl⟩;exact ⟨rfl,T.out _ _ HE M⟩
 have l:=qH (l.trans (aA (fun h=>h N)));have c0:(gk==ki)=true:=jE.2 N;clear N;have a4:=bq.same af.out;obtain ⟨r0,r1,r2,r3,r4⟩:=a4.five;obtain ⟨z0,z1,z2,z3,z4⟩:=a4.five_free;have a5:=qH a4;clear a4;go_wp2_with fail;refine (lD w8 40).mono ?_;rintro e w5 ⟨rfl,rfl⟩;go_wp2_with fail;have m:w.heap.size<=R:=by rw [aq.out];exact bi
 refine XZ rfl (a5.put5 (.int .i64 gk) (.int .i64 gn) (.string gt) (.slice A1 H q1) (.slice A2 I q2)) ?_;have ag:Upd (fun b=>b=R) w8 (put5 w8 R (.int .i64 gk) (.int .i64 gn) (.string gt) (.slice A1 H q1) (.slice A2 I q2)):=(((((eA (fun b=>b=R) w8).setCell (p:=⟨R,0,none⟩) (.inl rfl) _).setCell (p:=⟨R,1,none⟩) (.inl rfl) _).setCell (p:=⟨R,2,none⟩) (.inl rfl) _).setCell (p:=⟨R,3,none⟩) (.inl rfl) _).setCell (p:=⟨R,4,none⟩) (.inl rfl) _;have b9:S<=wq.heap.size:=by rw [<- aq.out];exact ab.size
 have c2:fB (c:Int)=none:=by rw [HM.ids c,aA b3.out]
 have ah:=ax.same af.out;rw [c2] at ah;have o1:=mA (RA bv b9) ac.out;have o2:=mA (RA bw b9) ac.out;have hW:Upd (fun b=>b=mB) w (put5 w8 R (.int .i64 gk) (.int .i64 gn) (.string gt) (.slice A1 H q1) (.slice A2 I q2)):=CC (CC (CC (CC (CC M m _) m _) m _) m _) m _;refine bh _ _ _ _ (mpPI fB (c:Int) (.int .i64 1)) l hW ⟨_,_,rfl,GA o1 ag fun g hg e=>a5.ne_own o1 qD (e ▸ hg),GA o2 ag fun g hg e=>a5.ne_own o2 qD (e ▸ hg)⟩ (ah.upd ag fun e=>ah.ne a5 e) fun j=>?_;unfold mpPI;by_cases e:j=c
 · rw [gA qO,gA (by simp [e])]
 rw [aA qO,HM.ids j];simp [e]
end
section
structure LsI (s:St1) (head:Int) (mp0 mb0:List Nat) (k:Nat) (had:List Int) (last id:Int) (mp mb:List Nat) (out:List GPr):Prop where
 le:k<=16
 len:out.length=k
 eq:MB s 16 [] (-1) head mp0 mb0=match MB s (16-k) had last id mp mb with
  | .error e=>.error e
  | .ok (l,a,b)=>.ok (out++l,a,b)
section
variable {s:St1} {head:Int} {mp0 mb0:List Nat} {k:Nat} {had:List Int} {last id:Int} {mp mb:List Nat} {out:List GPr}
theorem LsI.start:LsI s head mp0 mb0 0 [] (-1) head mp0 mb0 []:=⟨oA _,rfl,by simp only [BH,SB];rcases MB s 16 [] (-1) head mp0 mb0 with e | ⟨l,a,b⟩ <;> rfl⟩
theorem LsI.done (h:LsI s head mp0 mb0 k had last id mp mb out) (hi:id = -1):MB s 16 [] (-1) head mp0 mb0=.ok (out,mp,mb):=by
 have a:MB s (16-k) had last id mp mb=.ok ([],mp,mb):=by
  cases 16-k with
  | zero=>rw [MB,gA hi]
  | succ n=>rw [MB,gA hi]
 rw [h.eq,a];simp
theorem LsI.full (h:LsI s head mp0 mb0 k had last id mp mb out) (hi:id ≠ -1) (hk:k=16):MB s 16 [] (-1) head mp0 mb0=.error 64:=by subst hk;rw [h.eq,SD,MB,aA hi]
theorem LsI.err (h:LsI s head mp0 mb0 k had last id mp mb out) (hi:id ≠ -1) (hk:k<16) {er:Int} (he:tJ s had last id mp mb=.error er):MB s 16 [] (-1) head mp0 mb0=.error er:=by
 obtain ⟨n,a⟩:∃ n,16-k=n+1:=⟨15-k,qO⟩
 rw [h.eq,a,MB,aA hi,he]
theorem LsI.step (h:LsI s head mp0 mb0 k had last id mp mb out) (hi:id ≠ -1) (hk:k<16) {x:P1} {v:GVal} {mb':List Nat} (he:tJ s had last id mp mb=.ok (x,v,mb')):
 LsI s head mp0 mb0 (k+1) (x.key::had) id x.next (id.toNat::mp) mb' (out++[⟨FB s.keys x.key,v⟩]):=by
 obtain ⟨n,c⟩:∃ n,16-k=n+1:=⟨15-k,qO⟩
 refine ⟨hk,by rw [kA,h.len];rfl,?_⟩;rw [h.eq,c,MB,aA hi,he,show 16-(k+1)=n by omega];simp only;rcases MB s n (x.key::had) id x.next (id.toNat::mp) mb' with e | ⟨l,a,b⟩
 · rfl
 simp
end
end
section
open Go.RowKit
structure MsN (w:World) (m:Nat) (l:List Nat) (N:Nat):Prop where
 map:∃ f,MpI w m l.length f/\∀ j:Nat,f (j:Int)=if j∈l then some (.int .i64 1) else none
 nodup:l.Nodup
 lt:∀ i∈l,i<N
 max:N<=65536
theorem IU (h:l.Nodup) (hl:∀ i∈l,i<N):l.length<=N:=by have a:=oJ h (U:=List.range N) fun i b=>vF.2 (hl i b);rwa [TI] at a
section
variable {w w':World} {m N:Nat} {l:List Nat}
theorem MsN.upd (h:MsN w m l N) (hu:Upd S w w') (hs:¬ S m):MsN w' m l N:=by obtain ⟨⟨f,a,b⟩,c,d,e⟩:=h;exact ⟨⟨f,a.upd hu hs,b⟩,c,d,e⟩
theorem MsN.same (h:MsN w m l N) (hu:Same w w'):MsN w' m l N:=h.upd hu fun f=>f
theorem MsN.ne {g:Nat} {t:TypeId} {cs:Array Value} (h:MsN w m l N) (hb:Blk w g t cs):m≠g:=by obtain ⟨⟨f,a,b⟩,c⟩:=h;exact a.ne hb
theorem MsN.made (w:World) (hN:N<=65536):MsN (w.alloc (.map #[] 0)) w.heap.size [] N:=⟨⟨_,WN w,fun j=>qS⟩,NL,qS,hN⟩
end
theorem MsN.inc (h:MsN w m l N) (hj:j<N) (hn:j ∉ l):(∀ wx,Same w wx->(Instr.lookup 71 (.map (some m)) (.int .i64 (j:Int)) false).run Tryz.prog wx=.ok (.int .i64 0) wx) /\
 ∃ w',(Instr.mapUpdate 71 (.map (some m)) (.int .i64 (j:Int)) (.int .i64 1)).run Tryz.prog w=.ok () w'/\Upd (fun b=>b=m) w w'/\MsN w' m (j::l) N /\
  ∀ wx,Same w' wx->(Instr.lookup 71 (.map (some m)) (.int .i64 (j:Int)) false).run Tryz.prog wx=.ok (.int .i64 1) wx:=by
 obtain ⟨⟨f,o,p⟩,q,r,s⟩:=h;have a : -9223372036854775808<=(j:Int)/\(j:Int)<=9223372036854775807:=qO;have n:f (j:Int)=none:=by rw [p j,aA hn]
 have v:=IU q r;refine ⟨fun wx d=>?_,?_⟩
 · have c:=((o.same d).look vE (aF wx) a).2;rwa [n] at c
 obtain ⟨w',t,g,u⟩:=o.store vE qM a (.int .i64 1);rw [n] at g;refine ⟨w',t,u,⟨⟨_,g,fun i=>?_⟩,lE.2 ⟨hn,q⟩,fun i k=>?_,s⟩,fun wx d=>?_⟩
 · unfold mpPI;by_cases e:i=j
   · rw [gA qO,gA (by simp [e])]
   rw [aA qO,p i];simp [e]
 · rcases TA.1 k with rfl | k
   · exact hj
   exact r i k
 have c:=((g.same d).look vE (aF wx) a).2;rwa [show mpPI f (j:Int) (.int .i64 1) (j:Int)=some (.int .i64 1) from gA rfl] at c
theorem MsN.twice (h:MsN w m l N) (hn:j∈l):(∀ wx,Same w wx->(Instr.lookup 71 (.map (some m)) (.int .i64 (j:Int)) false).run Tryz.prog wx=.ok (.int .i64 1) wx) /\
 ∃ w',(Instr.mapUpdate 71 (.map (some m)) (.int .i64 (j:Int)) (.int .i64 2)).run Tryz.prog w=.ok () w'/\Upd (fun b=>b=m) w w' /\
  ∀ wx,Same w' wx->(Instr.lookup 71 (.map (some m)) (.int .i64 (j:Int)) false).run Tryz.prog wx=.ok (.int .i64 2) wx:=by
 obtain ⟨⟨f,e,k⟩,n,g,s⟩:=h;have a : -9223372036854775808<=(j:Int)/\(j:Int)<=9223372036854775807:=by have:=g j hn;omega
 have i:f (j:Int)=some (.int .i64 1):=by rw [k j,gA hn]
 have r:=IU n g;refine ⟨fun wx d=>?_,?_⟩
 · have c:=((e.same d).look vE (aF wx) a).2;rwa [i] at c
 obtain ⟨w',o,p,q⟩:=e.store vE qM a (.int .i64 2);refine ⟨w',o,q,fun wx d=>?_⟩;have c:=((p.same d).look vE (aF wx) a).2;rwa [show mpPI f (j:Int) (.int .i64 2) (j:Int)=some (.int .i64 2) from gA rfl] at c
def ValR (s:St1) (x:P1) (mb:List Nat) (w:World) (mB:Nat) (e:Ending) (w':World):Prop :=
 Upd (fun b=>b=mB) w w'/\match val1 s x mb with
 | .error er=>e=cF er
 | .ok (g,mb')=>g.Fits/\MsN w' mB mb' s.blobs.recs.length/\∃ v,e=.returned v/\cJ w' w.heap.size v g
theorem LU {x:P1} (h:getP d=some x):TD x=true /\ -9223372036854775808<=x.num/\x.num<=9223372036854775807:=by
 unfold getP at h;split at h
 · rename_i a;cases h;refine ⟨a.1,?_⟩;unfold oF;simp only;split
   · exact OP _ (by unfold atP;exact NP _ 8 (lA _))
   omega
 cases h
theorem Ztc (w:World) {q:StP} {s:St1} {x:P1} (hx:getP d=some x)
 (hs:StM w B p q s) (hr:Blk w rd 84 #[.pointer (some ⟨p,0,none⟩),m1,m2,m3,ch,mt,.map (some mB)]) (hm:MsN w mB mb s.blobs.recs.length):
 Calls Tryz.prog 128 #[.pointer (some ⟨rd,0,none⟩),.agg x.cells] w (ValR s x mb w mB):=by
 obtain ⟨j,c⟩:=LU hx;simp only [TD,kB] at j;have U:=NB.1 j.2.1;by_cases o:x.kind<4
 · refine (Zri w _ x ⟨qO,o⟩ c).mono ?_;rintro e G ⟨l,h⟩;refine ⟨l.mono qe,?_⟩;unfold val1;rw [gA o];rcases h with ⟨u,rfl⟩ | ⟨u,v,rfl,a⟩
   · rw [gA u]
   rw [aA (fun H=>H u)];exact ⟨⟨by simp only;omega,c,qS⟩,hm.same l,v,rfl,a⟩
 have F : -9223372036854775808<=x.blob/\x.blob<=9223372036854775807:=by have k:=j.2.2.1;rw [aA o,kB] at k;have:=NB.1 k.2;omega
 obtain ⟨⟨f,I,L⟩,E,k,M⟩:=hm;have V:=IU E k;refine (ZuE w x ⟨qO,qO⟩ F hs hr ⟨I,qO,L⟩).mono ?_;rintro e G ⟨N,h⟩;refine ⟨N,?_⟩;cases a:val1 s x mb with
 | error er=>rw [a] at h;exact h
 | ok y =>
   obtain ⟨g,O⟩:=y;rw [a] at h;obtain ⟨v,z,rfl,P,R,S⟩:=h;unfold val1 at a;rw [aA o] at a;split at a
   · cases a
   rename_i b m;split at a
   · cases a
   rename_i n;split at a
   · cases a
   rename_i T;split at a
   · cases a
   cases a;have r:x.blob.toNat<s.blobs.recs.length:=by
    unfold WH at m;split at m
    · cases m
    split at m
    · cases m
    rename_i A;have t:s.blobs.used x.blob.toNat=true:=by
     cases C:s.blobs.used x.blob.toNat with
     | true=>rfl
     | false=>exact absurd (.inr C) A
    unfold YA.used at t;split at t
    · rename_i C;exact (IA.1 C).1
    cases t
   refine ⟨(lX (uF.1 T)).2.1,⟨⟨z,R,S⟩,lE.2 ⟨n,E⟩,fun i D=>?_,M⟩,v,rfl,P⟩;rcases TA.1 D with rfl | D
   · exact r
   exact k i D
end
end Go.Proofs.YtmkjfhnlnhceiaaGreatDoor
