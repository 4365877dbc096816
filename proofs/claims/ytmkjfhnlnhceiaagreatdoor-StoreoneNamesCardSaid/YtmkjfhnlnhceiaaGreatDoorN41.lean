/- Texts that the claim leans on: walks and plain laws, function by function. -/
import Derived.Test.YtmkjfhnlnhceiaaGreatDoorN14
import Derived.Test.YtmkjfhnlnhceiaaGreatDoorN35
import Derived.Test.YtmkjfhnlnhceiaaGreatDoorN40
set_option maxRecDepth 100000
set_option maxHeartbeats 16000000
namespace Go.Proofs.YtmkjfhnlnhceiaaGreatDoor
section
open Go.RowKit
theorem Zon {tmps:Array Value} {wE:World} {B:Nat} {u0:Value} {er:Int} {R:Ending->World->Prop} (h2:tmps.getD 2 undef=.pointer (some ⟨B,0,none⟩)) (h3:tmps.getD 3 undef=.int .i64 er) (hb:Blk wE B 29 #[u0]) (hR:R (.returned (.tuple #[u0,.int .i64 er])) wE) :
 bodyPost Tryz.prog Tryz.f9 R Exit.ret ⟨tmps,[]⟩ wE:=by
 have a:=hb.c0;refine YbB (v:=.tuple #[u0,.int .i64 er]) ?_ rfl hR;simp only [YbZ] at h2 h3;simp [results,Tryz.results9,go_sem,h2,h3,a]
def ZuP (b2:Nat) (Ok:Option Addr->Nat->Nat->World->Prop) (W:World):Prop:=∃ A1 n1 c1,Blk W b2 29 #[.slice A1 n1 c1]/\Ok A1 n1 c1 W
theorem ZtI {F:Nat->Prop} {g:GR} (w:World) (hg:RdG w F g) (hz:ZeS g) {Ok:Nat->Option Addr->Nat->Nat->World->Prop} {Bad:Int->World->Prop}
 (hBad:∀ er W,Bad er W->Blk W (w.heap.size+1) 29 #[.slice none 0 0])
 (H:(chkP g.dat).1=0->∀ w2,Same w w2->w.heap.size+2<=w2.heap.size->Blk w2 w.heap.size 26 #[.slice g.AN g.nN g.cN,.slice g.AR g.nR g.cR]->Blk w2 (w.heap.size+1) 29 #[.slice none 0 0] ->
   Calls Tryz.prog 25 #[.pointer (some ⟨w.heap.size,0,none⟩),.pointer (some ⟨w.heap.size+1,0,none⟩)] (w2.alloc (.cells #[.int .i64 0] 30)) (Zjc (ZuP (w.heap.size+1) (Ok w2.heap.size)) Bad w2.heap.size)) :
 Calls Tryz.prog 9 #[g.agg] w fun e w'=>((chkP g.dat).1≠0/\e=.returned (.tuple #[.slice none 0 0,.int .i64 (chkP g.dat).1])/\Same w w')\/((chkP g.dat).1=0 /\
  ((∃ A1 n1 c1 W b,e=.returned (.tuple #[.slice A1 n1 c1,.int .i64 0])/\Ok b A1 n1 c1 W/\w.heap.size+2<=b/\Blk W b 30 #[.int .i64 0]/\Upd (fun k=>k=w.heap.size+1\/k=b) W w') \/
  ∃ er W,e=.returned (.tuple #[.slice none 0 0,.int .i64 er])/\Bad er W/\Upd (fun k=>w.heap.size+1<=k) W w')):=by
 have B:=qH H;have C:=qH hBad;have Z:=qH hg;have HZ:=qH hz;clear H hBad hg hz;have a0:∀ (fn:Fn) (first cap:Array Value) (w:World),(Instr.makeFunc fn first cap).run Tryz.prog w=.ok (.func fn first cap) w:=fun _ _ _ _=>rfl;obtain ⟨ns,AN,nN,cN,rs,AR,nR,cR⟩:=g;unfold GR.agg;simp only at B ⊢;obtain ⟨X,z⟩:∃ X,chkP (GR.dat ⟨ns,AN,nN,cN,rs,AR,nR,cR⟩)=X:=⟨_,rfl⟩
 have D:=qH z;rw [z] at B ⊢;clear z;obtain ⟨Y,ca⟩:=X;simp only at B ⊢;go_enter Tryz.func9,Tryz.ntmps9;go_upto_region 1 with fail;have h:=Yad w 26 #[.slice AN nN cN,.slice AR nR cR];have E:=(Yaa (fun _=>False) w).alloc (.cells #[.slice AN nN cN,.slice AR nR cR] 26);have G:(w.alloc (.cells #[.slice AN nN cN,.slice AR nR cR] 26)).heap.size=w.heap.size+1:=Yav _ _;generalize w.alloc (.cells #[.slice AN nN cN,.slice AR nR cR] 26)=M at *;have r:=Yad M 29 #[.slice none 0 0];have h:=h.same ((Yaa (fun _=>False) M).alloc (.cells #[.slice none 0 0] 29));have s:=E.alloc (.cells #[.slice none 0 0] 29);have t:(M.alloc (.cells #[.slice none 0 0] 29)).heap.size=M.heap.size+1:=Yav _ _;generalize M.alloc (.cells #[.slice none 0 0] 29)=w2 at *;rw [G] at r t;have O:=qH h;have P:=qH r;have I:=qH s;have R:=qH t;have c:=qH (ZhP w2 ⟨ns,AN,nN,cN,rs,AR,nR,cR⟩ (Z.same s) HZ (e:=Y) (at_:=ca) D);unfold GR.agg at c;simp only at c;have q0:=h.c0;have q1:=h.c1;clear h r E s G t Z HZ D;go_wp2_with fail;refine c.mono ?_;rintro e a ⟨rfl,q⟩;have u:=qH q;have L:=qH (O.same q);have d:=qH (P.same q);clear q q0 q1 c;by_cases n:Y=0
 case neg =>
  have a1:(Y != 0)=true:=Ybh.2 n;have S:=qH n;have r0:=d.c0;have z0:=d.frozen 0;clear n;go_wp2;refine Zon rfl rfl (d.put 0 (.slice none 0 0)) ?_;exact .inl ⟨S,rfl,YaY (I.trans u fun _ _ f=>f) (YeW _) _⟩
 subst n;have v:w.heap.size+2<=a.heap.size:=by have:=u.size;have:=R.out;omega
 have o:=qH v;have T:=qH (Zjd (gf:=25) (enters_of Tryz.func25 (by kernel_rfl) rfl) a (B.out rfl a (I.trans u fun _ _ f=>f) v L d));clear v;go_wp2_with fail;refine T.mono ?_;rintro e w5 ⟨i,A,⟨rfl,⟨A1,n1,c1,l,N⟩,rfl⟩ | ⟨er,rfl,m,rfl⟩⟩
 · have j:w.heap.size+1≠a.heap.size:=qh o;have x:=qH (l.far (p:=⟨a.heap.size,0,none⟩) (fun e=>j e) (.int .i64 0));have U:Hid (Upd (fun k=>k=w.heap.size+1\/k=a.heap.size) i (i.setCell ⟨a.heap.size,0,none⟩ (.int .i64 0))):=qH ((Yaa (fun k=>k=w.heap.size+1\/k=a.heap.size) i).setCell (p:=⟨a.heap.size,0,none⟩) (.inl (.inr rfl)) _);have y:=qH N;have V:=qH A;clear j N l A T B;generalize i.setCell ⟨a.heap.size,0,none⟩ (.int .i64 0)=w5 at *;have r0:=x.c0;have z0:=x.frozen 0;go_wp2;refine Zon rfl rfl (x.put 0 (.slice A1 n1 c1)) ?_;exact .inl ⟨A1,n1,c1,rfl,i,a.heap.size,y,o,V,U.setCell (p:=⟨w.heap.size+1,0,none⟩) (.inl (.inl rfl)) _⟩
 have l:=(C.out er i m).same ((Yaa (fun _=>False) i).alloc (.cells #[.int .i64 er] 99));have j:w.heap.size+1≠a.heap.size:=qh o;have x:=qH (l.far (p:=⟨a.heap.size,0,none⟩) (fun e=>j e) (.int .i64 er));have U:Hid (Upd (fun k=>w.heap.size+1<=k) i ((i.alloc (.cells #[.int .i64 er] 99)).setCell ⟨a.heap.size,0,none⟩ (.int .i64 er))):=qH (((Yaa (fun k=>w.heap.size+1<=k) i).alloc (.cells #[.int .i64 er] 99)).setCell (p:=⟨a.heap.size,0,none⟩) (.inl (by have:=o.out;simp only;omega)) _);have y:=qH m;clear j m l A T B;generalize (i.alloc (.cells #[.int .i64 er] 99)).setCell ⟨a.heap.size,0,none⟩ (.int .i64 er)=w5 at *;have r0:=x.c0;have z0:=x.frozen 0;go_wp2;refine Zon rfl rfl (x.put 0 (.slice none 0 0)) ?_;exact .inr ⟨er,rfl,i,y,U.setCell (p:=⟨w.heap.size+1,0,none⟩) (.inl (Yae _)) _⟩
attribute [local go_sem] Ybq
theorem Zoo {k:Nat} {l:List BS} {ns:List ByteArray} (hT:TabK ns) (h:l.map BS.rc=ns.map fun s=>some (tokD s)):filD k 1 42 l=tabF k 1 ns:=by unfold filD tabF;rw [h];congr 1;refine Ycq fun s a=>?_;have:=(ZbX (hT.good s a)).1;rw [Yab qO]
theorem Znb {w w':World} {B b hm cnt c:Nat} {q q':BuP} {f:Int->Option Value} {A:Option Addr} {L:List L1} {hs:List Int} {g:GR} (hc:ZvI g L hs) (hS:StR w w' B b q hm cnt f A c L hs g) (ht:∀ i,i<3->q'.l i=q.l i)
 (hb:q'.bs=ZgL (nsG g.dat 1) (nsG g.dat 2) L (g.rs.map RL.dat) (ZgK (nsG g.dat 0) (nsG g.dat 2) ((g.ns.zip hs).map fun x=>(x.1.dat,x.2)) q.bs)):Zpg q'=ZcN (Zev g.dat):=by
 have a:q.bs=⟨[],[],[],[]⟩:=by unfold BuP.bs;rw [hS.nil 3 qD qD,hS.nil 4 qD qD,hS.nil 5 qD qD,hS.nil 6 qD qD];rfl
 have d:(g.ns.zip hs).map (fun x=>(x.1.dat,x.2))=g.dat.nodes.zip hs:=by show _=(g.ns.map ND.dat).zip hs;rw [List.zip_map_left];rfl
 rw [a,d] at hb;have e:Zev g.dat=⟨nsG g.dat 0,nsG g.dat 1,nsG g.dat 2,⟨4,1,17,q'.bs.nodes⟩,⟨5,1,31,q'.bs.rels⟩,⟨6,1,20,q'.bs.props⟩,⟨8,1,32,q'.bs.blobs⟩⟩:=by rw [hb];unfold Zev;rw [hc.th];rfl
 rw [e];unfold Zpg ZcN datQ;simp only;rw [Zoo (hc.tab 2 qD) (by rw [ht 2 qD];exact hS.rc 2 qD),Zoo (hc.tab 0 qD) (by rw [ht 0 qD];exact hS.rc 0 qD),Zoo (hc.tab 1 qD) (by rw [ht 1 qD];exact hS.rc 1 qD)];rfl
theorem Fls.upd {w w':World} {F S:Nat->Prop} {A:Option Addr} {n c:Nat} {fs:List SF} (h:Fls w F A n c fs) (hu:Upd S w w') (hs:∀ b,F b->¬ S b):Fls w' F A n c fs:=⟨h.row.upd hu hs,fun x a=>⟨YdZ (h.each x a).1 hu hs,(h.each x a).2⟩⟩
theorem Fls.mono {w:World} {F F':Nat->Prop} {A:Option Addr} {n c:Nat} {fs:List SF} (h:Fls w F A n c fs) (hf:∀ b,b<w.heap.size->F b->F' b):Fls w F' A n c fs:=⟨h.row.mono hf,fun x a=>⟨Yea (h.each x a).1 hf,(h.each x a).2⟩⟩
def BuOk (w:World) (g:ZaN) (eb:Nat) (A:Option Addr) (n c:Nat) (W:World):Prop:=n=8/\Same w W/\∃ K fs,w.heap.size+1<K/\eb<K/\Fls W (fun x=>K<=x) A 8 c fs/\fs.map SF.dat=ZcN (Zev g)
theorem ZuQ {F:Nat->Prop} {g:GR} (w:World) (hg:RdG w F g) (hz:ZeS g) (hN:Nib w) (hck:(chkP g.dat).1=0) (w2:World) (hs2:Same w w2) (hz2:w.heap.size+2<=w2.heap.size)
 (hb0:Blk w2 w.heap.size 26 #[.slice g.AN g.nN g.cN,.slice g.AR g.nR g.cR]) (hb1:Blk w2 (w.heap.size+1) 29 #[.slice none 0 0]) :
 Calls Tryz.prog 25 #[.pointer (some ⟨w.heap.size,0,none⟩),.pointer (some ⟨w.heap.size+1,0,none⟩)] (w2.alloc (.cells #[.int .i64 0] 30)) (Zjc (ZuP (w.heap.size+1) (BuOk w g.dat w2.heap.size)) (fun _ _=>False) w2.heap.size):=by
 obtain ⟨L,hs,hC⟩:=bcond hck;have a0:=Yad w2 30 #[.int .i64 0];have d:=(Yaa (fun _=>False) w2).alloc (.cells #[.int .i64 0] 30);obtain ⟨OR,R⟩:∃ OR,Zjc (ZuP (w.heap.size+1) (BuOk w g.dat w2.heap.size)) (fun _ _=>False) w2.heap.size=OR:=⟨_,rfl⟩
 have ao:Hid (∀ A c W,Blk W w2.heap.size 30 #[.int .i64 0]->Blk W (w.heap.size+1) 29 #[.slice A 8 c]->BuOk w g.dat w2.heap.size A 8 c W->OR (.returned (.tuple #[])) W):=qH fun A c W h1 h2 h3=>by rw [<- R];exact ⟨h1,.inl ⟨rfl,A,8,c,h2,h3⟩⟩
 rw [R];have a1:RdG (w2.alloc (.cells #[.int .i64 0] 30)) (fun x=>x<w.heap.size) g:=((hg.mono fun b hb _=>hb).same hs2).same d;have hh:=Zkj (ZgA hck).1;have h:=qH hC;have ap:=qH hh;have HZ:=qH hz;have a2:=qH (hs2.trans d fun _ _ e=>e);have a3:=qH a0;have C:=qH (hb0.same d);have a4:=qH (hb1.same d);have b3:=qH hz2;have HG:=qH a1;have HN:=qH hN;clear R a0 d a1 hh hC hb0 hb1 hs2 hz hg hck hN;generalize w2.alloc (.cells #[.int .i64 0] 30)=r at *;generalize w2.heap.size=eb at *;obtain ⟨AN,S⟩:∃ x,g.AN=x:=⟨_,rfl⟩
 obtain ⟨nN,T⟩:∃ x,g.nN=x:=⟨_,rfl⟩
 obtain ⟨cN,U⟩:∃ x,g.cN=x:=⟨_,rfl⟩
 obtain ⟨AR,V⟩:∃ x,g.AR=x:=⟨_,rfl⟩
 obtain ⟨nR,X⟩:∃ x,g.nR=x:=⟨_,rfl⟩
 obtain ⟨cR,Y⟩:∃ x,g.cR=x:=⟨_,rfl⟩
 rw [S,T,U,V,X,Y] at C;have a5:g.agg=.agg #[.slice AN nN cN,.slice AR nR cR]:=by unfold GR.agg;rw [S,T,U,V,X,Y]
 have a6:=qH a5;clear S T U V X Y a5;go_enter Tryz.func25,Tryz.ntmps25;go_upto_region 1 with fail;have a7:Blk (r.alloc (.cells #[.pointer none,.pointer none,.pointer none,.pointer none,.pointer none,.pointer none,.pointer none,.slice none 0 0,.map none] 73)) r.heap.size 73 (Zch q00 0):=Yad r _ _;have a:=(Yaa (fun _=>False) r).alloc (.cells #[.pointer none,.pointer none,.pointer none,.pointer none,.pointer none,.pointer none,.pointer none,.slice none 0 0,.map none] 73);generalize r.alloc (.cells #[.pointer none,.pointer none,.pointer none,.pointer none,.pointer none,.pointer none,.pointer none,.slice none 0 0,.map none] 73)=w3 at *;have D:w.heap.size<=r.heap.size:=a2.size;have a8:=a3.same a;have s:=C.same a;have a9:=a4.same a;have E:=Zna w3 (B:=w.heap.size) (g:=g) (Yaj D a.size) a7 D (HG.same a) HZ.texts ap.out h.tab h.rise h.rid h.nd h.n4 h.th;rw [a6.out] at E;have aa:=qH E;have u:Hid (w.heap.size<r.heap.size/\w.heap.size+1<r.heap.size/\eb<r.heap.size):=qH ⟨C.lt,a4.lt,a3.lt⟩;have aq:=qH (a2.trans a fun _ _ e=>e);have q0:=s.c0;have q1:=s.c1;have ar:=qH a8;have au:=qH s;have av:=qH a9;generalize r.heap.size=b at *;clear a7 a D a8 s a9 E;go_wp2_with fail;refine aa.mono ?_;rintro e w4 ⟨rfl,q,hm,b5,f,A,c,o⟩;have ab:=ar.upd o.up (fun e=>qh u);have G:=au.upd o.up (fun e=>qh u);have ac:=av.upd o.up (fun e=>qh u);have H:Same w w4:=aq.trans o.up fun x hx e=>qh u;have l5:(q.l 5).length=0:=by rw [o.nil 5 qD qD];rfl
 have I:(g.ns.zip hs).map Prod.fst=g.ns:=List.map_fst_zip (by rw [h.len];exact Yae _);have ad:((g.ns.zip hs).map fun x=>x.1.props.length)=g.ns.map fun x=>x.props.length:=by have:=YaC (List.map fun x:ND=>x.props.length) I;rwa [Ybf] at this
 have M:=Zoj w4 o.m H.size o.k (by rw [o.nil 6 qD qD];simp) I (h.nodes f o.heads) h.rels (by rw [l5,ad,YbJ];exact h.cnt);rw [a6.out] at M;have ae:=qH M;have i:=qH o;have aw:=qH ab;have ax:=qH ac;have ay:=qH H;have q0:=G.c0;have q1:=G.c1;clear o ab G ac H l5 I ad M aa;go_wp2_with fail;refine ae.mono ?_;rintro e w5 ⟨rfl,q',Z,am⟩;have j:∀ {x:Nat} {t:TypeId} {cs:Array Value},Blk w4 x t cs->t≠171->39≠t->Blk w5 x t cs:=fun hb h1 h2=>hb.upd Z.n.up (i.m.far hb h1 h2);have af:=j aw.out qD qD;have ag:=j ax.out qD qD;have N:=(i.k.mv i.m Z.n.up).blk;rw [Z.cells] at N;have O:Same w w5:=ay.trans Z.n.up fun x hx e=>by have:=(i.m.ge e).1;omega
 have ah:=qH (ZmN w5 Z.m N (HN.same O));have HQ:=qH (Znb h i Z.tabs am);have ai:=qH af;have P:=qH ag;have aj:=qH O;clear af ag N O Z am j ae q0 q1;go_wp2_with fail;refine ah.mono ?_;rintro e w6 ⟨A6,c6,fs,rfl,an,z,y⟩;have v:=P.same y;have s1:=v.c0;have z1:=v.frozen 0;have az:=qH an;have b0:=qH z;have ak:=qH v;have b1:=qH (aj.trans y fun _ _ e=>e);have al:=qH (ai.same y);have b4:=qH aj.size;clear an z v y ah;go_wp2_with fail;go_end0;refine ao A6 c6 _ (al.far (p:=⟨w.heap.size+1,0,none⟩) (fun e=>al.ne ak.out qD e) _) (ak.put 0 _) ⟨rfl,b1.putNew (YeW _) _,w5.heap.size,fs,P.lt,ai.lt,?_,b0.trans HQ⟩;have hu:Upd (fun x=>x=w.heap.size+1) w6 (w6.setCell ⟨w.heap.size+1,0,none⟩ (.slice A6 8 c6)):=(Yaa (fun x=>x=w.heap.size+1) w6).put1 _;have b2:∀ x,w5.heap.size<=x->¬ x=w.heap.size+1:=fun x hx e=>qt P.lt;exact az.upd hu b2
def BldR (w:World) (g:ZaN) (e:Ending) (w':World):Prop :=
 ((chkP g).1≠0/\e=.returned (.tuple #[.slice none 0 0,.int .i64 (chkP g).1])/\Same w w') \/
 ((chkP g).1=0/\∃ A c fs,e=.returned (.tuple #[.slice A 8 c,.int .i64 0])/\Fls w' (fun x=>w.heap.size<=x) A 8 c fs/\fs.map SF.dat=ZcN (Zev g)/\Same w w')
theorem Zqw {F:Nat->Prop} {g:GR} (w:World) (hg:RdG w F g) (hz:ZeS g) (hN:Nib w):Calls Tryz.prog 9 #[g.agg] w (BldR w g.dat):=by
 refine (ZtI w hg hz (Ok:=BuOk w g.dat) (Bad:=fun _ _=>False) (fun _ _ h=>h.elim) fun a j k l m n=>ZuQ w hg hz hN a j k l m n).mono ?_;rintro e y (⟨c,rfl,d⟩ | ⟨c,⟨o,z,p,W,b,rfl,⟨rfl,d,K,q,r,s,t,u⟩,A,v,f⟩ | ⟨B,W,_,h,_⟩⟩)
 · exact .inl ⟨c,rfl,d⟩
 · exact .inr ⟨c,o,p,q,rfl,(t.upd f fun x i e=>qO).mono fun x _ i=>qO,u,d.trans f fun x i e=>qO⟩
 exact h.elim
end
section
open Go.RowKit
attribute [local go_sem] Ybq
theorem Zsl {tmps:Array Value} {wE:World} {B:Nat} {u0 u1 u2 u3 u4:Value} {R:Ending->World->Prop} (h4:tmps.getD 4 undef=.pointer (some ⟨B,0,none⟩)) (hb:Blk wE B 51 #[u0,u1,u2,u3,u4]) (hR:R (.returned (.agg #[u0,u1,u2,u3,u4])) wE) :
 bodyPost Tryz.prog Tryz.f128 R Exit.ret ⟨tmps,[]⟩ wE:=by
 obtain ⟨a,b,c,d,e⟩:=hb.five;refine YbB (v:=.agg #[u0,u1,u2,u3,u4]) ?_ rfl hR;simp only [YbZ] at h4;simp [results,Tryz.results128,go_sem,h4,a,b,c,d,e]
def SimR (g:GVal) (w:World) (e:Ending) (w':World):Prop:=Same w w'/\((chk g≠0/\e=Zcn (chk g))\/(chk g=0/\∃ v,e=.returned v/\Zgf w' w.heap.size v g))
theorem Zqx (w:World) (rd:Value) (x:P1) (hk : -9223372036854775808<=x.kind/\x.kind<4) (hn : -9223372036854775808<=x.num/\x.num<=9223372036854775807) :
 Calls Tryz.prog 128 #[rd,.agg x.cells] w (SimR ⟨x.kind,x.num,noText,[],[]⟩ w):=by
 obtain ⟨L,b,c,M,N,ne⟩:=x;unfold P1.cells;simp only at hk hn ⊢;have S:b<=3:=qO;have B:b<=9223372036854775807:=qO;have O:Hid (∀ W,∃ F,Zdu W F none 0 0 none 0 0 ⟨b,c,noText,[],[]⟩):=qH fun W=>⟨_,⟨Row.weak (Yca (YaQ W 0 2 1)),Row.weak (Yca (YaQ W 0 9 1)),⟨hk.1,B⟩,hn,fun _ h=>by cases h⟩⟩
 obtain ⟨P,o⟩:∃ P,SimR ⟨b,c,noText,[],[]⟩ w=P:=⟨_,rfl⟩
 have j:=qH o;rw [o];clear o;go_enter Tryz.func128,Tryz.ntmps128;go_upto_region 3 with fail;have q:=(Yaa (fun _=>False) w).alloc (.cells #[.int .i64 L,.int .i64 b,.int .i64 c,.int .i64 M,.int .i64 N,.int .i64 ne] 145);have r:(w.alloc (.cells #[.int .i64 L,.int .i64 b,.int .i64 c,.int .i64 M,.int .i64 N,.int .i64 ne] 145)).heap.size=w.heap.size+1:=Yav _ _;generalize w.alloc (.cells #[.int .i64 L,.int .i64 b,.int .i64 c,.int .i64 M,.int .i64 N,.int .i64 ne] 145)=n at *;have g:=Yad n 51 #[.int .i64 0,.int .i64 0,.string ⟨#[]⟩,.slice none 0 0,.slice none 0 0];have s:=q.alloc (.cells #[.int .i64 0,.int .i64 0,.string ⟨#[]⟩,.slice none 0 0,.slice none 0 0] 51);have C:(n.alloc (.cells #[.int .i64 0,.int .i64 0,.string ⟨#[]⟩,.slice none 0 0,.slice none 0 0] 51)).heap.size=n.heap.size+1:=Yav _ _;generalize n.alloc (.cells #[.int .i64 0,.int .i64 0,.string ⟨#[]⟩,.slice none 0 0,.slice none 0 0] 51)=p at *;have k:=Yad p 51 #[.int .i64 b,.int .i64 c,.string ⟨#[]⟩,.slice none 0 0,.slice none 0 0];have t:=s.alloc (.cells #[.int .i64 b,.int .i64 c,.string ⟨#[]⟩,.slice none 0 0,.slice none 0 0] 51);have g:=g.same ((Yaa (fun _=>False) p).alloc (.cells #[.int .i64 b,.int .i64 c,.string ⟨#[]⟩,.slice none 0 0,.slice none 0 0] 51));generalize p.alloc (.cells #[.int .i64 b,.int .i64 c,.string ⟨#[]⟩,.slice none 0 0,.slice none 0 0] 51)=A at *;have i:w.heap.size+1+1=p.heap.size:=qO;rw [i,<-r];have a:w.heap.size<=n.heap.size:=qO;have u:n.heap.size≠p.heap.size:=qO;generalize n.heap.size=I at *;generalize p.heap.size=V at *;obtain ⟨Y,Z,p2,p3,p4⟩:=k.five;have T:=qH t;have l:=qH g;have D:=qH k;have E:Hid (w.heap.size<=I/\I≠V):=qH ⟨a,u⟩;have U:Hid (Calls Tryz.prog 139 #[.agg #[.int .i64 b,.int .i64 c,.string ⟨#[]⟩,.slice none 0 0,.slice none 0 0]] A fun e w'=>e=.returned (.int .i64 (chk ⟨b,c,noText,[],[]⟩))/\Same A w'):=qH (by obtain ⟨F,h⟩:=O.out A;exact ZgZ A h (show (⟨#[]⟩:ByteArray).size<=9223372036854775807 by decide) (fun _ h=>by cases h))
 unfold SimR at j;generalize chk ⟨b,c,noText,[],[]⟩=X at *;clear g k t C i r a u q s O;generalize z:w.heap.size=g0 at *;have G:=qH z;clear z;go_wp2_with fail;refine U.mono ?_;rintro e R ⟨rfl,d⟩;have v:=qH (T.trans d fun _ _ f=>f);obtain ⟨Y,Z,p2,p3,p4⟩:=(D.same d).five;obtain ⟨r0,r1,r2,r3,r4⟩:=(l.same d).five;obtain ⟨z0,z1,z2,z3,z4⟩:=(l.same d).five_free;have H:=qH (l.same d);clear d;by_cases m:X=0
 case neg =>
  have y:=qH m;clear m;go_wp2_with fail;refine (Zco R y).mono ?_;rintro e w5 ⟨rfl,rfl⟩;refine ⟨rfl,?_⟩;rw [<- j.out];exact ⟨v,.inl ⟨y,rfl⟩⟩
 subst m;go_wp2_with fail;refine (ZbP R).mono ?_;rintro e w5 ⟨rfl,rfl⟩;go_wp2_with fail;refine Zsl rfl (H.put5 (.int .i64 b) (.int .i64 c) (.string ⟨#[]⟩) (.slice none 0 0) (.slice none 0 0)) ?_;rw [<- j.out];have a:w.heap.size<=I:=by rw [G.out];exact E.1
 exact ⟨YaY (YaY (YaY (YaY (YaY v a _) a _) a _) a _) a _,.inr ⟨by first | rfl | trivial,_,rfl,_,_,rfl,YaQ _ _ _ _,YaQ _ _ _ _⟩⟩
end
section
open Go.RowKit
theorem Zop (f:Zaz) (i:Int):Zjg f i=match ZhS f i with | .error e=>.error e | .ok l=>.ok ((l.map (atD f)).flatMap ZcL):=by
 unfold Zjg ZhS;split
 · rfl
 split
 · rfl
 cases Zbm f (f.recs.length+1) [] i.toNat with
 | error e=>rfl
 | ok l =>
   simp only;congr 1;rw [YeZ];congr 1;funext j;unfold atD;cases f.at_ j with
   | none=>rfl
   | some d=>rfl
def LdR (w:World) (X:Except Int (List UInt8)) (e:Ending) (w':World):Prop:=Same w w' /\
 match X with
 | .error er=>e=.returned (.tuple #[.slice none 0 0,.int .i64 er])/\er≠0
 | .ok bs=>∃ v,e=.returned (.tuple #[v,.int .i64 0])/\OwnB w' w.heap.size v bs/\bs.length<=1638400
theorem Zqy {B f k vs z low:Nat} {v:Value} {l:List BS} (w:World) (hP:PF w B f k vs z v l low) (i:Int) (hi : -9223372036854775808<=i/\i<=9223372036854775807) :
 Calls Tryz.prog 170 #[.pointer (some ⟨f,0,none⟩),.int .i64 i] w (LdR w (Zjg (filD k vs z l) i)):=by
 have t:=Zqd w hP i hi;have a2:(filD k vs z l).recs.length<=65536:=by have:=hP.len;simpa [filD] using this
 rw [Zop];obtain ⟨FD,Y⟩:∃ FD,filD k vs z l=FD:=⟨_,rfl⟩
 rw [Y] at t a2 ⊢;unfold AlR at t;have y:=qH t;clear t hP Y;cases hX:ZhS FD i with
 | error er =>
   rw [hX] at y;clear hX;simp only;go_enter Tryz.func170,Tryz.ntmps170;go_wp2_with fail;refine y.mono ?_;rintro e I ⟨p,rfl,Z⟩;have C:=qH p;have a3:=qH Z;clear p Z;go_wp2_with fail;go_loopg [9,21] 0 (fun gh s9 s wr=>gh=0/\s9=.slice none 0 0/\s=.int .i64 0/\wr=I)
   case atStart=>exact ⟨rfl,rfl,rfl,rfl⟩
   case round =>
   obtain ⟨rfl,rfl,rfl,rfl⟩:=hrel;go_wp2
   go_ret2
   exact ⟨C,rfl,a3⟩
 | ok ab =>
   rw [hX] at y;clear hX;simp only;obtain ⟨R,hR⟩:∃ R,(ab.map (atD FD)).flatMap ZcL=R:=⟨_,rfl⟩
   rw [hR];have HR:=qH hR;clear hR;go_enter Tryz.func170,Tryz.ntmps170;go_wp2_with fail;refine y.mono ?_;rintro e I ⟨p,v1,v2,g,rfl,E,j,a0⟩;obtain ⟨m,hm⟩:∃ m,g.length=m:=⟨_,rfl⟩
   have ae:m<=65536:=by have h1:=YaC List.length j;rw [Yag,Yag] at h1;omega
   obtain ⟨A2,c2,rfl⟩:=Zad E.row;have HB:=qH E;have HM:=qH hm;have C:=qH p;have a4:Hid ((g.map BV.d).flatMap ZcL=R):=qH (by rw [j];exact HR);rw [hm];have a5:w.heap.size<=I.heap.size:=p.size;clear p E hm j a0;go_wp2_with fail;go_loopg [9,21] m (fun gh s9 ac wr=>∃ (k:Nat) (a:Option Addr) (n c:Nat),m-k=gh/\k<=m/\s9=.slice a n c/\ac=.int .i64 (k:Int)/\n<=25*k/\Hid ((((g.take k).map BV.d).flatMap ZcL).length=n)/\Hid (wr.ownsRow I.heap.size 5 1 (.slice a n c) n ((((g.take k).map BV.d).flatMap ZcL).map u8v))/\Hid (Same I wr))
   case atStart=>exact ⟨0,none,0,0,rfl,Yah _,rfl,rfl,Yae _,qH rfl,qH (YaQ _ _ _ _),qH (Yaa _ _)⟩
   obtain ⟨k,a,n,c,rfl,hk,rfl,rfl,hn,KL,KO,KS⟩:=hrel;by_cases a6:k<m
   · have E:=HB.same KS;have r:=E.row;rw [HM.out] at r;obtain ⟨b,o,x,hA,hb,hF,hx,a1,M⟩:=WRow.atF (Row.weak (Yca r)) BV.four qO a6;have ho:o=0:=by
      have P:=hA.symm.trans hF.1;injection P with P
      injection P
     subst hA;subst ho;rw [YbJ] at M;have r0:wr.cell? ⟨b,k*4,none⟩=_:=M 0 _ rfl;have r1:=M 1 _ rfl;have r2:=M 2 _ rfl;have r3:=M 3 _ rfl;clear hF;have j1:(k:Int)<(m:Int):=qO;have F:=E.each x a1;have S:=F.used;have h:=F.row;have T:(g.take (k+1)).map BV.d=(g.take k).map BV.d++[x.d]:=by rw [Ybo,hx,YaG];rfl
     have G:Hid (((g.take (k+1)).map BV.d).flatMap ZcL=((g.take k).map BV.d).flatMap ZcL++ZcL x.d):=qH (by rw [T,YbS,List.flatMap_singleton]);obtain ⟨d,Ax,cx⟩:=x;unfold BV.bs at h;simp only at h S r0 r1 r2 r3;obtain ⟨N,O,ad⟩:∃ N O,Ax=some ⟨N,O,none⟩:=by obtain ⟨N,O,P,_⟩:=Zag.at_ (show Zag wr (TyB wr 0) Ax 25 cx (d.drop 6) from h) (i:=0) qO;exact ⟨N,O,P⟩
     subst ad;have A:=Zag.head (show Zag wr (TyB wr 0) (some ⟨N,O,none⟩) 25 cx (d.drop 6) from h) S;have j:(d.drop 6).take (Zdj d)=ZcL d:=rfl;rw [j] at A;have U:=Yct A;have af:25<=cx:=Row.le h;have a7:=qH A;have a8:Hid ((ZcL d).length=Zdj d):=qH U;simp only at G;generalize ZcL d=D at *;generalize Zdj d=u at *;generalize (Zav d:Int)=s at *;generalize Zcq d=nx at *;have ag:(0:Int)<=(u:Int)/\(u:Int)<=25:=qO;have ah:(u:Int)<=(cx:Int):=qO;clear E r hx a1 M F h T j A U;have H:=(Yaa (fun _=>False) wr).alloc (.cells #[.int .i64 s,.int .i64 (u:Int),.int .i64 nx,.slice (some ⟨N,O,none⟩) 25 cx] 203);have V:=qH H;have a9:=qH (Zaa KO H);have ai:I.heap.size<=wr.heap.size:=KS.size;clear H;go_wp2_with (at_builtin;go_must (refine Zat rfl (.tmp 25) (.tmp 30) _ _ rfl I.heap.size 5 1 1 _ Tryz.underlying39 ZdY rfl (.slice a n c) n _ rfl a9 rfl (Zbg Tryz.underlying39 (Zag.same a7 V) (ZgX _)) (by unfold maxLen;omega) qO (by simp;omega) ?_);intro v7 w7 L;obtain ⟨A7,c7,rfl⟩:=Zad L.own;have W:=qH L;clear L);go_roundg (m-(k+1))
     case measure=>omega
     refine ⟨k+1,A7,n+u,c7,rfl,qO,rfl,by go_num,qO,qH (by rw [G.out,Yaf,KL.out,a8.out]),qH ?_,qH ?_⟩
     · have X:=W.own;rw [G.out,YaG];exact X
     exact (KS.trans V fun _ _ f=>f).trans W.upd fun q hq hh=>by have:=(KO.lt q hh).1;omega
   have aa:k=m:=qO;subst aa;have X:=KO.out;have h8:=KL.out;rw [YaB (by first | rw [HM.out];exact Yae _ | rw [HM];exact Yae _),a4.out] at X h8;have H9:=qH X;have H8:=qH h8;clear X h8 KO KL;go_wp2
   go_ret2
   refine ⟨C.trans KS.out fun _ _ f=>f,_,rfl,?_,?_⟩
   · unfold OwnB;rw [H8.out];exact Zac H9.out a5
   rw [H8.out];omega
attribute [local go_sem] Ybq
structure BlM (w:World) (mB cnt:Nat) (fB:Int->Option Value) (mb:List Nat):Prop where
 map:MpI w mB cnt fB
 cnt:cnt<=65536
 ids:∀ j:Nat,fB (j:Int)=if j∈mb then some (.int .i64 1) else none
def BlbR (s:St1) (x:P1) (mb:List Nat) (w:World) (mB cnt:Nat) (e:Ending) (w':World):Prop :=
 Upd (fun b=>b=mB) w w'/\match val1 s x mb with
 | .error er=>e=Zcn er
 | .ok (g,mb')=>∃ v fB',e=.returned v/\Zgf w' w.heap.size v g/\MpI w' mB (cnt+1) fB'/\∀ j:Nat,fB' (j:Int)=if j∈mb' then some (.int .i64 1) else none
abbrev ZuR (w3:World) (rd p fb xb:Nat) (bl:Int) (wx:World):Prop:=Same w3 wx/\wx.cell? ⟨rd,0,none⟩=some (.pointer (some ⟨p,0,none⟩))/\wx.cell? ⟨p,6,none⟩=some (.pointer (some ⟨fb,0,none⟩))/\wx.cell? ⟨xb,3,none⟩=some (.int .i64 bl)
theorem ZtJ (w:World) {B p rd mB cnt:Nat} {q:StP} {s:St1} {fB:Int->Option Value} {mb:List Nat} {m1 m2 m3 ch mt:Value} (x:P1) (hk:4<=x.kind/\x.kind<=9223372036854775807) (hbl : -9223372036854775808<=x.blob/\x.blob<=9223372036854775807)
 (hs:StM w B p q s) (hr:Blk w rd 84 #[.pointer (some ⟨p,0,none⟩),m1,m2,m3,ch,mt,.map (some mB)]) (hm:BlM w mB cnt fB mb) :
 Calls Tryz.prog 128 #[.pointer (some ⟨rd,0,none⟩),.agg x.cells] w (BlbR s x mb w mB cnt):=by
 obtain ⟨OR,a7⟩:∃ OR,BlbR s x mb w mB cnt=OR:=⟨_,rfl⟩
 have m:Hid (val1 s x mb=match Zjg s.blobs x.blob with
  | .error e=>.error e
  | .ok b=>if x.blob.toNat∈mb then .error 101 else if (decA b).2≠0 then .error (decA b).2 else if (decA b).1.kind≠x.kind then .error 40 else .ok ((decA b).1,x.blob.toNat::mb)):=qH (by unfold val1;rw [Yab qO];rfl)
 have X:Hid (∀ er W,val1 s x mb=.error er->Upd (fun b=>b=mB) w W->OR (Zcn er) W):=qH fun er W y A=>by rw [<- a7];unfold BlbR;rw [y];exact ⟨A,rfl⟩
 have bi:Hid (∀ g aj W v a8,val1 s x mb=.ok (g,aj)->Upd (fun b=>b=mB) w W->Zgf W w.heap.size v g->MpI W mB (cnt+1) a8->(∀ j:Nat,a8 (j:Int)=if j∈aj then some (.int .i64 1) else none)->OR (.returned v) W):=qH fun g aj W v a8 y A h3 h4 h5=>by rw [<- a7];unfold BlbR;rw [y];exact ⟨A,v,a8,rfl,h3,h4,h5⟩
 rw [a7];clear a7;generalize val1 s x mb=V at *;obtain ⟨ke,ki,nu,H,pr,ne⟩:=x;unfold P1.cells;simp only at hk hbl m ⊢;have c9:¬ ki<=3:=qO;have HS:=qH hs;have HR:=qH hr;have HM:=qH hm;have Y:=qH hbl;have ca:=qH hk;clear hs hr hm hbl hk;go_enter Tryz.func128,Tryz.ntmps128;go_upto_region 5 with fail;have Z:=Yad w 145 #[.int .i64 ke,.int .i64 ki,.int .i64 nu,.int .i64 H,.int .i64 pr,.int .i64 ne];have am:=(Yaa (fun _=>False) w).alloc (.cells #[.int .i64 ke,.int .i64 ki,.int .i64 nu,.int .i64 H,.int .i64 pr,.int .i64 ne] 145);have an:(w.alloc (.cells #[.int .i64 ke,.int .i64 ki,.int .i64 nu,.int .i64 H,.int .i64 pr,.int .i64 ne] 145)).heap.size=w.heap.size+1:=Yav _ _;rw [<- an];generalize w.alloc (.cells #[.int .i64 ke,.int .i64 ki,.int .i64 nu,.int .i64 H,.int .i64 pr,.int .i64 ne] 145)=w1 at *;have ao:=Yad w1 51 #[.int .i64 0,.int .i64 0,.string ⟨#[]⟩,.slice none 0 0,.slice none 0 0];have ap:=am.alloc (.cells #[.int .i64 0,.int .i64 0,.string ⟨#[]⟩,.slice none 0 0,.slice none 0 0] 51);have Z:=Z.same ((Yaa (fun _=>False) w1).alloc (.cells #[.int .i64 0,.int .i64 0,.string ⟨#[]⟩,.slice none 0 0,.slice none 0 0] 51));have n:w.heap.size<=w1.heap.size:=qO;generalize w1.alloc (.cells #[.int .i64 0,.int .i64 0,.string ⟨#[]⟩,.slice none 0 0,.slice none 0 0] 51)=S at *;have bj:=qH n;have a0:=qH Z;have aq:=qH ao;have a1:=qH ap;clear Z ao ap am an n;generalize w1.heap.size=T at *;generalize bb:w.heap.size=U at *;have ar:=qH bb;clear bb;have bk:Same S S.drew:=(Yaa _ S).drew;have au:=HR.same a1.out;have N:=HS.same a1.out;have av:Hid (∀ a,Same S a->ZuR S rd p q.fb U H a):=qH fun a h=>⟨h,(au.same h).cell 0,(N.blk.same h).cell 6,(a0.same h).cell 3⟩
 have cb:Hid (filD 8 1 32 q.lb=s.blobs):=qH N.eb;have u:Hid (∀ a,Same S a->Calls Tryz.prog 170 #[.pointer (some ⟨q.fb,0,none⟩),.int .i64 H] a fun e d=>LdR a (Zjg s.blobs H) e d/\Same S d):=qH fun a h=>by have y:=Zqy a (N.fb.same h) H Y.out;rw [N.eb] at y;exact y.mono fun e d A=>⟨A,h.trans A.1 fun _ _ f=>f⟩
 clear au N;generalize q.fb=fb at *;unfold LdR at u;rcases hL:Zjg s.blobs H with er | bs
 · rw [hL] at u m;simp only at u m;clear hL;go_region_held3 (fun a=>ZuR S rd p fb U H a) (exact av _ qA) (first
    | (go_at_call 170;refine (u.out _ qA).mono ?_;rintro e d ⟨⟨hs,rfl,bc⟩,I⟩))
   have bm:=qH bc;have bo:=a1.trans I fun _ _ f=>f;clear bc;go_wp2_with fail;refine (Zco d bm).mono ?_;rintro e w5 ⟨rfl,rfl⟩;exact ⟨rfl,X.out _ _ m (bo.mono fun _ _ f=>f.elim)⟩
 have cc:0<=H:=by
  unfold Zjg at hL;split at hL
  · cases hL
  split at hL
  · cases hL
  rename_i y;omega
 rw [hL] at u m;simp only at u m;clear hL;obtain ⟨c,rfl⟩:∃ c:Nat,H=(c:Int):=⟨H.toNat,qO⟩
 rw [YaN] at m;go_region_held3 (fun a=>ZuR S rd p fb U (c:Int) a) (exact av _ qA) (first
  | (go_at_call 170;refine (u.out _ qA).mono ?_;rintro e d ⟨⟨hs,v,rfl,ho,bd⟩,I⟩;obtain ⟨A7,c7,rfl⟩:=Zad ho))
 obtain ⟨n7,ak⟩:∃ n7,bs.length=n7:=⟨_,rfl⟩
 have ae:=qH ak;have HO:=qH ho;have E:=qH (a1.trans I fun _ _ f=>f);have o:=qH I;rw [ak] at bd ⊢;clear ho hs I ak bk;go_wp2_with fail;refine (ZbP d).mono ?_;rintro e w5 ⟨rfl,rfl⟩;have af:=HM.map.same E.out;have r6:=(HR.same E).c6;have x3:=(a0.same o).c3;obtain ⟨C,a9⟩:∃ C:Nat,(fB (c:Int)).getD (.int .i64 0)=.int .i64 (C:Int)/\C=if c∈mb then 1 else 0:=by
  rw [HM.ids c];by_cases h:c∈mb
  · exact ⟨1,by rw [Yac h];rfl,by rw [Yac h]⟩
  exact ⟨0,by rw [Yab h];rfl,by rw [Yab h]⟩
 have c8:C<=1:=by rw [a9.2];split <;> omega
 have bp:=qH a9.2;have aw:∀ a,Same d a->(Instr.lookup 71 (.map (some mB)) (.int .i64 (c:Int)) false).run Tryz.prog a=.ok (.int .i64 (C:Int)) a:=fun a h=>by have y:=((af.same h).look Zbp (Zec a) (i:=(c:Int)) Y).2;rw [a9.1] at y;exact y
 have cd:IntKind.i64.wrap ((C:Int)+1)=(C:Int)+1:=YbO _ ⟨qO,qO⟩;clear a9;go_upto_region 7 with fail;refine Zaj 8 (fun a=>a.cell? ⟨rd,6,none⟩=some (.map (some mB))/\a.cell? ⟨U,3,none⟩=some (.int .i64 (c:Int))/\(Instr.lookup 71 (.map (some mB)) (.int .i64 (c:Int)) false).run Tryz.prog a=.ok (.int .i64 (C:Int)) a) (by kernel_rfl) ⟨r6,x3,aw _ (Yaa _ d).drew⟩ (fun R=>?_)
 repeat
  first
   | refine YaL 0 (v:=?_) rfl (Or.inl ⟨by rfl,?_⟩) qA ?_
   | refine YaL 1 (v:=?_) rfl (Or.inl ⟨by rfl,?_⟩) qA ?_
   | refine YaL 2 (v:=?_) rfl (Or.inl ⟨by rfl,?_⟩) qA ?_
   | refine YaL 3 (v:=?_) rfl (Or.inl ⟨by rfl,?_⟩) qA ?_
   | refine YaL 4 (v:=?_) rfl (Or.inl ⟨by rfl,?_⟩) qA ?_
   | refine YaL 5 (v:=?_) rfl (Or.inl ⟨by rfl,?_⟩) qA ?_
   | refine YaL 6 (v:=?_) rfl (Or.inl ⟨by rfl,?_⟩) qA ?_
   | refine YaL 7 (v:=?_) rfl (Or.inl ⟨by rfl,?_⟩) qA ?_
  rotate_left
  · intro a z;have h0:=z.1;have y:=z.2.1;have A:=z.2.2;go_simp;try with_reducible rfl
  simp only [Act.put,Yal,YaA,Yaz,Yaw,Yam,Yap]
 have ax:=af.same (Yaa (fun _=>False) d).drew;obtain ⟨k,c5,bf,bg⟩:=ax.store Zbp (by have:=HM.cnt;unfold maxLen;omega) (i:=(c:Int)) Y (.int .i64 ((C:Int)+1));refine Ybi rfl (fun K hK=>?_);go_simp;refine hK.out _ _ ?_;clear hK K c5 R aw af ax r6 x3;have O:Hid (Upd (fun b=>b=mB) d k):=qH (((Yaa (fun b=>b=mB) d).drew).trans bg fun _ _ h=>h);have ay:=qH bf;have r:∀ {g:Nat} {t:TypeId} {cs:Array Value},Blk d g t cs->g≠mB:=fun h e=>(HM.map.same E).ne h e.symm;have bq:=qH ((HR.same E).upd O (r (HR.same E)));have az:=qH ((a0.same o).upd O (r (a0.same o)));have br:=qH ((aq.same o).upd O (r (aq.same o)));have bt:Hid (OwnB k S.drew.heap.size (.slice A7 n7 c7) bs):=qH (by
  have h:=HO.out;rw [ae.out] at h;exact Zae h O.out fun g hg e=>by obtain ⟨cs,h5⟩:=Zaf h hg;exact r h5 e)
 clear bg bf r;have b0:(c∈mb/\C=1)\/(c ∉ mb/\C=0):=by
  rw [bp.out];by_cases h:c∈mb
  · exact .inl ⟨h,Yac h⟩
  exact .inr ⟨h,Yab h⟩
 have F:Hid (∀ a,Same k a->Same k a/\a.cell? ⟨rd,6,none⟩=some (.map (some mB))/\a.cell? ⟨U,3,none⟩=some (.int .i64 (c:Int))/\(Instr.lookup 71 (.map (some mB)) (.int .i64 (c:Int)) false).run Tryz.prog a=.ok (.int .i64 ((C:Int)+1)) a):=qH fun a h=>⟨h,(bq.same h).cell 6,(az.same h).cell 3,by have y:=((ay.same h).look Zbp (Zec a) (i:=(c:Int)) Y).2;rw [show mpPI fB (c:Int) (.int .i64 ((C:Int)+1)) (c:Int)=some (.int .i64 ((C:Int)+1)) from Yac rfl] at y;exact y⟩
 have b1:Same k k.drew:=(Yaa _ k).drew;have b2:Hid (Upd (fun b=>b=mB) w k):=qH ((E.mono fun _ _ f=>f.elim).trans O fun _ _ h=>h);rcases b0 with ⟨l,rfl⟩ | ⟨l,rfl⟩
 · have HE:=qH (m.trans (Yac l));have b3:Hid (∀ a,Same k a->Calls Tryz.prog 66 #[.bool false,.int .i64 101] a fun e d=>(e=Zcn 101/\a=d)/\Same k d):=qH fun a h=>(Zas a 101).mono fun e d A=>⟨A,A.2 ▸ h⟩
   clear l;have F:Hid (∀ a,Same k a->Same k a/\a.cell? ⟨rd,6,none⟩=some (.map (some mB))/\a.cell? ⟨U,3,none⟩=some (.int .i64 (c:Int))/\(Instr.lookup 71 (.map (some mB)) (.int .i64 (c:Int)) false).run Tryz.prog a=.ok (.int .i64 2) a):=F;go_upto_region 8 with fail;refine Zaj 8 (fun a=>a.cell? ⟨rd,6,none⟩=some (.map (some mB))/\a.cell? ⟨U,3,none⟩=some (.int .i64 (c:Int))/\(Instr.lookup 71 (.map (some mB)) (.int .i64 (c:Int)) false).run Tryz.prog a=.ok (.int .i64 2) a) (by kernel_rfl) (F.out _ b1).2 (fun R=>?_)
   repeat
    first
     | refine YaL 0 (v:=?_) rfl (Or.inl ⟨by rfl,?_⟩) qA ?_
     | refine YaL 1 (v:=?_) rfl (Or.inl ⟨by rfl,?_⟩) qA ?_
     | refine YaL 2 (v:=?_) rfl (Or.inl ⟨by rfl,?_⟩) qA ?_
     | refine YaL 3 (v:=?_) rfl (Or.inl ⟨by rfl,?_⟩) qA ?_
     | refine YaL 4 (v:=?_) rfl (Or.inl ⟨by rfl,?_⟩) qA ?_
     | refine YaL 5 (v:=?_) rfl (Or.inl ⟨by rfl,?_⟩) qA ?_
     | refine YaL 6 (v:=?_) rfl (Or.inl ⟨by rfl,?_⟩) qA ?_
     | refine YaL 7 (v:=?_) rfl (Or.inl ⟨by rfl,?_⟩) qA ?_
    rotate_left
    · intro a z;have h0:=z.1;have y:=z.2.1;have A:=z.2.2;go_simp;try with_reducible rfl
    simp only [Act.put,Yal,YaA,Yaz,Yaw,Yam,Yap]
   refine Ybi rfl (fun K hK=>?_);go_simp;refine (Zas _ 101).mono ?_;rintro e w5 ⟨rfl,rfl⟩;exact ⟨rfl,X.out _ _ HE (b2.trans ((Yaa (fun b=>b=mB) k).drew) fun _ _ h=>h)⟩
 have F:Hid (∀ a,Same k a->Same k a/\a.cell? ⟨rd,6,none⟩=some (.map (some mB))/\a.cell? ⟨U,3,none⟩=some (.int .i64 (c:Int))/\(Instr.lookup 71 (.map (some mB)) (.int .i64 (c:Int)) false).run Tryz.prog a=.ok (.int .i64 1) a):=F;have m:=qH (m.trans (Yab l));have b3:Hid (∀ a,Same k a->Calls Tryz.prog 66 #[.bool true,.int .i64 101] a fun e d=>(e=.returned (.tuple #[])/\a=d)/\Same k d):=qH fun a h=>(ZaP a 101).mono fun e d A=>⟨A,A.2 ▸ h⟩
 have b4:=qH l;clear l;go_upto_region 8 with fail;go_region_held3 (fun a=>Same k a/\a.cell? ⟨rd,6,none⟩=some (.map (some mB))/\a.cell? ⟨U,3,none⟩=some (.int .i64 (c:Int))/\(Instr.lookup 71 (.map (some mB)) (.int .i64 (c:Int)) false).run Tryz.prog a=.ok (.int .i64 1) a) (exact F _ qA) (first
  | (go_at_call 66;refine (b3.out _ qA).mono ?_;rintro e d ⟨⟨rfl,rfl⟩,I⟩))
 clear b1;obtain ⟨wq,al⟩:∃ wq,k.drew=wq:=⟨_,rfl⟩
 have a2:Same k wq:=al ▸ (Yaa (fun _=>False) k).drew;rw [al];have bu:=qH a2;have b5:=(YdK ae bt).same a2;have b6:Hid (decD n7 (decP (bs.take 40082))=decA bs):=qH (by rw [ZqP _ (Yae _)];unfold decA;rw [ae.out]);obtain ⟨⟨⟨gk,gn,gt,cf,cg⟩,er⟩,hD⟩:∃ D:GVal×Int,decA bs=D:=⟨_,rfl⟩
 rw [hD] at b6 m;simp only at m;have bv:=qH (ZnB wq b5 _ b6);have ac:Hid (Upd (fun b=>b=mB) w wq):=qH (b2.trans (a2.mono fun _ _ f=>f.elim) fun _ _ h=>h);clear b5 hD a2 al;go_wp2_with fail;refine bv.mono ?_;rintro e wr ⟨v,rfl,⟨v1,v2,rfl,aa,ab⟩,bh⟩;simp only at aa ab;obtain ⟨A1,L,q1,rfl⟩:=ZaI aa;obtain ⟨A2,M,q2,rfl⟩:=ZaI ab;have b7:=qH bh;have bw:=qH aa;have bx:=qH ab;clear bh aa ab;go_upto_region 10 with fail;have b9:=Yad wr 51 #[.int .i64 gk,.int .i64 gn,.string gt,.slice A1 L q1,.slice A2 M q2];have a3:=(Yaa (fun _=>False) wr).alloc (.cells #[.int .i64 gk,.int .i64 gn,.string gt,.slice A1 L q1,.slice A2 M q2] 51);generalize wr.alloc (.cells #[.int .i64 gk,.int .i64 gn,.string gt,.slice A1 L q1,.slice A2 M q2] 51)=w8 at *;generalize wr.heap.size=b8 at *;have bz:=qH b9;have ag:=qH ((bu.trans b7 fun _ _ f=>f).trans a3 fun _ _ f=>f);have ad:=qH a3;have P:Hid (Upd (fun b=>b=mB) w w8):=qH ((ac.trans (b7.mono fun _ _ f=>f.elim) fun _ _ h=>h).trans (a3.mono fun _ _ f=>f.elim) fun _ _ h=>h);clear b9 a3;by_cases a4:er=0
 case neg =>
  have HE:=qH (m.trans (Yac a4));have c0:=qH a4;clear a4;go_wp2_with fail;refine (Zco w8 c0).mono ?_;rintro e w5 ⟨rfl,rfl⟩;exact ⟨rfl,X.out _ _ HE P⟩
 subst a4;have m:=qH (m.trans (Yab (by simp)));obtain ⟨p0,p1,p2,p3,p4⟩:=bz.five;have x1:=(az.same ag).c1;go_wp2_with fail;refine (ZbP w8).mono ?_;rintro e w5 ⟨rfl,rfl⟩;by_cases G:gk=ki
 case neg =>
  have HE:=qH (m.trans (Yac G));have c2:(gk==ki)=false:=Ybn.2 G;go_wp2_with fail;refine (Zas w8 40).mono ?_;rintro e w5 ⟨rfl,rfl⟩;exact ⟨rfl,X.out _ _ HE P⟩
 have m:=qH (m.trans (Yab (fun h=>h G)));have ce:=qH G;have c2:(gk==ki)=true:=YbE.2 G;clear G;have a5:=br.same ag.out;obtain ⟨r0,r1,r2,r3,r4⟩:=a5.five;obtain ⟨z0,z1,z2,z3,z4⟩:=a5.five_free;have a6:=qH a5;clear a5;go_wp2_with fail;refine (ZaP w8 40).mono ?_;rintro e w5 ⟨rfl,rfl⟩;go_wp2_with fail;have n:w.heap.size<=T:=by rw [ar.out];exact bj
 refine Zsl rfl (a6.put5 (.int .i64 gk) (.int .i64 gn) (.string gt) (.slice A1 L q1) (.slice A2 M q2)) ?_;have ah:Upd (fun b=>b=T) w8 (put5 w8 T (.int .i64 gk) (.int .i64 gn) (.string gt) (.slice A1 L q1) (.slice A2 M q2)):=(((((Yaa (fun b=>b=T) w8).setCell (p:=⟨T,0,none⟩) (.inl rfl) _).setCell (p:=⟨T,1,none⟩) (.inl rfl) _).setCell (p:=⟨T,2,none⟩) (.inl rfl) _).setCell (p:=⟨T,3,none⟩) (.inl rfl) _).setCell (p:=⟨T,4,none⟩) (.inl rfl) _;have ba:U<=wq.heap.size:=by rw [<- ar.out];exact ac.size
 have c4:fB (c:Int)=none:=by rw [HM.ids c,Yab b4.out]
 have ai:=ay.same ag.out;rw [c4] at ai;have o1:=Zaa (Zac bw ba) ad.out;have o2:=Zaa (Zac bx ba) ad.out;have hW:Upd (fun b=>b=mB) w (put5 w8 T (.int .i64 gk) (.int .i64 gn) (.string gt) (.slice A1 L q1) (.slice A2 M q2)):=YaY (YaY (YaY (YaY (YaY P n _) n _) n _) n _) n _;refine bi _ _ _ _ (mpPI fB (c:Int) (.int .i64 1)) m hW ⟨_,_,rfl,Zae o1 ah fun g hg e=>a6.ne_own o1 qD (e ▸ hg),Zae o2 ah fun g hg e=>a6.ne_own o2 qD (e ▸ hg)⟩ (ai.upd ah fun e=>ai.ne a6 e) fun j=>?_;unfold mpPI;by_cases e:j=c
 · rw [Yac qO,Yac (by simp [e])]
 rw [Yab qO,HM.ids j];simp [e]
end
end Go.Proofs.YtmkjfhnlnhceiaaGreatDoor
