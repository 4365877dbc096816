/- Texts that the claim leans on: walks and plain laws, function by function. -/
import Derived.Test.YtmkjfhnlnhceiaaGreatDoorTie
import Derived.Test.YtmkjfhnlnhceiaaGreatDoorCards
import Derived.SevenTiedAt
import Derived.Test.YtmkjfhnlnhceiaaGreatDoorN47
set_option maxRecDepth 100000
set_option maxHeartbeats 16000000
namespace Go.Proofs.YtmkjfhnlnhceiaaGreatDoor
section
open Go.RowKit
theorem ZsB {tmps:Array Value} {wE:World} {B:Nat} {u0 u1:Value} {er:Int} {R:Ending->World->Prop} (h2:tmps.getD 2 undef=.pointer (some ⟨B,0,none⟩)) (h3:tmps.getD 3 undef=.int .i64 er) (hb:Blk wE B 26 #[u0,u1]) (hR:R (.returned (.tuple #[.agg #[u0,u1],.int .i64 er])) wE) :
 bodyPost Tryz.prog Tryz.f12 R Exit.ret ⟨tmps,[]⟩ wE:=by
 have a:=hb.c0;have b:=hb.c1;refine YbB (v:=.tuple #[.agg #[u0,u1],.int .i64 er]) ?_ rfl hR;simp only [YbZ] at h2 h3;simp [results,Tryz.results12,go_sem,h2,h3,a,b]
def Zvb (b2:Nat) (Ok:Option Addr->Nat->Nat->Option Addr->Nat->Nat->World->Prop) (W:World):Prop:=∃ A1 n1 c1 A2 n2 c2,Blk W b2 26 #[.slice A1 n1 c1,.slice A2 n2 c2]/\Ok A1 n1 c1 A2 n2 c2 W
theorem ZsC {A:Option Addr} {n c:Nat} (w:World) {Ok:Option Addr->Nat->Nat->Option Addr->Nat->Nat->World->Prop} {Bad:Int->World->Prop}
 (hBad:∀ er W,Bad er W->Blk W (w.heap.size+1) 26 #[.slice none 0 0,.slice none 0 0])
 (H:∀ w2,Same w w2->w2.heap.size=w.heap.size+2->Blk w2 w.heap.size 29 #[.slice A n c]->Blk w2 (w.heap.size+1) 26 #[.slice none 0 0,.slice none 0 0] ->
   Calls Tryz.prog 30 #[.pointer (some ⟨w.heap.size,0,none⟩),.pointer (some ⟨w.heap.size+1,0,none⟩)] (w2.alloc (.cells #[.int .i64 0] 30)) (Zjc (Zvb (w.heap.size+1) Ok) Bad w2.heap.size)) :
 Calls Tryz.prog 12 #[.slice A n c] w fun e w' =>
  (∃ A1 n1 c1 A2 n2 c2 W,e=.returned (.tuple #[.agg #[.slice A1 n1 c1,.slice A2 n2 c2],.int .i64 0])/\Ok A1 n1 c1 A2 n2 c2 W/\Upd (fun b=>b=w.heap.size+1\/b=w.heap.size+2) W w') \/
  ∃ er W,e=.returned (.tuple #[.agg #[.slice none 0 0,.slice none 0 0],.int .i64 er])/\Bad er W/\Upd (fun b=>b=w.heap.size+1\/b=w.heap.size+2) W w':=by
 have y:=qH H;have o:=qH hBad;clear H hBad;have z:∀ (fn:Fn) (first cap:Array Value) (w:World),(Instr.makeFunc fn first cap).run Tryz.prog w=.ok (.func fn first cap) w:=fun _ _ _ _=>rfl;go_enter Tryz.func12,Tryz.ntmps12;go_upto_region 1 with fail;have i:=Yad w 29 #[.slice A n c];have q:=(Yaa (fun _=>False) w).alloc (.cells #[.slice A n c] 29);have r:(w.alloc (.cells #[.slice A n c] 29)).heap.size=w.heap.size+1:=Yav _ _;generalize w.alloc (.cells #[.slice A n c] 29)=t at *;have l:=Yad t 26 #[.slice none 0 0,.slice none 0 0];have i:=i.same ((Yaa (fun _=>False) t).alloc (.cells #[.slice none 0 0,.slice none 0 0] 26));have s:=q.alloc (.cells #[.slice none 0 0,.slice none 0 0] 26);have j:(t.alloc (.cells #[.slice none 0 0,.slice none 0 0] 26)).heap.size=t.heap.size+1:=Yav _ _;generalize t.alloc (.cells #[.slice none 0 0,.slice none 0 0] 26)=w2 at *;rw [r] at l j;have B:=qH (Zjd (gf:=30) (enters_of Tryz.func30 (by kernel_rfl) rfl) w2 (y.out w2 s j i l));clear i l q s r y;have k:=qH j;clear j;go_wp2_with fail;refine B.mono ?_;rintro e I ⟨a,u,⟨rfl,⟨A1,n1,c1,A2,n2,c2,g,v⟩,rfl⟩ | ⟨er,rfl,h,rfl⟩⟩
 · have d:w.heap.size+1≠w2.heap.size:=by rw [k.out];omega
   have f:=qH (g.far (p:=⟨w2.heap.size,0,none⟩) (fun e=>d e) (.int .i64 0));have x:Hid (Upd (fun b=>b=w.heap.size+1\/b=w.heap.size+2) a (a.setCell ⟨w2.heap.size,0,none⟩ (.int .i64 0))):=qH ((Yaa (fun b=>b=w.heap.size+1\/b=w.heap.size+2) a).setCell (p:=⟨w2.heap.size,0,none⟩) (.inl (.inr k)) _);have m:=qH v;clear d v g u;generalize a.setCell ⟨w2.heap.size,0,none⟩ (.int .i64 0)=G at *;have C:=f.c0;have D:=f.c1;have E:=f.frozen 0;have F:=f.frozen 1;go_wp2;refine ZsB rfl rfl ((f.put 0 (.slice A1 n1 c1)).put 1 (.slice A2 n2 c2)) ?_;exact .inl ⟨A1,n1,c1,A2,n2,c2,a,rfl,m,(x.setCell (p:=⟨w.heap.size+1,0,none⟩) (.inl (.inl rfl)) _).setCell (p:=⟨w.heap.size+1,1,none⟩) (.inl (.inl rfl)) _⟩
 have g:=(o.out er a h).same ((Yaa (fun _=>False) a).alloc (.cells #[.int .i64 er] 99));have d:w.heap.size+1≠w2.heap.size:=by rw [k.out];omega
 have f:=qH (g.far (p:=⟨w2.heap.size,0,none⟩) (fun e=>d e) (.int .i64 er));have x:Hid (Upd (fun b=>b=w.heap.size+1\/b=w.heap.size+2) a ((a.alloc (.cells #[.int .i64 er] 99)).setCell ⟨w2.heap.size,0,none⟩ (.int .i64 er))):=qH (((Yaa (fun b=>b=w.heap.size+1\/b=w.heap.size+2) a).alloc (.cells #[.int .i64 er] 99)).setCell (p:=⟨w2.heap.size,0,none⟩) (.inl (.inr k)) _);have m:=qH h;clear d h g u;generalize (a.alloc (.cells #[.int .i64 er] 99)).setCell ⟨w2.heap.size,0,none⟩ (.int .i64 er)=G at *;have C:=f.c0;have D:=f.c1;have E:=f.frozen 0;have F:=f.frozen 1;go_wp2;refine ZsB rfl rfl ((f.put 0 (.slice none 0 0)).put 1 (.slice none 0 0)) ?_;exact .inr ⟨er,a,rfl,m,(x.setCell (p:=⟨w.heap.size+1,0,none⟩) (.inl (.inl rfl)) _).setCell (p:=⟨w.heap.size+1,1,none⟩) (.inl (.inl rfl)) _⟩
theorem Zou {A:Option Addr} {n c:Nat} (w:World) {Q:Int->World->Prop} (H:Calls Tryz.prog 12 #[.slice A n c] w fun e w'=>∃ A1 n1 c1 A2 n2 c2 er,e=.returned (.tuple #[.agg #[.slice A1 n1 c1,.slice A2 n2 c2],.int .i64 er])/\Q er w') :
 Calls Tryz.prog 11 #[.slice A n c] w fun e w'=>∃ er W,e=.returned (.int .i64 er)/\Q er W/\Same W w':=by
 have d:=qH H;clear H;go_enter Tryz.func11,Tryz.ntmps11;go_wp2_with fail;refine d.mono ?_;rintro e a ⟨A1,n1,c1,A2,n2,c2,er,rfl,b⟩;have f:=qH b;clear b;go_wp2;go_ret;exact ⟨er,a,rfl,f,(Yaa (fun _=>False) a).alloc _⟩
attribute [local go_sem] Ybq
theorem Fls.same {w w':World} {F:Nat->Prop} {A:Option Addr} {n c:Nat} {fs:List SF} (h:Fls w F A n c fs) (hu:Same w w'):Fls w' F A n c fs:=⟨h.row.same hu,fun x a=>⟨(h.each x a).1.same hu,(h.each x a).2⟩⟩
theorem Zvc (w4 W:World) (p z n1 n2 B0:Nat) (hn1:n1<=65536) (hn2:n2<=65536) (hz:w4.heap.size=z) (hW:(((((w4.alloc (.map #[] 0)).alloc (.map #[] 0)).alloc (.map #[] 0)).alloc (.map #[] 0)).alloc (.map #[] 0)).alloc (.cells #[.pointer (some ⟨p,0,none⟩),.map (some z),.map (some (z+1)),.map (some (z+1+1)),.slice none 0 0,.map (some (z+1+1+1)),.map (some (z+1+1+1+1))] 84)=W) :
 Same w4 W/\Blk W (z+1+1+1+1+1) 84 #[.pointer (some ⟨p,0,none⟩),.map (some z),.map (some (z+1)),.map (some (z+1+1)),.slice none 0 0,.map (some (z+1+1+1)),.map (some (z+1+1+1+1))]/\RecM W z [] (VN B0)/\RecM W (z+1) [] VR/\RecM W (z+1+1) [] VP/\MsN W (z+1+1+1) [] n1/\MsN W (z+1+1+1+1) [] n2:=by
 have a:∀ (v:World) (o:Obj),Same v (v.alloc o):=fun v o=>(Yaa _ v).alloc o;have k:=RecM.made (V:=VN B0) w4;have D:=a w4 (.map #[] 0);have l:(w4.alloc (.map #[] 0)).heap.size=z+1:=by rw [Yav,hz]
 rw [hz] at k;generalize w4.alloc (.map #[] 0)=c at *;have m:=RecM.made (V:=VR) c;have E:=a c (.map #[] 0);have n:(c.alloc (.map #[] 0)).heap.size=z+1+1:=by rw [Yav,l]
 rw [l] at m;generalize c.alloc (.map #[] 0)=d at *;have q:=RecM.made (V:=VP) d;have F:=a d (.map #[] 0);have r:(d.alloc (.map #[] 0)).heap.size=z+1+1+1:=by rw [Yav,n]
 rw [n] at q;generalize d.alloc (.map #[] 0)=e at *;have s:=MsN.made e hn1;have G:=a e (.map #[] 0);have t:(e.alloc (.map #[] 0)).heap.size=z+1+1+1+1:=by rw [Yav,r]
 rw [r] at s;generalize e.alloc (.map #[] 0)=g at *;have u:=MsN.made g hn2;have H:=a g (.map #[] 0);have I:(g.alloc (.map #[] 0)).heap.size=z+1+1+1+1+1:=by rw [Yav,t]
 rw [t] at u;generalize g.alloc (.map #[] 0)=C at *;have w:=Yad C 84 #[.pointer (some ⟨p,0,none⟩),.map (some z),.map (some (z+1)),.map (some (z+1+1)),.slice none 0 0,.map (some (z+1+1+1)),.map (some (z+1+1+1+1))];have i:=a C (.cells #[.pointer (some ⟨p,0,none⟩),.map (some z),.map (some (z+1)),.map (some (z+1+1)),.slice none 0 0,.map (some (z+1+1+1)),.map (some (z+1+1+1+1))] 84);rw [I,hW] at w;rw [hW] at i;have y:Same g W:=H.trans i fun _ _ f=>f;have A:Same e W:=G.trans y fun _ _ f=>f;have B:Same d W:=F.trans A fun _ _ f=>f;have j:Same c W:=E.trans B fun _ _ f=>f;exact ⟨D.trans j fun _ _ f=>f,w,k.upd j id fun x v h=>h.upd j fun b f=>f.elim,m.upd B id fun x v h=>h,q.upd A id fun x v h=>h,s.same y,u.same i⟩
def DnOk (w:World) (fs:List ZdH) (A1:Option Addr) (n1 c1:Nat) (A2:Option Addr) (n2 c2:Nat) (W:World):Prop :=
 ∃ ns rs,OwnG W (w.heap.size+3) ⟨ns,A1,n1,c1,rs,A2,n2,c2⟩/\ZbW fs=.ok (GR.dat ⟨ns,A1,n1,c1,rs,A2,n2,c2⟩)/\Same w W
def Zvd (w:World) (fs:List ZdH) (er:Int) (W:World):Prop:=Blk W (w.heap.size+1) 26 #[.slice none 0 0,.slice none 0 0]/\ZbW fs=.error er/\Same w W
theorem Zve {F:Nat->Prop} {A:Option Addr} {n c:Nat} {fs:List SF} (w:World) (hF:Fls w F A n c fs) (hl:fs.length=n) (hN:Nib w)
 (w2:World) (hs2:Same w w2) (hz2:w2.heap.size=w.heap.size+2) (hb0:Blk w2 w.heap.size 29 #[.slice A n c]) (hb1:Blk w2 (w.heap.size+1) 26 #[.slice none 0 0,.slice none 0 0]) :
 Calls Tryz.prog 30 #[.pointer (some ⟨w.heap.size,0,none⟩),.pointer (some ⟨w.heap.size+1,0,none⟩)] (w2.alloc (.cells #[.int .i64 0] 30)) (Zjc (Zvb (w.heap.size+1) (DnOk w (fs.map SF.dat))) (Zvd w (fs.map SF.dat)) w2.heap.size):=by
 have v:=Yad w2 30 #[.int .i64 0];have a:=(Yaa (fun _=>False) w2).alloc (.cells #[.int .i64 0] 30);have a7:(w2.alloc (.cells #[.int .i64 0] 30)).heap.size=w2.heap.size+1:=Yav _ _;obtain ⟨OR,o⟩:∃ OR,Zjc (Zvb (w.heap.size+1) (DnOk w (fs.map SF.dat))) (Zvd w (fs.map SF.dat)) w2.heap.size=OR:=⟨_,rfl⟩
 have x:Hid (∀ t W,ZbW (fs.map SF.dat)=.error t->Same (w2.alloc (.cells #[.int .i64 0] 30)) W->OR (Zcn t) W):=qH fun t W h1 I=>by rw [<- o];exact ⟨v.same I,.inr ⟨t,rfl,(hb1.same a).same I,h1,(hs2.trans a fun _ _ f=>f).trans I fun _ _ f=>f⟩⟩
 have P:Hid (∀ (g:GR) W W',ZbW (fs.map SF.dat)=.ok g.dat->Same (w2.alloc (.cells #[.int .i64 0] 30)) W->OwnG W (w.heap.size+3) g->Upd (fun b=>b=w.heap.size+1) W W'->Blk W' (w.heap.size+1) 26 #[.slice g.AN g.nN g.cN,.slice g.AR g.nR g.cR]->OR (.returned (.tuple #[])) W'):=qH fun g W W' h1 I h3 h4 h5=>by
  rw [<- o];refine ⟨(v.same I).upd h4 fun e=>qO,.inl ⟨rfl,_,_,_,_,_,_,h5,g.ns,g.rs,?_,h1,?_⟩⟩
  · have hT:∀ b,b<W.heap.size->b=w.heap.size+1->OfT W 26 b:=fun b _ e=>e ▸ ⟨_,(hb1.same a).same I⟩;exact ⟨h3.nodes.type h4 hT qD qD qD qD,h3.rels.type h4 hT qD qD qD qD⟩
  exact ((hs2.trans a fun _ _ f=>f).trans I fun _ _ f=>f).trans h4 fun b M e=>qO
 rw [o];clear o;have a8:=qH (hF.same (hs2.trans a fun _ _ f=>f));have a9:=qH (hN.same (hs2.trans a fun _ _ f=>f));have aa:=qH (hb0.same a);have ab:=qH (hb1.same a);have HZ:Hid (w2.heap.size=w.heap.size+2/\(w2.alloc (.cells #[.int .i64 0] 30)).heap.size=w.heap.size+3):=qH ⟨hz2,qO⟩;clear hF hN hs2 hz2 hb0 hb1 v a a7;generalize w2.alloc (.cells #[.int .i64 0] 30)=w3 at *;have ac:=@YcC Tryz.prog;have q0:=aa.c0;go_enter Tryz.func30,Tryz.ntmps30;go_wp2_with fail;refine (ZrN w3 a8 hl a9).mono ?_;rintro e i Z;unfold OpnR at Z;rcases hop:Zfc (fs.map SF.dat) with t | s
 · rw [hop] at Z;obtain ⟨rfl,r⟩:=Z;have l:Hid (ZbW (fs.map SF.dat)=.error t):=qH (by unfold ZbW;rw [hop]);exact ⟨rfl,x.out t i l.out r⟩
 rw [hop] at Z;obtain ⟨p,q,rfl,a0,r⟩:=Z;have l:Hid (ZbW (fs.map SF.dat)=if decE s≠0 then .error (decE s) else grP s):=qH (by unfold ZbW;rw [hop];exact ZuU s);have j:=qH a0;have y:=qH r;clear a0 r hop q0;go_upto_region 1 with fail;have R:s.props.recs.length<=65536:=by rw [<- j.ep];simpa [filD] using j.fp.len
 have S:s.blobs.recs.length<=65536:=by rw [<- j.eb];simpa [filD] using j.fb.len
 obtain ⟨W,hW⟩:∃ W,(((((i.alloc (.map #[] 0)).alloc (.map #[] 0)).alloc (.map #[] 0)).alloc (.map #[] 0)).alloc (.map #[] 0)).alloc (.cells #[.pointer (some ⟨p,0,none⟩),.map (some i.heap.size),.map (some (i.heap.size+1)),.map (some (i.heap.size+1+1)),.slice none 0 0,.map (some (i.heap.size+1+1+1)),.map (some (i.heap.size+1+1+1+1))] 84)=W:=⟨_,rfl⟩
 rw [hW];obtain ⟨z,hz⟩:∃ z,i.heap.size=z:=⟨_,rfl⟩
 rw [hz] at hW ⊢;obtain ⟨hs,M,L,a1,a2,a3,a4⟩:=Zvc i W p z s.props.recs.length s.blobs.recs.length i.heap.size R S hz hW;have ad:=L.lt;have T:=qH (Zng i W j hs qO M L a1 a2 qO);have HS:=qH hs;have ae:=qH a3;have af:=qH a4;have B:=qH hz;have C:Hid (w3.heap.size<=z):=qH (qt y.size);clear hW hs M L a1 a2 a3 a4 ad ac R S hz;go_wp2_with fail;refine T.mono ?_;rintro e N ⟨m,⟨h0,rfl⟩ | ⟨h0,rfl,A',c',hD⟩⟩
 · have l:=qH (l.trans (Yac h0));exact ⟨rfl,x.out _ N l ((y.trans HS fun _ _ f=>f).trans m fun b M e=>by have:=C.out;rcases e with e | e | e | e <;> omega)⟩
 have l:=qH (l.trans (Yab (fun h=>h h0)));have d:Same i N:=HS.trans m fun b M e=>by have:=B.out;rcases e with e | e | e | e <;> omega
 have U:=d.size;have V:GrS i N w3.heap.size p (z+1+1+1+1+1) z (z+1) (z+1+1) (z+1+1+1) (z+1+1+1+1) q s A' c' [] [] :=
  ⟨j,d,qh B,hD,ae.upd m (by rintro (e | e | e | e) <;> omega),af.upd m (by rintro (e | e | e | e) <;> omega),qO,ZuV h0⟩
 have D:=qH (Zot i N V);unfold GrR at D;have ag:=qH (y.trans d fun _ _ f=>f);have ah:Hid (z<=N.heap.size):=qH (qh B);clear V d hD m T h0 U;go_wp2_with fail;refine D.mono ?_;rintro e O ⟨a5,hX⟩;have E:Same w3 O:=ag.trans a5 fun b M e=>by have:=C.out;rcases e with e | e <;> omega
 have X:=qH E;rcases hgr:grP s with t | G
 · rw [hgr] at hX l;simp only at hX;subst hX;exact ⟨rfl,x.out _ O l.out X.out⟩
 rw [hgr] at hX l;obtain ⟨⟨ns,AN,nN,cN,rs,AR,nR,cR⟩,rfl,a6,u⟩:=hX;unfold GR.agg;simp only;have k:=ab.same E;have r0:=k.c0;have r1:=k.c1;have z0:=k.frozen 0;have z1:=k.frozen 1;have ai:=qH k;have aj:=qH a6;have ak:=qH u;clear a5 E hgr a6 u k D;go_wp2_with fail;have Y:Upd (fun b=>b=w.heap.size+1) O ((O.setCell ⟨w.heap.size+1,0,none⟩ (.slice AN nN cN)).setCell ⟨w.heap.size+1,1,none⟩ (.slice AR nR cR)):=((Yaa (fun b=>b=w.heap.size+1) O).put1 _).put1 _;have al:=(ai.put 0 (.slice AN nN cN)).put 1 (.slice AR nR cR);have H:w.heap.size+3<=N.heap.size:=by have:=HZ.out;have:=C.out;have:=ah.out;omega
 have hr:=P.out ⟨ns,AN,nN,cN,rs,AR,nR,cR⟩ O _ (l.trans (by rw [ak.out])) X.out (aj.base H) Y al;refine YbB (Ycp rfl _ _ _) rfl ?_;exact hr
def DntR (fs:List ZdH) (w:World) (e:Ending) (w':World):Prop:=match ZbW fs with
 | .error er=>e=.returned (.tuple #[.agg #[.slice none 0 0,.slice none 0 0],.int .i64 er])/\Same w w'
 | .ok G=>∃ g:GR,e=.returned (.tuple #[g.agg,.int .i64 0])/\OwnG w' w.heap.size g/\g.dat=G/\Same w w'
theorem ZjE {F:Nat->Prop} {A:Option Addr} {n c:Nat} {fs:List SF} (w:World) (hF:Fls w F A n c fs) (hl:fs.length=n) (hN:Nib w) :
 Calls Tryz.prog 12 #[.slice A n c] w (DntR (fs.map SF.dat) w):=by
 refine (ZsC (Ok:=DnOk w (fs.map SF.dat)) (Bad:=Zvd w (fs.map SF.dat)) w (fun q W h=>h.1) fun r s t u y=>Zve w hF hl hN r s t u y).mono ?_;rintro e o (⟨z,B,C,D,E,G,W,rfl,⟨H,I,d,l,i⟩,j⟩ | ⟨q,W,rfl,⟨_,l,i⟩,j⟩)
 · unfold DntR;rw [l];have p:∀ g,(g=w.heap.size+1\/g=w.heap.size+2)->¬ w.heap.size+3<=g:=fun g h=>qO;have f:∀ {e:TypeId} {k n:Nat} {v:Value} {xs:List Value},W.ownsRow (w.heap.size+3) e k v n xs->o.ownsRow (w.heap.size+3) e k v n xs:=fun h=>Zae h j fun g L i=>p g i (h.lt g L).1;have m:∀ {v:Value} {ps:List PR},ZbL W (w.heap.size+3) v ps->ZbL o (w.heap.size+3) v ps:=fun h=>⟨f h.row,fun x a=>⟨f (h.each x a).nums,f (h.each x a).texts,(h.each x a).fits⟩⟩
   refine ⟨⟨H,z,B,C,I,D,E,G⟩,rfl,?_,rfl,i.trans j fun b M h=>qO⟩;exact OwnG.base ⟨⟨f d.nodes.row,fun x a=>⟨f (d.nodes.each x a).lab,m (d.nodes.each x a).pro,(d.nodes.each x a).id⟩⟩,⟨f d.rels.row,fun x a=>⟨m (d.rels.each x a).pro,(d.rels.each x a).id⟩⟩⟩ qO
 unfold DntR;rw [l];exact ⟨rfl,i.trans j fun b M h=>qO⟩
theorem ZgU {F:Nat->Prop} {A:Option Addr} {n c:Nat} {fs:List SF} (w:World) (hF:Fls w F A n c fs) (hl:fs.length=n) (hN:Nib w) :
 Calls Tryz.prog 11 #[.slice A n c] w fun e w'=>e=.returned (.int .i64 (match ZbW (fs.map SF.dat) with | .error er=>er | .ok _=>0))/\Same w w':=by
 refine (Zou (Q:=fun er W=>er=(match ZbW (fs.map SF.dat) with | .error er=>er | .ok _=>0)/\Same w W) w ((ZjE w hF hl hN).mono ?_)).mono ?_
 · rintro e w' h;unfold DntR at h;cases hd:ZbW (fs.map SF.dat) with
   | error er =>
     rw [hd] at h;obtain ⟨rfl,a⟩:=h;exact ⟨_,_,_,_,_,_,er,rfl,rfl,a⟩
   | ok G =>
     rw [hd] at h;obtain ⟨g,rfl,_,_,a⟩:=h;exact ⟨_,_,_,_,_,_,0,rfl,rfl,a⟩
 rintro e w' ⟨er,W,rfl,⟨rfl,a⟩,b⟩;exact ⟨rfl,a.trans b fun _ _ f=>f⟩
end
section
open Go.RowKit
attribute [local go_sem] Ybq
def Zdt:ZaN:=⟨[⟨2,[⟨#[65]⟩],[⟨⟨#[107]⟩,⟨4,0,⟨#[104,105]⟩,[],[]⟩⟩]⟩],[]⟩
theorem ZsD {s m m':List ByteArray} (h:Srt s m) (h':Srt s m'):m=m':=by have b:=(Zhp h).unique (Zhp h');have a:=YaC (List.map fun l:List UInt8=>(⟨l.toArray⟩:ByteArray)) b;rw [Ybf,Ybf] at a;have e:∀ l:List ByteArray,l.map ((fun l:List UInt8=>(⟨l.toArray⟩:ByteArray)) ∘ fun x=>x.data.toList)=l:=fun l=>(Ycq fun x _=>by simp).trans (Yes l);rw [e,e] at a;exact a
theorem ZcH:Zaq Zdt 1=[⟨#[65]⟩]/\Zaq Zdt 2=[]/\Zaq Zdt 3=[⟨#[107]⟩] :=
 ⟨ZsD (ZaA Zdt 1) ⟨by simp,fun x=>by simp [Zam,Zdt]⟩,ZsD (ZaA Zdt 2) ⟨by simp,fun x=>by simp [Zam,Zdt]⟩,ZsD (ZaA Zdt 3) ⟨by simp,fun x=>by simp [Zam,Zdt]⟩⟩
theorem Znj:(chkP Zdt).1=0:=by unfold chkP;rw [ZcH.1,ZcH.2.1,ZcH.2.2];decide +kernel
theorem ZqC:ZvA Zdt:=by refine ⟨fun x a p b=>?_,fun x a=>by cases a⟩;simp only [Zdt,YaH] at a;subst a;simp only [YaH] at b;subst b;exact ⟨qD,qD,by simp⟩
theorem ZkA:(Zev Zdt).nodes=⟨4,1,17,[none,none,some [0,0,0,0,0,0,0,1,1,0,0,0,0,0,0,0]]⟩:=by
 have h:(ZgL [] [⟨#[107]⟩] (Zay Zdt.nodes (ZdK Zdt.rels [])).1 Zdt.rels (ZgK [⟨#[65]⟩] [⟨#[107]⟩] (Zdt.nodes.zip (Zay Zdt.nodes (ZdK Zdt.rels [])).2) ⟨[],[],[],[]⟩)).nodes=[none,none,some [0,0,0,0,0,0,0,1,1,0,0,0,0,0,0,0]]:=by decide +kernel
 unfold Zev;rw [ZcH.1,ZcH.2.1,ZcH.2.2];exact YaC (fun r=>(⟨4,1,17,r⟩:Zaz)) h
theorem ZqD:∃ D,(ZcN (Zev Zdt))[4]?=some ⟨⟨#[110,111,100,101,115]⟩,D⟩/\D.length=67/\D.drop 50=[1,0,0,0,0,0,0,0,1,1,0,0,0,0,0,0,0]:=by
 refine ⟨ZaS (Zev Zdt).nodes,rfl,?_,?_⟩
 · rw [ZkA,ZmL qD (by intro d a;simp only [Yat,YcB,Ych,reduceCtorEq,false_or,Yce] at a;rw [a];rfl)];rfl
 rw [ZkA];unfold ZaS;rw [Yfq,Yfq,Zgm,Zab,Ybt (by rw [Zgm];decide),Ybt (by rw [Zab];decide)];rfl
theorem ZqE (w:World):let g0:GR:=⟨[⟨2,[⟨#[65]⟩],some ⟨w.heap.size,0,none⟩,1,1,[⟨⟨#[107]⟩,⟨4,0,⟨#[104,105]⟩,[],[]⟩,none,0,0,none,0,0⟩],some ⟨w.heap.size+1,0,none⟩,1,1⟩],some ⟨w.heap.size+1+1,0,none⟩,1,1,[],none,0,0⟩
 let b:=((((w.alloc (.cells #[.string ⟨#[65]⟩] 9)).alloc (.cells #[.string ⟨#[107]⟩,.int .i64 4,.int .i64 0,.string ⟨#[104,105]⟩,.slice none 0 0,.slice none 0 0] 53)).alloc (.cells #[.int .i64 2,.slice (some ⟨w.heap.size,0,none⟩) 1 1,.slice (some ⟨w.heap.size+1,0,none⟩) 1 1] 56)).alloc (.cells #[.slice (some ⟨w.heap.size+1+1,0,none⟩) 1 1,.slice none 0 0] 26))
 Same w b/\Blk b (w.heap.size+1+1+1) 26 #[.slice (some ⟨w.heap.size+1+1,0,none⟩) 1 1,.slice none 0 0]/\RdG b (fun _=>True) g0/\ZeS g0:=by
 intro g0 b;have u:=(Yaa (fun _=>False) w).alloc (.cells #[.string ⟨#[65]⟩] 9);have v:=Yad w 9 #[.string ⟨#[65]⟩];have i:(w.alloc (.cells #[.string ⟨#[65]⟩] 9)).heap.size=w.heap.size+1:=Yav _ _;have y:b=((((w.alloc (.cells #[.string ⟨#[65]⟩] 9)).alloc (.cells #[.string ⟨#[107]⟩,.int .i64 4,.int .i64 0,.string ⟨#[104,105]⟩,.slice none 0 0,.slice none 0 0] 53)).alloc (.cells #[.int .i64 2,.slice (some ⟨w.heap.size,0,none⟩) 1 1,.slice (some ⟨w.heap.size+1,0,none⟩) 1 1] 56)).alloc (.cells #[.slice (some ⟨w.heap.size+1+1,0,none⟩) 1 1,.slice none 0 0] 26)):=rfl;generalize b=b at *;generalize w.alloc (.cells #[.string ⟨#[65]⟩] 9)=d at *;have n:=(Yaa (fun _=>False) d).alloc (.cells #[.string ⟨#[107]⟩,.int .i64 4,.int .i64 0,.string ⟨#[104,105]⟩,.slice none 0 0,.slice none 0 0] 53);have o:=Yad d 53 #[.string ⟨#[107]⟩,.int .i64 4,.int .i64 0,.string ⟨#[104,105]⟩,.slice none 0 0,.slice none 0 0];have p:(d.alloc (.cells #[.string ⟨#[107]⟩,.int .i64 4,.int .i64 0,.string ⟨#[104,105]⟩,.slice none 0 0,.slice none 0 0] 53)).heap.size=d.heap.size+1:=Yav _ _;generalize d.alloc (.cells #[.string ⟨#[107]⟩,.int .i64 4,.int .i64 0,.string ⟨#[104,105]⟩,.slice none 0 0,.slice none 0 0] 53)=e at *;have j:=(Yaa (fun _=>False) e).alloc (.cells #[.int .i64 2,.slice (some ⟨w.heap.size,0,none⟩) 1 1,.slice (some ⟨w.heap.size+1,0,none⟩) 1 1] 56);have q:=Yad e 56 #[.int .i64 2,.slice (some ⟨w.heap.size,0,none⟩) 1 1,.slice (some ⟨w.heap.size+1,0,none⟩) 1 1];have z:(e.alloc (.cells #[.int .i64 2,.slice (some ⟨w.heap.size,0,none⟩) 1 1,.slice (some ⟨w.heap.size+1,0,none⟩) 1 1] 56)).heap.size=e.heap.size+1:=Yav _ _;generalize e.alloc (.cells #[.int .i64 2,.slice (some ⟨w.heap.size,0,none⟩) 1 1,.slice (some ⟨w.heap.size+1,0,none⟩) 1 1] 56)=r at *;have c:=(Yaa (fun _=>False) r).alloc (.cells #[.slice (some ⟨w.heap.size+1+1,0,none⟩) 1 1,.slice none 0 0] 26);have l:=Yad r 26 #[.slice (some ⟨w.heap.size+1+1,0,none⟩) 1 1,.slice none 0 0];rw [<- y] at c l;rw [z,p,i] at l;rw [p,i] at q;rw [i] at o;have A:=((v.same n).same j).same c;have B:=(o.same j).same c;have C:=q.same c;have D:(1:Nat)<=maxLen:=by simp [maxLen]
 have m:∀ {g:Nat} {t:TypeId} {cs:Array Value} {k:Nat},Blk b g t cs->cs.size=1*k->WRow b (fun _=>True) k (some ⟨g,0,none⟩) 1 1 cs.toList:=fun E h=>((Ycb E h (Yae _) D).mono fun _ _ _=>trivial).weak;refine ⟨((u.trans n fun _ _ f=>f).trans j fun _ _ f=>f).trans c fun _ _ f=>f,l,⟨⟨m C rfl,fun x a=>?_,fun x a=>?_,fun x a=>?_⟩,⟨(YdY _ _ _).weak,(fun x a=>absurd a YcB),(fun x a=>absurd a YcB)⟩⟩,⟨(show (1:Nat)*56<=140737488351232 by decide),(show (0:Nat)*64<=140737488351232 by decide),fun x a=>?_,(fun x a=>absurd a YcB)⟩⟩
 · rw [YaH] at a;subst a;exact m A rfl
 · rw [YaH] at a;subst a;refine ⟨m B rfl,fun x a=>?_⟩;rw [YaH] at a;subst a;exact ⟨(YdY _ _ _).weak,(YdY _ _ _).weak,by simp,by simp,by simp⟩
 · rw [YaH] at a;subst a;simp [ZkI]
 rw [YaH] at a;subst a;refine ⟨by simp,fun s h=>?_,⟨by simp,fun x a=>?_⟩⟩
 · rw [YaH] at h;subst h;decide
 rw [YaH] at a;subst a;exact ⟨by simp,by simp,(show 2<=140737488351232 by decide),by simp,(show 1<=140737488351232 by decide)⟩
theorem ZtR (w:World) (hN:Nib w):Calls Tryz.prog 7 #[] w fun e w'=>e=.returned (.bool true)/\Same w w':=by
 have HN:=qH hN;clear hN;go_enter Tryz.func7,Tryz.ntmps7;go_upto_region 2 with fail;obtain ⟨gB,aq⟩:∃ gB,w.heap.size+1+1+1=gB:=⟨_,rfl⟩
 obtain ⟨g0,y⟩:∃ g0:GR,g0=⟨[⟨2,[⟨#[65]⟩],some ⟨w.heap.size,0,none⟩,1,1,[⟨⟨#[107]⟩,⟨4,0,⟨#[104,105]⟩,[],[]⟩,none,0,0,none,0,0⟩],some ⟨w.heap.size+1,0,none⟩,1,1⟩],some ⟨w.heap.size+1+1,0,none⟩,1,1,[],none,0,0⟩:=⟨_,rfl⟩
 have P:=ZqE w;rw [<- y] at P;obtain ⟨wG,ar⟩:∃ wG,((((w.alloc (.cells #[.string ⟨#[65]⟩] 9)).alloc (.cells #[.string ⟨#[107]⟩,.int .i64 4,.int .i64 0,.string ⟨#[104,105]⟩,.slice none 0 0,.slice none 0 0] 53)).alloc (.cells #[.int .i64 2,.slice (some ⟨w.heap.size,0,none⟩) 1 1,.slice (some ⟨w.heap.size+1,0,none⟩) 1 1] 56)).alloc (.cells #[.slice (some ⟨w.heap.size+1+1,0,none⟩) 1 1,.slice none 0 0] 26))=wG:=⟨_,rfl⟩
 rw [ar] at P ⊢;obtain ⟨a3,r,a4,hz⟩:=P;have L:g0.dat=Zdt:=by rw [y] <;> rfl
 have R:g0.agg=.agg #[.slice (some ⟨w.heap.size+1+1,0,none⟩) 1 1,.slice none 0 0]:=by rw [y] <;> rfl
 rw [aq] at r ⊢;have S:=Zqw wG a4 hz (HN.same a3);rw [R] at S;have a7:=qH S;have b8:=qH R;have T:=qH L;have a8:=qH a4;have HZ:=qH hz;have b9:=qH a3;have a9:=qH r;have q0:=r.c0;have q1:=r.c1;generalize w.heap.size+1+1=nB at *;clear S R L a4 hz a3 r ar y aq;go_wp2_with fail;refine a7.mono ?_;rintro e a (⟨h0,_⟩ | ⟨_,A,c,fs,rfl,hF,s,au⟩)
 · exact absurd (T.out ▸ Znj) h0
 rw [T.out] at s;have aa:fs.length=8:=by have M:=YaC List.length s;rw [Yag] at M;exact M
 obtain ⟨D,av,aw,ax⟩:=ZqD;obtain ⟨fb,fo,x,hA,_,_,hx,ay,a5⟩:=hF.row.weak.atF (i:=4) SF.two qD qD;have U:x.dat=⟨⟨#[110,111,100,101,115]⟩,D⟩:=by have M:=YaC (fun l:List ZdH=>l[4]?) s;simp only [Yau,hx,Ybw] at M;rw [av] at M;exact Yax M
 obtain ⟨xn,xd,xA,xk,xc⟩:=x;obtain ⟨rfl,rfl⟩:xn=⟨#[110,111,100,101,115]⟩/\xd=D:=⟨YaC ZdH.name U,YaC ZdH.data U⟩
 have b:=(hF.each _ ay).1;have V:=Yct b;simp only at b V;rw [aw] at V;subst V;subst hA;obtain ⟨b2,o2,_,bt,_⟩:=Row.at_ (i:=0) b qD;subst bt;have W:=Row.cut (j:=50) (m:=67) b qD (Yae _);have ab:=Row.le b;rw [Yab qO] at W;have g:∀ t,Same a t->(convert 39 9 (.slice (some ⟨b2,o2+50,none⟩) 17 (xc-50))).run Tryz.prog t=.ok (.string ⟨#[1,0,0,0,0,0,0,0,1,1,0,0,0,0,0,0,0]⟩) t:=fun t hs=>by
  have M:Zag t (fun x=>wG.heap.size<=x) (some ⟨b2,o2+50,none⟩) 17 (xc-50) [1,0,0,0,0,0,0,0,1,1,0,0,0,0,0,0,0]:=by
   have h8:=W.same hs;have e:((xd.map u8v).drop (50*1)).take ((67-50)*1)=[1,0,0,0,0,0,0,0,1,1,0,0,0,0,0,0,0].map u8v:=by rw [<- List.map_drop,ax];rfl
   rw [e] at h8;exact h8
  exact Zcf M
 have ba:∀ t:World,(convert 39 9 (.slice (some ⟨t.heap.size,0,none⟩) 17 17)).run Tryz.prog (t.alloc (.cells #[.int .u8 1,.int .u8 0,.int .u8 0,.int .u8 0,.int .u8 0,.int .u8 0,.int .u8 0,.int .u8 0,.int .u8 1,.int .u8 1,.int .u8 0,.int .u8 0,.int .u8 0,.int .u8 0,.int .u8 0,.int .u8 0,.int .u8 0] 5))=.ok (.string ⟨#[1,0,0,0,0,0,0,0,1,1,0,0,0,0,0,0,0]⟩) (t.alloc (.cells #[.int .u8 1,.int .u8 0,.int .u8 0,.int .u8 0,.int .u8 0,.int .u8 0,.int .u8 0,.int .u8 0,.int .u8 1,.int .u8 1,.int .u8 0,.int .u8 0,.int .u8 0,.int .u8 0,.int .u8 0,.int .u8 0,.int .u8 0] 5)):=fun t =>
  Zcf (bs:=[1,0,0,0,0,0,0,0,1,1,0,0,0,0,0,0,0]) (Ycb (Yad t _ _) rfl (Yae _) (by unfold maxLen;omega):Row _ _ 1 _ 17 17 _)
 have x0:a.cell? ⟨fb,fo+8,none⟩=some (.string ⟨#[110,111,100,101,115]⟩):=a5 0 _ rfl;have x1:a.cell? ⟨fb,fo+8+1,none⟩=some (.slice (some ⟨b2,o2,none⟩) 67 xc):=a5 1 _ rfl;have ac:67<=xc:=ab;have HF:=qH hF;have bb:=qH s;have ad:=qH aa;have X:=qH au;have Y:=(Yaa (fun _=>False) a).alloc (.cells #[.int .u8 1,.int .u8 0,.int .u8 0,.int .u8 0,.int .u8 0,.int .u8 0,.int .u8 0,.int .u8 0,.int .u8 1,.int .u8 1,.int .u8 0,.int .u8 0,.int .u8 0,.int .u8 0,.int .u8 0,.int .u8 0,.int .u8 0] 5);have bc:=g _ Y;have bd:=g _ Y.drew;have bf:(convert 39 9 (.slice (some ⟨a.heap.size,0,none⟩) 17 17)).run Tryz.prog (a.alloc (.cells #[.int .u8 1,.int .u8 0,.int .u8 0,.int .u8 0,.int .u8 0,.int .u8 0,.int .u8 0,.int .u8 0,.int .u8 1,.int .u8 1,.int .u8 0,.int .u8 0,.int .u8 0,.int .u8 0,.int .u8 0,.int .u8 0,.int .u8 0] 5)).drew=.ok (.string ⟨#[1,0,0,0,0,0,0,0,1,1,0,0,0,0,0,0,0]⟩) (a.alloc (.cells #[.int .u8 1,.int .u8 0,.int .u8 0,.int .u8 0,.int .u8 0,.int .u8 0,.int .u8 0,.int .u8 0,.int .u8 1,.int .u8 1,.int .u8 0,.int .u8 0,.int .u8 0,.int .u8 0,.int .u8 0,.int .u8 0,.int .u8 0] 5)).drew :=
  Zcf (bs:=[1,0,0,0,0,0,0,0,1,1,0,0,0,0,0,0,0]) (Row.drew (Ycb (Yad a _ _) rfl (Yae _) (by unfold maxLen;omega)):Row _ _ 1 _ 17 17 _)
 have ae:¬ xc=50:=qO;have bg:=g a (Yaa _ _);have bh:=g a.drew (Yaa _ a).drew;clear hF s aa au U ay hx a5 b W av aw ax ab a7 g Y;go_upto_region 3 with fail;go_region;have h:Same a (a.alloc (.cells #[.int .u8 1,.int .u8 0,.int .u8 0,.int .u8 0,.int .u8 0,.int .u8 0,.int .u8 0,.int .u8 0,.int .u8 1,.int .u8 1,.int .u8 0,.int .u8 0,.int .u8 0,.int .u8 0,.int .u8 0,.int .u8 0,.int .u8 0] 5)).drew:=((Yaa (fun _=>False) a).alloc _).drew;clear bg bh bc bd bf ba x0 x1 ae ac;generalize (a.alloc (.cells #[.int .u8 1,.int .u8 0,.int .u8 0,.int .u8 0,.int .u8 0,.int .u8 0,.int .u8 0,.int .u8 0,.int .u8 1,.int .u8 1,.int .u8 0,.int .u8 0,.int .u8 0,.int .u8 0,.int .u8 0,.int .u8 0,.int .u8 0] 5)).drew=w2 at *;have k:ZbW (fs.map SF.dat)=.ok Zdt:=by rw [bb.out];exact ZmY Znj ZqC
 have Z:=HF.upd h fun _ _ f=>f;have o:=(b9.trans X fun _ _ f=>f).trans h fun _ _ f=>f;have p:=ZjE w2 Z ad.out (HN.same o);unfold DntR at p;rw [k] at p;simp only at p;have af:=qH p;have ag:=qH k;have bi:=qH Z;have ah:=qH o;have N:=qH ((a9.same X).same h);have O:=qH ((a8.same X).same h);clear h k Z o p q0 q1 a8 a9;go_wp2_with fail;refine af.mono ?_;rintro e w3 ⟨z,rfl,ho,az,u⟩;have ai:=ho.rd;have aj:ZsQ g0.dat z.dat=true:=(Zra _ _).2 (by rw [T.out,az]);obtain ⟨B,b0⟩:∃ x,z.AN=x:=⟨_,rfl⟩
 obtain ⟨C,b1⟩:∃ x,z.nN=x:=⟨_,rfl⟩
 obtain ⟨E,b3⟩:∃ x,z.cN=x:=⟨_,rfl⟩
 obtain ⟨G,b4⟩:∃ x,z.AR=x:=⟨_,rfl⟩
 obtain ⟨H,b5⟩:∃ x,z.nR=x:=⟨_,rfl⟩
 obtain ⟨I,b6⟩:∃ x,z.cR=x:=⟨_,rfl⟩
 have q:z.agg=.agg #[.slice B C E,.slice G H I]:=by unfold GR.agg;rw [b0,b1,b3,b4,b5,b6]
 rw [q];have ak:=qH q;have bj:=qH ai;have bk:=qH aj;have bl:=qH (ah.trans u fun _ _ f=>f);have al:=qH (O.same u);have am:=qH (N.same u);have bm:=qH (bi.upd u fun _ _ f=>f);clear ho az u ai aj b0 b1 b3 b4 b5 b6 q af N O;go_upto_region 6 with fail;have a0:=Yad w3 26 #[.slice B C E,.slice G H I];have d:=(Yaa (fun _=>False) w3).alloc (.cells #[.slice B C E,.slice G H I] 26);generalize w3.alloc (.cells #[.slice B C E,.slice G H I] 26)=w4 at *;generalize w3.heap.size=hB at *;have a1:=ZnP w4 g0 z (al.same d) (bj.same d) bk.out;rw [b8.out,ak.out] at a1;have bn:=qH a1;have a2:=am.same d;have q0:=a2.c0;have q1:=a2.c1;have p0:=a0.c0;have p1:=a0.c1;have bo:=qH (bl.trans d fun _ _ f=>f);have bp:=qH (bm.upd d fun _ _ f=>f);clear a1 a2 a0 d;go_wp2_with fail;refine bn.mono ?_;rintro e w5 ⟨rfl,a6⟩;have an:=qH (bo.trans a6 fun _ _ f=>f);have bq:=qH (bp.upd a6 fun _ _ f=>f);have hV:=ZgU w5 bq.out ad.out (HN.same an);rw [ag.out] at hV;simp only at hV;have HV:=qH hV;clear a6 hV q0 q1 p0 p1;go_wp2_with fail;refine HV.mono ?_;rintro e w6 ⟨rfl,b7⟩;have ao:=qH (an.trans b7 fun _ _ f=>f);have v:=ZgU (F:=fun _=>True) (A:=none) (n:=0) (c:=0) (fs:=[]) w6 ⟨YdY _ _ _,fun x hx=>by cases hx⟩ rfl (HN.same ao);have ap:ZbW (([]:List SF).map SF.dat)=.error 140:=rfl;rw [ap] at v;simp only at v;have br:=qH v;clear b7 v ap;go_wp2_with fail;refine br.mono ?_;rintro e w7 ⟨rfl,bu⟩;go_wp2;go_ret;exact ⟨rfl,ao.trans bu fun _ _ f=>f⟩
end
section
open Go.ChangeShapes Go.WideShapes Go.ChangeAt Go.RowKit
theorem ZgV (w:World) (hN:Nib w):Calls Tryz.prog 3 #[] w fun e w'=>e=.returned (.bool true)/\Same w w':=by have a:=qH (ZtR w hN);clear hN;go_enter Tryz.func3,Tryz.ntmps3;go_wp2_with fail;refine a.mono ?_;rintro e c ⟨rfl,b⟩;go_wp2;go_ret;exact ⟨rfl,b⟩
theorem ZfH (os:Os) (started:os.Started) (H:Type) (enc:TypeId×Value->H) :
 ReturnsInHanded {} Tryz.checked os 3 .any (fun w args=>(Rows.storeoneNamesSpec.pre enc Tryz.prog Tryz.f3 [] false w args/\laidMetH Tryz.prog Zrt w)/\sizedMet enc Tryz.prog Tryz.f3 (OpenSpec.ofChange Rows.storeoneNamesSpec) false w args)
  (Rows.storeoneNamesSpec.post enc Tryz.prog Tryz.f3 false true false false):=by
 refine returnsInHanded_of_change_and (C:=Tryz.checked) (X:=fun w _=>laidMetH Tryz.prog Zrt w) (fun _ _ _ d h=>h.of_heap d) Zvu started (by kernel_rfl) Tryz.func3
  (ChangeSpec.witness_shaped (enc:=enc) (C:=Tryz.checked) (os:=os) (X:=fun w _=>laidMetH Tryz.prog Zrt w) false (World.doorLaid Tryz.prog 400 os) #[] 8 rfl (World.shaped_of_RefB (by kernel_rfl) (by kernel_rfl)) (by kernel_rfl) (by kernel_rfl) (by kernel_rfl) (Ztf os _)) ?_
 intro W b args j k a _ c _ _ f _;obtain ⟨p,g⟩:=ZpP (P:=Tryz.prog) (ts:=[]) (by rw [Tryz.params3]) c;obtain ⟨rfl,rfl,_⟩:=trodAll_none g;refine (ZgV W (ZnC f) ).mono ?_;rintro e l ⟨rfl,i⟩;exact ⟨_,rfl,Zti Zuz (ts:=[]) (by rw [Tryz.params3]) (tb:=4) (by kernel_rfl) Tryz.underlying4 (by kernel_rfl) rfl (by rintro rfl;exact ⟨rfl,rfl,rfl⟩) c i.below⟩
theorem ZgW:Rows.StoreoneNamesSaid :=
 OpenClaim.holds_of_wide 3 Tryz.f3 rfl rfl rfl rfl rfl rfl rfl ⟨rfl,rfl,rfl,rfl,rfl⟩ rfl rfl rfl rfl rfl (by kernel_rfl) Tryz.func3 (by kernel_rfl)
  (YeB (by kernel_rfl)) (by unfold Func.isWrapper;first | (rw [Yac (by decide +kernel)];kernel_rfl) | (rw [Yab (by decide +kernel)];exact ⟨rfl,rfl⟩))
  (fun b a H enc _=>ZfH b a H enc)
theorem storeoneNames_holds:Rows.StoreoneNamesCardSaid :=
 Claim7.holds_tied_plain_at .later [] [.data] true (true, "1cd6a12e3da0823151ec41b30176c8f565628799a78765dfe8e94f2355e42a3f") true
  ZgW (fun _ h=>by cases h) (by kernel_rfl) (fun _ h=>by cases h) storeoneNames_row_tie rfl ⟨rfl,rfl⟩ (by kernel_rfl) rfl
  (fun f c d a=>by
    obtain rfl:f=3:=Yax ((show Tryz.prog.funcNamed "satchel/satchellaw14.StoreoneNames" = some 3 by kernel_rfl).symm.trans d) |>.symm;obtain rfl:c=Tryz.f3:=(Yax (Tryz.func3.symm.trans a)).symm;exact ⟨by kernel_rfl,fun j t b=>by rw [Tryz.params3] at b;simp at b⟩)
  (by kernel_rfl)
end
end Go.Proofs.YtmkjfhnlnhceiaaGreatDoor
