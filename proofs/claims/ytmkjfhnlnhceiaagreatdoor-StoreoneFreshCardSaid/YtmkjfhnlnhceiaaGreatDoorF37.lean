/- Lemmas: walks and plain laws. -/
import Derived.Test.YtmkjfhnlnhceiaaGreatDoorF36
set_option maxRecDepth 100000
set_option maxHeartbeats 16000000
namespace Go.Proofs.YtmkjfhnlnhceiaaGreatDoor
variable {B n c b p c':Nat} {A A':Option Addr} {w w' wx:World} {F F':Nat->Prop} {v v' u:Value} {bs:List UInt8}
section
open Go.RowKit
theorem Zts {tmps:Array Value} {wE:World} {u0 u1:Value} {er:Int} {R:Ending->World->Prop} (h2:tmps.getD 2 undef=.pointer (some ⟨B,0,none⟩)) (h3:tmps.getD 3 undef=.int .i64 er) (hb:Blk wE B 26 #[u0,u1]) (hR:R (.returned (.tuple #[.agg #[u0,u1],.int .i64 er])) wE):
 bodyPost Tryz.prog Tryz.f12 R Exit.ret ⟨tmps,[]⟩ wE:=by
 have a:=hb.c0;have b:=hb.c1;refine LD (v:=.tuple #[.agg #[u0,u1],.int .i64 er]) ?_ rfl hR;simp only [LF] at h2 h3;simp [results,Tryz.results12,go_sem,h2,h3,a,b]
def fV (b2:Nat) (Ok:Option Addr->Nat->Nat->Option Addr->Nat->Nat->World->Prop) (W:World):Prop:=∃ A1 n1 c1 A2 n2 c2,Blk W b2 26 #[.slice A1 n1 c1,.slice A2 n2 c2]/\Ok A1 n1 c1 A2 n2 c2 W
theorem Ztt (w:World) {Ok:Option Addr->Nat->Nat->Option Addr->Nat->Nat->World->Prop} {Bad:Int->World->Prop}
 (L:∀ er W,Bad er W->Blk W (w.heap.size+1) 26 #[.slice none 0 0,.slice none 0 0])
 (H:∀ w2,Same w w2->w2.heap.size=w.heap.size+2->Blk w2 w.heap.size 29 #[.slice A n c]->Blk w2 (w.heap.size+1) 26 #[.slice none 0 0,.slice none 0 0] ->
   Calls Tryz.prog 30 #[.pointer (some ⟨w.heap.size,0,none⟩),.pointer (some ⟨w.heap.size+1,0,none⟩)] (w2.alloc (.cells #[.int .i64 0] 30)) (VK (fV (w.heap.size+1) Ok) Bad w2.heap.size)):
 Calls Tryz.prog 12 #[.slice A n c] w fun e w' =>
  (∃ A1 n1 c1 A2 n2 c2 W,e=.returned (.tuple #[.agg #[.slice A1 n1 c1,.slice A2 n2 c2],.int .i64 0])/\Ok A1 n1 c1 A2 n2 c2 W/\Upd (fun b=>b=w.heap.size+1\/b=w.heap.size+2) W w') \/
  ∃ er W,e=.returned (.tuple #[.agg #[.slice none 0 0,.slice none 0 0],.int .i64 er])/\Bad er W/\Upd (fun b=>b=w.heap.size+1\/b=w.heap.size+2) W w':=by
 have y:=qH H;have o:=qH L;clear H L;have z:∀ (fn:Fn) (first cap:Array Value) (w:World),(Instr.makeFunc fn first cap).run Tryz.prog w=.ok (.func fn first cap) w:=fun _ _ _ _=>rfl;go_enter Tryz.func12,Tryz.ntmps12;go_upto_region 1 with fail;have i:=jA w 29 #[.slice A n c];have q:=(iA w).alloc (.cells #[.slice A n c] 29);have r:(w.alloc (.cells #[.slice A n c] 29)).heap.size=w.heap.size+1:=aB _ _;generalize w.alloc (.cells #[.slice A n c] 29)=t at *;have l:=jA t 26 #[.slice none 0 0,.slice none 0 0];have i:=i.same ((iA t).alloc (.cells #[.slice none 0 0,.slice none 0 0] 26));have s:=q.alloc (.cells #[.slice none 0 0,.slice none 0 0] 26);have j:(t.alloc (.cells #[.slice none 0 0,.slice none 0 0] 26)).heap.size=t.heap.size+1:=aB _ _;generalize t.alloc (.cells #[.slice none 0 0,.slice none 0 0] 26)=w2 at *;rw [r] at l j;have B:=qH (UX (gf:=30) (enters_of Tryz.func30 qK rfl) w2 (y.out w2 s j i l));clear i l q s r y;have k:=qH j;clear j;go_wp2_with fail;refine B.mono ?_;rintro e I ⟨a,u,⟨rfl,⟨A1,n1,c1,A2,n2,c2,g,v⟩,rfl⟩ | ⟨er,rfl,h,rfl⟩⟩
 · have d:w.heap.size+1≠w2.heap.size:=by rw [k.out];omega
   have f:=qH (g.far (p:=⟨w2.heap.size,0,none⟩) (fun e=>d e) (.int .i64 0));have x:Hid (Upd (fun b=>b=w.heap.size+1\/b=w.heap.size+2) a (a.setCell ⟨w2.heap.size,0,none⟩ (.int .i64 0))):=qH ((eA (fun b=>b=w.heap.size+1\/b=w.heap.size+2) a).setCell (p:=⟨w2.heap.size,0,none⟩) (.inl (.inr k)) _);have m:=qH v;clear d v g u;generalize a.setCell ⟨w2.heap.size,0,none⟩ (.int .i64 0)=G at *;have C:=f.c0;have D:=f.c1;have E:=f.frozen 0;have F:=f.frozen 1;go_wp2;refine Zts rfl rfl ((f.put 0 (.slice A1 n1 c1)).put 1 (.slice A2 n2 c2)) ?_;exact .inl ⟨A1,n1,c1,A2,n2,c2,a,rfl,m,(x.setCell (p:=⟨w.heap.size+1,0,none⟩) (.inl (.inl rfl)) _).setCell (p:=⟨w.heap.size+1,1,none⟩) (.inl (.inl rfl)) _⟩
 have g:=(o.out er a h).same ((iA a).alloc (.cells #[.int .i64 er] 99));have d:w.heap.size+1≠w2.heap.size:=by rw [k.out];omega
 have f:=qH (g.far (p:=⟨w2.heap.size,0,none⟩) (fun e=>d e) (.int .i64 er));have x:Hid (Upd (fun b=>b=w.heap.size+1\/b=w.heap.size+2) a ((a.alloc (.cells #[.int .i64 er] 99)).setCell ⟨w2.heap.size,0,none⟩ (.int .i64 er))):=qH (((eA (fun b=>b=w.heap.size+1\/b=w.heap.size+2) a).alloc (.cells #[.int .i64 er] 99)).setCell (p:=⟨w2.heap.size,0,none⟩) (.inl (.inr k)) _);have m:=qH h;clear d h g u;generalize (a.alloc (.cells #[.int .i64 er] 99)).setCell ⟨w2.heap.size,0,none⟩ (.int .i64 er)=G at *;have C:=f.c0;have D:=f.c1;have E:=f.frozen 0;have F:=f.frozen 1;go_wp2;refine Zts rfl rfl ((f.put 0 (.slice none 0 0)).put 1 (.slice none 0 0)) ?_;exact .inr ⟨er,a,rfl,m,(x.setCell (p:=⟨w.heap.size+1,0,none⟩) (.inl (.inl rfl)) _).setCell (p:=⟨w.heap.size+1,1,none⟩) (.inl (.inl rfl)) _⟩
theorem Zpa (w:World) {Q:Int->World->Prop} (H:Calls Tryz.prog 12 #[.slice A n c] w fun e w'=>∃ A1 n1 c1 A2 n2 c2 er,e=.returned (.tuple #[.agg #[.slice A1 n1 c1,.slice A2 n2 c2],.int .i64 er])/\Q er w'):
 Calls Tryz.prog 11 #[.slice A n c] w fun e w'=>∃ er W,e=.returned (.int .i64 er)/\Q er W/\Same W w':=by
 have d:=qH H;clear H;go_enter Tryz.func11,Tryz.ntmps11;go_wp2_with fail;refine d.mono ?_;rintro e a ⟨A1,n1,c1,A2,n2,c2,er,rfl,b⟩;have f:=qH b;clear b;go_wp2;go_ret;exact ⟨er,a,rfl,f,(iA a).alloc _⟩
attribute [local go_sem] oD
theorem Fls.same {fs:List SF} (h:Fls w F A n c fs) (hu:Same w w'):Fls w' F A n c fs:=⟨h.row.same hu,fun x a=>⟨(h.each x a).1.same hu,(h.each x a).2⟩⟩
theorem Zwg (w4 W:World) (p z n1 n2 B0:Nat) (L:n1<=65536) (M:n2<=65536) (hz:w4.heap.size=z) (hW:(((((w4.alloc (.map #[] 0)).alloc (.map #[] 0)).alloc (.map #[] 0)).alloc (.map #[] 0)).alloc (.map #[] 0)).alloc (.cells #[.pointer (some ⟨p,0,none⟩),.map (some z),.map (some (z+1)),.map (some (z+1+1)),.slice none 0 0,.map (some (z+1+1+1)),.map (some (z+1+1+1+1))] 84)=W):
 Same w4 W/\Blk W (z+1+1+1+1+1) 84 #[.pointer (some ⟨p,0,none⟩),.map (some z),.map (some (z+1)),.map (some (z+1+1)),.slice none 0 0,.map (some (z+1+1+1)),.map (some (z+1+1+1+1))]/\RecM W z [] (VN B0)/\RecM W (z+1) [] VR/\RecM W (z+1+1) [] VP/\MsN W (z+1+1+1) [] n1/\MsN W (z+1+1+1+1) [] n2:=by
 have a:∀ (v:World) (o:Obj),Same v (v.alloc o):=fun v o=>(eA _ v).alloc o;have k:=RecM.made (V:=VN B0) w4;have D:=a w4 (.map #[] 0);have l:(w4.alloc (.map #[] 0)).heap.size=z+1:=by rw [aB,hz]
 rw [hz] at k;generalize w4.alloc (.map #[] 0)=c at *;have m:=RecM.made (V:=VR) c;have E:=a c (.map #[] 0);have n:(c.alloc (.map #[] 0)).heap.size=z+1+1:=by rw [aB,l]
 rw [l] at m;generalize c.alloc (.map #[] 0)=d at *;have q:=RecM.made (V:=VP) d;have F:=a d (.map #[] 0);have r:(d.alloc (.map #[] 0)).heap.size=z+1+1+1:=by rw [aB,n]
 rw [n] at q;generalize d.alloc (.map #[] 0)=e at *;have s:=MsN.made e L;have G:=a e (.map #[] 0);have t:(e.alloc (.map #[] 0)).heap.size=z+1+1+1+1:=by rw [aB,r]
 rw [r] at s;generalize e.alloc (.map #[] 0)=g at *;have u:=MsN.made g M;have H:=a g (.map #[] 0);have I:(g.alloc (.map #[] 0)).heap.size=z+1+1+1+1+1:=by rw [aB,t]
 rw [t] at u;generalize g.alloc (.map #[] 0)=C at *;have w:=jA C 84 #[.pointer (some ⟨p,0,none⟩),.map (some z),.map (some (z+1)),.map (some (z+1+1)),.slice none 0 0,.map (some (z+1+1+1)),.map (some (z+1+1+1+1))];have i:=a C (.cells #[.pointer (some ⟨p,0,none⟩),.map (some z),.map (some (z+1)),.map (some (z+1+1)),.slice none 0 0,.map (some (z+1+1+1)),.map (some (z+1+1+1+1))] 84);rw [I,hW] at w;rw [hW] at i;have y:Same g W:=H.trans i qf;have A:Same e W:=G.trans y qf;have B:Same d W:=F.trans A qf;have j:Same c W:=E.trans B qf;exact ⟨D.trans j qf,w,k.upd j id fun x v h=>h.upd j fun b f=>f.elim,m.upd B id fun x v h=>h,q.upd A id fun x v h=>h,s.same y,u.same i⟩
def DnOk (w:World) (fs:List DD) (A1:Option Addr) (n1 c1:Nat) (A2:Option Addr) (n2 c2:Nat) (W:World):Prop :=
 ∃ ns rs,OwnG W (w.heap.size+3) ⟨ns,A1,n1,c1,rs,A2,n2,c2⟩/\eF fs=.ok (GR.dat ⟨ns,A1,n1,c1,rs,A2,n2,c2⟩)/\Same w W
def gV (w:World) (fs:List DD) (er:Int) (W:World):Prop:=Blk W (w.heap.size+1) 26 #[.slice none 0 0,.slice none 0 0]/\eF fs=.error er/\Same w W
theorem Zwi {fs:List SF} (w:World) (hF:Fls w F A n c fs) (hl:fs.length=n) (hN:Nib w)
 (w2:World) (al:Same w w2) (an:w2.heap.size=w.heap.size+2) (ao:Blk w2 w.heap.size 29 #[.slice A n c]) (am:Blk w2 (w.heap.size+1) 26 #[.slice none 0 0,.slice none 0 0]):
 Calls Tryz.prog 30 #[.pointer (some ⟨w.heap.size,0,none⟩),.pointer (some ⟨w.heap.size+1,0,none⟩)] (w2.alloc (.cells #[.int .i64 0] 30)) (VK (fV (w.heap.size+1) (DnOk w (fs.map SF.dat))) (gV w (fs.map SF.dat)) w2.heap.size):=by
 have u:=jA w2 30 #[.int .i64 0];have a:=(iA w2).alloc (.cells #[.int .i64 0] 30);have a6:(w2.alloc (.cells #[.int .i64 0] 30)).heap.size=w2.heap.size+1:=aB _ _;obtain ⟨OR,m⟩:=qx (VK (fV (w.heap.size+1) (DnOk w (fs.map SF.dat))) (gV w (fs.map SF.dat)) w2.heap.size);have v:Hid (∀ r W,eF (fs.map SF.dat)=.error r->Same (w2.alloc (.cells #[.int .i64 0] 30)) W->OR (cF r) W):=qH fun r W h1 H=>by rw [<- m];exact ⟨u.same H,.inr ⟨r,rfl,(am.same a).same H,h1,(al.trans a qf).trans H qf⟩⟩
 have O:Hid (∀ (g:GR) W W',eF (fs.map SF.dat)=.ok g.dat->Same (w2.alloc (.cells #[.int .i64 0] 30)) W->OwnG W (w.heap.size+3) g->Upd (fun b=>b=w.heap.size+1) W W'->Blk W' (w.heap.size+1) 26 #[.slice g.AN g.nN g.cN,.slice g.AR g.nR g.cR]->OR (.returned (.tuple #[])) W'):=qH fun g W W' h1 H h3 h4 h5=>by
  rw [<- m];refine ⟨(u.same H).upd h4 fun e=>qO,.inl ⟨rfl,_,_,_,_,_,_,h5,g.ns,g.rs,?_,h1,?_⟩⟩
  · have hT:∀ b,b<W.heap.size->b=w.heap.size+1->OfT W 26 b:=fun b _ e=>e ▸ ⟨_,(am.same a).same H⟩;exact ⟨h3.nodes.type h4 hT qD qD qD qD,h3.rels.type h4 hT qD qD qD qD⟩
  exact ((al.trans a qf).trans H qf).trans h4 fun b L e=>qO
 rw [m];clear m;have a7:=qH (hF.same (al.trans a qf));have a8:=qH (hN.same (al.trans a qf));have a9:=qH (ao.same a);have aa:=qH (am.same a);have HZ:Hid (w2.heap.size=w.heap.size+2/\(w2.alloc (.cells #[.int .i64 0] 30)).heap.size=w.heap.size+3):=qH ⟨an,qO⟩;clear hF hN al an ao am u a a6;generalize w2.alloc (.cells #[.int .i64 0] 30)=w3 at *;have ab:=@YG Tryz.prog;have q0:=a9.c0;go_enter Tryz.func30,Tryz.ntmps30;go_wp2_with fail;refine (ZsD w3 a7 hl a8).mono ?_;rintro e f Y;unfold OpnR at Y;rcases hop:BF (fs.map SF.dat) with r | s
 · rw [hop] at Y;obtain ⟨rfl,o⟩:=Y;have k:Hid (eF (fs.map SF.dat)=.error r):=qH (by unfold eF;rw [hop]);exact ⟨rfl,v.out r f k.out o⟩
 rw [hop] at Y;obtain ⟨p,q,rfl,Z,o⟩:=Y;have k:Hid (eF (fs.map SF.dat)=if decE s≠0 then .error (decE s) else grP s):=qH (by unfold eF;rw [hop];exact ZvY s);have i:=qH Z;have x:=qH o;clear Z o hop q0;go_upto_region 1 with fail;have P:s.props.recs.length<=65536:=by rw [<- i.ep];simpa [filD] using i.fp.len
 have R:s.blobs.recs.length<=65536:=by rw [<- i.eb];simpa [filD] using i.fb.len
 obtain ⟨W,hW⟩:=qx ((((((f.alloc (.map #[] 0)).alloc (.map #[] 0)).alloc (.map #[] 0)).alloc (.map #[] 0)).alloc (.map #[] 0)).alloc (.cells #[.pointer (some ⟨p,0,none⟩),.map (some f.heap.size),.map (some (f.heap.size+1)),.map (some (f.heap.size+1+1)),.slice none 0 0,.map (some (f.heap.size+1+1+1)),.map (some (f.heap.size+1+1+1+1))] 84));rw [hW];obtain ⟨z,hz⟩:=qx f.heap.size;rw [hz] at hW ⊢;obtain ⟨hs,L,I,a0,a1,a2,a3⟩:=Zwg f W p z s.props.recs.length s.blobs.recs.length f.heap.size P R hz hW;have ac:=I.lt;have S:=qH (ZnG f W i hs qO L I a0 a1 qO);have HS:=qH hs;have ad:=qH a2;have ae:=qH a3;have y:=qH hz;have B:Hid (w3.heap.size<=z):=qH (qt x.size);clear hW hs L I a0 a1 a2 a3 ac ab P R hz;go_wp2_with fail;refine S.mono ?_;rintro e M ⟨l,⟨h0,rfl⟩ | ⟨h0,rfl,A',c',hD⟩⟩
 · have k:=qH (k.trans (gA h0));exact ⟨rfl,v.out _ M k ((x.trans HS qf).trans l fun b L e=>by have:=B.out;rcases e with e | e | e | e <;> omega)⟩
 have k:=qH (k.trans (aA (fun h=>h h0)));have d:Same f M:=HS.trans l fun b L e=>by have:=y.out;rcases e with e | e | e | e <;> omega
 have T:=d.size;have U:GrS f M w3.heap.size p (z+1+1+1+1+1) z (z+1) (z+1+1) (z+1+1+1) (z+1+1+1+1) q s A' c' [] [] :=
  ⟨i,d,qh y,hD,ad.upd l (by rintro (e | e | e | e) <;> omega),ae.upd l (by rintro (e | e | e | e) <;> omega),qO,ZvZ h0⟩
 have C:=qH (ZoZ f M U);unfold GrR at C;have af:=qH (x.trans d qf);have ag:Hid (z<=M.heap.size):=qH (qh y);clear U d hD l S h0 T;go_wp2_with fail;refine C.mono ?_;rintro e N ⟨a4,hX⟩;have D:Same w3 N:=af.trans a4 fun b L e=>by have:=B.out;rcases e with e | e <;> omega
 have V:=qH D;rcases hgr:grP s with r | G
 · rw [hgr] at hX k;simp only at hX;subst hX;exact ⟨rfl,v.out _ N k.out V.out⟩
 rw [hgr] at hX k;obtain ⟨⟨ns,AN,nN,cN,rs,AR,nR,cR⟩,rfl,a5,t⟩:=hX;unfold GR.agg;simp only;have j:=aa.same D;have r0:=j.c0;have r1:=j.c1;have z0:=j.frozen 0;have z1:=j.frozen 1;have ah:=qH j;have ai:=qH a5;have aj:=qH t;clear a4 D hgr a5 t j C;go_wp2_with fail;have X:Upd (fun b=>b=w.heap.size+1) N ((N.setCell ⟨w.heap.size+1,0,none⟩ (.slice AN nN cN)).setCell ⟨w.heap.size+1,1,none⟩ (.slice AR nR cR)):=((eA (fun b=>b=w.heap.size+1) N).put1 _).put1 _;have ak:=(ah.put 0 (.slice AN nN cN)).put 1 (.slice AR nR cR);have E:w.heap.size+3<=M.heap.size:=by have:=HZ.out;have:=B.out;have:=ag.out;omega
 have hr:=O.out ⟨ns,AN,nN,cN,rs,AR,nR,cR⟩ N _ (k.trans (by rw [aj.out])) V.out (ai.base E) X ak;refine LD (DG rfl _ _ _) rfl ?_;exact hr
def DntR (fs:List DD) (w:World) (e:Ending) (w':World):Prop:=match eF fs with
 | .error er=>e=.returned (.tuple #[.agg #[.slice none 0 0,.slice none 0 0],.int .i64 er])/\Same w w'
 | .ok G=>∃ g:GR,e=.returned (.tuple #[g.agg,.int .i64 0])/\OwnG w' w.heap.size g/\g.dat=G/\Same w w'
theorem dR {fs:List SF} (w:World) (hF:Fls w F A n c fs) (hl:fs.length=n) (hN:Nib w):
 Calls Tryz.prog 12 #[.slice A n c] w (DntR (fs.map SF.dat) w):=by
 refine (Ztt (Ok:=DnOk w (fs.map SF.dat)) (Bad:=gV w (fs.map SF.dat)) w (fun q W h=>h.1) fun r s t u y=>Zwi w hF hl hN r s t u y).mono ?_;rintro e o (⟨z,B,C,D,E,G,W,rfl,⟨H,I,d,l,i⟩,j⟩ | ⟨q,W,rfl,⟨_,l,i⟩,j⟩)
 · unfold DntR;rw [l];have p:∀ g,(g=w.heap.size+1\/g=w.heap.size+2)->¬ w.heap.size+3<=g:=fun g h=>qO;have f:∀ {e:TypeId} {k n:Nat} {v:Value} {xs:List Value},W.ownsRow (w.heap.size+3) e k v n xs->o.ownsRow (w.heap.size+3) e k v n xs:=fun h=>GA h j fun g L i=>p g i (h.lt g L).1;have m:∀ {v:Value} {ps:List PR},xC W (w.heap.size+3) v ps->xC o (w.heap.size+3) v ps:=fun h=>⟨f h.row,fun x a=>⟨f (h.each x a).nums,f (h.each x a).texts,(h.each x a).fits⟩⟩
   refine ⟨⟨H,z,B,C,I,D,E,G⟩,rfl,?_,rfl,i.trans j fun b M h=>qO⟩;exact OwnG.base ⟨⟨f d.nodes.row,fun x a=>⟨f (d.nodes.each x a).lab,m (d.nodes.each x a).pro,(d.nodes.each x a).id⟩⟩,⟨f d.rels.row,fun x a=>⟨m (d.rels.each x a).pro,(d.rels.each x a).id⟩⟩⟩ qO
 unfold DntR;rw [l];exact ⟨rfl,i.trans j fun b M h=>qO⟩
theorem Zhd {fs:List SF} (w:World) (hF:Fls w F A n c fs) (hl:fs.length=n) (hN:Nib w):
 Calls Tryz.prog 11 #[.slice A n c] w fun e w'=>e=.returned (.int .i64 (match eF (fs.map SF.dat) with | .error er=>er | .ok _=>0))/\Same w w':=by
 refine (Zpa (Q:=fun er W=>er=(match eF (fs.map SF.dat) with | .error er=>er | .ok _=>0)/\Same w W) w ((dR w hF hl hN).mono ?_)).mono ?_
 · rintro e w' h;unfold DntR at h;cases hd:eF (fs.map SF.dat) with
   | error er =>
     rw [hd] at h;obtain ⟨rfl,a⟩:=h;exact ⟨_,_,_,_,_,_,er,rfl,rfl,a⟩
   | ok G =>
     rw [hd] at h;obtain ⟨g,rfl,_,_,a⟩:=h;exact ⟨_,_,_,_,_,_,0,rfl,rfl,a⟩
 rintro e w' ⟨er,W,rfl,⟨rfl,a⟩,b⟩;exact ⟨rfl,a.trans b qf⟩
end
section
open Go.RowKit
attribute [local go_sem] oD
def WD:WB:=⟨[⟨2,[⟨#[65]⟩],[⟨⟨#[107]⟩,⟨4,0,⟨#[104,105]⟩,[],[]⟩⟩]⟩],[]⟩
theorem eR {s m m':List ByteArray} (h:Srt s m) (h':Srt s m'):m=m':=by have b:=(QT h).unique (QT h');have a:=tB (List.map fun l:List UInt8=>(⟨l.toArray⟩:ByteArray)) b;rw [MC,MC] at a;have e:∀ l:List ByteArray,l.map ((fun l:List UInt8=>(⟨l.toArray⟩:ByteArray)) ∘ fun x=>x.data.toList)=l:=fun l=>(kG fun x _=>qS).trans (FL l);rw [e,e] at a;exact a
theorem DM:AB WD 1=[⟨#[65]⟩]/\AB WD 2=[]/\AB WD 3=[⟨#[107]⟩] :=
 ⟨eR (NE WD 1) ⟨qS,fun x=>by simp [SC,WD]⟩,eR (NE WD 2) ⟨qS,fun x=>by simp [SC,WD]⟩,eR (NE WD 3) ⟨qS,fun x=>by simp [SC,WD]⟩⟩
theorem ZnK:(chkP WD).1=0:=by unfold chkP;rw [DM.1,DM.2.1,DM.2.2];decide +kernel
theorem Zrn:mO WD:=by refine ⟨fun x a p b=>?_,fun x a=>by cases a⟩;simp only [WD,QB] at a;subst a;simp only [QB] at b;subst b;exact ⟨qD,qD,qS⟩
theorem ZkR:(wH WD).nodes=⟨4,1,17,[none,none,some [0,0,0,0,0,0,0,1,1,0,0,0,0,0,0,0]]⟩:=by
 have h:(zG [] [⟨#[107]⟩] (tD WD.nodes (yE WD.rels [])).1 WD.rels (yG [⟨#[65]⟩] [⟨#[107]⟩] (WD.nodes.zip (tD WD.nodes (yE WD.rels [])).2) ⟨[],[],[],[]⟩)).nodes=[none,none,some [0,0,0,0,0,0,0,1,1,0,0,0,0,0,0,0]]:=by decide +kernel
 unfold wH;rw [DM.1,DM.2.1,DM.2.2];exact tB (fun r=>(⟨4,1,17,r⟩:YA)) h
theorem Zro:∃ D,(EF (wH WD))[4]?=some ⟨⟨#[110,111,100,101,115]⟩,D⟩/\D.length=67/\D.drop 50=[1,0,0,0,0,0,0,0,1,1,0,0,0,0,0,0,0]:=by
 refine ⟨BB (wH WD).nodes,rfl,?_,?_⟩
 · rw [ZkR,hZ qD (by intro d a;simp only [TA,XG,WF,reduceCtorEq,false_or,SE] at a;rw [a];rfl)];rfl
 rw [ZkR];unfold BB;rw [gP,gP,YP,rA,BC (by rw [YP];decide),BC (by rw [rA];decide)];rfl
theorem Zrp (w:World):let g0:GR:=⟨[⟨2,[⟨#[65]⟩],some ⟨w.heap.size,0,none⟩,1,1,[⟨⟨#[107]⟩,⟨4,0,⟨#[104,105]⟩,[],[]⟩,none,0,0,none,0,0⟩],some ⟨w.heap.size+1,0,none⟩,1,1⟩],some ⟨w.heap.size+1+1,0,none⟩,1,1,[],none,0,0⟩
 let b:=((((w.alloc (.cells #[.string ⟨#[65]⟩] 9)).alloc (.cells #[.string ⟨#[107]⟩,.int .i64 4,.int .i64 0,.string ⟨#[104,105]⟩,.slice none 0 0,.slice none 0 0] 53)).alloc (.cells #[.int .i64 2,.slice (some ⟨w.heap.size,0,none⟩) 1 1,.slice (some ⟨w.heap.size+1,0,none⟩) 1 1] 56)).alloc (.cells #[.slice (some ⟨w.heap.size+1+1,0,none⟩) 1 1,.slice none 0 0] 26))
 Same w b/\Blk b (w.heap.size+1+1+1) 26 #[.slice (some ⟨w.heap.size+1+1,0,none⟩) 1 1,.slice none 0 0]/\RdG b (fun _=>True) g0/\RG g0:=by
 intro g0 b;have r:=(iA w).alloc (.cells #[.string ⟨#[65]⟩] 9);have u:=jA w 9 #[.string ⟨#[65]⟩];have h:(w.alloc (.cells #[.string ⟨#[65]⟩] 9)).heap.size=w.heap.size+1:=aB _ _;have v:b=((((w.alloc (.cells #[.string ⟨#[65]⟩] 9)).alloc (.cells #[.string ⟨#[107]⟩,.int .i64 4,.int .i64 0,.string ⟨#[104,105]⟩,.slice none 0 0,.slice none 0 0] 53)).alloc (.cells #[.int .i64 2,.slice (some ⟨w.heap.size,0,none⟩) 1 1,.slice (some ⟨w.heap.size+1,0,none⟩) 1 1] 56)).alloc (.cells #[.slice (some ⟨w.heap.size+1+1,0,none⟩) 1 1,.slice none 0 0] 26)):=rfl;generalize b=b at *;generalize w.alloc (.cells #[.string ⟨#[65]⟩] 9)=d at *;have m:=(iA d).alloc (.cells #[.string ⟨#[107]⟩,.int .i64 4,.int .i64 0,.string ⟨#[104,105]⟩,.slice none 0 0,.slice none 0 0] 53);have n:=jA d 53 #[.string ⟨#[107]⟩,.int .i64 4,.int .i64 0,.string ⟨#[104,105]⟩,.slice none 0 0,.slice none 0 0];have o:(d.alloc (.cells #[.string ⟨#[107]⟩,.int .i64 4,.int .i64 0,.string ⟨#[104,105]⟩,.slice none 0 0,.slice none 0 0] 53)).heap.size=d.heap.size+1:=aB _ _;generalize d.alloc (.cells #[.string ⟨#[107]⟩,.int .i64 4,.int .i64 0,.string ⟨#[104,105]⟩,.slice none 0 0,.slice none 0 0] 53)=e at *;have i:=(iA e).alloc (.cells #[.int .i64 2,.slice (some ⟨w.heap.size,0,none⟩) 1 1,.slice (some ⟨w.heap.size+1,0,none⟩) 1 1] 56);have p:=jA e 56 #[.int .i64 2,.slice (some ⟨w.heap.size,0,none⟩) 1 1,.slice (some ⟨w.heap.size+1,0,none⟩) 1 1];have y:(e.alloc (.cells #[.int .i64 2,.slice (some ⟨w.heap.size,0,none⟩) 1 1,.slice (some ⟨w.heap.size+1,0,none⟩) 1 1] 56)).heap.size=e.heap.size+1:=aB _ _;generalize e.alloc (.cells #[.int .i64 2,.slice (some ⟨w.heap.size,0,none⟩) 1 1,.slice (some ⟨w.heap.size+1,0,none⟩) 1 1] 56)=q at *;have c:=(iA q).alloc (.cells #[.slice (some ⟨w.heap.size+1+1,0,none⟩) 1 1,.slice none 0 0] 26);have j:=jA q 26 #[.slice (some ⟨w.heap.size+1+1,0,none⟩) 1 1,.slice none 0 0];rw [<- v] at c j;rw [y,o,h] at j;rw [o,h] at p;rw [h] at n;have z:=((u.same m).same i).same c;have A:=(n.same i).same c;have B:=p.same c;have C:(1:Nat)<=maxLen:=by simp [maxLen]
 have l:∀ {g:Nat} {t:TypeId} {cs:Array Value} {k:Nat},Blk b g t cs->cs.size=1*k->WRow b (fun _=>True) k (some ⟨g,0,none⟩) 1 1 cs.toList:=fun D f=>((XF D f (lA _) C).mono fun _ _ _=>trivial).weak;refine ⟨((r.trans m qf).trans i qf).trans c qf,j,⟨⟨l B rfl,fun x a=>?_,fun x a=>?_,fun x a=>?_⟩,⟨(PJ _ _ _).weak,(fun x a=>absurd a XG),(fun x a=>absurd a XG)⟩⟩,⟨(show (1:Nat)*56<=140737488351232 by decide),(show (0:Nat)*64<=140737488351232 by decide),fun x a=>?_,(fun x a=>absurd a XG)⟩⟩
 · rw [QB] at a;subst a;exact l z rfl
 · rw [QB] at a;subst a;refine ⟨l A rfl,fun x a=>?_⟩;rw [QB] at a;subst a;exact ⟨(PJ _ _ _).weak,(PJ _ _ _).weak,qS,qS,qS⟩
 · rw [QB] at a;subst a;simp [gJ]
 rw [QB] at a;subst a;refine ⟨qS,fun s f=>?_,⟨qS,fun x a=>?_⟩⟩
 · rw [QB] at f;subst f;decide
 rw [QB] at a;subst a;exact ⟨qS,qS,(show 2<=140737488351232 by decide),qS,(show 1<=140737488351232 by decide)⟩
theorem ZuM (w:World) (hN:Nib w):Calls Tryz.prog 7 #[] w fun e w'=>e=.returned (.bool true)/\Same w w':=by
 have HN:=qH hN;clear hN;go_enter Tryz.func7,Tryz.ntmps7;go_upto_region 2 with fail;obtain ⟨gB,ap⟩:=qx (w.heap.size+1+1+1);obtain ⟨g0,v⟩:∃ g0:GR,g0=⟨[⟨2,[⟨#[65]⟩],some ⟨w.heap.size,0,none⟩,1,1,[⟨⟨#[107]⟩,⟨4,0,⟨#[104,105]⟩,[],[]⟩,none,0,0,none,0,0⟩],some ⟨w.heap.size+1,0,none⟩,1,1⟩],some ⟨w.heap.size+1+1,0,none⟩,1,1,[],none,0,0⟩:=⟨_,rfl⟩
 have O:=Zrp w;rw [<- v] at O;obtain ⟨wG,aq⟩:=qx (((((w.alloc (.cells #[.string ⟨#[65]⟩] 9)).alloc (.cells #[.string ⟨#[107]⟩,.int .i64 4,.int .i64 0,.string ⟨#[104,105]⟩,.slice none 0 0,.slice none 0 0] 53)).alloc (.cells #[.int .i64 2,.slice (some ⟨w.heap.size,0,none⟩) 1 1,.slice (some ⟨w.heap.size+1,0,none⟩) 1 1] 56)).alloc (.cells #[.slice (some ⟨w.heap.size+1+1,0,none⟩) 1 1,.slice none 0 0] 26)));rw [aq] at O ⊢;obtain ⟨a2,q,a3,hz⟩:=O;have I:g0.dat=WD:=by rw [v] <;> rfl
 have P:g0.agg=.agg #[.slice (some ⟨w.heap.size+1+1,0,none⟩) 1 1,.slice none 0 0]:=by rw [v] <;> rfl
 rw [ap] at q ⊢;have R:=FU wG a3 hz (HN.same a2);rw [P] at R;have a6:=qH R;have b7:=qH P;have S:=qH I;have a7:=qH a3;have b8:=qH a2;have a8:=qH q;have q0:=q.c0;have q1:=q.c1;generalize w.heap.size+1+1=nB at *;clear R P I a3 hz a2 q aq v ap;go_wp2_with fail;refine a6.mono ?_;rintro e a (⟨h0,_⟩ | ⟨_,A,c,fs,rfl,hF,r,ar⟩)
 · exact absurd (S.out ▸ ZnK) h0
 rw [S.out] at r;have a9:fs.length=8:=by have L:=tB List.length r;rw [nA] at L;exact L
 obtain ⟨D,au,av,aw⟩:=Zro;obtain ⟨fb,fo,x,hA,_,_,hx,ax,a4⟩:=hF.row.weak.atF (i:=4) SF.two qD qD;have T:x.dat=⟨⟨#[110,111,100,101,115]⟩,D⟩:=by have L:=tB (fun l:List DD=>l[4]?) r;simp only [MA,hx,VC] at L;rw [au] at L;exact eB L
 obtain ⟨xn,xd,xA,xk,xc⟩:=x;obtain ⟨rfl,rfl⟩:xn=⟨#[110,111,100,101,115]⟩/\xd=D:=⟨tB DD.name T,tB DD.data T⟩
 have b:=(hF.each _ ax).1;have U:=ZG b;simp only at b U;rw [av] at U;subst U;subst hA;obtain ⟨b2,o2,_,br,_⟩:=Row.at_ (i:=0) b qD;subst br;have V:=Row.cut (j:=50) (m:=67) b qD (lA _);have aa:=Row.le b;rw [aA qO] at V;have f:∀ s,Same a s->(convert 39 9 (.slice (some ⟨b2,o2+50,none⟩) 17 (xc-50))).run Tryz.prog s=.ok (.string ⟨#[1,0,0,0,0,0,0,0,1,1,0,0,0,0,0,0,0]⟩) s:=fun s hs=>by
  have L:pA s (fun x=>wG.heap.size<=x) (some ⟨b2,o2+50,none⟩) 17 (xc-50) [1,0,0,0,0,0,0,0,1,1,0,0,0,0,0,0,0]:=by
   have h8:=V.same hs;have e:((xd.map u8v).drop (50*1)).take ((67-50)*1)=[1,0,0,0,0,0,0,0,1,1,0,0,0,0,0,0,0].map u8v:=by rw [<- List.map_drop,aw];rfl
   rw [e] at h8;exact h8
  exact zI L
 have b9:∀ s:World,(convert 39 9 (.slice (some ⟨s.heap.size,0,none⟩) 17 17)).run Tryz.prog (s.alloc (.cells #[.int .u8 1,.int .u8 0,.int .u8 0,.int .u8 0,.int .u8 0,.int .u8 0,.int .u8 0,.int .u8 0,.int .u8 1,.int .u8 1,.int .u8 0,.int .u8 0,.int .u8 0,.int .u8 0,.int .u8 0,.int .u8 0,.int .u8 0] 5))=.ok (.string ⟨#[1,0,0,0,0,0,0,0,1,1,0,0,0,0,0,0,0]⟩) (s.alloc (.cells #[.int .u8 1,.int .u8 0,.int .u8 0,.int .u8 0,.int .u8 0,.int .u8 0,.int .u8 0,.int .u8 0,.int .u8 1,.int .u8 1,.int .u8 0,.int .u8 0,.int .u8 0,.int .u8 0,.int .u8 0,.int .u8 0,.int .u8 0] 5)):=fun s =>
  zI (bs:=[1,0,0,0,0,0,0,0,1,1,0,0,0,0,0,0,0]) (XF (jA s _ _) rfl (lA _) (qM):Row _ _ 1 _ 17 17 _)
 have x0:a.cell? ⟨fb,fo+8,none⟩=some (.string ⟨#[110,111,100,101,115]⟩):=a4 0 _ rfl;have x1:a.cell? ⟨fb,fo+8+1,none⟩=some (.slice (some ⟨b2,o2,none⟩) 67 xc):=a4 1 _ rfl;have ab:67<=xc:=aa;have HF:=qH hF;have ba:=qH r;have ac:=qH a9;have W:=qH ar;have X:=(iA a).alloc (.cells #[.int .u8 1,.int .u8 0,.int .u8 0,.int .u8 0,.int .u8 0,.int .u8 0,.int .u8 0,.int .u8 0,.int .u8 1,.int .u8 1,.int .u8 0,.int .u8 0,.int .u8 0,.int .u8 0,.int .u8 0,.int .u8 0,.int .u8 0] 5);have bb:=f _ X;have bc:=f _ X.drew;have bd:(convert 39 9 (.slice (some ⟨a.heap.size,0,none⟩) 17 17)).run Tryz.prog (a.alloc (.cells #[.int .u8 1,.int .u8 0,.int .u8 0,.int .u8 0,.int .u8 0,.int .u8 0,.int .u8 0,.int .u8 0,.int .u8 1,.int .u8 1,.int .u8 0,.int .u8 0,.int .u8 0,.int .u8 0,.int .u8 0,.int .u8 0,.int .u8 0] 5)).drew=.ok (.string ⟨#[1,0,0,0,0,0,0,0,1,1,0,0,0,0,0,0,0]⟩) (a.alloc (.cells #[.int .u8 1,.int .u8 0,.int .u8 0,.int .u8 0,.int .u8 0,.int .u8 0,.int .u8 0,.int .u8 0,.int .u8 1,.int .u8 1,.int .u8 0,.int .u8 0,.int .u8 0,.int .u8 0,.int .u8 0,.int .u8 0,.int .u8 0] 5)).drew :=
  zI (bs:=[1,0,0,0,0,0,0,0,1,1,0,0,0,0,0,0,0]) (Row.drew (XF (jA a _ _) rfl (lA _) qM):Row _ _ 1 _ 17 17 _)
 have ad:¬ xc=50:=qO;have bf:=f a (eA _ _);have bg:=f a.drew (eA _ a).drew;clear hF r a9 ar T ax hx a4 b V au av aw aa a6 f X;go_upto_region 3 with fail;go_region;have g:Same a (a.alloc (.cells #[.int .u8 1,.int .u8 0,.int .u8 0,.int .u8 0,.int .u8 0,.int .u8 0,.int .u8 0,.int .u8 0,.int .u8 1,.int .u8 1,.int .u8 0,.int .u8 0,.int .u8 0,.int .u8 0,.int .u8 0,.int .u8 0,.int .u8 0] 5)).drew:=((iA a).alloc _).drew;clear bf bg bb bc bd b9 x0 x1 ad ab;generalize (a.alloc (.cells #[.int .u8 1,.int .u8 0,.int .u8 0,.int .u8 0,.int .u8 0,.int .u8 0,.int .u8 0,.int .u8 0,.int .u8 1,.int .u8 1,.int .u8 0,.int .u8 0,.int .u8 0,.int .u8 0,.int .u8 0,.int .u8 0,.int .u8 0] 5)).drew=w2 at *;have h:eF (fs.map SF.dat)=.ok WD:=by rw [ba.out];exact SZ ZnK Zrn
 have Y:=HF.upd g qf;have k:=(b8.trans W qf).trans g qf;have o:=dR w2 Y ac.out (HN.same k);unfold DntR at o;rw [h] at o;simp only at o;have ae:=qH o;have af:=qH h;have bh:=qH Y;have ag:=qH k;have M:=qH ((a8.same W).same g);have N:=qH ((a7.same W).same g);clear g h Y k o q0 q1 a7 a8;go_wp2_with fail;refine ae.mono ?_;rintro e w3 ⟨y,rfl,ho,ay,t⟩;have ah:=ho.rd;have ai:QN g0.dat y.dat=true:=(nW _ _).2 (by rw [S.out,ay]);obtain ⟨z,az⟩:∃ x,y.AN=x:=⟨_,rfl⟩
 obtain ⟨B,b0⟩:∃ x,y.nN=x:=⟨_,rfl⟩
 obtain ⟨C,b1⟩:∃ x,y.cN=x:=⟨_,rfl⟩
 obtain ⟨E,b3⟩:∃ x,y.AR=x:=⟨_,rfl⟩
 obtain ⟨G,b4⟩:∃ x,y.nR=x:=⟨_,rfl⟩
 obtain ⟨H,b5⟩:∃ x,y.cR=x:=⟨_,rfl⟩
 have p:y.agg=.agg #[.slice z B C,.slice E G H]:=by unfold GR.agg;rw [az,b0,b1,b3,b4,b5]
 rw [p];have aj:=qH p;have bi:=qH ah;have bj:=qH ai;have bk:=qH (ag.trans t qf);have ak:=qH (N.same t);have al:=qH (M.same t);have bl:=qH (bh.upd t qf);clear ho ay t ah ai az b0 b1 b3 b4 b5 p ae M N;go_upto_region 6 with fail;have Z:=jA w3 26 #[.slice z B C,.slice E G H];have d:=(iA w3).alloc (.cells #[.slice z B C,.slice E G H] 26);generalize w3.alloc (.cells #[.slice z B C,.slice E G H] 26)=w4 at *;generalize w3.heap.size=hB at *;have a0:=Zow w4 g0 y (ak.same d) (bi.same d) bj.out;rw [b7.out,aj.out] at a0;have bm:=qH a0;have a1:=al.same d;have q0:=a1.c0;have q1:=a1.c1;have p0:=Z.c0;have p1:=Z.c1;have bn:=qH (bk.trans d qf);have bo:=qH (bl.upd d qf);clear a0 a1 Z d;go_wp2_with fail;refine bm.mono ?_;rintro e w5 ⟨rfl,a5⟩;have am:=qH (bn.trans a5 qf);have bp:=qH (bo.upd a5 qf);have hV:=Zhd w5 bp.out ac.out (HN.same am);rw [af.out] at hV;simp only at hV;have HV:=qH hV;clear a5 hV q0 q1 p0 p1;go_wp2_with fail;refine HV.mono ?_;rintro e w6 ⟨rfl,b6⟩;have an:=qH (am.trans b6 qf);have u:=Zhd (F:=fun _=>True) (A:=none) (n:=0) (c:=0) (fs:=[]) w6 ⟨PJ _ _ _,fun x hx=>by cases hx⟩ rfl (HN.same an);have ao:eF (([]:List SF).map SF.dat)=.error 140:=rfl;rw [ao] at u;simp only at u;have bq:=qH u;clear b6 u ao;go_wp2_with fail;refine bq.mono ?_;rintro e w7 ⟨rfl,bt⟩;go_wp2;go_ret;exact ⟨rfl,an.trans bt qf⟩
end
section
open Go.RowKit
theorem ZjR {g:GR} (h:OwnG w B g) (hc:(chkP g.dat).1=0):RG g:=by
 have a:=(ZqK hc (xY h.rd)).1;have c:g.ns.length<=1024:=by have:=a.nN;simpa [GR.dat] using this
 have d:g.rs.length<=2048:=by have:=a.nR;simpa [GR.dat] using this
 exact Zti h ⟨fun x b=>(a.nodes x b).1,fun x b=>(a.rels x b).1⟩ qO qO
structure FlsW (w:World) (F:Nat->Prop) (A:Option Addr) (n c:Nat) (fs:List SF):Prop where
 row:WRow w F 2 A n c (fs.flatMap SF.cells)
 each:∀ x∈fs,WRow w F 1 x.A x.n x.c (x.data.map u8v)/\x.n<=140737488355328
theorem FlsW.same {fs:List SF} (h:FlsW w F A n c fs) (hs:Same w w'):FlsW w' F A n c fs:=⟨h.row.same hs,fun x a=>⟨(h.each x a).1.same hs,(h.each x a).2⟩⟩
structure MI (w:World) (B:Nat) (v:Value) (fs:List SF):Prop where
 row:w.ownsRow B 41 2 v fs.length (fs.flatMap SF.cells)
 each:∀ x∈fs,w.ownsRow B 5 1 (.slice x.A x.n x.c) x.n (x.data.map u8v)/\x.n<=140737488355328
theorem MI.same {fs:List SF} (h:MI w B v fs) (hs:Same w w'):MI w' B v fs:=⟨mA h.row hs,fun x a=>⟨mA (h.each x a).1 hs,(h.each x a).2⟩⟩
theorem MI.fls {fs:List SF} (h:MI w B (.slice A n c) fs):Fls w (fun b=>B<=b) A n c fs:=by
 have a:=h.row;obtain ⟨f,g,e⟩:=WA a;injection e with e1 e2 e3
 subst e1 e3;rw [<- e2] at a;exact ⟨(xF a).mono fun _ _ h=>h.2,fun x d=>⟨(xF (h.each x d).1).mono fun _ _ h=>h.2,(h.each x d).2⟩⟩
theorem MI.snoc {fs:List SF} {x:SF} (h:MI w B v fs) (hg:Grew w B 41 2 v (fs.length+1) (fs.flatMap SF.cells++x.cells) v' w') (hx:w.ownsRow B 5 1 (.slice x.A x.n x.c) x.n (x.data.map u8v)/\x.n<=140737488355328):MI w' B v' (fs++[x]):=by
 have b:∀ g,g<w.heap.size->v.ownBlock=some g->OfT w 41 g:=fun g _ hg=>LA h.row hg;refine ⟨?_,fun y a=>?_⟩
 · rw [kA,jF];simpa using hg.own
 rcases YB.1 a with a | a
 · exact ⟨ZE (h.each y a).1 hg.upd b qD,(h.each y a).2⟩
 obtain rfl:y=x:=by simpa using a
 exact ⟨ZE hx.1 hg.upd b qD,hx.2⟩
theorem Zpb (w:World) (h:WRow w F 1 A n c (bs.map u8v)) (hn:n<=140737488355328):
 Calls Tryz.prog 36 #[.slice A n c] w fun e w'=>∃ A' c',e=.returned (.slice A' n c')/\Hid (w'.ownsRow w.heap.size 5 1 (.slice A' n c') n (bs.map u8v))/\Same w w':=by
 have s:=qH (show bs.length=n from by have:=h.len;simpa using this);have v:=qH h;clear h;go_enter Tryz.func36,Tryz.ntmps36;go_wp2_with fail;go_loopg [3,4] n (fun g r i wr=>∃ (k:Nat) (l:Option Addr) (m:Nat),k<=n/\g=n-k/\i=.int .i64 k/\r=.slice l k m/\Hid (wr.ownsRow w.heap.size 5 1 (.slice l k m) k ((bs.take k).map u8v))/\Hid (Same w wr))
 case atStart=>exact ⟨0,_,_,oA _,rfl,rfl,rfl,qH (NI w #[] 0 (lA _) (oA _) rfl),qH ((eA _ _).alloc _)⟩
 obtain ⟨k,l,m,G,rfl,rfl,rfl,p,q⟩:=hrel;by_cases d:k<n
 · obtain ⟨b,o,u,rfl,z,_,t,B⟩:=(v.same q).at_ d;have f:k<bs.length:=by rw [s.out];exact d
   simp only [MA,FA f,VC,SE] at t;subst t;have y:=qH (show (bs.take (k+1)).map u8v=(bs.take k).map u8v++[u8v bs[k]] from by rw [AJ f,DB];rfl)
   generalize bs[k]=x at *;unfold u8v at B;go_wp2_with (at_builtin;go_must (refine XD rfl (.tmp 12) (.tmp 17) _ _ rfl w.heap.size 5 1 1 _ yD uI rfl (.slice l k m) k _ rfl (p.alloc _) rfl (GD yD (tI _ _ _) (by simp [Value.oneCell'])) qM qO (by have:=q.size;simp;omega) ?_);intro H I a;obtain ⟨C,D,rfl⟩:=WA a.own;have j:=qH a;clear a);go_roundg (n-(k+1))
   case measure=>omega
   exact ⟨k+1,C,D,qO,rfl,qN,rfl,qH (by rw [y.out];exact j.own),qH ((q.same ((iA wr).alloc _)).trans j.upd fun b z E=>by have:=(p.lt b E).1;omega)⟩
 obtain rfl:k=n:=qO;rw [cB (by rw [s.out];exact lA _)] at p;go_wp2;go_ret;exact ⟨_,_,rfl,p,q⟩
theorem EM (h:Hid (w.cell? ⟨b,p,none⟩=some u/\w.cell? ⟨b,p+1,none⟩=some v)) (hb:b<w.heap.size) (hs:Same w wx):wx.cell? ⟨b,p,none⟩=some u/\wx.cell? ⟨b,p+1,none⟩=some v :=
 ⟨(hs.cell (p:=⟨b,p,none⟩) hb fun f=>f).trans h.1,(hs.cell (p:=⟨b,p+1,none⟩) hb fun f=>f).trans h.2⟩
theorem ZuN {S:Nat->Prop} (h:w.cell? ⟨b,p,none⟩=some u/\w.cell? ⟨b,p+1,none⟩=some v) (hb:b<w.heap.size) (hs:Upd S w wx) (hS:¬ S b):wx.cell? ⟨b,p,none⟩=some u/\wx.cell? ⟨b,p+1,none⟩=some v :=
 ⟨(hs.cell (p:=⟨b,p,none⟩) hb hS).trans h.1,(hs.cell (p:=⟨b,p+1,none⟩) hb hS).trans h.2⟩
theorem ZuO {b' p':Nat} {u':Value} (h:Hid (w.cell? ⟨b,p,none⟩=some u/\w.cell? ⟨b,p+1,none⟩=some v)) (h':Hid (w.cell? ⟨b',p',none⟩=some u'/\w.cell? ⟨b',p'+1,none⟩=some v')) (hb:b<w.heap.size) (a:b'<w.heap.size) (hs:Same w wx):
 Same w wx/\(wx.cell? ⟨b,p,none⟩=some u/\wx.cell? ⟨b,p+1,none⟩=some v)/\wx.cell? ⟨b',p',none⟩=some u'/\wx.cell? ⟨b',p'+1,none⟩=some v':=⟨hs,EM h hb hs,EM h' a hs⟩
theorem Zwj {fs:List SF} {k:Nat} {x:SF} (h:fs[k]?=some x):(fs.take (k+1)).map SF.dat=(fs.take k).map SF.dat++[x.dat]:=by rw [eD,h];simp
theorem Zkg {fs:List SF} (w:World) (h:FlsW w F A n c fs) (hn:n*40<=140737488355328):
 Calls Tryz.prog 15 #[.slice A n c] w fun e w'=>∃ A' c' l,e=.returned (.slice A' n c')/\Hid (l.map SF.dat=fs.map SF.dat)/\l.length=n/\Hid (MI w' w.heap.size (.slice A' n c') l)/\Same w w':=by
 have HL:=qH (show fs.length=n from h.row.lenF SF.two qD);have G:=qH h;clear h;go_enter Tryz.func15,Tryz.ntmps15;go_wp2_with fail;go_loopg [3,4] n (fun g R i wr=>∃ (k:Nat) (l:List SF),k<=n/\g=n-k/\i=.int .i64 k/\Hid (l.length=k)/\Hid (l.map SF.dat=(fs.take k).map SF.dat)/\Hid (Same w wr)/\Hid (MI wr w.heap.size R l))
 case atStart=>exact ⟨0,[],oA _,rfl,rfl,qH rfl,qH rfl,qH ((eA _ _).alloc _),qH ⟨NI w #[] 0 (lA _) (oA _) rfl,qS⟩⟩
 obtain ⟨k,l,hk,rfl,rfl,a,S,y,q⟩:=hrel;by_cases H:k<n
 · obtain ⟨b,o,x,rfl,T,_,hx,z,U⟩:=(G.row.same y).atF SF.two qD H;have I:wr.cell? ⟨b,o+k*2,none⟩=some (.string x.name):=U 0 _ rfl;have L:wr.cell? ⟨b,o+k*2+1,none⟩=some (.slice x.A x.n x.c):=U 1 _ rfl;have d:=G.each x z;have HX:=qH d.2;have f:Same wr wr.drew:=(eA _ wr).drew;have X:=Zpb wr.drew ((d.1.same y).same f) d.2;have HD:=qH (Zwj hx);obtain ⟨Ao,co,rfl⟩:=WA q.row;have u:=qH q.row;rw [a.out] at u q ⊢;obtain ⟨r,B,xA,s,xc⟩:=x;simp only at I L X;have v:Hid (wr.drew.cell? ⟨b,o+k*2,none⟩=some (.string r)/\wr.drew.cell? ⟨b,o+k*2+1,none⟩=some (.slice xA s xc)):=qH (EM (qH ⟨I,L⟩) T f);have j:=qH (mA u f);have M:b<wr.drew.heap.size:=by simp only [DK];exact T
   have a0:=y.size;have a1:b<w.heap.size:=(G.row.row qO).cell _ rfl |>.2.1;clear f hx z U d I L;go_upto_region 5 with fail
   go_region_held_law (fun wx=>wx.cell? ⟨b,o+k*2,none⟩=some (.string r)/\wx.cell? ⟨b,o+k*2+1,none⟩=some (.slice xA s xc)) (first | exact v.out | assumption | exact EM (qH qA) qO ((iA _).alloc _)) (first
    | (go_at_call 36;refine X.mono ?_;rintro e w2 ⟨C,D,rfl,V,t⟩;have hq:=EM v M t;have N:=t.size;simp only [DK] at N)
    | (refine IK rfl (.tmp 12) (.tmp 25) _ _ rfl w.heap.size 41 2 40 _ EK mU rfl (.slice Ao k co) k _ rfl ((mA j qA).alloc _) rfl (GD EK (Row.sf _ ⟨r,B,C,s,D⟩) (iZ [⟨r,B,C,s,D⟩])) qM qO qP ?_;intro v' w6 E;have a2:=ZuN (EM (qH hq) qO ((iA w2).alloc _)) qP E.upd fun W=>by have:=(j.lt b W).1;omega))
   have m:=(iA w2).alloc (.cells (SF.cells ⟨r,B,C,s,D⟩).toArray 41);have p:=(iA wr).drew.trans (t.trans m qf) qf;have Y:=(q.same p).snoc (x:=⟨r,B,C,s,D⟩) (by rw [a.out];exact E) ⟨RA (mA V m) (by simp only [DK];omega),HX⟩;have Z:=(y.same p).trans E.upd fun b T W=>by have:=(j.lt b W).1;omega
   have O:=qH Y;have P:=qH Z;clear Y Z E m p;go_wp2;go_roundg (n-(k+1))
   case measure=>omega
   exact ⟨k+1,l++[⟨r,B,C,s,D⟩],qO,rfl,qN,qH (by rw [kA,a.out];rfl),qH (by rw [DB,S.out,HD.out];rfl),P,O⟩
 obtain rfl:k=n:=qO;rw [cB (by rw [HL.out];exact lA _)] at S;obtain ⟨Ao,co,rfl⟩:=WA q.row;have hl:=a.out;rw [a.out] at q ⊢;go_wp2;go_ret;exact ⟨_,_,l,rfl,S,a,q,y⟩
theorem ZnL {n':Nat} (w0 w:World) (hs:Same w0 w) (h:pA w0 F A n c bs) (h':pA w0 F' A' n' c' bs):
 Calls Tryz.prog 45 #[.slice A n c,.slice A' n' c'] w fun e w'=>e=.returned (.bool true)/\Same w0 w':=by
 have b:=zI (h.same hs);have d:=zI (h'.same hs);have a:=qH hs;clear h h' hs;go_enter Tryz.func45,Tryz.ntmps45;go_wp2;go_ret;exact ⟨rfl,a⟩
theorem Zkh {fs ms:List SF} (w:World) (h:Fls w F A n c fs) (h':Fls w F' A' n c' ms) (hd:fs.map SF.dat=ms.map SF.dat):
 Calls Tryz.prog 18 #[.slice A n c,.slice A' n c'] w fun e w'=>e=.returned (.bool true)/\Same w w':=by
 have g:=h.row.max;have u:=h.row.le;unfold maxLen at g;have hn:n<=9223372036854775807:=qO;have G:=qH h;have i:=qH h';have M:=qH hd;clear h h' hd g u;go_enter Tryz.func18,Tryz.ntmps18;go_wp2_with fail;go_loopg [5] n (fun U V wr=>∃ k:Nat,n-k=U/\k<=n/\V=.int .i64 k/\Hid (Same w wr))
 case atStart=>exact ⟨0,rfl,oA _,rfl,qH (eA _ _)⟩
 obtain ⟨k,rfl,hk,rfl,f⟩:=hrel;by_cases j:k<n
 · obtain ⟨b,o,x,rfl,W,_,I,m,D⟩:=(G.row.weak.same f).atF SF.two qD j;obtain ⟨s,t,y,rfl,E,_,L,p,d⟩:=(i.row.weak.same f).atF SF.two qD j;have a:x.dat=y.dat:=by have H:=tB (fun l:List DD=>l[k]?) M.out;simp only [MA,I,L,VC] at H;exact eB H
   have N:=qH ((G.each x m).1.same f);have O:=qH ((i.each y p).1.same f);have v:wr.cell? ⟨b,o+k*2,none⟩=some (.string x.name):=D 0 _ rfl;have z:wr.cell? ⟨b,o+k*2+1,none⟩=some (.slice x.A x.n x.c):=D 1 _ rfl;have B:wr.cell? ⟨s,t+k*2,none⟩=some (.string y.name):=d 0 _ rfl;have C:wr.cell? ⟨s,t+k*2+1,none⟩=some (.slice y.A y.n y.c):=d 1 _ rfl;obtain ⟨q,X,Y,Z,xc⟩:=x;obtain ⟨yn,yd,yA,yk,yc⟩:=y;obtain ⟨rfl,rfl⟩:q=yn/\X=yd:=⟨tB DD.name a,tB DD.data a⟩
   simp only at v z B C;have P:=qH (And.intro v z);have R:=qH (And.intro B C);have S:(!(q.toList==q.toList))=false:=by rw [WI];rfl
   clear I L m p D d a v z B C;go_upto_region 6 with fail;have T:Same wr wr.drew:=(eA _ wr).drew;go_region_held3 (fun r=>Same wr r/\(r.cell? ⟨b,o+k*2,none⟩=some (.string q)/\r.cell? ⟨b,o+k*2+1,none⟩=some (.slice Y Z xc))/\r.cell? ⟨s,t+k*2,none⟩=some (.string q)/\r.cell? ⟨s,t+k*2+1,none⟩=some (.slice yA yk yc)) (exact ZuO P R W E qA) (first
    | (go_at_call 45;refine (ZnL wr _ qA N.out O.out).mono ?_;rintro e w' ⟨rfl,hs⟩))
   all_goals
    go_wp2;go_roundg (n-(k+1))
    case measure=>omega
    case rel=>exact ⟨k+1,rfl,qO,qN,qH (f.same qA)⟩
 go_wp2;go_ret;exact ⟨rfl,f⟩
theorem ZlU {fs:List DD} {G:WB} (h:eF fs=.ok G):(chkP G).1=0:=by
 unfold eF at h;split at h
 · cases h
 unfold den1 at h;split at h
 · cases h
 split at h
 · cases h
 split at h
 · cases h
 split at h
 · cases h
 split at h
 · cases h
 split at h
 · cases h
 split at h
 · cases h
 split at h
 · cases h
 split at h
 · cases h
 rename_i a;cases h;exact uF.1 a
theorem Zwk:(chkP ⟨[],[]⟩).1=0:=by have e:∀ k,AB ⟨[],[]⟩ k=[]:=fun k=>eR (NE ⟨[],[]⟩ k) ⟨qS,fun x=>by simp [SC]⟩;unfold chkP;rw [e,e,e];decide +kernel
theorem Zwl {fs:List DD} {e:Ending} (h:DntR fs w e w'):(∃ er:Int,er≠0/\e=.returned (.tuple #[.agg #[.slice none 0 0,.slice none 0 0],.int .i64 er])/\Same w w') \/
 ∃ AN nN cN AR nR cR ns rs,e=.returned (.tuple #[.agg #[.slice AN nN cN,.slice AR nR cR],.int .i64 0])/\OwnG w' w.heap.size ⟨ns,AN,nN,cN,rs,AR,nR,cR⟩/\(chkP (GR.dat ⟨ns,AN,nN,cN,rs,AR,nR,cR⟩)).1=0/\Same w w':=by
 unfold DntR at h;split at h
 · rename_i er _;obtain ⟨rfl,a⟩:=h;by_cases b:er=0
   · subst b;exact .inr ⟨none,0,0,none,0,0,[],[],rfl,⟨XE.nil_ _ _,YE.nil_ _ _⟩,Zwk,a⟩
   exact .inl ⟨er,b,rfl,a⟩
 rename_i G c;obtain ⟨⟨ns,AN,nN,cN,rs,AR,nR,cR⟩,rfl,d,rfl,a⟩:=h;exact .inr ⟨AN,nN,cN,AR,nR,cR,ns,rs,rfl,d,ZlU c,a⟩
theorem Zhe {fs:List SF} (w:World) (hN:Nib w) (h:FlsW w F A n c fs) (hn:n*40<=140737488355328):
 Calls Tryz.prog 6 #[.slice A n c] w fun e w'=>e=.returned (.bool true)/\Same w w':=by
 have a7:=qH (ZuM w hN);have HN:=qH hN;have HR:=qH h;clear h hN;go_enter Tryz.func6,Tryz.ntmps6;go_wp2_with fail;refine a7.mono ?_;rintro e w1 ⟨rfl,a3⟩;have HC:=qH (Zkg w1 (HR.same a3) hn);have az:=qH a3;clear a3 a7;go_wp2_with fail;refine HC.mono ?_;rintro e w2 ⟨A2,c2,bc,rfl,b9,ba,ap,aq⟩;have V:=qH (az.trans aq qf);have m:=qH (dR w2 ap.fls ba (HN.same V));clear b9 ap aq HC;go_wp2_with fail;refine m.mono ?_;intro e U h3;rcases Zwl h3 with ⟨er,ar,rfl,z⟩ | ⟨AN,nN,cN,AR,nR,cR,ns,rs,rfl,G,H,z⟩
 · have bb:((er:Int) != 0)=true:=by rw [qC];exact ar
   have W:=qH (V.trans z qf);clear h3 z ar m;go_upto_region 4 with fail;have a:=jA U 26 #[.slice none 0 0,.slice none 0 0];have o:=(iA U).alloc (.cells #[.slice none 0 0,.slice none 0 0] 26);generalize U.alloc (.cells #[.slice none 0 0,.slice none 0 0] 26)=w4 at *;generalize U.heap.size=gB at *;have q0:=a.c0;have q1:=a.c1;have X:=qH (W.trans o qf);clear a o;go_wp2;go_ret;exact ⟨rfl,X⟩
 obtain ⟨g,hg⟩:∃ g:GR,g=⟨ns,AN,nN,cN,rs,AR,nR,cR⟩:=⟨_,rfl⟩
 rw [<- hg] at G H;have a8:g.agg=.agg #[.slice AN nN cN,.slice AR nR cR]:=by rw [hg] <;> rfl
 have Y:=qH a8;have HZ:=qH (ZjR G H);have a9:=qH G.rd;have q:=qH H;have W:=qH (V.trans z qf);clear h3 z G H a8 hg m;go_upto_region 6 with fail;have a:=jA U 26 #[.slice AN nN cN,.slice AR nR cR];have o:=(iA U).alloc (.cells #[.slice AN nN cN,.slice AR nR cR] 26);generalize U.alloc (.cells #[.slice AN nN cN,.slice AR nR cR] 26)=w4 at *;generalize U.heap.size=gB at *;have q0:=a.c0;have q1:=a.c1;have X:=qH (W.trans o qf);have s:=qH (a9.same o);have aa:=qH a;have hK:=YT w4 g s.out HZ.out (e:=0) (at_:=(chkP g.dat).2) (Prod.ext q rfl);rw [Y.out] at hK;have HK:=qH hK;clear a o a9 hK;go_wp2_with fail;refine HK.mono ?_;rintro e w5 ⟨rfl,I⟩;have ab:=qH (X.trans I qf);have t:=qH (s.same I);have D:=aa.same I;have ac:=qH D;have q0:=D.c0;have q1:=D.c1;have b:=FU w5 t.out HZ.out (HN.same ab);rw [Y.out] at b;have u:=qH b;clear I D b HK s aa;go_wp2_with fail;refine u.mono ?_;rintro e w6 (⟨h0,_⟩ | ⟨_,A6,c6,f6,rfl,a4,L,M⟩)
 · exact absurd q.out h0
 have ad:f6.length=8:=by have h9:=tB List.length L;rw [nA] at h9;exact h9
 have ae:=qH (ab.trans M qf);have v:=qH (t.same M);have af:=qH (ac.same M);have ag:=qH a4;have b0:=qH L;have P:eF (f6.map SF.dat)=.ok g.dat:=by rw [L];exact SZ q (xY v)
 have x:=dR w6 a4 ad (HN.same ae);unfold DntR at x;rw [P] at x;simp only at x;have m:=qH x;clear M a4 L ad P x u t ac q0 q1;go_wp2_with fail;refine m.mono ?_;rintro e w7 ⟨⟨au,d,f,i,av,j,k,l⟩,rfl,N,O,B⟩;obtain ⟨g',a5⟩:∃ g':GR,g'=⟨au,d,f,i,av,j,k,l⟩:=⟨_,rfl⟩
 have R:g'.agg=.agg #[.slice d f i,.slice j k l]:=by rw [a5] <;> rfl
 have ah:GR.agg ⟨au,d,f,i,av,j,k,l⟩=.agg #[.slice d f i,.slice j k l]:=rfl;rw [ah];rw [<- a5] at N O;have S:=qH R;have Z:=qH O;have b1:=qH (ZjR N (by rw [O];exact q));have ai:=qH N.rd;have b2:=qH (ae.trans B qf);have T:=qH (v.same B);have aj:=qH (af.same B);have ak:=qH (ag.upd B qf);clear N O B R a5 ah m v af ag;go_upto_region 13 with fail;have E:=jA w7 26 #[.slice d f i,.slice j k l];have p:=(iA w7).alloc (.cells #[.slice d f i,.slice j k l] 26);generalize w7.alloc (.cells #[.slice d f i,.slice j k l] 26)=w8 at *;generalize w7.heap.size=hB at *;have y:=aj.same p;have q0:=y.c0;have q1:=y.c1;have p0:=E.c0;have p1:=E.c1;have b3:=qH (b2.trans p qf);have al:=qH (ak.upd p qf);have a0:=qH (ai.same p);have am:=qH E;have a1:=Zqh w8 g g' (T.same p) a0.out (r:=true) ((nW _ _).2 Z.symm);rw [Y.out,S.out] at a1;have an:=qH a1;clear E p y a1 ai T aj ak;go_wp2_with fail;refine an.mono ?_;rintro e w9 ⟨rfl,C⟩;have ao:=qH (b3.trans C qf);have b4:=qH (al.upd C qf);have b5:=qH (a0.same C);have a2:=am.same C;have p0:=a2.c0;have p1:=a2.c1;have b:=FU w9 b5.out b1.out (HN.same ao);rw [S.out] at b;have u:=qH b;clear C a2 b an a0 am al q0 q1;go_wp2_with fail;refine u.mono ?_;rintro e wA (⟨h0,_⟩ | ⟨_,AA,cA,fA,rfl,aw,ax,a6⟩)
 · exact absurd (by rw [Z.out];exact q) h0
 have b6:=qH (ao.trans a6 qf);have b7:=qH (Zkh wA (b4.upd a6 qf) aw (by rw [b0.out,ax,Z.out]));clear aw ax a6 u p0 p1;go_wp2_with fail;refine b7.mono ?_;rintro e wB ⟨rfl,ay⟩;have b8:=qH (b6.trans ay qf);clear ay;go_wp2;go_ret;exact ⟨rfl,b8⟩
end
section
open Go.ChangeShapes Go.WideShapes Go.ChangeAt Go.RowKit
section
variable {H:Type} {enc:TypeId×Value->H} {W:World}
theorem ZnM:Tryz.prog.cellsOf 41=2:=qK
theorem ZuP:Tryz.prog.cellsOf 39=1:=qK
theorem Zrq:Tryz.prog.bytesOf 41=40:=qK
instance:Inhabited SF:=⟨⟨⟨#[]⟩,[],none,0,0⟩⟩
theorem ZuQ (fuel:Nat) (cs:List Value) (y:DataW H×List MemPlace) (hf:DataW.trod enc Tryz.prog W 0 (fun _=>true) true fuel 41 cs=some y):
 ∃ x:SF,cs=x.cells/\WRow W (fun b=>b<W.heap.size) 1 x.A x.n x.c (x.data.map u8v)/\((∀ m∈y.1.weights Tryz.prog 41,m<=reachBytes)->x.n<=140737488355328)/\(∀ μ:DataW H->Nat,Mu μ->1<=μ y.1):=by
 obtain ⟨q,n,_,g,j,a,l⟩:=DataW.trod_struct Tryz.underlying41 hf;rw [ZnM] at j
 match cs,j,q,a with
 | [v0,v1],_,[y0,y1],_ =>
   have d:=l 0 _ rfl;have e:=l 1 _ rfl;change DataW.trod enc Tryz.prog W 0 (fun _=>true) true n 9 (([v0,v1].drop 0).take (Tryz.prog.cellsOf 9))=_ at d;change DataW.trod enc Tryz.prog W 0 (fun _=>true) true n 39 (([v0,v1].drop 1).take (Tryz.prog.cellsOf 39))=_ at e;rw [Zol] at d;rw [ZuP] at e;simp only [TF,fP,pL,List.take_zero,rC,LC] at d e;obtain ⟨k,o,w,z⟩:=DataW.trod_string DH d;obtain ⟨A,m,c,p,rfl,r,s,t⟩:=Zqz yD ZO Zua e;simp only [jS,and_true] at o;subst o;refine ⟨⟨k,p.map (fun x=>UInt8.ofNat x.toNat),A,m,c⟩,rfl,?_,fun h=>?_,fun μ u=>u.one _⟩
   · show WRow W (fun b=>b<W.heap.size) 1 A m c ((p.map (fun x=>UInt8.ofNat x.toNat)).map u8v);rw [MC];refine (kG fun x g=>?_) ▸ r;have f:=s x g;simp [Lit.wf,IntKind.min,IntKind.max,IntKind.signed,IntKind.bits] at f;simp only [Function.comp,u8v,UInt8.toNat_ofNat'];congr 1;omega
   subst g;have i:=t fun m v=>h m (by simp only [DataW.weights,Tryz.underlying41,CB,TG,DataW.weightsEach,ZC,YB];exact .inr v)
   rw [Zub] at i;simp only;unfold reachBytes at i;omega
theorem Zrr {s:Nat} {d:DataW H} {p:List MemPlace} (hv:Value.okWide Tryz.prog W .any s 29 v) (h:DataW.Trod enc Tryz.prog W 0 (fun _=>true) true 29 v d p)
 (t:∀ m∈d.weights Tryz.prog 29,m<=reachBytes):
 ∃ (A:Option Addr) (n c:Nat) (fs:List SF),v=.slice A n c/\FlsW W (fun b=>b<W.heap.size) A n c fs/\n*40<=140737488355328:=by
 obtain ⟨a,i,j,rfl⟩:=okWide_slice EK hv;obtain ⟨g,k⟩:=h;obtain ⟨A,n,c,l,e,o,q,r,_⟩:=ZqA (y:=(d,p)) EK ZnM qO SF.two _ (fun x=>x.n<=140737488355328) (fun _=>1) ZuQ k;have f:=r t;rw [Zrq] at f;exact ⟨A,n,c,l,e,⟨o,fun x e=>⟨q x e,f.2 x e⟩⟩,by unfold reachBytes at f;omega⟩
end
end
end Go.Proofs.YtmkjfhnlnhceiaaGreatDoor
