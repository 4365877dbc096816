/- Lemmas: walks and plain laws. -/
import Derived.Test.YtmkjfhnlnhceiaaGreatDoorF13
set_option maxRecDepth 100000
set_option maxHeartbeats 16000000
namespace Go.Proofs.YtmkjfhnlnhceiaaGreatDoor
variable {m l r0 r1 f fb sB:Nat} {W w:World} {o:Oper} {v:Value} {listed:Array Bool} {a:Act}
section
open Go.RowKit
attribute [local go_sem] oD
def sJ (bs:List UInt8) (w:World) (e:Ending) (w':World):Prop :=
 match wI bs with
 | .error er=>e=.returned (.tuple #[.pointer none,.int .i64 er])/\Same w w'
 | .ok fl=>∃ f v l,e=.returned (.tuple #[.pointer (some ⟨f,0,none⟩),.int .i64 0])/\filD fl.kind fl.version fl.size l=fl/\PF w' w.heap.size f fl.kind fl.version fl.size v l 0/\Same w w'
theorem JT {tmps:Array Value} {w':World} {R0 R1:Nat} {v0 v1:Value} {R:Ending->World->Prop} (h2:tmps.getD 2 undef=.pointer (some ⟨R0,0,none⟩)) (h3:tmps.getD 3 undef=.pointer (some ⟨R1,0,none⟩)) (c0:w'.cell? ⟨R0,0,none⟩=some v0) (c1:w'.cell? ⟨R1,0,none⟩=some v1) (hR:R (.returned (.tuple #[v0,v1])) w'):
 ∃ v,(results Tryz.f116 tmps).run Tryz.prog w'=.ok v w'/\R (.returned v) w':=by
 refine ⟨.tuple #[v0,v1],?_,hR⟩;simp only [LF] at h2 h3;simp [results,Tryz.results116,go_sem,h2,h3,c0,c1]
theorem ZmL (w:World) (m:Nat) (hm:m<=65536):(Instr.makeSlice 169 (.int .i64 0) (.int .i64 (m:Int))).run Tryz.prog w=.ok (.slice (some ⟨w.heap.size,0,none⟩) 0 m) (w.alloc (.cells (madeCells #[.slice none 0 0] m) 39)):=by obtain ⟨i,c,a⟩:=GH.1 aQ;simp only [QI] at a;obtain ⟨d,e,f⟩:=a;have b:=run_make (P:=Tryz.prog) w 169 39 i _ PL c d .i64 .i64 0 (m:Int) (FP _) qO (by rw [f];omega) qO;simp only [XB,e,CL] at b;exact b
theorem ZvD (w:World) (hm:m<=65536):OD (w.alloc (.cells (madeCells #[.slice none 0 0] m) 39)) w.heap.size (.slice (some ⟨w.heap.size,0,none⟩) 0 m) [] :=
 ⟨⟨rfl,.inr ⟨w.heap.size,m,_,rfl,lA _,World.alloc_heap_new w _,oA _,qM,by simp [madeCells],rfl⟩⟩,fun _ h=>by cases h⟩
structure OpJ (w:World) (k vs z r0 r1 f fb sB:Nat) (v:Value) (l pre:List BS) (W:World):Prop where
 file:Blk W f 171 #[.int .i64 (k:Int),.int .i64 (vs:Int),.int .i64 (z:Int),v,.int .i64 (((l.filter fun x=>x.A.isSome).length:Nat):Int),.int .i64 0]
 own:OD W r0 v l
 recs:pre.map (fun x=>recP x.data)=l.map fun y=>Except.ok y.rc
 len:∀ y∈l,y.A≠none->y.data.length+1=z
 b0:Blk W r0 67 #[.pointer none]
 b1:Blk W r1 30 #[.int .i64 0]
 b4:Blk W fb 67 #[.pointer (some ⟨f,0,none⟩)]
 same:Same w W
 ns:v.ownBlock≠some sB
structure OpI (w:World) (k vs z r0 r1 f fb sB:Nat) (pre:List BS) (W:World):Prop where
 ex:∃ v l,OpJ w k vs z r0 r1 f fb sB v l pre W
theorem Blk.obj {g:Nat} {t:TypeId} {cs:Array Value} {o:Obj} (h:Blk W g t cs) (ho:W.heap[l]?=some o) (hc:o.isCells=false) (o':Obj):Blk (W.putObj l o') g t cs :=
 h.upd ((eA (fun b=>b=l) W).grown (grownBy_putObj' W l o') fun k e=>.inl (by injection e with e;exact e.symm)) fun e=>by
  subst e;unfold Blk at h;rw [ho] at h;injection h with h
  subst h;cases hc
theorem pA.obj {r n c:Nat} {A:Option Addr} {bs:List UInt8} (h:pA W (fun b=>b<r) A n c bs) (hl:r<=l) (o':Obj):pA (W.putObj l o') (fun b=>b<r) A n c bs :=
 pA.upd h ((eA (fun b=>b=l) W).grown (grownBy_putObj' W l o') fun k e=>.inl (by injection e with e;exact e.symm)) fun b a e=>qO
theorem OpJ.it {k vs z:Nat} {l a:List BS} {W':World} (h:OpJ w k vs z r0 r1 f fb sB v l a W) (hm:w.heap.size<=m) (hu:Upd (yB (fun _=>False) m W) W W'):OpJ w k vs z r0 r1 f fb sB v l a W' :=
 ⟨h.file.it hu fun f=>f,h.own.it hu (fun f=>f) fun f=>f,h.recs,h.len,h.b0.it hu fun f=>f,h.b1.it hu fun f=>f,h.b4.it hu fun f=>f,h.same.it hu hm,h.ns⟩
theorem OpJ.next {k vs z:Nat} {v':Value} {l n:List BS} {W1:World} (hJ:OpJ w k vs z r0 r1 f fb sB v l n W) (q:w.heap.size=r0) (r:r0<=f) (x b:BS) (hr:recP x.data=.ok b.rc) (o:b.A≠none->b.data.length+1=z)
 (hf:Blk W1 f 171 #[.int .i64 (k:Int),.int .i64 (vs:Int),.int .i64 (z:Int),v',.int .i64 ((((l++[b]).filter fun x=>x.A.isSome).length:Nat):Int),.int .i64 0]) (ho:W1.ownsRow r0 39 1 v' (l.length+1) (l.map BS.cell++[b.cell])) (hb:IB W1 r0 b)
 (hu:Upd (fun b=>b=f\/v.ownBlock=some b) W W1) (p:v'.ownBlock≠some sB):OpJ w k vs z r0 r1 f fb sB v' (l++[b]) (n++[x]) W1:=by
 have c:∀ {g:Nat} {t:TypeId} {cs:Array Value},Blk W g t cs->t≠171->39≠t->¬ (g=f\/v.ownBlock=some g):=fun d j m e=>e.elim (fun e=>d.ne hJ.file j e) (fun e=>d.ne_own hJ.own.row m e);refine ⟨hf,⟨?_,fun y a=>?_⟩,?_,fun y a h=>?_,hJ.b0.upd hu (c hJ.b0 qD qD),hJ.b1.upd hu (c hJ.b1 qD qD),hJ.b4.upd hu (c hJ.b4 qD qD),hJ.same.trans hu fun b hb e=>?_,p⟩
 · rw [kA,DB];exact ho
 · rcases YB.1 a with a | a
   · refine (hJ.own.each y a).upd hu fun b hb e=>?_;rcases e with e | e
     · have i:OfT W 171 b:=by rw [e];exact ⟨_,hJ.file⟩
       exact absurd (MK hb i) qD
     exact absurd (MK hb (LA hJ.own.row e)) qD
   have:y=b:=by simpa using a
   subst this;exact hb
 · rw [DB,DB,hJ.recs];simp [hr]
 · rcases YB.1 a with a | a
   · exact hJ.len y a h
   have:y=b:=by simpa using a
   subst this;exact o h
 rcases e with e | e
 · omega
 have:=(hJ.own.row.lt b e).1;omega
structure OpX (w:World) (r0 r1:Nat) (pre:List BS) (er:Int) (W:World):Prop where
 ex:∃ (pre':List BS) (x:BS) (rs:List (Option (List UInt8))),pre=pre'++[x]/\pre'.map (fun x=>recP x.data)=rs.map Except.ok/\recP x.data=.error er
 b0:Blk W r0 67 #[.pointer none]
 b1:Blk W r1 30 #[.int .i64 er]
 same:Same w W
theorem SX {F:Nat->Prop} {A:Option Addr} {n c:Nat} {bs:List UInt8} (w:World) (hb:pA w F A n c bs) (hn:n<=140737488355328) (hN:Nib w):Calls Tryz.prog 116 #[.slice A n c] w (sJ bs w):=by
 have HH:=qH fun P (hs:Same w P)=>ZmI P (hb.same hs) hn (hN.same hs);have HB:=qH hb;clear hb hN;have HO:Hid (∀ e w',sJ bs w e w'↔sJ bs w e w'):=qH fun _ _=>Iff.rfl;generalize ck:sJ bs w=OR at HO ⊢;have b3:=qH ck;clear ck HO;refine (ZB (n:=5)).1 ?_;refine callsIn_of_wp_marks Tryz.func116 rfl trivial ?_ rfl;simp only [Tryz.ntmps116,GF,BA,mC,Nat.reduceAdd,Nat.reduceSub,oI,pI,qI,rI,SB,EB];refine eI.2 ?_;go_upto_region 1 with fail;have b5:Hid (Same w ((w.alloc (.cells #[.pointer none] 67)).alloc (.cells #[.int .i64 0] 30))):=qH (((eA _ w).alloc _).alloc _);have a9:Hid (Blk ((w.alloc (.cells #[.pointer none] 67)).alloc (.cells #[.int .i64 0] 30)) w.heap.size 67 #[.pointer none]):=qH ((jA w _ _).same ((eA _ _).alloc _));have aa:Hid (Blk ((w.alloc (.cells #[.pointer none] 67)).alloc (.cells #[.int .i64 0] 30)) (w.heap.size+1) 30 #[.int .i64 0]):=qH (by have M:=jA (w.alloc (.cells #[.pointer none] 67)) 30 #[.int .i64 0];rwa [show (w.alloc (.cells #[.pointer none] 67)).heap.size=w.heap.size+1 from aB _ _] at M)
 generalize ((w.alloc (.cells #[.pointer none] 67)).alloc (.cells #[.int .i64 0] 30))=w1 at *;have HC:=qH (HH.out w1 b5.out);have a3:Hid (w.heap.size≠w.heap.size+1):=qH (by omega);generalize dv:w.heap.size+1=E at *;generalize bn:w.heap.size=d at *;unfold pH at HC;cases hH:fE bs with
 | error Y =>
   rw [hH] at HC;have HE:=qH hH;have di:(Y != 0)=true:=qC.2 (OX hH);clear hH;go_wp2_with fail;refine HC.out.mono ?_;rintro e w2 ⟨fp,cv,rfl,al⟩;have V:=al.alloc (.cells #[.pointer fp] 67);have an:=qH (b5.out.trans V fun _ _ f=>f.elim);have H0:=qH (a9.out.same V);have H1:=qH (aa.out.same V);clear al a9 aa;go_upto_region 2 with fail;generalize w2.alloc (.cells #[.pointer fp] 67)=I at *;have q0:I.cell? ⟨d,0,none⟩=some (.pointer none):=H0.out.cell 0;have q1:I.cell? ⟨E,0,none⟩=some (.int .i64 0):=H1.out.cell 0;have z0:I.frozen? ⟨d,0,none⟩=false:=H0.out.frozen 0;have z1:I.frozen? ⟨E,0,none⟩=false:=H1.out.frozen 0;clear V;go_wp2;have ab:=((H0.out.put 0 (.pointer none)).far (p:=⟨E,0,none⟩) (fun e=>a3.out e) (.int .i64 Y)).cell 0;have ac:=((H1.out.far (p:=⟨d,0,none⟩) (fun e=>a3.out e.symm) (.pointer none)).put 0 (.int .i64 Y)).cell 0;refine JT (R0:=d) (R1:=E) rfl rfl ab ac ?_;rw [<- b3.out];unfold sJ;rw [wQ,HE.out];exact ⟨rfl,CC (CC an.out (by omega) _) (by omega) _⟩
 | ok q =>
   obtain ⟨k,vs,z,m⟩:=q;rw [hH] at HC;have HE:=qH hH;obtain ⟨hl,d7,cl,bp,dx,dy⟩:=Zuf hH;have ad:Hid (n=16+m*z):=qH (by rw [<- HB.out.len,hl]);clear hH hl;go_wp2_with fail;refine HC.out.mono ?_;rintro e w2 ⟨f,rfl,hf,bq,al⟩;have V:=al.alloc (.cells #[.pointer (some ⟨f,0,none⟩)] 67);have an:=qH (b5.out.trans V fun _ _ f=>f.elim);have H0:=qH (a9.out.same V);have H1:=qH (aa.out.same V);have bv:=qH (bq.same ((eA (fun _=>False) w2).alloc (.cells #[.pointer (some ⟨f,0,none⟩)] 67)));have a4:=qH (jA w2 67 #[.pointer (some ⟨f,0,none⟩)]);have b6:Hid (d<w1.heap.size):=qH a9.out.lt;have X:Hid (E<w1.heap.size/\w1.heap.size<=f):=qH ⟨aa.out.lt,hf⟩;have bw:Hid (f<w2.heap.size):=qH bq.lt;clear al a9 aa bq hf HC HH;go_upto_region 2 with fail;generalize w2.alloc (.cells #[.pointer (some ⟨f,0,none⟩)] 67)=I at *;generalize w2.heap.size=fb at *;have q4:I.cell? ⟨fb,0,none⟩=some (.pointer (some ⟨f,0,none⟩)):=a4.out.cell 0;clear V;go_upto_region 4 with fail;have s0:Same I I.drew:=(eA _ I).drew;have bx:=a4.out.same s0;refine wp_region_noPanic ?_;refine eE 5 (fun P=>P.cell? ⟨fb,0,none⟩=some (.pointer (some ⟨f,0,none⟩))) (by kernel_rfl) (bx.cell 0) (fun s=>?_)
   repeat
    first
     | refine EA (v:=?_) 0 rfl ?_ ?_
     | refine EA (v:=?_) 1 rfl ?_ ?_
    rotate_left
    · intro P G;have h0:=G;go_simp;try with_reducible rfl
    simp only [Act.put,zA,qB,oB,iB,CA,JA]
   refine tG (rs:=[2]) (by decide +kernel) (by decide +kernel) ?_;refine JD rfl (fun K C=>?_) RD;have bz:=ZmL I.drew m bp;refine IX rfl (.const (.int .i64 0)) (.tmp 18) _ rfl rfl rfl bz ?_;have sA:=s0.alloc (.cells (madeCells #[.slice none 0 0] m) 39);have c0:=qH (ZvD I.drew bp);have c1:Hid (I.drew.heap.size=I.heap.size):=qH rfl;have c2:=a4.out.same sA;refine C.out _ _ (c2.cell 0) (fun s=>?_);clear C K bz;simp only [Act.put,zA,qB,oB,iB,CA,JA]
   repeat
    first
     | refine EA (v:=?_) 3 rfl ?_ ?_
     | refine EA (v:=?_) 4 rfl ?_ ?_
    rotate_left
    · intro P G;have h0:=G;go_simp;try with_reducible rfl
    simp only [Act.put,zA,qB,oB,iB,CA,JA]
   refine CI (by decide +kernel) (by decide +kernel) rfl (fun K C=>?_) _;have ao:=bv.out.same sA;have r3:=ao.cell 3;have z3:=ao.frozen 3;generalize I.drew.alloc (.cells (madeCells #[.slice none 0 0] m) 39)=w4 at *;go_simp;refine C.out _ _ ?_;clear C K r3 z3 s bx c2 s0 q4;have ae:=ao.put 3 (.slice (some ⟨I.heap.size,0,none⟩) 0 m);simp only [zA,JA,CA] at ae;have b7:=qH ae;have ap:Hid (fb<I.heap.size/\d<I.heap.size/\E<I.heap.size):=qH ⟨a4.out.lt,H0.out.lt,H1.out.lt⟩;have a5:=(eA (fun b=>b=f) w4).put1 (i:=3) (.slice (some ⟨I.heap.size,0,none⟩) 0 m);have b8:Hid (Same w (w4.setCell ⟨f,3,none⟩ (.slice (some ⟨I.heap.size,0,none⟩) 0 m))):=qH ((an.out.trans sA fun _ _ f=>f.elim).trans a5 fun b hb e=>by have:=X.out;omega);have b9:Hid (OD (w4.setCell ⟨f,3,none⟩ (.slice (some ⟨I.heap.size,0,none⟩) 0 m)) d (.slice (some ⟨I.heap.size,0,none⟩) 0 m) []):=qH
    ⟨GA (RA c0.out.row (by have:=ap.out;have:=c1.out;omega)) a5 fun g hg e=>by have hg:I.heap.size=g:=eB hg;have:=ap.out;have:=bw.out;omega,fun _ h=>by cases h⟩
   have c3:=qH ((H0.out.same sA).upd a5 fun e=>by have:=X.out;have:=b6.out;omega);have c4:=qH ((H1.out.same sA).upd a5 fun e=>by have:=X.out;omega);have ba:=qH ((a4.out.same sA).upd a5 fun e=>by have:=bw.out;omega);have bb:Hid (I.heap.size<(w4.setCell ⟨f,3,none⟩ (.slice (some ⟨I.heap.size,0,none⟩) 0 m)).heap.size):=qH (by have M:=(b9.out.row.lt I.heap.size rfl).2;exact M)
   generalize w4.setCell ⟨f,3,none⟩ (.slice (some ⟨I.heap.size,0,none⟩) 0 m)=w5 at *;clear ao ae a5 sA c0 c1 bv H0 H1 a4 an;generalize dw:I.heap.size=vb at *;have c5:=qH (pA.rest HB.out (j:=16) (by have:=ad.out;omega));have q4:w5.cell? ⟨fb,0,none⟩=some (.pointer (some ⟨f,0,none⟩)):=ba.out.cell 0;have q2:w5.cell? ⟨f,2,none⟩=some (.int .i64 (z:Int)):=b7.out.cell 2;obtain ⟨A',am⟩:∃ A',(if c=16 then A else A.map (·.add 16))=A':=⟨_,rfl⟩
   have az:Hid (pA w F A' (n-16) (c-16) (bs.drop 16)):=qH (by rw [<- am];exact c5.out);have bc:=qH fun P (hs:Same w5 P)=>(Zqm P A' (n-16) (c-16) z (by omega)).mono fun e w' ⟨M,h2,h3,h4⟩=>(show (∃ S nB:Nat,e=Ending.returned (.func (.func 191) #[] #[.pointer (some ⟨S,0,none⟩),.pointer (some ⟨nB,0,none⟩)])/\Hid (Blk w' S 39 #[.slice A' (n-16) (c-16)])/\Hid (Blk w' nB 3 #[.int .i64 (z:Int)])/\Hid (Same w5 w')/\Hid (w5.heap.size<=S/\w5.heap.size<=nB)) from
    ⟨_,_,M,qH h2,qH h3,qH (hs.trans h4 fun _ _ f=>f.elim),qH ⟨hs.size,by have:=hs.size;omega⟩⟩)
   have dg:16<=n/\n<=c:=⟨by have:=ad.out;omega,Row.le HB.out⟩
   clear c5;refine NoPanic.normal ?_;go_upto_region 5 with fail;go_cut [28] from 22 to 28 (fun d8 P=>∃ S nB:Nat,d8=.func (.func 191) #[] #[.pointer (some ⟨S,0,none⟩),.pointer (some ⟨nB,0,none⟩)]/\Hid (Blk P S 39 #[.slice A' (n-16) (c-16)])/\Hid (Blk P nB 3 #[.int .i64 (z:Int)])/\Hid (Same w5 P)/\Hid (w5.heap.size<=S/\w5.heap.size<=nB))
   case first =>
    by_cases bd:c=16
    · rw [gA bd] at am;subst am;subst bd;have c6:n=16:=by omega
      clear ad;subst c6;refine wp_region_noPanic ?_;go_region_with (go_at_call 162;refine (bc.out _ (by first | exact eA _ _ | exact (eA _ _).drew | exact (eA _ _).drewN _)).mono ?_;rintro e w6 ⟨S,nB,rfl,g1,g2,g3,g4⟩)
      all_goals go_wp2_with fail
      all_goals refine NoPanic.normal ?_
      all_goals go_wp2
      all_goals go_meet
      all_goals exact ⟨_,_,rfl,g1,g2,g3,g4⟩
    rw [aA bd] at am;subst am;refine wp_region_noPanic ?_;go_region_with (go_at_call 162;refine (bc.out _ (by first | exact eA _ _ | exact (eA _ _).drew | exact (eA _ _).drewN _)).mono ?_;rintro e w6 ⟨S,nB,rfl,g1,g2,g3,g4⟩)
    all_goals go_wp2_with fail
    all_goals refine NoPanic.normal ?_
    all_goals go_wp2
    all_goals go_meet
    all_goals exact ⟨_,_,rfl,g1,g2,g3,g4⟩
   obtain ⟨S,nB,rfl,G1,G2,G3,G4⟩:=hcut;have cr:Hid (OpI w k vs z d E f fb S [] wc):=qH
    ⟨_,[],⟨b7.out.same G3.out,b9.out.same G3.out,rfl,by simp,c3.out.same G3.out,c4.out.same G3.out,ba.out.same G3.out,b8.out.trans G3.out fun _ _ f=>f.elim,fun e=>by have e:vb=S:=eB e;have:=G4.out;have:=bb.out;omega⟩⟩
   have cs:=qH (((az.out.mono (F':=fun b=>b<d) fun b hb _=>by omega).same b8.out).same G3.out);have ct:=qH (ZrY 4 (by omega) wc cs.out ⟨by omega,cl⟩ (show n-16=m*z by have:=ad.out;omega) bp G1.out G2.out);clear q2 q4 b7 b9 c3 c4 ba b8 bc az;go_wp2_with fail;refine (eI (n:=5)).1 ?_;have dj:S<wc.heap.size/\nB<wc.heap.size:=⟨G1.out.lt,G2.out.lt⟩
   have dk:d<wc.heap.size:=by have:=ap.out;have:=bb.out;have:=G3.out.size;omega
   have dl:E<wc.heap.size:=by have:=ap.out;have:=bb.out;have:=G3.out.size;omega
   generalize bo:wc.heap.size=g0 at *;have aq:w.heap.size<=g0:=by omega
   refine tW (T:=fun _=>False) rfl (by omega) (gf:=191) (lb:=#[.pointer (some ⟨S,0,none⟩),.pointer (some ⟨nB,0,none⟩)]) rfl trivial (enters_of Tryz.func191 (by kernel_rfl) rfl) ct.out
    (fun M h2=>⟨fun h=>h2.1 (M.1 h),fun h=>h2.2.1 (M.2.1 h),fun h=>h2.2.2 (M.2.2 h)⟩)
    (fun x W l o o' hl ho hc=>⟨fun h=>pA.obj h (by omega) o',fun h=>h.obj ho hc o',fun h=>h.obj ho hc o'⟩) (CK _ _) (fun _=>rfl)
    (fun H W=>OpI w k vs z d E f fb S H W)
    (fun c H W=>c=.ret/\∃ Y,OpX w d E H Y W)
    (fun H W W' ⟨v,l,h⟩ O=>⟨v,l,h.it aq (bo ▸ O)⟩)
    (fun c H W W' ⟨M,Y,h⟩ O=>⟨M,Y,h.ex,h.b0.it O fun f=>f,h.b1.it O fun f=>f,h.same.it O (bo ▸ aq)⟩)
    cr.out
    (fun H x a' W=>a'={ tmps:=#[.slice A n c,undef,.pointer (some ⟨d,0,none⟩),.pointer (some ⟨E,0,none⟩),.pointer (some ⟨fb,0,none⟩),.int .i64 (m:Int),.int .i64 0,.slice x.A x.n x.c,
      .tuple #[.pointer (some ⟨f,0,none⟩),.int .i64 (m:Int),.int .i64 0],.slice A n c,.tuple #[.pointer (some ⟨f,0,none⟩),.int .i64 (m:Int),.int .i64 0],.pointer (some ⟨f,0,none⟩),.int .i64 (m:Int),.int .i64 0,.int .i64 0,.bool false,undef,.pointer (some ⟨f,0,none⟩),.int .i64 (m:Int),.slice (some ⟨vb,0,none⟩) 0 m,.pointer (some ⟨f,0,none⟩),.pointer (some ⟨f,3,none⟩),u22,u23,u24,u25,u26,u27,
      .func (.func 191) #[] #[.pointer (some ⟨S,0,none⟩),.pointer (some ⟨nB,0,none⟩)],.slice x.A x.n x.c,undef,undef,undef,undef,undef,undef,undef,undef,undef,undef,undef,undef,undef,undef,undef,undef,undef,undef,undef,undef,undef,undef,undef,undef,undef,undef,undef,undef,undef,undef,undef,undef,undef,undef,undef,undef,undef,undef,undef,undef,undef,undef],defers:=[] }/\ChR (qE z m (bs.drop 16)) (fun b=>b<d) H x W)
    (fun H x a' W l o o' hl ho hc h=>⟨h.1,h.2.at_,pA.obj h.2.row (by omega) o'⟩) ?assign ?body ?done ?stop
   case assign =>
    intro l H x W K hi hr C;dsimp only [BS.argC];gi_wp2;exact C _ _ (KeepsFrom.refl _ _) ⟨id,id,id⟩ hi ⟨rfl,hr⟩
   case body =>
    rintro lp H x a' W hl cm ⟨v,l,hJ⟩ ⟨rfl,hX⟩;have a:=qH hJ;have af:x.data.length=z:=by have M:=hX.at_;have h2:=(IA.1 M).1;rw [iM] at h2;rw [lT z m _ _ h2] at M;rw [<- eB M,RB,QA,QA];have h3:(H.length+1)*z<=m*z:=gG z h2;rw [BG] at h3;have h4:=ad.out;have h5:=HB.out.len;omega
    have dm:x.data.length=x.n:=ZG hX.row;obtain ⟨y,t,br⟩:∃ y t,x.data=y::t:=by
     cases hd:x.data with
     | nil=>rw [hd] at af;simp at af;omega
     | cons y t=>exact ⟨y,t,rfl⟩
    obtain ⟨xb,xo,bt,dh,d9,da⟩:=pA.at_ hX.row (i:=0) (by omega);have ar:x.data[0]'(by omega)=y:=by simp [br]
    rw [ar,IF] at da;have HX:=qH hX;have R:=qH br;have c8:=qH bt;have ag:x.n=z:=by omega
    rw [bt,ag];have j1:(1:Int)<=(z:Int):=by omega
    have q0:W.cell? ⟨d,0,none⟩=some (.pointer none):=hJ.b0.cell 0;have q1:W.cell? ⟨E,0,none⟩=some (.int .i64 0):=hJ.b1.cell 0;have z0:W.frozen? ⟨d,0,none⟩=false:=hJ.b0.frozen 0;have z1:W.frozen? ⟨E,0,none⟩=false:=hJ.b1.frozen 0;have q4:W.cell? ⟨fb,0,none⟩=some (.pointer (some ⟨f,0,none⟩)):=hJ.b4.cell 0;have ca:Hid (∀ (Y:Int),recP x.data=.error Y->KeepsFrom g0 W ((W.setCell ⟨d,0,none⟩ (.pointer none)).setCell ⟨E,0,none⟩ (.int .i64 Y))/\∃ er',OpX w d E (H++[x]) er' ((W.setCell ⟨d,0,none⟩ (.pointer none)).setCell ⟨E,0,none⟩ (.int .i64 Y))):=qH fun Y db=>by have O:Upd (fun b=>b=d\/b=E) W ((W.setCell ⟨d,0,none⟩ (.pointer none)).setCell ⟨E,0,none⟩ (.int .i64 Y)):=((eA (fun b=>b=d\/b=E) W).setCell (p:=⟨d,0,none⟩) (.inl (.inl rfl)) _).setCell (p:=⟨E,0,none⟩) (.inl (.inr rfl)) _;have ab:=(a.out.b0.put 0 (.pointer none)).far (p:=⟨E,0,none⟩) (fun e=>a3.out e) (.int .i64 Y);have ac:=(a.out.b1.far (p:=⟨d,0,none⟩) (fun e=>a3.out e.symm) (.pointer none)).put 0 (.int .i64 Y);refine ⟨ZD O fun k hk hB o ho=>by rcases hk with hk | hk <;> omega,Y,⟨H,x,l.map BS.rc,rfl,by rw [MC];exact a.out.recs,db⟩,ab,ac,a.out.same.trans O fun b hb e=>by rcases e with e | e <;> omega⟩
    clear hJ hX br bt d9;by_cases bf:1<y.toNat
    · have l1:¬ (y.toNat:Int)<=1:=by omega
      have hE:=ca.out 93 (by rw [R.out];exact ZvC bf);have ah:=qH hE;clear hE;gi_wp2;exact ⟨ah.1,rfl,ah.2⟩
    have l1:(y.toNat:Int)<=1:=by omega
    have s0:Same W W.drew:=(eA _ W).drew;have cu:l.length<=65536:=by have M:=tB List.length a.out.recs;rw [nA,nA] at M;have h2:=(IA.1 HX.out.at_).1;rw [iM] at h2;omega
    obtain ⟨VA,Vc,hv⟩:=WA a.out.own.row;have HV:=qH hv;have q3:W.cell? ⟨f,3,none⟩=some (.slice VA l.length Vc):=by rw [<- hv];exact a.out.file.cell 3
    by_cases bf:y.toNat=1
    · have l2:(y.toNat:Int)=1:=by omega
      have ai:pA W (fun b=>b<d) (some ⟨xb,xo+1,none⟩) (z-1) (x.c-1) t:=by have M:=pA.rest HX.out.row (j:=1) (by omega);have h2:x.n<=x.c:=Row.le HX.out.row;rw [aA (by omega),c8.out,VC,GK,ag,R.out] at M;exact M
      have cw:=qH ai;have bg:=qH (show recP x.data=.ok (some t) by rw [R.out];exact Zug bf);have dn:(z:Int)<=(x.c:Int):=by have h2:x.n<=x.c:=Row.le HX.out.row;omega
      have cb:¬ x.c=1:=by omega
      clear ai hv;gi_wp2_with fail;refine IT ?_;refine dG 12 (fun P=>P.cell? ⟨fb,0,none⟩=some (.pointer (some ⟨f,0,none⟩))/\P.cell? ⟨f,3,none⟩=some (.slice VA l.length Vc)) (by kernel_rfl) (by kernel_rfl) (cG fun _ _ h=>h) ⟨(a.out.b4.same s0).cell 0,by rw [<- HV.out];exact (a.out.file.same s0).cell 3⟩ (fun s=>?_)
      repeat
       first
        | refine EA (v:=?_) 0 rfl ?_ ?_
        | refine EA (v:=?_) 1 rfl ?_ ?_
        | refine EA (v:=?_) 2 rfl ?_ ?_
        | refine EA (v:=?_) 3 rfl ?_ ?_
        | refine EA (v:=?_) 4 rfl ?_ ?_
        | refine EA (v:=?_) 5 rfl ?_ ?_
        | refine EA (v:=?_) 6 rfl ?_ ?_
       rotate_left
       · intro P G;have h0:=G.1;have M:=G.2;go_simp;try with_reducible rfl
       simp only [Act.put,zA,qB,oB,iB,CA,JA]
      refine tG (rs:=[7]) (by decide +kernel) (by decide +kernel) ?_;refine JD rfl (fun K C=>?_) RD;go_simp
      try rw [aA cb]
      refine (JK W.drew (pA.same cw.out s0) (by omega)).mono ?_;rintro e wd ⟨v7,rfl,bu,cn⟩;obtain ⟨A7,c7,rfl⟩:=WA bu;have cc:=qH bu;have bh:=qH (s0.trans cn fun _ _ f=>f);clear bu cn;go_wp2_with fail;refine C.out _ _ ⟨(a.out.b4.same bh.out).cell 0,by rw [<- HV.out];exact (a.out.file.same bh.out).cell 3⟩ (fun s=>?_);clear C K
      try simp only [Act.put,zA,qB,oB,iB,CA,JA]
      refine tG (rs:=[8]) (by decide +kernel) (by decide +kernel) ?_;refine JD rfl (fun K C=>?_) RD;go_simp;have u:=qH (bh.out.alloc (.cells #[.slice A7 t.length c7] 39));have bi:=qH (jA wd 39 #[.slice A7 t.length c7]);have dp:=qH (aB wd (.cells #[.slice A7 t.length c7] 39));have cx:=qH (mA cc.out ((eA (fun _=>False) wd).alloc (.cells #[.slice A7 t.length c7] 39)));generalize wd.alloc (.cells #[.slice A7 t.length c7] 39)=we at *;refine C.out _ _ ⟨(a.out.b4.same u.out).cell 0,by rw [<- HV.out];exact (a.out.file.same u.out).cell 3⟩ (fun s=>?_);clear C K
      try simp only [Act.put,zA,qB,oB,iB,CA,JA]
      refine tG (rs:=[9]) (by decide +kernel) (by decide +kernel) ?_;refine JD rfl (fun K C=>?_) RD;refine IK rfl (.tmp 53) (.tmp 57) _ _ rfl d 39 1 24 _ PL aQ rfl (.slice VA l.length Vc) l.length (l.map BS.cell) rfl (mA (HV.out ▸ a.out.own.row) u.out) rfl (GD PL (XF bi.out (k:=1) (n:=1) (c:=1) rfl (lA _) (by simp [maxLen])) (by simp [Value.oneCell'])) (by unfold maxLen;omega) (by omega) (by have:=u.out.size;have:=a.out.b0.lt;omega) ?_;intro v9 w9 L;have B:=a.out.own.row;rw [HV.out] at B;have au:=qH (aH (i:=3) a.out.file B (by decide) u.out L);have n4:fb≠f:=a.out.b4.ne a.out.file (by decide);have N:=(a.out.b4.same u.out).upd L.upd fun e=>a.out.b4.ne_own B (by decide) e;have a1:=L.blk (a.out.file.same u.out) (a.out.file.ne_own B (by decide));have r3:=a1.cell 3;have z3:=a1.frozen 3;obtain ⟨A9,n9,c9,rfl⟩:=DE L.own;rw [HV.out] at r3;have aj:=qH L;clear L a1;refine C.out _ _ ⟨N.cell 0,r3⟩ (fun s=>?_);clear C K
      try simp only [Act.put,zA,qB,oB,iB,CA,JA]
      repeat
       first
        | refine EA (v:=?_) 10 rfl ?_ ?_
        | refine EA (v:=?_) 11 rfl ?_ ?_
       rotate_left
       · intro P G;have h0:=G.1;have M:=G.2;go_simp;try with_reducible rfl
       simp only [Act.put,zA,qB,oB,iB,CA,JA]
      refine CI (by decide +kernel) (by decide +kernel) rfl (fun K C=>?_) _;go_simp;refine C.out _ _ ?_;clear C K r3 z3 s N;obtain ⟨a0,a8,a2⟩:=au.out;have av:=qH a0;have bj:=qH a8;have cd:=qH a2;have cy:∃ a7,A7=some a7:=by
       cases h7:A7 with
       | some a7=>exact ⟨a7,rfl⟩
       | none =>
         have h8:=xF cc.out;have h9:=Row.nil h8 h7;have ce:=Row.le h8;have bk:t.length+1=z:=by rw [<- af,R.out];rfl
         omega
      have dq:=qH cy;have N:=a.out.b4.upd a2 fun e=>e.elim n4 fun e=>a.out.b4.ne_own B (by decide) e;have cf:Hid (Upd (fun b=>b=f\/(Value.slice VA l.length Vc).ownBlock=some b) we (w9.setCell ⟨f,3,none⟩ (.slice A9 n9 c9))):=qH ((aj.out.upd.mono fun _ _ h=>.inr h).setCell (p:=⟨f,3,none⟩) (.inl (.inl rfl)) _);have bl:Hid (∀ W3,Upd (fun b=>b=f\/v.ownBlock=some b) W W3->KeepsFrom g0 W W3/\((pA W (fun b=>b<d) A' (n-16) (c-16) (bs.drop 16)->pA W3 (fun b=>b<d) A' (n-16) (c-16) (bs.drop 16))/\(Blk W S 39 #[.slice A' (n-16) (c-16)]->Blk W3 S 39 #[.slice A' (n-16) (c-16)])/\(Blk W nB 3 #[.int .i64 (z:Int)]->Blk W3 nB 3 #[.int .i64 (z:Int)]))):=qH fun W3 O=>by
       refine ⟨ZD O fun k hk hB o ho=>?_,fun h=>pA.upd h O fun b hb e=>?_,fun h=>h.upd O fun e=>?_,fun h=>h.upd O fun e=>?_⟩
       · rcases hk with hk | hk
         · exact TN ⟨_,by rw [hk];exact a.out.file⟩ ho
         exact TN (LA a.out.own.row hk) ho
       · rcases e with e | e
         · have:=X.out;omega
         have:=(a.out.own.row.lt b e).1;omega
       · rcases e with e | e
         · exact h.ne a.out.file (by decide) e
         exact a.out.ns e
       rcases e with e | e
       · exact h.ne a.out.file (by decide) e
       exact h.ne_own a.out.own.row (by decide) e
      refine NoPanic.normal ?_;have dr:(w9.setCell ⟨f,3,none⟩ (.slice A9 n9 c9)).cell? ⟨fb,0,none⟩=some (.pointer (some ⟨f,0,none⟩)):=N.cell 0;have cz:=a0.cell 4;have ds:=a0.frozen 4;generalize w9.setCell ⟨f,3,none⟩ (.slice A9 n9 c9)=wA at *;simp only [zA,JA,CA,YC,LC,rC] at cz;have dt:(l.filter fun x=>x.A.isSome).length<=65536:=tA (OL _ _) cu;have du:IntKind.i64.wrap (((l.filter fun x=>x.A.isSome).length:Int)+1)=((l.filter fun x=>x.A.isSome).length:Int)+1:=kF _ ⟨by omega,by omega⟩;clear a0 a8 a2 N au;gi_wp2;have a6:Upd (fun b=>b=f\/v.ownBlock=some b) W (wA.setCell ⟨f,4,none⟩ (.int .i64 (((l.filter fun x=>x.A.isSome).length:Int)+1))):=by rw [HV.out];exact cd.out.setCell (p:=⟨f,4,none⟩) (.inl (.inl rfl)) _
      have cg:=(eA (fun b=>b=f) wA).put1 (i:=4) (.int .i64 (((l.filter fun x=>x.A.isSome).length:Int)+1));have ch:=av.out.put 4 (.int .i64 (((l.filter fun x=>x.A.isSome).length:Int)+1));simp only [zA,JA,CA] at ch;have d0:=GA bj.out cg fun g hg e=>av.out.ne_own bj.out (by decide) (e ▸ hg);obtain ⟨ax,ay⟩:=bl.out _ a6;obtain ⟨b,dc,co,cp,hb⟩:=IB.row cx.out (by
       have bk:t.length+1=z:=by rw [<- af,R.out];rfl
       omega)
      have d1:IB (wA.setCell ⟨f,4,none⟩ (.int .i64 (((l.filter fun x=>x.A.isSome).length:Int)+1))) d b:=by
       refine ((hb.base (show d<=W.drew.heap.size from Nat.le_of_lt a.out.b0.lt)).upd cf.out fun g hg e=>?_).upd cg fun g hg e=>?_
       · rcases e with e | e
         · have h9:OfT we 171 g:=by rw [e];exact ⟨_,a.out.file.same u.out⟩
           exact absurd (MK hg h9) (by decide)
         exact absurd (MK hg (LA (mA B u.out) e)) (by decide)
       have h9:OfT wA 171 g:=by rw [e];exact ⟨_,av.out⟩
       exact absurd (MK hg h9) (by decide)
      have bm:((l++[b]).filter fun x=>x.A.isSome).length=(l.filter fun x=>x.A.isSome).length+1:=by
       rw [kI,kA];congr 1;cases h:b.A with
       | none=>exact absurd h cp
       | some _=>simp [h]
      refine ⟨ax,ay,⟨.slice A9 n9 c9,l++[b],a.out.next bn (by have:=X.out;omega) x b ?_ ?_ ?_ ?_ d1 a6 ?_⟩⟩
      · rw [bg.out];unfold BS.rc;cases h:b.A with
        | none=>exact absurd h cp
        | some _=>rw [co]
      · intro _;rw [co,<-af,R.out];rfl
      · rw [bm,dS];exact ch
      · rw [show b.cell=_ from dc.symm];exact d0
      obtain ⟨r,hr⟩:=cm;have ce:=(sC.1 hr).1;have bk:=u.out.size;rcases aj.out.block with e | ⟨g,e,dd⟩
      · rw [e,<-HV.out];exact a.out.ns
      rw [e];intro e2;have:=eB e2;omega
    have ar:y.toNat=0:=by omega
    have l2:¬ (y.toNat:Int)=1:=by omega
    have b2:pA W (fun b=>b<d) (some ⟨xb,xo,none⟩) z x.c x.data:=by have h:=HX.out.row;rw [c8.out,ag] at h;exact h
    have aw:=qH (Zhm W b2);clear b2;cases hfr:pE x.data with
    | false =>
      have hE:=ca.out 94 (by rw [R.out];exact Zuh ar (by rw [<- R.out];exact hfr));have ah:=qH hE;rw [hfr] at aw;clear hE hfr;gi_wp2_with (refine ⟨trivial,?_⟩;gi_at_call 163;refine (CallsIn.inRound lp (ZB.2 aw.out)).mono ?_;rintro e5 w5 ⟨rfl,rfl⟩);exact ⟨by rw [bo];exact ah.1,rfl,ah.2⟩
    | true =>
      have bg:=qH (show recP x.data=.ok none by rw [R.out];exact Zsk ar (by rw [<- R.out];exact hfr));rw [hfr] at aw;clear hfr hv;gi_wp2_with (refine ⟨trivial,?_⟩;gi_at_call 163;refine (CallsIn.inRound lp (ZB.2 aw.out)).mono ?_;rintro e5 w5 ⟨rfl,rfl⟩);refine IT ?_;refine dG 9 (fun P=>P.cell? ⟨fb,0,none⟩=some (.pointer (some ⟨f,0,none⟩))/\P.cell? ⟨f,3,none⟩=some (.slice VA l.length Vc)) (by kernel_rfl) (by kernel_rfl) (cG fun _ _ h=>h) ⟨(a.out.b4.same s0).cell 0,by rw [<- HV.out];exact (a.out.file.same s0).cell 3⟩ (fun s=>?_)
      repeat
       first
        | refine EA (v:=?_) 0 rfl ?_ ?_
        | refine EA (v:=?_) 1 rfl ?_ ?_
        | refine EA (v:=?_) 2 rfl ?_ ?_
        | refine EA (v:=?_) 3 rfl ?_ ?_
        | refine EA (v:=?_) 4 rfl ?_ ?_
       rotate_left
       · intro P G;have h0:=G.1;have M:=G.2;go_simp;try with_reducible rfl
       simp only [Act.put,zA,qB,oB,iB,CA,JA]
      refine tG (rs:=[5]) (by decide +kernel) (by decide +kernel) ?_;refine JD rfl (fun K C=>?_) RD;go_simp;have u:Hid (Same W (W.alloc (.cells #[.slice none 0 0] 39)).drew):=qH ((eA _ W).alloc _).drew;have bi:Hid (Blk (W.alloc (.cells #[.slice none 0 0] 39)).drew W.heap.size 39 #[.slice none 0 0]):=qH ((jA W 39 #[.slice none 0 0]).same (eA _ _).drew);generalize (W.alloc (.cells #[.slice none 0 0] 39)).drew=we at *;refine C.out _ _ ⟨(a.out.b4.same u.out).cell 0,by rw [<- HV.out];exact (a.out.file.same u.out).cell 3⟩ (fun s=>?_);clear C K
      try simp only [Act.put,zA,qB,oB,iB,CA,JA]
      refine tG (rs:=[6]) (by decide +kernel) (by decide +kernel) ?_;refine JD rfl (fun K C=>?_) RD;refine IK rfl (.tmp 34) (.tmp 35) _ _ rfl d 39 1 24 _ PL aQ rfl (.slice VA l.length Vc) l.length (l.map BS.cell) rfl (mA (HV.out ▸ a.out.own.row) u.out) rfl (GD PL (XF bi.out (k:=1) (n:=1) (c:=1) rfl (lA _) (by simp [maxLen])) (by simp [Value.oneCell'])) (by unfold maxLen;omega) (by omega) (by have:=u.out.size;have:=a.out.b0.lt;omega) ?_;intro v9 w9 L;have B:=a.out.own.row;rw [HV.out] at B;have au:=qH (aH (i:=3) a.out.file B (by decide) u.out L);have n4:fb≠f:=a.out.b4.ne a.out.file (by decide);have N:=(a.out.b4.same u.out).upd L.upd fun e=>a.out.b4.ne_own B (by decide) e;have a1:=L.blk (a.out.file.same u.out) (a.out.file.ne_own B (by decide));have r3:=a1.cell 3;have z3:=a1.frozen 3;obtain ⟨A9,n9,c9,rfl⟩:=DE L.own;rw [HV.out] at r3;have aj:=qH L;clear L a1;refine C.out _ _ ⟨N.cell 0,r3⟩ (fun s=>?_);clear C K
      try simp only [Act.put,zA,qB,oB,iB,CA,JA]
      repeat
       first
        | refine EA (v:=?_) 7 rfl ?_ ?_
        | refine EA (v:=?_) 8 rfl ?_ ?_
       rotate_left
       · intro P G;have h0:=G.1;have M:=G.2;go_simp;try with_reducible rfl
       simp only [Act.put,zA,qB,oB,iB,CA,JA]
      refine CI (by decide +kernel) (by decide +kernel) rfl (fun K C=>?_) _;go_simp;refine C.out _ _ ?_;clear C K r3 z3 s N;obtain ⟨a0,a8,a2⟩:=au.out;have av:=qH a0;have bj:=qH a8;have cd:=qH a2;have cf:Hid (Upd (fun b=>b=f\/(Value.slice VA l.length Vc).ownBlock=some b) we (w9.setCell ⟨f,3,none⟩ (.slice A9 n9 c9))):=qH ((aj.out.upd.mono fun _ _ h=>.inr h).setCell (p:=⟨f,3,none⟩) (.inl (.inl rfl)) _);have bl:Hid (∀ W3,Upd (fun b=>b=f\/v.ownBlock=some b) W W3->KeepsFrom g0 W W3/\((pA W (fun b=>b<d) A' (n-16) (c-16) (bs.drop 16)->pA W3 (fun b=>b<d) A' (n-16) (c-16) (bs.drop 16))/\(Blk W S 39 #[.slice A' (n-16) (c-16)]->Blk W3 S 39 #[.slice A' (n-16) (c-16)])/\(Blk W nB 3 #[.int .i64 (z:Int)]->Blk W3 nB 3 #[.int .i64 (z:Int)]))):=qH fun W3 O=>by
       refine ⟨ZD O fun k hk hB o ho=>?_,fun h=>pA.upd h O fun b hb e=>?_,fun h=>h.upd O fun e=>?_,fun h=>h.upd O fun e=>?_⟩
       · rcases hk with hk | hk
         · exact TN ⟨_,by rw [hk];exact a.out.file⟩ ho
         exact TN (LA a.out.own.row hk) ho
       · rcases e with e | e
         · have:=X.out;omega
         have:=(a.out.own.row.lt b e).1;omega
       · rcases e with e | e
         · exact h.ne a.out.file (by decide) e
         exact a.out.ns e
       rcases e with e | e
       · exact h.ne a.out.file (by decide) e
       exact h.ne_own a.out.own.row (by decide) e
      have a6:Upd (fun b=>b=f\/v.ownBlock=some b) W (w9.setCell ⟨f,3,none⟩ (.slice A9 n9 c9)):=by rw [HV.out];exact a2
      obtain ⟨ax,ay⟩:=bl.out _ a6;have bm:((l++[UK]).filter fun x=>x.A.isSome).length=(l.filter fun x=>x.A.isSome).length:=by rw [kI,kA];simp [UK]
      have ci:=a.out.next bn (by have:=X.out;omega) x UK (by rw [bg.out];rfl) (fun h=>absurd rfl h) (by rw [bm];exact a0) a8 (IB.nilB _ _) a6 (by
       obtain ⟨r,hr⟩:=cm;have ce:=(sC.1 hr).1;have bk:=u.out.size;rcases aj.out.block with e | ⟨g,e,dd⟩
       · rw [e,<-HV.out];exact a.out.ns
       rw [e];intro e2;have:=eB e2;omega)
      have d2:=qH ci;have d3:=qH ax;have d4:=qH ay;clear ci ax ay a6 a0 a8 a2;refine NoPanic.normal ?_;gi_wp2;exact ⟨d3.out,d4.out,⟨_,_,d2.out⟩⟩
   case done =>
    rintro D xs W hD hS ⟨v,l,hJ⟩ C;have a:=qH hJ;have q4:W.cell? ⟨fb,0,none⟩=some (.pointer (some ⟨f,0,none⟩)):=hJ.b4.cell 0;have q0:W.cell? ⟨d,0,none⟩=some (.pointer none):=hJ.b0.cell 0;have q1:W.cell? ⟨E,0,none⟩=some (.int .i64 0):=hJ.b1.cell 0;have z0:W.frozen? ⟨d,0,none⟩=false:=hJ.b0.frozen 0;have z1:W.frozen? ⟨E,0,none⟩=false:=hJ.b1.frozen 0;clear hJ;go_wp2;have O:Upd (fun b=>b=d\/b=E) W ((W.setCell ⟨d,0,none⟩ (.pointer (some ⟨f,0,none⟩))).setCell ⟨E,0,none⟩ (.int .i64 0)):=((eA (fun b=>b=d\/b=E) W).setCell (p:=⟨d,0,none⟩) (.inl (.inl rfl)) _).setCell (p:=⟨E,0,none⟩) (.inl (.inr rfl)) _;have ab:=(a.out.b0.put 0 (.pointer (some ⟨f,0,none⟩))).far (p:=⟨E,0,none⟩) (fun e=>a3.out e) (.int .i64 0);have ac:=(a.out.b1.far (p:=⟨d,0,none⟩) (fun e=>a3.out e.symm) (.pointer (some ⟨f,0,none⟩))).put 0 (.int .i64 0);have cj:((W.setCell ⟨d,0,none⟩ (.pointer (some ⟨f,0,none⟩))).setCell ⟨E,0,none⟩ (.int .i64 0)).heap[D]?=_:=(O.block D (sC.1 C).1 (fun h=>by rcases h with h | h <;> omega)).trans C;generalize (W.setCell ⟨d,0,none⟩ (.pointer (some ⟨f,0,none⟩))).setCell ⟨E,0,none⟩ (.int .i64 0)=W2 at *;refine ⟨by simp,.inl ⟨_,_,rfl,run_takeDeferred cj,?_⟩⟩;have Z:=(eA (yB (fun _=>False) g0 W2) W2).grown (grownBy_putObj' W2 D (.deferred none)) fun k e=>.inl (by cases e;exact GE cj rfl (by omega));refine JT (R0:=d) (R1:=E) rfl rfl ((ab.it Z fun f=>f).cell 0) ((ac.it Z fun f=>f).cell 0) ?_;rw [<- b3.out];unfold sJ;have ak:YF z m (bs.drop 16)=.ok (l.map BS.rc):=PX z m _ _ (by rw [<- hS,MC,MC];exact a.out.recs)
    rw [wQ,HE.out];simp only [ak];have d5:∀ b,b=d\/b=E->∀ g,v.ownBlock=some g->g≠b:=fun b hb g hg e=>by
     subst e;rcases hb with e | e
     · subst e;exact a.out.b0.ne_own a.out.own.row (by decide) hg
     subst e;exact a.out.b1.ne_own a.out.own.row (by decide) hg
    have d6:PF W2 d f k vs z v l 0:=⟨by have:=X.out;omega,a.out.file.upd O fun e=>(by have:=X.out;omega),⟨GA a.out.own.row O fun g hg e=>d5 g e g hg rfl,fun y hy=>(a.out.own.each y hy).upd O fun b hb e=>?_⟩,⟨d7,cl⟩,a.out.len,?_,fun i h=>absurd h (RI _)⟩
    · exact ⟨f,v,l,rfl,rfl,bn ▸ (d6.it (U:=fun _=>False) ⟨fun f=>f,fun f=>f,fun f=>f,fun f=>f⟩ Z),Same.it (show Same w W2 from a.out.same.trans O fun b hb e=>by rcases e with e | e <;> omega) Z aq⟩
    · rcases e with e | e
      · have h9:OfT W 67 b:=by rw [e];exact ⟨_,a.out.b0⟩
        exact absurd (MK hb h9) (by decide)
      have h9:OfT W 30 b:=by rw [e];exact ⟨_,a.out.b1⟩
      exact absurd (MK hb h9) (by decide)
    have M:=tB List.length a.out.recs;have h2:=tB List.length hS;rw [nA,nA] at M;rw [nA,iM] at h2;omega
   rintro D c H W hD ⟨kk,hP⟩ ⟨rfl,Y,hX⟩ C;gi_wp2;refine ⟨by simp,.inl ⟨_,_,rfl,run_takeDeferred C,?_⟩⟩;have Z:=(eA (yB (fun _=>False) g0 W) W).grown (grownBy_putObj' W D (.deferred none)) fun k e=>.inl (by cases e;exact GE C rfl (by omega));refine JT (R0:=d) (R1:=E) rfl rfl ((hX.b0.it Z fun f=>f).cell 0) ((hX.b1.it Z fun f=>f).cell 0) ?_;rw [<- b3.out];unfold sJ;obtain ⟨cq,x,rs,de,df,hx⟩:=hX.ex;have ak:YF z m (bs.drop 16)=.error Y:=QX z m _ (cq.map BS.data) x.data rs Y kk (by rw [<- hP,de];simp) (by rw [MC];exact df) hx;rw [wQ,HE.out];simp only [ak];exact ⟨rfl,hX.same.it Z aq⟩
end
section
open Go.RowKit
section
variable {P:Program} {md:Region.Mode} {ops:Array Oper} {Q:Exit->Act->World->Prop} {S:World->Prop} {n:Nat}
theorem ESt.tk (i:Nat) {oi:Oper} (hi:ops[i]?=some oi) (hy:YieldsIf P ops S oi v a) (hS:S w)
 (h:ESt P md ops Q S n f (listed.setIfInBounds i true) (a.put oi.dst v) w) (hok:Region.okE md ops n=true:=by decide +kernel)
 (hf:(decide (i<n) && Region.free md ops listed i && (Region.ready md ops listed).contains i)=true:=by decide +kernel) (hQ:∀ c a w,Q (.panic c) (a.put oi.dst v) w->Q (.panic c) a w:=by exact fun _ _ _ h=>h):
 ESt P md ops Q S n (f+1) listed a w:=ESt.take hok hi hf hQ hy hS h
abbrev bC:=@ESt.tk
theorem ESt.br (i:Nat) (ho:ops[i]?=some o)
 (h:∀ K':Act->World->Prop,Shut (∀ a w,S w->(S w->ESt P md ops Q S n f (listed.setIfInBounds i true) a w)->K' a w)->if Region.wanted o (yielded ops a.tmps)=true then Oper.wp P o a w K' Q else K' (a.put o.dst undef) w)
 (hr:Region.ready md ops listed=[i]:=by decide +kernel) (b:(![i].isEmpty && [i].all fun i=>decide (i<n))=true:=by decide +kernel):ESt P md ops Q S n (f+1) listed a w :=
 tG hr b (JD ho h RD)
abbrev CD:=@ESt.br
theorem ESt.br2 (i j:Nat) {o':Oper} (ho:ops[i]?=some o) (b:ops[j]?=some o')
 (h:∀ K':Act->World->Prop,Shut (∀ a w,S w->(S w->ESt P md ops Q S n f (listed.setIfInBounds i true) a w)->K' a w)->if Region.wanted o (yielded ops a.tmps)=true then Oper.wp P o a w K' Q else K' (a.put o.dst undef) w)
 (h':∀ K':Act->World->Prop,Shut (∀ a w,S w->(S w->ESt P md ops Q S n f (listed.setIfInBounds j true) a w)->K' a w)->if Region.wanted o' (yielded ops a.tmps)=true then Oper.wp P o' a w K' Q else K' (a.put o'.dst undef) w)
 (hr:Region.ready md ops listed=[i,j]:=by decide +kernel) (c:(![i,j].isEmpty && [i,j].all fun i=>decide (i<n))=true:=by decide +kernel):ESt P md ops Q S n (f+1) listed a w :=
 tG hr c (JD ho h (JD b h' RD))
theorem ESt.fin (ho:ops[n]?=some o)
 (h:∀ K':Act->World->Prop,Shut (∀ a w,Q .normal a w->K' a w)->if Region.wanted o (yielded ops a.tmps)=true then Oper.wp P o a w K' Q else K' (a.put o.dst undef) w)
 (hr:Region.ready md ops listed=[n]:=by decide +kernel) (b:Region.ready md ops (listed.setIfInBounds n true)=[]:=by decide +kernel):ESt P md ops Q S n (f+1) listed a w:=CI hr b ho h f
abbrev bD:=@ESt.fin
end
end
end Go.Proofs.YtmkjfhnlnhceiaaGreatDoor
