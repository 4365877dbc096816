/- Texts that the claim leans on: walks and plain laws, function by function. -/
import Derived.Test.YtmkjfhnlnhceiaaGreatDoorN17
set_option maxRecDepth 100000
set_option maxHeartbeats 16000000
namespace Go.Proofs.YtmkjfhnlnhceiaaGreatDoor
open Go.RowKit
attribute [local go_sem] Ybq
def ZkX (bs:List UInt8) (w:World) (e:Ending) (w':World):Prop :=
 match ZjH bs with
 | .error er=>e=.returned (.tuple #[.pointer none,.int .i64 er])/\Same w w'
 | .ok fl=>∃ f v l,e=.returned (.tuple #[.pointer (some ⟨f,0,none⟩),.int .i64 0])/\filD fl.kind fl.version fl.size l=fl/\PF w' w.heap.size f fl.kind fl.version fl.size v l 0/\Same w w'
theorem ZkY {tmps:Array Value} {w':World} {R0 R1:Nat} {v0 v1:Value} {R:Ending->World->Prop} (h2:tmps.getD 2 undef=.pointer (some ⟨R0,0,none⟩)) (h3:tmps.getD 3 undef=.pointer (some ⟨R1,0,none⟩)) (c0:w'.cell? ⟨R0,0,none⟩=some v0) (c1:w'.cell? ⟨R1,0,none⟩=some v1) (hR:R (.returned (.tuple #[v0,v1])) w') :
 ∃ v,(results Tryz.f116 tmps).run Tryz.prog w'=.ok v w'/\R (.returned v) w':=by
 refine ⟨.tuple #[v0,v1],?_,hR⟩;simp only [YbZ] at h2 h3;simp [results,Tryz.results116,go_sem,h2,h3,c0,c1]
theorem Zmk (w:World) (m:Nat) (hm:m<=65536):(Instr.makeSlice 169 (.int .i64 0) (.int .i64 (m:Int))).run Tryz.prog w=.ok (.slice (some ⟨w.heap.size,0,none⟩) 0 m) (w.alloc (.cells (madeCells #[.slice none 0 0] m) 39)):=by obtain ⟨i,c,a⟩:=YcJ.1 Zfs;simp only [Ydm] at a;obtain ⟨d,e,f⟩:=a;have b:=run_make (P:=Tryz.prog) w 169 39 i _ Tryz.underlying169 c d .i64 .i64 0 (m:Int) (YfB _) qO (by rw [f];omega) qO;simp only [YaN,e,Yeq] at b;exact b
theorem ZuB (w:World) {m:Nat} (hm:m<=65536):ZcY (w.alloc (.cells (madeCells #[.slice none 0 0] m) 39)) w.heap.size (.slice (some ⟨w.heap.size,0,none⟩) 0 m) [] :=
 ⟨⟨rfl,.inr ⟨w.heap.size,m,_,rfl,Yae _,World.alloc_heap_new w _,Yah _,by unfold maxLen;omega,by simp [madeCells],rfl⟩⟩,fun _ h=>by cases h⟩
structure OpJ (w:World) (k vs z r0 r1 f fb sB:Nat) (v:Value) (l pre:List BS) (W:World):Prop where
 file:Blk W f 171 #[.int .i64 (k:Int),.int .i64 (vs:Int),.int .i64 (z:Int),v,.int .i64 (((l.filter fun x=>x.A.isSome).length:Nat):Int),.int .i64 0]
 own:ZcY W r0 v l
 recs:pre.map (fun x=>recP x.data)=l.map fun y=>Except.ok y.rc
 len:∀ y∈l,y.A≠none->y.data.length+1=z
 b0:Blk W r0 67 #[.pointer none]
 b1:Blk W r1 30 #[.int .i64 0]
 b4:Blk W fb 67 #[.pointer (some ⟨f,0,none⟩)]
 same:Same w W
 ns:v.ownBlock≠some sB
structure OpI (w:World) (k vs z r0 r1 f fb sB:Nat) (pre:List BS) (W:World):Prop where
 ex:∃ v l,OpJ w k vs z r0 r1 f fb sB v l pre W
theorem Blk.obj {W:World} {g l:Nat} {t:TypeId} {cs:Array Value} {o:Obj} (h:Blk W g t cs) (ho:W.heap[l]?=some o) (hc:o.isCells=false) (o':Obj):Blk (W.putObj l o') g t cs :=
 h.upd ((Yaa (fun b=>b=l) W).grown (grownBy_putObj' W l o') fun k e=>.inl (by injection e with e;exact e.symm)) fun e=>by
  subst e;unfold Blk at h;rw [ho] at h;injection h with h
  subst h;cases hc
theorem Zag.obj {W:World} {r l n c:Nat} {A:Option Addr} {bs:List UInt8} (h:Zag W (fun b=>b<r) A n c bs) (hl:r<=l) (o':Obj):Zag (W.putObj l o') (fun b=>b<r) A n c bs :=
 Zag.upd h ((Yaa (fun b=>b=l) W).grown (grownBy_putObj' W l o') fun k e=>.inl (by injection e with e;exact e.symm)) fun b a e=>qO
theorem OpJ.it {w:World} {k vs z r0 r1 f fb sB m:Nat} {v:Value} {l pre:List BS} {W W':World} (h:OpJ w k vs z r0 r1 f fb sB v l pre W) (hm:w.heap.size<=m) (hu:Upd (Zao (fun _=>False) m W) W W'):OpJ w k vs z r0 r1 f fb sB v l pre W' :=
 ⟨h.file.it hu fun f=>f,h.own.it hu (fun f=>f) fun f=>f,h.recs,h.len,h.b0.it hu fun f=>f,h.b1.it hu fun f=>f,h.b4.it hu fun f=>f,h.same.it hu hm,h.ns⟩
theorem OpJ.next {w:World} {k vs z r0 r1 f fb sB:Nat} {v v':Value} {l pre:List BS} {W W1:World} (hJ:OpJ w k vs z r0 r1 f fb sB v l pre W) (hr0:w.heap.size=r0) (hf0:r0<=f) (x b:BS) (hr:recP x.data=.ok b.rc) (hlen:b.A≠none->b.data.length+1=z)
 (hf:Blk W1 f 171 #[.int .i64 (k:Int),.int .i64 (vs:Int),.int .i64 (z:Int),v',.int .i64 ((((l++[b]).filter fun x=>x.A.isSome).length:Nat):Int),.int .i64 0]) (ho:W1.ownsRow r0 39 1 v' (l.length+1) (l.map BS.cell++[b.cell])) (hb:Zau W1 r0 b)
 (hu:Upd (fun b=>b=f\/v.ownBlock=some b) W W1) (hns:v'.ownBlock≠some sB):OpJ w k vs z r0 r1 f fb sB v' (l++[b]) (pre++[x]) W1:=by
 have c:∀ {g:Nat} {t:TypeId} {cs:Array Value},Blk W g t cs->t≠171->39≠t->¬ (g=f\/v.ownBlock=some g):=fun d j m e=>e.elim (fun e=>d.ne hJ.file j e) (fun e=>d.ne_own hJ.own.row m e);refine ⟨hf,⟨?_,fun y a=>?_⟩,?_,fun y a h=>?_,hJ.b0.upd hu (c hJ.b0 qD qD),hJ.b1.upd hu (c hJ.b1 qD qD),hJ.b4.upd hu (c hJ.b4 qD qD),hJ.same.trans hu fun b hb e=>?_,hns⟩
 · rw [Yaf,YaG];exact ho
 · rcases YaR.1 a with a | a
   · refine (hJ.own.each y a).upd hu fun b hb e=>?_;rcases e with e | e
     · have i:OfT W 171 b:=by rw [e];exact ⟨_,hJ.file⟩
       exact absurd (YdJ hb i) qD
     exact absurd (YdJ hb (Zaf hJ.own.row e)) qD
   have:y=b:=by simpa using a
   subst this;exact hb
 · rw [YaG,YaG,hJ.recs];simp [hr]
 · rcases YaR.1 a with a | a
   · exact hJ.len y a h
   have:y=b:=by simpa using a
   subst this;exact hlen h
 rcases e with e | e
 · omega
 have:=(hJ.own.row.lt b e).1;omega
structure OpX (w:World) (r0 r1:Nat) (pre:List BS) (er:Int) (W:World):Prop where
 ex:∃ (pre':List BS) (x:BS) (rs:List (Option (List UInt8))),pre=pre'++[x]/\pre'.map (fun x=>recP x.data)=rs.map Except.ok/\recP x.data=.error er
 b0:Blk W r0 67 #[.pointer none]
 b1:Blk W r1 30 #[.int .i64 er]
 same:Same w W
theorem ZhM {F:Nat->Prop} {A:Option Addr} {n c:Nat} {bs:List UInt8} (w:World) (hb:Zag w F A n c bs) (hn:n<=140737488355328) (hN:Nib w):Calls Tryz.prog 116 #[.slice A n c] w (ZkX bs w):=by
 have HH:=qH fun P (hs:Same w P)=>Zmh P (hb.same hs) hn (hN.same hs);have HB:=qH hb;clear hb hN;have HO:Hid (∀ e w',ZkX bs w e w'↔ZkX bs w e w'):=qH fun _ _=>Iff.rfl;generalize cm:ZkX bs w=OR at HO ⊢;have b3:=qH cm;clear cm HO;refine (YaO (n:=5)).1 ?_;refine callsIn_of_wp_marks Tryz.func116 rfl trivial ?_ rfl;simp only [Tryz.ntmps116,YbV,Yao,YaS,Nat.reduceAdd,Nat.reduceSub,Yda,Ydb,Ydc,Ydd,YaK,YaE];refine YcT.2 ?_;go_upto_region 1 with fail;have b5:Hid (Same w ((w.alloc (.cells #[.pointer none] 67)).alloc (.cells #[.int .i64 0] 30))):=qH (((Yaa _ w).alloc _).alloc _);have a9:Hid (Blk ((w.alloc (.cells #[.pointer none] 67)).alloc (.cells #[.int .i64 0] 30)) w.heap.size 67 #[.pointer none]):=qH ((Yad w _ _).same ((Yaa _ _).alloc _));have aa:Hid (Blk ((w.alloc (.cells #[.pointer none] 67)).alloc (.cells #[.int .i64 0] 30)) (w.heap.size+1) 30 #[.int .i64 0]):=qH (by have L:=Yad (w.alloc (.cells #[.pointer none] 67)) 30 #[.int .i64 0];rwa [show (w.alloc (.cells #[.pointer none] 67)).heap.size=w.heap.size+1 from Yav _ _] at L)
 generalize ((w.alloc (.cells #[.pointer none] 67)).alloc (.cells #[.int .i64 0] 30))=w1 at *;have HC:=qH (HH.out w1 b5);have a3:Hid (w.heap.size≠w.heap.size+1):=qH qO;generalize dx:w.heap.size+1=H at *;generalize bn:w.heap.size=s at *;unfold Zid at HC;cases hH:Zdy bs with
 | error Y =>
   rw [hH] at HC;have HE:=qH hH;have dk:(Y != 0)=true:=Ybh.2 (Zmi hH);clear hH;go_wp2_with fail;refine HC.mono ?_;rintro e w2 ⟨fp,cv,rfl,al⟩;have V:=al.alloc (.cells #[.pointer fp] 67);have an:=qH (b5.trans V fun _ _ f=>f.elim);have H0:=qH (a9.same V);have H1:=qH (aa.same V);clear al a9 aa;go_upto_region 2 with fail;generalize w2.alloc (.cells #[.pointer fp] 67)=O at *;have q0:=H0.c0;have q1:=H1.c0;have z0:=H0.frozen 0;have z1:=H1.frozen 0;clear V;go_wp2;have ab:=((H0.put 0 (.pointer none)).far (p:=⟨H,0,none⟩) (fun e=>a3.out e) (.int .i64 Y)).cell 0;have ac:=((H1.far (p:=⟨s,0,none⟩) (fun e=>a3.out e.symm) (.pointer none)).put 0 (.int .i64 Y)).cell 0;refine ZkY (R0:=s) (R1:=H) rfl rfl ab ac ?_;rw [<- b3.out];unfold ZkX;rw [Zfy,HE.out];exact ⟨rfl,YaY (YaY an qO _) qO _⟩
 | ok q =>
   obtain ⟨k,vs,z,m⟩:=q;rw [hH] at HC;have HE:=qH hH;obtain ⟨hl,d9,cn,bp,dz,e0⟩:=Ztl hH;have ad:Hid (n=16+m*z):=qH (by rw [<- HB.len,hl]);clear hH hl;go_wp2_with fail;refine HC.mono ?_;rintro e w2 ⟨f,rfl,hf,bq,al⟩;have V:=al.alloc (.cells #[.pointer (some ⟨f,0,none⟩)] 67);have an:=qH (b5.trans V fun _ _ f=>f.elim);have H0:=qH (a9.same V);have H1:=qH (aa.same V);have bv:=qH (bq.same ((Yaa (fun _=>False) w2).alloc (.cells #[.pointer (some ⟨f,0,none⟩)] 67)));have a4:=qH (Yad w2 67 #[.pointer (some ⟨f,0,none⟩)]);have b6:Hid (s<w1.heap.size):=qH a9.lt;have X:Hid (H<w1.heap.size/\w1.heap.size<=f):=qH ⟨aa.lt,hf⟩;have bw:Hid (f<w2.heap.size):=qH bq.lt;clear al a9 aa bq hf HC HH;go_upto_region 2 with fail;generalize w2.alloc (.cells #[.pointer (some ⟨f,0,none⟩)] 67)=O at *;generalize w2.heap.size=fb at *;have q4:=a4.c0;clear V;go_upto_region 4 with fail;have s0:Same O O.drew:=(Yaa _ O).drew;have bx:=a4.same s0;refine wp_region_noPanic ?_;refine Zaj 5 (fun P=>P.cell? ⟨fb,0,none⟩=some (.pointer (some ⟨f,0,none⟩))) (by kernel_rfl) (bx.cell 0) (fun d=>?_)
   repeat
    first
     | refine Yan (v:=?_) 0 rfl ?_ ?_
     | refine Yan (v:=?_) 1 rfl ?_ ?_
    rotate_left
    · intro P E;have h0:=E;go_simp;try with_reducible rfl
    simp only [Act.put,Yal,YaA,Yaz,Yaw,Yam,Yap]
   refine Yci (rs:=[2]) (by decide +kernel) (by decide +kernel) ?_;refine Ybx rfl (fun K C=>?_) YbA;have bz:=Zmk O.drew m bp;refine Zmc rfl (.const (.int .i64 0)) (.tmp 18) _ rfl rfl rfl bz ?_;have sA:=s0.alloc (.cells (madeCells #[.slice none 0 0] m) 39);have c1:=qH (ZuB O.drew bp);have c3:Hid (O.drew.heap.size=O.heap.size):=qH rfl;have c4:=a4.same sA;refine C _ _ (c4.cell 0) (fun d=>?_);clear C K bz;simp only [Act.put,Yal,YaA,Yaz,Yaw,Yam,Yap]
   repeat
    first
     | refine Yan (v:=?_) 3 rfl ?_ ?_
     | refine Yan (v:=?_) 4 rfl ?_ ?_
    rotate_left
    · intro P E;have h0:=E;go_simp;try with_reducible rfl
    simp only [Act.put,Yal,YaA,Yaz,Yaw,Yam,Yap]
   refine YcO (by decide +kernel) (by decide +kernel) rfl (fun K C=>?_) _;have ao:=bv.same sA;have r3:=ao.cell 3;have z3:=ao.frozen 3;generalize O.drew.alloc (.cells (madeCells #[.slice none 0 0] m) 39)=w4 at *;go_simp;refine C _ _ ?_;clear C K r3 z3 d bx c4 s0 q4;have ae:=ao.put 3 (.slice (some ⟨O.heap.size,0,none⟩) 0 m);simp only [Yal,Yap,Yam] at ae;have b7:=qH ae;have ap:Hid (fb<O.heap.size/\s<O.heap.size/\H<O.heap.size):=qH ⟨a4.lt,H0.lt,H1.lt⟩;have a5:=(Yaa (fun b=>b=f) w4).put1 (i:=3) (.slice (some ⟨O.heap.size,0,none⟩) 0 m);have b8:Hid (Same w (w4.setCell ⟨f,3,none⟩ (.slice (some ⟨O.heap.size,0,none⟩) 0 m))):=qH ((an.trans sA fun _ _ f=>f.elim).trans a5 fun b hb e=>qh X);have b9:Hid (ZcY (w4.setCell ⟨f,3,none⟩ (.slice (some ⟨O.heap.size,0,none⟩) 0 m)) s (.slice (some ⟨O.heap.size,0,none⟩) 0 m) []):=qH
    ⟨Zae (Zac c1.row (by have:=ap.out;have:=c3.out;omega)) a5 fun g hg e=>by have hg:O.heap.size=g:=Yax hg;have:=ap.out;have:=bw.out;omega,fun _ h=>by cases h⟩
   have c5:=qH ((H0.same sA).upd a5 fun e=>by have:=X.out;have:=b6.out;omega);have c6:=qH ((H1.same sA).upd a5 fun e=>qh X);have ba:=qH ((a4.same sA).upd a5 fun e=>qh bw);have bb:Hid (O.heap.size<(w4.setCell ⟨f,3,none⟩ (.slice (some ⟨O.heap.size,0,none⟩) 0 m)).heap.size):=qH (by have L:=(b9.row.lt O.heap.size rfl).2;exact L)
   generalize w4.setCell ⟨f,3,none⟩ (.slice (some ⟨O.heap.size,0,none⟩) 0 m)=w5 at *;clear ao ae a5 sA c1 c3 bv H0 H1 a4 an;generalize dy:O.heap.size=vb at *;have c8:=qH (Zag.rest HB (j:=16) (qh ad));have q4:=ba.c0;have q2:=b7.c2;obtain ⟨A',am⟩:∃ A',(if c=16 then A else A.map (·.add 16))=A':=⟨_,rfl⟩
   have az:Hid (Zag w F A' (n-16) (c-16) (bs.drop 16)):=qH (by rw [<- am];exact c8);have bc:=qH fun P (hs:Same w5 P)=>(ZpF P A' (n-16) (c-16) z qO).mono fun e w' ⟨L,h2,h3,h4⟩=>(show (∃ S nB:Nat,e=Ending.returned (.func (.func 191) #[] #[.pointer (some ⟨S,0,none⟩),.pointer (some ⟨nB,0,none⟩)])/\Hid (Blk w' S 39 #[.slice A' (n-16) (c-16)])/\Hid (Blk w' nB 3 #[.int .i64 (z:Int)])/\Hid (Same w5 w')/\Hid (w5.heap.size<=S/\w5.heap.size<=nB)) from
    ⟨_,_,L,qH h2,qH h3,qH (hs.trans h4 fun _ _ f=>f.elim),qH ⟨hs.size,qt hs.size⟩⟩)
   have di:16<=n/\n<=c:=⟨qh ad,Row.le HB⟩
   clear c8;refine NoPanic.normal ?_;go_upto_region 5 with fail;go_cut [28] from 22 to 28 (fun da P=>∃ S nB:Nat,da=.func (.func 191) #[] #[.pointer (some ⟨S,0,none⟩),.pointer (some ⟨nB,0,none⟩)]/\Hid (Blk P S 39 #[.slice A' (n-16) (c-16)])/\Hid (Blk P nB 3 #[.int .i64 (z:Int)])/\Hid (Same w5 P)/\Hid (w5.heap.size<=S/\w5.heap.size<=nB))
   case first =>
    by_cases bd:c=16
    · rw [Yac bd] at am;subst am;subst bd;have ca:n=16:=qO;clear ad;subst ca;refine wp_region_noPanic ?_;go_region_with (go_at_call 162;refine (bc.out _ (by first | exact Yaa _ _ | exact (Yaa _ _).drew | exact (Yaa _ _).drewN _)).mono ?_;rintro e w6 ⟨S,nB,rfl,g1,g2,g3,g4⟩)
      all_goals go_wp2_with fail
      all_goals refine NoPanic.normal ?_
      all_goals go_wp2
      all_goals go_meet
      all_goals exact ⟨_,_,rfl,g1,g2,g3,g4⟩
    rw [Yab bd] at am;subst am;refine wp_region_noPanic ?_;go_region_with (go_at_call 162;refine (bc.out _ (by first | exact Yaa _ _ | exact (Yaa _ _).drew | exact (Yaa _ _).drewN _)).mono ?_;rintro e w6 ⟨S,nB,rfl,g1,g2,g3,g4⟩)
    all_goals go_wp2_with fail
    all_goals refine NoPanic.normal ?_
    all_goals go_wp2
    all_goals go_meet
    all_goals exact ⟨_,_,rfl,g1,g2,g3,g4⟩
   obtain ⟨S,nB,rfl,G1,G2,G3,G4⟩:=hcut;have ct:Hid (OpI w k vs z s H f fb S [] wc):=qH
    ⟨_,[],⟨b7.same G3,b9.same G3,rfl,by simp,c5.same G3,c6.same G3,ba.same G3,b8.trans G3 fun _ _ f=>f.elim,fun e=>by have e:vb=S:=Yax e;have:=G4.out;have:=bb.out;omega⟩⟩
   have cu:=qH (((az.mono (F':=fun b=>b<s) fun b hb _=>qO).same b8).same G3);have cw:=qH (Zrl 4 qO wc cu.out ⟨qO,cn⟩ (show n-16=m*z by have:=ad.out;omega) bp G1.out G2.out);clear q2 q4 b7 b9 c5 c6 ba b8 bc az;go_wp2_with fail;refine (YcT (n:=5)).1 ?_;have dl:S<wc.heap.size/\nB<wc.heap.size:=⟨G1.lt,G2.lt⟩
   have dm:s<wc.heap.size:=by have:=ap.out;have:=bb.out;have:=G3.size;omega
   have dn:H<wc.heap.size:=by have:=ap.out;have:=bb.out;have:=G3.size;omega
   generalize bo:wc.heap.size=g0 at *;have aq:w.heap.size<=g0:=qO;refine Zer (T:=fun _=>False) rfl qO (gf:=191) (lb:=#[.pointer (some ⟨S,0,none⟩),.pointer (some ⟨nB,0,none⟩)]) rfl trivial (enters_of Tryz.func191 (by kernel_rfl) rfl) cw.out
    (fun L h2=>⟨fun h=>h2.1 (L.1 h),fun h=>h2.2.1 (L.2.1 h),fun h=>h2.2.2 (L.2.2 h)⟩)
    (fun x W l o o' hl ho hc=>⟨fun h=>Zag.obj h qO o',fun h=>h.obj ho hc o',fun h=>h.obj ho hc o'⟩) (YdX _ _) (fun _=>rfl)
    (fun G W=>OpI w k vs z s H f fb S G W)
    (fun c G W=>c=.ret/\∃ Y,OpX w s H G Y W)
    (fun G W W' ⟨v,l,h⟩ N=>⟨v,l,h.it aq (bo ▸ N)⟩)
    (fun c G W W' ⟨L,Y,h⟩ N=>⟨L,Y,h.ex,h.b0.it N fun f=>f,h.b1.it N fun f=>f,h.same.it N (bo ▸ aq)⟩)
    ct
    (fun G x a' W=>a'={ tmps:=#[.slice A n c,undef,.pointer (some ⟨s,0,none⟩),.pointer (some ⟨H,0,none⟩),.pointer (some ⟨fb,0,none⟩),.int .i64 (m:Int),.int .i64 0,.slice x.A x.n x.c,
      .tuple #[.pointer (some ⟨f,0,none⟩),.int .i64 (m:Int),.int .i64 0],.slice A n c,.tuple #[.pointer (some ⟨f,0,none⟩),.int .i64 (m:Int),.int .i64 0],.pointer (some ⟨f,0,none⟩),.int .i64 (m:Int),.int .i64 0,.int .i64 0,.bool false,undef,.pointer (some ⟨f,0,none⟩),.int .i64 (m:Int),.slice (some ⟨vb,0,none⟩) 0 m,.pointer (some ⟨f,0,none⟩),.pointer (some ⟨f,3,none⟩),u22,u23,u24,u25,u26,u27,
      .func (.func 191) #[] #[.pointer (some ⟨S,0,none⟩),.pointer (some ⟨nB,0,none⟩)],.slice x.A x.n x.c,undef,undef,undef,undef,undef,undef,undef,undef,undef,undef,undef,undef,undef,undef,undef,undef,undef,undef,undef,undef,undef,undef,undef,undef,undef,undef,undef,undef,undef,undef,undef,undef,undef,undef,undef,undef,undef,undef,undef,undef,undef,undef],defers:=[] }/\ChR (Zbn z m (bs.drop 16)) (fun b=>b<s) G x W)
    (fun G x a' W l o o' hl ho hc h=>⟨h.1,h.2.at_,Zag.obj h.2.row qO o'⟩) ?assign ?body ?done ?stop
   case assign =>
    intro l G x W K hi hr C;dsimp only [BS.argC];gi_wp2;exact C _ _ (KeepsFrom.refl _ _) ⟨id,id,id⟩ hi ⟨rfl,hr⟩
   case body =>
    rintro lp G x a' W hl co ⟨v,l,hJ⟩ ⟨rfl,hX⟩;have a:=qH hJ;have af:x.data.length=z:=by have L:=hX.at_;have h2:=(Yaq.1 L).1;rw [Zcy] at h2;rw [Zhf z m _ _ h2] at L;rw [<- Yax L,YaJ,Yas,Yas];have h3:(G.length+1)*z<=m*z:=Ycy z h2;rw [Ycn] at h3;have h4:=ad.out;have h5:=HB.len;omega
    have dp:x.data.length=x.n:=Yct hX.row;obtain ⟨y,t,br⟩:∃ y t,x.data=y::t:=by
     cases hd:x.data with
     | nil=>rw [hd] at af;simp at af;omega
     | cons y t=>exact ⟨y,t,rfl⟩
    obtain ⟨xb,xo,bt,dj,db,dc⟩:=Zag.at_ hX.row (i:=0) qO;have ar:x.data[0]'(qO)=y:=by simp [br]
    rw [ar,YbW] at dc;have HX:=qH hX;have R:=qH br;have cb:=qH bt;have ag:x.n=z:=qO;rw [bt,ag];have j1:(1:Int)<=(z:Int):=qO;have q0:=hJ.b0.c0;have q1:=hJ.b1.c0;have z0:=hJ.b0.frozen 0;have z1:=hJ.b1.frozen 0;have q4:=hJ.b4.c0;have cc:Hid (∀ (Y:Int),recP x.data=.error Y->KeepsFrom g0 W ((W.setCell ⟨s,0,none⟩ (.pointer none)).setCell ⟨H,0,none⟩ (.int .i64 Y))/\∃ er',OpX w s H (G++[x]) er' ((W.setCell ⟨s,0,none⟩ (.pointer none)).setCell ⟨H,0,none⟩ (.int .i64 Y))):=qH fun Y dd=>by have N:Upd (fun b=>b=s\/b=H) W ((W.setCell ⟨s,0,none⟩ (.pointer none)).setCell ⟨H,0,none⟩ (.int .i64 Y)):=((Yaa (fun b=>b=s\/b=H) W).setCell (p:=⟨s,0,none⟩) (.inl (.inl rfl)) _).setCell (p:=⟨H,0,none⟩) (.inl (.inr rfl)) _;have ab:=(a.b0.put 0 (.pointer none)).far (p:=⟨H,0,none⟩) (fun e=>a3.out e) (.int .i64 Y);have ac:=(a.b1.far (p:=⟨s,0,none⟩) (fun e=>a3.out e.symm) (.pointer none)).put 0 (.int .i64 Y);refine ⟨Zah N fun k hk hB o ho=>by rcases hk with hk | hk <;> omega,Y,⟨G,x,l.map BS.rc,rfl,by rw [Ybf];exact a.recs,dd⟩,ab,ac,a.same.trans N fun b hb e=>by rcases e with e | e <;> omega⟩
    clear hJ hX br bt db;by_cases bf:1<y.toNat
    · have l1:¬ (y.toNat:Int)<=1:=qO;have hE:=cc.out 93 (by rw [R.out];exact ZuA bf);have ah:=qH hE;clear hE;gi_wp2;exact ⟨ah.1,rfl,ah.2⟩
    have l1:(y.toNat:Int)<=1:=qO;have s0:Same W W.drew:=(Yaa _ W).drew;have cx:l.length<=65536:=by have L:=YaC List.length a.recs;rw [Yag,Yag] at L;have h2:=(Yaq.1 HX.at_).1;rw [Zcy] at h2;omega
    obtain ⟨VA,Vc,hv⟩:=Zad a.own.row;have HV:=qH hv;have q3:W.cell? ⟨f,3,none⟩=some (.slice VA l.length Vc):=by rw [<- hv];exact a.file.cell 3
    by_cases bf:y.toNat=1
    · have l2:(y.toNat:Int)=1:=qO;have ai:Zag W (fun b=>b<s) (some ⟨xb,xo+1,none⟩) (z-1) (x.c-1) t:=by have L:=Zag.rest HX.row (j:=1) qO;have h2:x.n<=x.c:=Row.le HX.row;rw [Yab qO,cb.out,Ybw,Zfl,ag,R.out] at L;exact L
      have cy:=qH ai;have bg:=qH (show recP x.data=.ok (some t) by rw [R.out];exact Ztm bf);have dq:(z:Int)<=(x.c:Int):=by have h2:x.n<=x.c:=Row.le HX.row;omega
      have cd:¬ x.c=1:=qO;clear ai hv;gi_wp2_with fail;refine ZdG ?_;refine Zar 12 (fun P=>P.cell? ⟨fb,0,none⟩=some (.pointer (some ⟨f,0,none⟩))/\P.cell? ⟨f,3,none⟩=some (.slice VA l.length Vc)) (by kernel_rfl) (by kernel_rfl) (Ycc fun _ _ h=>h) ⟨(a.b4.same s0).cell 0,by rw [<- HV.out];exact (a.file.same s0).cell 3⟩ (fun d=>?_)
      repeat
       first
        | refine Yan (v:=?_) 0 rfl ?_ ?_
        | refine Yan (v:=?_) 1 rfl ?_ ?_
        | refine Yan (v:=?_) 2 rfl ?_ ?_
        | refine Yan (v:=?_) 3 rfl ?_ ?_
        | refine Yan (v:=?_) 4 rfl ?_ ?_
        | refine Yan (v:=?_) 5 rfl ?_ ?_
        | refine Yan (v:=?_) 6 rfl ?_ ?_
       rotate_left
       · intro P E;have h0:=E.1;have L:=E.2;go_simp;try with_reducible rfl
       simp only [Act.put,Yal,YaA,Yaz,Yaw,Yam,Yap]
      refine Yci (rs:=[7]) (by decide +kernel) (by decide +kernel) ?_;refine Ybx rfl (fun K C=>?_) YbA;go_simp
      try rw [Yab cd]
      refine (Zcv W.drew (Zag.same cy s0) qO).mono ?_;rintro e wd ⟨v7,rfl,bu,cp⟩;obtain ⟨A7,c7,rfl⟩:=Zad bu;have ce:=qH bu;have bh:=qH (s0.trans cp fun _ _ f=>f);clear bu cp;go_wp2_with fail;refine C _ _ ⟨(a.b4.same bh).cell 0,by rw [<- HV.out];exact (a.file.same bh).cell 3⟩ (fun d=>?_);clear C K
      try simp only [Act.put,Yal,YaA,Yaz,Yaw,Yam,Yap]
      refine Yci (rs:=[8]) (by decide +kernel) (by decide +kernel) ?_;refine Ybx rfl (fun K C=>?_) YbA;go_simp;have u:=qH (bh.alloc (.cells #[.slice A7 t.length c7] 39));have bi:=qH (Yad wd 39 #[.slice A7 t.length c7]);have dr:=qH (Yav wd (.cells #[.slice A7 t.length c7] 39));have cz:=qH (Zaa ce ((Yaa (fun _=>False) wd).alloc (.cells #[.slice A7 t.length c7] 39)));generalize wd.alloc (.cells #[.slice A7 t.length c7] 39)=we at *;refine C _ _ ⟨(a.b4.same u).cell 0,by rw [<- HV.out];exact (a.file.same u).cell 3⟩ (fun d=>?_);clear C K
      try simp only [Act.put,Yal,YaA,Yaz,Yaw,Yam,Yap]
      refine Yci (rs:=[9]) (by decide +kernel) (by decide +kernel) ?_;refine Ybx rfl (fun K C=>?_) YbA;refine Zfm rfl (.tmp 53) (.tmp 57) _ _ rfl s 39 1 24 _ Tryz.underlying169 Zfs rfl (.slice VA l.length Vc) l.length (l.map BS.cell) rfl (Zaa (HV.out ▸ a.own.row) u) rfl (Zbg Tryz.underlying169 (Ycb bi (k:=1) (n:=1) (c:=1) rfl (Yae _) (by simp [maxLen])) (by simp [Value.oneCell'])) (by unfold maxLen;omega) qO (by have:=u.size;have:=a.b0.lt;omega) ?_;intro v9 w9 I;have B:=a.own.row;rw [HV.out] at B;have au:=qH (ZbC (i:=3) a.file B qD u.out I);have n4:fb≠f:=a.b4.ne a.file qD;have M:=(a.b4.same u).upd I.upd fun e=>a.b4.ne_own B qD e;have a1:=I.blk (a.file.same u) (a.file.ne_own B qD);have r3:=a1.cell 3;have z3:=a1.frozen 3;obtain ⟨A9,n9,c9,rfl⟩:=ZaI I.own;rw [HV.out] at r3;have aj:=qH I;clear I a1;refine C.out _ _ ⟨M.cell 0,r3⟩ (fun d=>?_);clear C K
      try simp only [Act.put,Yal,YaA,Yaz,Yaw,Yam,Yap]
      repeat
       first
        | refine Yan (v:=?_) 10 rfl ?_ ?_
        | refine Yan (v:=?_) 11 rfl ?_ ?_
       rotate_left
       · intro P E;have h0:=E.1;have L:=E.2;go_simp;try with_reducible rfl
       simp only [Act.put,Yal,YaA,Yaz,Yaw,Yam,Yap]
      refine YcO (by decide +kernel) (by decide +kernel) rfl (fun K C=>?_) _;go_simp;refine C.out _ _ ?_;clear C K r3 z3 d M;obtain ⟨a0,a8,a2⟩:=au.out;have av:=qH a0;have bj:=qH a8;have cf:=qH a2;have d0:∃ a7,A7=some a7:=by
       cases h7:A7 with
       | some a7=>exact ⟨a7,rfl⟩
       | none =>
         have h8:=Yca ce.out;have h9:=Row.nil h8 h7;have cg:=Row.le h8;have bk:t.length+1=z:=by rw [<- af,R.out];rfl
         omega
      have ds:=qH d0;have M:=a.b4.upd a2 fun e=>e.elim n4 fun e=>a.b4.ne_own B qD e;have ch:Hid (Upd (fun b=>b=f\/(Value.slice VA l.length Vc).ownBlock=some b) we (w9.setCell ⟨f,3,none⟩ (.slice A9 n9 c9))):=qH ((aj.upd.mono fun _ _ h=>.inr h).setCell (p:=⟨f,3,none⟩) (.inl (.inl rfl)) _);have bl:Hid (∀ W3,Upd (fun b=>b=f\/v.ownBlock=some b) W W3->KeepsFrom g0 W W3/\((Zag W (fun b=>b<s) A' (n-16) (c-16) (bs.drop 16)->Zag W3 (fun b=>b<s) A' (n-16) (c-16) (bs.drop 16))/\(Blk W S 39 #[.slice A' (n-16) (c-16)]->Blk W3 S 39 #[.slice A' (n-16) (c-16)])/\(Blk W nB 3 #[.int .i64 (z:Int)]->Blk W3 nB 3 #[.int .i64 (z:Int)]))):=qH fun W3 N=>by
       refine ⟨Zah N fun k hk hB o ho=>?_,fun h=>Zag.upd h N fun b hb e=>?_,fun h=>h.upd N fun e=>?_,fun h=>h.upd N fun e=>?_⟩
       · rcases hk with hk | hk
         · exact YeD ⟨_,by rw [hk];exact a.file⟩ ho
         exact YeD (Zaf a.own.row hk) ho
       · rcases e with e | e
         · have:=X.out;omega
         have:=(a.own.row.lt b e).1;omega
       · rcases e with e | e
         · exact h.ne a.file qD e
         exact a.ns e
       rcases e with e | e
       · exact h.ne a.file qD e
       exact h.ne_own a.own.row qD e
      refine NoPanic.normal ?_;have dt:=M.c0;have d1:=a0.cell 4;have du:=a0.frozen 4;generalize w9.setCell ⟨f,3,none⟩ (.slice A9 n9 c9)=wA at *;simp only [Yal,Yap,Yam,Ybj,Ybd,YaW] at d1;have dv:(l.filter fun x=>x.A.isSome).length<=65536:=Yaj (Yez _ _) cx;have dw:IntKind.i64.wrap (((l.filter fun x=>x.A.isSome).length:Int)+1)=((l.filter fun x=>x.A.isSome).length:Int)+1:=YbO _ ⟨qO,qO⟩;clear a0 a8 a2 M au;gi_wp2;have a6:Upd (fun b=>b=f\/v.ownBlock=some b) W (wA.setCell ⟨f,4,none⟩ (.int .i64 (((l.filter fun x=>x.A.isSome).length:Int)+1))):=by rw [HV.out];exact cf.setCell (p:=⟨f,4,none⟩) (.inl (.inl rfl)) _
      have ci:=(Yaa (fun b=>b=f) wA).put1 (i:=4) (.int .i64 (((l.filter fun x=>x.A.isSome).length:Int)+1));have cj:=av.put 4 (.int .i64 (((l.filter fun x=>x.A.isSome).length:Int)+1));simp only [Yal,Yap,Yam] at cj;have d2:=Zae bj.out ci fun g hg e=>av.ne_own bj.out qD (e ▸ hg);obtain ⟨ax,ay⟩:=bl.out _ a6;obtain ⟨b,de,cq,cr,hb⟩:=Zau.row cz.out (by
       have bk:t.length+1=z:=by rw [<- af,R.out];rfl
       omega)
      have d3:Zau (wA.setCell ⟨f,4,none⟩ (.int .i64 (((l.filter fun x=>x.A.isSome).length:Int)+1))) s b:=by
       refine ((hb.base (show s<=W.drew.heap.size from Nat.le_of_lt a.b0.lt)).upd ch.out fun g hg e=>?_).upd ci fun g hg e=>?_
       · rcases e with e | e
         · have h9:OfT we 171 g:=by rw [e];exact ⟨_,a.file.same u.out⟩
           exact absurd (YdJ hg h9) qD
         exact absurd (YdJ hg (Zaf (Zaa B u) e)) qD
       have h9:OfT wA 171 g:=by rw [e];exact ⟨_,av⟩
       exact absurd (YdJ hg h9) qD
      have bm:((l++[b]).filter fun x=>x.A.isSome).length=(l.filter fun x=>x.A.isSome).length+1:=by
       rw [YcX,Yaf];congr 1;cases h:b.A with
       | none=>exact absurd h cr
       | some _=>simp [h]
      refine ⟨ax,ay,⟨.slice A9 n9 c9,l++[b],a.next bn (qh X) x b ?_ ?_ ?_ ?_ d3 a6 ?_⟩⟩
      · rw [bg.out];unfold BS.rc;cases h:b.A with
        | none=>exact absurd h cr
        | some _=>rw [cq]
      · intro _;rw [cq,<-af,R.out];rfl
      · rw [bm,Ygn];exact cj
      · rw [show b.cell=_ from de.symm];exact d2
      obtain ⟨r,hr⟩:=co;have cg:=(YaX.1 hr).1;have bk:=u.size;rcases aj.block with e | ⟨g,e,df⟩
      · rw [e,<-HV.out];exact a.ns
      rw [e];intro e2;have:=Yax e2;omega
    have ar:y.toNat=0:=qO;have l2:¬ (y.toNat:Int)=1:=qO;have b2:Zag W (fun b=>b<s) (some ⟨xb,xo,none⟩) z x.c x.data:=by have h:=HX.row;rw [cb.out,ag] at h;exact h
    have aw:=qH (Zhd W b2);clear b2;cases hfr:ZdE x.data with
    | false =>
      have hE:=cc.out 94 (by rw [R.out];exact Ztn ar (by rw [<- R.out];exact hfr));have ah:=qH hE;rw [hfr] at aw;clear hE hfr;gi_wp2_with (refine ⟨trivial,?_⟩;gi_at_call 163;refine (CallsIn.inRound lp (YaO.2 aw)).mono ?_;rintro e5 w5 ⟨rfl,rfl⟩);exact ⟨by rw [bo];exact ah.1,rfl,ah.2⟩
    | true =>
      have bg:=qH (show recP x.data=.ok none by rw [R.out];exact Zrx ar (by rw [<- R.out];exact hfr));rw [hfr] at aw;clear hfr hv;gi_wp2_with (refine ⟨trivial,?_⟩;gi_at_call 163;refine (CallsIn.inRound lp (YaO.2 aw)).mono ?_;rintro e5 w5 ⟨rfl,rfl⟩);refine ZdG ?_;refine Zar 9 (fun P=>P.cell? ⟨fb,0,none⟩=some (.pointer (some ⟨f,0,none⟩))/\P.cell? ⟨f,3,none⟩=some (.slice VA l.length Vc)) (by kernel_rfl) (by kernel_rfl) (Ycc fun _ _ h=>h) ⟨(a.b4.same s0).cell 0,by rw [<- HV.out];exact (a.file.same s0).cell 3⟩ (fun d=>?_)
      repeat
       first
        | refine Yan (v:=?_) 0 rfl ?_ ?_
        | refine Yan (v:=?_) 1 rfl ?_ ?_
        | refine Yan (v:=?_) 2 rfl ?_ ?_
        | refine Yan (v:=?_) 3 rfl ?_ ?_
        | refine Yan (v:=?_) 4 rfl ?_ ?_
       rotate_left
       · intro P E;have h0:=E.1;have L:=E.2;go_simp;try with_reducible rfl
       simp only [Act.put,Yal,YaA,Yaz,Yaw,Yam,Yap]
      refine Yci (rs:=[5]) (by decide +kernel) (by decide +kernel) ?_;refine Ybx rfl (fun K C=>?_) YbA;go_simp;have u:Hid (Same W (W.alloc (.cells #[.slice none 0 0] 39)).drew):=qH ((Yaa _ W).alloc _).drew;have bi:Hid (Blk (W.alloc (.cells #[.slice none 0 0] 39)).drew W.heap.size 39 #[.slice none 0 0]):=qH ((Yad W 39 #[.slice none 0 0]).same (Yaa _ _).drew);generalize (W.alloc (.cells #[.slice none 0 0] 39)).drew=we at *;refine C _ _ ⟨(a.b4.same u).cell 0,by rw [<- HV.out];exact (a.file.same u).cell 3⟩ (fun d=>?_);clear C K
      try simp only [Act.put,Yal,YaA,Yaz,Yaw,Yam,Yap]
      refine Yci (rs:=[6]) (by decide +kernel) (by decide +kernel) ?_;refine Ybx rfl (fun K C=>?_) YbA;refine Zfm rfl (.tmp 34) (.tmp 35) _ _ rfl s 39 1 24 _ Tryz.underlying169 Zfs rfl (.slice VA l.length Vc) l.length (l.map BS.cell) rfl (Zaa (HV.out ▸ a.own.row) u) rfl (Zbg Tryz.underlying169 (Ycb bi (k:=1) (n:=1) (c:=1) rfl (Yae _) (by simp [maxLen])) (by simp [Value.oneCell'])) (by unfold maxLen;omega) qO (by have:=u.size;have:=a.b0.lt;omega) ?_;intro v9 w9 I;have B:=a.own.row;rw [HV.out] at B;have au:=qH (ZbC (i:=3) a.file B qD u.out I);have n4:fb≠f:=a.b4.ne a.file qD;have M:=(a.b4.same u).upd I.upd fun e=>a.b4.ne_own B qD e;have a1:=I.blk (a.file.same u) (a.file.ne_own B qD);have r3:=a1.cell 3;have z3:=a1.frozen 3;obtain ⟨A9,n9,c9,rfl⟩:=ZaI I.own;rw [HV.out] at r3;have aj:=qH I;clear I a1;refine C.out _ _ ⟨M.cell 0,r3⟩ (fun d=>?_);clear C K
      try simp only [Act.put,Yal,YaA,Yaz,Yaw,Yam,Yap]
      repeat
       first
        | refine Yan (v:=?_) 7 rfl ?_ ?_
        | refine Yan (v:=?_) 8 rfl ?_ ?_
       rotate_left
       · intro P E;have h0:=E.1;have L:=E.2;go_simp;try with_reducible rfl
       simp only [Act.put,Yal,YaA,Yaz,Yaw,Yam,Yap]
      refine YcO (by decide +kernel) (by decide +kernel) rfl (fun K C=>?_) _;go_simp;refine C.out _ _ ?_;clear C K r3 z3 d M;obtain ⟨a0,a8,a2⟩:=au.out;have av:=qH a0;have bj:=qH a8;have cf:=qH a2;have ch:Hid (Upd (fun b=>b=f\/(Value.slice VA l.length Vc).ownBlock=some b) we (w9.setCell ⟨f,3,none⟩ (.slice A9 n9 c9))):=qH ((aj.upd.mono fun _ _ h=>.inr h).setCell (p:=⟨f,3,none⟩) (.inl (.inl rfl)) _);have bl:Hid (∀ W3,Upd (fun b=>b=f\/v.ownBlock=some b) W W3->KeepsFrom g0 W W3/\((Zag W (fun b=>b<s) A' (n-16) (c-16) (bs.drop 16)->Zag W3 (fun b=>b<s) A' (n-16) (c-16) (bs.drop 16))/\(Blk W S 39 #[.slice A' (n-16) (c-16)]->Blk W3 S 39 #[.slice A' (n-16) (c-16)])/\(Blk W nB 3 #[.int .i64 (z:Int)]->Blk W3 nB 3 #[.int .i64 (z:Int)]))):=qH fun W3 N=>by
       refine ⟨Zah N fun k hk hB o ho=>?_,fun h=>Zag.upd h N fun b hb e=>?_,fun h=>h.upd N fun e=>?_,fun h=>h.upd N fun e=>?_⟩
       · rcases hk with hk | hk
         · exact YeD ⟨_,by rw [hk];exact a.file⟩ ho
         exact YeD (Zaf a.own.row hk) ho
       · rcases e with e | e
         · have:=X.out;omega
         have:=(a.own.row.lt b e).1;omega
       · rcases e with e | e
         · exact h.ne a.file qD e
         exact a.ns e
       rcases e with e | e
       · exact h.ne a.file qD e
       exact h.ne_own a.own.row qD e
      have a6:Upd (fun b=>b=f\/v.ownBlock=some b) W (w9.setCell ⟨f,3,none⟩ (.slice A9 n9 c9)):=by rw [HV.out];exact a2
      obtain ⟨ax,ay⟩:=bl.out _ a6;have bm:((l++[ZnF]).filter fun x=>x.A.isSome).length=(l.filter fun x=>x.A.isSome).length:=by rw [YcX,Yaf];simp [ZnF]
      have ck:=a.next bn (qh X) x ZnF (by rw [bg.out];rfl) (fun h=>absurd rfl h) (by rw [bm];exact a0) a8 (Zau.nilB _ _) a6 (by
       obtain ⟨r,hr⟩:=co;have cg:=(YaX.1 hr).1;have bk:=u.size;rcases aj.block with e | ⟨g,e,df⟩
       · rw [e,<-HV.out];exact a.ns
       rw [e];intro e2;have:=Yax e2;omega)
      have d4:=qH ck;have d5:=qH ax;have d6:=qH ay;clear ck ax ay a6 a0 a8 a2;refine NoPanic.normal ?_;gi_wp2;exact ⟨d5,d6,⟨_,_,d4⟩⟩
   case done =>
    rintro D xs W hD hS ⟨v,l,hJ⟩ C;have a:=qH hJ;have q4:=hJ.b4.c0;have q0:=hJ.b0.c0;have q1:=hJ.b1.c0;have z0:=hJ.b0.frozen 0;have z1:=hJ.b1.frozen 0;clear hJ;go_wp2;have N:Upd (fun b=>b=s\/b=H) W ((W.setCell ⟨s,0,none⟩ (.pointer (some ⟨f,0,none⟩))).setCell ⟨H,0,none⟩ (.int .i64 0)):=((Yaa (fun b=>b=s\/b=H) W).setCell (p:=⟨s,0,none⟩) (.inl (.inl rfl)) _).setCell (p:=⟨H,0,none⟩) (.inl (.inr rfl)) _;have ab:=(a.b0.put 0 (.pointer (some ⟨f,0,none⟩))).far (p:=⟨H,0,none⟩) (fun e=>a3.out e) (.int .i64 0);have ac:=(a.b1.far (p:=⟨s,0,none⟩) (fun e=>a3.out e.symm) (.pointer (some ⟨f,0,none⟩))).put 0 (.int .i64 0);have cl:((W.setCell ⟨s,0,none⟩ (.pointer (some ⟨f,0,none⟩))).setCell ⟨H,0,none⟩ (.int .i64 0)).heap[D]?=_:=(N.block D (YaX.1 C).1 (fun h=>by rcases h with h | h <;> omega)).trans C;generalize (W.setCell ⟨s,0,none⟩ (.pointer (some ⟨f,0,none⟩))).setCell ⟨H,0,none⟩ (.int .i64 0)=W2 at *;refine ⟨by simp,.inl ⟨_,_,rfl,run_takeDeferred cl,?_⟩⟩;have Z:=(Yaa (Zao (fun _=>False) g0 W2) W2).grown (grownBy_putObj' W2 D (.deferred none)) fun k e=>.inl (by cases e;exact YbI cl rfl qO);refine ZkY (R0:=s) (R1:=H) rfl rfl ((ab.it Z fun f=>f).cell 0) ((ac.it Z fun f=>f).cell 0) ?_;rw [<- b3.out];unfold ZkX;have ak:ZfP z m (bs.drop 16)=.ok (l.map BS.rc):=Zmj z m _ _ (by rw [<- hS,Ybf,Ybf];exact a.recs)
    rw [Zfy,HE.out];simp only [ak];have d7:∀ b,b=s\/b=H->∀ g,v.ownBlock=some g->g≠b:=fun b hb g hg e=>by
     subst e;rcases hb with e | e
     · subst e;exact a.b0.ne_own a.own.row qD hg
     subst e;exact a.b1.ne_own a.own.row qD hg
    have d8:PF W2 s f k vs z v l 0:=⟨qh X,a.file.upd N fun e=>(qh X),⟨Zae a.own.row N fun g hg e=>d7 g e g hg rfl,fun y hy=>(a.own.each y hy).upd N fun b hb e=>?_⟩,⟨d9,cn⟩,a.len,?_,fun i h=>absurd h (Ydn _)⟩
    · exact ⟨f,v,l,rfl,rfl,bn ▸ (d8.it (U:=fun _=>False) ⟨fun f=>f,fun f=>f,fun f=>f,fun f=>f⟩ Z),Same.it (show Same w W2 from a.same.trans N fun b hb e=>by rcases e with e | e <;> omega) Z aq⟩
    · rcases e with e | e
      · have h9:OfT W 67 b:=by rw [e];exact ⟨_,a.b0⟩
        exact absurd (YdJ hb h9) qD
      have h9:OfT W 30 b:=by rw [e];exact ⟨_,a.b1⟩
      exact absurd (YdJ hb h9) qD
    have L:=YaC List.length a.recs;have h2:=YaC List.length hS;rw [Yag,Yag] at L;rw [Yag,Zcy] at h2;omega
   rintro D c G W hD ⟨kk,hP⟩ ⟨rfl,Y,hX⟩ C;gi_wp2;refine ⟨by simp,.inl ⟨_,_,rfl,run_takeDeferred C,?_⟩⟩;have Z:=(Yaa (Zao (fun _=>False) g0 W) W).grown (grownBy_putObj' W D (.deferred none)) fun k e=>.inl (by cases e;exact YbI C rfl qO);refine ZkY (R0:=s) (R1:=H) rfl rfl ((hX.b0.it Z fun f=>f).cell 0) ((hX.b1.it Z fun f=>f).cell 0) ?_;rw [<- b3.out];unfold ZkX;obtain ⟨cs,x,rs,dg,dh,hx⟩:=hX.ex;have ak:ZfP z m (bs.drop 16)=.error Y:=Zkf z m _ (cs.map BS.data) x.data rs Y kk (by rw [<- hP,dg];simp) (by rw [Ybf];exact dh) hx;rw [Zfy,HE.out];simp only [ak];exact ⟨rfl,hX.same.it Z aq⟩
end Go.Proofs.YtmkjfhnlnhceiaaGreatDoor
