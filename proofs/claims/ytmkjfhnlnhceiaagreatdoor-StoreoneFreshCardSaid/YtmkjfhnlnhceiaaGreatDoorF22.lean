/- Lemmas: walks and plain laws. -/
import Derived.Test.YtmkjfhnlnhceiaaGreatDoorF11
import Derived.Test.YtmkjfhnlnhceiaaGreatDoorF21
set_option maxRecDepth 100000
set_option maxHeartbeats 16000000
namespace Go.Proofs.YtmkjfhnlnhceiaaGreatDoor
open Go.RowKit
attribute [local go_sem] oD
theorem NQ {tmps:Array Value} {W:World} {R1:Nat} {v1:Value} {R:Ending->World->Prop} (h3:tmps.getD 2 undef=.pointer (some ⟨R1,0,none⟩)) (c1:W.cell? ⟨R1,0,none⟩=some v1) (hR:R (.returned v1) W) :
 ∃ v,(results Tryz.f69 tmps).run Tryz.prog W=.ok v W/\R (.returned v) W:=by
 refine ⟨v1,?_,hR⟩;simp only [LF] at h3;simp [results,Tryz.results69,go_sem,h3,c1]
theorem ZoJ {B f k vs z low:Nat} {v:Value} {l:List BS} (w:World) (hP:PF w B f k vs z v l low) :
 Calls Tryz.prog 69 #[.pointer (some ⟨f,0,none⟩)] w fun e w'=>e=.returned (.int .i64 (tH (filD k vs z l)))/\Same w w':=by
 have gj:=hP.size;obtain ⟨N,hN⟩:∃ N,l.length=N:=⟨_,rfl⟩
 have ej:=hP.len;rw [hN] at ej;have HN:=qH hN;clear hN;have HP:=qH hP;clear hP;obtain ⟨X,hX⟩:∃ X,tH (filD k vs z l)=X:=⟨_,rfl⟩
 rw [hX];have HX:=qH (hX.symm.trans ZsC);clear hX;obtain ⟨OR,ec⟩:∃ OR:Ending->World->Prop,OR=fun e w'=>e=.returned (.int .i64 X)/\Same w w':=⟨_,rfl⟩
 rw [<- ec];have c8:Hid (∀ er W,X=er->Same w W->OR (.returned (.int .i64 er)) W):=qH fun er W C O=>by rw [ec];exact ⟨by rw [C],O⟩
 clear ec;refine (ZB (n:=5)).1 ?_;refine callsIn_of_wp_marks Tryz.func69 rfl trivial ?_ rfl;simp only [Tryz.ntmps69,GF,BA,mC,Nat.reduceAdd,Nat.reduceSub,oI,pI,qI,rI,SB,EB];refine eI.2 ?_;go_upto_region 1 with fail;have bf:Hid (Same w ((w.alloc (.cells #[.pointer (some ⟨f,0,none⟩)] 67)).alloc (.cells #[.int .i64 0] 30))):=qH (((eA _ w).alloc _).alloc _);have dd:Hid (Blk ((w.alloc (.cells #[.pointer (some ⟨f,0,none⟩)] 67)).alloc (.cells #[.int .i64 0] 30)) w.heap.size 67 #[.pointer (some ⟨f,0,none⟩)]):=qH ((jA w _ _).same ((eA _ _).alloc _));have bg:Hid (Blk ((w.alloc (.cells #[.pointer (some ⟨f,0,none⟩)] 67)).alloc (.cells #[.int .i64 0] 30)) (w.heap.size+1) 30 #[.int .i64 0]):=qH (by have C:=jA (w.alloc (.cells #[.pointer (some ⟨f,0,none⟩)] 67)) 30 #[.int .i64 0];rwa [show (w.alloc (.cells #[.pointer (some ⟨f,0,none⟩)] 67)).heap.size=w.heap.size+1 from aB _ _] at C)
 generalize ((w.alloc (.cells #[.pointer (some ⟨f,0,none⟩)] 67)).alloc (.cells #[.int .i64 0] 30))=w1 at *;generalize gz:w.heap.size+1=V at *;generalize h0:w.heap.size=b1 at *;have an:=qH (HP.out.same bf.out);have q0:=dd.out.cell 0;have q1:=bg.out.cell 0;have z1:=bg.out.frozen 0;go_wp2_with fail;refine (SN w1 an.out).mono ?_;rintro e w2 ⟨rfl,rfl⟩;by_cases hz:z=32
 case neg =>
  have HE:=qH (HX.out.trans (gA hz));have i1:¬ (z:Int)=32:=by omega
  clear HX hz;go_wp2;exact NQ (R1:=V) rfl ((bg.out.put 0 (.int .i64 4)).cell 0) (c8.out 4 _ HE.out (CC bf.out (by omega) _))
 subst hz;have ca:=qH (HX.out.trans (aA (by simp)));have de:=qH (TJ w1 an.out);rw [HN.out] at de;clear HX;go_wp2_with fail;refine de.out.mono ?_;rintro e w2 ⟨rfl,rfl⟩;have bh:=run_make_row' (P:=Tryz.prog) 110 3 (.int .i64 0) 8 mG jK rfl .i64 .i64 N (by omega) (by omega);have ek:madeCells #[Value.int .i64 0] N=(xE N fun _=>0).toArray:=by apply Array.ext';simp [madeCells,yK,List.map_const',xE]
 rw [ek] at bh;have el:=qH bh;go_upto_region 4 with fail;have em:=jA w1 3 (xE N fun _=>0).toArray;have en:=(eA (fun _=>False) w1).alloc (.cells (xE N fun _=>0).toArray 3);have df:(w1.alloc (.cells (xE N fun _=>0).toArray 3)).heap.size=w1.heap.size+1:=aB _ _;generalize w1.alloc (.cells (xE N fun _=>0).toArray 3)=w2 at *;generalize h8:w1.heap.size=gN at *;have cb:=jA w2 110 #[.slice (some ⟨gN,0,none⟩) N N];have dg:=(eA (fun _=>False) w2).alloc (.cells #[.slice (some ⟨gN,0,none⟩) N N] 110);have eo:(w2.alloc (.cells #[.slice (some ⟨gN,0,none⟩) N N] 110)).heap.size=w2.heap.size+1:=aB _ _;rw [<- df];generalize w2.alloc (.cells #[.slice (some ⟨gN,0,none⟩) N N] 110)=w3 at *;generalize g6:w2.heap.size=b3 at *;have ep:=qH (em.same dg);have eq:=qH cb;have es:=qH (en.trans dg fun _ _ f=>f);have et:=qH eo;have eu:=qH df;clear em en cb dg eo df g6 bh;go_upto_region 5 with fail;have d1:=jA w3 3 #[];have d2:=(eA (fun _=>False) w3).alloc (.cells #[] 3);have bi:(w3.alloc (.cells #[] 3)).heap.size=w3.heap.size+1:=aB _ _;rw [<- bi];generalize w3.alloc (.cells #[] 3)=w4 at *;generalize h9:w3.heap.size=g4 at *;have Y:=jA w4 110 #[.slice (some ⟨g4,0,none⟩) 0 0];have dh:=(eA (fun _=>False) w4).alloc (.cells #[.slice (some ⟨g4,0,none⟩) 0 0] 110);have ev:(w4.alloc (.cells #[.slice (some ⟨g4,0,none⟩) 0 0] 110)).heap.size=w4.heap.size+1:=aB _ _;generalize w4.alloc (.cells #[.slice (some ⟨g4,0,none⟩) 0 0] 110)=w5 at *;generalize g7:w4.heap.size=b4 at *;have ew:=qH (d1.same dh);have ex:=qH Y;have cc:=qH (d2.trans dh fun _ _ f=>f);have ey:=qH ev;have d3:=qH bi;clear d1 d2 Y dh ev bi g7;have ab:=qH (es.out.trans cc.out fun _ _ f=>f);have ez:=qH (bf.out.trans ab.out fun _ _ f=>f);have bj:=qH (dd.out.same ab.out);have d4:=qH (bg.out.same ab.out);have d5:=qH (ep.out.same cc.out);have d6:=qH (eq.out.same cc.out);have cd:=qH (an.out.same ab.out);have bk:=qH (TJ w5 cd.out);rw [HN.out] at bk;have q0:=bj.out.cell 0;clear dd bg ep eq an de es cc ab;have bh:=el.out;go_wp2_with fail;refine bk.out.mono ?_;rintro e wc ⟨rfl,rfl⟩;go_upto_region 6 with fail;have f0:=jA w5 3 (xE N fun _=>0).toArray;have f5:=(eA (fun _=>False) w5).alloc (.cells (xE N fun _=>0).toArray 3);have f6:(w5.alloc (.cells (xE N fun _=>0).toArray 3)).heap.size=w5.heap.size+1:=aB _ _;rw [<- f6];generalize w5.alloc (.cells (xE N fun _=>0).toArray 3)=w6 at *;generalize he:w5.heap.size=gX at *;have f7:=jA w6 110 #[.slice (some ⟨gX,0,none⟩) N N];have ay:=(eA (fun _=>False) w6).alloc (.cells #[.slice (some ⟨gX,0,none⟩) N N] 110);generalize w6.alloc (.cells #[.slice (some ⟨gX,0,none⟩) N N] 110)=w7 at *;generalize g8:w6.heap.size=b5 at *;have E:=f5.trans ay fun _ _ f=>f;have di:Hid (CkS ⟨w,B,f,k,vs,v,l,low,gN,gX,N,b1,V,b3,b4,b5⟩ (fun _=>0) (List.replicate N 0) [] w7):=qH (by
  have e0:(xE N fun _=>0).length=N:=by simp [xE]
  have f8:N<=maxLen:=by unfold maxLen;omega
  have z3:=et.out;have z4:=ey.out;have i2:=d3.out;have zN:=eu.out;have sz:=bf.out.size;have f1:g4≠gN:=by omega
  have f2:g4≠gX:=by omega
  have f3:gN≠gX/\b3≠b4/\b4≠b5:=by omega
  have f4:w.heap.size<=b4:=by omega
  have r1:=eQ (d5.out.same E) (B:=w.heap.size) (by omega) (n:=N) (by simp [xE]) f8;have r2:=eQ (f0.same ay) (B:=w.heap.size) (by omega) (n:=N) (by simp [xE]) f8;have r3:=eQ (ew.out.same E) (B:=w.heap.size) (by omega) (n:=0) (by rfl) (oA _);refine ⟨cd.out.same E,bj.out.same E,d4.out.same E,d6.out.same E,f7,by simpa using r1,?_,⟨_,ex.out.same E,by simpa using r3,?_,?_⟩,?_,?_,ez.out.trans E fun _ _ f=>f⟩
  · have e:(List.replicate N (0:Int)).map (Value.int .i64)=xE N fun _=>0:=by simp [xE,List.map_const']
    rw [e];simpa using r2
  · exact fun e=>f1 (eB e)
  · exact fun e=>f2 (eB e)
  · exact f3
  exact f4)
 have d7:=qH (cd.out.same E);clear bj d4 d5 d6 ex ew cd f0 f5 f7 ay E bk bh el ez;have q7:w7.cell? ⟨b1,0,none⟩=some (.pointer (some ⟨f,0,none⟩)):=di.out.b1.cell 0;go_wp2_with fail;refine (DI w7 f).mono ?_;rintro e wc ⟨rfl,ed⟩;have Z:Same w7 wc:=ed ▸ (eA (fun _=>False) w7).alloc _;have bl:Hid (Blk wc w7.heap.size 67 #[.pointer (some ⟨f,0,none⟩)]):=qH (ed ▸ jA w7 _ _);have az:=qH (d7.out.same Z);have gk:=qH az.out.recs;have ao:=qH (bQ ckU 4 (by omega) wc az.out bl.out);have a8:=qH (di.out.keep Z);obtain ⟨L,hL⟩:∃ L,DA 0 l=L:=⟨_,rfl⟩
 rw [hL] at ao ca;have HL:=qH hL;have fa:=qH (show L.Pairwise fun a b=>a.1<b.1 by rw [<- hL];exact cQ l 0);have dj:w.heap.size<=wc.heap.size:=a8.out.same.size;have HG:Hid (V<wc.heap.size/\f<wc.heap.size):=qH ⟨a8.out.b2.lt,a8.out.file.blk.lt⟩;obtain ⟨P,hP⟩:∃ P:CkP,P=⟨w,B,f,k,vs,v,l,low,gN,gX,N,b1,V,b3,b4,b5⟩:=⟨_,rfl⟩
 have r:=qH hP;rw [<- hP] at a8;have ac:Hid (P.w=w):=qH (by rw [hP]);generalize w7.heap.size=fB at *;have dk:Hid (w.heap.size<=V):=qH (by omega);clear ed Z d7 bl di hL hP eu et ey d3 bf az h8 h9 h0 gz f6 g8 he ek q7 q0 q1 z1;go_wp2_with fail;refine (eI (n:=5)).1 ?_;generalize c2:wc.heap.size=g0 at *;refine mT (T:=fun _=>False) rfl (by omega) (gf:=122) (lb:=#[.pointer (some ⟨fB,0,none⟩)]) rfl trivial (enters_of SM (by kernel_rfl) rfl) ao.out
  (fun A=>eA _ A) (fun C O=>bM C O) (fun W l o o' hl ho hc=>(eA _ W).grown (grownBy_putObj' W l o') fun k e=>.inl (by cases e;exact GE ho hc (oA _))) (fun t x W l o o' hl ho hc h=>h.obj ho hc o') (CK _ _) (fun _=>rfl)
  (fun t W=>CkJ P L t W)
  (fun c t W=>c=.ret/\X=100/\Blk W V 30 #[.int .i64 100]/\Same w W)
  (fun t W W' h hu=>h.it (by rw [ac.out];exact dj) (c2 ▸ hu))
  (fun c t W W' ⟨C,O,h3,h4⟩ hu=>⟨C,O,h3.it hu id,h4.it hu (c2 ▸ dj)⟩)
  ⟨⟨_,a8.out,by rw [r.out];simp,fun _ h=>by cases h⟩,(fun _ h=>by cases h),rfl⟩ ?F ?assign ?body ?done ?stop
 case assign =>
  intro l x W K hK;dsimp only [RE.args];gi_wp2;exact hK
 case body =>
  rintro lp t x W hl hk hJ hX;have HJ:=qH hJ;have ap:=qH hX.at_;have bm:(x.id,x.data)∈DA 0 l:=by rw [HL.out];exact OC hX.at_
  obtain ⟨_,y,ak,ct,cu⟩:=UJ bm;have hid:x.id<N:=by have C:=(IA.1 ak).1;rw [HN.out] at C;omega
  have fb:x.data.length=31:=by have C:=gk.out y (OC ak) ct;rw [cu] at C;exact Nat.succ.inj C
  obtain ⟨xs,hS,ga,ba⟩:=hJ.st;have HS:=qH hS;have fc:=qH ga;have bn:=qH ba;have an:=qH (BY W hX.row fb);clear hJ hX bm ak ct cu hS ga ba;gi_wp2_with fail;refine ⟨trivial,?_⟩;gi_at_call 120;refine (CallsIn.inRound lp (ZB.2 an.out)).mono ?_;rintro e5 w5 ⟨A1,c1,rfl,ee,ay⟩;unfold BV.cells;simp only;obtain ⟨d,hd⟩:∃ d,x.data=d:=⟨_,rfl⟩
  obtain ⟨i,hi⟩:∃ i,x.id=i:=⟨_,rfl⟩
  rw [hd] at ee fb ⊢;rw [hi] at hid ⊢;have HD:=qH (show x.data=d/\x.id=i from ⟨hd,hi⟩);obtain ⟨s,hs⟩:∃ s,JB d=s:=⟨_,rfl⟩
  obtain ⟨u,hu⟩:∃ u,VD d=u:=⟨_,rfl⟩
  obtain ⟨I,al⟩:∃ I,gF d=I:=⟨_,rfl⟩
  have ad:=qH (fun W' (h:Same w5 W') (hp:PF W' B f k vs 32 v l low)=>CY W' (d:=d) (ee.same h) hp);unfold BV.cells at ad;simp only at ad;rw [hs,hu,al] at ad ⊢;have ae:Hid (JB d=s/\VD d=u/\gF d=I):=qH ⟨hs,hu,al⟩;have fd:=qH ay;clear hd hi hs hu al ee ay an
  gi_upto_region 10 with fail
  have b0:=jA w5 203 #[.int .i64 (s:Int),.int .i64 (u:Int),.int .i64 I,.slice A1 25 c1];have Z:=(eA (fun _=>False) w5).alloc (.cells #[.int .i64 (s:Int),.int .i64 (u:Int),.int .i64 I,.slice A1 25 c1] 203);have dl:=qH (fd.out.trans Z fun _ _ f=>f);have ce:=qH (HS.out.keep dl.out);have d8:Hid (PF (w5.alloc (.cells #[.int .i64 (s:Int),.int .i64 (u:Int),.int .i64 I,.slice A1 25 c1] 203)) B f k vs 32 v l low):=qH (by have h:=ce.out.file;rwa [r.out] at h)
  have dm:=qH (ad.out _ Z d8.out);generalize w5.alloc (.cells #[.int .i64 (s:Int),.int .i64 (u:Int),.int .i64 I,.slice A1 25 c1] 203)=w8 at *;generalize w5.heap.size=bB at *;have fe:=qH b0;have q0:=b0.cell 0;have q1:=b0.cell 1;have q2:=b0.cell 2;have q3:=b0.cell 3;simp only [YC,rC,LC] at q0 q1 q2 q3;have q4:w8.cell? ⟨b1,0,none⟩=some (.pointer (some ⟨f,0,none⟩)):=by have h:=ce.out.b1.cell 0;rwa [r.out] at h
  obtain ⟨S,hS⟩:∃ S,IC (filD k vs 32 l) d=S:=⟨_,rfl⟩
  rw [hS] at dm;have cf:=qH hS;clear b0 Z hS fd ad HS;gi_wp2_with fail;refine ⟨trivial,?_⟩;gi_at_call 121;refine (CallsIn.inRound lp (ZB.2 dm.out)).mono ?_;rintro e9 w9 ⟨rfl,cv⟩;have dn:=qH (dl.out.trans cv fun _ _ f=>f);have a0:=qH (ce.out.keep cv);have cg:=qH (fe.out.same cv);clear q0 q1 q2 q3 q4 ce fe dl cv dm d8;cases S
  case false =>
   have qe:w9.cell? ⟨V,0,none⟩=some (.int .i64 0):=by have h:=a0.out.b2.cell 0;rwa [r.out] at h
   have ze:w9.frozen? ⟨V,0,none⟩=false:=by have h:=a0.out.b2.frozen 0;rwa [r.out] at h
   have HE:Hid (X=100):=qH (by rw [ca.out,gA];rw [iG];refine ⟨x.dat,OC ap.out,?_⟩;unfold RE.dat;rw [HD.1,cf.out];rfl)
   gi_wp2;have hm:=a0.out.mvE (.int .i64 100) g0;have bo:=a0.out.b2.put 0 (.int .i64 100);have a9:P.b2=V:=by rw [r.out]
   rw [a9] at hm bo;have gl:=(Mv.same dn.out).trans hm;have af:=a0.out.same;rw [ac.out] at af;refine ⟨by rw [c2];exact gl.1,rfl,HE.out,bo,CC af dk.out _⟩
  have h5:w9.cell? ⟨b5,0,none⟩=some (.slice (some ⟨gX,0,none⟩) N N):=by have h:=a0.out.b5.cell 0;rwa [r.out] at h
  have q2:=cg.out.cell 2;simp only [YC,rC,LC] at q2;have i3:P.N=N:=by rw [r.out]
  have gm:P.gX=gX:=by rw [r.out]
  have ag:=a0.out.setX (i:=i) (by omega) I;have a1:=a0.out.mvX (i:=i) (.int .i64 I) g0;rw [gm] at ag a1;obtain ⟨⟨qx,a3⟩,cw,am⟩:=ag;have a6:=qH am;have ch:=qH ((Mv.same dn.out).trans a1);have ff:bB≠gX:=fun e=>by
   obtain ⟨hn,h6⟩:=LA a0.out.rx (g:=gX) (by rw [r.out];rfl);have h7:=cg.out;unfold Blk at h6 h7;rw [e,h6] at h7;injection h7 with h7
   injection h7 with _ h7
   exact absurd h7 (by decide)
  have b6:=qH (cg.out.far (p:=⟨gX,i,none⟩) (fun e=>ff e) (.int .i64 I));clear am a1 ff
  gi_upto_region 13 with fail
  generalize w9.setCell ⟨gX,i,none⟩ (.int .i64 I)=eb at *;clear a3 cw h5 q2;have q0:=b6.out.cell 0;have q2:=b6.out.cell 2;simp only [YC,rC,LC] at q0 q2;obtain ⟨nm,au⟩:∃ nm,nmL (t.map RE.dat)=nm:=⟨_,rfl⟩
  have aw:=qH au;rw [au] at a6 a0;have fg:∀ c,nm c<=131072:=fun c=>by have C:=(IA.1 ap.out).1;have O:=dM l 0;rw [HL.out,HN.out] at O;have h3:=ZwN (t.map RE.dat) c;rw [nA,au] at h3;omega
  obtain ⟨gb,c3⟩:∃ gb,xs.set i I=gb:=⟨_,rfl⟩
  obtain ⟨st,a7⟩:∃ st,stL (t.map RE.dat)=st:=⟨_,rfl⟩
  have fh:=qH c3;have bp:=qH a7;rw [c3,a7] at a6;have b7:=qH fg;clear au fg c3 a7 a0 cg dn;have gn:(yC d=none/\I = -1)\/∃ j:Nat,yC d=some j/\I=(j:Int)/\j<N:=by
   cases hb:yC d with
   | none=>exact .inl ⟨rfl,by rw [<- ae.2.2];exact IQ.2 hb⟩
   | some j =>
     refine .inr ⟨j,rfl,by rw [<- ae.2.2];exact JQ hb,?_⟩;have C:=cf.out;unfold IC at C;rw [hb] at C;simp only [kB] at C;have O:=uJ C.2.2.2.2;have h3:(filD k vs 32 l).recs.length=l.length:=by simp [filD]
     rw [h3,HN.out] at O;exact O
  rcases gn with ⟨hb,rfl⟩ | ⟨j,hb,rfl,gx⟩
  focus
   have aa:Hid (∀ c,nm c=nmL (t.map RE.dat) c+if yC d=some c then 1 else 0):=qH fun c=>by rw [aw.out,hb];simp
   have a2:Hid (∀ c,nm c<=131073):=qH fun c=>by have:=b7.out c;omega
   clear hb b7 aw
   gi_upto_region 15 with fail
   obtain ⟨H,a4⟩:∃ H,nm=H:=⟨_,rfl⟩
   rw [a4] at aa a2 a6;have b8:=a6;have bq:=ch;have dp:=q0;clear a4 a6 ch b6 q0 q2;generalize eb=ar at *
  rotate_left
  focus
   have cb:eb.cell? ⟨b3,0,none⟩=some (.slice (some ⟨gN,0,none⟩) N N):=by have h:=a6.out.b3.cell 0;rwa [r.out] at h
   have ag:=a6.out.setN (i:=j) (by omega) (nm j+1);have a1:=a6.out.mvN (i:=j) (.int .i64 ((nm j+1:Nat):Int)) g0;have go:P.gN=gN:=by rw [r.out]
   rw [go] at ag a1;obtain ⟨a3,cw,am⟩:=ag;have ci:=qH (ch.out.trans a1);have br:=qH am;have aa:Hid (∀ c,(if c=j then nm j+1 else nm c)=nmL (t.map RE.dat) c+if yC d=some c then 1 else 0):=qH fun c=>by
    rw [aw.out,hb];by_cases e:c=j
    · subst e;simp
    have e':¬ j=c:=fun h=>e h.symm;simp [e,e']
   have a2:Hid (∀ c,(if c=j then nm j+1 else nm c)<=131073):=qH fun c=>by have:=b7.out c;have:=b7.out j;split <;> omega
   have fi:bB≠gN:=fun e=>by
    obtain ⟨hn,h6⟩:=LA a6.out.rn (g:=gN) (by rw [r.out];rfl);have h7:=b6.out;unfold Blk at h6 h7;rw [e,h6] at h7;injection h7 with h7
    injection h7 with _ h7
    exact absurd h7 (by decide)
   have cj:=qH (b6.out.far (p:=⟨gN,j,none⟩) (fun e=>fi e) (.int .i64 ((nm j+1:Nat):Int)));obtain ⟨c0,bb⟩:∃ c0,nm j=c0:=⟨_,rfl⟩
   have fj:=b7.out j;rw [bb] at fj a3 cj ci br aa a2;have bs:((c0+1:Nat):Int)=(c0:Int)+1:=by omega
   rw [bs] at cj ci br;clear hb b7 aw am a1 fi bb bs
   gi_upto_region 15 with fail
   obtain ⟨H,a4⟩:∃ H:Nat->Nat,H=fun c=>if c=j then c0+1 else nm c:=⟨_,rfl⟩
   have d9:Hid (∀ c,H c=nmL (t.map RE.dat) c+if yC d=some c then 1 else 0):=qH (by rw [a4];exact aa.out);have bt:Hid (∀ c,H c<=131073):=qH (by rw [a4];exact a2.out);rw [<- a4] at br;clear aa a2;have aa:=d9;have a2:=bt;have b8:=br;have bq:=ci;have dp:=cj.out.cell 0;simp only [YC,rC] at dp;clear a4 a6 ch b6 br ci cj d9 bt q0 q2 a3 cw cb fj;generalize eb.setCell ⟨gN,j,none⟩ (.int .i64 ((c0:Int)+1))=ar at *
  rotate_left
  all_goals
   by_cases ck:s=1
   case neg =>
    have fk:¬ (s:Int)=1:=by omega
    have cl:CkJ P L (t++[x]) ar:=by
     refine HJ.out.step fa.out ap.out fc.out bn.out (by rw [HD.2];omega) ?_ (st':=st) (nm':=H) ?_ ?_ ?_
     · have h:=cf.out;rw [r.out,HD.1];exact h
     · rw [HD.1,ae.1,aA ck,ZC,bp.out]
     · intro c;rw [aa.out,HD.1,ae.1,aA (c:=s=1/\x.id=c) (by rintro ⟨h,_⟩;exact ck h),IF]
     rw [HD.1,HD.2,ae.2.2,fh.out];exact b8.out
    have aq:=qH cl;clear ck;gi_wp2;exact ⟨by rw [c2];exact bq.1,bq.2,aq.out⟩
   subst ck;obtain ⟨sv,Y,a5,cx⟩:=b8.out.st;have fl:P.b4=b4:=by rw [r.out]
   have i4:P.b3=b3:=by rw [r.out]
   have cm:P.gN=gN:=by rw [r.out]
   obtain ⟨A4,c4,rfl⟩:=WA a5;have dq:=qH Y;have bu:=qH a5;have fm:=qH cx;have bv:st.length<=65536:=by
    have C:=(IA.1 ap.out).1;have O:=dM l 0;rw [HL.out,HN.out] at O;have h3:(stL (t.map RE.dat)).length<=(t.map RE.dat).length:=by unfold stL;rw [nA];exact OL _ _
    rw [bp.out,nA] at h3;omega
   have fn:=ac.out;rw [fl] at Y;rw [fn] at a5;have sA:=(eA (fun _=>False) ar).alloc (.cells #[.int .i64 (i:Int)] 3);have dr:=mA a5 sA;have ds:=Y.same sA;have qA:ar.cell? ⟨b4,0,none⟩=some (.slice A4 st.length c4):=Y.cell 0;have da:=XF (jA ar 3 #[.int .i64 (i:Int)]) (k:=1) (n:=1) (c:=1) rfl (lA _) (by simp [maxLen]);have fo:w.heap.size<=(ar.alloc (.cells #[.int .i64 (i:Int)] 3)).heap.size:=by have C:=b8.out.same.size;rw [fn] at C;have O:=sA.size;omega
   clear Y cx a5
   gi_upto_region 17 with (gi_at_builtin;refine BX rfl (.tmp 51) (.tmp 53) _ _ rfl w.heap.size 3 1 8 _ mG jK rfl (.slice A4 st.length c4) st.length (st.map fun (i:Nat)=>Value.int .i64 (i:Int)) rfl dr rfl (GD mG da (by simp [Value.oneCell'])) (by unfold maxLen;omega) (by omega) fo ?_;intro v9 ef hg;obtain ⟨A9,c9,rfl⟩:=WA hg.own;have dt:=ds.upd hg.upd fun e=>ds.ne_own dr (by decide) e;have f9:=dt.frozen 0;have e9:ef.cell? ⟨b4,0,none⟩=some (.slice A4 st.length c4):=dt.cell 0)
   have du:Grew (ar.alloc (.cells #[.int .i64 (i:Int)] 3)) P.w.heap.size 3 1 (.slice A4 st.length c4) (st.length+1) ((st.map fun (i:Nat)=>Value.int .i64 (i:Int))++[.int .i64 (i:Int)]) (.slice A9 (st.length+1) c9) ef:=by rw [ac.out];exact hg
   have ha:=b8.out.app dq.out bu.out fm.out sA du;have dv:=mvA dq.out bu.out sA du g0;rw [fl] at ha dv;have HA:=qH ha;have fp:=qH (bq.out.trans dv);clear ha dv du f9 e9 dt hg da fo ds dr sA qA dp dq bu fm b8 bq;generalize ef.setCell ⟨b4,0,none⟩ (.slice A9 (st.length+1) c9)=g9 at *;have qn:g9.cell? ⟨b3,0,none⟩=some (.slice (some ⟨gN,0,none⟩) N N):=by have h:=HA.out.b3.cell 0;rwa [r.out] at h
   have ag:=HA.out.setN (i:=i) (by rw [r.out];exact hid) (H i+1);have a1:=HA.out.mvN (i:=i) (.int .i64 ((H i+1:Nat):Int)) g0;rw [cm] at ag a1;obtain ⟨a3,cw,am⟩:=ag;have cn:=qH (fp.out.trans a1);have fq:=qH am;have cl:CkJ P L (t++[x]) (g9.setCell ⟨gN,i,none⟩ (.int .i64 ((H i+1:Nat):Int))):=by
    refine HJ.out.step fa.out ap.out fc.out bn.out (by rw [HD.2,r.out];exact hid) ?_ (st':=st++[i]) (nm':=fun c=>if c=i then H i+1 else H c) ?_ ?_ ?_
    · have h:=cf.out;rw [r.out,HD.1];exact h
    · rw [HD.1,HD.2,ae.1,gA rfl,bp.out]
    · intro c;rw [HD.1,HD.2,ae.1];have h5:=aa.out c;have h6:=aa.out i;by_cases e:c=i
      · subst e;simp only [lG,and_self];omega
      have e':¬ i=c:=fun h=>e h.symm;simp only [e,e',if_false,and_false];omega
    rw [HD.1,HD.2,ae.2.2,fh.out];exact fq.out
   have aq:=qH cl;obtain ⟨gc,dc⟩:∃ c,H i=c:=⟨_,rfl⟩
   have fr:=a2.out i;rw [dc] at fr a3 cn aq;have bs:((gc+1:Nat):Int)=(gc:Int)+1:=by omega
   rw [bs] at cn aq;clear cl am a1 dc bs HA fp fq;gi_wp2;exact ⟨by rw [c2];exact cn.1,cn.2,aq.out⟩
 case done =>
  rintro D1 xs W hD hS hJ hK;obtain ⟨bc,hC,gd,ba⟩:=hJ.st;have bw:=hJ.ok;have hS:xs.map RE.dat=L:=hS;rw [hS] at hC ba bw;have dw:=qH (ca.out.trans (aA (by rw [iG];rintro ⟨p,hp,h⟩;have C:=bw p hp;rw [r.out] at C;rw [C] at h;cases h)))
  have gp:Hid (∀ p∈L,IC (filD k vs 32 l) p.2=true):=qH (by rw [r.out] at bw;exact bw)
  have HC:=qH hC;have gq:=qH gd;have bn:=qH ba;have HK:=qH hK;have q7:W.cell? ⟨b1,0,none⟩=some (.pointer (some ⟨f,0,none⟩)):=by have h:=HC.out.b1.cell 0;rwa [r.out] at h
  clear hJ hC gd ba bw hS hK ca ao a8;go_wp2_with fail;refine (DI W f).mono ?_;rintro e wd ⟨rfl,eg⟩;have Z:Same W wd:=eg ▸ (eA (fun _=>False) W).alloc _;have bl:Hid (Blk wd W.heap.size 67 #[.pointer (some ⟨f,0,none⟩)]):=qH (eg ▸ jA W _ _);have co:=qH (HC.out.keep Z);have az:Hid (PF wd B f k vs 32 v l low):=qH (by have h:=co.out.file;rwa [r.out] at h)
  have ao:=qH (bQ ckU 4 (by omega) wd az.out bl.out);rw [HL.out] at ao;have dx:Hid (wd.heap[D1]?=some (.deferred (some []))):=qH ((Z.block D1 (sC.1 HK.out).1 id).trans HK.out);have ax:w.heap.size<=wd.heap.size:=by have h:=co.out.same.size;rwa [ac.out] at h
  have cp:D1<wd.heap.size:=(sC.1 dx.out).1;generalize W.heap.size=hf at *;clear eg Z bl HC az HK q7;go_wp2_with fail;refine (eI (n:=5)).1 ?_;generalize ea:wd.heap.size=g1 at *;refine mT (T:=fun _=>False) rfl (by omega) (gf:=122) (lb:=#[.pointer (some ⟨hf,0,none⟩)]) rfl trivial (enters_of SM (by kernel_rfl) rfl) ao.out
   (fun A=>eA _ A) (fun C O=>bM C O) (fun W l o o' hl ho hc=>(eA _ W).grown (grownBy_putObj' W l o') fun k e=>.inl (by cases e;exact GE ho hc (oA _))) (fun t x W l o o' hl ho hc h=>h.obj ho hc o') (CK _ _) (fun _=>rfl)
   (fun t W=>CkK P L bc D1 t W)
   (fun c t W=>c=.ret/\X=101/\Blk W V 30 #[.int .i64 101]/\Same w W/\W.heap[D1]?=some (.deferred (some [])))
   (fun t W W' h hu=>h.it (by rw [ac.out];exact ax) cp (ea ▸ hu))
   (fun c t W W' ⟨C,O,h3,h4,h5⟩ hu=>⟨C,O,h3.it hu id,h4.it hu (ea ▸ ax),MQ h5 cp (ea ▸ hu)⟩)
   ⟨co.out,dx.out,fun _ h=>by cases h⟩ ?F2 ?assign2 ?body2 ?done2 ?stop2
  case assign2 =>
   intro l x W K hK;dsimp only [RE.args];gi_wp2;exact hK
  case body2 =>
   rintro lp t x W hl hk hJ hX;have HJ:=qH hJ;have ap:=qH hX.at_;have bm:(x.id,x.data)∈DA 0 l:=by rw [HL.out];exact OC hX.at_
   obtain ⟨_,y,ak,ct,cu⟩:=UJ bm;have hid:x.id<N:=by have C:=(IA.1 ak).1;rw [HN.out] at C;omega
   have qn:W.cell? ⟨b3,0,none⟩=some (.slice (some ⟨gN,0,none⟩) N N):=by have h:=hJ.st.b3.cell 0;rwa [r.out] at h
   have a3:=(hJ.st.setN (i:=x.id) (by rw [r.out];exact hid) 0).1;have cm:P.gN=gN:=by rw [r.out]
   have a9:P.b2=V:=by rw [r.out]
   rw [cm] at a3;have q2:=hJ.st.b2.cell 0;have z2:=hJ.st.b2.frozen 0;rw [a9] at q2 z2;obtain ⟨c0,bb⟩:∃ c0,nmL L x.id=c0:=⟨_,rfl⟩
   rw [bb] at a3;have fs:=qH bb;clear hJ hX bm ak ct cu bb cm a9;by_cases C:1<c0
   · have O:(1:Int)<(c0:Int):=by omega
     have HE:Hid (X=101):=qH (by rw [dw.out,aA];rintro ⟨h,_⟩;have h3:=h _ (OC ap.out);have h4:=fs.out;unfold RE.dat at h3;simp only at h3;omega)
     gi_wp2;have hm:=HJ.out.st.mvE (.int .i64 101) g1;have bo:=HJ.out.st.b2.put 0 (.int .i64 101);have a9:P.b2=V:=by rw [r.out]
     rw [a9] at hm bo;have af:=HJ.out.st.same;rw [ac.out] at af;have dy:=HJ.out.mark;have G:=HJ.out.st.b2;rw [a9] at G;refine ⟨hm.1,rfl,HE.out,bo,CC af dk.out _,?_⟩;refine (((eA (fun b=>b=V) W).put1 (i:=0) (.int .i64 101)).block D1 (sC.1 dy).1 fun e=>?_).trans dy;unfold Blk at G;rw [<- e,dy] at G;cases G
   have O:(c0:Int)<=1:=by omega
   have aq:Hid (CkK P L bc D1 (t++[x]) W):=qH ⟨HJ.out.st,HJ.out.mark,fun p hp=>by
    rw [DB] at hp;rcases YB.1 hp with hp | hp
    · exact HJ.out.ok p hp
    obtain rfl:=QB.1 hp;have h4:=fs.out;unfold RE.dat;simp only;omega⟩
   gi_wp2;exact ⟨KeepsFrom.refl _ _,eA _ _,aq.out⟩
  case stop2 =>
   rintro D2 c t W hr ⟨q,hP⟩ ⟨rfl,c5,c6,av,e6⟩ aj;gi_wp2;refine ⟨by simp,.inl ⟨_,_,rfl,run_takeDeferred aj,?_⟩⟩;have R:=(eA (yB (fun _=>False) g1 W) W).grown (grownBy_putObj' W D2 (.deferred none)) fun k e=>.inl (by cases e;exact GE aj rfl (by omega));have ah:=MQ e6 cp R;refine ⟨by simp,.inl ⟨_,_,rfl,run_takeDeferred ah,?_⟩⟩;have bx:=(eA (yB (fun _=>False) w.heap.size (W.putObj D2 (.deferred none))) (W.putObj D2 (.deferred none))).grown (grownBy_putObj' (W.putObj D2 (.deferred none)) D1 (.deferred none)) fun k e=>.inl (by cases e;exact GE ah rfl (by omega));exact NQ (R1:=V) rfl (((c6.it R id).it bx id).cell 0) (c8.out 101 _ c5 ((av.it R ax).it bx (lA _)))
  rintro D2 ys W hr dz hJ aj;have dz:ys.map RE.dat=L:=dz;have cq:=hJ.ok;rw [dz] at cq;have e1:=qH (dw.out.trans (show _=if (allL (bnx (filD k vs 32 l)) (stL L) l.length).length=L.length then 0 else 101 by
   by_cases h:(allL (bnx (filD k vs 32 l)) (stL L) l.length).length=L.length
   · rw [gA ⟨cq,h⟩,gA h]
   rw [aA (fun hh=>h hh.2),aA h]))
  have b9:=qH (chN (k:=k) (vs:=vs) (l:=l) (by rw [HL.out];exact gp.out) (by rw [HL.out];exact cq));have cr:=qH (chX (k:=k) (vs:=vs) (l:=l) (xs:=bc) (by rw [HL.out];exact bn.out));have e2:=PY l 0;have ft:=dM l 0;rw [HL.out,HN.out] at ft;have bz:Hid (PF W B f k vs 32 v l low):=qH (by have h:=hJ.st.file;rwa [r.out] at h)
  have bz:=qH (WS W bz.out);rw [HL.out] at e2;rw [<- e2] at bz;rw [HL.out,HN.out] at b9;rw [HL.out] at cr;rw [HN.out] at e1;have ai:=qH hJ.st;have e3:=qH hJ.mark;have e4:=qH aj;obtain ⟨I,al⟩:∃ I,bnx (filD k vs 32 l)=I:=⟨_,rfl⟩
  obtain ⟨nm,au⟩:∃ nm,nmL L=nm:=⟨_,rfl⟩
  obtain ⟨st,a7⟩:∃ st,stL L=st:=⟨_,rfl⟩
  obtain ⟨U,hU⟩:∃ U,L.map Prod.fst=U:=⟨_,rfl⟩
  obtain ⟨nL,cy⟩:∃ nL,L.length=nL:=⟨_,rfl⟩
  have bv:(stL L).length<=L.length:=by unfold stL;rw [nA];exact OL _ _
  rw [a7,cy] at bv;have gr:Hid (∀ j∈U,j<N):=qH fun j hj=>by rw [<- hU,<-HL.out] at hj;obtain ⟨p,hp,rfl⟩:=fC.1 hj;obtain ⟨_,y,ak,_⟩:=UJ hp;have C:=(IA.1 ak).1;rw [HN.out] at C;omega
  rw [al,a7,hU] at b9;rw [al,hU] at cr;rw [al,a7,cy] at e1;rw [au,a7] at ai;rw [cy] at bz ft;obtain ⟨sv,Y,a5,cx⟩:=hJ.st.st;rw [a7] at a5;obtain ⟨nS,cz⟩:∃ nS,st.length=nS:=⟨_,rfl⟩
  have fu:=qH cz;rw [cz] at bv;rw [cz] at a5;obtain ⟨A4,c4,rfl⟩:=WA a5;have bu:=qH a5;have q4:W.cell? ⟨b4,0,none⟩=some (.slice A4 nS c4):=by have h:=Y.cell 0;rwa [r.out] at h
  have q5:W.cell? ⟨b5,0,none⟩=some (.slice (some ⟨gX,0,none⟩) N N):=by have h:=ai.out.b5.cell 0;rwa [r.out] at h
  have q1:W.cell? ⟨b1,0,none⟩=some (.pointer (some ⟨f,0,none⟩)):=by have h:=ai.out.b1.cell 0;rwa [r.out] at h
  have fv:Hid (∀ (j:Nat) (u:Int),bc[j]?=some u->W.cell? ⟨gX,j,none⟩=some (.int .i64 u)):=qH fun j u h=>by have O:=ai.out.getX h gq.out;rwa [r.out] at O
  have q2:W.cell? ⟨V,0,none⟩=some (.int .i64 0):=by have h:=ai.out.b2.cell 0;rwa [r.out] at h
  have z2:W.frozen? ⟨V,0,none⟩=false:=by have h:=ai.out.b2.frozen 0;rwa [r.out] at h
  clear hJ aj cq e2 al au a7 hU cy cz Y a5 cx dw ao co dx bn;go_wp2_with fail;go_loopg [10,72] nS (fun gh eh hv wr=>∃ q M:Nat,nS-q=gh/\q<=nS/\hv=.int .i64 (q:Int)/\eh=.int .i64 (M:Int)/\Hid ((allL I (st.take q) N).length=M)/\wr=W)
  case atStart=>exact ⟨0,0,rfl,oA _,rfl,rfl,qH (by simp [allL]),rfl⟩
  obtain ⟨q,M,rfl,hq,rfl,rfl,KC,rfl⟩:=hrel;by_cases cs:q<nS
  · have j1:(q:Int)<(nS:Int):=by omega
    obtain ⟨bN,un,hA,_,_,hu,i7,_,_⟩:=EE bu.out cs;subst hA;obtain ⟨s,hs⟩:∃ s,st[q]?=some s:=⟨_,FA (by rw [fu.out];exact cs)⟩
    rw [MA,hs] at hu;have R:=eB hu;subst R;have fw:=b9.out.hS s (OC hs);have gs:=qH (b9.out.ends s (OC hs));have hT:=b9.out.len (q+1);rw [QY hs,KC.out] at hT;obtain ⟨T,d0⟩:∃ T,(aC I N s).length=T:=⟨_,rfl⟩
    have gu:Hid ((allL I (st.take (q+1)) N).length=M+T):=qH (by rw [QY hs,KC.out,d0]);rw [d0] at hT;have gv:=qH d0;have HQ:=qH cs;have gw:=qH fw;clear hs hu fw d0 KC;go_wp2_with fail;go_loopg [10,12] T (fun gh eh hw wy=>∃ (c:Nat) (id:Int),eh=.int .i64 (c:Int)/\hw=.int .i64 id/\c+gh=M+T/\Hid ((id = -1/\gh=0)\/∃ j m:Nat,id=(j:Int)/\j∈U/\rE I m j=true/\gh=(aC I m j).length)/\wy=wr)
    case atStart=>exact ⟨M,(s:Int),rfl,rfl,rfl,qH (.inr ⟨s,N,rfl,gw.out,gs.out,gv.out.symm⟩),rfl⟩
    obtain ⟨c,id,rfl,rfl,hy,KI,rfl⟩:=hrel;rcases KI.out with ⟨rfl,gg⟩ | ⟨j,m,rfl,bd,ei,i8⟩
    · obtain rfl:c=M+T:=by omega
      clear KI hy gg;go_wp2_with fail;go_roundg (nS-(q+1))
      case measure =>
       have:=HQ.out;omega
      case rel=>exact ⟨q+1,M+T,rfl,HQ.out,by go_num,rfl,gu,rfl⟩
    have gx:=gr.out j bd;have i5:¬ ((j:Int) = -1):=by omega
    rcases ZqQ ei with ⟨C,O⟩ | ⟨j',m',C,O,h3⟩
    · have hx:bc[j]?=some (-1):=by
       rcases cr.out j bd with ⟨_,h5⟩ | ⟨j2,h5,_⟩
       · exact h5
       rw [C] at h5;cases h5
      have a3:=fv.out j _ hx;have hb:c+1<=65536:=by omega
      have i6:c+1=M+T:=by omega
      clear KI C O hx ei bd;go_wp2_with fail;go_roundg 0
      case measure=>omega
      case rel=>exact ⟨c+1,-1,by go_num,rfl,by omega,qH (.inl ⟨rfl,rfl⟩),rfl⟩
    have hx:bc[j]?=some (j':Int):=by
     rcases cr.out j bd with ⟨h5,_⟩ | ⟨j2,h5,h6⟩
     · rw [C] at h5;cases h5
     rw [C] at h5;rw [eB h5];exact h6
    have a3:=fv.out j _ hx;have fx:=qH (show ∃ j0 m:Nat,(j':Int)=(j0:Int)/\j0∈U/\rE I m j0=true/\(aC I m' j').length=(aC I m j0).length from ⟨j',m',rfl,b9.out.hU j bd j' C,O,rfl⟩);have hb:c+1<=65536:=by omega
    have fy:c+1+(aC I m' j').length=M+T:=by omega
    obtain ⟨g2,gi⟩:∃ g2,(aC I m' j').length=g2:=⟨_,rfl⟩
    rw [gi] at fy h3 fx;clear KI C O hx ei bd gi;go_wp2_with fail;go_roundg g2
    case measure=>omega
    case rel=>exact ⟨c+1,(j':Int),by go_num,rfl,by omega,qH (.inr fx.out),rfl⟩
  have gy:q=nS:=by omega
  subst gy;have HE:Hid (X=if M=nL then 0 else 101):=qH (by have C:=KC.out;rw [cB (by rw [fu.out];exact lA _)] at C;rw [e1.out,C])
  clear KC cs;go_wp2_with fail;refine bz.out.mono ?_;rintro e w9 ⟨rfl,rfl⟩;have db:Hid (∀ (er:Int) (c7:Array Value),X=er->c7.getD 2 undef=.pointer (some ⟨V,0,none⟩)->bodyPostM Fence.wide 5 Tryz.prog Tryz.f69 OR Exit.ret ⟨c7,[{ target:=.collected D2,args:=#[] },{ target:=.collected D1,args:=#[] }]⟩ (wr.setCell ⟨V,0,none⟩ (.int .i64 er))):=qH fun er c7 hX ht=>by
   have a9:P.b2=V:=by rw [r.out]
   have G:=ai.out.b2;have af:=ai.out.same;rw [a9] at G;rw [ac.out] at af;have fz:=(eA (fun b=>b=V) wr).put1 (i:=0) (.int .i64 er);have g3:∀ D:Nat,wr.heap[D]?=some (.deferred (some []))->¬ D=V:=fun D h e=>by unfold Blk at G;rw [<- e,h] at G;cases G
   have aj:=(fz.block D2 (sC.1 e4.out).1 (g3 D2 e4.out)).trans e4.out;have e6:=(fz.block D1 (sC.1 e3.out).1 (g3 D1 e3.out)).trans e3.out;have g5:=G.put 0 (.int .i64 er);have fk:Same w (wr.setCell ⟨V,0,none⟩ (.int .i64 er)):=CC af dk.out _;generalize wr.setCell ⟨V,0,none⟩ (.int .i64 er)=W0 at *;refine ⟨by simp,.inl ⟨_,_,rfl,run_takeDeferred aj,?_⟩⟩;have R:=(eA (yB (fun _=>False) g1 W0) W0).grown (grownBy_putObj' W0 D2 (.deferred none)) fun k e=>.inl (by cases e;exact GE aj rfl (by omega));have ah:=MQ e6 cp R;refine ⟨by simp,.inl ⟨_,_,rfl,run_takeDeferred ah,?_⟩⟩;have bx:=(eA (yB (fun _=>False) w.heap.size (W0.putObj D2 (.deferred none))) (W0.putObj D2 (.deferred none))).grown (grownBy_putObj' (W0.putObj D2 (.deferred none)) D1 (.deferred none)) fun k e=>.inl (by cases e;exact GE ah rfl (by omega));exact NQ (R1:=V) ht (((g5.it R id).it bx id).cell 0) (c8.out er _ hX ((fk.it R ax).it bx (lA _)))
  by_cases e7:M=nL
  · have e8:Hid (X=0):=qH (HE.out.trans (gA e7));subst e7;clear HE;go_wp2;exact db.out 0 _ e8.out rfl
  have e8:Hid (X=101):=qH (HE.out.trans (aA e7));have i0:¬ (M:Int)=(nL:Int):=by omega
  clear HE;go_wp2;exact db.out 101 _ e8.out rfl
 rintro D c t W hD ⟨q,hP⟩ ⟨rfl,c5,c6,av⟩ hK;gi_wp2;refine ⟨by simp,.inl ⟨_,_,rfl,run_takeDeferred hK,?_⟩⟩;have R:=(eA (yB (fun _=>False) g0 W) W).grown (grownBy_putObj' W D (.deferred none)) fun k e=>.inl (by cases e;exact GE hK rfl (by omega));exact NQ (R1:=V) rfl ((c6.it R id).cell 0) (c8.out 100 _ c5 (av.it R dj))
end Go.Proofs.YtmkjfhnlnhceiaaGreatDoor
