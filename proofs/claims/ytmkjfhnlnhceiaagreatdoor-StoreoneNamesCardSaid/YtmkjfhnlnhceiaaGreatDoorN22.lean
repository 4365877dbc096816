/- Texts that the claim leans on: walks and plain laws, function by function. -/
import Derived.Test.YtmkjfhnlnhceiaaGreatDoorN21
set_option maxRecDepth 100000
set_option maxHeartbeats 16000000
namespace Go.Proofs.YtmkjfhnlnhceiaaGreatDoor
section
open Go.RowKit Go.Shelf
attribute [local go_sem] Ybq
theorem Ztq (a b:Int):IntKind.i64.wrap (IntKind.i64.wrap a+b)=IntKind.i64.wrap (a+b):=by simp only [YbQ];omega
theorem Zlb {β:Type} {B:Nat} {I:β->World->Prop} (h:∀ s W W',I s W->Upd (fun k=>B<=k) W W'->I s W'):OwnFrom B I:=fun s W W' b c a d =>
 h s W W' c ⟨a.os,a.tape,a.output,a.size,fun k _ f=>a.block k qA fun e=>f (d k e.symm).1⟩
theorem ZnQ (g:GR) (w:World):Calls Tryz.prog 84 #[g.agg] w fun e w'=>e=.returned (.func (.func 140) #[] #[.pointer (some ⟨w.heap.size,0,none⟩)])/\w'=w.alloc (.cells #[.slice g.AN g.nN g.cN,.slice g.AR g.nR g.cR] 26):=by obtain ⟨a,AN,nN,cN,b,AR,nR,cR⟩:=g;go_enter Tryz.func84,Tryz.ntmps84;go_wp2;go_ret;exact ⟨rfl,rfl⟩
theorem Zmo {F:Nat->Prop} (w:World) (g:GR) (h:RdG w F g) (hf:GFit g) (hs:wsum (g.ns.flatMap ND.props)+wsum (g.rs.flatMap RL.props)<=4611686018427387904) :
 Calls Tryz.prog 40 #[g.agg] w fun e w'=>e=.returned (.int .i64 ((wsum (g.ns.flatMap ND.props)+wsum (g.rs.flatMap RL.props):Nat):Int))/\Same w w':=by
 obtain ⟨T,hT⟩:∃ T,wsum (g.ns.flatMap ND.props)+wsum (g.rs.flatMap RL.props)=T:=⟨_,rfl⟩
 rw [hT] at hs ⊢;have HT:=qH (show wsum (allP g)=T by unfold allP;rw [ZoN];exact hT);have a7:g.agg=.agg #[.slice g.AN g.nN g.cN,.slice g.AR g.nR g.cR]:=rfl;have E:=((Yaa (fun _=>False) w).alloc (.cells #[.slice g.AN g.nN g.cN,.slice g.AR g.nR g.cR] 26)).alloc (.cells #[.int .i64 0] 3);have P:=(Yad w 26 #[.slice g.AN g.nN g.cN,.slice g.AR g.nR g.cR]).alloc (.cells #[.int .i64 0] 3);have G:=Yad (w.alloc (.cells #[.slice g.AN g.nN g.cN,.slice g.AR g.nR g.cR] 26)) 3 #[.int .i64 0];simp only [Yav] at G;have q:((w.alloc (.cells #[.slice g.AN g.nN g.cN,.slice g.AR g.nR g.cR] 26)).alloc (.cells #[.int .i64 0] 3)).heap.size=w.heap.size+1+1:=by simp only [Yav]
 have a8:=qH q;have a9:=qH E;have ak:=qH P;have aa:=qH G;have HF:=qH (show ∀ x∈allP g,x.g.text.size<=9223372036854775807/\∀ s∈x.g.texts,s.size<=9223372036854775807 from fun x d=>by
  unfold allP at d;rcases YaR.1 d with d | d
  · obtain ⟨y,L,j⟩:=Yby.1 d;exact hf.nodes y L x j
  obtain ⟨y,L,j⟩:=Yby.1 d;exact hf.rels y L x j)
 have R:=qH (show ∀ (W:World),Same w W->∀ x∈allP g,Zdu W F x.A1 x.n1 x.c1 x.A2 x.n2 x.c2 x.g from fun W hW x d=>by
  have hR:=h.same hW;unfold allP at d;rcases YaR.1 d with d | d
  · obtain ⟨y,L,j⟩:=Yby.1 d;exact (hR.nodes.pro y L).val x j
  obtain ⟨y,L,j⟩:=Yby.1 d;exact (hR.rels.pro y L).val x j)
 have ab:=qH ((h.mono (F':=fun b=>b<w.heap.size) fun b u _=>by first | exact u | exact u).same E);have HS:=qH hs;clear h E P G q hf hs hT;rw [a7];refine (YaO (n:=5)).1 ?_;have al:Fence.wide.fn 84:=trivial;have S:Fence.wide.fn 140:=trivial;have am:Fence.wide.fn 87:=trivial;refine callsIn_of_wp_marks Tryz.func40 rfl trivial ?_ rfl;simp only [Tryz.ntmps40,YbV,Yao,YaS,Nat.reduceAdd,Nat.reduceSub,Yda,Ydb,Ydc,Ydd,YaK,YaE];gi_wp2_with (gi_at_call 84;refine (YaO.2 (ZnQ g _)).mono ?_;rintro e M ⟨rfl,rfl⟩);generalize (w.alloc (.cells #[.slice g.AN g.nN g.cN,.slice g.AR g.nR g.cR] 26)).alloc (.cells #[.int .i64 0] 3)=w1 at *;have q:=a8.out;have sA:=(Yaa (fun _=>False) w1).alloc (.cells #[.slice g.AN g.nN g.cN,.slice g.AR g.nR g.cR] 26);have H:=Yad w1 26 #[.slice g.AN g.nN g.cN,.slice g.AR g.nR g.cR];rw [q] at H;have U:=ab.same sA;have V:=aa.same sA;have I:Same w (w1.alloc (.cells #[.slice g.AN g.nN g.cN,.slice g.AR g.nR g.cR] 26)):=a9.same sA;have ac:(w1.alloc (.cells #[.slice g.AN g.nN g.cN,.slice g.AR g.nR g.cR] 26)).heap.size=w.heap.size+1+1+1:=by rw [Yav,q]
 obtain ⟨M,a0⟩:∃ M,w1.alloc (.cells #[.slice g.AN g.nN g.cN,.slice g.AR g.nR g.cR] 26)=M:=⟨_,rfl⟩
 rw [a0] at sA H U V I ac ⊢;clear a0;refine wpIn_rangeFunc_ownH rfl qO (gf:=140) (lb:=#[.pointer (some ⟨w.heap.size+1+1,0,none⟩)]) rfl S (enters_of Tryz.func140 (by kernel_rfl) rfl)
  (Zje Fence.wide _ S rfl qO (w.heap.size+1+1) g (fun k=>k=w.heap.size+1\/M.heap.size<=k) (fun b=>b<w.heap.size) qO (fun b u=>qO) M (fun b u=>.inr u) H U) ZtW (ZtX fun k v=>.inr v) (YdX _ _) (fun _=>rfl)
  (fun m W=>Hid (Blk W (w.heap.size+1) 3 #[.int .i64 (IntKind.i64.wrap (wsum (m.map Subtype.val):Int))])/\Hid (Upd (fun k=>k=w.heap.size+1) M W))
  (fun _ _ _=>False)
  (Zlb fun m W W' ⟨a,B⟩ t=>⟨qH (a.upd t qO),qH (B.trans t fun b u hh=>qO)⟩)
  (fun _ _ _ _ _ hs _ _=>hs)
  ⟨qH V,qH (Yaa _ _)⟩
  (fun x a' W=>∃ C:Nat,a'={ tmps:=#[.agg #[.slice g.AN g.nN g.cN,.slice g.AR g.nR g.cR],.pointer (some ⟨w.heap.size,0,none⟩),.pointer (some ⟨w.heap.size+1,0,none⟩),.pointer (some ⟨C,0,none⟩),.agg #[.slice g.AN g.nN g.cN,.slice g.AR g.nR g.cR],.func (.func 140) #[] #[.pointer (some ⟨w.heap.size+1+1,0,none⟩)],PR.agg x.1,undef,undef,undef,undef,undef,undef],defers:=[] }/\Hid (Blk W C 53 x.1.cells.toArray))
  (fun x a'=>fun _ W W' ao ⟨C,h1,h2⟩ hg hr=>⟨C,h1,qH ((hg.block C h2.lt fun e=>by obtain ⟨o,ho,hc⟩:=(hr C e.symm).2;have a:=h2.out;unfold Blk at a;rw [a] at ho;cases ho;cases hc).trans h2)⟩) ?assign ?body ?done ?stop
 case assign =>
  rintro l m x W K ⟨a,B⟩ hK;have X:=(Yaa (fun k=>M.heap.size<=k) W).alloc (.cells x.1.cells.toArray 53);have ad:=qH (hK _ (W.alloc (.cells x.1.cells.toArray 53)) (KeepsOthers.from (KeepsOthers.alloc W _) _) ((Yaa _ W).alloc _) ⟨qH (a.upd X qO),qH (B.alloc _)⟩ ⟨_,rfl,qH (Yad W _ _)⟩);clear hK X;gi_wp2;exact ad
 case body =>
  rintro l' m x a' W ap aq ⟨a,B⟩ ⟨C,rfl,a3⟩ ar;have d:=HF.out x.1 x.2;have ae:Same w W:=I.trans B.out fun b u hh=>qO;have hV:=R.out W ae x.1 x.2;obtain ⟨⟨kx,⟨x0,x1,x2,x3,x4⟩,X1,a1,b1,X2,a2,b2⟩,aj⟩:=x;have A:Blk W C 53 #[.string kx,.int .i64 x0,.int .i64 x1,.string x2,.slice X1 a1 b1,.slice X2 a2 b2]:=a3.out;have p1:=A.c1;have p2:=A.c2;have p3:=A.c3;have p4:=A.c4;have p5:=A.c5;obtain ⟨sm,N⟩:∃ sm,IntKind.i64.wrap (wsum (m.map Subtype.val):Int)=sm:=⟨_,rfl⟩
  rw [N] at a;have c2:=a.c0;have f2:=a.frozen 0;have an:Tryz.prog.follows .mixedOrders=true:=by kernel_rfl
  have HX:=qH d;have HV:=qH hV;have HB:=qH A;obtain ⟨ln,O⟩:∃ ln,(enc ⟨x0,x1,x2,x3,x4⟩).length=ln:=⟨_,rfl⟩
  have af:=qH O;obtain ⟨p,a4⟩:∃ p,IntKind.i64.wrap (sm+(ln:Int))=p:=⟨_,rfl⟩
  have Y:=qH (show IntKind.i64.wrap (wsum ((m++[(⟨⟨kx,⟨x0,x1,x2,x3,x4⟩,X1,a1,b1,X2,a2,b2⟩,aj⟩:{ x:PR // x∈allP g })]).map Subtype.val):Int)=p from by rw [YaG,ZoN,<-a4,<-N,Ztq,<-O];simp [wsum])
  clear d hV a3 A N O;gi_wp2
  gi_region_with_o (gi_at_call 87;refine (CallsIn.inRound l' (YaO.2 (Znn _ (HV.same (by first | exact Yaa _ _ | exact (Yaa _ _).drew)) HX.1 HX.2))).mono ?_;rintro e w3 ⟨rfl,a5⟩;rw [af.out];have z:Same W w3:=(by first | exact a5 | exact ((Yaa (fun _=>False) _).drew).same a5);have c3:w3.cell? ⟨w.heap.size+1,0,none⟩=some (.int .i64 sm):=(a.same z).cell 0;have f3:w3.frozen? ⟨w.heap.size+1,0,none⟩=false:=(a.same z).frozen 0)
  all_goals
   have t:Upd (fun k=>k=w.heap.size+1) W (w3.setCell ⟨w.heap.size+1,0,none⟩ (.int .i64 p)):=(z.mono fun _ _ f=>f.elim).put1 (.int .i64 p);refine ⟨⟨t.size,fun k o A v _=>(t.block k (YaX.1 v).1 qO).trans v⟩,⟨t.os,t.tape,t.output,t.size,fun k v hn=>t.block k v fun e=>hn (.inl e)⟩,qH ?_,qH (B.trans t fun b u hh=>hh)⟩;rw [Y.out];exact (a.same z).put 0 (.int .i64 p)
 case done =>
  rintro D ys W hD a6 ⟨a,B⟩ hK;have he:IntKind.i64.wrap (wsum (ys.map Subtype.val):Int)=(T:Int):=by have h9:ys.map Subtype.val=allP g:=a6;rw [h9,HT.out,YbQ];have:=HS.out;omega
  rw [he] at a;have c2:=a.c0;have f2:=a.frozen 0;have ag:=qH (show Same w W from I.trans B.out fun b u hh=>qO);clear a6 he;gi_wp2;have Z:=(KeepsOthers.setCell W ⟨w.heap.size+1,0,none⟩ (.int .i64 (T:Int))).same D _ hK rfl;refine ⟨by simp,.inl ⟨_,_,rfl,run_takeDeferred Z,?_⟩⟩;have ah:=cell_kept (World.cell?_setCell_same' W ⟨w.heap.size+1,0,none⟩ (.int .i64 (T:Int)) (by rw [c2];rfl)) (grownBy_putObj' _ D (.deferred none)) (fun r e=>by cases e;exact ⟨_,Z,rfl⟩);have ai:=(Yaa (fun k=>k=D) (W.setCell ⟨w.heap.size+1,0,none⟩ (.int .i64 (T:Int)))).grown (grownBy_putObj' _ D (.deferred none)) fun k v=>.inl (by injection v with v;exact v.symm);refine ⟨.int .i64 (T:Int),?_,rfl,(ag.putNew (r:=w.heap.size+1) (i:=0) (YeW _) (.int .i64 (T:Int))).trans ai fun b u hh=>qO⟩;simp [results,Tryz.f40,go_sem,ah]
 rintro D c m W _ _ h _;exact h.elim
end
section
open Go.RowKit
def ZeW (a b c t:Nat):Int:=if 200<a\/200<b\/200<c then 66 else if 262144<t then 67 else 0
theorem ZrA {F:Nat->Prop} (w:World) (g:GR) (h:RdG w F g) (hf:GFit g) (ht:ZhL g) (hE:Zbu g.dat=none) (hT:∀ k,(Zam g.dat k).length<=8796093022208) {m:Int->List ByteArray} (hm:∀ k,Srt (Zam g.dat k) (m k))
 (hW:wsum (g.ns.flatMap ND.props)+wsum (g.rs.flatMap RL.props)<=4611686018427387904) {tl:Int} (htl:ZeW (m 1).length (m 2).length (m 3).length (wsum (g.ns.flatMap ND.props)+wsum (g.rs.flatMap RL.props))=tl) :
 Calls Tryz.prog 16 #[g.agg] w fun x w'=>x=.returned (.tuple #[.int .i64 tl,.int .i64 0])/\Same w w':=by
 have HT:=qH hT;have HM:=qH hm;have HW:=qH hW;have a8:=qH htl;have bc:=qH ht;clear hT hm hW htl ht;obtain ⟨ns,AN,G,cN,rs,AR,u,cR⟩:=g;have HE:=qH hE;have a9:=h.nodes.row.max;have bd:=h.nodes.row.le;have I:=h.rels.row.max;have aa:=h.rels.row.le;unfold maxLen at a9 I;have bf:=hf.nN;have bg:=hf.nR;have HL:=qH h.nodes.len;have ab:=qH h.rels.len;simp only at a9 bd I aa bf bg HL ab;have ac:=(Yaa (fun _=>False) w).alloc (.cells #[.slice AN G cN,.slice AR u cR] 26);have ad:=qH (Yad w 26 #[.slice AN G cN,.slice AR u cR]);have P:=MapI.made (w.alloc (.cells #[.slice AN G cN,.slice AR u cR] 26));have R:=ac.alloc (.map #[] 0);have ae:=qH (ad.alloc (.map #[] 0));rw [Yav] at P;have bh:=qH P;have bi:=qH ((h.mono (F':=fun b=>b<w.heap.size) fun b hb _=>hb).same R);have bj:=qH R;have HF:=qH hf;have bk:=@YcC Tryz.prog;clear h hf hE ac R P ad;go_enter Tryz.func16,Tryz.ntmps16;go_upto_region 2 with fail;clear bk;generalize (w.alloc (.cells #[.slice AN G cN,.slice AR u cR] 26)).alloc (.map #[] 0)=w1 at *;have p0:=ae.c0;go_wp2_with fail;clear p0;go_loopg [15] G (fun gh ix wr=>∃ (i:Nat) (f:Int->Int),G-i=gh/\i<=G/\ix=.int .i64 i/\Hid (MapI wr (w.heap.size+1) i f)/\Hid (∀ y,f y=(((ns.map ND.id).take i).count y:Nat))/\Hid (Upd (fun k=>k=w.heap.size+1) w1 wr)/\Hid (ZaR none 0 (ns.map ND.dat)=ZaR (ZaT ND.id ns i) i ((ns.map ND.dat).drop i)))
 case atStart=>exact ⟨0,_,rfl,Yah _,rfl,bh,qH (by simp),qH (Yaa _ _),qH rfl⟩
 obtain ⟨i,f,rfl,hi,rfl,KM,KF,KU,KE⟩:=hrel;have S:Same w wr:=bj.trans KU.out fun b hb hh=>qO;have U:=qH S;have z:=qH (bi.upd KU fun b hb hh=>qO);have V:=qH (ae.upd KU qO);have bz:=S.size;clear S;by_cases s:i<G
 · obtain ⟨b,o,x,hA,hb,_,H,b2,r0,r1,r2⟩:=z.nodes.at_ s;simp only at hA;subst hA;have d:=KE.out;have A:(ns.map ND.dat)[i]?=some x.dat:=by rw [Yau,H];rfl
   rw [ZdQ A] at d;simp only [ZaR] at d;have W:=qH (z.nodes.id x b2);have HX:=qH H;have af:=qH (ZeM (l:=ns.map ND.id) (i:=i) (x:=x.id) (by rw [Yau,H];rfl));have X:=qH (show ZaT ND.id ns (i+1)=some x.dat.id from by simp only [ZaT,H];rfl);obtain ⟨C,hC⟩:∃ C,Zcx (ZaT ND.id ns i) x.dat=C:=⟨_,rfl⟩
   have HC:=qH hC;rw [hC] at d;have HK:=qH d;obtain ⟨id,hid⟩:∃ id,x.id=id:=⟨_,rfl⟩
   obtain ⟨AL,nL,cL,hL⟩:∃ a b c,x.AL=a/\x.nL=b/\x.cL=c:=⟨_,_,_,rfl,rfl,rfl⟩
   obtain ⟨AP,nP,cP,hP⟩:∃ a b c,x.AP=a/\x.nP=b/\x.cP=c:=⟨_,_,_,rfl,rfl,rfl⟩
   obtain ⟨b3,b4,b5⟩:=hL;obtain ⟨b6,b7,b8⟩:=hP;rw [hid] at r0 W af;rw [b3,b4,b5] at r1;rw [b6,b7,b8] at r2;have t:=(Yaa (fun _=>False) wr).alloc (.cells #[.int .i64 id,.slice AL nL cL,.slice AP nP cP] 56);have ag:=qH (Yad wr 56 #[.int .i64 id,.slice AL nL cL,.slice AP nP cP]);have ah:=qH (z.same t);have ai:=qH (KM.same t);have aj:=qH (KU.same t);have ak:=qH (U.same t);have p0:=(V.same t).c0;clear t H b2 A d hC b3 b4 b5 b6 b7 b8 z U KM KU;go_wp2_with fail;refine (ZfK _ ah.nodes HF.nodes s HX HC).mono ?_;rintro y w7 ⟨rfl,p⟩;have bl:=qH (ak.same p);have al:=qH (ai.same p);have bm:=qH (aj.same p);have q0:=(ag.same p).c0;clear p p0 r0 r1 r2 ak ai aj ah ag;by_cases L:C=0
   · subst L;have Y:=qH ((Yab (by simp)).symm.trans HK.symm);obtain ⟨lk,l1,l2⟩:=al.fit W.out;have am:=KF.out id;have bn:((ns.map ND.id).take i).count id<=i:=Yaj Yfo (by rw [YaJ];omega);obtain ⟨fv,a5⟩:∃ v,f id=v:=⟨_,rfl⟩
     rw [a5] at lk am;obtain ⟨a6,N⟩:∃ v,fv+1=v:=⟨_,rfl⟩
     have c2:IntKind.i64.wrap (fv+1)=a6:=by rw [YbQ];omega
     obtain ⟨w8,b9,ba,bb⟩:=al.put (v:=a6) (by unfold maxLen;omega) W.out qO;have bo:=qH ba;have bp:=qH (bm.trans bb fun _ _ h=>h);have bq:=qH (show f id+1=a6 from by rw [a5,N]);clear ba bb am a5 N bn;go_wp2_with (at_mapUpdate;go_must (refine Zbr rfl _ _ _ _ rfl rfl rfl rfl b9 ?_));go_roundg (G-(i+1))
     case measure=>omega
     refine ⟨i+1,_,rfl,qO,by go_num,bo,qH fun y=>?_,bp,qH ?_⟩
     · rw [af.out y];by_cases hy:y=id
       · subst hy;rw [Yac rfl,Yac rfl,<-bq.out,KF.out];simp
       rw [Yab hy,Yab hy,KF.out];simp
     rw [X.out];exact Y.symm
   have hk:=(Yac L).symm.trans HK.symm;have c3:(C != 0)=true:=by rw [Ybh];exact L
   have n:=HE.out;unfold Zbu at n;simp only [GR.dat] at n;rw [<- hk] at n;cases n
 have br:i=G:=qO;subst br;have d:=KE.out;rw [Ybt (by rw [Yag,HL.out];omega)] at d;simp only [ZaR] at d;have n:=HE.out;unfold Zbu at n;simp only [GR.dat] at n;rw [d] at n;have Z:=Option.map_eq_none_iff.1 n;have a0:Zgp (GR.dat ⟨ns,AN,i,cN,rs,AR,u,cR⟩)=fun y=>f y != 0:=by
  funext y;have hf:=KF.out y;rw [YaB (by rw [Yag,HL.out];omega)] at hf;unfold Zgp;simp only [GR.dat,Ybf];have a1:(ns.map (Zaw.id ∘ ND.dat))=ns.map ND.id:=Ycq fun _ _=>rfl;rw [a1];by_cases hm:y∈ns.map ND.id
  · rw [YaV hm];have:0<(ns.map ND.id).count y:=Yfp.2 hm;rw [eq_comm,Ybh];omega
  rw [YaM hm];have:(ns.map ND.id).count y=0:=Ygb.2 hm;have L:f y=0:=qO;rw [L];rfl
 simp only [GR.dat] at a0;rw [a0] at Z;have an:=qH Z;have p1:=V.c1;have bs:=qH KM.out;clear d n Z a0 KE KF KU HE s KM;go_wp2_with fail;clear p1;generalize wr=w2 at *;go_loopg [37] u (fun gh ix wr=>∃ (j:Nat),u-j=gh/\j<=u/\ix=.int .i64 j/\Hid (Same w2 wr)/\Hid (Zbt (fun y=>f y != 0) none 0 (rs.map RL.dat)=Zbt (fun y=>f y != 0) (ZaT RL.id rs j) j ((rs.map RL.dat).drop j)))
 case atStart=>exact ⟨0,rfl,Yah _,rfl,qH (Yaa _ _),qH rfl⟩
 obtain ⟨j,rfl,hj,rfl,KS,KE⟩:=hrel;have ao:=qH (z.same KS);have a2:=qH (V.same KS);have bt:=qH (bs.same KS);have a3:=qH (U.same KS);have d:=KE.out;rw [an.out] at d;clear KE;by_cases s:j<u
 · have ap:j<rs.length:=by rw [ab.out];exact s
   obtain ⟨x,H⟩:∃ x,rs[j]?=some x:=⟨_,Yar ap⟩
   have A:(rs.map RL.dat)[j]?=some x.dat:=by rw [Yau,H];rfl
   rw [ZdQ A] at d;simp only [Zbt] at d;have HX:=qH H;have X:=qH (show ZaT RL.id rs (j+1)=some x.dat.id from by simp only [ZaT,H];rfl);obtain ⟨C,hC⟩:∃ C,Zdh (fun y=>f y != 0) (ZaT RL.id rs j) x.dat=C:=⟨_,rfl⟩
   have HC:=qH hC;rw [hC] at d;have HK:=qH d;have p1:=a2.c1;clear H A d hC ap;go_wp2_with fail;refine (Zgo _ ao.rels HF.rels bt s HX HC).mono ?_;rintro y w7 ⟨rfl,p⟩;have bl:=qH (a3.same p);have c4:=qH (a2.same p);by_cases L:C=0
   · subst L;have hk:=HK.trans (Yab (by simp));have Y:=qH hk;have bu:=qH (KS.same p);clear hk a3 p1 p;go_wp2;go_roundg (u-(j+1))
     case measure=>omega
     case rel=>exact ⟨j+1,rfl,qO,by go_num,bu,qH (by rw [an.out,X.out];exact Y)⟩
   have hk:=HK.trans (Yac L);cases hk
 clear d;generalize wr=w9 at *;go_wp2_with fail;go_loopg [54,2,3] 3 (fun gh ix s2 s3 wr=>∃ r:Nat,3-r=gh/\r<=3/\ix=.int .i64 r/\Hid (∀ q:Nat,q<r->(m ((q:Int)+1)).length<=200)/\Hid (Same w9 wr))
 case atStart=>exact ⟨0,rfl,Yah _,rfl,qH (fun q hq=>qO),qH (Yaa _ _)⟩
 obtain ⟨r,rfl,hr,rfl,KQ,KR⟩:=hrel;have aq:=qH (ao.same KR);have ar:=qH (a2.same KR);have au:=qH (a3.same KR);have p0:=ar.c0;have p1:=ar.c1;by_cases c5:r<3
 · have c6:IntKind.i64.wrap ((r:Int)+1)=(r:Int)+1:=by rw [YbQ];omega
   go_wp2_with fail;refine (ZoW wr wr ⟨ns,AN,i,cN,rs,AR,u,cR⟩ (Yaa _ _) aq bc ((r:Int)+1) (HT.out _) (HM.out ((r:Int)+1))).mono ?_;rintro e c7 ⟨c8,c9,rfl,_,E,_⟩;have av:=qH (au.same E);have aw:=qH (KR.same E);obtain ⟨ml,a7⟩:∃ ml,(m ((r:Int)+1)).length=ml:=⟨_,rfl⟩
   rw [a7];have ax:=qH a7;clear E p0 p1 a7;by_cases B:200<ml
   · have a4:(200:Int)<ml:=qO;have ay:=qH (show (66:Int)=tl from by
      rw [<- a8.out];unfold ZeW;have h1:=ax.out;have h2:r=0\/r=1\/r=2:=qO;rcases h2 with rfl | rfl | rfl
      · rw [Yac (.inl (by simp at h1;omega))]
      · rw [Yac (.inr (.inl (by simp at h1;omega)))]
      rw [Yac (.inr (.inr (by simp at h1;omega)))])
     go_wp2
     go_ret2
     exact ⟨by rw [<- ay.out];rfl,av⟩
   have a4:¬ (200:Int)<ml:=qO;go_wp2;go_roundg (3-(r+1))
   case measure=>omega
   refine ⟨r+1,rfl,qO,by go_num,qH fun q hq=>?_,aw⟩;by_cases bv:q=r
   · subst bv;rw [ax.out];omega
   exact KQ q qO
 have az:r=3:=qO;subst az;have h0:=KQ.out 0 qO;have h1:=KQ.out 1 qO;have h2:=KQ.out 2 qO;simp at h0 h1 h2;obtain ⟨T,hT⟩:∃ T,wsum (ns.flatMap ND.props)+wsum (rs.flatMap RL.props)=T:=⟨_,rfl⟩
 have bw:=HW.out;rw [hT] at bw;have bx:=qH hT;have b0:=qH (show (if 262144<T then (67:Int) else 0)=tl from by have h9:=a8.out;unfold ZeW at h9;rw [hT] at h9;have e2:(1:Int)+1=2:=rfl;have e3:(2:Int)+1=3:=rfl;rw [Yab (by rintro (h | h | h) <;> omega)] at h9;exact h9)
 clear hT h0 h1 h2;go_wp2_with fail;refine (Zmo wr ⟨ns,AN,i,cN,rs,AR,u,cR⟩ aq HF HW).mono ?_;rintro e ca ⟨rfl,O⟩;have M:=qH (au.same O);have b1:=bx.out;rw [b1];clear O p0 p1 b1;by_cases B:262144<T
 · have a4:(262144:Int)<(T:Int):=qO;have D:=b0.out;rw [Yac B] at D;subst D;go_wp2
   go_ret2
   exact ⟨rfl,M⟩
 have a4:¬ (262144:Int)<(T:Int):=qO;have D:=b0.out;rw [Yab B] at D;subst D;go_wp2
 go_ret2
 exact ⟨rfl,M⟩
end
section
def ZeX (g:ZaN) (tl:Int):Int×Nat :=
 match Zbu g with
 | some x=>x
 | none=>(tl,0)
theorem Zkg (x:ByteArray):∀ m:List ByteArray,m.Pairwise ltS->∃ m':List ByteArray,m'.Pairwise ltS/\∀ y,y∈m'↔y=x\/y∈m
 | [],_=>⟨[x],by simp,by simp⟩
 | a::m,h=>by
   obtain ⟨d,f⟩:=YbK.1 h;rcases Zbd.tot x a with c | c | c
   · exact ⟨x::a::m,YbK.2 ⟨fun y b=>by
      rcases Yat.1 b with rfl | b
      · exact c
      exact Zbd.tr c (d y b),h⟩,fun y=>by simp⟩
   · subst c;exact ⟨x::m,h,fun y=>by simp⟩
   obtain ⟨m',g,e⟩:=Zkg x m f;refine ⟨a::m',YbK.2 ⟨fun y b=>?_,g⟩,fun y=>?_⟩
   · rcases (e y).1 b with rfl | b
     · exact c
     exact d y b
   rw [Yat,e,Yat];constructor
   · rintro (h | h | h)
     · exact .inr (.inl h)
     · exact .inl h
     exact .inr (.inr h)
   rintro (h | h | h)
   · exact .inr (.inl h)
   · exact .inl h
   exact .inr (.inr h)
theorem Zkh:∀ l:List ByteArray,∃ m,Srt l m
 | []=>⟨[],List.Pairwise.nil,fun _=>Iff.rfl⟩
 | x::l=>by obtain ⟨m,a,b⟩:=Zkh l;obtain ⟨c,d,e⟩:=Zkg x m a;exact ⟨c,d,fun y=>by rw [e,b,Yat]⟩
theorem ZrB (f:Int->List ByteArray):∃ m:Int->List ByteArray,∀ k,Srt (f k) (m k):=Classical.axiomOfChoice fun k=>Zkh (f k)
theorem Zvx (g:GVal):(enc g).length<=65536:=by
 unfold enc;split
 · rename_i h;obtain ⟨_,_,_,d,e,f,a⟩:=Zfo h;rw [Yaf,Zab];unfold Zcu;split
   · have:=ZdM g.kind g.num;omega
   split
   · rw [Zcw];omega
   rw [Yaf,Yaf,Zab];have b:=ZcX (g.kind-4) g.nums;have c:=ZcI g.texts a;omega
 simp
theorem Zki (ps:List PR):wsum ps<=65536*ps.length:=by
 induction ps with
 | nil=>simp [wsum]
 | cons x l ih =>
   have h:=Zvx x.g;have e:wsum (x::l)=(enc x.g).length+wsum l:=by simp [wsum]
   rw [e,Yao];omega
def Zie:Option Int->Int
 | none=>0
 | some q=>q+1
theorem ZcB:∀ (prev:Option Int) (i:Nat) (l:List Zaw),ZaR prev i l=none->(l≠[]->(l.length:Int)<=1024-Zie prev)/\∀ x∈l,(0<=x.id/\x.id<1024)/\x.labels.length<=8/\x.props.length<=16
 | _,_,[],_=>⟨by simp,by simp⟩
 | prev,i,x::l,h=>by
   simp only [ZaR] at h;by_cases a:Zcx prev x=0
   · rw [Yab (by rw [a];simp)] at h;obtain ⟨o,p⟩:=ZcB (some x.id) (i+1) l h;unfold Zcx at a;by_cases g:x.id<0\/1024<=x.id
     · rw [Yac g] at a;cases a
     rw [Yab g] at a;by_cases d:ZaO x.id prev=true
     · rw [Yac d] at a;cases a
     rw [Yab d] at a;by_cases c:Zba x.labels≠0
     · rw [Yac c] at a;exact absurd a c
     rw [Yab c] at a;have j:x.labels.length<=8:=by
      by_cases e:8<x.labels.length
      · exact absurd (by unfold Zba;rw [Yac e];decide) c
      omega
     have k:x.props.length<=16:=by
      by_cases e:16<x.props.length
      · unfold Zbc at a;rw [Yac e] at a;cases a
      omega
     refine ⟨fun _=>?_,fun y f=>?_⟩
     · rw [Yao];have m:Zie prev<=x.id:=by
        cases prev with
        | none=>simp only [Zie];omega
        | some q=>simp [ZaO] at d;simp only [Zie];omega
       by_cases b:l=[]
       · subst b;simp only [YaS];omega
       have n:=o b;simp only [Zie] at n;omega
     rcases Yat.1 f with rfl | f
     · exact ⟨qO,j,k⟩
     exact p y f
   rw [Yac a] at h;cases h
theorem Zfz (th:Int->Bool):∀ (prev:Option Int) (i:Nat) (l:List GRel),Zbt th prev i l=none->(l≠[]->(l.length:Int)<=2048-Zie prev)/\∀ x∈l,th x.src=true/\th x.dst=true/\x.props.length<=16
 | _,_,[],_=>⟨by simp,by simp⟩
 | prev,i,x::l,h=>by
   simp only [Zbt] at h;by_cases a:Zdh th prev x=0
   · rw [Yab (by rw [a];simp)] at h;obtain ⟨p,r⟩:=Zfz th (some x.id) (i+1) l h;unfold Zdh at a;by_cases g:x.id<0\/2048<=x.id
     · rw [Yac g] at a;cases a
     rw [Yab g] at a;by_cases d:ZaO x.id prev=true
     · rw [Yac d] at a;cases a
     rw [Yab d] at a;by_cases j:Zbj x.type=false
     · rw [Yac j] at a;cases a
     rw [Yab j] at a;by_cases c:th x.src=false\/th x.dst=false
     · rw [Yac c] at a;cases a
     rw [Yab c] at a;have k:x.props.length<=16:=by
      by_cases m:16<x.props.length
      · unfold Zbc at a;rw [Yac m] at a;cases a
      omega
     refine ⟨fun _=>?_,fun y f=>?_⟩
     · rw [Yao];have n:Zie prev<=x.id:=by
        cases prev with
        | none=>simp only [Zie];omega
        | some q=>simp [ZaO] at d;simp only [Zie];omega
       by_cases b:l=[]
       · subst b;simp only [YaS];omega
       have o:=p b;simp only [Zie] at o;omega
     rcases Yat.1 f with rfl | f
     · refine ⟨?_,?_,k⟩
       · cases e:th y.src with
         | true=>rfl
         | false=>exact absurd (.inl e) c
       cases e:th y.dst with
       | true=>rfl
       | false=>exact absurd (.inr e) c
     exact r y f
   rw [Yac a] at h;cases h
theorem ZcC {α β:Type} (f:α->List β) (c:Nat) (l:List α) (h:∀ x∈l,(f x).length<=c):(l.flatMap f).length<=c*l.length:=by
 induction l with
 | nil=>simp
 | cons x l ih =>
   have b:=h x (by simp);have d:=ih fun y a=>h y (by simp [a]);rw [Ybs,Yaf,Yao,Nat.mul_succ];omega
theorem ZcD {g:ZaN} (h:Zbu g=none):ZaR none 0 g.nodes=none/\Zbt (Zgp g) none 0 g.rels=none:=by
 unfold Zbu at h;cases hn:ZaR none 0 g.nodes with
 | some e=>rw [hn] at h;cases h
 | none =>
   rw [hn] at h;exact ⟨rfl,Option.map_eq_none_iff.1 h⟩
theorem Zin {g:ZaN} (h:Zbu g=none):g.nodes.length<=1024/\g.rels.length<=2048:=by
 obtain ⟨c,d⟩:=ZcD h;obtain ⟨e,_⟩:=ZcB _ _ _ c;obtain ⟨f,_⟩:=Zfz _ _ _ _ d;constructor
 · by_cases a:g.nodes=[]
   · rw [a];simp
   have b:=e a;simp only [Zie] at b;omega
 by_cases a:g.rels=[]
 · rw [a];simp
 have b:=f a;simp only [Zie] at b;omega
theorem Zkj {g:ZaN} (h:Zbu g=none) (k:Int):(Zam g k).length<=8796093022208:=by
 obtain ⟨c,d⟩:=ZcD h;obtain ⟨e,f⟩:=Zin h;obtain ⟨_,b⟩:=ZcB _ _ _ c;obtain ⟨_,i⟩:=Zfz _ _ _ _ d;unfold Zam;split
 · have:=ZcC Zaw.labels 8 g.nodes fun x a=>(b x a).2.1;omega
 split
 · rw [Yag];omega
 split
 · rw [Yaf];have j:=ZcC (fun n:Zaw=>n.props.map GPr.key) 16 g.nodes fun x a=>by rw [Yag];exact (b x a).2.2
   have l:=ZcC (fun r:GRel=>r.props.map GPr.key) 16 g.rels fun x a=>by rw [Yag];exact (i x a).2.2
   omega
 simp
theorem ZnR {g:GR} (h:Zbu g.dat=none):wsum (g.ns.flatMap ND.props)+wsum (g.rs.flatMap RL.props)<=4611686018427387904:=by
 obtain ⟨i,j⟩:=ZcD h;obtain ⟨b,c⟩:=Zin h;obtain ⟨_,e⟩:=ZcB _ _ _ i;obtain ⟨_,f⟩:=Zfz _ _ _ _ j;simp only [GR.dat,Yag] at b c e f;have k:=ZcC ND.props 16 g.ns fun x d=>by have a:=(e x.dat (Ybu d)).2.2;simpa [ND.dat] using a
 have l:=ZcC RL.props 16 g.rs fun x d=>by have a:=(f x.dat (Ybu d)).2.2;simpa [RL.dat] using a
 have m:=Zki (g.ns.flatMap ND.props);have n:=Zki (g.rs.flatMap RL.props);omega
end
section
open Go.RowKit
theorem ZnS {F:Nat->Prop} (w:World) (g:GR) (h:RdG w F g) (hf:GFit g) (ht:ZhL g) {m:Int->List ByteArray} (hm:∀ k,Srt (Zam g.dat k) (m k)) {tl:Int} (htl:ZeW (m 1).length (m 2).length (m 3).length (wsum (g.ns.flatMap ND.props)+wsum (g.rs.flatMap RL.props))=tl)
 {e:Int} {at_:Nat} (hE:ZeX g.dat tl=(e,at_)):Calls Tryz.prog 16 #[g.agg] w fun x w'=>x=.returned (.tuple #[.int .i64 e,.int .i64 at_])/\Same w w':=by
 cases hh:Zbu g.dat with
 | some x =>
   unfold ZeX at hE;rw [hh] at hE;exact Zns w g h hf (by rw [hh];exact YaC some hE)
 | none =>
   unfold ZeX at hE;rw [hh] at hE;injection hE with h1 h2
   subst h1 h2;exact ZrA w g h hf ht hh (Zkj hh) hm (ZnR hh) htl
theorem Ztr (l:List ByteArray):∀ u∈l.map Value.string,u.oneCell'=true:=by intro u a;obtain ⟨_,_,rfl⟩:=Yba.1 a;rfl
theorem ZuC (l:List Int):∀ u∈l.map (Value.int .i64),u.oneCell'=true:=by intro u a;obtain ⟨_,_,rfl⟩:=Yba.1 a;rfl
theorem ZnT {F:Nat->Prop} {A:Option Addr} {n c:Nat} {l:List ND} (w:World) (h:WRow w F 3 A n c (l.flatMap ND.cells)) (hn:n*56<=140737488355328) :
 Calls Tryz.prog 129 #[.slice A n c] w fun e w'=>∃ A' c',e=.returned (.slice A' n c')/\Hid (w'.ownsRow w.heap.size 56 3 (.slice A' n c') n (l.flatMap ND.cells))/\Same w w':=by
 have g:=fun (w:World) (a:Option Addr) (n c:Nat)=>YcR (P:=Tryz.prog) w 23 56 a n c 0 0 Tryz.underlying23;have i:=h.max;have j:=h.le;cases A with
 | none =>
   have k:=h.nil rfl;obtain rfl:c=0:=k;obtain rfl:n=0:=qO;have m:l.flatMap ND.cells=[]:=YcI.1 (by rw [h.len]);rw [m];go_enter Tryz.func129,Tryz.ntmps129;go_wp2;go_ret;exact ⟨none,0,rfl,qH (YaQ _ _ _ _),Yaa _ _⟩
 | some a =>
   have o:n<=maxLen:=by unfold maxLen;omega
   go_enter Tryz.func129,Tryz.ntmps129;go_wp2_with (at_builtin;go_must (refine Zat rfl (.tmp 5) (.tmp 6) _ _ rfl w.heap.size _ _ _ _ Tryz.underlying23 ZlM rfl _ 0 [] rfl (YdS w #[] 0 (Yae _) (Yah _) rfl) rfl (Zfr Tryz.underlying23 (Ydg h ((Yaa _ w).alloc _)) (Zvj l)) qO qO (by simp) ?_);intro q w' d);go_ret;have f:=d.own;rw [YbJ,YaK] at f;obtain ⟨A',c',rfl⟩:=Zad f;refine ⟨A',c',rfl,qH f,?_⟩;exact ((Yaa _ w).alloc _).trans d.upd fun b r p=>by have:=Yax p;simp only at this;omega
theorem ZpV {F:Nat->Prop} {A:Option Addr} {n c:Nat} {l:List RL} (w:World) (h:WRow w F 5 A n c (l.flatMap RL.cells)) (hn:n*64<=140737488355328) :
 Calls Tryz.prog 130 #[.slice A n c] w fun e w'=>∃ A' c',e=.returned (.slice A' n c')/\Hid (w'.ownsRow w.heap.size 60 5 (.slice A' n c') n (l.flatMap RL.cells))/\Same w w':=by
 have g:=fun (w:World) (a:Option Addr) (n c:Nat)=>YcR (P:=Tryz.prog) w 24 60 a n c 0 0 Tryz.underlying24;have i:=h.max;have j:=h.le;cases A with
 | none =>
   have k:=h.nil rfl;obtain rfl:c=0:=k;obtain rfl:n=0:=qO;have m:l.flatMap RL.cells=[]:=YcI.1 (by rw [h.len]);rw [m];go_enter Tryz.func130,Tryz.ntmps130;go_wp2;go_ret;exact ⟨none,0,rfl,qH (YaQ _ _ _ _),Yaa _ _⟩
 | some a =>
   have o:n<=maxLen:=by unfold maxLen;omega
   go_enter Tryz.func130,Tryz.ntmps130;go_wp2_with (at_builtin;go_must (refine Zat rfl (.tmp 5) (.tmp 6) _ _ rfl w.heap.size _ _ _ _ Tryz.underlying24 ZoE rfl _ 0 [] rfl (YdS w #[] 0 (Yae _) (Yah _) rfl) rfl (Zfr Tryz.underlying24 (Ydg h ((Yaa _ w).alloc _)) (Zvk l)) qO qO (by simp) ?_);intro q w' d);go_ret;have f:=d.own;rw [YbJ,YaK] at f;obtain ⟨A',c',rfl⟩:=Zad f;refine ⟨A',c',rfl,qH f,?_⟩;exact ((Yaa _ w).alloc _).trans d.upd fun b r p=>by have:=Yax p;simp only at this;omega
theorem ZnU {F:Nat->Prop} {A:Option Addr} {n c:Nat} {l:List PR} (w:World) (h:WRow w F 6 A n c (l.flatMap PR.cells)) (hn:n*96<=140737488355328) :
 Calls Tryz.prog 174 #[.slice A n c] w fun e w'=>∃ A' c',e=.returned (.slice A' n c')/\Hid (w'.ownsRow w.heap.size 53 6 (.slice A' n c') n (l.flatMap PR.cells))/\Same w w':=by
 have g:=fun (w:World) (a:Option Addr) (n c:Nat)=>YcR (P:=Tryz.prog) w 54 53 a n c 0 0 Tryz.underlying54;have i:=h.max;have j:=h.le;cases A with
 | none =>
   have k:=h.nil rfl;obtain rfl:c=0:=k;obtain rfl:n=0:=qO;have m:l.flatMap PR.cells=[]:=YcI.1 (by rw [h.len]);rw [m];go_enter Tryz.func174,Tryz.ntmps174;go_wp2;go_ret;exact ⟨none,0,rfl,qH (YaQ _ _ _ _),Yaa _ _⟩
 | some a =>
   have o:n<=maxLen:=by unfold maxLen;omega
   go_enter Tryz.func174,Tryz.ntmps174;go_wp2_with (at_builtin;go_must (refine Zat rfl (.tmp 5) (.tmp 6) _ _ rfl w.heap.size _ _ _ _ Tryz.underlying54 ZlN rfl _ 0 [] rfl (YdS w #[] 0 (Yae _) (Yah _) rfl) rfl (Zfr Tryz.underlying54 (Ydg h ((Yaa _ w).alloc _)) (Zvl l)) qO qO (by simp) ?_);intro q w' d);go_ret;have f:=d.own;rw [YbJ,YaK] at f;obtain ⟨A',c',rfl⟩:=Zad f;refine ⟨A',c',rfl,qH f,?_⟩;exact ((Yaa _ w).alloc _).trans d.upd fun b r p=>by have:=Yax p;simp only at this;omega
theorem ZpW {F:Nat->Prop} {A:Option Addr} {n c:Nat} {l:List Int} (w:World) (h:WRow w F 1 A n c (l.map (Value.int .i64))) (hn:n*8<=140737488355328) :
 Calls Tryz.prog 175 #[.slice A n c] w fun e w'=>∃ A' c',e=.returned (.slice A' n c')/\Hid (w'.ownsRow w.heap.size 2 1 (.slice A' n c') n (l.map (Value.int .i64)))/\Same w w':=by
 have g:=fun (w:World) (a:Option Addr) (n c:Nat)=>YcR (P:=Tryz.prog) w 49 2 a n c 0 0 Tryz.underlying49;have i:=h.max;have j:=h.le;cases A with
 | none =>
   have k:=h.nil rfl;obtain rfl:c=0:=k;obtain rfl:n=0:=qO;have m:l.map (Value.int .i64)=[]:=YcI.1 (by rw [h.len]);rw [m];go_enter Tryz.func175,Tryz.ntmps175;go_wp2;go_ret;exact ⟨none,0,rfl,qH (YaQ _ _ _ _),Yaa _ _⟩
 | some a =>
   have o:n<=maxLen:=by unfold maxLen;omega
   go_enter Tryz.func175,Tryz.ntmps175;go_wp2_with (at_builtin;go_must (refine Zat rfl (.tmp 5) (.tmp 6) _ _ rfl w.heap.size _ _ _ _ Tryz.underlying49 ZoD rfl _ 0 [] rfl (YdS w #[] 0 (Yae _) (Yah _) rfl) rfl (Zfr Tryz.underlying49 (Ydg h ((Yaa _ w).alloc _)) (ZuC l)) qO qO (by simp) ?_);intro q w' d);go_ret;have f:=d.own;rw [YbJ,YaK] at f;obtain ⟨A',c',rfl⟩:=Zad f;refine ⟨A',c',rfl,qH f,?_⟩;exact ((Yaa _ w).alloc _).trans d.upd fun b r p=>by have:=Yax p;simp only at this;omega
theorem Zkk {F:Nat->Prop} {A:Option Addr} {n c:Nat} {l:List ByteArray} (w:World) (h:WRow w F 1 A n c (l.map Value.string)) (hn:n*16<=140737488355328) :
 Calls Tryz.prog 131 #[.slice A n c] w fun e w'=>∃ A' c',e=.returned (.slice A' n c')/\Hid (w'.ownsRow w.heap.size 9 1 (.slice A' n c') n (l.map Value.string))/\Same w w':=by
 have g:=fun (w:World) (a:Option Addr) (n c:Nat)=>YcR (P:=Tryz.prog) w 48 9 a n c 0 0 Tryz.underlying48;have i:=h.max;have j:=h.le;cases A with
 | none =>
   have k:=h.nil rfl;obtain rfl:c=0:=k;obtain rfl:n=0:=qO;have m:l.map Value.string=[]:=YcI.1 (by rw [h.len]);rw [m];go_enter Tryz.func131,Tryz.ntmps131;go_wp2;go_ret;exact ⟨none,0,rfl,qH (YaQ _ _ _ _),Yaa _ _⟩
 | some a =>
   have o:n<=maxLen:=by unfold maxLen;omega
   go_enter Tryz.func131,Tryz.ntmps131;go_wp2_with (at_builtin;go_must (refine Zat rfl (.tmp 5) (.tmp 6) _ _ rfl w.heap.size _ _ _ _ Tryz.underlying48 Zde rfl _ 0 [] rfl (YdS w #[] 0 (Yae _) (Yah _) rfl) rfl (Zfr Tryz.underlying48 (Ydg h ((Yaa _ w).alloc _)) (Ztr l)) qO qO (by simp) ?_);intro q w' d);go_ret;have f:=d.own;rw [YbJ,YaK] at f;obtain ⟨A',c',rfl⟩:=Zad f;refine ⟨A',c',rfl,qH f,?_⟩;exact ((Yaa _ w).alloc _).trans d.upd fun b r p=>by have:=Yax p;simp only at this;omega
theorem ZrC (l:List ByteArray):l.map Value.string=(l.map fun x=>x.data.toList).map encStr:=by rw [Ybf];exact Ycq fun x _=>by cases x;rfl
theorem ZpX (l:List ByteArray):((l.map fun x=>x.data.toList).map fun y=>(⟨y.toArray⟩:ByteArray))=l:=by
 rw [Ybf]
 conv=>rhs;rw [<- Yes l]
 exact Ycq fun x _=>by cases x;rfl
theorem Zmp {B n c:Nat} {A:Option Addr} {l:List ByteArray} (w:World) (h:w.ownsRow B 9 1 (.slice A n c) n (l.map Value.string)) (hn:n*16<=140737488355328) :
 Calls Tryz.prog 132 #[.slice A n c] w fun e w'=>e=.returned (.tuple #[])/\w'.ownsRow B 9 1 (.slice A n c) n ((Zic l).map Value.string)/\Upd (fun b=>(Value.slice A n c).ownBlock=some b) w w':=by
 have z:l.length=n:=by have:=h.1;simpa using this
 rcases h.2 with ⟨M,U⟩ | ⟨g,V,m,M,W,N,F,X,O,Y⟩
 · subst U;have R:l=[]:=Yco z;subst R;refine (Zru A c w).mono ?_;rintro e w' ⟨rfl,rfl⟩;exact ⟨rfl,h,Yaa _ _⟩
 injection M with D h2 h3
 subst D h3;obtain ⟨o,v⟩:∃ o,o=l.map fun x=>x.data.toList:=⟨_,rfl⟩
 have p:o.length=n:=by rw [v,Yag,z]
 have q:Blk w g 9 m:=N;have S:m.size=c:=by simpa using O
 have a:∀ j,j<n->m[j]?=some (encStr (o[j]?.getD [])):=fun j P=>by
  rw [<- Yen];have I:(m.toList.take (n*1))[j]?=(l.map Value.string)[j]?:=by rw [Y]
  rw [Yeh,Yac qO,ZrC,<-v,Yau,Yar (l:=o) (i:=j) qO] at I;rw [I,Yar (l:=o) (i:=j) qO];rfl
 have T:Go.Sort.Holds encStr w g 0 o.toArray:=fun j P=>by
  have C:j<n:=by simpa [p] using P
  refine ⟨?_,q.frozen _⟩;rw [YbJ,q.cell,a j C];simp [C,p]
 have L:=AnyM.slices_Sort_string sortL g 0 c o w T q.lt qO;rw [p] at L;refine Calls.mono L ?_;rintro e w' ⟨rfl,k,Z,rfl⟩;obtain ⟨d,G⟩:∃ d,d=o.mergeSort fun x y=>decide (x<=y):=⟨_,rfl⟩
 rw [<- G];have u:d.length=n:=by rw [G,List.length_mergeSort,p]
 have r:d.map encStr=(Zic l).map Value.string:=by have D:=Zny o;rw [<- G,v,ZpX] at D;rw [<- D,Ybf];rfl
 have s:∀ i,i<w.heap.size->(Go.Sort.grow (Go.Sort.putRow encStr (Go.Sort.ahead w k) g 0 d.toArray) Z).heap[i]?=(Go.Sort.putRow encStr (Go.Sort.ahead w k) g 0 d.toArray).heap[i]?:=fun i t=>by unfold Go.Sort.grow;rw [Array.getElem?_append_left];simpa [Go.Sort.putRow,Go.Sort.mapBlock,Go.Sort.ahead] using t
 refine ⟨rfl,⟨by rw [Yag,<-Yag (f:=Value.string),<-r,Yag,u];omega,.inr ⟨g,c,Go.Sort.putCells encStr 0 d.toArray m,rfl,W,?_,F,X,by simpa [Go.Sort.putCells] using O,?_⟩⟩,?_⟩
 · rw [s g q.lt];simp [Go.Sort.putRow,Go.Sort.mapBlock,Go.Sort.ahead,Go.Sort.onCells,YdO,N]
 · rw [<- r,Yeq];apply Ygp;intro i;by_cases t:i<n
   · rw [Yeh,Yac t,Yen,Go.Sort.putCells,Array.getElem?_mapIdx,Yau,a i t,Ybw,Yac ⟨Yah _,by simp [u,t]⟩,Yar qO];simp [u,t]
   rw [Ydp (by rw [YaJ];omega),Ydp (by rw [Yag];omega)]
 refine ⟨rfl,rfl,rfl,?_,fun i t H=>?_⟩
 · simp [Go.Sort.grow,Go.Sort.putRow,Go.Sort.mapBlock,Go.Sort.ahead]
 rw [s i t];have E:g≠i:=fun e=>H (by rw [e];rfl);simp [Go.Sort.putRow,Go.Sort.mapBlock,Go.Sort.ahead,YdO,E]
end
end Go.Proofs.YtmkjfhnlnhceiaaGreatDoor
