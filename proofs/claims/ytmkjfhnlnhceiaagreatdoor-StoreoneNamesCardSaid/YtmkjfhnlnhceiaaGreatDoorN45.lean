/- Texts that the claim leans on: walks and plain laws, function by function. -/
import Derived.Test.YtmkjfhnlnhceiaaGreatDoorN43
import Derived.Test.YtmkjfhnlnhceiaaGreatDoorN44
set_option maxRecDepth 100000
set_option maxHeartbeats 16000000
namespace Go.Proofs.YtmkjfhnlnhceiaaGreatDoor
open Go.RowKit
attribute [local go_sem] Ybq
def decE (s:St1):Int:=if Zbq (Zfd s) s.nodes.recs≠0 then Zbq (Zfd s) s.nodes.recs else if Zbq (relE s) s.rels.recs≠0 then Zbq (relE s) s.rels.recs else Zbq (Zfe s) s.props.recs
structure DecS (w0 w:World) (B p rd mN mR mP mM mB:Nat) (q:StP) (s:St1) (A:Option Addr) (c:Nat):Prop where
 blk:Blk w rd 84 #[.pointer (some ⟨p,0,none⟩),.map (some mN),.map (some mR),.map (some mP),.slice A s.rels.recs.length c,.map (some mM),.map (some mB)]
 node:RecM w mN (ZaZ 0 s.nodes.recs) (VN w0.heap.size)
 rel:RecM w mR (ZaZ 0 s.rels.recs) VR
 prop:RecM w mP (ZaZ 0 s.props.recs) VP
 chain:w.ownsRow w0.heap.size 109 7 (.slice A s.rels.recs.length c) s.rels.recs.length ((Zcp s.rels).flatMap L1.cells)
abbrev ZqA (b1 rd p bA mR gC N tt:Nat) (lv:Value) (sr ds p1 p2 p3 p4 ty pr:Int) (wx:World):Prop :=
 wx.cell? ⟨b1,0,none⟩=some (.pointer (some ⟨rd,0,none⟩))/\wx.cell? ⟨rd,0,none⟩=some (.pointer (some ⟨p,0,none⟩))/\wx.cell? ⟨rd,2,none⟩=some (.map (some mR))/\wx.cell? ⟨rd,4,none⟩=some (.slice (some ⟨gC,0,none⟩) N N)/\wx.cell? ⟨p,1,none⟩=some (.pointer (some ⟨tt,0,none⟩)) /\
  wx.cell? ⟨bA,0,none⟩=some lv/\wx.cell? ⟨bA,1,none⟩=some (.int .i64 sr)/\wx.cell? ⟨bA,2,none⟩=some (.int .i64 ds)/\wx.cell? ⟨bA,3,none⟩=some (.int .i64 p1)/\wx.cell? ⟨bA,4,none⟩=some (.int .i64 p2)/\wx.cell? ⟨bA,5,none⟩=some (.int .i64 p3)/\wx.cell? ⟨bA,6,none⟩=some (.int .i64 p4)/\wx.cell? ⟨bA,7,none⟩=some (.int .i64 ty)/\wx.cell? ⟨bA,8,none⟩=some (.int .i64 pr)
abbrev ZtQ (b1 rd p bA mP tk:Nat) (ke ki nu bl pv nx:Int) (wx:World):Prop :=
 wx.cell? ⟨b1,0,none⟩=some (.pointer (some ⟨rd,0,none⟩))/\wx.cell? ⟨rd,0,none⟩=some (.pointer (some ⟨p,0,none⟩))/\wx.cell? ⟨rd,3,none⟩=some (.map (some mP))/\wx.cell? ⟨p,2,none⟩=some (.pointer (some ⟨tk,0,none⟩)) /\
  wx.cell? ⟨bA,0,none⟩=some (.int .i64 ke)/\wx.cell? ⟨bA,1,none⟩=some (.int .i64 ki)/\wx.cell? ⟨bA,2,none⟩=some (.int .i64 nu)/\wx.cell? ⟨bA,3,none⟩=some (.int .i64 bl)/\wx.cell? ⟨bA,4,none⟩=some (.int .i64 pv)/\wx.cell? ⟨bA,5,none⟩=some (.int .i64 nx)
theorem Zng (w0 w:World) {B p rd mN mR mP mM mB:Nat} {q:StP} {s:St1} (hst:StM w0 B p q s) (hsm:Same w0 w) (hlo:w0.heap.size<=rd/\w0.heap.size<=mN/\w0.heap.size<=mR/\w0.heap.size<=mP)
 (hbk:Blk w rd 84 #[.pointer (some ⟨p,0,none⟩),.map (some mN),.map (some mR),.map (some mP),.slice none 0 0,.map (some mM),.map (some mB)])
 (hN:RecM w mN [] (VN w0.heap.size)) (hR:RecM w mR [] VR) (hP:RecM w mP [] VP) (hne:mN≠mR/\mN≠mP/\mR≠mP) :
 Calls Tryz.prog 32 #[.pointer (some ⟨rd,0,none⟩)] w fun e w'=>Upd (fun b=>b=rd\/b=mN\/b=mR\/b=mP) w w' /\
  ((decE s≠0/\e=Zcn (decE s))\/(decE s=0/\e=.returned (.tuple #[])/\∃ A c,DecS w0 w' B p rd mN mR mP mM mB q s A c)):=by
 have a6:=qH hst;have bn:=qH hsm;have c9:=qH hlo;have bo:=qH hbk;have HN:=qH hN;have HR:=qH hR;have HP:=qH hP;have bp:=qH hne;have g6:Hid (mN<w.heap.size/\mR<w.heap.size/\mP<w.heap.size):=qH ⟨hN.lt,hR.lt,hP.lt⟩;clear hst hsm hlo hbk hN hR hP hne;refine ZfJ Tryz.func32 rfl ?_;simp only [Tryz.ntmps32,YbV,Yao,YaS,Nat.reduceAdd,Nat.reduceSub,Yda,Ydb,Ydc,Ydd,YaK,YaE];have du:Hid (s.nodes.recs=q.ln.map BS.rc):=qH (by rw [<- a6.en];rfl);have cz:Hid (s.rels.recs=q.lr.map BS.rc):=qH (by rw [<- a6.er];rfl);have dv:Hid (s.props.recs=q.lp.map BS.rc):=qH (by rw [<- a6.ep];rfl);refine Zdg ?_;refine Zes ?_;go_wp2_with fail;have eq:=Yad w 77 #[.pointer (some ⟨rd,0,none⟩)];have et:=(Yaa (fun _=>False) w).alloc (.cells #[.pointer (some ⟨rd,0,none⟩)] 77);have eu:(w.alloc (.cells #[.pointer (some ⟨rd,0,none⟩)] 77)).heap.size=w.heap.size+1:=Yav _ _;generalize w.alloc (.cells #[.pointer (some ⟨rd,0,none⟩)] 77)=w1 at *;generalize fz:w.heap.size=b1 at *;have d0:=qH et;have dw:=qH eq;have HZ:Hid (b1=w.heap.size/\w1.heap.size=b1+1):=qH ⟨fz.symm,eu⟩;clear et eq eu fz;have db:=a6.same (bn.trans d0 fun _ _ f=>f);have q0:=dw.c0;have q1:=(bo.same d0).c0;have q2:=db.blk.c3;clear db
 repeat refine Zdg ?_
 refine Zes ?_;go_wp2_with fail;refine (Zbo w1 q.fn).mono ?_;rintro e w2 ⟨rfl,rfl⟩;have ev:=Yad w1 67 #[.pointer (some ⟨q.fn,0,none⟩)];have dx:=(Yaa (fun _=>False) w1).alloc (.cells #[.pointer (some ⟨q.fn,0,none⟩)] 67);generalize w1.alloc (.cells #[.pointer (some ⟨q.fn,0,none⟩)] 67)=w2 at *;generalize w1.heap.size=b2 at *;have a0:=qH (d0.trans dx fun _ _ f=>f);have ew:=qH ev;have cf:=qH (dw.same dx);clear ev dx q0 q1 q2;go_wp2_with fail;refine Zdr ?_;generalize g0:w2.heap.size=m0 at *;have ah:=qH g0;have dy:Hid (rd<m0/\mN<m0/\mR<m0/\mP<m0):=qH (by have a:=a0.size;exact ⟨qt bo.lt,qt HN.lt,qt HR.lt,qt HP.lt⟩)
 have dc:=a6.same (bn.trans a0 fun _ _ f=>f);have d1:=dc.fn;clear dc g0;refine ZcG (f:=q.fn) (fB:=b2) d1 ew rfl rfl
  (fun Y W=>Upd (fun b=>b=mN) w2 W/\RecM W mN Y (VN w0.heap.size)/\∀ y∈Y,Zfd s y.2=0)
  (fun er=>er≠0/\decE s=er) (fun W=>Upd (fun b=>b=rd\/b=mN\/b=mR\/b=mP) w W)
  ⟨Yaa _ _,HN.upd a0.out id fun x v h=>h.upd a0.out fun b z=>z.elim,fun _ h=>by cases h⟩
  (fun Y W W' ⟨a,h2,h3⟩ G=>⟨a.trans G fun b z P=>by have:=P.1;have:=ah.out;omega,h2.upd G (fun P=>by have:=P.1;have:=dy.out;have:=ah.out;omega) fun x v h=>h.upd G fun b P cs z=>(P.cells z).elim,h3⟩)
  (fun W W' h G=>h.trans G fun b z P=>by have:=P.1;have:=a0.size;omega) ?F ?assign ?body ?done ?panic
 case assign =>
  intro lp x W K hK;dsimp only [RE.args];gi_wp2;exact hK
 case body =>
  intro lp Y x W ⟨T,R,aa⟩ Z ap hid bh ag;rw [<- du.out] at Z ap;have HG:=qH (ZmD W ag qO);have U:=qH Z;have al:=qH ap;have a5:=qH T;have b0:=qH R;have cg:=qH aa;have dd:x.id<65536:=Ycd hid d1.len;have HE:Hid (∀ er,Zfd s x.data=er->er≠0->decE s=er):=qH fun er a h2=>by unfold decE;have h3:=Zjx (e:=Zfd s) U.out al.out cg.out (by rw [a];exact h2);rw [ZbA _ _ 0,h3];simp only;rw [a,Yac h2]
  clear T R aa Z ap ag bh hid d1;gi_wp2_with fail;refine ⟨trivial,?_⟩;gi_at_call 72;refine (CallsIn.inRound lp (YaO.2 HG)).mono ?_;rintro e5 w5 ⟨bq,⟨hg,rfl⟩ | ⟨n,A1,n1,c1,hg,rfl,ho⟩⟩
  · have a1:=qH bq;have HX:=qH (HE.out 41 (by unfold Zfd;rw [hg]) qD);clear bq hg HG
    gi_upto_region 5 with fail
    have E:=a1.alloc (.cells #[.int .i64 0,.int .i64 0,.slice none 0 0] 115);have a2:=qH E;generalize w5.alloc (.cells #[.int .i64 0,.int .i64 0,.slice none 0 0] 115)=w6 at *;clear E;gi_wp2_with fail;refine ⟨trivial,?_⟩;gi_at_call 58;refine (CallsIn.inRound lp (YaO.2 (Zco w6 (er:=41) qD))).mono ?_;rintro e w7 ⟨rfl,rfl⟩;exact ⟨rfl,Zah a2.out fun _ f=>f.elim,41,rfl,⟨qD,HX⟩,((a0.mono (S':=fun b=>b=rd\/b=mN\/b=mR\/b=mP) fun _ _ f=>f.elim).trans a5 fun _ _ e=>.inr (.inl e)).same a2⟩
  obtain ⟨rl,pp,ls⟩:=n;obtain rfl:n1=ls.length:=by obtain ⟨A',c',e⟩:=Zad ho;injection e
  have a1:=qH bq;have d2:=qH ho;have d3:=qH hg;unfold N1.cellsV;simp only at d2 ⊢;obtain ⟨nl,ei⟩:∃ nl,ls.length=nl:=⟨_,rfl⟩
  have b8:=qH ei;rw [ei] at d2 ⊢;have gn:nl<=8:=by have a:=Zor d3.out;simp only [ZbT,ZdR,Yay,Ybc] at a;omega
  clear bq ho hg HG ei
  gi_upto_region 5 with fail
  have b9:=Yad w5 115 #[.int .i64 rl,.int .i64 pp,.slice A1 nl c1];have E:=(Yaa (fun _=>False) w5).alloc (.cells #[.int .i64 rl,.int .i64 pp,.slice A1 nl c1] 115);generalize w5.alloc (.cells #[.int .i64 rl,.int .i64 pp,.slice A1 nl c1] 115)=w6 at *;generalize w5.heap.size=bA at *;have am:=qH b9;have M:=qH (a1.trans E fun _ _ f=>f);have ex:=qH (Zaa d2 E);have ca:Hid (Same w0 w6):=qH (((bn.trans a0 fun _ _ f=>f).trans a5 fun b z e=>qh c9).trans M fun _ _ f=>f);clear b9 E a1 d2;gi_wp2_with fail;refine ⟨trivial,?_⟩;gi_at_call 58;refine (CallsIn.inRound lp (YaO.2 (ZbP w6))).mono ?_;rintro e w7 ⟨rfl,rfl⟩;have r2:=am.c2;gi_wp2_with fail;have de:=qH (cf.upd (a5.trans M (S:=fun b=>b=mN) fun _ _ f=>f.elim) fun e=>by have:=HN.lt;have:=HZ.out;omega);have ab:=qH ((bo.same a0).upd (a5.trans M (S:=fun b=>b=mN) fun _ _ f=>f.elim) fun e=>HN.ne bo e.symm);have df:=qH (a6.same ca);gi_loopg [40] nl (fun gh sk wr=>∃ k:Nat,nl-k=gh/\k<=nl/\sk=.int .i64 (k:Int)/\w6=wr/\Hid ((ls.take k).any (fun i=>decide (ZaY s.labels i=noText))=false))
  case atStart=>exact ⟨0,rfl,Yah _,rfl,rfl,qH rfl⟩
  obtain ⟨k,rfl,hk,rfl,rfl,KA⟩:=hrel;by_cases dz:k<nl
  · have ch:(k:Int)<(nl:Int):=qO;obtain ⟨g,u,rfl,gj,gk,G,X,_,_⟩:=ZaW ex.out dz;rw [Yau] at G;obtain ⟨li,ej,rfl⟩:=YcJ.1 G;have g7:=qH ej;have q0:=de.c0;have q1:=ab.c0;have q2:=df.blk.c0;have e0:=qH (show (ls.take (k+1)).any (fun i=>decide (ZaY s.labels i=noText))=decide (ZaY s.labels li=noText) by rw [Ybo,ej,YfJ,KA.out];simp);obtain ⟨f,m,g1,v,nv,l,bi⟩:=df.tl;have a3:=qH (ZdV bi li);clear G ej gj gk bi;gi_wp2_with fail;refine ⟨trivial,?_⟩;gi_at_call 73;refine (CallsIn.inRound lp (YaO.2 a3)).mono ?_;rintro e w7 ⟨hn,rfl⟩;unfold Zmu at hn;by_cases O:ZaY s.labels li=noText
    · rw [Yac O] at hn;subst hn;have HX:=qH (HE.out 110 (by unfold Zfd;rw [d3.out];simp only;rw [Yac (Yck.2 ⟨li,Ybe g7.out,by simp [O]⟩)]) qD)
      exact ⟨rfl,Zah M.out fun _ f=>f.elim,110,rfl,⟨qD,HX⟩,((a0.mono (S':=fun b=>b=rd\/b=mN\/b=mR\/b=mP) fun _ _ f=>f.elim).trans a5 fun _ _ e=>.inr (.inl e)).same M⟩
    rw [Yab O] at hn;subst hn;have e0:=qH (e0.trans (YaM O));clear q0 q1 q2 X a3 O;gi_wp2;gi_roundg (nl-(k+1))
    case measure=>omega
    case rel=>exact ⟨k+1,rfl,qO,by go_num,rfl,e0⟩
  have ch:¬ (k:Int)<(nl:Int):=qO;have ey:Hid (Zfd s x.data=0):=qH (by unfold Zfd;rw [d3.out];simp only;have a:=KA.out;rw [YaB (by rw [b8.out];omega)] at a;rw [Yab (by rw [a];simp)])
  have ai:Same w6 w6.drew:=(Yaa _ w6).drew;have d4:=qH ((b0.upd M id fun x v h=>h.upd M fun b z=>z.elim).upd ai id fun x v h=>h.upd ai fun b z=>z.elim);obtain ⟨w7,L,g2,aq⟩:=d4.snoc ZgT (by have a:=YaC List.length U.out;have h2:=(Yaq.1 al).1;have h3:=Zcs s.nodes.recs 0;rw [du.out] at h2 h3;rw [Yag] at h3;have h4:=a6.fn.len;omega) (x:=(x.id,x.data)) (ZjC U al) (Nat.le_of_lt dd) (.agg #[.int .i64 rl,.int .i64 pp,.slice A1 nl c1])
  have an:=qH L;have d5:=qH g2;have ci:=qH aq;have HK:Hid (∀ H,Same w6 H->(H.cell? ⟨b1,0,none⟩=some (.pointer (some ⟨rd,0,none⟩))/\H.cell? ⟨rd,1,none⟩=some (.map (some mN))/\H.cell? ⟨bA,0,none⟩=some (.int .i64 rl)/\H.cell? ⟨bA,1,none⟩=some (.int .i64 pp)/\H.cell? ⟨bA,2,none⟩=some (.slice A1 nl c1))):=qH fun H h =>
   ⟨(de.same h).cell 0,(ab.same h).cell 1,(am.same h).cell 0,(am.same h).cell 1,(am.same h).cell 2⟩
  clear L g2 aq r2;gi_wp2_with fail;refine Zar 6 (fun H=>H.cell? ⟨b1,0,none⟩=some (.pointer (some ⟨rd,0,none⟩))/\H.cell? ⟨rd,1,none⟩=some (.map (some mN))/\H.cell? ⟨bA,0,none⟩=some (.int .i64 rl)/\H.cell? ⟨bA,1,none⟩=some (.int .i64 pp)/\H.cell? ⟨bA,2,none⟩=some (.slice A1 nl c1)) (by kernel_rfl) (by kernel_rfl) (Ycc fun _ _ h=>h) (HK.out _ ai) (fun j=>?_);refine ZbE ?_;refine Ybi rfl (fun K hK=>?_);have L:=an.out;go_simp;refine hK.out _ _ ?_;clear hK K L;gi_wp2;refine ⟨(Yeg (M.trans ai fun _ _ f=>f)).trans (YdN d5 fun b e=>.inl ⟨by have:=dy.out;have:=ah.out;omega,e ▸ d4.obj⟩),((a5.same M).same ai).trans d5 fun _ _ e=>e,
   ci.out (fun y u h=>h.upd d5.out fun b e cs z=>d4.ne z e.symm) ⟨⟨rl,pp,ls⟩,A1,c1,d3,by rw [b8.out];rfl,?_⟩,fun y hy=>?_⟩
  · have a:=Zac (base':=w0.heap.size) (Zaa ex ai) (by have:=bn.size;have:=a0.size;have:=a5.size;omega);have h2:=Zae a d5.out fun g hg e=>by obtain ⟨cs,z⟩:=Zaf a hg;exact d4.ne z e.symm
    rw [<- b8.out] at h2;exact h2
  rcases YaR.1 hy with hy | hy
  · exact cg y hy
  rw [YaH.1 hy];exact ey
 case panic =>
  intro D er W hD ⟨cw,bj⟩ cx hW;refine ZbB (B:=m0) ((ZjL.nil m0 W).cons (B':=0) (fun D' _ h=>by cases h) (Yah _) (qh ah) hW) fun W' G=>?_;exact ⟨cx.trans G fun b z P=>by have:=P.1;have:=a0.size;have:=ah.out;omega,.inl ⟨by rw [bj];exact cw,by rw [bj];rfl⟩⟩
 intro D W hD ⟨T,R,aa⟩ hW;rw [<- du.out] at R aa;have e1:Hid (Zbq (Zfd s) s.nodes.recs=0):=qH (by rw [ZbA _ _ 0,Zga aa]);have C:Upd (fun b=>b=mN) w W:=(a0.mono fun _ _ f=>f.elim).trans T fun _ _ e=>e;have ez:Hid (Upd (fun b=>b=rd\/b=mN\/b=mR\/b=mP) w W):=qH (C.mono fun _ _ e=>.inr (.inl e));have ca:Hid (Same w0 W):=qH (bn.trans C fun b z e=>qh c9);have f7:Hid (Zbf m0 (D+1) W [{ target:=.collected D,args:=#[] }]):=qH ((Zbf.nil m0 m0 W).cons (Yae _) (qh ah) hW);have ae:=qH (cf.upd T fun e=>by have:=HN.lt;have:=HZ.out;omega);have ab:=qH (bo.upd C fun e=>HN.ne bo e.symm);have e2:=qH (HR.upd C (fun e=>bp.1 e.symm) fun x v h=>h);have e3:=qH (HP.upd C (fun e=>bp.2.1 e.symm) fun x v h=>h);have e4:=qH R;have cb:Hid (w.heap.size<=W.heap.size/\m0<=W.heap.size/\m0<=D):=qH ⟨C.size,by have:=T.size;have:=ah.out;omega,qh ah⟩;have cj:=qH (a6.same ca);have dg:Hid (D<W.heap.size):=qH (YaX.1 hW).1;clear T R aa hW C d1 cf ew dw d0 bo HR HP hD;obtain ⟨N,hN⟩:∃ N,q.lr.length=N:=⟨_,rfl⟩
 have b8:=qH hN;have e6:=qH (Zbl W.drew (cj.fr.same (Yaa _ W).drew));rw [hN] at e6;have d6:N<=65536:=by rw [<- hN];exact a6.fr.len
 have aq:=fun w=>ZtP w N d6;have e7:Same W W.drew:=(Yaa _ W).drew;have HK:Hid (∀ H,Same W H->(H.cell? ⟨b1,0,none⟩=some (.pointer (some ⟨rd,0,none⟩))/\H.cell? ⟨rd,0,none⟩=some (.pointer (some ⟨p,0,none⟩))/\H.cell? ⟨p,4,none⟩=some (.pointer (some ⟨q.fr,0,none⟩)))):=qH fun H h =>
  ⟨(ae.same h).cell 0,(ab.same h).cell 0,(cj.blk.same h).cell 4⟩
 clear hN;refine ZfD ?_
 repeat refine Zdg ?_
 refine Zes ?_;go_wp2_with fail;refine wp_region_noPanic ?_;refine Zaj 12 (fun H=>H.cell? ⟨b1,0,none⟩=some (.pointer (some ⟨rd,0,none⟩))/\H.cell? ⟨rd,0,none⟩=some (.pointer (some ⟨p,0,none⟩))/\H.cell? ⟨p,4,none⟩=some (.pointer (some ⟨q.fr,0,none⟩))) (by kernel_rfl) (HK.out _ e7) (fun j=>?_);refine ZbE ?_;refine Ybv 8 rfl (fun K hK=>?_);go_simp;refine e6.mono ?_;rintro e w' ⟨rfl,rfl⟩;refine hK.out _ _ (HK.out _ e7) (fun j=>?_);clear hK K;refine Ybv 9 rfl (fun K hK=>?_);go_simp;have d7:=((Yaa (fun _=>False) W).alloc (.cells ((List.replicate N ZaE).flatMap L1.cells).toArray 109)).drew;have e8:=Zaa (ZvL W (B:=w0.heap.size) (ca.size) d6) (Yaa _ _).drew;refine hK _ _ (HK.out _ d7) (fun j=>?_);clear hK K aq;refine ZbE ?_;generalize (W.alloc (.cells ((List.replicate N ZaE).flatMap L1.cells).toArray 109)).drew=w3 at *;obtain ⟨I,g3⟩:∃ I,W.heap.size=I:=⟨_,rfl⟩
 have f8:W.heap.size<=I:=Nat.le_of_eq g3;rw [g3] at e8 ⊢;have d8:=ab.same d7;have c4:=d8.c4;have f4:=d8.frozen 4;refine Ybi rfl (fun K hK=>?_);go_simp;refine hK.out _ _ ?_;clear hK K j e7;have ar:Upd (fun b=>b=rd) W (w3.setCell ⟨rd,4,none⟩ (.slice (some ⟨I,0,none⟩) N N)):=(YbD d7).trans ((Yaa (fun b=>b=rd) w3).put1 _) fun _ _ e=>e;have av:Hid (Blk (w3.setCell ⟨rd,4,none⟩ (.slice (some ⟨I,0,none⟩) N N)) rd 84 #[.pointer (some ⟨p,0,none⟩),.map (some mN),.map (some mR),.map (some mP),.slice (some ⟨I,0,none⟩) N N,.map (some mM),.map (some mB)]):=qH (d8.put 4 _);have ck:Hid ((w3.setCell ⟨rd,4,none⟩ (.slice (some ⟨I,0,none⟩) N N)).ownsRow w0.heap.size 109 7 (.slice (some ⟨I,0,none⟩) N N) N ((chL N []).flatMap L1.cells)):=qH (Zae e8 ((Yaa (fun b=>b=rd) w3).put1 _) fun g hg e=>by have a:=ab.lt;have h2:I=g:=Yax hg;omega)
 have e9:Hid (W.heap.size<=I):=qH f8;generalize w3.setCell ⟨rd,4,none⟩ (.slice (some ⟨I,0,none⟩) N N)=w4 at *;have ba:Hid (Upd (fun b=>b=rd\/b=mN\/b=mR\/b=mP) w w4):=qH (ez.trans ar fun _ _ e=>.inl e);have cl:Hid (Same w0 w4):=qH (ca.trans ar fun b z e=>qh c9);have dh:=qH (f7.upd ar fun D' e hD h=>by have a:=ab.out;unfold Blk at a;rw [e,a] at h;cases h)
 have aw:=qH (ae.upd ar fun e=>by have:=HZ.out;have:=ab.ne ae qD;omega);have a7:=qH (e2.upd ar (fun e=>e2.ne ab.out e) fun x v h=>h);have cm:=qH (e3.upd ar (fun e=>e3.ne ab.out e) fun x v h=>h);have bv:=qH (e4.upd ar (fun e=>e4.ne ab.out e) fun x v h=>h.upd ar fun b e cs z=>absurd rfl (ab.ne z qD |> fun h=>by rw [e] at h;exact h));have cn:=qH (a6.same cl);have g8:Hid (W.heap.size<=w4.heap.size):=qH ar.size;have q0:=aw.c0;have q1:=av.c0;have q2:=cn.blk.c4;clear d7 e8 f8 d8 c4 f4 ar ez ca f7 ae e2 e3 e4 cj ab HK e6 d6;refine NoPanic.normal ?_;go_wp2_with fail
 repeat refine Zdg ?_
 refine Zes ?_;go_wp2_with fail;refine (Zbo w4 q.fr).mono ?_;rintro e w5 ⟨rfl,rfl⟩;have f9:=Yad w4 67 #[.pointer (some ⟨q.fr,0,none⟩)];have bq:=(Yaa (fun _=>False) w4).alloc (.cells #[.pointer (some ⟨q.fr,0,none⟩)] 67);generalize w4.alloc (.cells #[.pointer (some ⟨q.fr,0,none⟩)] 67)=w5 at *;generalize dp:w4.heap.size=b5 at *;have fa:=qH dp;clear dp;have a1:=qH bq;have fb:=qH f9;clear f9 bq q0 q1 q2;go_wp2_with fail;refine Zdr ?_;have cc:Hid (m0<=w5.heap.size/\D<w5.heap.size/\W.heap.size<=w5.heap.size):=qH (by have a:=a1.size;have h2:=g8.out;have h3:=dg.out;have h4:=fa.out;have h5:=cb.out;exact ⟨qO,qO,qO⟩)
 have a8:Hid (mR<w5.heap.size/\I<w5.heap.size/\I≠mR/\I≠mN/\I≠mP/\I≠rd/\I≠b1):=qH (by obtain ⟨cs,z⟩:=Zaf ck.out (g:=I) rfl;have h2:=a1.size;have h3:=z.lt;exact ⟨qt a7.lt,qO,(a7.ne z).symm,(bv.ne z).symm,(cm.ne z).symm,z.ne av qD,z.ne aw.out qD⟩)
 have bw:=(cn.same a1).fr;refine ZcG (f:=q.fr) (fB:=b5) bw fb rfl rfl
  (fun Y W'=>Upd (fun b=>b=mR\/b=I) w5 W'/\RecM W' mR Y VR/\W'.ownsRow w0.heap.size 109 7 (.slice (some ⟨I,0,none⟩) N N) N ((chL N Y).flatMap L1.cells)/\(∀ y∈Y,relE s y.2=0)/\Zbf m0 (D+1) W' [{ target:=.collected D,args:=#[] }])
  (fun er=>er≠0/\decE s=er) (fun W'=>Upd (fun b=>b=rd\/b=mN\/b=mR\/b=mP) w W'/\Zbf m0 (D+1) W' [{ target:=.collected D,args:=#[] }])
  ⟨Yaa _ _,a7.upd a1 id fun x v h=>h,Zaa ck a1,(fun _ h=>by cases h),dh.same a1.out⟩
  (fun Y W1 W2 ⟨a,h2,h3,h4,h5⟩ G=>⟨a.trans G fun b z P=>qt P.1,h2.upd G (fun P=>by have:=P.1;have:=a8.out;omega) fun x v h=>h,ZjZ h3 G id,h4,h5.upd G fun D' P hD=>by have:=P.1;have:=cc.out;omega⟩)
  (fun W1 W2 ⟨a,h2⟩ G=>⟨a.trans G fun b z P=>by have:=P.1;have:=cc.out;have:=ba.size;have:=a1.size;omega,h2.upd G fun D' P hD=>by have:=P.1;have:=cc.out;omega⟩) ?F2 ?assign2 ?body2 ?done2 ?panic2
 case assign2 =>
  intro lp x W1 K hK;dsimp only [RE.args];gi_wp2;exact hK
 case panic2 =>
  intro D2 er W1 hD ⟨cw,bj⟩ ⟨cx,ek⟩ cy;refine ZbB (ek.cons (qh cb) (qh cc) cy).marks fun W' G=>?_;exact ⟨cx.trans G fun b z P=>by have:=P.1;have:=a0.size;have:=ah.out;omega,.inl ⟨by rw [bj];exact cw,by rw [bj];rfl⟩⟩
 case body2 =>
  intro lp Y x W1 ⟨T,R,aa,ak,au⟩ Z ap hid bh ag;rw [<- cz.out] at Z ap;have HG:=qH (Zoq W1 ag qO);have U:=qH Z;have al:=qH ap;have a5:=qH T;have b0:=qH R;have cg:=qH aa;have co:=qH ak;have bb:=qH au;have fc:x.id<N:=by rw [<- b8.out];exact hid
  have d6:N<=65536:=by rw [<- b8.out];exact bw.len
  have HE:Hid (∀ er,relE s x.data=er->er≠0->decE s=er):=qH fun er a h2=>by unfold decE;have h3:=Zjx (e:=relE s) U.out al.out co.out (by rw [a];exact h2);rw [Yab (fun h=>h e1.out),ZbA (relE s) _ 0,h3];simp only;rw [a,Yac h2]
  have cd:Hid (Upd (fun b=>b=rd\/b=mN\/b=mR\/b=mP) w W1):=qH ((ba.same a1).trans a5 fun b z e=>by
   rcases e with e | e
   · exact .inr (.inr (.inl e))
   have:=e9.out;have:=ah.out;have:=a0.size;have:=dg.out;have:=ba.size;exfalso;have:=cb.out;omega)
  clear T R aa ak au Z ap ag bh hid bw;gi_wp2_with fail;refine ⟨trivial,?_⟩;gi_at_call 74;refine (CallsIn.inRound lp (YaO.2 HG)).mono ?_;rintro e5 w6 ⟨b7,⟨hg,rfl⟩ | ⟨r,hg,rfl⟩⟩
  · have M:=qH b7;have HX:=qH (HE.out 41 (by unfold relE;rw [hg]) qD);clear b7 hg HG
    gi_upto_region 17 with fail
    have E:=M.alloc (.cells #[.bool false,.int .i64 0,.int .i64 0,.int .i64 0,.int .i64 0,.int .i64 0,.int .i64 0,.int .i64 0,.int .i64 0] 124);have a2:=qH E;generalize w6.alloc (.cells #[.bool false,.int .i64 0,.int .i64 0,.int .i64 0,.int .i64 0,.int .i64 0,.int .i64 0,.int .i64 0,.int .i64 0] 124)=w7 at *;clear E;gi_wp2_with fail;refine ⟨trivial,?_⟩;gi_at_call 58;refine (CallsIn.inRound lp (YaO.2 (Zco w7 (er:=41) qD))).mono ?_;rintro e w8 ⟨rfl,rfl⟩;exact ⟨rfl,Zah a2.out fun _ f=>f.elim,41,rfl,⟨qD,HX⟩,cd.same a2.out,bb.same a2.out⟩
  obtain ⟨⟨lv,sr,ds,p1,p2,p3,p4⟩,ty,pr⟩:=r;have M:=qH b7;have bs:=qH hg;have g9:Hid ((0<=sr/\sr<1024)/\(0<=ds/\ds<1024)):=qH (by have a:=Zsr hg;simp only [Zdw,ZfL,Yay] at a;exact ⟨Zai.1 a.1.1,Zai.1 a.1.2.1⟩)
  unfold R1.cells;simp only;clear b7 hg HG
  gi_upto_region 17 with fail
  have b9:=Yad w6 124 #[.bool lv,.int .i64 sr,.int .i64 ds,.int .i64 p1,.int .i64 p2,.int .i64 p3,.int .i64 p4,.int .i64 ty,.int .i64 pr];have E:=(Yaa (fun _=>False) w6).alloc (.cells #[.bool lv,.int .i64 sr,.int .i64 ds,.int .i64 p1,.int .i64 p2,.int .i64 p3,.int .i64 p4,.int .i64 ty,.int .i64 pr] 124);generalize w6.alloc (.cells #[.bool lv,.int .i64 sr,.int .i64 ds,.int .i64 p1,.int .i64 p2,.int .i64 p3,.int .i64 p4,.int .i64 ty,.int .i64 pr] 124)=w7 at *;generalize w6.heap.size=bA at *;have am:=qH b9;have bt:=qH (M.trans E fun _ _ f=>f);clear b9 E M;gi_wp2_with fail;refine ⟨trivial,?_⟩;gi_at_call 58;refine (CallsIn.inRound lp (YaO.2 (ZbP w7))).mono ?_;rintro e w8 ⟨rfl,rfl⟩;have r1:=am.c1;have r2:=am.c2;gi_wp2_with fail;have fd:=Yad w7 3 #[.int .i64 sr,.int .i64 ds];have ea:=(Yaa (fun _=>False) w7).alloc (.cells #[.int .i64 sr,.int .i64 ds] 3);generalize w7.alloc (.cells #[.int .i64 sr,.int .i64 ds] 3)=w8 at *;generalize w7.heap.size=gE at *;have eb:=qH fd;have bu:=qH (bt.trans ea fun _ _ f=>f);have cp:=qH (am.same ea);have bc:Hid (Upd (fun b=>b=mR\/b=I) w4 w8):=qH (((YbD a1).trans a5 fun _ _ e=>e).same bu);have ax:=qH (aw.upd bc fun e=>by
   rcases e with e | e
   · exact a7.ne aw e.symm
   have:=a8.out;omega)
  have V:=qH (av.upd bc fun e=>by
   rcases e with e | e
   · exact a7.ne av e.symm
   have:=a8.out;omega)
  have ay:=qH (a6.same (cl.trans bc fun b z e=>by
   rcases e with e | e
   · have:=c9.out;omega
   have:=e9.out;have:=cb.out;have:=bn.size;omega))
  have fe:=qH (bv.upd bc (fun e=>by
   rcases e with e | e
   · exact bp.1 e
   · have:=a8.out;omega) fun x v h=>h.upd bc.out fun b e cs z=>by
   rcases e with e | e
   · exact a7.ne z e.symm
   obtain ⟨g4,el⟩:=Zaf ck.out (g:=I) rfl;exact z.ne el qD e)
  clear fd ea r1 r2 am bt;gi_loopg [97] 2 (fun gh sk wr=>∃ k:Nat,2-k=gh/\k<=2/\sk=.int .i64 (k:Int)/\Hid (Same w8 wr)/\Hid (0<k->Zea s.nodes sr=true)/\Hid (1<k->Zea s.nodes ds=true))
  case atStart=>exact ⟨0,rfl,Yah _,rfl,qH (Yaa _ _),qH (fun h=>qO),qH (fun h=>qO)⟩
  obtain ⟨k,rfl,hk,rfl,KS,K0,K1⟩:=hrel;by_cases dz:k<2
  · have ch:(k:Int)<2:=qO;obtain ⟨en,X,gr,dr,dt⟩:∃ en:Nat,wr.cell? ⟨gE,k,none⟩=some (.int .i64 (en:Int))/\en<1024/\(k=0->sr=(en:Int))/\(k=1->ds=(en:Int)):=by
     have gq:=g9.out;have hc:k=0\/k=1:=qO;rcases hc with rfl | rfl
     · have a:=(eb.same KS).c0;exact ⟨sr.toNat,by rw [a,show ((sr.toNat:Nat):Int)=sr by omega],qO,fun _=>qO,fun h=>qO⟩
     have a:=(eb.same KS).c1;exact ⟨ds.toNat,by rw [a,show ((ds.toNat:Nat):Int)=ds by omega],qO,fun h=>qO,fun _=>qO⟩
    have ff:=qH dr;have fg:=qH dt;have q0:=(ax.same KS).c0;have q1:=(V.same KS).c1;have bx:=fe.upd KS.out id fun x v h=>h.upd KS.out fun b f=>f.elim;clear dr dt;by_cases G:Zea s.nodes (en:Int)=true
    · have fh:Hid (∀ e:Int,e=(en:Int)->Zea s.nodes e=true):=qH fun e h=>by rw [h];exact G
      unfold Zea at G;rw [YaN,Yay] at G;obtain ⟨d,hd⟩:=ZdI.1 G.2;obtain ⟨v,⟨n,A,c,gl,rfl,g5⟩,bd⟩:=bx.at_ ZgT Zpq (x:=(en,d)) (Zds.2 hd) (by simp only;omega);have bd:=(bd wr (Yaa _ _)).1;simp only at bd;obtain ⟨rl,pp,ls⟩:=n;unfold N1.cellsV at bd;simp only at bd;clear gl g5 bx G hd
      gi_upto_region 22 with fail
      have E:=KS.alloc (.cells #[.int .i64 rl,.int .i64 pp,.slice A ls.length c] 115);generalize wr.alloc (.cells #[.int .i64 rl,.int .i64 pp,.slice A ls.length c] 115)=w9 at *;have a2:=qH E;clear E q0 q1 X bd;gi_wp2_with fail;refine ⟨trivial,?_⟩;gi_at_call 66;refine (CallsIn.inRound lp (YaO.2 (ZaP w9 65))).mono ?_;rintro e ac ⟨rfl,rfl⟩;gi_wp2;gi_roundg (2-(k+1))
      case measure=>omega
      refine ⟨k+1,rfl,qO,by go_num,a2,qH fun _=>?_,qH fun _=>?_⟩
      · by_cases h0:k=0
        · exact fh _ (ff.out h0)
        exact K0 qO
      exact fh _ (fg.out qO)
    have fi:∀ y∈ZaZ 0 s.nodes.recs,(y.1:Int)≠(en:Int):=fun y hy e=>by apply G;unfold Zea;rw [YaN,ZdI.2 ⟨y.2,by rw [<- Zds.1 hy,show y.1=en by omega]⟩];simp
    have bd:=bx.no ZgT Zpq fi qO wr (Yaa _ _);have HX:=qH (HE.out 65 (by
     unfold relE;rw [bs.out];simp only;have hc:k=0\/k=1:=qO;rw [Yac];rcases hc with h | h
     · exact .inl (by rw [ff.out h];simpa using G)
     exact .inr (by rw [fg.out h];simpa using G)) qD)
    clear bx fi G
    gi_upto_region 22 with fail
    have E:=KS.alloc (.cells #[.int .i64 0,.int .i64 0,.slice none 0 0] 115);generalize wr.alloc (.cells #[.int .i64 0,.int .i64 0,.slice none 0 0] 115)=w9 at *;have a2:=qH (bu.trans E fun _ _ f=>f);clear E q0 q1 X bd;gi_wp2_with fail;refine ⟨trivial,?_⟩;gi_at_call 66;refine (CallsIn.inRound lp (YaO.2 (Zas w9 65))).mono ?_;rintro e ac ⟨rfl,rfl⟩;exact ⟨rfl,Zah a2 fun _ f=>f.elim,65,rfl,⟨qD,HX⟩,cd.same a2,bb.same a2⟩
  have ch:¬ (k:Int)<2:=qO;have fj:=K0.out qO;have C:=K1.out qO;have ai:Same wr wr.drew:=(Yaa _ wr).drew;have HK:Hid (∀ H,Same w8 H->ZqA b1 rd p bA mR I N q.tt (.bool lv) sr ds p1 p2 p3 p4 ty pr H):=qH fun H h=>by have a:=cp.same h;exact ⟨(ax.same h).cell 0,(V.same h).cell 0,(V.same h).cell 2,(V.same h).cell 4,(ay.blk.same h).cell 1,a.cell 0,a.cell 1,a.cell 2,a.cell 3,a.cell 4,a.cell 5,a.cell 6,a.cell 7,a.cell 8⟩
  have a4:=HK.out _ (KS.trans ai fun _ _ f=>f);obtain ⟨f,m,g1,v,nv,l,bi⟩:=(ay.same (KS.trans ai fun _ _ f=>f)).tt;have a3:=qH (ZdV bi ty);have aj:=qH (bu.trans (KS.trans ai fun _ _ f=>f) fun _ _ f=>f);have cq:=qH (KS.trans ai fun _ _ f=>f);have b3:Hid (relE s x.data=if ZaY s.types ty=noText then 110 else 0):=qH (by
   unfold relE;rw [bs.out];simp only;rw [Yab];rintro (h | h)
   · rw [fj] at h;cases h
   rw [C] at h;cases h)
  clear bi K0 K1 fj C dz;unfold Zmu at a3;gi_wp2_with fail;by_cases O:ZaY s.types ty=noText
  · simp only [Yac O] at a3 b3;have HX:=qH (HE.out 110 b3 qD);clear O;refine Zar 9 (fun H=>ZqA b1 rd p bA mR I N q.tt (.bool lv) sr ds p1 p2 p3 p4 ty pr H) (by kernel_rfl) (by kernel_rfl) (Ycc fun _ _ h=>h) a4 (fun j=>?_);refine ZbE ?_;refine Ybi rfl (fun K hK=>?_);go_simp;refine a3.mono ?_;rintro e w9 ⟨rfl,rfl⟩;exact ⟨rfl,Zah aj.out fun _ f=>f.elim,110,rfl,⟨qD,HX⟩,cd.same aj.out,bb.same aj.out⟩
  simp only [Yab O] at a3 b3;clear O;refine Zar 9 (fun H=>ZqA b1 rd p bA mR I N q.tt (.bool lv) sr ds p1 p2 p3 p4 ty pr H) (by kernel_rfl) (by kernel_rfl) (Ycc fun _ _ h=>h) a4 (fun j=>?_);refine ZbE ?_;refine Ybi rfl (fun K hK=>?_);go_simp;refine a3.mono ?_;rintro e w9 ⟨rfl,rfl⟩;refine hK.out _ _ ?_;clear hK K j a3 a4 ai;obtain ⟨ac,bk⟩:∃ ac,wr.drew=ac:=⟨_,rfl⟩
  rw [bk] at aj cq ⊢;clear bk KS;have b4:Same ac ac.drew:=(Yaa _ ac).drew;have az:=qH (b0.upd (aj.trans b4 fun _ _ f=>f) id fun x v h=>h);obtain ⟨ad,L,bm,aq⟩:=az.snoc Zsp (by have a:=YaC List.length U.out;have h2:=(Yaq.1 al).1;have h3:=Zcs s.rels.recs 0;rw [cz.out] at h2 h3;rw [Yag,b8.out] at h3;omega) (x:=(x.id,x.data)) (ZjC U al) (by simp only;omega) (.agg #[.bool lv,.int .i64 sr,.int .i64 ds,.int .i64 p1,.int .i64 p2,.int .i64 p3,.int .i64 p4,.int .i64 ty,.int .i64 pr])
  have an:=qH L;have af:=qH bm;have ci:=qH aq;have a4:=HK.out _ (cq.trans b4 fun _ _ f=>f);clear L bm aq;gi_wp2_with fail;refine Zar 6 (fun H=>ZqA b1 rd p bA mR I N q.tt (.bool lv) sr ds p1 p2 p3 p4 ty pr H) (by kernel_rfl) (by kernel_rfl) (Ycc fun _ _ h=>h) a4 (fun j=>?_);refine ZbE ?_;refine Ybi rfl (fun K hK=>?_);have L:=an.out;go_simp;refine hK.out _ _ ?_;clear hK K L j a4 an;have a9:=qH (aj.trans b4 fun _ _ f=>f);have ec:Hid (Upd (fun b=>b=mR) w8 ad):=qH ((YbD (cq.trans b4 fun _ _ f=>f)).trans af fun _ _ e=>e);have di:=qH (ci.out (fun y u h=>h) ⟨_,bs,rfl⟩);have bz:=qH (Zae (Zaa cg a9) af fun g hg e=>by obtain ⟨cs,z⟩:=Zaf (Zaa cg a9) hg;exact az.ne z e.symm)
  have dj:Hid (ZqA b1 rd p bA mR I N q.tt (.bool lv) sr ds p1 p2 p3 p4 ty pr ad.drew):=qH (by
   have hd:=(Yaa (fun _=>False) ad).drew;have hne:∀ {g:Nat} {t:TypeId} {cs:Array Value},Blk w8 g t cs->Blk ad.drew g t cs:=fun h=>(h.upd ec fun e=>by have a:=b0.upd bu id fun x v h=>h;exact a.ne h e.symm).same hd
   have a:=hne cp;exact ⟨(hne ax).cell 0,(hne V).cell 0,(hne V).cell 2,(hne V).cell 4,(hne ay.blk).cell 1,a.cell 0,a.cell 1,a.cell 2,a.cell 3,a.cell 4,a.cell 5,a.cell 6,a.cell 7,a.cell 8⟩)
  have go:=qH (Zaa bz (Yaa _ ad).drew);have cr:=bz.out;have ga:=Zcz cr YbU qO;obtain ⟨y,hy⟩:∃ y,(chL N Y)[x.id]?=some y:=⟨_,Yar qO⟩
  obtain ⟨_,_,hc,hf⟩:=Zij cr YbU qO hy;have c0:ad.cell? ⟨I,x.id*7,none⟩=some (.bool y.live):=hc 0 _ rfl;have c1:=hc 1 _ rfl;have c2:=hc 2 _ rfl;have c3:=hc 3 _ rfl;have c4:=hc 4 _ rfl;have c5:=hc 5 _ rfl;have c6:=hc 6 _ rfl;have f0:=hf (x.id*7);have f1:=hf (x.id*7+1);have f2:=hf (x.id*7+2);have f3:=hf (x.id*7+3);have f4:=hf (x.id*7+4);have f5:=hf (x.id*7+5);have f6:=hf (x.id*7+6);have jn:(x.id:Int)<(N:Int):=qO;have a4:=dj.out;clear cr ga hy hc hf HK ax V cp eb dj b4;gi_wp2_with fail;refine Zar 8 (fun H=>ZqA b1 rd p bA mR I N q.tt (.bool lv) sr ds p1 p2 p3 p4 ty pr H) (by kernel_rfl) (by kernel_rfl) (Ycc fun _ _ h=>h) a4 (fun j=>?_);refine ZbE ?_;refine Ybi rfl (fun K hK=>?_);go_simp;refine hK.out _ _ ?_;clear hK K j a4;gi_wp2;obtain ⟨wE,em⟩:∃ wE,(putL ad I (x.id*7) (L1.cells ⟨lv,sr,ds,p1,p2,p3,p4⟩)).drew=wE:=⟨_,rfl⟩
  have dk:(((((((ad.setCell ⟨I,x.id*7,none⟩ (.bool lv)).setCell ⟨I,x.id*7+1,none⟩ (.int .i64 sr)).setCell ⟨I,x.id*7+2,none⟩ (.int .i64 ds)).setCell ⟨I,x.id*7+3,none⟩ (.int .i64 p1)).setCell ⟨I,x.id*7+4,none⟩ (.int .i64 p2)).setCell ⟨I,x.id*7+5,none⟩ (.int .i64 p3)).setCell ⟨I,x.id*7+6,none⟩ (.int .i64 p4)).drew=wE:=em;rw [dk];clear dk;have ed:x.id<N:=fc;have bf:Upd (fun b=>b=I) ad (putL ad I (x.id*7) (L1.cells ⟨lv,sr,ds,p1,p2,p3,p4⟩)).drew:=(Zik _ ad I _).drew;have dl:=Zaa (Znx bz YbU qO ed (⟨lv,sr,ds,p1,p2,p3,p4⟩:L1)) (Yaa _ _).drew;rw [em] at bf dl;clear em;have gb:=qH (ZtN N Y (x.id,x.data));obtain ⟨g4,d9⟩:=Zaf bz.out (g:=I) rfl;have fk:=di.upd bf (fun e=>di.ne d9 e) fun y u h=>h;have C:Upd (fun b=>b=mR) W1 ad:=(YbD a9).trans af.out fun _ _ e=>e;have ct:=(bb.upd C fun D' e hD h=>by
   obtain ⟨o,a,h2⟩:=b0.obj;rw [e] at h;obtain ⟨f,h3,_⟩:=b0.out;obtain ⟨es,c,h4⟩:=MpK.obj h3;rw [h4] at h;cases h).upd bf fun D' e hD h=>by
   rw [e] at h;unfold Blk at d9;rw [d9] at h;cases h
  refine ⟨((Yeg a9).trans (YdN af fun b e=>.inl ⟨qh a8,e ▸ az.obj⟩)).trans (YdN bf fun b e=>.inr ⟨109,by unfold DcU;decide,e ▸ ⟨_,d9⟩⟩),(a5.trans C fun _ _ e=>.inl e).trans bf fun _ _ e=>.inr e,fk,?_,fun y hy=>?_,ct⟩
  · rw [gb.out,Zqz bs.out];exact dl
  rcases YaR.1 hy with hy | hy
  · exact co y hy
  rw [YaH.1 hy];exact b3
 intro D2 W1 gm ⟨T,R,aa,ak,au⟩ cy;rw [<- cz.out] at R aa ak;have fl:Hid (Zbq (relE s) s.rels.recs=0):=qH (by rw [ZbA (relE s) _ 0,Zga ak]);have ee:s.rels.recs.length=N:=by rw [cz.out,Yag,b8.out]
 have fm:chL N (ZaZ 0 s.rels.recs)=Zcp s.rels:=by rw [<- ee];exact ZuT _
 rw [fm] at aa;have fo:=qH ee;have C:Upd (fun b=>b=mR\/b=I) w4 W1:=(YbD a1).trans T fun _ _ e=>e;have c7:Hid (Upd (fun b=>b=rd\/b=mN\/b=mR\/b=mP) w W1):=qH (ba.trans C fun b z e=>by
  rcases e with e | e
  · exact .inr (.inr (.inl e))
  have:=e9.out;have:=cb.out;exfalso;omega)
 have dm:Hid (Same w0 W1):=qH (bn.trans c7 fun b z e=>by have:=c9.out;rcases e with e | e | e | e <;> omega);have fq:Hid (Zbf m0 (D2+1) W1 [{ target:=.collected D2,args:=#[] },{ target:=.collected D,args:=#[] }]):=qH (au.cons (qh cb) (qh cc) cy);have X:∀ {g:Nat} {t:TypeId} {cs:Array Value},g≠I->Blk w4 g t cs->Blk W1 g t cs:=fun hg z=>z.upd C fun e=>by
  rcases e with e | e
  · exact a7.ne z e.symm
  exact hg e
 have ae:=qH (X (qh a8) aw.out);have bg:=qH (X (qh a8) av.out);have ao:=qH (cm.upd C (fun e=>by
  rcases e with e | e
  · exact bp.2.2 e.symm
  have:=a8.out;omega) fun x v h=>h)
 have fs:=qH (bv.upd C (fun e=>by
  rcases e with e | e
  · exact bp.1 e
  · have:=a8.out;omega) fun x v h=>h.upd C fun b e cs z=>by
  rcases e with e | e
  · exact a7.ne z e.symm
  obtain ⟨g4,el⟩:=Zaf ck.out (g:=I) rfl;exact z.ne el qD e)
 have ft:=qH R;have fu:=qH aa;have dn:=qH (a6.same dm);have ef:Hid (D2<W1.heap.size/\w.heap.size<=W1.heap.size/\m0<=D2):=qH ⟨(YaX.1 cy).1,c7.size,qh cc⟩;have q0:=ae.c0;have q1:=bg.c0;have q2:=dn.blk.c5;clear T R aa ak au ee fm cy C X gm bw aw av cm bv a7 dh cn ba cl a1 fb ck;refine ZfD ?_
 repeat refine Zdg ?_
 refine Zes ?_;go_wp2_with fail;refine (Zbo W1 q.fp).mono ?_;rintro e w6 ⟨rfl,rfl⟩;have fv:=Yad W1 67 #[.pointer (some ⟨q.fp,0,none⟩)];have b7:=(Yaa (fun _=>False) W1).alloc (.cells #[.pointer (some ⟨q.fp,0,none⟩)] 67);generalize W1.alloc (.cells #[.pointer (some ⟨q.fp,0,none⟩)] 67)=w6 at *;generalize dq:W1.heap.size=b6 at *;have gp:=qH dq;have M:=qH b7;have gc:=qH fv;have gd:Hid (Upd (fun b=>b=rd\/b=mN\/b=mR\/b=mP) w w6):=qH (c7.same b7);have cu:Hid (D2<w6.heap.size/\w.heap.size<=w6.heap.size):=qH (by have:=b7.size;have:=ef.out;omega);clear fv b7 dq q0 q1 q2;go_wp2_with fail;refine Zdr ?_;have fw:Hid (mP<w6.heap.size):=qH (by have a:=ao.lt;have h2:=M.size;omega);have cv:=(dn.same M).fp;refine ZcG (f:=q.fp) (fB:=b6) cv gc rfl rfl
  (fun Y W'=>Upd (fun b=>b=mP) w6 W'/\RecM W' mP Y VP/\(∀ y∈Y,Zfe s y.2=0)/\Zbf m0 (D2+1) W' [{ target:=.collected D2,args:=#[] },{ target:=.collected D,args:=#[] }])
  (fun er=>er≠0/\decE s=er) (fun W'=>Upd (fun b=>b=rd\/b=mN\/b=mR\/b=mP) w W'/\Zbf m0 (D2+1) W' [{ target:=.collected D2,args:=#[] },{ target:=.collected D,args:=#[] }])
  ⟨Yaa _ _,ao.upd M id fun x v h=>h,(fun _ h=>by cases h),fq.same M.out⟩
  (fun Y V1 V2 ⟨a,h2,h4,h5⟩ G=>⟨a.trans G fun b z P=>qt P.1,h2.upd G (fun P=>by have:=P.1;have:=fw.out;omega) fun x v h=>h,h4,h5.upd G fun D' P hD=>by have:=P.1;have:=cu.out;omega⟩)
  (fun V1 V2 ⟨a,h2⟩ G=>⟨a.trans G fun b z P=>by have:=P.1;have:=cu.out;omega,h2.upd G fun D' P hD=>by have:=P.1;have:=cu.out;omega⟩) ?F3 ?assign3 ?body3 ?done3 ?panic3
 case assign3 =>
  intro lp x V1 K hK;dsimp only [RE.args];gi_wp2;exact hK
 case panic3 =>
  intro D3 er V1 hD ⟨cw,bj⟩ ⟨cx,ek⟩ eo;refine ZbB (ek.cons (qh ef) (qh cu) eo).marks fun W' G=>?_;exact ⟨cx.trans G fun b z P=>by have:=P.1;have:=a0.size;have:=ah.out;omega,.inl ⟨by rw [bj];exact cw,by rw [bj];rfl⟩⟩
 case body3 =>
  intro lp Y x V1 ⟨T,R,ak,au⟩ Z ap hid bh ag;rw [<- dv.out] at Z ap;have HG:=qH (Znf V1 ag qO);have U:=qH Z;have al:=qH ap;have a5:=qH T;have b0:=qH R;have co:=qH ak;have bb:=qH au;have dd:x.id<65536:=Ycd hid cv.len;have HE:Hid (∀ er,Zfe s x.data=er->er≠0->decE s=er):=qH fun er a h2=>by unfold decE;have h3:=Zjx (e:=Zfe s) U.out al.out co.out (by rw [a];exact h2);rw [Yab (fun h=>h e1.out),Yab (fun h=>h fl.out),ZbA (Zfe s) _ 0,h3];exact a
  have cd:Hid (Upd (fun b=>b=rd\/b=mN\/b=mR\/b=mP) w V1):=qH (gd.trans a5 fun b z e=>.inr (.inr (.inr e)));clear T R ak au Z ap ag bh hid cv;gi_wp2_with fail;refine ⟨trivial,?_⟩;gi_at_call 75;refine (CallsIn.inRound lp (YaO.2 HG)).mono ?_;rintro e5 w7 ⟨da,⟨hg,rfl⟩ | ⟨r,hg,rfl⟩⟩
  · have bt:=qH da;have HX:=qH (HE.out 41 (by unfold Zfe;rw [hg]) qD);clear da hg HG
    gi_upto_region 31 with fail
    have E:=bt.alloc (.cells #[.int .i64 0,.int .i64 0,.int .i64 0,.int .i64 0,.int .i64 0,.int .i64 0] 145);have a2:=qH E;generalize w7.alloc (.cells #[.int .i64 0,.int .i64 0,.int .i64 0,.int .i64 0,.int .i64 0,.int .i64 0] 145)=w8 at *;clear E;gi_wp2_with fail;refine ⟨trivial,?_⟩;gi_at_call 58;refine (CallsIn.inRound lp (YaO.2 (Zco w8 (er:=41) qD))).mono ?_;rintro e w9 ⟨rfl,rfl⟩;exact ⟨rfl,Zah a2.out fun _ f=>f.elim,41,rfl,⟨qD,HX⟩,cd.same a2.out,bb.same a2.out⟩
  obtain ⟨ke,ki,nu,bl,pv,nx⟩:=r;have bt:=qH da;have bs:=qH hg;unfold P1.cells;simp only;clear da hg HG
  gi_upto_region 31 with fail
  have b9:=Yad w7 145 #[.int .i64 ke,.int .i64 ki,.int .i64 nu,.int .i64 bl,.int .i64 pv,.int .i64 nx];have E:=(Yaa (fun _=>False) w7).alloc (.cells #[.int .i64 ke,.int .i64 ki,.int .i64 nu,.int .i64 bl,.int .i64 pv,.int .i64 nx] 145);generalize w7.alloc (.cells #[.int .i64 ke,.int .i64 ki,.int .i64 nu,.int .i64 bl,.int .i64 pv,.int .i64 nx] 145)=w8 at *;generalize w7.heap.size=bA at *;have am:=qH b9;have bu:=qH (bt.trans E fun _ _ f=>f);clear b9 E bt;gi_wp2_with fail;refine ⟨trivial,?_⟩;gi_at_call 58;refine (CallsIn.inRound lp (YaO.2 (ZbP w8))).mono ?_;rintro e w9 ⟨rfl,rfl⟩;have c8:Upd (fun b=>b=mP) W1 w8:=((YbD M).trans a5 fun _ _ e=>e).same bu.out;have ax:=qH (ae.upd c8 fun e=>ao.ne ae e.symm);have V:=qH (bg.upd c8 fun e=>ao.ne bg e.symm);have ay:=qH (a6.same (dm.trans c8 fun b z e=>qh c9));have ce:Same w8 w8.drew:=(Yaa _ w8).drew;have HK:Hid (∀ H,Same w8 H->ZtQ b1 rd p bA mP q.tk ke ki nu bl pv nx H):=qH fun H h=>by have a:=am.same h;exact ⟨(ax.same h).cell 0,(V.same h).cell 0,(V.same h).cell 3,(ay.blk.same h).cell 2,a.cell 0,a.cell 1,a.cell 2,a.cell 3,a.cell 4,a.cell 5⟩
  have a4:=HK.out _ ce;obtain ⟨f,m,g1,v,nv,l,bi⟩:=(ay.same ce).tk;have a3:=qH (ZdV bi ke);have aj:=qH (bu.trans ce fun _ _ f=>f);have b3:Hid (Zfe s x.data=if ZaY s.keys ke=noText then 110 else 0):=qH (by unfold Zfe;rw [bs.out])
  clear bi c8;unfold Zmu at a3;gi_wp2_with fail;by_cases O:ZaY s.keys ke=noText
  · simp only [Yac O] at a3 b3;have HX:=qH (HE.out 110 b3 qD);clear O;refine Zar 9 (fun H=>ZtQ b1 rd p bA mP q.tk ke ki nu bl pv nx H) (by kernel_rfl) (by kernel_rfl) (Ycc fun _ _ h=>h) a4 (fun j=>?_);refine ZbE ?_;refine Ybi rfl (fun K hK=>?_);go_simp;refine a3.mono ?_;rintro e w9 ⟨rfl,rfl⟩;exact ⟨rfl,Zah aj.out fun _ f=>f.elim,110,rfl,⟨qD,HX⟩,cd.same aj.out,bb.same aj.out⟩
  simp only [Yab O] at a3 b3;clear O;refine Zar 9 (fun H=>ZtQ b1 rd p bA mP q.tk ke ki nu bl pv nx H) (by kernel_rfl) (by kernel_rfl) (Ycc fun _ _ h=>h) a4 (fun j=>?_);refine ZbE ?_;refine Ybi rfl (fun K hK=>?_);go_simp;refine a3.mono ?_;rintro e w9 ⟨rfl,rfl⟩;refine hK.out _ _ ?_;clear hK K j a3 a4;obtain ⟨ac,bk⟩:∃ ac,w8.drew=ac:=⟨_,rfl⟩
  rw [bk] at aj ce ⊢;have gf:=qH ce;clear bk ce;have b4:Same ac ac.drew:=(Yaa _ ac).drew;have a9:=qH (aj.trans b4 fun _ _ f=>f);have az:=qH (b0.upd a9 id fun x v h=>h);obtain ⟨ad,L,bm,aq⟩:=az.snoc Zpp (by have a:=YaC List.length U.out;have h2:=(Yaq.1 al).1;have h3:=Zcs s.props.recs 0;rw [dv.out] at h2 h3;rw [Yag] at h3;have h4:=a6.fp.len;omega) (x:=(x.id,x.data)) (ZjC U al) (by simp only;omega) (.agg #[.int .i64 ke,.int .i64 ki,.int .i64 nu,.int .i64 bl,.int .i64 pv,.int .i64 nx])
  have an:=qH L;have af:=qH bm;have ci:=qH aq;have a4:=HK.out _ (gf.trans b4 fun _ _ f=>f);clear L bm aq b4;gi_wp2_with fail;refine Zar 6 (fun H=>ZtQ b1 rd p bA mP q.tk ke ki nu bl pv nx H) (by kernel_rfl) (by kernel_rfl) (Ycc fun _ _ h=>h) a4 (fun j=>?_);refine ZbE ?_;refine Ybi rfl (fun K hK=>?_);have L:=an.out;go_simp;refine hK.out _ _ ?_;clear hK K L j a4 an;gi_wp2;have ct:=bb.upd ((YbD a9).trans af (S:=fun b=>b=mP) fun _ _ e=>e) fun D' e hD h=>by obtain ⟨f,h3,_⟩:=b0.out;obtain ⟨es,c,h4⟩:=MpK.obj h3;rw [e,h4] at h;cases h
  refine ⟨(Yeg a9).trans (YdN af fun b e=>.inl ⟨qh fw,e ▸ az.obj⟩),(a5.same a9).trans af fun _ _ e=>e,ci.out (fun y u h=>h) ⟨_,bs,rfl⟩,fun y hy=>?_,ct⟩;rcases YaR.1 hy with hy | hy
  · exact co y hy
  rw [YaH.1 hy];exact b3
 intro D3 V1 gs ⟨T,R,ak,au⟩ eo;rw [<- dv.out] at R ak;have C:Upd (fun b=>b=mP) W1 V1:=(YbD M).trans T fun _ _ e=>e;have gg:Zbq (Zfe s) s.props.recs=0:=by rw [ZbA (Zfe s) _ 0,Zga ak]
 refine ZtM ?_;refine ZhX (au.cons (qh ef) (qh cu) eo).marks fun W' G=>?_;have O:∀ m,m<w.heap.size->¬ (m0<=m/\V1.heap[m]?=some (.deferred (some []))):=fun m hm h=>by have:=h.1;have:=a0.size;have:=ah.out;omega
 have eg:∀ {g:Nat} {t:TypeId} {cs:Array Value},Blk V1 g t cs->¬ (m0<=g/\V1.heap[g]?=some (.deferred (some []))):=fun z h=>by unfold Blk at z;rw [z] at h;cases h.2
 have hl:=dy.out;have eh:mN<w.heap.size/\mR<w.heap.size/\mP<w.heap.size:=by have h:=g6.out;have h2:=HZ.out;exact ⟨qO,qO,qO⟩
 have fx:=bg.upd C fun e=>ao.ne bg.out e.symm;have gi:=fs.upd C (fun e=>bp.2.1 e) fun x v h=>h.upd C fun b e cs z=>ao.ne z e.symm;have fy:=Zae fu.out C fun g hg e=>by obtain ⟨cs,z⟩:=Zaf fu.out hg;exact ao.ne z e.symm
 refine ⟨_,Ycp rfl _ _ _,(c7.trans C fun b z e=>.inr (.inr (.inr e))).trans G fun b z P=>(O b z P).elim,.inr ⟨?_,rfl,some ⟨I,0,none⟩,N,?_⟩⟩
 · unfold decE;rw [Yab (fun h=>h e1.out),Yab (fun h=>h fl.out)];exact gg
 refine ⟨?_,gi.upd G (O _ eh.1) fun x v h=>h.upd G fun b P cs z=>eg z P,((ft.upd C (fun e=>bp.2.2 e) fun x v h=>h).upd G (O _ eh.2.1) fun x v h=>h),R.upd G (O _ eh.2.2) fun x v h=>h,?_⟩
 · rw [fo.out];exact fx.upd G (eg fx)
 rw [fo.out];exact Zae fy G fun g hg P=>by obtain ⟨cs,z⟩:=Zaf fy hg;exact eg z P
end Go.Proofs.YtmkjfhnlnhceiaaGreatDoor
