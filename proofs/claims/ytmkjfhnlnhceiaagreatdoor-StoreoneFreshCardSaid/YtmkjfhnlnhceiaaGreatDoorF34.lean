/- Lemmas: walks and plain laws. -/
import Derived.Test.YtmkjfhnlnhceiaaGreatDoorF33
set_option maxRecDepth 100000
set_option maxHeartbeats 16000000
namespace Go.Proofs.YtmkjfhnlnhceiaaGreatDoor
variable {w wa w9:World} {B g i:Nat} {t:TypeId} {cs:Array Value} {v9:Value}
section
open Go.RowKit
attribute [local go_sem] oD
def decE (s:St1):Int:=if sD (CF s) s.nodes.recs≠0 then sD (CF s) s.nodes.recs else if sD (relE s) s.rels.recs≠0 then sD (relE s) s.rels.recs else sD (DF s) s.props.recs
structure DecS (w0 w:World) (B p rd mN mR mP mM mB:Nat) (q:StP) (s:St1) (A:Option Addr) (c:Nat):Prop where
 blk:Blk w rd 84 #[.pointer (some ⟨p,0,none⟩),.map (some mN),.map (some mR),.map (some mP),.slice A s.rels.recs.length c,.map (some mM),.map (some mB)]
 node:RecM w mN (GB 0 s.nodes.recs) (VN w0.heap.size)
 rel:RecM w mR (GB 0 s.rels.recs) VR
 prop:RecM w mP (GB 0 s.props.recs) VP
 chain:w.ownsRow w0.heap.size 109 7 (.slice A s.rels.recs.length c) s.rels.recs.length ((dF s.rels).flatMap L1.cells)
abbrev CM (b1 rd p bA mR gC N tt:Nat) (lv:Value) (sr ds p1 p2 p3 p4 ty pr:Int) (wx:World):Prop :=
 wx.cell? ⟨b1,0,none⟩=some (.pointer (some ⟨rd,0,none⟩))/\wx.cell? ⟨rd,0,none⟩=some (.pointer (some ⟨p,0,none⟩))/\wx.cell? ⟨rd,2,none⟩=some (.map (some mR))/\wx.cell? ⟨rd,4,none⟩=some (.slice (some ⟨gC,0,none⟩) N N)/\wx.cell? ⟨p,1,none⟩=some (.pointer (some ⟨tt,0,none⟩)) /\
  wx.cell? ⟨bA,0,none⟩=some lv/\wx.cell? ⟨bA,1,none⟩=some (.int .i64 sr)/\wx.cell? ⟨bA,2,none⟩=some (.int .i64 ds)/\wx.cell? ⟨bA,3,none⟩=some (.int .i64 p1)/\wx.cell? ⟨bA,4,none⟩=some (.int .i64 p2)/\wx.cell? ⟨bA,5,none⟩=some (.int .i64 p3)/\wx.cell? ⟨bA,6,none⟩=some (.int .i64 p4)/\wx.cell? ⟨bA,7,none⟩=some (.int .i64 ty)/\wx.cell? ⟨bA,8,none⟩=some (.int .i64 pr)
abbrev aR (b1 rd p bA mP tk:Nat) (ke ki nu bl pv nx:Int) (wx:World):Prop :=
 wx.cell? ⟨b1,0,none⟩=some (.pointer (some ⟨rd,0,none⟩))/\wx.cell? ⟨rd,0,none⟩=some (.pointer (some ⟨p,0,none⟩))/\wx.cell? ⟨rd,3,none⟩=some (.map (some mP))/\wx.cell? ⟨p,2,none⟩=some (.pointer (some ⟨tk,0,none⟩)) /\
  wx.cell? ⟨bA,0,none⟩=some (.int .i64 ke)/\wx.cell? ⟨bA,1,none⟩=some (.int .i64 ki)/\wx.cell? ⟨bA,2,none⟩=some (.int .i64 nu)/\wx.cell? ⟨bA,3,none⟩=some (.int .i64 bl)/\wx.cell? ⟨bA,4,none⟩=some (.int .i64 pv)/\wx.cell? ⟨bA,5,none⟩=some (.int .i64 nx)
theorem ZnG (w0 w:World) {B p rd mN mR mP mM mB:Nat} {q:StP} {s:St1} (hst:StM w0 B p q s) (hsm:Same w0 w) (hlo:w0.heap.size<=rd/\w0.heap.size<=mN/\w0.heap.size<=mR/\w0.heap.size<=mP)
 (hbk:Blk w rd 84 #[.pointer (some ⟨p,0,none⟩),.map (some mN),.map (some mR),.map (some mP),.slice none 0 0,.map (some mM),.map (some mB)])
 (hN:RecM w mN [] (VN w0.heap.size)) (hR:RecM w mR [] VR) (hP:RecM w mP [] VP) (hne:mN≠mR/\mN≠mP/\mR≠mP) :
 Calls Tryz.prog 32 #[.pointer (some ⟨rd,0,none⟩)] w fun e w'=>Upd (fun b=>b=rd\/b=mN\/b=mR\/b=mP) w w' /\
  ((decE s≠0/\e=cF (decE s))\/(decE s=0/\e=.returned (.tuple #[])/\∃ A c,DecS w0 w' B p rd mN mR mP mM mB q s A c)):=by
 have a6:=qH hst;have bn:=qH hsm;have c9:=qH hlo;have bo:=qH hbk;have HN:=qH hN;have HR:=qH hR;have HP:=qH hP;have bp:=qH hne;have g6:Hid (mN<w.heap.size/\mR<w.heap.size/\mP<w.heap.size):=qH ⟨hN.lt,hR.lt,hP.lt⟩;clear hst hsm hlo hbk hN hR hP hne;refine uW Tryz.func32 rfl ?_;simp only [Tryz.ntmps32,GF,BA,mC,Nat.reduceAdd,Nat.reduceSub,oI,pI,qI,rI,SB,EB];have du:Hid (s.nodes.recs=q.ln.map BS.rc):=qH (by rw [<- a6.out.en];rfl);have cz:Hid (s.rels.recs=q.lr.map BS.rc):=qH (by rw [<- a6.out.er];rfl);have dv:Hid (s.props.recs=q.lp.map BS.rc):=qH (by rw [<- a6.out.ep];rfl);refine PH ?_;refine eH ?_;go_wp2_with fail;have eq:=jA w 77 #[.pointer (some ⟨rd,0,none⟩)];have et:=(eA (fun _=>False) w).alloc (.cells #[.pointer (some ⟨rd,0,none⟩)] 77);have eu:(w.alloc (.cells #[.pointer (some ⟨rd,0,none⟩)] 77)).heap.size=w.heap.size+1:=aB _ _;generalize w.alloc (.cells #[.pointer (some ⟨rd,0,none⟩)] 77)=w1 at *;generalize fz:w.heap.size=b1 at *;have d0:=qH et;have dw:=qH eq;have HZ:Hid (b1=w.heap.size/\w1.heap.size=b1+1):=qH ⟨fz.symm,eu⟩;clear et eq eu fz;have db:=a6.out.same (bn.out.trans d0.out fun _ _ f=>f);have q0:w1.cell? ⟨b1,0,none⟩=some (.pointer (some ⟨rd,0,none⟩)):=dw.out.cell 0;have q1:w1.cell? ⟨rd,0,none⟩=some (.pointer (some ⟨p,0,none⟩)):=(bo.out.same d0.out).cell 0;have q2:w1.cell? ⟨p,3,none⟩=some (.pointer (some ⟨q.fn,0,none⟩)):=db.blk.cell 3;clear db
 repeat refine PH ?_
 refine eH ?_;go_wp2_with fail;refine (DI w1 q.fn).mono ?_;rintro e w2 ⟨rfl,rfl⟩;have ev:=jA w1 67 #[.pointer (some ⟨q.fn,0,none⟩)];have dx:=(eA (fun _=>False) w1).alloc (.cells #[.pointer (some ⟨q.fn,0,none⟩)] 67);generalize w1.alloc (.cells #[.pointer (some ⟨q.fn,0,none⟩)] 67)=w2 at *;generalize w1.heap.size=b2 at *;have a0:=qH (d0.out.trans dx fun _ _ f=>f);have ew:=qH ev;have cf:=qH (dw.out.same dx);clear ev dx q0 q1 q2;go_wp2_with fail;refine jL ?_;generalize g0:w2.heap.size=m0 at *;have ah:=qH g0;have dy:Hid (rd<m0/\mN<m0/\mR<m0/\mP<m0):=qH (by have a:=a0.out.size;exact ⟨by have:=bo.out.lt;omega,by have:=HN.out.lt;omega,by have:=HR.out.lt;omega,by have:=HP.out.lt;omega⟩)
 have dc:=a6.out.same (bn.out.trans a0.out fun _ _ f=>f);have d1:=dc.fn;clear dc g0;refine iL (f:=q.fn) (fB:=b2) d1 ew.out rfl rfl
  (fun Y W=>Upd (fun b=>b=mN) w2 W/\RecM W mN Y (VN w0.heap.size)/\∀ y∈Y,CF s y.2=0)
  (fun er=>er≠0/\decE s=er) (fun W=>Upd (fun b=>b=rd\/b=mN\/b=mR\/b=mP) w W)
  ⟨eA _ _,HN.out.upd a0.out id fun x v h=>h.upd a0.out fun b z=>z.elim,fun _ h=>by cases h⟩
  (fun Y W W' ⟨a,h2,h3⟩ G=>⟨a.trans G fun b z P=>by have:=P.1;have:=ah.out;omega,h2.upd G (fun P=>by have:=P.1;have:=dy.out;have:=ah.out;omega) fun x v h=>h.upd G fun b P cs z=>(P.cells z).elim,h3⟩)
  (fun W W' h G=>h.trans G fun b z P=>by have:=P.1;have:=a0.out.size;omega) ?F ?assign ?body ?done ?panic
 case assign =>
  intro lp x W K hK;dsimp only [RE.args];gi_wp2;exact hK
 case body =>
  intro lp Y x W ⟨T,R,aa⟩ Z ap hid bh ag;rw [<- du.out] at Z ap;have HG:=qH (Znf W ag (by omega));have U:=qH Z;have al:=qH ap;have a5:=qH T;have b0:=qH R;have cg:=qH aa;have dd:x.id<65536:=RF hid d1.len;have HE:Hid (∀ er,CF s x.data=er->er≠0->decE s=er):=qH fun er a h2=>by unfold decE;have h3:=PU (e:=CF s) U.out al.out cg.out (by rw [a];exact h2);rw [xJ _ _ 0,h3];simp only;rw [a,gA h2]
  clear T R aa Z ap ag bh hid d1;gi_wp2_with fail;refine ⟨trivial,?_⟩;gi_at_call 72;refine (CallsIn.inRound lp (ZB.2 HG.out)).mono ?_;rintro e5 w5 ⟨bq,⟨hg,rfl⟩ | ⟨n,A1,n1,c1,hg,rfl,ho⟩⟩
  · have a1:=qH bq;have HX:=qH (HE.out 41 (by unfold CF;rw [hg]) (by decide));clear bq hg HG
    gi_upto_region 5 with fail
    have E:=a1.out.alloc (.cells #[.int .i64 0,.int .i64 0,.slice none 0 0] 115);have a2:=qH E;generalize w5.alloc (.cells #[.int .i64 0,.int .i64 0,.slice none 0 0] 115)=w6 at *;clear E;gi_wp2_with fail;refine ⟨trivial,?_⟩;gi_at_call 58;refine (CallsIn.inRound lp (ZB.2 (UH w6 (er:=41) (by decide)))).mono ?_;rintro e w7 ⟨rfl,rfl⟩;exact ⟨rfl,ZD a2.out fun _ f=>f.elim,41,rfl,⟨by decide,HX.out⟩,((a0.out.mono (S':=fun b=>b=rd\/b=mN\/b=mR\/b=mP) fun _ _ f=>f.elim).trans a5.out fun _ _ e=>.inr (.inl e)).same a2.out⟩
  obtain ⟨rl,pp,ls⟩:=n;obtain rfl:n1=ls.length:=by obtain ⟨A',c',e⟩:=WA ho;injection e
  have a1:=qH bq;have d2:=qH ho;have d3:=qH hg;unfold N1.cellsV;simp only at d2 ⊢;obtain ⟨nl,ei⟩:∃ nl,ls.length=nl:=⟨_,rfl⟩
  have b8:=qH ei;rw [ei] at d2 ⊢;have gn:nl<=8:=by have a:=YU d3.out;simp only [bE,OG,kB,NC] at a;omega
  clear bq ho hg HG ei
  gi_upto_region 5 with fail
  have b9:=jA w5 115 #[.int .i64 rl,.int .i64 pp,.slice A1 nl c1];have E:=(eA (fun _=>False) w5).alloc (.cells #[.int .i64 rl,.int .i64 pp,.slice A1 nl c1] 115);generalize w5.alloc (.cells #[.int .i64 rl,.int .i64 pp,.slice A1 nl c1] 115)=w6 at *;generalize w5.heap.size=bA at *;have am:=qH b9;have M:=qH (a1.out.trans E fun _ _ f=>f);have ex:=qH (mA d2.out E);have ca:Hid (Same w0 w6):=qH (((bn.out.trans a0.out fun _ _ f=>f).trans a5.out fun b z e=>by have:=c9.out;omega).trans M.out fun _ _ f=>f);clear b9 E a1 d2;gi_wp2_with fail;refine ⟨trivial,?_⟩;gi_at_call 58;refine (CallsIn.inRound lp (ZB.2 (zF w6))).mono ?_;rintro e w7 ⟨rfl,rfl⟩;have r2:w6.cell? ⟨bA,2,none⟩=some (.slice A1 nl c1):=am.out.cell 2;gi_wp2_with fail;have de:=qH (cf.out.upd (a5.out.trans M.out (S:=fun b=>b=mN) fun _ _ f=>f.elim) fun e=>by have:=HN.out.lt;have:=HZ.out;omega);have ab:=qH ((bo.out.same a0.out).upd (a5.out.trans M.out (S:=fun b=>b=mN) fun _ _ f=>f.elim) fun e=>HN.out.ne bo.out e.symm);have df:=qH (a6.out.same ca.out);gi_loopg [40] nl (fun gh sk wr=>∃ k:Nat,nl-k=gh/\k<=nl/\sk=.int .i64 (k:Int)/\w6=wr/\Hid ((ls.take k).any (fun i=>decide (FB s.labels i=noText))=false))
  case atStart=>exact ⟨0,rfl,oA _,rfl,rfl,qH rfl⟩
  obtain ⟨k,rfl,hk,rfl,rfl,KA⟩:=hrel;by_cases dz:k<nl
  · have ch:(k:Int)<(nl:Int):=by omega
    obtain ⟨g,u,rfl,gj,gk,G,X,_,_⟩:=EE ex.out dz;rw [MA] at G;obtain ⟨li,ej,rfl⟩:=GH.1 G;have g7:=qH ej;have q0:w6.cell? ⟨b1,0,none⟩=some (.pointer (some ⟨rd,0,none⟩)):=de.out.cell 0;have q1:w6.cell? ⟨rd,0,none⟩=some (.pointer (some ⟨p,0,none⟩)):=ab.out.cell 0;have q2:w6.cell? ⟨p,0,none⟩=some (.pointer (some ⟨q.tl,0,none⟩)):=df.out.blk.cell 0;have e0:=qH (show (ls.take (k+1)).any (fun i=>decide (FB s.labels i=noText))=decide (FB s.labels li=noText) by rw [eD,ej,oR,KA.out];simp);obtain ⟨f,m,g1,v,nv,l,bi⟩:=df.out.tl;have a3:=qH (sM bi li);clear G ej gj gk bi;gi_wp2_with fail;refine ⟨trivial,?_⟩;gi_at_call 73;refine (CallsIn.inRound lp (ZB.2 a3.out)).mono ?_;rintro e w7 ⟨hn,rfl⟩;unfold iK at hn;by_cases O:FB s.labels li=noText
    · rw [gA O] at hn;subst hn;have HX:=qH (HE.out 110 (by unfold CF;rw [d3.out];simp only;rw [gA (iG.2 ⟨li,OC g7.out,by simp [O]⟩)]) (by decide))
      exact ⟨rfl,ZD M.out fun _ f=>f.elim,110,rfl,⟨by decide,HX.out⟩,((a0.out.mono (S':=fun b=>b=rd\/b=mN\/b=mR\/b=mP) fun _ _ f=>f.elim).trans a5.out fun _ _ e=>.inr (.inl e)).same M.out⟩
    rw [aA O] at hn;subst hn;have e0:=qH (e0.out.trans (LB O));clear q0 q1 q2 X a3 O;gi_wp2;gi_roundg (nl-(k+1))
    case measure=>omega
    case rel=>exact ⟨k+1,rfl,by omega,by go_num,rfl,e0⟩
  have ch:¬ (k:Int)<(nl:Int):=by omega
  have ey:Hid (CF s x.data=0):=qH (by unfold CF;rw [d3.out];simp only;have a:=KA.out;rw [cB (by rw [b8.out];omega)] at a;rw [aA (by rw [a];simp)])
  have ai:Same w6 w6.drew:=(eA _ w6).drew;have d4:=qH ((b0.out.upd M.out id fun x v h=>h.upd M.out fun b z=>z.elim).upd ai id fun x v h=>h.upd ai fun b z=>z.elim);obtain ⟨w7,L,g2,aq⟩:=d4.out.snoc AO (by have a:=tB List.length U.out;have h2:=(IA.1 al.out).1;have h3:=zJ s.nodes.recs 0;rw [du.out] at h2 h3;rw [nA] at h3;have h4:=a6.out.fn.len;omega) (x:=(x.id,x.data)) (WU U.out al.out) (Nat.le_of_lt dd) (.agg #[.int .i64 rl,.int .i64 pp,.slice A1 nl c1])
  have an:=qH L;have d5:=qH g2;have ci:=qH aq;have HK:Hid (∀ H,Same w6 H->(H.cell? ⟨b1,0,none⟩=some (.pointer (some ⟨rd,0,none⟩))/\H.cell? ⟨rd,1,none⟩=some (.map (some mN))/\H.cell? ⟨bA,0,none⟩=some (.int .i64 rl)/\H.cell? ⟨bA,1,none⟩=some (.int .i64 pp)/\H.cell? ⟨bA,2,none⟩=some (.slice A1 nl c1))):=qH fun H h =>
   ⟨(de.out.same h).cell 0,(ab.out.same h).cell 1,(am.out.same h).cell 0,(am.out.same h).cell 1,(am.out.same h).cell 2⟩
  clear L g2 aq r2;gi_wp2_with fail;refine dG 6 (fun H=>H.cell? ⟨b1,0,none⟩=some (.pointer (some ⟨rd,0,none⟩))/\H.cell? ⟨rd,1,none⟩=some (.map (some mN))/\H.cell? ⟨bA,0,none⟩=some (.int .i64 rl)/\H.cell? ⟨bA,1,none⟩=some (.int .i64 pp)/\H.cell? ⟨bA,2,none⟩=some (.slice A1 nl c1)) (by kernel_rfl) (by kernel_rfl) (cG fun _ _ h=>h) (HK.out _ ai) (fun j=>?_);refine tC ?_;refine bD rfl (fun K hK=>?_);have L:=an.out;go_simp;refine hK.out _ _ ?_;clear hK K L;gi_wp2;refine ⟨(AM (M.out.trans ai fun _ _ f=>f)).trans (gL d5.out fun b e=>.inl ⟨by have:=dy.out;have:=ah.out;omega,e ▸ d4.out.obj⟩),((a5.out.same M.out).same ai).trans d5.out fun _ _ e=>e,
   ci.out (fun y u h=>h.upd d5.out fun b e cs z=>d4.out.ne z e.symm) ⟨⟨rl,pp,ls⟩,A1,c1,d3.out,by rw [b8.out];rfl,?_⟩,fun y hy=>?_⟩
  · have a:=RA (base':=w0.heap.size) (mA ex.out ai) (by have:=bn.out.size;have:=a0.out.size;have:=a5.out.size;omega);have h2:=GA a d5.out fun g hg e=>by obtain ⟨cs,z⟩:=LA a hg;exact d4.out.ne z e.symm
    rw [<- b8.out] at h2;exact h2
  rcases YB.1 hy with hy | hy
  · exact cg.out y hy
  rw [QB.1 hy];exact ey.out
 case panic =>
  intro D er W hD ⟨cw,bj⟩ cx hW;refine yJ (B:=m0) ((BI.nil m0 W).cons (B':=0) (fun D' _ h=>by cases h) (oA _) (by have:=ah.out;omega) hW) fun W' G=>?_;exact ⟨cx.trans G fun b z P=>by have:=P.1;have:=a0.out.size;have:=ah.out;omega,.inl ⟨by rw [bj];exact cw,by rw [bj];rfl⟩⟩
 intro D W hD ⟨T,R,aa⟩ hW;rw [<- du.out] at R aa;have e1:Hid (sD (CF s) s.nodes.recs=0):=qH (by rw [xJ _ _ 0,OU aa]);have C:Upd (fun b=>b=mN) w W:=(a0.out.mono fun _ _ f=>f.elim).trans T fun _ _ e=>e;have ez:Hid (Upd (fun b=>b=rd\/b=mN\/b=mR\/b=mP) w W):=qH (C.mono fun _ _ e=>.inr (.inl e));have ca:Hid (Same w0 W):=qH (bn.out.trans C fun b z e=>by have:=c9.out;omega);have f7:Hid (TC m0 (D+1) W [{ target:=.collected D,args:=#[] }]):=qH ((TC.nil m0 m0 W).cons (lA _) (by have:=ah.out;omega) hW);have ae:=qH (cf.out.upd T fun e=>by have:=HN.out.lt;have:=HZ.out;omega);have ab:=qH (bo.out.upd C fun e=>HN.out.ne bo.out e.symm);have e2:=qH (HR.out.upd C (fun e=>bp.1 e.symm) fun x v h=>h);have e3:=qH (HP.out.upd C (fun e=>bp.2.1 e.symm) fun x v h=>h);have e4:=qH R;have cb:Hid (w.heap.size<=W.heap.size/\m0<=W.heap.size/\m0<=D):=qH ⟨C.size,by have:=T.size;have:=ah.out;omega,by have:=ah.out;omega⟩;have cj:=qH (a6.out.same ca.out);have dg:Hid (D<W.heap.size):=qH (sC.1 hW).1;clear T R aa hW C d1 cf ew dw d0 bo HR HP hD;obtain ⟨N,hN⟩:∃ N,q.lr.length=N:=⟨_,rfl⟩
 have b8:=qH hN;have e6:=qH (TJ W.drew (cj.out.fr.same (eA _ W).drew));rw [hN] at e6;have d6:N<=65536:=by rw [<- hN];exact a6.out.fr.len
 have aq:=fun w=>ZuK w N d6;have e7:Same W W.drew:=(eA _ W).drew;have HK:Hid (∀ H,Same W H->(H.cell? ⟨b1,0,none⟩=some (.pointer (some ⟨rd,0,none⟩))/\H.cell? ⟨rd,0,none⟩=some (.pointer (some ⟨p,0,none⟩))/\H.cell? ⟨p,4,none⟩=some (.pointer (some ⟨q.fr,0,none⟩)))):=qH fun H h =>
  ⟨(ae.out.same h).cell 0,(ab.out.same h).cell 0,(cj.out.blk.same h).cell 4⟩
 clear hN;refine BM ?_
 repeat refine PH ?_
 refine eH ?_;go_wp2_with fail;refine wp_region_noPanic ?_;refine eE 12 (fun H=>H.cell? ⟨b1,0,none⟩=some (.pointer (some ⟨rd,0,none⟩))/\H.cell? ⟨rd,0,none⟩=some (.pointer (some ⟨p,0,none⟩))/\H.cell? ⟨p,4,none⟩=some (.pointer (some ⟨q.fr,0,none⟩))) (by kernel_rfl) (HK.out _ e7) (fun j=>?_);refine tC ?_;refine CD 8 rfl (fun K hK=>?_);go_simp;refine e6.out.mono ?_;rintro e w' ⟨rfl,rfl⟩;refine hK.out _ _ (HK.out _ e7) (fun j=>?_);clear hK K;refine CD 9 rfl (fun K hK=>?_);go_simp;have d7:=((eA (fun _=>False) W).alloc (.cells ((List.replicate N dC).flatMap L1.cells).toArray 109)).drew;have e8:=mA (ZwV W (B:=w0.heap.size) (ca.out.size) d6) (eA _ _).drew;refine hK.out _ _ (HK.out _ d7) (fun j=>?_);clear hK K aq;refine tC ?_;generalize (W.alloc (.cells ((List.replicate N dC).flatMap L1.cells).toArray 109)).drew=w3 at *;obtain ⟨I,g3⟩:∃ I,W.heap.size=I:=⟨_,rfl⟩
 have f8:W.heap.size<=I:=Nat.le_of_eq g3;rw [g3] at e8 ⊢;have d8:=ab.out.same d7;have c4:w3.cell? ⟨rd,4,none⟩=some (.slice none 0 0):=d8.cell 4;have f4:w3.frozen? ⟨rd,4,none⟩=false:=d8.frozen 4;refine bD rfl (fun K hK=>?_);go_simp;refine hK.out _ _ ?_;clear hK K j e7;have ar:Upd (fun b=>b=rd) W (w3.setCell ⟨rd,4,none⟩ (.slice (some ⟨I,0,none⟩) N N)):=(iE d7).trans ((eA (fun b=>b=rd) w3).put1 _) fun _ _ e=>e;have av:Hid (Blk (w3.setCell ⟨rd,4,none⟩ (.slice (some ⟨I,0,none⟩) N N)) rd 84 #[.pointer (some ⟨p,0,none⟩),.map (some mN),.map (some mR),.map (some mP),.slice (some ⟨I,0,none⟩) N N,.map (some mM),.map (some mB)]):=qH (d8.put 4 _);have ck:Hid ((w3.setCell ⟨rd,4,none⟩ (.slice (some ⟨I,0,none⟩) N N)).ownsRow w0.heap.size 109 7 (.slice (some ⟨I,0,none⟩) N N) N ((chL N []).flatMap L1.cells)):=qH (GA e8 ((eA (fun b=>b=rd) w3).put1 _) fun g hg e=>by have a:=ab.out.lt;have h2:I=g:=eB hg;omega)
 have e9:Hid (W.heap.size<=I):=qH f8;generalize w3.setCell ⟨rd,4,none⟩ (.slice (some ⟨I,0,none⟩) N N)=w4 at *;have ba:Hid (Upd (fun b=>b=rd\/b=mN\/b=mR\/b=mP) w w4):=qH (ez.out.trans ar fun _ _ e=>.inl e);have cl:Hid (Same w0 w4):=qH (ca.out.trans ar fun b z e=>by have:=c9.out;omega);have dh:=qH (f7.out.upd ar fun D' e hD h=>by have a:=ab.out;unfold Blk at a;rw [e,a] at h;cases h)
 have aw:=qH (ae.out.upd ar fun e=>by have:=HZ.out;have:=ab.out.ne ae.out (by decide);omega);have a7:=qH (e2.out.upd ar (fun e=>e2.out.ne ab.out e) fun x v h=>h);have cm:=qH (e3.out.upd ar (fun e=>e3.out.ne ab.out e) fun x v h=>h);have bv:=qH (e4.out.upd ar (fun e=>e4.out.ne ab.out e) fun x v h=>h.upd ar fun b e cs z=>absurd rfl (ab.out.ne z (by decide) |> fun h=>by rw [e] at h;exact h));have cn:=qH (a6.out.same cl.out);have g8:Hid (W.heap.size<=w4.heap.size):=qH ar.size;have q0:w4.cell? ⟨b1,0,none⟩=some (.pointer (some ⟨rd,0,none⟩)):=aw.out.cell 0;have q1:w4.cell? ⟨rd,0,none⟩=some (.pointer (some ⟨p,0,none⟩)):=av.out.cell 0;have q2:w4.cell? ⟨p,4,none⟩=some (.pointer (some ⟨q.fr,0,none⟩)):=cn.out.blk.cell 4;clear d7 e8 f8 d8 c4 f4 ar ez ca f7 ae e2 e3 e4 cj ab HK e6 d6;refine NoPanic.normal ?_;go_wp2_with fail
 repeat refine PH ?_
 refine eH ?_;go_wp2_with fail;refine (DI w4 q.fr).mono ?_;rintro e w5 ⟨rfl,rfl⟩;have f9:=jA w4 67 #[.pointer (some ⟨q.fr,0,none⟩)];have bq:=(eA (fun _=>False) w4).alloc (.cells #[.pointer (some ⟨q.fr,0,none⟩)] 67);generalize w4.alloc (.cells #[.pointer (some ⟨q.fr,0,none⟩)] 67)=w5 at *;generalize dp:w4.heap.size=b5 at *;have fa:=qH dp;clear dp;have a1:=qH bq;have fb:=qH f9;clear f9 bq q0 q1 q2;go_wp2_with fail;refine jL ?_;have cc:Hid (m0<=w5.heap.size/\D<w5.heap.size/\W.heap.size<=w5.heap.size):=qH (by have a:=a1.out.size;have h2:=g8.out;have h3:=dg.out;have h4:=fa.out;have h5:=cb.out;exact ⟨by omega,by omega,by omega⟩)
 have a8:Hid (mR<w5.heap.size/\I<w5.heap.size/\I≠mR/\I≠mN/\I≠mP/\I≠rd/\I≠b1):=qH (by obtain ⟨cs,z⟩:=LA ck.out (g:=I) rfl;have h2:=a1.out.size;have h3:=z.lt;exact ⟨by have:=a7.out.lt;omega,by omega,(a7.out.ne z).symm,(bv.out.ne z).symm,(cm.out.ne z).symm,z.ne av.out (by decide),z.ne aw.out (by decide)⟩)
 have bw:=(cn.out.same a1.out).fr;refine iL (f:=q.fr) (fB:=b5) bw fb.out rfl rfl
  (fun Y W'=>Upd (fun b=>b=mR\/b=I) w5 W'/\RecM W' mR Y VR/\W'.ownsRow w0.heap.size 109 7 (.slice (some ⟨I,0,none⟩) N N) N ((chL N Y).flatMap L1.cells)/\(∀ y∈Y,relE s y.2=0)/\TC m0 (D+1) W' [{ target:=.collected D,args:=#[] }])
  (fun er=>er≠0/\decE s=er) (fun W'=>Upd (fun b=>b=rd\/b=mN\/b=mR\/b=mP) w W'/\TC m0 (D+1) W' [{ target:=.collected D,args:=#[] }])
  ⟨eA _ _,a7.out.upd a1.out id fun x v h=>h,mA ck.out a1.out,(fun _ h=>by cases h),dh.out.same a1.out⟩
  (fun Y W1 W2 ⟨a,h2,h3,h4,h5⟩ G=>⟨a.trans G fun b z P=>by have:=P.1;omega,h2.upd G (fun P=>by have:=P.1;have:=a8.out;omega) fun x v h=>h,cM h3 G id,h4,h5.upd G fun D' P hD=>by have:=P.1;have:=cc.out;omega⟩)
  (fun W1 W2 ⟨a,h2⟩ G=>⟨a.trans G fun b z P=>by have:=P.1;have:=cc.out;have:=ba.out.size;have:=a1.out.size;omega,h2.upd G fun D' P hD=>by have:=P.1;have:=cc.out;omega⟩) ?F2 ?assign2 ?body2 ?done2 ?panic2
 case assign2 =>
  intro lp x W1 K hK;dsimp only [RE.args];gi_wp2;exact hK
 case panic2 =>
  intro D2 er W1 hD ⟨cw,bj⟩ ⟨cx,ek⟩ cy;refine yJ (ek.cons (by have:=cb.out;omega) (by have:=cc.out;omega) cy).marks fun W' G=>?_;exact ⟨cx.trans G fun b z P=>by have:=P.1;have:=a0.out.size;have:=ah.out;omega,.inl ⟨by rw [bj];exact cw,by rw [bj];rfl⟩⟩
 case body2 =>
  intro lp Y x W1 ⟨T,R,aa,ak,au⟩ Z ap hid bh ag;rw [<- cz.out] at Z ap;have HG:=qH (ZoW W1 ag (by omega));have U:=qH Z;have al:=qH ap;have a5:=qH T;have b0:=qH R;have cg:=qH aa;have co:=qH ak;have bb:=qH au;have fc:x.id<N:=by rw [<- b8.out];exact hid
  have d6:N<=65536:=by rw [<- b8.out];exact bw.len
  have HE:Hid (∀ er,relE s x.data=er->er≠0->decE s=er):=qH fun er a h2=>by unfold decE;have h3:=PU (e:=relE s) U.out al.out co.out (by rw [a];exact h2);rw [aA (fun h=>h e1.out),xJ (relE s) _ 0,h3];simp only;rw [a,gA h2]
  have cd:Hid (Upd (fun b=>b=rd\/b=mN\/b=mR\/b=mP) w W1):=qH ((ba.out.same a1.out).trans a5.out fun b z e=>by
   rcases e with e | e
   · exact .inr (.inr (.inl e))
   have:=e9.out;have:=ah.out;have:=a0.out.size;have:=dg.out;have:=ba.out.size;exfalso;have:=cb.out;omega)
  clear T R aa ak au Z ap ag bh hid bw;gi_wp2_with fail;refine ⟨trivial,?_⟩;gi_at_call 74;refine (CallsIn.inRound lp (ZB.2 HG.out)).mono ?_;rintro e5 w6 ⟨b7,⟨hg,rfl⟩ | ⟨r,hg,rfl⟩⟩
  · have M:=qH b7;have HX:=qH (HE.out 41 (by unfold relE;rw [hg]) (by decide));clear b7 hg HG
    gi_upto_region 17 with fail
    have E:=M.out.alloc (.cells #[.bool false,.int .i64 0,.int .i64 0,.int .i64 0,.int .i64 0,.int .i64 0,.int .i64 0,.int .i64 0,.int .i64 0] 124);have a2:=qH E;generalize w6.alloc (.cells #[.bool false,.int .i64 0,.int .i64 0,.int .i64 0,.int .i64 0,.int .i64 0,.int .i64 0,.int .i64 0,.int .i64 0] 124)=w7 at *;clear E;gi_wp2_with fail;refine ⟨trivial,?_⟩;gi_at_call 58;refine (CallsIn.inRound lp (ZB.2 (UH w7 (er:=41) (by decide)))).mono ?_;rintro e w8 ⟨rfl,rfl⟩;exact ⟨rfl,ZD a2.out fun _ f=>f.elim,41,rfl,⟨by decide,HX.out⟩,cd.out.same a2.out,bb.out.same a2.out⟩
  obtain ⟨⟨lv,sr,ds,p1,p2,p3,p4⟩,ty,pr⟩:=r;have M:=qH b7;have bs:=qH hg;have g9:Hid ((0<=sr/\sr<1024)/\(0<=ds/\ds<1024)):=qH (by have a:=Zth hg;simp only [cE,AI,kB] at a;exact ⟨NB.1 a.1.1,NB.1 a.1.2.1⟩)
  unfold R1.cells;simp only;clear b7 hg HG
  gi_upto_region 17 with fail
  have b9:=jA w6 124 #[.bool lv,.int .i64 sr,.int .i64 ds,.int .i64 p1,.int .i64 p2,.int .i64 p3,.int .i64 p4,.int .i64 ty,.int .i64 pr];have E:=(eA (fun _=>False) w6).alloc (.cells #[.bool lv,.int .i64 sr,.int .i64 ds,.int .i64 p1,.int .i64 p2,.int .i64 p3,.int .i64 p4,.int .i64 ty,.int .i64 pr] 124);generalize w6.alloc (.cells #[.bool lv,.int .i64 sr,.int .i64 ds,.int .i64 p1,.int .i64 p2,.int .i64 p3,.int .i64 p4,.int .i64 ty,.int .i64 pr] 124)=w7 at *;generalize w6.heap.size=bA at *;have am:=qH b9;have bt:=qH (M.out.trans E fun _ _ f=>f);clear b9 E M;gi_wp2_with fail;refine ⟨trivial,?_⟩;gi_at_call 58;refine (CallsIn.inRound lp (ZB.2 (zF w7))).mono ?_;rintro e w8 ⟨rfl,rfl⟩;have r1:w7.cell? ⟨bA,1,none⟩=some (.int .i64 sr):=am.out.cell 1;have r2:w7.cell? ⟨bA,2,none⟩=some (.int .i64 ds):=am.out.cell 2;gi_wp2_with fail;have fd:=jA w7 3 #[.int .i64 sr,.int .i64 ds];have ea:=(eA (fun _=>False) w7).alloc (.cells #[.int .i64 sr,.int .i64 ds] 3);generalize w7.alloc (.cells #[.int .i64 sr,.int .i64 ds] 3)=w8 at *;generalize w7.heap.size=gE at *;have eb:=qH fd;have bu:=qH (bt.out.trans ea fun _ _ f=>f);have cp:=qH (am.out.same ea);have bc:Hid (Upd (fun b=>b=mR\/b=I) w4 w8):=qH (((iE a1.out).trans a5.out fun _ _ e=>e).same bu.out);have ax:=qH (aw.out.upd bc.out fun e=>by
   rcases e with e | e
   · exact a7.out.ne aw.out e.symm
   have:=a8.out;omega)
  have V:=qH (av.out.upd bc.out fun e=>by
   rcases e with e | e
   · exact a7.out.ne av.out e.symm
   have:=a8.out;omega)
  have ay:=qH (a6.out.same (cl.out.trans bc.out fun b z e=>by
   rcases e with e | e
   · have:=c9.out;omega
   have:=e9.out;have:=cb.out;have:=bn.out.size;omega))
  have fe:=qH (bv.out.upd bc.out (fun e=>by
   rcases e with e | e
   · exact bp.1 e
   · have:=a8.out;omega) fun x v h=>h.upd bc.out fun b e cs z=>by
   rcases e with e | e
   · exact a7.out.ne z e.symm
   obtain ⟨g4,el⟩:=LA ck.out (g:=I) rfl;exact z.ne el (by decide) e)
  clear fd ea r1 r2 am bt;gi_loopg [97] 2 (fun gh sk wr=>∃ k:Nat,2-k=gh/\k<=2/\sk=.int .i64 (k:Int)/\Hid (Same w8 wr)/\Hid (0<k->VE s.nodes sr=true)/\Hid (1<k->VE s.nodes ds=true))
  case atStart=>exact ⟨0,rfl,oA _,rfl,qH (eA _ _),qH (fun h=>by omega),qH (fun h=>by omega)⟩
  obtain ⟨k,rfl,hk,rfl,KS,K0,K1⟩:=hrel;by_cases dz:k<2
  · have ch:(k:Int)<2:=by omega
    obtain ⟨en,X,gr,dr,dt⟩:∃ en:Nat,wr.cell? ⟨gE,k,none⟩=some (.int .i64 (en:Int))/\en<1024/\(k=0->sr=(en:Int))/\(k=1->ds=(en:Int)):=by
     have gq:=g9.out;have hc:k=0\/k=1:=by omega
     rcases hc with rfl | rfl
     · have a:wr.cell? ⟨gE,0,none⟩=some (.int .i64 sr):=(eb.out.same KS.out).cell 0;exact ⟨sr.toNat,by rw [a,show ((sr.toNat:Nat):Int)=sr by omega],by omega,fun _=>by omega,fun h=>by omega⟩
     have a:wr.cell? ⟨gE,1,none⟩=some (.int .i64 ds):=(eb.out.same KS.out).cell 1;exact ⟨ds.toNat,by rw [a,show ((ds.toNat:Nat):Int)=ds by omega],by omega,fun h=>by omega,fun _=>by omega⟩
    have ff:=qH dr;have fg:=qH dt;have q0:wr.cell? ⟨b1,0,none⟩=some (.pointer (some ⟨rd,0,none⟩)):=(ax.out.same KS.out).cell 0;have q1:wr.cell? ⟨rd,1,none⟩=some (.map (some mN)):=(V.out.same KS.out).cell 1;have bx:=fe.out.upd KS.out id fun x v h=>h.upd KS.out fun b f=>f.elim;clear dr dt;by_cases G:VE s.nodes (en:Int)=true
    · have fh:Hid (∀ e:Int,e=(en:Int)->VE s.nodes e=true):=qH fun e h=>by rw [h];exact G
      unfold VE at G;rw [XB,kB] at G;obtain ⟨d,hd⟩:=EI.1 G.2;obtain ⟨v,⟨n,A,c,gl,rfl,g5⟩,bd⟩:=bx.at_ AO ZQ (x:=(en,d)) (kL.2 hd) (by simp only;omega);have bd:=(bd wr (eA _ _)).1;simp only at bd;obtain ⟨rl,pp,ls⟩:=n;unfold N1.cellsV at bd;simp only at bd;clear gl g5 bx G hd
      gi_upto_region 22 with fail
      have E:=KS.out.alloc (.cells #[.int .i64 rl,.int .i64 pp,.slice A ls.length c] 115);generalize wr.alloc (.cells #[.int .i64 rl,.int .i64 pp,.slice A ls.length c] 115)=w9 at *;have a2:=qH E;clear E q0 q1 X bd;gi_wp2_with fail;refine ⟨trivial,?_⟩;gi_at_call 66;refine (CallsIn.inRound lp (ZB.2 (lD w9 65))).mono ?_;rintro e ac ⟨rfl,rfl⟩;gi_wp2;gi_roundg (2-(k+1))
      case measure=>omega
      refine ⟨k+1,rfl,by omega,by go_num,a2,qH fun _=>?_,qH fun _=>?_⟩
      · by_cases h0:k=0
        · exact fh.out _ (ff.out h0)
        exact K0.out (by omega)
      exact fh.out _ (fg.out (by omega))
    have fi:∀ y∈GB 0 s.nodes.recs,(y.1:Int)≠(en:Int):=fun y hy e=>by apply G;unfold VE;rw [XB,EI.2 ⟨y.2,by rw [<- kL.1 hy,show y.1=en by omega]⟩];simp
    have bd:=bx.no AO ZQ fi (by omega) wr (eA _ _);have HX:=qH (HE.out 65 (by
     unfold relE;rw [bs.out];simp only;have hc:k=0\/k=1:=by omega
     rw [gA];rcases hc with h | h
     · exact .inl (by rw [ff.out h];simpa using G)
     exact .inr (by rw [fg.out h];simpa using G)) (by decide))
    clear bx fi G
    gi_upto_region 22 with fail
    have E:=KS.out.alloc (.cells #[.int .i64 0,.int .i64 0,.slice none 0 0] 115);generalize wr.alloc (.cells #[.int .i64 0,.int .i64 0,.slice none 0 0] 115)=w9 at *;have a2:=qH (bu.out.trans E fun _ _ f=>f);clear E q0 q1 X bd;gi_wp2_with fail;refine ⟨trivial,?_⟩;gi_at_call 66;refine (CallsIn.inRound lp (ZB.2 (gD w9 65))).mono ?_;rintro e ac ⟨rfl,rfl⟩;exact ⟨rfl,ZD a2.out fun _ f=>f.elim,65,rfl,⟨by decide,HX.out⟩,cd.out.same a2.out,bb.out.same a2.out⟩
  have ch:¬ (k:Int)<2:=by omega
  have fj:=K0.out (by omega);have C:=K1.out (by omega);have ai:Same wr wr.drew:=(eA _ wr).drew;have HK:Hid (∀ H,Same w8 H->CM b1 rd p bA mR I N q.tt (.bool lv) sr ds p1 p2 p3 p4 ty pr H):=qH fun H h=>by have a:=cp.out.same h;exact ⟨(ax.out.same h).cell 0,(V.out.same h).cell 0,(V.out.same h).cell 2,(V.out.same h).cell 4,(ay.out.blk.same h).cell 1,a.cell 0,a.cell 1,a.cell 2,a.cell 3,a.cell 4,a.cell 5,a.cell 6,a.cell 7,a.cell 8⟩
  have a4:=HK.out _ (KS.out.trans ai fun _ _ f=>f);obtain ⟨f,m,g1,v,nv,l,bi⟩:=(ay.out.same (KS.out.trans ai fun _ _ f=>f)).tt;have a3:=qH (sM bi ty);have aj:=qH (bu.out.trans (KS.out.trans ai fun _ _ f=>f) fun _ _ f=>f);have cq:=qH (KS.out.trans ai fun _ _ f=>f);have b3:Hid (relE s x.data=if FB s.types ty=noText then 110 else 0):=qH (by
   unfold relE;rw [bs.out];simp only;rw [aA];rintro (h | h)
   · rw [fj] at h;cases h
   rw [C] at h;cases h)
  clear bi K0 K1 fj C dz;unfold iK at a3;gi_wp2_with fail;by_cases O:FB s.types ty=noText
  · simp only [gA O] at a3 b3;have HX:=qH (HE.out 110 b3.out (by decide));clear O;refine dG 9 (fun H=>CM b1 rd p bA mR I N q.tt (.bool lv) sr ds p1 p2 p3 p4 ty pr H) (by kernel_rfl) (by kernel_rfl) (cG fun _ _ h=>h) a4 (fun j=>?_);refine tC ?_;refine bD rfl (fun K hK=>?_);go_simp;refine a3.out.mono ?_;rintro e w9 ⟨rfl,rfl⟩;exact ⟨rfl,ZD aj.out fun _ f=>f.elim,110,rfl,⟨by decide,HX.out⟩,cd.out.same aj.out,bb.out.same aj.out⟩
  simp only [aA O] at a3 b3;clear O;refine dG 9 (fun H=>CM b1 rd p bA mR I N q.tt (.bool lv) sr ds p1 p2 p3 p4 ty pr H) (by kernel_rfl) (by kernel_rfl) (cG fun _ _ h=>h) a4 (fun j=>?_);refine tC ?_;refine bD rfl (fun K hK=>?_);go_simp;refine a3.out.mono ?_;rintro e w9 ⟨rfl,rfl⟩;refine hK.out _ _ ?_;clear hK K j a3 a4 ai;obtain ⟨ac,bk⟩:∃ ac,wr.drew=ac:=⟨_,rfl⟩
  rw [bk] at aj cq ⊢;clear bk KS;have b4:Same ac ac.drew:=(eA _ ac).drew;have az:=qH (b0.out.upd (aj.out.trans b4 fun _ _ f=>f) id fun x v h=>h);obtain ⟨ad,L,bm,aq⟩:=az.out.snoc Ztf (by have a:=tB List.length U.out;have h2:=(IA.1 al.out).1;have h3:=zJ s.rels.recs 0;rw [cz.out] at h2 h3;rw [nA,b8.out] at h3;omega) (x:=(x.id,x.data)) (WU U.out al.out) (by simp only;omega) (.agg #[.bool lv,.int .i64 sr,.int .i64 ds,.int .i64 p1,.int .i64 p2,.int .i64 p3,.int .i64 p4,.int .i64 ty,.int .i64 pr])
  have an:=qH L;have af:=qH bm;have ci:=qH aq;have a4:=HK.out _ (cq.out.trans b4 fun _ _ f=>f);clear L bm aq;gi_wp2_with fail;refine dG 6 (fun H=>CM b1 rd p bA mR I N q.tt (.bool lv) sr ds p1 p2 p3 p4 ty pr H) (by kernel_rfl) (by kernel_rfl) (cG fun _ _ h=>h) a4 (fun j=>?_);refine tC ?_;refine bD rfl (fun K hK=>?_);have L:=an.out;go_simp;refine hK.out _ _ ?_;clear hK K L j a4 an;have a9:=qH (aj.out.trans b4 fun _ _ f=>f);have ec:Hid (Upd (fun b=>b=mR) w8 ad):=qH ((iE (cq.out.trans b4 fun _ _ f=>f)).trans af.out fun _ _ e=>e);have di:=qH (ci.out (fun y u h=>h) ⟨_,bs.out,rfl⟩);have bz:=qH (GA (mA cg.out a9.out) af.out fun g hg e=>by obtain ⟨cs,z⟩:=LA (mA cg.out a9.out) hg;exact az.out.ne z e.symm)
  have dj:Hid (CM b1 rd p bA mR I N q.tt (.bool lv) sr ds p1 p2 p3 p4 ty pr ad.drew):=qH (by
   have hd:=(eA (fun _=>False) ad).drew;have hne:∀ {g:Nat} {t:TypeId} {cs:Array Value},Blk w8 g t cs->Blk ad.drew g t cs:=fun h=>(h.upd ec.out fun e=>by have a:=b0.out.upd bu.out id fun x v h=>h;exact a.ne h e.symm).same hd
   have a:=hne cp.out;exact ⟨(hne ax.out).cell 0,(hne V.out).cell 0,(hne V.out).cell 2,(hne V.out).cell 4,(hne ay.out.blk).cell 1,a.cell 0,a.cell 1,a.cell 2,a.cell 3,a.cell 4,a.cell 5,a.cell 6,a.cell 7,a.cell 8⟩)
  have go:=qH (mA bz.out (eA _ ad).drew);have cr:=bz.out;have ga:=QG cr OF (by omega);obtain ⟨y,hy⟩:∃ y,(chL N Y)[x.id]?=some y:=⟨_,FA (by omega)⟩
  obtain ⟨_,_,hc,hf⟩:=mQ cr OF (by omega) hy;have c0:ad.cell? ⟨I,x.id*7,none⟩=some (.bool y.live):=hc 0 _ rfl;have c1:=hc 1 _ rfl;have c2:=hc 2 _ rfl;have c3:=hc 3 _ rfl;have c4:=hc 4 _ rfl;have c5:=hc 5 _ rfl;have c6:=hc 6 _ rfl;have f0:=hf (x.id*7);have f1:=hf (x.id*7+1);have f2:=hf (x.id*7+2);have f3:=hf (x.id*7+3);have f4:=hf (x.id*7+4);have f5:=hf (x.id*7+5);have f6:=hf (x.id*7+6);have jn:(x.id:Int)<(N:Int):=by omega
  have a4:=dj.out;clear cr ga hy hc hf HK ax V cp eb dj b4;gi_wp2_with fail;refine dG 8 (fun H=>CM b1 rd p bA mR I N q.tt (.bool lv) sr ds p1 p2 p3 p4 ty pr H) (by kernel_rfl) (by kernel_rfl) (cG fun _ _ h=>h) a4 (fun j=>?_);refine tC ?_;refine bD rfl (fun K hK=>?_);go_simp;refine hK.out _ _ ?_;clear hK K j a4;gi_wp2;obtain ⟨wE,em⟩:∃ wE,(putL ad I (x.id*7) (L1.cells ⟨lv,sr,ds,p1,p2,p3,p4⟩)).drew=wE:=⟨_,rfl⟩
  have dk:(((((((ad.setCell ⟨I,x.id*7,none⟩ (.bool lv)).setCell ⟨I,x.id*7+1,none⟩ (.int .i64 sr)).setCell ⟨I,x.id*7+2,none⟩ (.int .i64 ds)).setCell ⟨I,x.id*7+3,none⟩ (.int .i64 p1)).setCell ⟨I,x.id*7+4,none⟩ (.int .i64 p2)).setCell ⟨I,x.id*7+5,none⟩ (.int .i64 p3)).setCell ⟨I,x.id*7+6,none⟩ (.int .i64 p4)).drew=wE:=em;rw [dk];clear dk;have ed:x.id<N:=fc;have bf:Upd (fun b=>b=I) ad (putL ad I (x.id*7) (L1.cells ⟨lv,sr,ds,p1,p2,p3,p4⟩)).drew:=(nQ _ ad I _).drew;have dl:=mA (sT bz.out OF (by omega) ed (⟨lv,sr,ds,p1,p2,p3,p4⟩:L1)) (eA _ _).drew;rw [em] at bf dl;clear em;have gb:=qH (ZuI N Y (x.id,x.data));obtain ⟨g4,d9⟩:=LA bz.out (g:=I) rfl;have fk:=di.out.upd bf (fun e=>di.out.ne d9 e) fun y u h=>h;have C:Upd (fun b=>b=mR) W1 ad:=(iE a9.out).trans af.out fun _ _ e=>e;have ct:=(bb.out.upd C fun D' e hD h=>by
   obtain ⟨o,a,h2⟩:=b0.out.obj;rw [e] at h;obtain ⟨f,h3,_⟩:=b0.out;obtain ⟨es,c,h4⟩:=MpK.obj h3;rw [h4] at h;cases h).upd bf fun D' e hD h=>by
   rw [e] at h;unfold Blk at d9;rw [d9] at h;cases h
  refine ⟨((AM a9.out).trans (gL af.out fun b e=>.inl ⟨by have:=a8.out;omega,e ▸ az.out.obj⟩)).trans (gL bf fun b e=>.inr ⟨109,by unfold DcU;decide,e ▸ ⟨_,d9⟩⟩),(a5.out.trans C fun _ _ e=>.inl e).trans bf fun _ _ e=>.inr e,fk,?_,fun y hy=>?_,ct⟩
  · rw [gb.out,Zrk bs.out];exact dl
  rcases YB.1 hy with hy | hy
  · exact co.out y hy
  rw [QB.1 hy];exact b3.out
 intro D2 W1 gm ⟨T,R,aa,ak,au⟩ cy;rw [<- cz.out] at R aa ak;have fl:Hid (sD (relE s) s.rels.recs=0):=qH (by rw [xJ (relE s) _ 0,OU ak]);have ee:s.rels.recs.length=N:=by rw [cz.out,nA,b8.out]
 have fm:chL N (GB 0 s.rels.recs)=dF s.rels:=by rw [<- ee];exact ZvX _
 rw [fm] at aa;have fo:=qH ee;have C:Upd (fun b=>b=mR\/b=I) w4 W1:=(iE a1.out).trans T fun _ _ e=>e;have c7:Hid (Upd (fun b=>b=rd\/b=mN\/b=mR\/b=mP) w W1):=qH (ba.out.trans C fun b z e=>by
  rcases e with e | e
  · exact .inr (.inr (.inl e))
  have:=e9.out;have:=cb.out;exfalso;omega)
 have dm:Hid (Same w0 W1):=qH (bn.out.trans c7.out fun b z e=>by have:=c9.out;rcases e with e | e | e | e <;> omega);have fq:Hid (TC m0 (D2+1) W1 [{ target:=.collected D2,args:=#[] },{ target:=.collected D,args:=#[] }]):=qH (au.cons (by have:=cb.out;omega) (by have:=cc.out;omega) cy);have X:∀ {g:Nat} {t:TypeId} {cs:Array Value},g≠I->Blk w4 g t cs->Blk W1 g t cs:=fun hg z=>z.upd C fun e=>by
  rcases e with e | e
  · exact a7.out.ne z e.symm
  exact hg e
 have ae:=qH (X (by have:=a8.out;omega) aw.out);have bg:=qH (X (by have:=a8.out;omega) av.out);have ao:=qH (cm.out.upd C (fun e=>by
  rcases e with e | e
  · exact bp.2.2 e.symm
  have:=a8.out;omega) fun x v h=>h)
 have fs:=qH (bv.out.upd C (fun e=>by
  rcases e with e | e
  · exact bp.1 e
  · have:=a8.out;omega) fun x v h=>h.upd C fun b e cs z=>by
  rcases e with e | e
  · exact a7.out.ne z e.symm
  obtain ⟨g4,el⟩:=LA ck.out (g:=I) rfl;exact z.ne el (by decide) e)
 have ft:=qH R;have fu:=qH aa;have dn:=qH (a6.out.same dm.out);have ef:Hid (D2<W1.heap.size/\w.heap.size<=W1.heap.size/\m0<=D2):=qH ⟨(sC.1 cy).1,c7.out.size,by have:=cc.out;omega⟩;have q0:W1.cell? ⟨b1,0,none⟩=some (.pointer (some ⟨rd,0,none⟩)):=ae.out.cell 0;have q1:W1.cell? ⟨rd,0,none⟩=some (.pointer (some ⟨p,0,none⟩)):=bg.out.cell 0;have q2:W1.cell? ⟨p,5,none⟩=some (.pointer (some ⟨q.fp,0,none⟩)):=dn.out.blk.cell 5;clear T R aa ak au ee fm cy C X gm bw aw av cm bv a7 dh cn ba cl a1 fb ck;refine BM ?_
 repeat refine PH ?_
 refine eH ?_;go_wp2_with fail;refine (DI W1 q.fp).mono ?_;rintro e w6 ⟨rfl,rfl⟩;have fv:=jA W1 67 #[.pointer (some ⟨q.fp,0,none⟩)];have b7:=(eA (fun _=>False) W1).alloc (.cells #[.pointer (some ⟨q.fp,0,none⟩)] 67);generalize W1.alloc (.cells #[.pointer (some ⟨q.fp,0,none⟩)] 67)=w6 at *;generalize dq:W1.heap.size=b6 at *;have gp:=qH dq;have M:=qH b7;have gc:=qH fv;have gd:Hid (Upd (fun b=>b=rd\/b=mN\/b=mR\/b=mP) w w6):=qH (c7.out.same b7);have cu:Hid (D2<w6.heap.size/\w.heap.size<=w6.heap.size):=qH (by have:=b7.size;have:=ef.out;omega);clear fv b7 dq q0 q1 q2;go_wp2_with fail;refine jL ?_;have fw:Hid (mP<w6.heap.size):=qH (by have a:=ao.out.lt;have h2:=M.out.size;omega);have cv:=(dn.out.same M.out).fp;refine iL (f:=q.fp) (fB:=b6) cv gc.out rfl rfl
  (fun Y W'=>Upd (fun b=>b=mP) w6 W'/\RecM W' mP Y VP/\(∀ y∈Y,DF s y.2=0)/\TC m0 (D2+1) W' [{ target:=.collected D2,args:=#[] },{ target:=.collected D,args:=#[] }])
  (fun er=>er≠0/\decE s=er) (fun W'=>Upd (fun b=>b=rd\/b=mN\/b=mR\/b=mP) w W'/\TC m0 (D2+1) W' [{ target:=.collected D2,args:=#[] },{ target:=.collected D,args:=#[] }])
  ⟨eA _ _,ao.out.upd M.out id fun x v h=>h,(fun _ h=>by cases h),fq.out.same M.out⟩
  (fun Y V1 V2 ⟨a,h2,h4,h5⟩ G=>⟨a.trans G fun b z P=>by have:=P.1;omega,h2.upd G (fun P=>by have:=P.1;have:=fw.out;omega) fun x v h=>h,h4,h5.upd G fun D' P hD=>by have:=P.1;have:=cu.out;omega⟩)
  (fun V1 V2 ⟨a,h2⟩ G=>⟨a.trans G fun b z P=>by have:=P.1;have:=cu.out;omega,h2.upd G fun D' P hD=>by have:=P.1;have:=cu.out;omega⟩) ?F3 ?assign3 ?body3 ?done3 ?panic3
 case assign3 =>
  intro lp x V1 K hK;dsimp only [RE.args];gi_wp2;exact hK
 case panic3 =>
  intro D3 er V1 hD ⟨cw,bj⟩ ⟨cx,ek⟩ eo;refine yJ (ek.cons (by have:=ef.out;omega) (by have:=cu.out;omega) eo).marks fun W' G=>?_;exact ⟨cx.trans G fun b z P=>by have:=P.1;have:=a0.out.size;have:=ah.out;omega,.inl ⟨by rw [bj];exact cw,by rw [bj];rfl⟩⟩
 case body3 =>
  intro lp Y x V1 ⟨T,R,ak,au⟩ Z ap hid bh ag;rw [<- dv.out] at Z ap;have HG:=qH (ZnF V1 ag (by omega));have U:=qH Z;have al:=qH ap;have a5:=qH T;have b0:=qH R;have co:=qH ak;have bb:=qH au;have dd:x.id<65536:=RF hid cv.len;have HE:Hid (∀ er,DF s x.data=er->er≠0->decE s=er):=qH fun er a h2=>by unfold decE;have h3:=PU (e:=DF s) U.out al.out co.out (by rw [a];exact h2);rw [aA (fun h=>h e1.out),aA (fun h=>h fl.out),xJ (DF s) _ 0,h3];exact a
  have cd:Hid (Upd (fun b=>b=rd\/b=mN\/b=mR\/b=mP) w V1):=qH (gd.out.trans a5.out fun b z e=>.inr (.inr (.inr e)));clear T R ak au Z ap ag bh hid cv;gi_wp2_with fail;refine ⟨trivial,?_⟩;gi_at_call 75;refine (CallsIn.inRound lp (ZB.2 HG.out)).mono ?_;rintro e5 w7 ⟨da,⟨hg,rfl⟩ | ⟨r,hg,rfl⟩⟩
  · have bt:=qH da;have HX:=qH (HE.out 41 (by unfold DF;rw [hg]) (by decide));clear da hg HG
    gi_upto_region 31 with fail
    have E:=bt.out.alloc (.cells #[.int .i64 0,.int .i64 0,.int .i64 0,.int .i64 0,.int .i64 0,.int .i64 0] 145);have a2:=qH E;generalize w7.alloc (.cells #[.int .i64 0,.int .i64 0,.int .i64 0,.int .i64 0,.int .i64 0,.int .i64 0] 145)=w8 at *;clear E;gi_wp2_with fail;refine ⟨trivial,?_⟩;gi_at_call 58;refine (CallsIn.inRound lp (ZB.2 (UH w8 (er:=41) (by decide)))).mono ?_;rintro e w9 ⟨rfl,rfl⟩;exact ⟨rfl,ZD a2.out fun _ f=>f.elim,41,rfl,⟨by decide,HX.out⟩,cd.out.same a2.out,bb.out.same a2.out⟩
  obtain ⟨ke,ki,nu,bl,pv,nx⟩:=r;have bt:=qH da;have bs:=qH hg;unfold P1.cells;simp only;clear da hg HG
  gi_upto_region 31 with fail
  have b9:=jA w7 145 #[.int .i64 ke,.int .i64 ki,.int .i64 nu,.int .i64 bl,.int .i64 pv,.int .i64 nx];have E:=(eA (fun _=>False) w7).alloc (.cells #[.int .i64 ke,.int .i64 ki,.int .i64 nu,.int .i64 bl,.int .i64 pv,.int .i64 nx] 145);generalize w7.alloc (.cells #[.int .i64 ke,.int .i64 ki,.int .i64 nu,.int .i64 bl,.int .i64 pv,.int .i64 nx] 145)=w8 at *;generalize w7.heap.size=bA at *;have am:=qH b9;have bu:=qH (bt.out.trans E fun _ _ f=>f);clear b9 E bt;gi_wp2_with fail;refine ⟨trivial,?_⟩;gi_at_call 58;refine (CallsIn.inRound lp (ZB.2 (zF w8))).mono ?_;rintro e w9 ⟨rfl,rfl⟩;have c8:Upd (fun b=>b=mP) W1 w8:=((iE M.out).trans a5.out fun _ _ e=>e).same bu.out;have ax:=qH (ae.out.upd c8 fun e=>ao.out.ne ae.out e.symm);have V:=qH (bg.out.upd c8 fun e=>ao.out.ne bg.out e.symm);have ay:=qH (a6.out.same (dm.out.trans c8 fun b z e=>by have:=c9.out;omega));have ce:Same w8 w8.drew:=(eA _ w8).drew;have HK:Hid (∀ H,Same w8 H->aR b1 rd p bA mP q.tk ke ki nu bl pv nx H):=qH fun H h=>by have a:=am.out.same h;exact ⟨(ax.out.same h).cell 0,(V.out.same h).cell 0,(V.out.same h).cell 3,(ay.out.blk.same h).cell 2,a.cell 0,a.cell 1,a.cell 2,a.cell 3,a.cell 4,a.cell 5⟩
  have a4:=HK.out _ ce;obtain ⟨f,m,g1,v,nv,l,bi⟩:=(ay.out.same ce).tk;have a3:=qH (sM bi ke);have aj:=qH (bu.out.trans ce fun _ _ f=>f);have b3:Hid (DF s x.data=if FB s.keys ke=noText then 110 else 0):=qH (by unfold DF;rw [bs.out])
  clear bi c8;unfold iK at a3;gi_wp2_with fail;by_cases O:FB s.keys ke=noText
  · simp only [gA O] at a3 b3;have HX:=qH (HE.out 110 b3.out (by decide));clear O;refine dG 9 (fun H=>aR b1 rd p bA mP q.tk ke ki nu bl pv nx H) (by kernel_rfl) (by kernel_rfl) (cG fun _ _ h=>h) a4 (fun j=>?_);refine tC ?_;refine bD rfl (fun K hK=>?_);go_simp;refine a3.out.mono ?_;rintro e w9 ⟨rfl,rfl⟩;exact ⟨rfl,ZD aj.out fun _ f=>f.elim,110,rfl,⟨by decide,HX.out⟩,cd.out.same aj.out,bb.out.same aj.out⟩
  simp only [aA O] at a3 b3;clear O;refine dG 9 (fun H=>aR b1 rd p bA mP q.tk ke ki nu bl pv nx H) (by kernel_rfl) (by kernel_rfl) (cG fun _ _ h=>h) a4 (fun j=>?_);refine tC ?_;refine bD rfl (fun K hK=>?_);go_simp;refine a3.out.mono ?_;rintro e w9 ⟨rfl,rfl⟩;refine hK.out _ _ ?_;clear hK K j a3 a4;obtain ⟨ac,bk⟩:∃ ac,w8.drew=ac:=⟨_,rfl⟩
  rw [bk] at aj ce ⊢;have gf:=qH ce;clear bk ce;have b4:Same ac ac.drew:=(eA _ ac).drew;have a9:=qH (aj.out.trans b4 fun _ _ f=>f);have az:=qH (b0.out.upd a9.out id fun x v h=>h);obtain ⟨ad,L,bm,aq⟩:=az.out.snoc YZ (by have a:=tB List.length U.out;have h2:=(IA.1 al.out).1;have h3:=zJ s.props.recs 0;rw [dv.out] at h2 h3;rw [nA] at h3;have h4:=a6.out.fp.len;omega) (x:=(x.id,x.data)) (WU U.out al.out) (by simp only;omega) (.agg #[.int .i64 ke,.int .i64 ki,.int .i64 nu,.int .i64 bl,.int .i64 pv,.int .i64 nx])
  have an:=qH L;have af:=qH bm;have ci:=qH aq;have a4:=HK.out _ (gf.out.trans b4 fun _ _ f=>f);clear L bm aq b4;gi_wp2_with fail;refine dG 6 (fun H=>aR b1 rd p bA mP q.tk ke ki nu bl pv nx H) (by kernel_rfl) (by kernel_rfl) (cG fun _ _ h=>h) a4 (fun j=>?_);refine tC ?_;refine bD rfl (fun K hK=>?_);have L:=an.out;go_simp;refine hK.out _ _ ?_;clear hK K L j a4 an;gi_wp2;have ct:=bb.out.upd ((iE a9.out).trans af.out (S:=fun b=>b=mP) fun _ _ e=>e) fun D' e hD h=>by obtain ⟨f,h3,_⟩:=b0.out;obtain ⟨es,c,h4⟩:=MpK.obj h3;rw [e,h4] at h;cases h
  refine ⟨(AM a9.out).trans (gL af.out fun b e=>.inl ⟨by have:=fw.out;omega,e ▸ az.out.obj⟩),(a5.out.same a9.out).trans af.out fun _ _ e=>e,ci.out (fun y u h=>h) ⟨_,bs.out,rfl⟩,fun y hy=>?_,ct⟩;rcases YB.1 hy with hy | hy
  · exact co.out y hy
  rw [QB.1 hy];exact b3.out
 intro D3 V1 gs ⟨T,R,ak,au⟩ eo;rw [<- dv.out] at R ak;have C:Upd (fun b=>b=mP) W1 V1:=(iE M.out).trans T fun _ _ e=>e;have gg:sD (DF s) s.props.recs=0:=by rw [xJ (DF s) _ 0,OU ak]
 refine ZuH ?_;refine Zih (au.cons (by have:=ef.out;omega) (by have:=cu.out;omega) eo).marks fun W' G=>?_;have O:∀ m,m<w.heap.size->¬ (m0<=m/\V1.heap[m]?=some (.deferred (some []))):=fun m hm h=>by have:=h.1;have:=a0.out.size;have:=ah.out;omega
 have eg:∀ {g:Nat} {t:TypeId} {cs:Array Value},Blk V1 g t cs->¬ (m0<=g/\V1.heap[g]?=some (.deferred (some []))):=fun z h=>by unfold Blk at z;rw [z] at h;cases h.2
 have hl:=dy.out;have eh:mN<w.heap.size/\mR<w.heap.size/\mP<w.heap.size:=by have h:=g6.out;have h2:=HZ.out;exact ⟨by omega,by omega,by omega⟩
 have fx:=bg.out.upd C fun e=>ao.out.ne bg.out e.symm;have gi:=fs.out.upd C (fun e=>bp.2.1 e) fun x v h=>h.upd C fun b e cs z=>ao.out.ne z e.symm;have fy:=GA fu.out C fun g hg e=>by obtain ⟨cs,z⟩:=LA fu.out hg;exact ao.out.ne z e.symm
 refine ⟨_,DG rfl _ _ _,(c7.out.trans C fun b z e=>.inr (.inr (.inr e))).trans G fun b z P=>(O b z P).elim,.inr ⟨?_,rfl,some ⟨I,0,none⟩,N,?_⟩⟩
 · unfold decE;rw [aA (fun h=>h e1.out),aA (fun h=>h fl.out)];exact gg
 refine ⟨?_,gi.upd G (O _ eh.1) fun x v h=>h.upd G fun b P cs z=>eg z P,((ft.out.upd C (fun e=>bp.2.2 e) fun x v h=>h).upd G (O _ eh.2.1) fun x v h=>h),R.upd G (O _ eh.2.2) fun x v h=>h,?_⟩
 · rw [fo.out];exact fx.upd G (eg fx)
 rw [fo.out];exact GA fy G fun g hg P=>by obtain ⟨cs,z⟩:=LA fy hg;exact eg z P
end
section
open Go.RowKit
structure AllWr (g:WB):Prop where
 nodes:∀ x∈g.nodes,x.Wr
 rels:∀ x∈g.rels,x.Wr
theorem ZnH {A:Option Addr} {n c:Nat} {ps:List PR} (h:xC w B (.slice A n c) ps) (hn:ps.length<=255) (hw:∀ p∈ps.map PR.dat,p.Wr):aK n ps:=by have i:ps.length=n:=h.rd.len;refine ⟨qO,fun x d=>?_⟩;have a:=hw x.dat (fD d);have b:=(h.each x d).rd;have j:=b.len1;have k:=b.len2;obtain ⟨_,_,_,m,o,q,e⟩:=QJ (show chk x.g=0 from a.2.1);have l:x.key.size<=255:=a.1;exact ⟨qO,qO,qO,fun s f=>by have:=e s f;omega,qO⟩
theorem Zti {g:GR} (h:OwnG w B g) (hw:AllWr g.dat) (k:g.ns.length<=16777216) (l:g.rs.length<=16777216):RG g:=by
 have e:g.ns.length=g.nN:=h.nodes.rd.len;have f:g.rs.length=g.nR:=h.rels.rd.len;refine ⟨qO,qO,fun x b=>?_,fun x b=>?_⟩
 · have a:=hw.nodes x.dat (fD b);have i:x.labels.length=x.nL:=by have:=(kJ (h.nodes.each x b).lab).len;simpa using this
   have c:x.labels.length<=255:=a.n;exact ⟨qO,fun s d=>by have:s.size<=255:=a.lab s d;omega,ZnH (h.nodes.each x b).pro (by simpa [ND.dat] using a.np) a.pr⟩
 have a:=hw.rels x.dat (fD b);have j:x.type.size<=255:=a.type;exact ⟨qO,ZnH (h.rels.each x b).pro (by simpa [RL.dat] using a.np) a.pr⟩
theorem Zrm {gr:GR} {x:ND} (KO:OwnG w B gr) (kb:Blk w g t cs) (h0:56≠t) (h1:53≠t) (h2:2≠t) (h3:9≠t) (h4:60≠t)
 (r:Same w wa) (hx:WE wa B x) (hg:Grew wa B 56 3 (.slice gr.AN gr.nN gr.cN) (gr.nN+1) (gr.ns.flatMap ND.cells++x.cells) v9 w9):
 ∃ A9 c9,v9=.slice A9 (gr.nN+1) c9/\OwnG (w9.setCell ⟨g,i,none⟩ v9) B ⟨gr.ns++[x],A9,gr.nN+1,c9,gr.rs,gr.AR,gr.nR,gr.cR⟩/\Blk (w9.setCell ⟨g,i,none⟩ v9) g t (cs.setIfInBounds i v9)/\Blk w9 g t cs/\Upd (fun b=>b=g\/(OfT w 56 b/\B<=b)) w (w9.setCell ⟨g,i,none⟩ v9):=by
 have d:gr.ns.length=gr.nN:=KO.nodes.rd.len;have a:=KO.nodes.row;rw [d] at a;have c:=mA a r;obtain ⟨A9,c9,rfl⟩:=WA hg.own;have o:∀ b,b<wa.heap.size->(Value.slice gr.AN gr.nN gr.cN).ownBlock=some b->OfT wa 56 b:=fun b _ h=>LA c h;have j:=(kb.same r).upd hg.upd fun p=>(kb.same r).ne_own c h0 p;have n:=(eA (fun b=>b=g) w9).put1 (i:=i) (.slice A9 (gr.nN+1) c9);have f:∀ b,b<w9.heap.size->b=g->OfT w9 t b:=fun b _ e=>by rw [e];exact ⟨_,j⟩
 have l:=(KO.nodes.same r).snoc (x:=x) (by rw [d];exact hg) hx;have m:=(KO.rels.same r).type hg.upd o qD qD qD qD;refine ⟨A9,c9,rfl,⟨l.type n f h0 h1 h2 h3,m.type n f h4 h1 h2 h3⟩,j.put i _,j,?_⟩;refine FK ((r.mono (S':=fun b=>b=g\/(OfT w 56 b/\B<=b)) qe).trans hg.upd fun k q h=>.inr ⟨LA a h,(a.lt k h).1⟩) (.inl rfl) _
theorem Ztj {gr:GR} {x:RL} (KO:OwnG w B gr) (kb:Blk w g t cs) (h0:56≠t) (h1:53≠t) (h2:2≠t) (h3:9≠t) (h4:60≠t)
 (r:Same w wa) (hx:yF wa B x) (hg:Grew wa B 60 5 (.slice gr.AR gr.nR gr.cR) (gr.nR+1) (gr.rs.flatMap RL.cells++x.cells) v9 w9):
 ∃ A9 c9,v9=.slice A9 (gr.nR+1) c9/\OwnG (w9.setCell ⟨g,i,none⟩ v9) B ⟨gr.ns,gr.AN,gr.nN,gr.cN,gr.rs++[x],A9,gr.nR+1,c9⟩/\Blk (w9.setCell ⟨g,i,none⟩ v9) g t (cs.setIfInBounds i v9)/\Blk w9 g t cs/\Upd (fun b=>b=g\/(OfT w 60 b/\B<=b)) w (w9.setCell ⟨g,i,none⟩ v9):=by
 have d:gr.rs.length=gr.nR:=KO.rels.rd.len;have a:=KO.rels.row;rw [d] at a;have c:=mA a r;obtain ⟨A9,c9,rfl⟩:=WA hg.own;have o:∀ b,b<wa.heap.size->(Value.slice gr.AR gr.nR gr.cR).ownBlock=some b->OfT wa 60 b:=fun b _ h=>LA c h;have j:=(kb.same r).upd hg.upd fun p=>(kb.same r).ne_own c h4 p;have n:=(eA (fun b=>b=g) w9).put1 (i:=i) (.slice A9 (gr.nR+1) c9);have f:∀ b,b<w9.heap.size->b=g->OfT w9 t b:=fun b _ e=>by rw [e];exact ⟨_,j⟩
 have l:=(KO.rels.same r).snoc (x:=x) (by rw [d];exact hg) hx;have m:=(KO.nodes.same r).type hg.upd o qD qD qD qD;refine ⟨A9,c9,rfl,⟨m.type n f h0 h1 h2 h3,l.type n f h4 h1 h2 h3⟩,j.put i _,j,?_⟩;refine FK ((r.mono (S':=fun b=>b=g\/(OfT w 60 b/\B<=b)) qe).trans hg.upd fun k q h=>.inr ⟨LA a h,(a.lt k h).1⟩) (.inl rfl) _
end
end Go.Proofs.YtmkjfhnlnhceiaaGreatDoor
