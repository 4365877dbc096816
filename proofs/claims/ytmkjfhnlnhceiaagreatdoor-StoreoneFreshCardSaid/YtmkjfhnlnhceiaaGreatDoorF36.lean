/- Lemmas: walks and plain laws. -/
import Derived.Test.YtmkjfhnlnhceiaaGreatDoorF35
set_option maxRecDepth 100000
set_option maxHeartbeats 16000000
namespace Go.Proofs.YtmkjfhnlnhceiaaGreatDoor
variable {W:World} {B:Nat} {R:Ending->World->Prop}
open Go.RowKit
attribute [local go_sem] oD
def GrR (s:St1) (w:World) (mM mB:Nat) (e:Ending) (w':World):Prop:=Upd (fun b=>b=mM\/b=mB) w w'/\match grP s with
 | .error er=>e=cF er
 | .ok G=>∃ g:GR,e=.returned g.agg/\OwnG w' w.heap.size g/\g.dat=G
theorem Zto (w:World) (a b c:Value):(Instr.field 115 (.agg #[a,b,c]) 0).run Tryz.prog w=.ok a w:=qK
theorem Ztp (w:World) (a b c:Value):(Instr.field 115 (.agg #[a,b,c]) 1).run Tryz.prog w=.ok b w:=qK
theorem Ztq (w:World) (a b c:Value):(Instr.field 115 (.agg #[a,b,c]) 2).run Tryz.prog w=.ok c w:=qK
abbrev ZwX (b1 rd mN id:Nat) (v:Value) (wx:World):Prop:=wx.cell? ⟨b1,0,none⟩=some (.pointer (some ⟨rd,0,none⟩))/\wx.cell? ⟨rd,1,none⟩=some (.map (some mN))/\(Instr.lookup 80 (.map (some mN)) (.int .i64 (id:Int)) false).run Tryz.prog wx=.ok v wx
abbrev ZwY (b1 rd p tl bn:Nat) (AL:Option Addr) (k cL:Nat) (wx:World):Prop:=wx.cell? ⟨b1,0,none⟩=some (.pointer (some ⟨rd,0,none⟩))/\wx.cell? ⟨rd,0,none⟩=some (.pointer (some ⟨p,0,none⟩))/\wx.cell? ⟨p,0,none⟩=some (.pointer (some ⟨tl,0,none⟩))/\wx.cell? ⟨bn,1,none⟩=some (.slice AL k cL)
abbrev ZwZ (b1 rd p tt gB bA:Nat) (vr:Value) (sr ds ty pr:Int) (wx:World):Prop:=wx.cell? ⟨b1,0,none⟩=some (.pointer (some ⟨rd,0,none⟩))/\wx.cell? ⟨rd,0,none⟩=some (.pointer (some ⟨p,0,none⟩))/\wx.cell? ⟨p,1,none⟩=some (.pointer (some ⟨tt,0,none⟩))/\wx.cell? ⟨gB,1,none⟩=some vr/\wx.cell? ⟨bA,1,none⟩=some (.int .i64 sr)/\wx.cell? ⟨bA,2,none⟩=some (.int .i64 ds)/\wx.cell? ⟨bA,7,none⟩=some (.int .i64 ty)/\wx.cell? ⟨bA,8,none⟩=some (.int .i64 pr)
abbrev Zxa (b1 rd p fp mM n:Nat) (wx:World):Prop:=wx.cell? ⟨b1,0,none⟩=some (.pointer (some ⟨rd,0,none⟩))/\wx.cell? ⟨rd,0,none⟩=some (.pointer (some ⟨p,0,none⟩))/\wx.cell? ⟨rd,5,none⟩=some (.map (some mM))/\wx.cell? ⟨p,5,none⟩=some (.pointer (some ⟨fp,0,none⟩))/\∀ ty,(Builtin.len_ #[71] ty #[.map (some mM)]).run Tryz.prog wx=.ok (.int .i64 (n:Int)) wx
abbrev Zxb (b1 rd mN:Nat) (A:Option Addr) (N c id:Nat) (v:Value) (wx:World):Prop :=
 wx.cell? ⟨b1,0,none⟩=some (.pointer (some ⟨rd,0,none⟩))/\wx.cell? ⟨rd,1,none⟩=some (.map (some mN))/\wx.cell? ⟨rd,4,none⟩=some (.slice A N c)/\(Instr.lookup 80 (.map (some mN)) (.int .i64 (id:Int)) false).run Tryz.prog wx=.ok v wx
theorem Zxc {tmps:Array Value} {u0 u1:Value} (h2:tmps.getD 2 undef=.pointer (some ⟨B,0,none⟩)) (hb:Blk W B 26 #[u0,u1]) (hR:R (.returned (.agg #[u0,u1])) W):
 LeavesIn Fence.wide 0 Tryz.prog Tryz.f33 tmps R [] .returning W:=by
 have a:=hb.c0;have b:=hb.c1;refine ⟨.agg #[u0,u1],?_,hR⟩;simp only [LF] at h2;simp [results,Tryz.results33,go_sem,h2,a,b]
theorem Ztr {P:Program} {fn:Func} {a:Act} (hm:BI B W a.defers)
 (h:∀ W':World,Upd (fun k=>B<=k/\W.heap[k]?=some (.deferred (some []))) W W'->LeavesIn Fence.wide 0 P fn a.tmps R [] .returning W'):bodyPostM Fence.wide 0 P fn R .ret a W:=Zih hm h
theorem ZoZ (w0 w:World) {B p rd mN mR mP mM mB:Nat} {q:StP} {s:St1} {A:Option Addr} {c:Nat} (h:GrS w0 w B p rd mN mR mP mM mB q s A c [] []) :
 Calls Tryz.prog 33 #[.pointer (some ⟨rd,0,none⟩)] w (GrR s w mM mB):=by
 obtain ⟨OR,e3⟩:∃ OR,GrR s w mM mB=OR:=⟨_,rfl⟩
 have cv:Hid (∀ M W,grP s=.error M->Upd (fun b=>b=mM\/b=mB) w W->OR (cF M) W):=qH fun M W o R=>by rw [<- e3];unfold GrR;rw [o];exact ⟨R,rfl⟩
 have g5:Hid (∀ G W (g:GR),grP s=.ok G->Upd (fun b=>b=mM\/b=mB) w W->OwnG W w.heap.size g->g.dat=G->OR (.returned g.agg) W):=qH fun G W g o R h3 h4=>by rw [<- e3];unfold GrR;rw [o];exact ⟨R,g,rfl,h3,h4⟩
 rw [e3];clear e3;have H0:=qH h;have cw:Hid (s.nodes.recs=q.ln.map BS.rc):=qH (by rw [<- h.st.en];rfl);have d5:Hid (s.rels.recs=q.lr.map BS.rc):=qH (by rw [<- h.st.er];rfl);have f6:Hid (s.blobs.recs=q.lb.map BS.rc):=qH (by rw [<- h.st.eb];rfl);obtain ⟨N,hN⟩:∃ N,s.rels.recs.length=N:=⟨_,rfl⟩
 have f7:=qH hN;have g6:N<=65536:=by have o:=h.st.fr.len;rw [<- hN,d5.out,nA];exact o
 have b8:Hid (mN<w.heap.size/\mR<w.heap.size/\mP<w.heap.size/\mM<w.heap.size/\mB<w.heap.size/\w0.heap.size<=w.heap.size):=qH (by obtain ⟨⟨f,o,_⟩,_⟩:=h.met;obtain ⟨⟨f',R,_⟩,_⟩:=h.blob;exact ⟨h.dec.node.lt,h.dec.rel.lt,h.dec.prop.lt,o.lt,R.lt,h.sm.size⟩)
 have j7:=qH h.dec.blk.lt;clear h hN;refine uW Tryz.func33 rfl ?_;simp only [Tryz.ntmps33,GF,BA,mC,Nat.reduceAdd,Nat.reduceSub,oI,pI,qI,rI,SB,EB];refine PH ?_;refine eH ?_;go_wp2_with fail;have g7:=jA w 77 #[.pointer (some ⟨rd,0,none⟩)];have g8:=(eA (fun _=>False) w).alloc (.cells #[.pointer (some ⟨rd,0,none⟩)] 77);have f8:(w.alloc (.cells #[.pointer (some ⟨rd,0,none⟩)] 77)).heap.size=w.heap.size+1:=aB _ _;generalize w.alloc (.cells #[.pointer (some ⟨rd,0,none⟩)] 77)=w1 at *;have g9:=jA w1 26 #[.slice none 0 0,.slice none 0 0];have fa:=(eA (fun _=>False) w1).alloc (.cells #[.slice none 0 0,.slice none 0 0] 26);have i1:(w1.alloc (.cells #[.slice none 0 0,.slice none 0 0] 26)).heap.size=w1.heap.size+1:=aB _ _;rw [<- f8];generalize w1.alloc (.cells #[.slice none 0 0,.slice none 0 0] 26)=w2 at *;generalize j3:w1.heap.size=X at *;generalize ey:w.heap.size=b1 at *;have HZ:Hid (b1=w.heap.size/\X=b1+1/\w2.heap.size=b1+2):=qH ⟨ey.symm,f8,by omega⟩;have fc:=qH (g8.trans fa fun _ _ f=>f);have fd:=qH (g7.same fa);have cc:=qH g9;clear g8 fa g7 g9 f8 i1 j3 ey;have fe:=H0.out.same fc.out;have q0:w2.cell? ⟨b1,0,none⟩=some (.pointer (some ⟨rd,0,none⟩)):=fd.out.cell 0;have q1:w2.cell? ⟨rd,0,none⟩=some (.pointer (some ⟨p,0,none⟩)):=fe.dec.blk.cell 0;have q2:w2.cell? ⟨p,3,none⟩=some (.pointer (some ⟨q.fn,0,none⟩)):=fe.stm.blk.cell 3;clear fe
 repeat refine PH ?_
 refine eH ?_;go_wp2_with fail;refine (DI w2 q.fn).mono ?_;rintro e w3 ⟨rfl,rfl⟩;have cd:=jA w2 67 #[.pointer (some ⟨q.fn,0,none⟩)];have dt:=(eA (fun _=>False) w2).alloc (.cells #[.pointer (some ⟨q.fn,0,none⟩)] 67);generalize w2.alloc (.cells #[.pointer (some ⟨q.fn,0,none⟩)] 67)=w3 at *;generalize w2.heap.size=b3 at *;have du:=qH (fc.out.trans dt fun _ _ f=>f);have ga:=qH cd;have d6:=qH (fd.out.same dt);have ec:=qH (cc.out.same dt);have dv:=qH (H0.out.same du.out);have P:Hid (w.heap.size<=w3.heap.size/\b1=w.heap.size):=qH ⟨du.out.size,HZ.1⟩;clear cd dt q0 q1 q2 fd cc fc;go_wp2_with fail;refine jL ?_;have V:=dv.out.stm.fn;refine iL (f:=q.fn) (fB:=b3) V ga.out rfl rfl
  (fun a5 W=>Same w3 W/\(∀ y∈a5,bI (dF s.rels) y=0)/\∀ y∈a5,(getN y.2).isSome=true)
  (fun M=>grP s=.error M) (fun W=>Same w3 W)
  ⟨eA _ _,(fun _ h=>by cases h),fun _ h=>by cases h⟩
  (fun a5 W W' ⟨o,R,h3⟩ U=>⟨o.trans U fun b hb L=>by have:=L.1;omega,R,h3⟩)
  (fun W W' h U=>h.trans U fun b hb L=>by have:=L.1;omega) ?F ?assign ?body ?done ?panic
 case assign =>
  intro lp x W K z;dsimp only [RE.args];gi_wp2;exact z
 case panic =>
  intro D M W hD cl cm hW;refine yJ ((TC.nil w3.heap.size w3.heap.size W).cons (lA _) hD hW).marks fun W' U=>?_;exact cv.out M W' cl (iE (((du.out.trans cm fun _ _ f=>f)).trans U fun b hb L=>by have:=L.1;have:=P.out;omega))
 case body =>
  intro lp a5 x W ⟨a0,af,cn⟩ O a1 hid bc ag;rw [<- cw.out] at O a1;have aa:=OC a1;have d7:=qH (dv.out.same a0);obtain ⟨n,c8,_⟩:=d7.out.ok.getN aa;obtain ⟨v,⟨n',A1,c1,cb,rfl,_⟩,a4⟩:=d7.out.dec.node.at_ AO ZQ aa (by have:=V.len;simp only;omega);rw [c8] at cb;cases cb;obtain ⟨rl,pp,ls⟩:=n;unfold N1.cellsV at a4;simp only at a4;have HE:Hid (∀ M,bI (dF s.rels) (x.id,x.data)=M->M≠0->grP s=.error M):=qH fun M o R=>by have h3:=Ztk O a1 af cn o R;rw [<- YQ] at h3;unfold grP;rw [h3,gA R]
  have cx:=qH c8;have ff:=qH a4;have bq:=qH a0;have dw:=qH af;have i2:=qH cn;have b9:Same W W.drew:=(eA _ W).drew;have ed:Hid (∀ S,Same W S->RdL S (fun b=>w0.heap.size<=b/\b<S.heap.size) A N c (dF s.rels)):=qH fun S h=>by have o:=kJ (mA d7.out.dec.chain h);rwa [f7.out] at o
  have Y:(dF s.rels).length=N:=by unfold dF;rw [nA,f7.out]
  have gb:=qH (ZsZ W.drew (ed.out _ b9) g6 (x.id:Int) rl);have HK:Hid (∀ S,Same W S->Zxb b1 rd mN A N c x.id (.agg #[.int .i64 rl,.int .i64 pp,.slice A1 ls.length c1]) S):=qH fun S h=>by have h4:S.cell? ⟨rd,4,none⟩=some (.slice A s.rels.recs.length c):=(d7.out.dec.blk.same h).cell 4;rw [f7.out] at h4;exact ⟨(d6.out.same (bq.out.trans h fun _ _ f=>f)).cell 0,(d7.out.dec.blk.same h).cell 1,h4,(ff.out S h).2⟩
  have a2:=HK.out _ b9;clear a0 af cn O a1 ag bc aa c8 a4 V;have j8:=Zto;gi_wp2_with fail;refine dG 17 (fun S=>Zxb b1 rd mN A N c x.id (.agg #[.int .i64 rl,.int .i64 pp,.slice A1 ls.length c1]) S) (by kernel_rfl) (by kernel_rfl) (cG fun _ _ h=>h) a2 (fun j=>?_);refine tC ?_;refine CD 12 rfl (fun K z=>?_);go_simp;refine gb.out.mono ?_;rintro e w4 ⟨b0,hX⟩;clear gb;rcases hwk:QC (dF s.rels) x.id ((dF s.rels).length+1) (-1) rl with M | hv
  · rw [hwk] at hX;simp only at hX;subst hX;have HX:=qH (HE.out M (by unfold bI SG;simp only [cx.out,hwk]) (XQ hwk))
    have dx:=qH (XQ hwk);have an:=qH (b9.trans b0 fun _ _ f=>f);clear hwk b0 b9;refine z.out _ _ (HK.out _ an.out) (fun j=>?_);clear z K;refine tC ?_;refine bD rfl (fun K z=>?_);go_simp;refine z.out _ _ ?_;clear z K j;gi_wp2_with fail;refine ⟨trivial,?_⟩;gi_at_call 58;refine (CallsIn.inRound lp (ZB.2 (UH w4 dx.out))).mono ?_;rintro e w5 ⟨rfl,rfl⟩;exact ⟨rfl,ZD an.out fun _ f=>f.elim,M,rfl,HX.out,bq.out.same an.out⟩
  rw [hwk] at hX;obtain ⟨v,rfl,hw⟩:=hX;obtain ⟨A2,c2,rfl⟩:=WA hw;have gc:Hid (bI (dF s.rels) (x.id,x.data)=if hv.length≠(OB (dF s.rels) x.id).length then 101 else 0):=qH (by unfold bI SG;simp only [cx.out,hwk];rfl)
  have an:=qH (b9.trans b0 fun _ _ f=>f);clear hwk b0 b9 hw;refine z.out _ _ (HK.out _ an.out) (fun j=>?_);clear z K;refine tC ?_;refine bD rfl (fun K z=>?_);go_simp;refine z.out _ _ ?_;clear z K j;gi_wp2_with fail;refine ⟨trivial,?_⟩;gi_at_call 58;refine (CallsIn.inRound lp (ZB.2 (zF w4))).mono ?_;rintro e w5 ⟨rfl,rfl⟩;obtain ⟨q0,_,q4,_⟩:=HK.out w4 an.out;have gd:=qH (TZ w4 (ed.out _ an.out) g6 (x.id:Int));gi_wp2_with fail;refine ⟨trivial,?_⟩;gi_at_call 53;refine (CallsIn.inRound lp (ZB.2 gd.out)).mono ?_;rintro e w5 ⟨v5,rfl,ez,d2⟩;obtain ⟨A5,c5,rfl⟩:=WA ez;have bl:=qH (an.out.trans d2 fun _ _ f=>f);generalize hv.length=n1 at *;generalize (OB (dF s.rels) (x.id:Int)).length=n2 at *;clear ez d2 q0 q4 gd;by_cases hn:n1=n2
  case neg =>
   have fg:((n1:Int)==(n2:Int))=false:=WC.2 (by omega);have HX:=qH (HE.out 101 (gc.out.trans (gA hn)) (by decide));clear hn;gi_wp2_with fail;refine ⟨trivial,?_⟩;gi_at_call 66;refine (CallsIn.inRound lp (ZB.2 (gD w5 101))).mono ?_;rintro e w6 ⟨rfl,rfl⟩;exact ⟨rfl,ZD bl.out fun _ f=>f.elim,101,rfl,HX.out,bq.out.same bl.out⟩
  have i3:=qH (gc.out.trans (aA (fun h=>h hn)));subst hn;gi_wp2_with fail;refine ⟨trivial,?_⟩;gi_at_call 66;refine (CallsIn.inRound lp (ZB.2 (lD w5 101))).mono ?_;rintro e w6 ⟨rfl,rfl⟩;gi_wp2;refine ⟨AM bl.out,bq.out.same bl.out,fun y hy=>?_,fun y hy=>?_⟩
  · rcases YB.1 hy with hy | hy
    · exact dw.out y hy
    rw [QB.1 hy];exact i3.out
  rcases YB.1 hy with hy | hy
  · exact i2.out y hy
  rw [QB.1 hy];simp only;rw [cx.out];rfl
 intro D W hD ⟨a0,af,cn⟩ hW;rw [<- cw.out] at af cn;have d8:Hid (¬ eG (dF s.rels) 0 s.nodes.recs≠0):=qH (fun h=>h (by rw [YQ,ZoY af cn]));have cf:Hid (GI w0 w W B p rd mN mR mP mM mB b1 X q s A c [] [] ⟨[],[]⟩):=qH ⟨dv.out.same a0,iE (du.out.trans a0 fun _ _ f=>f),d6.out.same a0,⟨[],none,0,0,[],none,0,0⟩,ec.out.same a0,⟨XE.nil_ _ _,YE.nil_ _ _⟩,rfl⟩;have gf:Hid (TC w3.heap.size (D+1) W [{ target:=.collected D,args:=#[] }]):=qH ((TC.nil w3.heap.size w3.heap.size W).cons (lA _) hD hW);have i4:Hid (w3.heap.size<=D/\D<W.heap.size):=qH ⟨hD,(sC.1 hW).1⟩;clear a0 af cn hW hD V ga dv ec d6;have q0:W.cell? ⟨b1,0,none⟩=some (.pointer (some ⟨rd,0,none⟩)):=cf.out.box.cell 0;have q1:W.cell? ⟨rd,0,none⟩=some (.pointer (some ⟨p,0,none⟩)):=cf.out.gs.dec.blk.cell 0;have q2:W.cell? ⟨p,3,none⟩=some (.pointer (some ⟨q.fn,0,none⟩)):=cf.out.gs.stm.blk.cell 3;refine BM ?_
 repeat refine PH ?_
 refine eH ?_;go_wp2_with fail;refine (DI W q.fn).mono ?_;rintro e w4 ⟨rfl,rfl⟩;have bf:=jA W 67 #[.pointer (some ⟨q.fn,0,none⟩)];have b0:=(eA (fun _=>False) W).alloc (.cells #[.pointer (some ⟨q.fn,0,none⟩)] 67);generalize W.alloc (.cells #[.pointer (some ⟨q.fn,0,none⟩)] 67)=w4 at *;obtain ⟨b4,f3⟩:∃ b4,W.heap.size=b4:=⟨_,rfl⟩
 rw [f3] at bf ⊢;have an:=qH b0;have gg:=qH bf;have ao:Hid (w.heap.size<=w4.heap.size/\D<w4.heap.size/\w3.heap.size<=D):=qH (by have o:=b0.size;have R:=i4.out;have h3:=cf.out.up.size;omega);clear bf b0 f3 q0 q1 q2;go_wp2_with fail;refine jL ?_;have V:=(cf.out.gs.stm.same an.out).fn;refine iL (f:=q.fn) (fB:=b4) V gg.out rfl rfl
  (fun a5 W'=>(∃ ns mp mb,zC (AH s.labels (MB s 16 [] (-1))) a5 [] []=.ok (ns,mp,mb)/\GI w0 w W' B p rd mN mR mP mM mB b1 X q s A c mp mb ⟨ns,[]⟩)/\TC w3.heap.size (D+1) W' [{ target:=.collected D,args:=#[] }])
  (fun M=>grP s=.error M) (fun W'=>Upd (fun b=>b=mM\/b=mB) w W'/\TC w3.heap.size (D+1) W' [{ target:=.collected D,args:=#[] }])
  ⟨⟨[],[],[],rfl,cf.out.same an.out⟩,gf.out.same an.out⟩
  (fun a5 W1 W2 ⟨⟨ns,mp,mb,o,R⟩,h5⟩ U=>⟨⟨ns,mp,mb,o,R.it U ao.1 (by have:=b8.out;rw [<- P.2];exact this)⟩,h5.upd U fun D' L hD=>by have:=L.1;have:=ao.out;omega⟩)
  (fun W1 W2 ⟨o,R⟩ U=>⟨o.trans U fun b hb L=>by have:=L.1;have:=ao.out;omega,R.upd U fun D' L hD=>by have:=L.1;have:=ao.out;omega⟩) ?F2 ?assign2 ?body2 ?done2 ?panic2
 case assign2 =>
  intro lp x W1 K z;dsimp only [RE.args];gi_wp2;exact z
 case panic2 =>
  intro D2 M W1 hD cl ⟨cm,dj⟩ dk;refine yJ (dj.cons (by have:=ao.out;omega) (by have:=ao.out;omega) dk).marks fun W' U=>?_;exact cv.out M W' cl (cm.trans U fun b hb L=>by have:=L.1;have:=P.out;omega)
 case body2 =>
  intro lp a5 x W1 ⟨⟨ns,mp,mb,H,E⟩,ad⟩ O a1 hid bc ag;rw [<- cw.out] at O a1;have aa:=OC a1;obtain ⟨n,c8,co⟩:=E.gs.ok.getN aa;obtain ⟨v,⟨n',A1,c1,cb,rfl,dl⟩,a4⟩:=E.gs.dec.node.atU AO ZQ aa (by have:=V.len;simp only;omega);rw [c8] at cb;cases cb;have bg:=YU c8;obtain ⟨rl,pp,ls⟩:=n;unfold N1.cellsV at a4;simp only at a4 dl co;simp only [bE,kB] at bg;have j9:=NB.1 bg.2.1;have i5:ls.length<=8:=by have:=bg.2.2;simp only [OG,kB,NC] at this;exact this.1
  have cx:=qH c8;have ff:=qH a4;have gi:=qH co;have ee:=qH dl;have cg:=qH H;have I:=qH E;have d9:=qH ad;have bs:=qH O;have da:=qH a1;have b9:Same W1 W1.drew:=(eA _ W1).drew;have a7:¬ (mN=mM\/mN=mB):=by have o:=E.gs.ne;rintro (e | e);exact o.1 e;exact o.2.1 e
  have HK:Hid (∀ S,Upd (fun b=>b=mM\/b=mB) W1 S->ZwX b1 rd mN x.id (.agg #[.int .i64 rl,.int .i64 pp,.slice A1 ls.length c1]) S):=qH fun S h =>
   ⟨(E.cell h E.box).cell 0,(E.cell h E.gs.dec.blk).cell 1,ff.out _ S h a7⟩
  have bt:=qH (fun (S:World) (h:Same W1 S)=>ZnC w0 S (E.gs.same h).rds pp (by omega));unfold LstR at bt;have a2:=HK.out _ (iE b9);have i6:=Ztp;have ef:x.id<65536:=RF hid V.len;have bj:Hid (∀ M,MB s 16 [] (-1) pp mp mb=.error M->grP s=.error M):=qH fun M o=>by
   have R:AH s.labels (MB s 16 [] (-1)) (x.id,x.data) mp mb=.error M:=by unfold AH;simp only [cx.out,o]
   have h3:=ZnD bs.out da.out cg.out R;unfold grP;rw [aA d8.out,yM,h3]
  have j6:Hid (W1.heap.size<=W1.drew.heap.size):=qH (lA _);clear E ad O a1 ag bc aa c8 a4 bg dl co H V a7;gi_wp2_with fail;refine dG 12 (fun S=>ZwX b1 rd mN x.id (.agg #[.int .i64 rl,.int .i64 pp,.slice A1 ls.length c1]) S) (by kernel_rfl) (by kernel_rfl) (cG fun _ _ h=>h) a2 (fun j=>?_);refine tC ?_;refine ESt.br2 9 11 rfl rfl (fun K z=>?_) (fun K z=>?_)
  focus
   go_simp;refine (bt.out _ b9).mono ?_;rintro e wl ⟨bd,hX⟩;rcases Y:MB s 16 [] (-1) pp mp mb with M | ⟨l,av,a8⟩
   · rw [Y] at hX;simp only at hX;subst hX;have ap:=(iE b9).trans bd fun _ _ e=>e;exact ⟨rfl,ZD ap fun k e hk=>by have:=b8.out;have:=ao.out;have:=P.out;rcases e with e | e <;> omega,M,rfl,bj.out M Y,I.out.up.trans ap fun _ _ e=>e,I.out.marks d9.out ap⟩
   rw [Y] at hX;obtain ⟨aq,ar,A7,c7,ps,rfl,au,az⟩:=hX;have ap:=(iE b9).trans bd fun _ _ e=>e;refine z.out _ _ (HK.out _ ap) (fun j=>?_);clear z K;refine tC ?_;refine CD 11 rfl (fun K z=>?_);go_simp;have Z:=jA wl 56 #[.int .i64 0,.slice none 0 0,.slice none 0 0];have ab:=(eA (fun _=>False) wl).alloc (.cells #[.int .i64 0,.slice none 0 0,.slice none 0 0] 56);refine z.out _ _ (HK.out _ (ap.same ab)) (fun j=>?_);clear z K;generalize wl.alloc (.cells #[.int .i64 0,.slice none 0 0,.slice none 0 0] 56)=wz at *;obtain ⟨bn,cp⟩:∃ bn,wl.heap.size=bn:=⟨_,rfl⟩
   rw [cp] at Z ⊢;have c0:wz.cell? ⟨bn,0,none⟩=some (.int .i64 0):=Z.cell 0;have bu:wz.cell? ⟨bn,1,none⟩=some (.slice none 0 0):=Z.cell 1;have dy:wz.cell? ⟨bn,2,none⟩=some (.slice none 0 0):=Z.cell 2;have f0:wz.frozen? ⟨bn,0,none⟩=false:=Z.frozen 0;have f1:wz.frozen? ⟨bn,1,none⟩=false:=Z.frozen 1;have f2:wz.frozen? ⟨bn,2,none⟩=false:=Z.frozen 2;refine bD rfl (fun K z=>?_);go_simp;have cy:=ap.same ab;have bv:W1.heap.size<=bn:=cp ▸ ap.size;have ba:W1.heap.size<=W1.drew.heap.size:=lA _;have aq:=aq.same ab;have ar:=ar.same ab;have au:=au.same ab;refine z.out _ _ ?_;clear z K j c0 bu dy f0 f1 f2;obtain ⟨wE,cq⟩:∃ wE,(((wz.setCell ⟨bn,0,none⟩ (.int .i64 (x.id:Int))).setCell ⟨bn,1,none⟩ (.slice none 0 0)).setCell ⟨bn,2,none⟩ (.slice A7 l.length c7))=wE:=⟨_,rfl⟩
   rw [cq];have db:=qH (Zvc cy bv Z aq ar au ba cq);have dz:=qH az;have e0:=qH Y;clear cq au az Y Z aq ar cy ba bv;clear ab ap bd cp
  rotate_left
  focus
   go_simp;have eg:=jA W1 56 #[.int .i64 0,.slice none 0 0,.slice none 0 0];have ab:=((eA (fun _=>False) W1).alloc (.cells #[.int .i64 0,.slice none 0 0,.slice none 0 0] 56)).drew;have dc:=eg.same (eA (fun _=>False) _).drew;refine z.out _ _ (HK.out _ (iE ab)) (fun j=>?_);clear z K;generalize (W1.alloc (.cells #[.int .i64 0,.slice none 0 0,.slice none 0 0] 56)).drew=wn at *;obtain ⟨bn,cp⟩:∃ bn,W1.heap.size=bn:=⟨_,rfl⟩
   rw [cp] at dc ⊢;refine CD 9 rfl (fun K z=>?_);go_simp;refine (bt.out _ ab).mono ?_;rintro e wz ⟨bd,hX⟩;rcases Y:MB s 16 [] (-1) pp mp mb with M | ⟨l,av,a8⟩
   · rw [Y] at hX;simp only at hX;subst hX;have ap:=(iE ab).trans bd fun _ _ e=>e;exact ⟨rfl,ZD ap fun k e hk=>by have:=b8.out;have:=ao.out;have:=P.out;rcases e with e | e <;> omega,M,rfl,bj.out M Y,I.out.up.trans ap fun _ _ e=>e,I.out.marks d9.out ap⟩
   rw [Y] at hX;obtain ⟨aq,ar,A7,c7,ps,rfl,au,az⟩:=hX;have cy:Upd (fun b=>b=mM\/b=mB) W1 wz:=(iE ab).trans bd fun _ _ e=>e;refine z.out _ _ (HK.out _ cy) (fun j=>?_);clear z K;refine tC ?_;have Z:=(I.out.same ab).cell bd dc;have c0:wz.cell? ⟨bn,0,none⟩=some (.int .i64 0):=Z.cell 0;have bu:wz.cell? ⟨bn,1,none⟩=some (.slice none 0 0):=Z.cell 1;have dy:wz.cell? ⟨bn,2,none⟩=some (.slice none 0 0):=Z.cell 2;have f0:wz.frozen? ⟨bn,0,none⟩=false:=Z.frozen 0;have f1:wz.frozen? ⟨bn,1,none⟩=false:=Z.frozen 1;have f2:wz.frozen? ⟨bn,2,none⟩=false:=Z.frozen 2;refine bD rfl (fun K z=>?_);go_simp;have bv:W1.heap.size<=bn:=Nat.le_of_eq cp;have ba:W1.heap.size<=wn.heap.size:=ab.size;refine z.out _ _ ?_;clear z K j c0 bu dy f0 f1 f2;obtain ⟨wE,cq⟩:∃ wE,(((wz.setCell ⟨bn,0,none⟩ (.int .i64 (x.id:Int))).setCell ⟨bn,1,none⟩ (.slice none 0 0)).setCell ⟨bn,2,none⟩ (.slice A7 l.length c7))=wE:=⟨_,rfl⟩
   rw [cq];have db:=qH (Zvc cy bv Z aq ar au ba cq);have dz:=qH az;have e0:=qH Y;clear cq au az Y Z aq ar cy ba bv;clear ab bd cp eg dc
  rotate_left
  all_goals
   clear bt bj i6;obtain ⟨q0,q1,q2⟩:=HK.out wE db.out.up;have i7:=Ztq;gi_wp2_with fail
  all_goals
   have i8:Hid (LabI wE wE bn (.int .i64 (x.id:Int)) (ls.map (FB s.labels)) 0 none 0 A7 l.length c7):=qH ⟨eA _ _,db.out.blk,iC _ _ _ _⟩;obtain ⟨nl,co⟩:∃ nl,ls.length=nl:=⟨_,rfl⟩
   have gj:=qH co;rw [co] at i5 ee ⊢;clear co q0 q1 q2 i7;gi_loopg [84] nl (fun gh sk wr=>∃ (k:Nat) (AL:Option Addr) (cL:Nat),nl-k=gh/\k<=nl/\sk=.int .i64 (k:Int)/\Hid (LabI wE wr bn (.int .i64 (x.id:Int)) (ls.map (FB s.labels)) k AL cL A7 l.length c7))
   case atStart=>exact ⟨0,none,0,rfl,oA _,rfl,i8⟩
   obtain ⟨k,AL,cL,rfl,hk,rfl,KL⟩:=hrel;obtain ⟨dm,aq,ar,au⟩:=db.out.labs KL.out;have ch:=qH (I.out.list dm aq ar);by_cases i9:k<nl
   · have gk:(k:Int)<(nl:Int):=by omega
     obtain ⟨g,u,rfl,_,_,U,dn,_,_⟩:=EE (I.out.own dm ee.out) i9;rw [MA] at U;obtain ⟨li,fx,rfl⟩:=GH.1 U;obtain ⟨f,m,j4,v,nv,lt,dp⟩:=(ch.out.gs.stm.same (eA (fun _=>False) wr).drew).tl;have bm:=qH (sM dp li);have fh:=gi.out li (OC fx);obtain ⟨nm,a7⟩:∃ nm,FB s.labels li=nm:=⟨_,rfl⟩
     unfold iK at bm;rw [a7] at fh;simp only [a7,aA fh] at bm;have gl:Hid ((ls.map (FB s.labels))[k]?=some nm):=qH (by rw [MA,fx,<-a7];rfl);have bw:Hid (∀ S,Upd (fun b=>(Value.slice AL k cL).ownBlock=some b) wr S->ZwY b1 rd p q.tl bn AL k cL S):=qH fun S h=>by have hc:∀ {g:Nat} {t:TypeId} {cs:Array Value},9≠t->Blk wr g t cs->Blk S g t cs:=fun hn hb=>hb.upd h fun e=>hb.ne_own KL.out.row hn e;exact ⟨(hc (by decide) ch.out.box).cell 0,(hc (by decide) ch.out.gs.dec.blk).cell 0,(hc (by decide) ch.out.gs.stm.blk).cell 0,(hc (by decide) KL.out.blk).cell 1⟩
     have ia:Same wr wr.drew:=(eA _ wr).drew;have a2:=bw.out _ (iE ia);have ib:wE.heap.size<=wr.heap.size:=KL.out.up.size;clear dm aq ar au U fx fh a7 dp;gi_wp2_with fail;refine dG 14 (fun S=>ZwY b1 rd p q.tl bn AL k cL S) (by kernel_rfl) (by kernel_rfl) (cG fun _ _ h=>h) a2 (fun j=>?_);refine tC ?_;refine CD 10 rfl (fun K z=>?_);go_simp;refine bm.out.mono ?_;rintro e wn ⟨rfl,rfl⟩;refine z.out _ _ a2 (fun j=>?_);clear z K bm;refine CD 11 rfl (fun K z=>?_);go_simp;have a3:=((eA (fun _=>False) wr).alloc (.cells #[.string nm] 9)).drew;have gm:=(jA wr 9 #[.string nm]).same (eA (fun _=>False) _).drew;have ic:=tA ib a3.size;refine z.out _ _ (bw.out _ (iE a3)) (fun j=>?_);clear z K;generalize (wr.alloc (.cells #[.string nm] 9)).drew=wa at *;generalize wr.heap.size=gS at *;refine CD 12 rfl (fun K z=>?_);refine IK rfl (.tmp 89) (.tmp 99) _ _ rfl wE.heap.size 9 1 16 _ mI PN rfl (.slice AL k cL) k _ rfl (mA KL.out.row a3) rfl (GD mI (XF gm (k:=1) (n:=1) (c:=1) rfl (lA _) (by simp [maxLen])) (by simp [Value.oneCell'])) (by unfold maxLen;omega) (by omega) ic ?_;intro v9 w9 bi;obtain ⟨A9,c9,rfl⟩:=WA bi.own;refine z.out _ _ (bw.out _ ((iE a3).trans bi.upd fun _ _ e=>e)) (fun j=>?_);clear z K;refine tC ?_;have bh:=(KL.out.blk.same a3).upd bi.upd fun e=>(KL.out.blk.same a3).ne_own (mA KL.out.row a3) (by decide) e;have bu:w9.cell? ⟨bn,1,none⟩=some (.slice AL k cL):=bh.cell 1;have fi:w9.frozen? ⟨bn,1,none⟩=false:=bh.frozen 1;have ie:=qH (KL.out.snoc a3 bi gl.out);refine bD rfl (fun K z=>?_);go_simp;refine z.out _ _ ?_;clear z K j bu fi bh bi a3 gm a2 bw;generalize w9.setCell ⟨bn,1,none⟩ (.slice A9 (k+1) c9)=wF at *;gi_wp2;gi_roundg (nl-(k+1))
     case measure=>omega
     case rel=>exact ⟨k+1,A9,c9,rfl,by omega,by go_num,ie⟩
   have gk:¬ (k:Int)<(nl:Int):=by omega
   obtain rfl:k=nl:=by omega
   obtain ⟨C,a9,aw,b6⟩:=ch.out.ex;have q0:wr.cell? ⟨X,0,none⟩=some (.slice C.AN C.nN C.cN):=a9.cell 0;have c0:wr.cell? ⟨bn,0,none⟩=some (.int .i64 (x.id:Int)):=KL.out.blk.cell 0;have bu:wr.cell? ⟨bn,1,none⟩=some (.slice AL k cL):=KL.out.blk.cell 1;have dy:wr.cell? ⟨bn,2,none⟩=some (.slice A7 l.length c7):=KL.out.blk.cell 2;have ig:C.ns.length=C.nN:=aw.nodes.rd.len;have ci:C.ns.map ND.dat=ns/\C.rs.map RL.dat=[]:=by
    unfold GR.dat at b6;injection b6 with o R
    exact ⟨o,R⟩
   have ii:C.nN<=65536:=by have o:=tB List.length ci.1;rw [nA,BO cg.out] at o;have R:=tB List.length bs.out;have h3:=(IA.1 da.out).1;have h4:=zJ s.nodes.recs 0;rw [cw.out] at h3 h4;rw [nA] at h4;have h5:=H0.out.st.fn.len;omega
   have cj:=mA aw.nodes.row ((eA (fun _=>False) wr).alloc (.cells (ND.cells ⟨(x.id:Int),ls.map (FB s.labels),AL,k,cL,ps,A7,l.length,c7⟩).toArray 56));rw [ig] at cj;have fj:w.heap.size<=wr.heap.size:=ch.out.up.size;have eh:=a9.same ((eA (fun _=>False) wr).alloc (.cells (ND.cells ⟨(x.id:Int),ls.map (FB s.labels),AL,k,cL,ps,A7,l.length,c7⟩).toArray 56));gi_wp2_with (gi_at_builtin;refine BX rfl (.tmp 104) (.tmp 106) _ _ rfl w.heap.size 56 3 56 _ pN oW rfl (.slice C.AN C.nN C.cN) C.nN (C.ns.flatMap ND.cells) rfl cj rfl (GD pN (Row.nd wr ⟨(x.id:Int),ls.map (FB s.labels),AL,k,cL,ps,A7,l.length,c7⟩) (ND.one _)) (by unfold maxLen;omega) (by omega) (by simp;omega) ?_;intro v9 w9 hg;obtain ⟨A9,c9,rfl⟩:=WA hg.own;have bh:=eh.upd hg.upd fun e=>eh.ne_own cj (by decide) e;have f9:=bh.frozen 0;have e9:w9.cell? ⟨X,0,none⟩=some (.slice C.AN C.nN C.cN):=bh.cell 0);have fk:Same wr (wr.alloc (.cells (ND.cells ⟨(x.id:Int),ls.map (FB s.labels),AL,k,cL,ps,A7,l.length,c7⟩).toArray 56)):=(eA (fun _=>False) wr).alloc _;have ei:w.heap.size<=W1.heap.size:=I.out.up.size;have hx:WE (wr.alloc (.cells (ND.cells ⟨(x.id:Int),ls.map (FB s.labels),AL,k,cL,ps,A7,l.length,c7⟩).toArray 56)) w.heap.size ⟨(x.id:Int),ls.map (FB s.labels),AL,k,cL,ps,A7,l.length,c7⟩:=by
    refine ⟨?_,(au.same fk).base ei,?_⟩
    · have o:=RA (base':=w.heap.size) (mA KL.out.row fk) (tA ei db.out.up.size);rw [cB (by rw [nA,gj.out];exact lA _)] at o;exact o
    have:=ef;exact ⟨by simp only;omega,by simp only;omega⟩
   obtain ⟨A',c',he,hO,fy,_,hU⟩:=Zrm (i:=0) aw a9 (by decide) (by decide) (by decide) (by decide) (by decide) fk hx hg;cases he;refine ⟨(I.out.mv dm (by have:=b8.out;have:=ao.out;have:=P.out;omega) (by have:=b8.out;have:=ao.out;have:=P.out;omega)).trans (gL hU fun b hb=>.inr ?_),⟨ns++[⟨(x.id:Int),ls.map (FB s.labels),l⟩],av,a8,ZkP cg.out ?_,ch.out.grow hU a9 (by have:=HZ.out;omega) (by have:=b8.out;have:=P.out;omega) (by decide) ⟨⟨C.ns++[⟨(x.id:Int),ls.map (FB s.labels),AL,k,cL,ps,A7,l.length,c7⟩],A9,C.nN+1,c9,C.rs,C.AR,C.nR,C.cR⟩,fy,hO,?_⟩⟩,(I.out.marks d9.out dm).upd hU fun D' L hD h=>?_⟩
   · rcases hb with rfl | ⟨hb,_⟩
     · exact ⟨_,by unfold DcU;decide,_,a9⟩
     exact ⟨_,by unfold DcU;decide,hb⟩
   · unfold AH;simp only [cx.out,e0.out]
   · unfold GR.dat;simp only [DB,ci.1,ci.2,CB,TG,ND.dat,dz.out]
   rcases L with rfl | ⟨⟨cs,L⟩,_⟩
   · unfold Blk at a9;rw [a9] at h;cases h
   unfold Blk at L;rw [L] at h;cases h
 intro D2 W1 hD ⟨⟨ns,mp,mb,H,E⟩,ad⟩ dk;rw [<- cw.out,<-yM] at H;have cz:=qH H;have I:=qH E;have d9:=qH (ad.cons (by have:=ao.out;omega) (by have:=ao.out;omega) dk);have ij:Hid (w3.heap.size<=D2/\D2<W1.heap.size):=qH ⟨by have:=ao.out;omega,(sC.1 dk).1⟩;clear H E ad dk hD V gg an cf gf;have q0:W1.cell? ⟨b1,0,none⟩=some (.pointer (some ⟨rd,0,none⟩)):=I.out.box.cell 0;have q1:W1.cell? ⟨rd,0,none⟩=some (.pointer (some ⟨p,0,none⟩)):=I.out.gs.dec.blk.cell 0;have q2:W1.cell? ⟨p,4,none⟩=some (.pointer (some ⟨q.fr,0,none⟩)):=I.out.gs.stm.blk.cell 4;refine BM ?_
 repeat refine PH ?_
 refine eH ?_;go_wp2_with fail;refine (DI W1 q.fr).mono ?_;rintro e w5 ⟨rfl,rfl⟩;have d1:=jA W1 67 #[.pointer (some ⟨q.fr,0,none⟩)];have d2:=(eA (fun _=>False) W1).alloc (.cells #[.pointer (some ⟨q.fr,0,none⟩)] 67);generalize W1.alloc (.cells #[.pointer (some ⟨q.fr,0,none⟩)] 67)=w5 at *;obtain ⟨b5,f4⟩:∃ b5,W1.heap.size=b5:=⟨_,rfl⟩
 rw [f4] at d1 ⊢;have bl:=qH d2;have gn:=qH d1;have b2:Hid (w.heap.size<=w5.heap.size/\D2<w5.heap.size/\w3.heap.size<=D2):=qH (by have o:=d2.size;have R:=ij.out;have h3:=I.out.up.size;omega);clear d1 d2 f4 q0 q1 q2;go_wp2_with fail;refine jL ?_;have V:=(I.out.gs.stm.same bl.out).fr;refine iL (f:=q.fr) (fB:=b5) V gn.out rfl rfl
  (fun a5 W'=>(∃ rs av a8,zC (relU s.types getR (MB s 16 [] (-1))) a5 mp mb=.ok (rs,av,a8)/\GI w0 w W' B p rd mN mR mP mM mB b1 X q s A c av a8 ⟨ns,rs⟩)/\TC w3.heap.size (D2+1) W' [{ target:=.collected D2,args:=#[] },{ target:=.collected D,args:=#[] }])
  (fun M=>grP s=.error M) (fun W'=>Upd (fun b=>b=mM\/b=mB) w W'/\TC w3.heap.size (D2+1) W' [{ target:=.collected D2,args:=#[] },{ target:=.collected D,args:=#[] }])
  ⟨⟨[],mp,mb,rfl,I.out.same bl.out⟩,d9.out.same bl.out⟩
  (fun a5 V1 V2 ⟨⟨rs,av,a8,o,R⟩,h5⟩ U=>⟨⟨rs,av,a8,o,R.it U b2.1 (by have:=b8.out;rw [<- P.2];exact this)⟩,h5.upd U fun D' L hD=>by have:=L.1;have:=b2.out;omega⟩)
  (fun V1 V2 ⟨o,R⟩ U=>⟨o.trans U fun b hb L=>by have:=L.1;have:=b2.out;omega,R.upd U fun D' L hD=>by have:=L.1;have:=b2.out;omega⟩) ?F3 ?assign3 ?body3 ?done3 ?panic3
 case assign3 =>
  intro lp x V1 K z;dsimp only [RE.args];gi_wp2;exact z
 case panic3 =>
  intro D3 M V1 hD cl ⟨cm,dj⟩ dq;refine yJ (dj.cons (by have:=b2.out;omega) (by have:=b2.out;omega) dq).marks fun W' U=>?_;exact cv.out M W' cl (cm.trans U fun b hb L=>by have:=L.1;have:=P.out;omega)
 case body3 =>
  intro lp a5 x V1 ⟨⟨rs,fz,g0,H,E⟩,ad⟩ O a1 hid bc ag;rw [<- d5.out] at O a1;have aa:=OC a1;have ef:x.id<65536:=RF hid V.len;obtain ⟨r,e4,e5⟩:=E.gs.ok.getR aa;obtain ⟨v,⟨r',cb,rfl⟩,a4⟩:=E.gs.dec.rel.atU Ztf ZwU aa (by simp only;omega);rw [e4] at cb;cases cb;have bg:=Zth e4;simp only [cE,AI,kB] at bg;have ik:=NB.1 bg.1.1;have il:=NB.1 bg.1.2.1;have im:=NB.1 bg.2.2;obtain ⟨⟨lv,sr,ds,p1,p2,p3,p4⟩,ty,pr⟩:=r;unfold R1.cells at a4;simp only at a4 e5 ik il im;obtain ⟨nm,a7⟩:∃ nm,FB s.types ty=nm:=⟨_,rfl⟩
  have dx:=qH a7;rw [a7] at e5;have go:=qH e4;have cg:=qH H;have ax:=qH E;have ej:=qH ad;have bs:=qH O;have da:=qH a1;have bj:Hid (∀ M,MB s 16 [] (-1) pr fz g0=.error M->grP s=.error M):=qH fun M o=>by
   have R:relU s.types getR (MB s 16 [] (-1)) (x.id,x.data) fz g0=.error M:=by unfold relU;simp only [go.out,o]
   have h3:=ZnD bs.out da.out cg.out R;unfold grP;rw [aA d8.out,cz.out];simp only;rw [zM,h3]
  obtain ⟨C,a9,aw,b6⟩:=E.ex;have gp:¬ False:=fun f=>f;have gq:=a4 _ V1 (eA (fun _=>False) V1) gp;have q0:V1.cell? ⟨b1,0,none⟩=some (.pointer (some ⟨rd,0,none⟩)):=E.box.cell 0;have q1:V1.cell? ⟨rd,2,none⟩=some (.map (some mR)):=E.gs.dec.blk.cell 2;clear ad O a1 ag bc aa e4 a4 bg H a7 gp hid
  gi_upto_region 18 with fail
  have gu:=jA V1 124 #[.bool lv,.int .i64 sr,.int .i64 ds,.int .i64 p1,.int .i64 p2,.int .i64 p3,.int .i64 p4,.int .i64 ty,.int .i64 pr];have a3:=(eA (fun _=>False) V1).alloc (.cells #[.bool lv,.int .i64 sr,.int .i64 ds,.int .i64 p1,.int .i64 p2,.int .i64 p3,.int .i64 p4,.int .i64 ty,.int .i64 pr] 124);generalize V1.alloc (.cells #[.bool lv,.int .i64 sr,.int .i64 ds,.int .i64 p1,.int .i64 p2,.int .i64 p3,.int .i64 p4,.int .i64 ty,.int .i64 pr] 124)=w6 at *;generalize V1.heap.size=bA at *;have T:=qH (E.same a3);have io:=qH a3;have ip:=qH gu;have cc:=qH (a9.same a3);have iq:=qH (aw.same a3);have bo:=(aw.same a3).rels.row;have gv:C.rs.length=C.nR:=aw.rels.rd.len;rw [gv] at bo;have ir:=qH bo;have ci:C.ns.map ND.dat=ns/\C.rs.map RL.dat=rs:=by
   unfold GR.dat at b6;injection b6 with o R
   exact ⟨o,R⟩
  have gw:=qH ci;have ii:C.nR<=65536:=by have o:=tB List.length ci.2;rw [nA,BO cg.out] at o;have R:=tB List.length bs.out;have h3:=(IA.1 da.out).1;have h4:=zJ s.rels.recs 0;rw [d5.out] at h3 h4;rw [nA] at h4;have h5:=H0.out.st.fr.len;omega
  have fl:∀ S,Upd (fun b=>(b=mM\/b=mB)\/(Value.slice C.AR C.nR C.cR).ownBlock=some b) w6 S->ZwZ b1 rd p q.tt X bA (.slice C.AR C.nR C.cR) sr ds ty pr S:=fun S h=>by
   have hc:∀ {g:Nat} {t:TypeId} {cs:Array Value},60≠t->Blk w6 g t cs->Blk S g t cs:=fun hn hb=>hb.upd h fun e=>by
    rcases e with (e | e) | e
    · exact T.out.gs.met.ne hb e.symm
    · exact T.out.gs.blob.ne hb e.symm
    exact hb.ne_own bo hn e
   have o:=hc (by decide) ip.out;exact ⟨(hc (by decide) T.out.box).cell 0,(hc (by decide) T.out.gs.dec.blk).cell 0,(hc (by decide) T.out.gs.stm.blk).cell 1,(hc (by decide) cc.out).cell 1,o.cell 1,o.cell 2,o.cell 7,o.cell 8⟩
  have bw:=qH fl;have dd:Same w6 w6.drew:=(eA _ w6).drew;obtain ⟨f,m,j4,v,nv,lt,dp⟩:=(T.out.gs.stm.same dd).tt;have bm:=qH (sM dp ty);unfold iK at bm;simp only [dx.out,aA e5] at bm;have bt:=qH (ZnC w0 w6.drew (T.out.gs.same dd).rds pr (by omega));unfold LstR at bt;have a2:=fl _ (iE dd);clear fl dp gu a3 a9 aw b6 bo gv ci E e5 q0 q1 gq V;refine dG 27 (fun S=>ZwZ b1 rd p q.tt X bA (.slice C.AR C.nR C.cR) sr ds ty pr S) (by kernel_rfl) (by kernel_rfl) (cG fun _ _ h=>h) a2 (fun j=>?_);refine tC ?_;refine CD 12 rfl (fun K z=>?_);go_simp;refine bm.out.mono ?_;rintro e wn ⟨rfl,rfl⟩;refine z.out _ _ a2 (fun j=>?_);clear z K bm;refine tC ?_;refine CD 22 rfl (fun K z=>?_);go_simp;refine bt.out.mono ?_;rintro e w7 ⟨bd,hX⟩;have ay:Upd (fun b=>b=mM\/b=mB) w6 w7:=(iE dd).trans bd fun _ _ e=>e;have bx:Upd (fun b=>b=mM\/b=mB) V1 w7:=(iE io.out).trans ay fun _ _ e=>e;clear bt;rcases Y:MB s 16 [] (-1) pr fz g0 with M | ⟨l,av,a8⟩
  · rw [Y] at hX;simp only at hX;subst hX;exact ⟨rfl,ZD bx fun k e hk=>by have:=b8.out;have:=b2.out;have:=P.out;rcases e with e | e <;> omega,M,rfl,bj.out M Y,ax.out.up.trans bx fun _ _ e=>e,ax.out.marks ej.out bx⟩
  rw [Y] at hX;obtain ⟨aq,ar,A7,c7,ps,rfl,au,az⟩:=hX;have e0:=qH Y;have dz:=qH az;have iu:=qH au;have ac:=qH (T.out.list ay aq ar);have gx:=qH ay;have ek:=qH bx;have bk:=qH (T.out.cell ay cc.out);have gy:Hid (OwnG w7 w.heap.size C):=qH (iq.out.cells ay fun b e t cs hb=>by
   rcases e with e | e
   · exact T.out.gs.met.ne hb e.symm
   exact T.out.gs.blob.ne hb e.symm)
  have el:=qH (T.out.own ay ir.out);refine z.out _ _ (bw.out _ (ay.mono fun _ _ e=>.inl e)) (fun j=>?_);clear z K bj bd ay bx aq ar au az Y dd a2;refine tC ?_;refine CD 24 rfl (fun K z=>?_);go_simp;have bz:Same w7 (w7.alloc (.cells (RL.cells ⟨(x.id:Int),nm,sr,ds,ps,A7,l.length,c7⟩).toArray 60)):=(eA (fun _=>False) w7).alloc _;have fm:Upd (fun b=>(b=mM\/b=mB)\/(Value.slice C.AR C.nR C.cR).ownBlock=some b) w6 (w7.alloc (.cells (RL.cells ⟨(x.id:Int),nm,sr,ds,ps,A7,l.length,c7⟩).toArray 60)):=(gx.out.mono fun _ _ e=>.inl e).same bz;refine z.out _ _ (bw.out _ fm) (fun j=>?_);clear z K;refine CD 25 rfl (fun K z=>?_);refine IK rfl (.tmp 126) (.tmp 149) _ _ rfl w.heap.size 60 5 64 _ sN pW rfl (.slice C.AR C.nR C.cR) C.nR (C.rs.flatMap RL.cells) rfl (mA el.out bz) rfl (GD sN (Row.rl w7 ⟨(x.id:Int),nm,sr,ds,ps,A7,l.length,c7⟩) (RL.one _)) (by unfold maxLen;omega) (by omega) (tA ac.out.up.size bz.size) ?_;intro v9 w9 bi;obtain ⟨A9,c9,rfl⟩:=WA bi.own;refine z.out _ _ (bw.out _ (fm.trans bi.upd fun _ _ e=>.inr e)) (fun j=>?_);clear z K;refine tC ?_;have bh:=(bk.out.same bz).upd bi.upd fun e=>(bk.out.same bz).ne_own (mA el.out bz) (by decide) e;have bu:w9.cell? ⟨X,1,none⟩=some (.slice C.AR C.nR C.cR):=bh.cell 1;have fi:w9.frozen? ⟨X,1,none⟩=false:=bh.frozen 1;have hx:yF (w7.alloc (.cells (RL.cells ⟨(x.id:Int),nm,sr,ds,ps,A7,l.length,c7⟩).toArray 60)) w.heap.size ⟨(x.id:Int),nm,sr,ds,ps,A7,l.length,c7⟩:=by refine ⟨(iu.out.same bz).base (tA T.out.up.size (lA _)),?_⟩;exact ⟨⟨by simp only;omega,by simp only;omega⟩,⟨by simp only;omega,by simp only;omega⟩,⟨by simp only;omega,by simp only;omega⟩⟩
  obtain ⟨A',c',he,hO,fy,_,hU⟩:=Ztj (i:=1) gy.out bk.out (by decide) (by decide) (by decide) (by decide) (by decide) bz hx bi;cases he;refine bD rfl (fun K z=>?_);go_simp;refine z.out _ _ ?_;clear z K j bu fi bh fm;gi_wp2;refine ⟨(ax.out.mv ek.out (by have:=b8.out;have:=b2.out;have:=P.out;omega) (by have:=b8.out;have:=b2.out;have:=P.out;omega)).trans (gL hU fun b hb=>.inr ?_),⟨rs++[⟨(x.id:Int),nm,sr,ds,l⟩],av,a8,ZkP cg.out ?_,ac.out.grow hU bk.out (by have:=HZ.out;omega) (by have:=b8.out;have:=P.out;omega) (by decide) ⟨⟨C.ns,C.AN,C.nN,C.cN,C.rs++[⟨(x.id:Int),nm,sr,ds,ps,A7,l.length,c7⟩],A9,C.nR+1,c9⟩,fy,hO,?_⟩⟩,(ax.out.marks ej.out ek.out).upd hU fun D' L hD h=>?_⟩
  · rcases hb with rfl | ⟨hb,_⟩
    · exact ⟨_,by unfold DcU;decide,_,bk.out⟩
    exact ⟨_,by unfold DcU;decide,hb⟩
  · unfold relU;simp only [go.out,e0.out,dx.out]
  · unfold GR.dat;simp only [DB,gw.1,gw.2,CB,TG,RL.dat,dz.out]
  rcases L with rfl | ⟨⟨cs,L⟩,_⟩
  · have o:=bk.out;unfold Blk at o;rw [o] at h;cases h
  unfold Blk at L;rw [L] at h;cases h
 intro D3 V1 hD ⟨⟨rs,av,a8,H,E⟩,ad⟩ dq;rw [<- d5.out] at H;have de:=qH H;have ax:=qH E;have df:=qH (ad.cons (by have:=b2.out;omega) (by have:=b2.out;omega) dq);have iv:Hid (w3.heap.size<=D3/\D3<V1.heap.size):=qH ⟨by have:=b2.out;omega,(sC.1 dq).1⟩;obtain ⟨lv,g1⟩:∃ lv,s.props.live=lv:=⟨_,rfl⟩
 have gz:=qH g1;have fo:=qH (WS V1.drew (E.gs.stm.same (eA (fun _=>False) V1).drew).fp);rw [<- Ztn 6 1 20,E.gs.st.ep,g1] at fo;have d3:Same V1 V1.drew:=(eA _ V1).drew;have h0:Hid (∀ S,Same V1 S->Zxa b1 rd p q.fp mM av.length S):=qH fun S h=>by obtain ⟨⟨f,o,_⟩,_⟩:=E.gs.met.same h;exact ⟨(E.box.same h).cell 0,(E.gs.dec.blk.same h).cell 0,(E.gs.dec.blk.same h).cell 5,(E.gs.stm.blk.same h).cell 5,fun ty=>o.len vE ty⟩
 have a2:=h0.out _ d3;obtain ⟨nm,a7⟩:∃ nm,av.length=nm:=⟨_,rfl⟩
 have h6:=qH a7;rw [a7] at a2;clear H E ad dq hD V g1 a7 h0 gn bl;refine BM ?_
 repeat refine PH ?_
 refine eH ?_;refine Zwe ?_;refine eE 14 (fun S=>Zxa b1 rd p q.fp mM nm S) (by kernel_rfl) a2 (fun j=>?_);refine tC ?_;refine CD 12 rfl (fun K z=>?_);go_simp;refine fo.out.mono ?_;rintro e wn ⟨rfl,rfl⟩;refine z.out _ _ a2 (fun j=>?_);clear z K fo;refine tC ?_;by_cases hn:nm=lv
 case neg =>
  have fg:((nm:Int)==(lv:Int))=false:=WC.2 (by omega);have HX:Hid (grP s=.error 142):=qH (by unfold grP;rw [aA d8.out,cz.out];simp only;rw [zM,de.out];simp only;rw [gA (by rw [h6.out,gz.out];exact hn)])
  clear hn;refine bD rfl (fun K z=>?_);go_simp;refine (gD V1.drew 142).mono ?_;rintro e wn ⟨rfl,rfl⟩;refine fun t=>yJ (df.out.same d3).marks fun W' U=>?_;exact cv.out 142 W' HX.out ((ax.out.up.same d3).trans U fun b hb L=>by have:=L.1;have:=P.out;omega)
 have fg:((nm:Int)==(lv:Int))=true:=jE.2 (by omega);refine bD rfl (fun K z=>?_);go_simp;refine (lD V1.drew 142).mono ?_;rintro e wn ⟨rfl,rfl⟩;refine z.out _ _ ?_;clear z K j a2;refine Ztm ?_;have bp:=ax.out.same d3;have ad:=df.out.same d3;have fj:V1.drew.heap.size=V1.heap.size:=rfl;generalize V1.drew=V2 at *;have em:=qH bp;have h7:=qH ad;have iw:=qH fj;have eo:Hid (¬ av.length≠s.props.live):=qH (fun h=>h (by rw [h6.out,gz.out];exact hn));have q0:V2.cell? ⟨b1,0,none⟩=some (.pointer (some ⟨rd,0,none⟩)):=bp.box.cell 0;have q1:V2.cell? ⟨rd,0,none⟩=some (.pointer (some ⟨p,0,none⟩)):=bp.gs.dec.blk.cell 0;have q2:V2.cell? ⟨p,6,none⟩=some (.pointer (some ⟨q.fb,0,none⟩)):=bp.gs.stm.blk.cell 6;clear bp ad fj hn fg d3 ax df
 repeat refine PH ?_
 refine eH ?_;go_wp2_with fail;refine (DI V2 q.fb).mono ?_;rintro e w7 ⟨rfl,rfl⟩;have fq:=jA V2 67 #[.pointer (some ⟨q.fb,0,none⟩)];have e1:=(eA (fun _=>False) V2).alloc (.cells #[.pointer (some ⟨q.fb,0,none⟩)] 67);generalize V2.alloc (.cells #[.pointer (some ⟨q.fb,0,none⟩)] 67)=w7 at *;obtain ⟨b7,f5⟩:∃ b7,V2.heap.size=b7:=⟨_,rfl⟩
 rw [f5] at fq ⊢;have ix:=qH e1;have iy:=qH fq;have ac:=qH (em.out.same e1);have d4:Hid (w.heap.size<=w7.heap.size/\D3<w7.heap.size/\w3.heap.size<=D3):=qH (by have o:=e1.size;have R:=iv.out;have h3:=em.out.up.size;have h4:=iw.out;omega);clear fq e1 f5 q0 q1 q2;go_wp2_with fail;refine jL ?_;have V:=ac.out.gs.stm.fb;refine iL (f:=q.fb) (fB:=b7) V iy.out rfl rfl
  (fun a5 W'=>Same w7 W'/\(∀ y∈a5,¬ (JB y.2=1/\y.1 ∉ a8))/\TC w3.heap.size (D3+1) W' [{ target:=.collected D3,args:=#[] },{ target:=.collected D2,args:=#[] },{ target:=.collected D,args:=#[] }])
  (fun M=>grP s=.error M) (fun W'=>Same w7 W'/\TC w3.heap.size (D3+1) W' [{ target:=.collected D3,args:=#[] },{ target:=.collected D2,args:=#[] },{ target:=.collected D,args:=#[] }])
  ⟨eA _ _,(fun _ h=>by cases h),h7.out.same ix.out⟩
  (fun a5 X1 X2 ⟨o,R,h5⟩ U=>⟨o.trans U fun b hb L=>by have:=L.1;omega,R,h5.upd U fun D' L hD=>by have:=L.1;have:=d4.out;omega⟩)
  (fun X1 X2 ⟨o,R⟩ U=>⟨o.trans U fun b hb L=>by have:=L.1;omega,R.upd U fun D' L hD=>by have:=L.1;have:=d4.out;omega⟩) ?F4 ?assign4 ?body4 ?done4 ?panic4
 case assign4 =>
  intro lp x X1 K z;dsimp only [RE.args];gi_wp2;exact z
 case panic4 =>
  intro D4 M X1 hD cl ⟨cm,dj⟩ e6;refine yJ (dj.cons (by have:=d4.out;omega) (by have:=d4.out;omega) e6).marks fun W' U=>?_;exact cv.out M W' cl ((ac.out.up.same cm).trans U fun b hb L=>by have:=L.1;have:=P.out;omega)
 case body4 =>
  intro lp a5 x X1 ⟨a0,af,dr⟩ O a1 hid bc ag;rw [<- f6.out] at O a1;have aa:=OC a1;have h8:x.id<s.blobs.recs.length:=by rw [f6.out,nA];exact hid
  have bq:=qH a0;have dw:=qH af;have fs:=qH dr;have ft:x.n=31:=by have o:=ag.len;omega
  obtain ⟨bb,oo,hA,_,_,dn⟩:=ag.at_ (i:=0) (by omega);obtain ⟨d0,g2⟩:∃ d0,JB x.data=d0:=⟨_,rfl⟩
  have h9:(x.data[0]'(by omega)).toNat=d0:=by rw [<- g2];unfold JB;rw [List.headD_eq_head?_getD,List.head?_eq_getElem?,FA (by omega)];rfl
  rw [h9,IF] at dn;have ha:=qH g2;have iz:=qH aa;have ja:=qH hA;have dg:=ac.out.gs.blob.same a0;have q0:X1.cell? ⟨b1,0,none⟩=some (.pointer (some ⟨rd,0,none⟩)):=(ac.out.box.same a0).cell 0;have q1:X1.cell? ⟨rd,6,none⟩=some (.map (some mB)):=(ac.out.gs.dec.blk.same a0).cell 6;have hf:Hid (d0=1->x.id ∉ a8->grP s=.error 142):=qH fun o R=>by unfold grP;rw [aA d8.out,cz.out];simp only;rw [zM,de.out];simp only;rw [aA eo.out,gA];rw [iG];have h3:=kL.1 iz.out;simp only at h3;refine ⟨x.id,YK.2 ⟨EI.2 ⟨_,h3⟩,?_⟩,by simpa using R⟩;unfold isS;rw [h3];simp only;rw [ha.out,o];rfl
  clear a0 af dr O a1 ag bc hid V aa g2 h9;by_cases o:d0=1
  · subst o;by_cases hm:x.id∈a8
    · have a4:=(dg.twice hm).1 X1 (eA _ X1);have HM:=qH hm;clear hm dg;rw [hA,ft];gi_wp2_with fail;have c3:¬ (JB (x.id,x.data).2=1/\(x.id,x.data).1 ∉ a8):=fun h=>h.2 HM.out;have c3:=qH c3;refine ⟨trivial,?_⟩;gi_at_call 66;refine (CallsIn.inRound lp (ZB.2 (lD X1 142))).mono ?_;rintro e X2 ⟨rfl,rfl⟩;gi_wp2;refine ⟨AM (eA _ X1),bq.out,fun y hy=>?_,fs.out⟩;rcases YB.1 hy with hy | hy
      · exact dw.out y hy
      rw [QB.1 hy];exact c3.out
    have a4:=(dg.inc h8 hm).1 X1 (eA _ X1);have HX:=qH (hf.out (by first | rfl | trivial) hm);clear hm dg;rw [hA,ft];gi_wp2_with fail;refine ⟨trivial,?_⟩;gi_at_call 66;refine (CallsIn.inRound lp (ZB.2 (gD X1 142))).mono ?_;rintro e X2 ⟨rfl,rfl⟩;exact ⟨rfl,ZD (eA (fun _=>False) X1) fun _ f=>f.elim,142,rfl,HX.out,bq.out,fs.out⟩
  have jb:((d0:Int) != 1)=true:=qC.2 (by omega);have c3:Hid (¬ (JB (x.id,x.data).2=1/\(x.id,x.data).1 ∉ a8)):=qH (fun h=>o (by rw [<- ha.out];exact h.1));clear o dg;rw [hA,ft];gi_wp2_with fail;refine ⟨trivial,?_⟩;gi_at_call 66;refine (CallsIn.inRound lp (ZB.2 (lD X1 142))).mono ?_;rintro e X2 ⟨rfl,rfl⟩;gi_wp2;refine ⟨AM (eA _ X1),bq.out,fun y hy=>?_,fs.out⟩;rcases YB.1 hy with hy | hy
  · exact dw.out y hy
  rw [QB.1 hy];exact c3.out
 intro D4 X1 hD ⟨a0,af,dr⟩ e6;rw [<- f6.out] at af;have hh:=qH (dr.cons (by have:=d4.out;omega) (by have:=d4.out;omega) e6);have bp:=ac.out.same a0;have c4:Hid (grP s=if (chkP (tE ⟨ns,rs⟩)).1≠0 then .error (chkP (tE ⟨ns,rs⟩)).1 else .ok (tE ⟨ns,rs⟩)):=qH (by unfold grP;rw [aA d8.out,cz.out];simp only;rw [zM,de.out];simp only;rw [aA eo.out,aA];intro h;obtain ⟨i,hi,j5⟩:=iG.1 h;obtain ⟨o,R⟩:=YK.1 hi;obtain ⟨d,hd⟩:=EI.1 o;unfold isS at R;rw [hd] at R;simp only [jE] at R;exact af (i,d) (kL.2 hd) ⟨R,by simpa using j5⟩)
 have fu:OkG ⟨ns,rs⟩:=by
  have o:=cz.out;rw [yM] at o;obtain ⟨_,_,_,_,_,_,k1⟩:=H0.out.st.tk;obtain ⟨_,_,_,_,_,_,k2⟩:=H0.out.st.tl;obtain ⟨_,_,_,_,_,_,k3⟩:=H0.out.st.tt;refine Zwc k1.texts k2.texts k3.texts o de.out ?_ ?_
  · have h4:=zJ s.nodes.recs 0;have h5:=H0.out.st.fn.len;rw [cw.out] at h4 ⊢;rw [nA] at h4;omega
  have h4:=zJ s.rels.recs 0;have h5:=H0.out.st.fr.len;rw [d5.out] at h4 ⊢;rw [nA] at h4;omega
 have fv:XA (fun a b:Int=>a<b) NA.id ns/\XA (fun a b:Int=>a<b) GRel.id rs:=by have o:=cz.out;rw [yM] at o;exact Zwd o de.out
 obtain ⟨C,a9,aw,b6⟩:=bp.ex;have cr:=fu;rw [<- b6] at cr;have eq:=UpG.of aw cr (by rw [b6];exact fv.1) (by rw [b6];exact fv.2);have ct:=qH (ZoD X1 C aw.rd (cr.sized aw) eq);unfold GR.agg at ct;have cc:=qH a9;have hj:=qH bp.up;have hl:=qH fu.canon;have q0:X1.cell? ⟨X,0,none⟩=some (.slice C.AN C.nN C.cN):=a9.cell 0;have q1:X1.cell? ⟨X,1,none⟩=some (.slice C.AR C.nR C.cR):=a9.cell 1;rw [b6] at ct;clear a0 af dr e6 bp fu fv eq a9 aw b6 cr V;refine BM ?_;refine eH ?_;go_wp2_with fail;refine ct.out.mono ?_;rintro e X2 ⟨⟨e7,ah,ai,aj,e8,ak,al,am⟩,rfl,hz,i0,_,g3⟩;simp only;have ae:=cc.out.same g3;have r0:X2.cell? ⟨X,0,none⟩=some (.slice C.AN C.nN C.cN):=ae.cell 0;have r1:X2.cell? ⟨X,1,none⟩=some (.slice C.AR C.nR C.cR):=ae.cell 1;have z0:X2.frozen? ⟨X,0,none⟩=false:=ae.frozen 0;have z1:X2.frozen? ⟨X,1,none⟩=false:=ae.frozen 1;have fw:=qH hz.out;have ho:=qH i0.out;have es:=qH g3;clear hz i0 g3 q0 q1 ct;go_upto_region 25 with fail;obtain ⟨X3,ea⟩:∃ X3,((X2.setCell ⟨X,0,none⟩ (.slice ah ai aj)).setCell ⟨X,1,none⟩ (.slice ak al am))=X3:=⟨_,rfl⟩
 rw [ea];have a6:Upd (fun b=>b=X) X2 X3:=by rw [<- ea];exact ((eA (fun b=>b=X) X2).put1 _).put1 _
 have cd:Blk X3 X 26 #[.slice ah ai aj,.slice ak al am]:=by rw [<- ea];exact (ae.put 0 (.slice ah ai aj)).put 1 (.slice ak al am)
 have hT:∀ g,g<X2.heap.size->g=X->OfT X2 26 g:=fun g _ e=>e ▸ ⟨_,ae⟩;have e2:OwnG X3 w.heap.size ⟨e7,ah,ai,aj,e8,ak,al,am⟩:=OwnG.base ⟨ho.out.nodes.type a6 hT (by decide) (by decide) (by decide) (by decide),ho.out.rels.type a6 hT (by decide) (by decide) (by decide) (by decide)⟩ hj.out.size;have et:Upd (fun b=>b=mM\/b=mB) w X3:=(hj.out.same es.out).trans a6 fun b hb e=>by have:=HZ.out;have:=P.out;omega
 have eu:TC w3.heap.size (D4+1) X3 [{ target:=.collected D4,args:=#[] },{ target:=.collected D3,args:=#[] },{ target:=.collected D2,args:=#[] },{ target:=.collected D,args:=#[] }]:=(hh.out.same es.out).upd a6 fun D' e _ h=>by unfold Blk at ae;rw [e,ae] at h;cases h
 obtain ⟨ck,g4⟩:∃ ck,chkP (tE ⟨ns,rs⟩)=ck:=⟨_,rfl⟩
 have cu:=qH (YT X3 ⟨e7,ah,ai,aj,e8,ak,al,am⟩ e2.rd ((by rw [fw.out];exact hl.out:OkG _).sized e2) (e:=ck.1) (at_:=ck.2) (by rw [fw.out,g4]));unfold GR.agg at cu;simp only at cu;rw [g4] at c4;have hp:=qH cd;have j0:=qH e2;have ev:=qH et;have ew:=qH eu;have r0:X3.cell? ⟨X,0,none⟩=some (.slice ah ai aj):=cd.cell 0;have r1:X3.cell? ⟨X,1,none⟩=some (.slice ak al am):=cd.cell 1;generalize ck.1=ce at *;generalize ck.2=ca at *;clear ea a6 cd hT e2 et eu g4 ae z0 z1;go_wp2_with fail;refine cu.out.mono ?_;rintro e X4 ⟨rfl,b0⟩;have c6:=qH b0;have bf:=hp.out.same b0;have r0:X4.cell? ⟨X,0,none⟩=some (.slice ah ai aj):=bf.cell 0;have r1:X4.cell? ⟨X,1,none⟩=some (.slice ak al am):=bf.cell 1;have z0:X4.frozen? ⟨X,0,none⟩=false:=bf.frozen 0;have z1:X4.frozen? ⟨X,1,none⟩=false:=bf.frozen 1;have dh:=qH bf;clear b0 bf cu;by_cases di:ce=0
 case neg =>
  have HX:=qH (c4.out.trans (gA di));have j1:=qH di;clear di c4;go_wp2_with fail;refine (UH X4 j1.out).mono ?_;rintro e X5 ⟨rfl,rfl⟩;refine yJ (ew.out.same c6.out).marks fun W' U=>?_;exact cv.out ce W' HX.out ((ev.out.same c6.out).trans U fun b hb L=>by have:=L.1;have:=P.out;omega)
 have HX:=qH (c4.out.trans (aA (fun h=>h di)));subst di;clear c4;go_wp2_with fail;refine (zF X4).mono ?_;rintro e X5 ⟨rfl,rfl⟩;go_wp2_with fail;have a6:Upd (fun b=>b=X) X4 ((X4.setCell ⟨X,0,none⟩ (.slice ah ai aj)).setCell ⟨X,1,none⟩ (.slice ak al am)):=((eA (fun b=>b=X) X4).put1 _).put1 _;have d1:Blk ((X4.setCell ⟨X,0,none⟩ (.slice ah ai aj)).setCell ⟨X,1,none⟩ (.slice ak al am)) X 26 #[.slice ah ai aj,.slice ak al am]:=(dh.out.put 0 (.slice ah ai aj)).put 1 (.slice ak al am);generalize (X4.setCell ⟨X,0,none⟩ (.slice ah ai aj)).setCell ⟨X,1,none⟩ (.slice ak al am)=X5 at *;have hT:∀ g,g<X4.heap.size->g=X->OfT X4 26 g:=fun g _ e=>e ▸ ⟨_,dh.out⟩;have hq:=j0.out.same c6.out;have j2:OwnG X5 w.heap.size ⟨e7,ah,ai,aj,e8,ak,al,am⟩:=⟨hq.nodes.type a6 hT (by decide) (by decide) (by decide) (by decide),hq.rels.type a6 hT (by decide) (by decide) (by decide) (by decide)⟩
 have hr:=(ew.out.same c6.out).upd a6 fun D' e _ h=>by have o:=dh.out;unfold Blk at o;rw [e,o] at h;cases h
 have ht:∀ b,(w3.heap.size<=b/\X5.heap[b]?=some (.deferred (some [])))->∀ (t:TypeId) (cs:Array Value),Blk X5 b t cs->False:=fun b h t cs hb=>by unfold Blk at hb;rw [hb] at h;cases h.2
 refine Ztr hr.marks fun W' U=>?_;refine Zxc rfl (d1.upd U fun h=>ht _ h _ _ d1) ?_;exact g5.out _ W' ⟨e7,ah,ai,aj,e8,ak,al,am⟩ HX.out (((ev.out.same c6.out).trans a6 fun b hb e=>by have:=HZ.out;have:=P.out;omega).trans U fun b hb L=>by have:=L.1;have:=P.out;omega) (by have o:=j2.cells U ht;rw [P.2];exact o) fw.out
end Go.Proofs.YtmkjfhnlnhceiaaGreatDoor
