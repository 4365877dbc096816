/- Texts that the claim leans on: walks and plain laws, function by function. -/
import Derived.Test.YtmkjfhnlnhceiaaGreatDoorN46
set_option maxRecDepth 100000
set_option maxHeartbeats 16000000
namespace Go.Proofs.YtmkjfhnlnhceiaaGreatDoor
open Go.RowKit
attribute [local go_sem] Ybq
def GrR (s:St1) (w:World) (mM mB:Nat) (e:Ending) (w':World):Prop:=Upd (fun b=>b=mM\/b=mB) w w'/\match grP s with
 | .error er=>e=Zcn er
 | .ok G=>∃ g:GR,e=.returned g.agg/\OwnG w' w.heap.size g/\g.dat=G
theorem Zsx (w:World) (a b c:Value):(Instr.field 115 (.agg #[a,b,c]) 0).run Tryz.prog w=.ok a w:=by kernel_rfl
theorem Zsy (w:World) (a b c:Value):(Instr.field 115 (.agg #[a,b,c]) 1).run Tryz.prog w=.ok b w:=by kernel_rfl
theorem Zsz (w:World) (a b c:Value):(Instr.field 115 (.agg #[a,b,c]) 2).run Tryz.prog w=.ok c w:=by kernel_rfl
abbrev ZvN (b1 rd mN id:Nat) (v:Value) (wx:World):Prop:=wx.cell? ⟨b1,0,none⟩=some (.pointer (some ⟨rd,0,none⟩))/\wx.cell? ⟨rd,1,none⟩=some (.map (some mN))/\(Instr.lookup 80 (.map (some mN)) (.int .i64 (id:Int)) false).run Tryz.prog wx=.ok v wx
abbrev ZvO (b1 rd p tl bn:Nat) (AL:Option Addr) (k cL:Nat) (wx:World):Prop:=wx.cell? ⟨b1,0,none⟩=some (.pointer (some ⟨rd,0,none⟩))/\wx.cell? ⟨rd,0,none⟩=some (.pointer (some ⟨p,0,none⟩))/\wx.cell? ⟨p,0,none⟩=some (.pointer (some ⟨tl,0,none⟩))/\wx.cell? ⟨bn,1,none⟩=some (.slice AL k cL)
abbrev ZvP (b1 rd p tt gB bA:Nat) (vr:Value) (sr ds ty pr:Int) (wx:World):Prop:=wx.cell? ⟨b1,0,none⟩=some (.pointer (some ⟨rd,0,none⟩))/\wx.cell? ⟨rd,0,none⟩=some (.pointer (some ⟨p,0,none⟩))/\wx.cell? ⟨p,1,none⟩=some (.pointer (some ⟨tt,0,none⟩))/\wx.cell? ⟨gB,1,none⟩=some vr/\wx.cell? ⟨bA,1,none⟩=some (.int .i64 sr)/\wx.cell? ⟨bA,2,none⟩=some (.int .i64 ds)/\wx.cell? ⟨bA,7,none⟩=some (.int .i64 ty)/\wx.cell? ⟨bA,8,none⟩=some (.int .i64 pr)
abbrev ZvQ (b1 rd p fp mM n:Nat) (wx:World):Prop:=wx.cell? ⟨b1,0,none⟩=some (.pointer (some ⟨rd,0,none⟩))/\wx.cell? ⟨rd,0,none⟩=some (.pointer (some ⟨p,0,none⟩))/\wx.cell? ⟨rd,5,none⟩=some (.map (some mM))/\wx.cell? ⟨p,5,none⟩=some (.pointer (some ⟨fp,0,none⟩))/\∀ ty,(Builtin.len_ #[71] ty #[.map (some mM)]).run Tryz.prog wx=.ok (.int .i64 (n:Int)) wx
abbrev ZvR (b1 rd mN:Nat) (A:Option Addr) (N c id:Nat) (v:Value) (wx:World):Prop :=
 wx.cell? ⟨b1,0,none⟩=some (.pointer (some ⟨rd,0,none⟩))/\wx.cell? ⟨rd,1,none⟩=some (.map (some mN))/\wx.cell? ⟨rd,4,none⟩=some (.slice A N c)/\(Instr.lookup 80 (.map (some mN)) (.int .i64 (id:Int)) false).run Tryz.prog wx=.ok v wx
theorem ZvS {tmps:Array Value} {W:World} {B:Nat} {u0 u1:Value} {R:Ending->World->Prop} (h2:tmps.getD 2 undef=.pointer (some ⟨B,0,none⟩)) (hb:Blk W B 26 #[u0,u1]) (hR:R (.returned (.agg #[u0,u1])) W) :
 LeavesIn Fence.wide 0 Tryz.prog Tryz.f33 tmps R [] .returning W:=by
 have a:=hb.c0;have b:=hb.c1;refine ⟨.agg #[u0,u1],?_,hR⟩;simp only [YbZ] at h2;simp [results,Tryz.results33,go_sem,h2,a,b]
theorem ZsA {P:Program} {fn:Func} {R:Ending->World->Prop} {B:Nat} {W:World} {a:Act} (hm:ZjL B W a.defers)
 (h:∀ W':World,Upd (fun k=>B<=k/\W.heap[k]?=some (.deferred (some []))) W W'->LeavesIn Fence.wide 0 P fn a.tmps R [] .returning W'):bodyPostM Fence.wide 0 P fn R .ret a W:=ZhX hm h
theorem Zot (w0 w:World) {B p rd mN mR mP mM mB:Nat} {q:StP} {s:St1} {A:Option Addr} {c:Nat} (h:GrS w0 w B p rd mN mR mP mM mB q s A c [] []) :
 Calls Tryz.prog 33 #[.pointer (some ⟨rd,0,none⟩)] w (GrR s w mM mB):=by
 obtain ⟨OR,e5⟩:∃ OR,GrR s w mM mB=OR:=⟨_,rfl⟩
 have cx:Hid (∀ M W,grP s=.error M->Upd (fun b=>b=mM\/b=mB) w W->OR (Zcn M) W):=qH fun M W o R=>by rw [<- e5];unfold GrR;rw [o];exact ⟨R,rfl⟩
 have g7:Hid (∀ G W (g:GR),grP s=.ok G->Upd (fun b=>b=mM\/b=mB) w W->OwnG W w.heap.size g->g.dat=G->OR (.returned g.agg) W):=qH fun G W g o R h3 h4=>by rw [<- e5];unfold GrR;rw [o];exact ⟨R,g,rfl,h3,h4⟩
 rw [e5];clear e5;have H0:=qH h;have cy:Hid (s.nodes.recs=q.ln.map BS.rc):=qH (by rw [<- h.st.en];rfl);have d7:Hid (s.rels.recs=q.lr.map BS.rc):=qH (by rw [<- h.st.er];rfl);have f8:Hid (s.blobs.recs=q.lb.map BS.rc):=qH (by rw [<- h.st.eb];rfl);obtain ⟨N,hN⟩:∃ N,s.rels.recs.length=N:=⟨_,rfl⟩
 have fa:=qH hN;have g8:N<=65536:=by have o:=h.st.fr.len;rw [<- hN,d7.out,Yag];exact o
 have b6:Hid (mN<w.heap.size/\mR<w.heap.size/\mP<w.heap.size/\mM<w.heap.size/\mB<w.heap.size/\w0.heap.size<=w.heap.size):=qH (by obtain ⟨⟨f,o,_⟩,_⟩:=h.met;obtain ⟨⟨f',R,_⟩,_⟩:=h.blob;exact ⟨h.dec.node.lt,h.dec.rel.lt,h.dec.prop.lt,o.lt,R.lt,h.sm.size⟩)
 have j9:=qH h.dec.blk.lt;clear h hN;refine ZfJ Tryz.func33 rfl ?_;simp only [Tryz.ntmps33,YbV,Yao,YaS,Nat.reduceAdd,Nat.reduceSub,Yda,Ydb,Ydc,Ydd,YaK,YaE];refine Zdg ?_;refine Zes ?_;go_wp2_with fail;have g9:=Yad w 77 #[.pointer (some ⟨rd,0,none⟩)];have ga:=(Yaa (fun _=>False) w).alloc (.cells #[.pointer (some ⟨rd,0,none⟩)] 77);have fc:(w.alloc (.cells #[.pointer (some ⟨rd,0,none⟩)] 77)).heap.size=w.heap.size+1:=Yav _ _;generalize w.alloc (.cells #[.pointer (some ⟨rd,0,none⟩)] 77)=w1 at *;have gb:=Yad w1 26 #[.slice none 0 0,.slice none 0 0];have fd:=(Yaa (fun _=>False) w1).alloc (.cells #[.slice none 0 0,.slice none 0 0] 26);have i3:(w1.alloc (.cells #[.slice none 0 0,.slice none 0 0] 26)).heap.size=w1.heap.size+1:=Yav _ _;rw [<- fc];generalize w1.alloc (.cells #[.slice none 0 0,.slice none 0 0] 26)=w2 at *;generalize j5:w1.heap.size=gB at *;generalize f3:w.heap.size=b1 at *;have HZ:Hid (b1=w.heap.size/\gB=b1+1/\w2.heap.size=b1+2):=qH ⟨f3.symm,fc,qO⟩;have fe:=qH (ga.trans fd fun _ _ f=>f);have ff:=qH (g9.same fd);have cf:=qH gb;clear ga fd g9 gb fc i3 j5 f3;have fg:=H0.same fe.out;have q0:=ff.c0;have q1:=fg.dec.blk.c0;have q2:=fg.stm.blk.c3;clear fg
 repeat refine Zdg ?_
 refine Zes ?_;go_wp2_with fail;refine (Zbo w2 q.fn).mono ?_;rintro e w3 ⟨rfl,rfl⟩;have cg:=Yad w2 67 #[.pointer (some ⟨q.fn,0,none⟩)];have dv:=(Yaa (fun _=>False) w2).alloc (.cells #[.pointer (some ⟨q.fn,0,none⟩)] 67);generalize w2.alloc (.cells #[.pointer (some ⟨q.fn,0,none⟩)] 67)=w3 at *;generalize w2.heap.size=b3 at *;have dw:=qH (fe.trans dv fun _ _ f=>f);have gc:=qH cg;have d8:=qH (ff.same dv);have ee:=qH (cf.same dv);have dx:=qH (H0.same dw);have P:Hid (w.heap.size<=w3.heap.size/\b1=w.heap.size):=qH ⟨dw.size,HZ.1⟩;clear cg dv q0 q1 q2 ff cf fe;go_wp2_with fail;refine Zdr ?_;have V:=dx.stm.fn;refine ZcG (f:=q.fn) (fB:=b3) V gc rfl rfl
  (fun a4 W=>Same w3 W/\(∀ y∈a4,Zjy (Zcp s.rels) y=0)/\∀ y∈a4,(getN y.2).isSome=true)
  (fun M=>grP s=.error M) (fun W=>Same w3 W)
  ⟨Yaa _ _,(fun _ h=>by cases h),fun _ h=>by cases h⟩
  (fun a4 W W' ⟨o,R,h3⟩ T=>⟨o.trans T fun b hb L=>qt L.1,R,h3⟩)
  (fun W W' h T=>h.trans T fun b hb L=>qt L.1) ?F ?assign ?body ?done ?panic
 case assign =>
  intro lp x W K z;dsimp only [RE.args];gi_wp2;exact z
 case panic =>
  intro D M W hD cn co hW;refine ZbB ((Zbf.nil w3.heap.size w3.heap.size W).cons (Yae _) hD hW).marks fun W' T=>?_;exact cx M W' cn (YbD (((dw.trans co fun _ _ f=>f)).trans T fun b hb L=>by have:=L.1;have:=P.out;omega))
 case body =>
  intro lp a4 x W ⟨Z,ae,cp⟩ O a0 hid ba af;rw [<- cy.out] at O a0;have a9:=Ybe a0;have d9:=qH (dx.same Z);obtain ⟨n,cc,_⟩:=d9.ok.getN a9;obtain ⟨v,⟨n',A1,c1,cd,rfl,_⟩,a3⟩:=d9.dec.node.at_ ZgT Zpq a9 (by have:=V.len;simp only;omega);rw [cc] at cd;cases cd;obtain ⟨rl,pp,ls⟩:=n;unfold N1.cellsV at a3;simp only at a3;have HE:Hid (∀ M,Zjy (Zcp s.rels) (x.id,x.data)=M->M≠0->grP s=.error M):=qH fun M o R=>by have h3:=Zst O a0 ae cp o R;rw [<- Zeo] at h3;unfold grP;rw [h3,Yac R]
  have cz:=qH cc;have fh:=qH a3;have bp:=qH Z;have dy:=qH ae;have i4:=qH cp;have b8:Same W W.drew:=(Yaa _ W).drew;have ef:Hid (∀ U,Same W U->RdL U (fun b=>w0.heap.size<=b/\b<U.heap.size) A N c (Zcp s.rels)):=qH fun U h=>by have o:=ZeH (Zaa d9.dec.chain h);rwa [fa.out] at o
  have X:(Zcp s.rels).length=N:=by unfold Zcp;rw [Yag,fa.out]
  have gd:=qH (Zsj W.drew (ef.out _ b8) g8 (x.id:Int) rl);have HK:Hid (∀ U,Same W U->ZvR b1 rd mN A N c x.id (.agg #[.int .i64 rl,.int .i64 pp,.slice A1 ls.length c1]) U):=qH fun U h=>by have h4:=(d9.dec.blk.same h).c4;rw [fa.out] at h4;exact ⟨(d8.same (bp.trans h fun _ _ f=>f)).cell 0,(d9.dec.blk.same h).cell 1,h4,(fh.out U h).2⟩
  have a1:=HK.out _ b8;clear Z ae cp O a0 af ba a9 cc a3 V;have ja:=Zsx;gi_wp2_with fail;refine Zar 17 (fun U=>ZvR b1 rd mN A N c x.id (.agg #[.int .i64 rl,.int .i64 pp,.slice A1 ls.length c1]) U) (by kernel_rfl) (by kernel_rfl) (Ycc fun _ _ h=>h) a1 (fun j=>?_);refine ZbE ?_;refine Ybv 12 rfl (fun K z=>?_);go_simp;refine gd.mono ?_;rintro e w4 ⟨ar,hX⟩;clear gd;rcases hwk:ZbU (Zcp s.rels) x.id ((Zcp s.rels).length+1) (-1) rl with M | hz
  · rw [hwk] at hX;simp only at hX;subst hX;have HX:=qH (HE.out M (by unfold Zjy ZdX;simp only [cz.out,hwk]) (ZgS hwk))
    have dz:=qH (ZgS hwk);have ag:=qH (b8.trans ar fun _ _ f=>f);clear hwk ar b8;refine z _ _ (HK.out _ ag) (fun j=>?_);clear z K;refine ZbE ?_;refine Ybi rfl (fun K z=>?_);go_simp;refine z.out _ _ ?_;clear z K j;gi_wp2_with fail;refine ⟨trivial,?_⟩;gi_at_call 58;refine (CallsIn.inRound lp (YaO.2 (Zco w4 dz))).mono ?_;rintro e w5 ⟨rfl,rfl⟩;exact ⟨rfl,Zah ag fun _ f=>f.elim,M,rfl,HX,bp.same ag⟩
  rw [hwk] at hX;obtain ⟨v,rfl,i0⟩:=hX;obtain ⟨A2,c2,rfl⟩:=Zad i0;have gf:Hid (Zjy (Zcp s.rels) (x.id,x.data)=if hz.length≠(Zax (Zcp s.rels) x.id).length then 101 else 0):=qH (by unfold Zjy ZdX;simp only [cz.out,hwk];rfl)
  have ag:=qH (b8.trans ar fun _ _ f=>f);clear hwk ar b8 i0;refine z _ _ (HK.out _ ag) (fun j=>?_);clear z K;refine ZbE ?_;refine Ybi rfl (fun K z=>?_);go_simp;refine z.out _ _ ?_;clear z K j;gi_wp2_with fail;refine ⟨trivial,?_⟩;gi_at_call 58;refine (CallsIn.inRound lp (YaO.2 (ZbP w4))).mono ?_;rintro e w5 ⟨rfl,rfl⟩;obtain ⟨q0,_,q4,_⟩:=HK.out w4 ag.out;have gg:=qH (ZfN w4 (ef.out _ ag) g8 (x.id:Int));gi_wp2_with fail;refine ⟨trivial,?_⟩;gi_at_call 53;refine (CallsIn.inRound lp (YaO.2 gg)).mono ?_;rintro e w5 ⟨v5,rfl,f4,d4⟩;obtain ⟨A5,c5,rfl⟩:=Zad f4;have bk:=qH (ag.trans d4 fun _ _ f=>f);generalize hz.length=n1 at *;generalize (Zax (Zcp s.rels) (x.id:Int)).length=n2 at *;clear f4 d4 q0 q4 gg;by_cases hn:n1=n2
  case neg =>
   have fi:((n1:Int)==(n2:Int))=false:=Ybn.2 qO;have HX:=qH (HE.out 101 (gf.trans (Yac hn)) qD);clear hn;gi_wp2_with fail;refine ⟨trivial,?_⟩;gi_at_call 66;refine (CallsIn.inRound lp (YaO.2 (Zas w5 101))).mono ?_;rintro e w6 ⟨rfl,rfl⟩;exact ⟨rfl,Zah bk fun _ f=>f.elim,101,rfl,HX,bp.same bk⟩
  have i5:=qH (gf.trans (Yab (fun h=>h hn)));subst hn;gi_wp2_with fail;refine ⟨trivial,?_⟩;gi_at_call 66;refine (CallsIn.inRound lp (YaO.2 (ZaP w5 101))).mono ?_;rintro e w6 ⟨rfl,rfl⟩;gi_wp2;refine ⟨Yeg bk,bp.same bk,fun y hy=>?_,fun y hy=>?_⟩
  · rcases YaR.1 hy with hy | hy
    · exact dy y hy
    rw [YaH.1 hy];exact i5
  rcases YaR.1 hy with hy | hy
  · exact i4 y hy
  rw [YaH.1 hy];simp only;rw [cz.out];rfl
 intro D W hD ⟨Z,ae,cp⟩ hW;rw [<- cy.out] at ae cp;have da:Hid (¬ Zdk (Zcp s.rels) 0 s.nodes.recs≠0):=qH (fun h=>h (by rw [Zeo,Zos ae cp]));have ch:Hid (GI w0 w W B p rd mN mR mP mM mB b1 gB q s A c [] [] ⟨[],[]⟩):=qH ⟨dx.same Z,YbD (dw.trans Z fun _ _ f=>f),d8.same Z,⟨[],none,0,0,[],none,0,0⟩,ee.same Z,⟨Zew.nil_ _ _,Zex.nil_ _ _⟩,rfl⟩;have gi:Hid (Zbf w3.heap.size (D+1) W [{ target:=.collected D,args:=#[] }]):=qH ((Zbf.nil w3.heap.size w3.heap.size W).cons (Yae _) hD hW);have i6:Hid (w3.heap.size<=D/\D<W.heap.size):=qH ⟨hD,(YaX.1 hW).1⟩;clear Z ae cp hW hD V gc dx ee d8;have q0:=ch.box.c0;have q1:=ch.gs.dec.blk.c0;have q2:=ch.gs.stm.blk.c3;refine ZfD ?_
 repeat refine Zdg ?_
 refine Zes ?_;go_wp2_with fail;refine (Zbo W q.fn).mono ?_;rintro e w4 ⟨rfl,rfl⟩;have bd:=Yad W 67 #[.pointer (some ⟨q.fn,0,none⟩)];have ar:=(Yaa (fun _=>False) W).alloc (.cells #[.pointer (some ⟨q.fn,0,none⟩)] 67);generalize W.alloc (.cells #[.pointer (some ⟨q.fn,0,none⟩)] 67)=w4 at *;obtain ⟨b4,f5⟩:∃ b4,W.heap.size=b4:=⟨_,rfl⟩
 rw [f5] at bd ⊢;have ag:=qH ar;have gj:=qH bd;have ah:Hid (w.heap.size<=w4.heap.size/\D<w4.heap.size/\w3.heap.size<=D):=qH (by have o:=ar.size;have R:=i6.out;have h3:=ch.up.size;omega);clear bd ar f5 q0 q1 q2;go_wp2_with fail;refine Zdr ?_;have V:=(ch.gs.stm.same ag).fn;refine ZcG (f:=q.fn) (fB:=b4) V gj rfl rfl
  (fun a4 W'=>(∃ ns mp mb,ZbK (Zih s.labels (Zbe s 16 [] (-1))) a4 [] []=.ok (ns,mp,mb)/\GI w0 w W' B p rd mN mR mP mM mB b1 gB q s A c mp mb ⟨ns,[]⟩)/\Zbf w3.heap.size (D+1) W' [{ target:=.collected D,args:=#[] }])
  (fun M=>grP s=.error M) (fun W'=>Upd (fun b=>b=mM\/b=mB) w W'/\Zbf w3.heap.size (D+1) W' [{ target:=.collected D,args:=#[] }])
  ⟨⟨[],[],[],rfl,ch.same ag⟩,gi.same ag⟩
  (fun a4 W1 W2 ⟨⟨ns,mp,mb,o,R⟩,h5⟩ T=>⟨⟨ns,mp,mb,o,R.it T ah.1 (by have:=b6.out;rw [<- P.2];exact this)⟩,h5.upd T fun D' L hD=>by have:=L.1;have:=ah.out;omega⟩)
  (fun W1 W2 ⟨o,R⟩ T=>⟨o.trans T fun b hb L=>by have:=L.1;have:=ah.out;omega,R.upd T fun D' L hD=>by have:=L.1;have:=ah.out;omega⟩) ?F2 ?assign2 ?body2 ?done2 ?panic2
 case assign2 =>
  intro lp x W1 K z;dsimp only [RE.args];gi_wp2;exact z
 case panic2 =>
  intro D2 M W1 hD cn ⟨co,dl⟩ dm;refine ZbB (dl.cons (qh ah) (qh ah) dm).marks fun W' T=>?_;exact cx M W' cn (co.trans T fun b hb L=>by have:=L.1;have:=P.out;omega)
 case body2 =>
  intro lp a4 x W1 ⟨⟨ns,mp,mb,E,C⟩,ac⟩ O a0 hid ba af;rw [<- cy.out] at O a0;have a9:=Ybe a0;obtain ⟨n,cc,cq⟩:=C.gs.ok.getN a9;obtain ⟨v,⟨n',A1,c1,cd,rfl,dn⟩,a3⟩:=C.gs.dec.node.atU ZgT Zpq a9 (by have:=V.len;simp only;omega);rw [cc] at cd;cases cd;have bf:=Zor cc;obtain ⟨rl,pp,ls⟩:=n;unfold N1.cellsV at a3;simp only at a3 dn cq;simp only [ZbT,Yay] at bf;have jb:=Zai.1 bf.2.1;have i7:ls.length<=8:=by have:=bf.2.2;simp only [ZdR,Yay,Ybc] at this;exact this.1
  have cz:=qH cc;have fh:=qH a3;have gk:=qH cq;have eg:=qH dn;have ci:=qH E;have H:=qH C;have db:=qH ac;have bq:=qH O;have dc:=qH a0;have b8:Same W1 W1.drew:=(Yaa _ W1).drew;have a6:¬ (mN=mM\/mN=mB):=by have o:=C.gs.ne;rintro (e | e);exact o.1 e;exact o.2.1 e
  have HK:Hid (∀ U,Upd (fun b=>b=mM\/b=mB) W1 U->ZvN b1 rd mN x.id (.agg #[.int .i64 rl,.int .i64 pp,.slice A1 ls.length c1]) U):=qH fun U h =>
   ⟨(C.cell h C.box).cell 0,(C.cell h C.gs.dec.blk).cell 1,fh.out _ U h a6⟩
  have bs:=qH (fun (U:World) (h:Same W1 U)=>Znc w0 U (C.gs.same h).rds pp qO);unfold LstR at bs;have a1:=HK.out _ (YbD b8);have i8:=Zsy;have eh:x.id<65536:=Ycd hid V.len;have bi:Hid (∀ M,Zbe s 16 [] (-1) pp mp mb=.error M->grP s=.error M):=qH fun M o=>by
   have R:Zih s.labels (Zbe s 16 [] (-1)) (x.id,x.data) mp mb=.error M:=by unfold Zih;simp only [cz.out,o]
   have h3:=Znd bq.out dc.out ci.out R;unfold grP;rw [Yab da.out,ZcF,h3]
  have j8:Hid (W1.heap.size<=W1.drew.heap.size):=qH (Yae _);clear C ac O a0 af ba a9 cc a3 bf dn cq E V a6;gi_wp2_with fail;refine Zar 12 (fun U=>ZvN b1 rd mN x.id (.agg #[.int .i64 rl,.int .i64 pp,.slice A1 ls.length c1]) U) (by kernel_rfl) (by kernel_rfl) (Ycc fun _ _ h=>h) a1 (fun j=>?_);refine ZbE ?_;refine ESt.br2 9 11 rfl rfl (fun K z=>?_) (fun K z=>?_)
  focus
   go_simp;refine (bs.out _ b8).mono ?_;rintro e wl ⟨bc,hX⟩;rcases X:Zbe s 16 [] (-1) pp mp mb with M | ⟨l,am,a7⟩
   · rw [X] at hX;simp only at hX;subst hX;have ai:=(YbD b8).trans bc fun _ _ e=>e;exact ⟨rfl,Zah ai fun k e hk=>by have:=b6.out;have:=ah.out;have:=P.out;rcases e with e | e <;> omega,M,rfl,bi.out M X,H.up.trans ai fun _ _ e=>e,H.marks db ai⟩
   rw [X] at hX;obtain ⟨aj,ak,A7,c7,ps,rfl,al,aq⟩:=hX;have ai:=(YbD b8).trans bc fun _ _ e=>e;refine z _ _ (HK.out _ ai) (fun j=>?_);clear z K;refine ZbE ?_;refine Ybv 11 rfl (fun K z=>?_);go_simp;have Y:=Yad wl 56 #[.int .i64 0,.slice none 0 0,.slice none 0 0];have aa:=(Yaa (fun _=>False) wl).alloc (.cells #[.int .i64 0,.slice none 0 0,.slice none 0 0] 56);refine z _ _ (HK.out _ (ai.same aa)) (fun j=>?_);clear z K;generalize wl.alloc (.cells #[.int .i64 0,.slice none 0 0,.slice none 0 0] 56)=wz at *;obtain ⟨bn,cr⟩:∃ bn,wl.heap.size=bn:=⟨_,rfl⟩
   rw [cr] at Y ⊢;have c0:=Y.c0;have bt:=Y.c1;have e0:=Y.c2;have f0:=Y.frozen 0;have f1:=Y.frozen 1;have f2:=Y.frozen 2;refine Ybi rfl (fun K z=>?_);go_simp;have d1:=ai.same aa;have bu:W1.heap.size<=bn:=cr ▸ ai.size;have b9:W1.heap.size<=W1.drew.heap.size:=Yae _;have aj:=aj.same aa;have ak:=ak.same aa;have al:=al.same aa;refine z.out _ _ ?_;clear z K j c0 bt e0 f0 f1 f2;obtain ⟨wE,ct⟩:∃ wE,(((wz.setCell ⟨bn,0,none⟩ (.int .i64 (x.id:Int))).setCell ⟨bn,1,none⟩ (.slice none 0 0)).setCell ⟨bn,2,none⟩ (.slice A7 l.length c7))=wE:=⟨_,rfl⟩
   rw [ct];have dd:=qH (Zub d1 bu Y aj ak al b9 ct);have e1:=qH aq;have e2:=qH X;clear ct al aq X Y aj ak d1 b9 bu;clear aa ai bc cr
  rotate_left
  focus
   go_simp;have ei:=Yad W1 56 #[.int .i64 0,.slice none 0 0,.slice none 0 0];have aa:=((Yaa (fun _=>False) W1).alloc (.cells #[.int .i64 0,.slice none 0 0,.slice none 0 0] 56)).drew;have de:=ei.same (Yaa (fun _=>False) _).drew;refine z.out _ _ (HK.out _ (YbD aa)) (fun j=>?_);clear z K;generalize (W1.alloc (.cells #[.int .i64 0,.slice none 0 0,.slice none 0 0] 56)).drew=wn at *;obtain ⟨bn,cr⟩:∃ bn,W1.heap.size=bn:=⟨_,rfl⟩
   rw [cr] at de ⊢;refine Ybv 9 rfl (fun K z=>?_);go_simp;refine (bs.out _ aa).mono ?_;rintro e wz ⟨bc,hX⟩;rcases X:Zbe s 16 [] (-1) pp mp mb with M | ⟨l,am,a7⟩
   · rw [X] at hX;simp only at hX;subst hX;have ai:=(YbD aa).trans bc fun _ _ e=>e;exact ⟨rfl,Zah ai fun k e hk=>by have:=b6.out;have:=ah.out;have:=P.out;rcases e with e | e <;> omega,M,rfl,bi.out M X,H.up.trans ai fun _ _ e=>e,H.marks db ai⟩
   rw [X] at hX;obtain ⟨aj,ak,A7,c7,ps,rfl,al,aq⟩:=hX;have d1:Upd (fun b=>b=mM\/b=mB) W1 wz:=(YbD aa).trans bc fun _ _ e=>e;refine z _ _ (HK.out _ d1) (fun j=>?_);clear z K;refine ZbE ?_;have Y:=(H.same aa).cell bc de;have c0:=Y.c0;have bt:=Y.c1;have e0:=Y.c2;have f0:=Y.frozen 0;have f1:=Y.frozen 1;have f2:=Y.frozen 2;refine Ybi rfl (fun K z=>?_);go_simp;have bu:W1.heap.size<=bn:=Nat.le_of_eq cr;have b9:W1.heap.size<=wn.heap.size:=aa.size;refine z.out _ _ ?_;clear z K j c0 bt e0 f0 f1 f2;obtain ⟨wE,ct⟩:∃ wE,(((wz.setCell ⟨bn,0,none⟩ (.int .i64 (x.id:Int))).setCell ⟨bn,1,none⟩ (.slice none 0 0)).setCell ⟨bn,2,none⟩ (.slice A7 l.length c7))=wE:=⟨_,rfl⟩
   rw [ct];have dd:=qH (Zub d1 bu Y aj ak al b9 ct);have e1:=qH aq;have e2:=qH X;clear ct al aq X Y aj ak d1 b9 bu;clear aa bc cr ei de
  rotate_left
  all_goals
   clear bs bi i8;obtain ⟨q0,q1,q2⟩:=HK.out wE dd.up;have i9:=Zsz;gi_wp2_with fail
  all_goals
   have ia:Hid (LabI wE wE bn (.int .i64 (x.id:Int)) (ls.map (ZaY s.labels)) 0 none 0 A7 l.length c7):=qH ⟨Yaa _ _,dd.blk,YaQ _ _ _ _⟩;obtain ⟨nl,cq⟩:∃ nl,ls.length=nl:=⟨_,rfl⟩
   have gl:=qH cq;rw [cq] at i7 eg ⊢;clear cq q0 q1 q2 i9;gi_loopg [84] nl (fun gh sk wr=>∃ (k:Nat) (AL:Option Addr) (cL:Nat),nl-k=gh/\k<=nl/\sk=.int .i64 (k:Int)/\Hid (LabI wE wr bn (.int .i64 (x.id:Int)) (ls.map (ZaY s.labels)) k AL cL A7 l.length c7))
   case atStart=>exact ⟨0,none,0,rfl,Yah _,rfl,ia⟩
   obtain ⟨k,AL,cL,rfl,hk,rfl,KL⟩:=hrel;obtain ⟨dp,aj,ak,al⟩:=dd.labs KL.out;have cj:=qH (H.list dp aj ak);by_cases ib:k<nl
   · have gm:(k:Int)<(nl:Int):=qO;obtain ⟨g,u,rfl,_,_,T,dq,_,_⟩:=ZaW (H.own dp eg) ib;rw [Yau] at T;obtain ⟨li,fz,rfl⟩:=YcJ.1 T;obtain ⟨f,m,j6,v,nv,lt,dr⟩:=(cj.gs.stm.same (Yaa (fun _=>False) wr).drew).tl;have bl:=qH (ZdV dr li);have fj:=gk.out li (Ybe fz);obtain ⟨nm,a6⟩:∃ nm,ZaY s.labels li=nm:=⟨_,rfl⟩
     unfold Zmu at bl;rw [a6] at fj;simp only [a6,Yab fj] at bl;have gn:Hid ((ls.map (ZaY s.labels))[k]?=some nm):=qH (by rw [Yau,fz,<-a6];rfl);have bv:Hid (∀ U,Upd (fun b=>(Value.slice AL k cL).ownBlock=some b) wr U->ZvO b1 rd p q.tl bn AL k cL U):=qH fun U h=>by have hc:∀ {g:Nat} {t:TypeId} {cs:Array Value},9≠t->Blk wr g t cs->Blk U g t cs:=fun hn hb=>hb.upd h fun e=>hb.ne_own KL.row hn e;exact ⟨(hc qD cj.box).cell 0,(hc qD cj.gs.dec.blk).cell 0,(hc qD cj.gs.stm.blk).cell 0,(hc qD KL.blk).cell 1⟩
     have ic:Same wr wr.drew:=(Yaa _ wr).drew;have a1:=bv.out _ (YbD ic);have ie:wE.heap.size<=wr.heap.size:=KL.up.size;clear dp aj ak al T fz fj a6 dr;gi_wp2_with fail;refine Zar 14 (fun U=>ZvO b1 rd p q.tl bn AL k cL U) (by kernel_rfl) (by kernel_rfl) (Ycc fun _ _ h=>h) a1 (fun j=>?_);refine ZbE ?_;refine Ybv 10 rfl (fun K z=>?_);go_simp;refine bl.mono ?_;rintro e wn ⟨rfl,rfl⟩;refine z.out _ _ a1 (fun j=>?_);clear z K bl;refine Ybv 11 rfl (fun K z=>?_);go_simp;have a2:=((Yaa (fun _=>False) wr).alloc (.cells #[.string nm] 9)).drew;have go:=(Yad wr 9 #[.string nm]).same (Yaa (fun _=>False) _).drew;have ig:=Yaj ie a2.size;refine z.out _ _ (bv.out _ (YbD a2)) (fun j=>?_);clear z K;generalize (wr.alloc (.cells #[.string nm] 9)).drew=wa at *;generalize wr.heap.size=gS at *;refine Ybv 12 rfl (fun K z=>?_);refine Zfm rfl (.tmp 89) (.tmp 99) _ _ rfl wE.heap.size 9 1 16 _ Tryz.underlying48 Zde rfl (.slice AL k cL) k _ rfl (Zaa KL.row a2) rfl (Zbg Tryz.underlying48 (Ycb go (k:=1) (n:=1) (c:=1) rfl (Yae _) (by simp [maxLen])) (by simp [Value.oneCell'])) (by unfold maxLen;omega) qO ig ?_;intro v9 w9 bh;obtain ⟨A9,c9,rfl⟩:=Zad bh.own;refine z.out _ _ (bv.out _ ((YbD a2).trans bh.upd fun _ _ e=>e)) (fun j=>?_);clear z K;refine ZbE ?_;have bg:=(KL.blk.same a2).upd bh.upd fun e=>(KL.blk.same a2).ne_own (Zaa KL.row a2) qD e;have bt:=bg.c1;have fk:=bg.frozen 1;have ii:=qH (KL.snoc a2 bh gn);refine Ybi rfl (fun K z=>?_);go_simp;refine z.out _ _ ?_;clear z K j bt fk bg bh a2 go a1 bv;generalize w9.setCell ⟨bn,1,none⟩ (.slice A9 (k+1) c9)=wF at *;gi_wp2;gi_roundg (nl-(k+1))
     case measure=>omega
     case rel=>exact ⟨k+1,A9,c9,rfl,qO,by go_num,ii⟩
   have gm:¬ (k:Int)<(nl:Int):=qO;obtain rfl:k=nl:=qO;obtain ⟨I,a8,an,av⟩:=cj.ex;have q0:=a8.c0;have c0:=KL.blk.c0;have bt:=KL.blk.c1;have e0:=KL.blk.c2;have ij:I.ns.length=I.nN:=an.nodes.rd.len;have cl:I.ns.map ND.dat=ns/\I.rs.map RL.dat=[]:=by
    unfold GR.dat at av;injection av with o R
    exact ⟨o,R⟩
   have ik:I.nN<=65536:=by have o:=YaC List.length cl.1;rw [Yag,Zfk ci.out] at o;have R:=YaC List.length bq.out;have h3:=(Yaq.1 dc).1;have h4:=Zcs s.nodes.recs 0;rw [cy.out] at h3 h4;rw [Yag] at h4;have h5:=H0.st.fn.len;omega
   have cm:=Zaa an.nodes.row ((Yaa (fun _=>False) wr).alloc (.cells (ND.cells ⟨(x.id:Int),ls.map (ZaY s.labels),AL,k,cL,ps,A7,l.length,c7⟩).toArray 56));rw [ij] at cm;have fl:w.heap.size<=wr.heap.size:=cj.up.size;have ej:=a8.same ((Yaa (fun _=>False) wr).alloc (.cells (ND.cells ⟨(x.id:Int),ls.map (ZaY s.labels),AL,k,cL,ps,A7,l.length,c7⟩).toArray 56));gi_wp2_with (gi_at_builtin;refine ZhK rfl (.tmp 104) (.tmp 106) _ _ rfl w.heap.size 56 3 56 _ Tryz.underlying23 ZlM rfl (.slice I.AN I.nN I.cN) I.nN (I.ns.flatMap ND.cells) rfl cm rfl (Zbg Tryz.underlying23 (Row.nd wr ⟨(x.id:Int),ls.map (ZaY s.labels),AL,k,cL,ps,A7,l.length,c7⟩) (ND.one _)) (by unfold maxLen;omega) qO (by simp;omega) ?_;intro v9 w9 hg;obtain ⟨A9,c9,rfl⟩:=Zad hg.own;have bg:=ej.upd hg.upd fun e=>ej.ne_own cm qD e;have f9:=bg.frozen 0;have e9:w9.cell? ⟨gB,0,none⟩=some (.slice I.AN I.nN I.cN):=bg.cell 0);have fm:Same wr (wr.alloc (.cells (ND.cells ⟨(x.id:Int),ls.map (ZaY s.labels),AL,k,cL,ps,A7,l.length,c7⟩).toArray 56)):=(Yaa (fun _=>False) wr).alloc _;have ek:w.heap.size<=W1.heap.size:=H.up.size;have hx:Zeb (wr.alloc (.cells (ND.cells ⟨(x.id:Int),ls.map (ZaY s.labels),AL,k,cL,ps,A7,l.length,c7⟩).toArray 56)) w.heap.size ⟨(x.id:Int),ls.map (ZaY s.labels),AL,k,cL,ps,A7,l.length,c7⟩:=by
    refine ⟨?_,(al.same fm).base ek,?_⟩
    · have o:=Zac (base':=w.heap.size) (Zaa KL.row fm) (Yaj ek dd.up.size);rw [YaB (by rw [Yag,gl.out];exact Yae _)] at o;exact o
    have:=eh;exact ⟨by simp only;omega,by simp only;omega⟩
   obtain ⟨A',c',he,hO,g0,_,hU⟩:=ZqB (i:=0) an a8 qD qD qD qD qD fm hx hg;cases he;refine ⟨(H.mv dp (by have:=b6.out;have:=ah.out;have:=P.out;omega) (by have:=b6.out;have:=ah.out;have:=P.out;omega)).trans (YdN hU fun b hb=>.inr ?_),⟨ns++[⟨(x.id:Int),ls.map (ZaY s.labels),l⟩],am,a7,Zky ci.out ?_,cj.grow hU a8 (qh HZ) (by have:=b6.out;have:=P.out;omega) qD ⟨⟨I.ns++[⟨(x.id:Int),ls.map (ZaY s.labels),AL,k,cL,ps,A7,l.length,c7⟩],A9,I.nN+1,c9,I.rs,I.AR,I.nR,I.cR⟩,g0,hO,?_⟩⟩,(H.marks db dp).upd hU fun D' L hD h=>?_⟩
   · rcases hb with rfl | ⟨hb,_⟩
     · exact ⟨_,by unfold DcU;decide,_,a8⟩
     exact ⟨_,by unfold DcU;decide,hb⟩
   · unfold Zih;simp only [cz.out,e2.out]
   · unfold GR.dat;simp only [YaG,cl.1,cl.2,YaF,YcG,ND.dat,e1.out]
   rcases L with rfl | ⟨⟨cs,L⟩,_⟩
   · unfold Blk at a8;rw [a8] at h;cases h
   unfold Blk at L;rw [L] at h;cases h
 intro D2 W1 hD ⟨⟨ns,mp,mb,E,C⟩,ac⟩ dm;rw [<- cy.out,<-ZcF] at E;have d2:=qH E;have H:=qH C;have db:=qH (ac.cons (qh ah) (qh ah) dm);have il:Hid (w3.heap.size<=D2/\D2<W1.heap.size):=qH ⟨qh ah,(YaX.1 dm).1⟩;clear E C ac dm hD V gj ag ch gi;have q0:=H.box.c0;have q1:=H.gs.dec.blk.c0;have q2:=H.gs.stm.blk.c4;refine ZfD ?_
 repeat refine Zdg ?_
 refine Zes ?_;go_wp2_with fail;refine (Zbo W1 q.fr).mono ?_;rintro e w5 ⟨rfl,rfl⟩;have d3:=Yad W1 67 #[.pointer (some ⟨q.fr,0,none⟩)];have d4:=(Yaa (fun _=>False) W1).alloc (.cells #[.pointer (some ⟨q.fr,0,none⟩)] 67);generalize W1.alloc (.cells #[.pointer (some ⟨q.fr,0,none⟩)] 67)=w5 at *;obtain ⟨b5,f6⟩:∃ b5,W1.heap.size=b5:=⟨_,rfl⟩
 rw [f6] at d3 ⊢;have bk:=qH d4;have gp:=qH d3;have au:Hid (w.heap.size<=w5.heap.size/\D2<w5.heap.size/\w3.heap.size<=D2):=qH (by have o:=d4.size;have R:=il.out;have h3:=H.up.size;omega);clear d3 d4 f6 q0 q1 q2;go_wp2_with fail;refine Zdr ?_;have V:=(H.gs.stm.same bk).fr;refine ZcG (f:=q.fr) (fB:=b5) V gp rfl rfl
  (fun a4 W'=>(∃ rs am a7,ZbK (relU s.types getR (Zbe s 16 [] (-1))) a4 mp mb=.ok (rs,am,a7)/\GI w0 w W' B p rd mN mR mP mM mB b1 gB q s A c am a7 ⟨ns,rs⟩)/\Zbf w3.heap.size (D2+1) W' [{ target:=.collected D2,args:=#[] },{ target:=.collected D,args:=#[] }])
  (fun M=>grP s=.error M) (fun W'=>Upd (fun b=>b=mM\/b=mB) w W'/\Zbf w3.heap.size (D2+1) W' [{ target:=.collected D2,args:=#[] },{ target:=.collected D,args:=#[] }])
  ⟨⟨[],mp,mb,rfl,H.same bk⟩,db.same bk⟩
  (fun a4 V1 V2 ⟨⟨rs,am,a7,o,R⟩,h5⟩ T=>⟨⟨rs,am,a7,o,R.it T au.1 (by have:=b6.out;rw [<- P.2];exact this)⟩,h5.upd T fun D' L hD=>by have:=L.1;have:=au.out;omega⟩)
  (fun V1 V2 ⟨o,R⟩ T=>⟨o.trans T fun b hb L=>by have:=L.1;have:=au.out;omega,R.upd T fun D' L hD=>by have:=L.1;have:=au.out;omega⟩) ?F3 ?assign3 ?body3 ?done3 ?panic3
 case assign3 =>
  intro lp x V1 K z;dsimp only [RE.args];gi_wp2;exact z
 case panic3 =>
  intro D3 M V1 hD cn ⟨co,dl⟩ dt;refine ZbB (dl.cons (qh au) (qh au) dt).marks fun W' T=>?_;exact cx M W' cn (co.trans T fun b hb L=>by have:=L.1;have:=P.out;omega)
 case body3 =>
  intro lp a4 x V1 ⟨⟨rs,g1,g2,E,C⟩,ac⟩ O a0 hid ba af;rw [<- d7.out] at O a0;have a9:=Ybe a0;have eh:x.id<65536:=Ycd hid V.len;obtain ⟨r,e6,e7⟩:=C.gs.ok.getR a9;obtain ⟨v,⟨r',cd,rfl⟩,a3⟩:=C.gs.dec.rel.atU Zsp ZvK a9 (by simp only;omega);rw [e6] at cd;cases cd;have bf:=Zsr e6;simp only [Zdw,ZfL,Yay] at bf;have im:=Zai.1 bf.1.1;have io:=Zai.1 bf.1.2.1;have ip:=Zai.1 bf.2.2;obtain ⟨⟨lv,sr,ds,p1,p2,p3,p4⟩,ty,pr⟩:=r;unfold R1.cells at a3;simp only at a3 e7 im io ip;obtain ⟨nm,a6⟩:∃ nm,ZaY s.types ty=nm:=⟨_,rfl⟩
  have dz:=qH a6;rw [a6] at e7;have gq:=qH e6;have ci:=qH E;have ao:=qH C;have el:=qH ac;have bq:=qH O;have dc:=qH a0;have bi:Hid (∀ M,Zbe s 16 [] (-1) pr g1 g2=.error M->grP s=.error M):=qH fun M o=>by
   have R:relU s.types getR (Zbe s 16 [] (-1)) (x.id,x.data) g1 g2=.error M:=by unfold relU;simp only [gq.out,o]
   have h3:=Znd bq.out dc.out ci.out R;unfold grP;rw [Yab da.out,d2.out];simp only;rw [Zdc,h3]
  obtain ⟨I,a8,an,av⟩:=C.ex;have gu:¬ False:=fun f=>f;have gv:=a3 _ V1 (Yaa (fun _=>False) V1) gu;have q0:=C.box.c0;have q1:=C.gs.dec.blk.c2;clear ac O a0 af ba a9 e6 a3 bf E a6 gu hid
  gi_upto_region 18 with fail
  have gw:=Yad V1 124 #[.bool lv,.int .i64 sr,.int .i64 ds,.int .i64 p1,.int .i64 p2,.int .i64 p3,.int .i64 p4,.int .i64 ty,.int .i64 pr];have a2:=(Yaa (fun _=>False) V1).alloc (.cells #[.bool lv,.int .i64 sr,.int .i64 ds,.int .i64 p1,.int .i64 p2,.int .i64 p3,.int .i64 p4,.int .i64 ty,.int .i64 pr] 124);generalize V1.alloc (.cells #[.bool lv,.int .i64 sr,.int .i64 ds,.int .i64 p1,.int .i64 p2,.int .i64 p3,.int .i64 p4,.int .i64 ty,.int .i64 pr] 124)=w6 at *;generalize V1.heap.size=bA at *;have S:=qH (C.same a2);have iq:=qH a2;have ir:=qH gw;have cf:=qH (a8.same a2);have iu:=qH (an.same a2);have bm:=(an.same a2).rels.row;have gx:I.rs.length=I.nR:=an.rels.rd.len;rw [gx] at bm;have iv:=qH bm;have cl:I.ns.map ND.dat=ns/\I.rs.map RL.dat=rs:=by
   unfold GR.dat at av;injection av with o R
   exact ⟨o,R⟩
  have gy:=qH cl;have ik:I.nR<=65536:=by have o:=YaC List.length cl.2;rw [Yag,Zfk ci.out] at o;have R:=YaC List.length bq.out;have h3:=(Yaq.1 dc).1;have h4:=Zcs s.rels.recs 0;rw [d7.out] at h3 h4;rw [Yag] at h4;have h5:=H0.st.fr.len;omega
  have fo:∀ U,Upd (fun b=>(b=mM\/b=mB)\/(Value.slice I.AR I.nR I.cR).ownBlock=some b) w6 U->ZvP b1 rd p q.tt gB bA (.slice I.AR I.nR I.cR) sr ds ty pr U:=fun U h=>by
   have hc:∀ {g:Nat} {t:TypeId} {cs:Array Value},60≠t->Blk w6 g t cs->Blk U g t cs:=fun hn hb=>hb.upd h fun e=>by
    rcases e with (e | e) | e
    · exact S.gs.met.ne hb e.symm
    · exact S.gs.blob.ne hb e.symm
    exact hb.ne_own bm hn e
   have o:=hc qD ir.out;exact ⟨(hc qD S.box).cell 0,(hc qD S.gs.dec.blk).cell 0,(hc qD S.gs.stm.blk).cell 1,(hc qD cf.out).cell 1,o.cell 1,o.cell 2,o.cell 7,o.cell 8⟩
  have bv:=qH fo;have df:Same w6 w6.drew:=(Yaa _ w6).drew;obtain ⟨f,m,j6,v,nv,lt,dr⟩:=(S.gs.stm.same df).tt;have bl:=qH (ZdV dr ty);unfold Zmu at bl;simp only [dz.out,Yab e7] at bl;have bs:=qH (Znc w0 w6.drew (S.gs.same df).rds pr qO);unfold LstR at bs;have a1:=fo _ (YbD df);clear fo dr gw a2 a8 an av bm gx cl C e7 q0 q1 gv V;refine Zar 27 (fun U=>ZvP b1 rd p q.tt gB bA (.slice I.AR I.nR I.cR) sr ds ty pr U) (by kernel_rfl) (by kernel_rfl) (Ycc fun _ _ h=>h) a1 (fun j=>?_);refine ZbE ?_;refine Ybv 12 rfl (fun K z=>?_);go_simp;refine bl.mono ?_;rintro e wn ⟨rfl,rfl⟩;refine z.out _ _ a1 (fun j=>?_);clear z K bl;refine ZbE ?_;refine Ybv 22 rfl (fun K z=>?_);go_simp;refine bs.mono ?_;rintro e w7 ⟨bc,hX⟩;have ap:Upd (fun b=>b=mM\/b=mB) w6 w7:=(YbD df).trans bc fun _ _ e=>e;have bw:Upd (fun b=>b=mM\/b=mB) V1 w7:=(YbD iq).trans ap fun _ _ e=>e;clear bs;rcases X:Zbe s 16 [] (-1) pr g1 g2 with M | ⟨l,am,a7⟩
  · rw [X] at hX;simp only at hX;subst hX;exact ⟨rfl,Zah bw fun k e hk=>by have:=b6.out;have:=au.out;have:=P.out;rcases e with e | e <;> omega,M,rfl,bi.out M X,ao.up.trans bw fun _ _ e=>e,ao.marks el bw⟩
  rw [X] at hX;obtain ⟨aj,ak,A7,c7,ps,rfl,al,aq⟩:=hX;have e2:=qH X;have e1:=qH aq;have iw:=qH al;have ab:=qH (S.list ap aj ak);have gz:=qH ap;have em:=qH bw;have bj:=qH (S.cell ap cf);have h0:Hid (OwnG w7 w.heap.size I):=qH (iu.cells ap fun b e t cs hb=>by
   rcases e with e | e
   · exact S.gs.met.ne hb e.symm
   exact S.gs.blob.ne hb e.symm)
  have eo:=qH (S.own ap iv);refine z _ _ (bv.out _ (ap.mono fun _ _ e=>.inl e)) (fun j=>?_);clear z K bi bc ap bw aj ak al aq X df a1;refine ZbE ?_;refine Ybv 24 rfl (fun K z=>?_);go_simp;have bx:Same w7 (w7.alloc (.cells (RL.cells ⟨(x.id:Int),nm,sr,ds,ps,A7,l.length,c7⟩).toArray 60)):=(Yaa (fun _=>False) w7).alloc _;have fq:Upd (fun b=>(b=mM\/b=mB)\/(Value.slice I.AR I.nR I.cR).ownBlock=some b) w6 (w7.alloc (.cells (RL.cells ⟨(x.id:Int),nm,sr,ds,ps,A7,l.length,c7⟩).toArray 60)):=(gz.mono fun _ _ e=>.inl e).same bx;refine z _ _ (bv.out _ fq) (fun j=>?_);clear z K;refine Ybv 25 rfl (fun K z=>?_);refine Zfm rfl (.tmp 126) (.tmp 149) _ _ rfl w.heap.size 60 5 64 _ Tryz.underlying24 ZoE rfl (.slice I.AR I.nR I.cR) I.nR (I.rs.flatMap RL.cells) rfl (Zaa eo bx) rfl (Zbg Tryz.underlying24 (Row.rl w7 ⟨(x.id:Int),nm,sr,ds,ps,A7,l.length,c7⟩) (RL.one _)) (by unfold maxLen;omega) qO (Yaj ab.up.size bx.size) ?_;intro v9 w9 bh;obtain ⟨A9,c9,rfl⟩:=Zad bh.own;refine z _ _ (bv.out _ (fq.trans bh.upd fun _ _ e=>.inr e)) (fun j=>?_);clear z K;refine ZbE ?_;have bg:=(bj.same bx).upd bh.upd fun e=>(bj.same bx).ne_own (Zaa eo bx) qD e;have bt:=bg.c1;have fk:=bg.frozen 1;have hx:ZeG (w7.alloc (.cells (RL.cells ⟨(x.id:Int),nm,sr,ds,ps,A7,l.length,c7⟩).toArray 60)) w.heap.size ⟨(x.id:Int),nm,sr,ds,ps,A7,l.length,c7⟩:=by refine ⟨(iw.same bx).base (Yaj S.up.size (Yae _)),?_⟩;exact ⟨⟨by simp only;omega,by simp only;omega⟩,⟨by simp only;omega,by simp only;omega⟩,⟨by simp only;omega,by simp only;omega⟩⟩
  obtain ⟨A',c',he,hO,g0,_,hU⟩:=Zss (i:=1) h0.out bj.out qD qD qD qD qD bx hx bh;cases he;refine Ybi rfl (fun K z=>?_);go_simp;refine z.out _ _ ?_;clear z K j bt fk bg fq;gi_wp2;refine ⟨(ao.mv em (by have:=b6.out;have:=au.out;have:=P.out;omega) (by have:=b6.out;have:=au.out;have:=P.out;omega)).trans (YdN hU fun b hb=>.inr ?_),⟨rs++[⟨(x.id:Int),nm,sr,ds,l⟩],am,a7,Zky ci.out ?_,ab.grow hU bj (qh HZ) (by have:=b6.out;have:=P.out;omega) qD ⟨⟨I.ns,I.AN,I.nN,I.cN,I.rs++[⟨(x.id:Int),nm,sr,ds,ps,A7,l.length,c7⟩],A9,I.nR+1,c9⟩,g0,hO,?_⟩⟩,(ao.marks el em).upd hU fun D' L hD h=>?_⟩
  · rcases hb with rfl | ⟨hb,_⟩
    · exact ⟨_,by unfold DcU;decide,_,bj⟩
    exact ⟨_,by unfold DcU;decide,hb⟩
  · unfold relU;simp only [gq.out,e2.out,dz.out]
  · unfold GR.dat;simp only [YaG,gy.1,gy.2,YaF,YcG,RL.dat,e1.out]
  rcases L with rfl | ⟨⟨cs,L⟩,_⟩
  · have o:=bj.out;unfold Blk at o;rw [o] at h;cases h
  unfold Blk at L;rw [L] at h;cases h
 intro D3 V1 hD ⟨⟨rs,am,a7,E,C⟩,ac⟩ dt;rw [<- d7.out] at E;have dg:=qH E;have ao:=qH C;have dh:=qH (ac.cons (qh au) (qh au) dt);have ix:Hid (w3.heap.size<=D3/\D3<V1.heap.size):=qH ⟨qh au,(YaX.1 dt).1⟩;obtain ⟨lv,g3⟩:∃ lv,s.props.live=lv:=⟨_,rfl⟩
 have h6:=qH g3;have fs:=qH (ZeJ V1.drew (C.gs.stm.same (Yaa (fun _=>False) V1).drew).fp);rw [<- Zsw 6 1 20,C.gs.st.ep,g3] at fs;have d5:Same V1 V1.drew:=(Yaa _ V1).drew;have h7:Hid (∀ U,Same V1 U->ZvQ b1 rd p q.fp mM am.length U):=qH fun U h=>by obtain ⟨⟨f,o,_⟩,_⟩:=C.gs.met.same h;exact ⟨(C.box.same h).cell 0,(C.gs.dec.blk.same h).cell 0,(C.gs.dec.blk.same h).cell 5,(C.gs.stm.blk.same h).cell 5,fun ty=>o.len Zbp ty⟩
 have a1:=h7.out _ d5;obtain ⟨nm,a6⟩:∃ nm,am.length=nm:=⟨_,rfl⟩
 have h8:=qH a6;rw [a6] at a1;clear E C ac dt hD V g3 a6 h7 gp bk;refine ZfD ?_
 repeat refine Zdg ?_
 refine Zes ?_;refine Zva ?_;refine Zaj 14 (fun U=>ZvQ b1 rd p q.fp mM nm U) (by kernel_rfl) a1 (fun j=>?_);refine ZbE ?_;refine Ybv 12 rfl (fun K z=>?_);go_simp;refine fs.mono ?_;rintro e wn ⟨rfl,rfl⟩;refine z.out _ _ a1 (fun j=>?_);clear z K fs;refine ZbE ?_;by_cases hn:nm=lv
 case neg =>
  have fi:((nm:Int)==(lv:Int))=false:=Ybn.2 qO;have HX:Hid (grP s=.error 142):=qH (by unfold grP;rw [Yab da.out,d2.out];simp only;rw [Zdc,dg.out];simp only;rw [Yac (by rw [h8.out,h6.out];exact hn)])
  clear hn;refine Ybi rfl (fun K z=>?_);go_simp;refine (Zas V1.drew 142).mono ?_;rintro e wn ⟨rfl,rfl⟩;refine fun t=>ZbB (dh.same d5).marks fun W' T=>?_;exact cx 142 W' HX ((ao.up.same d5).trans T fun b hb L=>by have:=L.1;have:=P.out;omega)
 have fi:((nm:Int)==(lv:Int))=true:=YbE.2 qO;refine Ybi rfl (fun K z=>?_);go_simp;refine (ZaP V1.drew 142).mono ?_;rintro e wn ⟨rfl,rfl⟩;refine z _ _ ?_;clear z K j a1;refine Zsv ?_;have bo:=ao.same d5;have ac:=dh.same d5;have fl:V1.drew.heap.size=V1.heap.size:=rfl;generalize V1.drew=V2 at *;have eq:=qH bo;have h9:=qH ac;have iy:=qH fl;have es:Hid (¬ am.length≠s.props.live):=qH (fun h=>h (by rw [h8.out,h6.out];exact hn));have q0:=bo.box.c0;have q1:=bo.gs.dec.blk.c0;have q2:=bo.gs.stm.blk.c6;clear bo ac fl hn fi d5 ao dh
 repeat refine Zdg ?_
 refine Zes ?_;go_wp2_with fail;refine (Zbo V2 q.fb).mono ?_;rintro e w7 ⟨rfl,rfl⟩;have ft:=Yad V2 67 #[.pointer (some ⟨q.fb,0,none⟩)];have e3:=(Yaa (fun _=>False) V2).alloc (.cells #[.pointer (some ⟨q.fb,0,none⟩)] 67);generalize V2.alloc (.cells #[.pointer (some ⟨q.fb,0,none⟩)] 67)=w7 at *;obtain ⟨b7,f7⟩:∃ b7,V2.heap.size=b7:=⟨_,rfl⟩
 rw [f7] at ft ⊢;have iz:=qH e3;have j0:=qH ft;have ab:=qH (eq.same e3);have d6:Hid (w.heap.size<=w7.heap.size/\D3<w7.heap.size/\w3.heap.size<=D3):=qH (by have o:=e3.size;have R:=ix.out;have h3:=eq.up.size;have h4:=iy.out;omega);clear ft e3 f7 q0 q1 q2;go_wp2_with fail;refine Zdr ?_;have V:=ab.gs.stm.fb;refine ZcG (f:=q.fb) (fB:=b7) V j0 rfl rfl
  (fun a4 W'=>Same w7 W'/\(∀ y∈a4,¬ (Zav y.2=1/\y.1 ∉ a7))/\Zbf w3.heap.size (D3+1) W' [{ target:=.collected D3,args:=#[] },{ target:=.collected D2,args:=#[] },{ target:=.collected D,args:=#[] }])
  (fun M=>grP s=.error M) (fun W'=>Same w7 W'/\Zbf w3.heap.size (D3+1) W' [{ target:=.collected D3,args:=#[] },{ target:=.collected D2,args:=#[] },{ target:=.collected D,args:=#[] }])
  ⟨Yaa _ _,(fun _ h=>by cases h),h9.same iz.out⟩
  (fun a4 X1 X2 ⟨o,R,h5⟩ T=>⟨o.trans T fun b hb L=>qt L.1,R,h5.upd T fun D' L hD=>by have:=L.1;have:=d6.out;omega⟩)
  (fun X1 X2 ⟨o,R⟩ T=>⟨o.trans T fun b hb L=>qt L.1,R.upd T fun D' L hD=>by have:=L.1;have:=d6.out;omega⟩) ?F4 ?assign4 ?body4 ?done4 ?panic4
 case assign4 =>
  intro lp x X1 K z;dsimp only [RE.args];gi_wp2;exact z
 case panic4 =>
  intro D4 M X1 hD cn ⟨co,dl⟩ e8;refine ZbB (dl.cons (qh d6) (qh d6) e8).marks fun W' T=>?_;exact cx M W' cn ((ab.up.same co).trans T fun b hb L=>by have:=L.1;have:=P.out;omega)
 case body4 =>
  intro lp a4 x X1 ⟨Z,ae,du⟩ O a0 hid ba af;rw [<- f8.out] at O a0;have a9:=Ybe a0;have ha:x.id<s.blobs.recs.length:=by rw [f8.out,Yag];exact hid
  have bp:=qH Z;have dy:=qH ae;have fu:=qH du;have fv:x.n=31:=by have o:=af.len;omega
  obtain ⟨bb,oo,hA,_,_,dq⟩:=af.at_ (i:=0) qO;obtain ⟨d0,g4⟩:∃ d0,Zav x.data=d0:=⟨_,rfl⟩
  have hf:(x.data[0]'(qO)).toNat=d0:=by rw [<- g4];unfold Zav;rw [List.headD_eq_head?_getD,List.head?_eq_getElem?,Yar qO];rfl
  rw [hf,YbW] at dq;have hh:=qH g4;have j1:=qH a9;have jc:=qH hA;have di:=ab.gs.blob.same Z;have q0:=(ab.box.same Z).c0;have q1:=(ab.gs.dec.blk.same Z).c6;have hj:Hid (d0=1->x.id ∉ a7->grP s=.error 142):=qH fun o R=>by unfold grP;rw [Yab da.out,d2.out];simp only;rw [Zdc,dg.out];simp only;rw [Yab es.out,Yac];rw [Yck];have h3:=Zds.1 j1.out;simp only at h3;refine ⟨x.id,ZcE.2 ⟨ZdI.2 ⟨_,h3⟩,?_⟩,by simpa using R⟩;unfold isS;rw [h3];simp only;rw [hh.out,o];rfl
  clear Z ae du O a0 af ba hid V a9 g4 hf;by_cases o:d0=1
  · subst o;by_cases hm:x.id∈a7
    · have a3:=(di.twice hm).1 X1 (Yaa _ X1);have HM:=qH hm;clear hm di;rw [hA,fv];gi_wp2_with fail;have bz:¬ (Zav (x.id,x.data).2=1/\(x.id,x.data).1 ∉ a7):=fun h=>h.2 HM.out;have bz:=qH bz;refine ⟨trivial,?_⟩;gi_at_call 66;refine (CallsIn.inRound lp (YaO.2 (ZaP X1 142))).mono ?_;rintro e X2 ⟨rfl,rfl⟩;gi_wp2;refine ⟨Yeg (Yaa _ X1),bp,fun y hy=>?_,fu⟩;rcases YaR.1 hy with hy | hy
      · exact dy y hy
      rw [YaH.1 hy];exact bz
    have a3:=(di.inc ha hm).1 X1 (Yaa _ X1);have HX:=qH (hj.out (by first | rfl | trivial) hm);clear hm di;rw [hA,fv];gi_wp2_with fail;refine ⟨trivial,?_⟩;gi_at_call 66;refine (CallsIn.inRound lp (YaO.2 (Zas X1 142))).mono ?_;rintro e X2 ⟨rfl,rfl⟩;exact ⟨rfl,Zah (Yaa (fun _=>False) X1) fun _ f=>f.elim,142,rfl,HX,bp,fu⟩
  have jd:((d0:Int) != 1)=true:=Ybh.2 qO;have bz:Hid (¬ (Zav (x.id,x.data).2=1/\(x.id,x.data).1 ∉ a7)):=qH (fun h=>o (by rw [<- hh.out];exact h.1));clear o di;rw [hA,fv];gi_wp2_with fail;refine ⟨trivial,?_⟩;gi_at_call 66;refine (CallsIn.inRound lp (YaO.2 (ZaP X1 142))).mono ?_;rintro e X2 ⟨rfl,rfl⟩;gi_wp2;refine ⟨Yeg (Yaa _ X1),bp,fun y hy=>?_,fu⟩;rcases YaR.1 hy with hy | hy
  · exact dy y hy
  rw [YaH.1 hy];exact bz
 intro D4 X1 hD ⟨Z,ae,du⟩ e8;rw [<- f8.out] at ae;have hl:=qH (du.cons (qh d6) (qh d6) e8);have bo:=ab.same Z;have c8:Hid (grP s=if (chkP (Zcg ⟨ns,rs⟩)).1≠0 then .error (chkP (Zcg ⟨ns,rs⟩)).1 else .ok (Zcg ⟨ns,rs⟩)):=qH (by unfold grP;rw [Yab da.out,d2.out];simp only;rw [Zdc,dg.out];simp only;rw [Yab es.out,Yab];intro h;obtain ⟨i,hi,j7⟩:=Yck.1 h;obtain ⟨o,R⟩:=ZcE.1 hi;obtain ⟨d,hd⟩:=ZdI.1 o;unfold isS at R;rw [hd] at R;simp only [YbE] at R;exact ae (i,d) (Zds.2 hd) ⟨R,by simpa using j7⟩)
 have fw:OkG ⟨ns,rs⟩:=by
  have o:=d2.out;rw [ZcF] at o;obtain ⟨_,_,_,_,_,_,k1⟩:=H0.st.tk;obtain ⟨_,_,_,_,_,_,k2⟩:=H0.st.tl;obtain ⟨_,_,_,_,_,_,k3⟩:=H0.st.tt;refine ZuY k1.texts k2.texts k3.texts o dg.out ?_ ?_
  · have h4:=Zcs s.nodes.recs 0;have h5:=H0.st.fn.len;rw [cy.out] at h4 ⊢;rw [Yag] at h4;omega
  have h4:=Zcs s.rels.recs 0;have h5:=H0.st.fr.len;rw [d7.out] at h4 ⊢;rw [Yag] at h4;omega
 have fx:Zap (fun a b:Int=>a<b) Zaw.id ns/\Zap (fun a b:Int=>a<b) GRel.id rs:=by have o:=d2.out;rw [ZcF] at o;exact ZuZ o dg.out
 obtain ⟨I,a8,an,av⟩:=bo.ex;have cu:=fw;rw [<- av] at cu;have et:=UpG.of an cu (by rw [av];exact fx.1) (by rw [av];exact fx.2);have cv:=qH (ZnW X1 I an.rd (cu.sized an) et);unfold GR.agg at cv;have cf:=qH a8;have ho:=qH bo.up;have hp:=qH fw.canon;have q0:=a8.c0;have q1:=a8.c1;rw [av] at cv;clear Z ae du e8 bo fw fx et a8 an av cu V;refine ZfD ?_;refine Zes ?_;go_wp2_with fail;refine cv.mono ?_;rintro e X2 ⟨⟨ea,aw,ax,ay,ec,az,b0,b2⟩,rfl,i1,i2,_,g5⟩;simp only;have ad:=cf.same g5;have r0:=ad.c0;have r1:=ad.c1;have z0:=ad.frozen 0;have z1:=ad.frozen 1;have fy:=qH i1.out;have hq:=qH i2.out;have eu:=qH g5;clear i1 i2 g5 q0 q1 cv;go_upto_region 25 with fail;obtain ⟨X3,ed⟩:∃ X3,((X2.setCell ⟨gB,0,none⟩ (.slice aw ax ay)).setCell ⟨gB,1,none⟩ (.slice az b0 b2))=X3:=⟨_,rfl⟩
 rw [ed];have a5:Upd (fun b=>b=gB) X2 X3:=by rw [<- ed];exact ((Yaa (fun b=>b=gB) X2).put1 _).put1 _
 have cg:Blk X3 gB 26 #[.slice aw ax ay,.slice az b0 b2]:=by rw [<- ed];exact (ad.put 0 (.slice aw ax ay)).put 1 (.slice az b0 b2)
 have hT:∀ g,g<X2.heap.size->g=gB->OfT X2 26 g:=fun g _ e=>e ▸ ⟨_,ad⟩;have e4:OwnG X3 w.heap.size ⟨ea,aw,ax,ay,ec,az,b0,b2⟩:=OwnG.base ⟨hq.nodes.type a5 hT qD qD qD qD,hq.rels.type a5 hT qD qD qD qD⟩ ho.size;have ev:Upd (fun b=>b=mM\/b=mB) w X3:=(ho.same eu).trans a5 fun b hb e=>by have:=HZ.out;have:=P.out;omega
 have ew:Zbf w3.heap.size (D4+1) X3 [{ target:=.collected D4,args:=#[] },{ target:=.collected D3,args:=#[] },{ target:=.collected D2,args:=#[] },{ target:=.collected D,args:=#[] }]:=(hl.same eu).upd a5 fun D' e _ h=>by unfold Blk at ad;rw [e,ad] at h;cases h
 obtain ⟨ck,g6⟩:∃ ck,chkP (Zcg ⟨ns,rs⟩)=ck:=⟨_,rfl⟩
 have cw:=qH (ZhP X3 ⟨ea,aw,ax,ay,ec,az,b0,b2⟩ e4.rd ((by rw [fy.out];exact hp.out:OkG _).sized e4) (e:=ck.1) (at_:=ck.2) (by rw [fy.out,g6]));unfold GR.agg at cw;simp only at cw;rw [g6] at c8;have hr:=qH cg;have j2:=qH e4;have ey:=qH ev;have ez:=qH ew;have r0:=cg.c0;have r1:=cg.c1;generalize ck.1=ce at *;generalize ck.2=ca at *;clear ed a5 cg hT e4 ev ew g6 ad z0 z1;go_wp2_with fail;refine cw.mono ?_;rintro e X4 ⟨rfl,ar⟩;have cb:=qH ar;have bd:=hr.same ar;have r0:=bd.c0;have r1:=bd.c1;have z0:=bd.frozen 0;have z1:=bd.frozen 1;have dj:=qH bd;clear ar bd cw;by_cases dk:ce=0
 case neg =>
  have HX:=qH (c8.trans (Yac dk));have j3:=qH dk;clear dk c8;go_wp2_with fail;refine (Zco X4 j3).mono ?_;rintro e X5 ⟨rfl,rfl⟩;refine ZbB (ez.same cb).marks fun W' T=>?_;exact cx ce W' HX ((ey.same cb).trans T fun b hb L=>by have:=L.1;have:=P.out;omega)
 have HX:=qH (c8.trans (Yab (fun h=>h dk)));subst dk;clear c8;go_wp2_with fail;refine (ZbP X4).mono ?_;rintro e X5 ⟨rfl,rfl⟩;go_wp2_with fail;have a5:Upd (fun b=>b=gB) X4 ((X4.setCell ⟨gB,0,none⟩ (.slice aw ax ay)).setCell ⟨gB,1,none⟩ (.slice az b0 b2)):=((Yaa (fun b=>b=gB) X4).put1 _).put1 _;have d3:Blk ((X4.setCell ⟨gB,0,none⟩ (.slice aw ax ay)).setCell ⟨gB,1,none⟩ (.slice az b0 b2)) gB 26 #[.slice aw ax ay,.slice az b0 b2]:=(dj.put 0 (.slice aw ax ay)).put 1 (.slice az b0 b2);generalize (X4.setCell ⟨gB,0,none⟩ (.slice aw ax ay)).setCell ⟨gB,1,none⟩ (.slice az b0 b2)=X5 at *;have hT:∀ g,g<X4.heap.size->g=gB->OfT X4 26 g:=fun g _ e=>e ▸ ⟨_,dj⟩;have ht:=j2.same cb.out;have j4:OwnG X5 w.heap.size ⟨ea,aw,ax,ay,ec,az,b0,b2⟩:=⟨ht.nodes.type a5 hT qD qD qD qD,ht.rels.type a5 hT qD qD qD qD⟩
 have hv:=(ez.same cb).upd a5 fun D' e _ h=>by have o:=dj.out;unfold Blk at o;rw [e,o] at h;cases h
 have hw:∀ b,(w3.heap.size<=b/\X5.heap[b]?=some (.deferred (some [])))->∀ (t:TypeId) (cs:Array Value),Blk X5 b t cs->False:=fun b h t cs hb=>by unfold Blk at hb;rw [hb] at h;cases h.2
 refine ZsA hv.marks fun W' T=>?_;refine ZvS rfl (d3.upd T fun h=>hw _ h _ _ d3) ?_;exact g7 _ W' ⟨ea,aw,ax,ay,ec,az,b0,b2⟩ HX (((ey.same cb).trans a5 fun b hb e=>by have:=HZ.out;have:=P.out;omega).trans T fun b hb L=>by have:=L.1;have:=P.out;omega) (by have o:=j4.cells T hw;rw [P.2];exact o) fy.out
end Go.Proofs.YtmkjfhnlnhceiaaGreatDoor
