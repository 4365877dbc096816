/- Texts that the claim leans on: walks and plain laws, function by function. -/
import Derived.Test.YtkopcinhbjimiaaGreatDoorS29
set_option maxRecDepth 100000
set_option maxHeartbeats 16000000
namespace Go.Proofs.YtkopcinhbjimiaaGreatDoor
open Go.RowKit
def ROwn (r fr d:Nat) (vf v1 v2:Value) (b:Nat):Prop:=b=r\/b=fr\/b=d\/vf.ownBlock=some b\/v1.ownBlock=some b\/v2.ownBlock=some b
structure ARd (w:World) (B r fr d:Nat) (vf v1 v2:Value) (gr:GR) (fed:Nat) (first rest all:List UInt8) (ready:List FR) (st:Nat) (er:Int):Prop where
 br:B<=r
 bd:B<=d
 blk:Blk w r 97 #[.int .i64 (fed:Int),vf,.pointer (some ⟨fr,0,none⟩),.pointer (some ⟨d,0,none⟩),.int .i64 (st:Int),.slice gr.AN gr.nN gr.cN,.slice gr.AR gr.nR gr.cR,.int .i64 0]
 fin:FRd w B fr v1 v2 rest ready er
 dig:Dig w d all
 fst:OwnB w B vf first
 own:OwnG w B gr
 ne:∀ g,vf.ownBlock=some g->v1.ownBlock≠some g
theorem FRd.same {w w':World} {B fr:Nat} {v1 v2:Value} {rest:List UInt8} {ready:List FR} {er:Int} (h:FRd w B fr v1 v2 rest ready er) (hu:Same w w'):FRd w' B fr v1 v2 rest ready er :=
 ⟨h.base,h.blk.same hu,h.orest.same hu,h.oready.same hu,fun x hx=>(h.each x hx).same hu⟩
theorem ARd.same {w w':World} {B r fr d:Nat} {vf v1 v2:Value} {gr:GR} {fed:Nat} {first rest all:List UInt8} {ready:List FR} {st:Nat} {er:Int} (h:ARd w B r fr d vf v1 v2 gr fed first rest all ready st er) (hu:Same w w'):ARd w' B r fr d vf v1 v2 gr fed first rest all ready st er :=
 ⟨h.br,h.bd,h.blk.same hu,h.fin.same hu,h.dig.same hu,Zaa h.fst hu,h.own.same hu,h.ne⟩
theorem Blk.ne {w:World} {g g':Nat} {t t':TypeId} {cs cs':Array Value} (h:Blk w g t cs) (h':Blk w g' t' cs') (hne:t≠t'):g≠g':=by
 rintro rfl
 exact hne (OfT.ne ⟨_,h⟩ ⟨_,h'⟩)
theorem FRd.upd {S:Nat->Prop} {w w':World} {B fr:Nat} {v1 v2:Value} {rest:List UInt8} {ready:List FR} {er:Int} (h:FRd w B fr v1 v2 rest ready er) (hu:Upd S w w') (h1:¬ S fr) (h2:∀ g,v1.ownBlock=some g->¬ S g) (h3:∀ g,v2.ownBlock=some g->¬ S g) (h4:∀ x∈ready,∀ g,(Value.slice x.A x.n x.c).ownBlock=some g->¬ S g):FRd w' B fr v1 v2 rest ready er :=
 ⟨h.base,h.blk.upd hu h1,h.orest.upd hu h2,h.oready.upd hu h3,fun x hx=>(h.each x hx).upd hu (h4 x hx)⟩
theorem OwnG.upd3 {S:Nat->Prop} {w w':World} {B:Nat} {gr:GR} (h:OwnG w B gr) (hu:Upd S w w') (hS:∀ g,S g->OfT w 97 g\/OfT w 121 g\/OfT w 5 g\/OfT w 142 g\/OfT w 84 g):OwnG w' B gr:=by
 have key:∀ {base k n:Nat} {e:TypeId} {v:Value} {xs:List Value},w.ownsRow base e k v n xs->e≠97->e≠121->e≠5->e≠142->e≠84->w'.ownsRow base e k v n xs:=fun h h1 h2 h3 h4 h5 =>
  Zam h hu fun g hg hs=>by
   have ho:=Zaq h hg
   rcases hS g hs with e | e | e | e | e
   · exact h1 (OfT.ne ho e)
   · exact h2 (OfT.ne ho e)
   · exact h3 (OfT.ne ho e)
   · exact h4 (OfT.ne ho e)
   exact h5 (OfT.ne ho e)
 have ps:∀ {v:Value} {l:List PR},ZbC w B v l->ZbC w' B v l:=fun hp=>⟨key hp.row (by decide) (by decide) (by decide) (by decide) (by decide),fun x hx=>⟨key (hp.each x hx).nums (by decide) (by decide) (by decide) (by decide) (by decide),key (hp.each x hx).texts (by decide) (by decide) (by decide) (by decide) (by decide),(hp.each x hx).fits⟩⟩
 exact ⟨⟨key h.nodes.row (by decide) (by decide) (by decide) (by decide) (by decide),fun x hx=>⟨key (h.nodes.each x hx).lab (by decide) (by decide) (by decide) (by decide) (by decide),ps (h.nodes.each x hx).pro,(h.nodes.each x hx).id⟩⟩,
  ⟨key h.rels.row (by decide) (by decide) (by decide) (by decide) (by decide),fun x hx=>⟨ps (h.rels.each x hx).pro,(h.rels.each x hx).id⟩⟩⟩
theorem ARd.next {w w':World} {B r fr d:Nat} {vf vf' v1 v2:Value} {gr:GR} {fed:Nat} {first rest all first' all':List UInt8} {st:Nat} (h:ARd w B r fr d vf v1 v2 gr fed first rest all [] st 0) (hu:Upd (fun b=>b=r\/b=d\/vf.ownBlock=some b) w w') (hk:Blk w' r 97 #[.int .i64 (fed:Int),vf',.pointer (some ⟨fr,0,none⟩),.pointer (some ⟨d,0,none⟩),.int .i64 (st:Int),.slice gr.AN gr.nN gr.cN,.slice gr.AR gr.nR gr.cR,.int .i64 0]) (hf:OwnB w' B vf' first') (hd:Dig w' d all') (hv:vf'.ownBlock=vf.ownBlock\/∃ g,vf'.ownBlock=some g/\w.heap.size<=g):ARd w' B r fr d vf' v1 v2 gr fed first' rest all' [] st 0:=by
 have hx:∀ {e:TypeId} {g:Nat},OfT w e g->(g=r\/g=d\/vf.ownBlock=some g)->e=97\/e=121\/e=5:=fun {e g} he hS=>by
  rcases hS with rfl | rfl | hS
  · exact .inl (OfT.ne he ⟨_,h.blk⟩)
  · exact .inr (.inl (OfT.ne he ⟨_,h.dig⟩))
  exact .inr (.inr (OfT.ne he (Zaq h.fst hS)))
 refine ⟨h.br,h.bd,hk,h.fin.upd hu (fun hS=>absurd (hx ⟨_,h.fin.blk⟩ hS) (by decide)) (fun g hg hS=>?_) (fun g hg hS=>absurd (hx (Zbi h.fin.oready hg) hS) (by decide)) (fun x hx=>by cases hx),hd,hf,h.own.upd3 hu fun g hS=>?_,fun g hg=>?_⟩
 · rcases hS with rfl | rfl | hS
   · exact absurd (OfT.ne (Zbi h.fin.orest hg) ⟨_,h.blk⟩) (by decide)
   · exact absurd (OfT.ne (Zbi h.fin.orest hg) ⟨_,h.dig⟩) (by decide)
   exact h.ne g hS hg
 · rcases hS with rfl | rfl | hS
   · exact .inl ⟨_,h.blk⟩
   · exact .inr (.inl ⟨_,h.dig⟩)
   exact .inr (.inr (.inl (Zaq h.fst hS)))
 rcases hv with hv | ⟨g',hv,hn⟩
 · exact h.ne g (hv ▸ hg)
 intro e
 have:=(h.fin.orest.lt g e).2
 rw [hv] at hg
 injection hg with hg
 omega
def ZjG (B r fr d:Nat) (vf v1 v2:Value) (gr:GR) (fed:Nat) (first rest all:List UInt8) (st:Nat) (bs:List UInt8) (F:Nat->Prop) (w:World) (e:Ending) (w':World):Prop :=
 Upd (fun b=>b=r\/b=d\/vf.ownBlock=some b) w w' /\
 ((∃ a0 a1 a2 a3 a4 a5 a6,first.length+bs.length>=8/\first.length<8/\first++bs.take (8-first.length)≠Zas/\e=.returned (.tuple #[.slice none 0 0,.int .i64 90])/\Blk w' r 97 #[a0,a1,a2,a3,a4,a5,a6,.int .i64 0]) \/
  (∃ A' n' c' vf',(first.length<8->first.length+bs.length>=8->first++bs.take (8-first.length)=Zas)/\e=.returned (.tuple #[.slice A' n' c',.int .i64 0])/\Bytes w' F A' n' c' (bs.drop (8-first.length))/\ARd w' B r fr d vf' v1 v2 gr fed (first++bs.take (8-first.length)) rest (all++bs.take (8-first.length)) [] st 0/\(vf'.ownBlock=vf.ownBlock\/∃ g,vf'.ownBlock=some g/\w.heap.size<=g)))
theorem ZjH {F:Nat->Prop} {B r fr d:Nat} {vf v1 v2:Value} {gr:GR} {fed:Nat} {first rest all:List UInt8} {st:Nat} {A:Option Addr} {n c:Nat} {bs:List UInt8} (w:World) (h:ARd w B r fr d vf v1 v2 gr fed first rest all [] st 0) (hb:Bytes w F A n c bs) (hF:∀ b,F b->¬ ROwn r fr d vf v1 v2 b) (hl8:first.length<=8) (hn:n<=16777216) (hal:all.length<=16777216) (hN:Nib w) (hG:1<B) :
 Calls Tryz.prog 91 #[.pointer (some ⟨r,0,none⟩),.slice A n c] w (ZjG B r fr d vf v1 v2 gr fed first rest all st bs F w):=by
 have h0:∀ e w',ZjG B r fr d vf v1 v2 gr fed first rest all st bs F w e w'↔ZjG B r fr d vf v1 v2 gr fed first rest all st bs F w e w':=fun _ _=>Iff.rfl
 conv at h0=>enter [e,w',2];unfold ZjG
 have HNR:=qH h0
 clear h0
 generalize ZjG B r fr d vf v1 v2 gr fed first rest all st bs F w=NRes at HNR ⊢
 obtain ⟨AF,cF,rfl⟩:=Zac h.fst
 obtain ⟨L,hL⟩:∃ L,first.length=L:=⟨_,rfl⟩
 have HBn:=qH hb.len
 have hle:=Row.le hb
 have hmx:=Row.max hb
 unfold maxLen at hmx
 have HA:=qH h
 have HY:=qH hb
 have HF:=qH hF
 have HN:=qH hN
 have p1:w.cell? ⟨r,1,none⟩=some (.slice AF L cF):=by rw [<- hL];exact h.blk.cell 1
 have p3:w.cell? ⟨r,3,none⟩=some (.pointer (some ⟨d,0,none⟩)):=h.blk.cell 3
 have HL:=qH hL
 rw [hL] at hl8
 clear h hb hF hN hL
 by_cases h8:L=8
 · have hq:((L:Int)==8)=true:=by rw [beq_iff_eq];omega
   have HL8:=qH h8
   clear h8
   go_enter Tryz.func91,Tryz.ntmps91
   go_wp2_with fail
   refine (HNR.out _ _).2 ⟨Upd.refl _ _,.inr ⟨A,n,c,.slice AF first.length cF,fun hh=>?_,rfl,?_,?_,.inl rfl⟩⟩
   · have:=HL.out;have:=HL8.out;omega
   · rw [HL.out,HL8.out]
     exact HY.out
   rw [HL.out,HL8.out]
   simp only [Nat.sub_self,List.take_zero,List.append_nil]
   have h9:=HA.out
   rw [HL.out,HL8.out] at h9
   exact h9
 have hq:((L:Int)==8)=false:=by rw [beq_eq_false_iff_ne];omega
 obtain ⟨k,hk⟩:∃ k,min n (8-L)=k:=⟨_,rfl⟩
 have hk1:k<=n:=by omega
 have hk2:k<=8-L:=by omega
 have hkI:min (n:Int) (8-(L:Int))=(k:Int):=by omega
 go_enter Tryz.func91,Tryz.ntmps91
 go_upto_region 4 with (fail)
 have s0:Same w w.drew:=(Upd.refl _ w).drew
 have HCh:=qH (HY.out.head (m:=k) hk1)
 have HRs:=qH (HY.out.rest (j:=k) hk1)
 have kk0:(0:Int)<=(k:Int):=by omega
 have kk1:(k:Int)<=(c:Int):=by omega
 have HOF:Hid (w.ownsRow B 5 1 (.slice AF L cF) L (first.map u8v)):=qH (by
  have h1:=HA.out.fst
  unfold OwnB at h1
  rw [HL.out] at h1
  exact h1)
 have hBw:B<=w.heap.size:=by have:=HA.out.br;have:=HA.out.blk.lt;omega
 have HSrc:Hid (Src Tryz.prog 1 28 (.slice A k c) k ((bs.take k).map u8v) w.drew):=qH (Zal Tryz.underlying28 (Row.same HCh.out s0) (ZcC _))
 have HHk:=qH hk
 clear hk
 refine ZaX 11 (fun wx=>wx.cell? ⟨r,1,none⟩=some (.slice AF L cF)) (by kernel_rfl) ((HA.out.blk.same s0).cell 1 |>.trans (by rw [<- HL.out];rfl)) (fun hHeld=>?_)
 repeat
  first
   | refine ESt.take (i:=0) (v:=?_) (by decide +kernel) rfl (by decide +kernel) (fun _ _ _ h=>h) (Or.inl ⟨by rfl,?_⟩) (by assumption) ?_
   | refine ESt.take (i:=1) (v:=?_) (by decide +kernel) rfl (by decide +kernel) (fun _ _ _ h=>h) (Or.inl ⟨by rfl,?_⟩) (by assumption) ?_
   | refine ESt.take (i:=2) (v:=?_) (by decide +kernel) rfl (by decide +kernel) (fun _ _ _ h=>h) (Or.inl ⟨by rfl,?_⟩) (by assumption) ?_
   | refine ESt.take (i:=3) (v:=?_) (by decide +kernel) rfl (by decide +kernel) (fun _ _ _ h=>h) (Or.inl ⟨by rfl,?_⟩) (by assumption) ?_
   | refine ESt.take (i:=4) (v:=?_) (by decide +kernel) rfl (by decide +kernel) (fun _ _ _ h=>h) (Or.inl ⟨by rfl,?_⟩) (by assumption) ?_
   | refine ESt.take (i:=5) (v:=?_) (by decide +kernel) rfl (by decide +kernel) (fun _ _ _ h=>h) (Or.inl ⟨by rfl,?_⟩) (by assumption) ?_
   | refine ESt.take (i:=6) (v:=?_) (by decide +kernel) rfl (by decide +kernel) (fun _ _ _ h=>h) (Or.inl ⟨by rfl,?_⟩) (by assumption) ?_
   | refine ESt.take (i:=7) (v:=?_) (by decide +kernel) rfl (by decide +kernel) (fun _ _ _ h=>h) (Or.inl ⟨by rfl,?_⟩) (by assumption) ?_
  rotate_left
  · intro wx hSw;have h0:=hSw;go_simp;try with_reducible rfl
  simp only [Act.put,List.setIfInBounds_toArray]
 refine ESt.branch (rs:=[8]) (by decide +kernel) (by decide +kernel) ?_
 refine AllE.cons rfl (fun K hK=>?_) AllE.nil
 simp only [Act.put,List.getElem_toArray,List.getElem_cons_succ,List.getElem_cons_zero,List.setIfInBounds_toArray,List.set_cons_succ,List.set_cons_zero]
 rw [if_pos (by rfl)]
 refine ZmG (m:=k) (news:=(bs.take k).map u8v) (xv:=.slice A k c) (.tmp 27) (.tmp 30) 28 28 rfl B _ _ _ _ Tryz.underlying28 ZaR rfl (.slice AF L cF) L _ rfl (Zaa HOF.out s0) rfl HSrc.out (by unfold maxLen;omega) (by omega) (by have:=s0.size;omega) ?_
 intro v9 w9 hg9
 have hkr:=HA.out.blk.same s0
 have hk9:=hkr.upd hg9.upd (hkr.ne_own (Zaa HOF.out s0) (by decide))
 obtain ⟨A9,c9,rfl⟩:=Zac hg9.own
 have HK9:=qH hk9
 have HG9:=qH hg9.own
 have HW9:=qH hg9.block
 have HW9U:=qH hg9.upd
 have hU9:Upd (fun b=>b=r\/b=d\/(Value.slice AF L cF).ownBlock=some b) w (w9.setCell ⟨r,1,none⟩ (.slice A9 (L+k) c9)):=Upd.put ((s0.mono (S':=fun b=>b=r\/b=d\/(Value.slice AF L cF).ownBlock=some b) fun _ _ f=>f.elim).trans hg9.upd fun _ _ e=>.inr (.inr e)) (.inl rfl) _
 have HU9:=qH hU9
 clear hg9 hU9 hkr
 refine hK.out _ _ ((hk9.cell 1).trans (by rw [<- HL.out];rfl)) (fun hHeld=>?_)
 clear hK K
 simp only [Act.put]
 repeat
  first
   | refine ESt.take (i:=9) (v:=?_) (by decide +kernel) rfl (by decide +kernel) (fun _ _ _ h=>h) (Or.inl ⟨by rfl,?_⟩) (by assumption) ?_
   | refine ESt.take (i:=10) (v:=?_) (by decide +kernel) rfl (by decide +kernel) (fun _ _ _ h=>h) (Or.inl ⟨by rfl,?_⟩) (by assumption) ?_
  rotate_left
  · intro wx hSw;have h0:=hSw;go_simp;try with_reducible rfl
  simp only [Act.put,List.setIfInBounds_toArray]
 refine ESt.last (by decide +kernel) (by decide +kernel) rfl (fun K hK=>?_) _
 have r3:w9.cell? ⟨r,1,none⟩=some (.slice AF L cF):=(hk9.cell 1).trans (by rw [<- HL.out];rfl)
 have z3:=hk9.frozen 1
 clear hk9
 go_simp
 refine hK.out _ _ ?_
 clear hK K hHeld z3 r3
 have hkA:Blk (w9.setCell ⟨r,1,none⟩ (.slice A9 (L+k) c9)) r 97 #[.int .i64 (fed:Int),.slice A9 (L+k) c9,.pointer (some ⟨fr,0,none⟩),.pointer (some ⟨d,0,none⟩),.int .i64 (st:Int),.slice gr.AN gr.nN gr.cN,.slice gr.AR gr.nR gr.cR,.int .i64 0]:=HK9.out.put 1 _
 have hlk:(first++bs.take k).length=L+k:=by
  rw [List.length_append,List.length_take,HL.out,HBn.out]
  omega
 have hfA:OwnB (w9.setCell ⟨r,1,none⟩ (.slice A9 (L+k) c9)) B (.slice A9 (L+k) c9) (first++bs.take k):=by
  unfold OwnB
  rw [hlk,List.map_append]
  refine Zam HG9.out ((Upd.refl (fun b=>b=r) w9).put1 _) fun g hg e=>?_
  subst e
  exact absurd (OfT.ne (Zaq HG9.out hg) ⟨_,HK9.out⟩) (by decide)
 have hdA:Dig (w9.setCell ⟨r,1,none⟩ (.slice A9 (L+k) c9)) d all:=by
  have h1:Dig w9 d all:=(HA.out.dig.same s0).upd HW9U.out fun e=>by
   have h2:=Zaq (Zaa HOF.out s0) e
   exact absurd (OfT.ne h2 ⟨_,HA.out.dig.same s0⟩) (by decide)
  exact h1.upd ((Upd.refl (fun b=>b=r) w9).put1 _) fun e=>by
   subst e
   exact absurd (OfT.ne ⟨_,h1⟩ ⟨_,HK9.out⟩) (by decide)
 have hvA:(Value.slice A9 (L+k) c9).ownBlock=(Value.slice AF L cF).ownBlock\/∃ g,(Value.slice A9 (L+k) c9).ownBlock=some g/\w.heap.size<=g:=by
  have h1:=HW9.out
  have h2:w.heap.size<=w.drew.heap.size:=s0.size
  rcases h1 with h1 | ⟨g,h1,h3⟩
  · exact .inl h1
  exact .inr ⟨g,h1,by omega⟩
 generalize w9.setCell ⟨r,1,none⟩ (.slice A9 (L+k) c9)=wA at *
 have HKA:=qH hkA
 have HFA:=qH hfA
 have HDA:=qH hdA
 have HVA:=qH hvA
 have hFA:∀ b,F b->¬ (b=r\/b=d\/(Value.slice AF L cF).ownBlock=some b):=fun b hb hS=>by
  have h1:=HF.out b hb
  unfold ROwn at h1
  rw [HL.out] at h1
  rcases hS with rfl | rfl | hS
  · exact h1 (.inl rfl)
  · exact h1 (.inr (.inr (.inl rfl)))
  exact h1 (.inr (.inr (.inr (.inl hS))))
 have HChA:=qH (Row.upd HCh.out HU9.out hFA)
 have HRsA:=qH (Row.upd HRs.out HU9.out hFA)
 have HlK:=qH hlk
 have HNA:Hid (Nib wA):=qH (HN.out.upd HU9.out fun hS=>by
  rcases hS with h1 | h1 | h1
  · have:=HA.out.br;omega
  · have:=HA.out.bd;omega
  have:=(Off.lt (Off.of HOF.out) _ h1).1;omega)
 have c1:wA.cell? ⟨r,1,none⟩=some (.slice A9 (L+k) c9):=HKA.out.cell 1
 have c3:wA.cell? ⟨r,3,none⟩=some (.pointer (some ⟨d,0,none⟩)):=HKA.out.cell 3
 have HHF:=qH hFA
 clear hFA hkA hfA hdA hvA hlk HK9 HG9 HW9 HW9U HCh HRs HSrc HN HBn s0 hBw hkI
 generalize hM:L+k=M at *
 have HM:=qH hM
 have hM8:M<=8:=by omega
 have c1':wA.cell? ⟨r,1,none⟩=some (.slice A9 M c9):=c1
 have hcv:=ZbF (Zau HlK.out HFA.out)
 have hEnd:∀ w',Upd (fun b=>b=d) wA w'->Dig w' d (all++bs.take k)->∀ A' n' c',Bytes w' F A' n' c' (bs.drop k)->(M=8->first++bs.take k=Zas)->NRes (.returned (.tuple #[.slice A' n' c',.int .i64 0])) w':=fun w' hu hd A' n' c' hb hm=>by
  have hh:=HHk.out
  have hmm:=HM.out
  have hln:=HY.out.len
  have hLL:=HL.out
  have e1:bs.take (8-first.length)=bs.take k:=by
   rcases Nat.le_total (8-L) n with h1 | h1
   · rw [hLL,show 8-L=k by omega]
   rw [hLL,List.take_of_length_le (by omega),List.take_of_length_le (by omega)]
  have e2:bs.drop (8-first.length)=bs.drop k:=by
   rcases Nat.le_total (8-L) n with h1 | h1
   · rw [hLL,show 8-L=k by omega]
   rw [hLL,List.drop_of_length_le (by omega),List.drop_of_length_le (by omega)]
  have hU:=HU9.out.trans hu fun b _ hb=>.inr (.inl hb)
  have hne:r≠d:=Blk.ne HKA.out HDA.out (by decide)
  have hA:=HA.out
  rw [hLL] at hA
  refine (HNR.out _ _).2 ⟨by rw [hLL];exact hU,.inr ⟨A',n',c',.slice A9 M c9,fun h1 h2=>?_,rfl,by rw [e2];exact hb,?_,by rw [hLL];exact HVA.out⟩⟩
  · rw [e1]
    exact hm (by omega)
  rw [e1]
  refine hA.next hU (HKA.out.upd hu hne) ?_ hd HVA.out
  unfold OwnB
  refine Zam HFA.out hu fun g hg e=>?_
  subst e
  exact absurd (OfT.ne (Zaq HFA.out hg) ⟨_,HDA.out⟩) (by decide)
 have HEnd:=qH hEnd
 clear hEnd hM
 go_upto_region 5 with (fail)
 go_cut [47] from 34 to 47 (fun s47 wx=>∃ q:Bool,s47=.bool q/\Hid (q=false->M=8->first++bs.take k=Zas)/\Hid (q=true->M=8/\first++bs.take k≠Zas)/\Hid (wx=wA))
 case first =>
  by_cases h9:M=8
  · have qM:((M:Int)==8)=true:=by rw [beq_iff_eq];omega
    have H9:=qH h9
    clear h9
    by_cases hm:first++bs.take k=Zas
    · have hmb:(first++bs.take k==[83,65,84,67,72,69,76,49])=true:=by
       rw [beq_iff_eq]
       exact hm
      have HMG:=qH hm
      clear hm
      go_wp2_with fail
      go_meet
      exact ⟨_,rfl,qH fun _ _=>HMG.out,qH (fun h=>by cases h),qH rfl⟩
    have hmb:(first++bs.take k==[83,65,84,67,72,69,76,49])=false:=by
     rw [beq_eq_false_iff_ne]
     exact hm
    have HMG:=qH hm
    clear hm
    go_wp2_with fail
    go_meet
    exact ⟨_,rfl,qH (fun h=>by cases h),qH fun _=>⟨H9.out,HMG.out⟩,qH rfl⟩
  have qM:((M:Int)==8)=false:=by rw [beq_eq_false_iff_ne];omega
  have H9:=qH h9
  clear h9
  go_wp2_with fail
  go_meet
  exact ⟨_,rfl,qH fun _ h=>absurd h H9.out,qH (fun h=>by cases h),qH rfl⟩
 obtain ⟨q,rfl,HQ1,HQ2,HWx⟩:=hcut
 obtain rfl:=HWx.out
 obtain ⟨wB,rfl⟩:∃ wB:World,wB=wc:=⟨_,rfl⟩
 clear HWx hcv
 cases q
 case true =>
  go_wp2_with fail
  have hh:=HHk.out
  have hmm:=HM.out
  have hLL:=HL.out
  have hln:=HY.out.len
  have h2:=HQ2.out trivial
  have e1:bs.take (8-first.length)=bs.take k:=by
   rcases Nat.le_total (8-L) n with h1 | h1
   · rw [hLL,show 8-L=k by omega]
   rw [hLL,List.take_of_length_le (by omega),List.take_of_length_le (by omega)]
  refine (HNR.out _ _).2 ⟨by rw [hLL];exact HU9.out,.inl ⟨_,_,_,_,_,_,_,by omega,by omega,by rw [e1];exact h2.2,rfl,HKA.out⟩⟩
 have HQ:=HQ1.out rfl
 have HQ':=qH HQ
 clear HQ
 have HC:Hid (∀ wx,Same wB wx->Calls Tryz.prog 38 #[.pointer (some ⟨d,0,none⟩),.slice A k c] wx fun e w'=>e=.returned (.tuple #[])/\Hid (Dig w' d (all++bs.take k))/\Hid (Upd (fun b=>b=d) wB w')):=qH fun wx hs=>(ZaU wx (HDA.out.same hs) (HChA.out.same hs) (HNA.out.same hs) (by omega)).mono fun e w' h=>⟨h.1,qH h.2.1,qH ((hs.mono fun _ _ f=>f.elim).trans h.2.2 fun _ _ h=>h)⟩
 go_upto_region 7 with (fail)
 go_cut [55] from 48 to 55 (fun s55 wx=>Hid (Dig wx d (all++bs.take k))/\Hid (Upd (fun b=>b=d) wB wx))
 case first =>
  go_region_with (go_at_call 38;refine (HC.out _ (by first | exact Upd.refl _ _ | exact (Upd.refl _ _).drew)).mono ?_;rintro e w' ⟨rfl,h1,h2⟩)
  all_goals go_wp2
  all_goals go_meet
  all_goals exact ⟨h1,h2⟩
 obtain ⟨w2,rfl⟩:∃ w2:World,w2=wc:=⟨_,rfl⟩
 obtain ⟨hd2,hu2⟩:=hcut
 have HD2:=hd2
 have HU2:=hu2
 have hb2:=HRsA.out.upd hu2.out fun b hb e=>HHF.out b hb (.inr (.inl e))
 have HB2:=qH hb2
 clear hd2 hu2 hb2
 by_cases hck:c=k
 · have h3:=HB2.out
   rw [if_pos hck,hck] at h3
   have hnk:n-k=0:=by omega
   rw [hnk,Nat.sub_self] at h3
   have HB3:=qH h3
   clear h3
   obtain rfl:n=k:=by omega
   subst hck
   go_wp2_with fail
   exact HEnd.out w2 HU2.out HD2.out _ _ _ HB3.out HQ'.out
 have h3:=HB2.out
 rw [if_neg hck] at h3
 have HB3:=qH h3
 clear h3
 go_wp2_with fail
 exact HEnd.out w2 HU2.out HD2.out _ _ _ HB3.out HQ'.out
end Go.Proofs.YtkopcinhbjimiaaGreatDoor
