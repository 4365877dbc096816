/- Texts that the claim leans on: walks and plain laws, function by function. -/
import Derived.Test.YtkopcinhbjimiaaGreatDoorS31
set_option maxRecDepth 100000
set_option maxHeartbeats 16000000
namespace Go.Proofs.YtkopcinhbjimiaaGreatDoor
open Go.RowKit
theorem InvP.start:InvP ⟨0,noG,Zas⟩:=⟨⟨by simp [noG],by simp [noG]⟩,.inl ⟨rfl,rfl,rfl⟩⟩
theorem ZpV {b bs:List UInt8} {s:PSt} (h:fedP b=.ok s) (hl:(b++bs).length<=16777216) (hm:(b.take 8).length<8->(b.take 8).length+bs.length>=8->b.take 8++bs.take (8-(b.take 8).length)=Zas) :
 (b++bs).take 8=b.take 8++bs.take (8-(b.take 8).length) /\
 fedP (b++bs)=ZdX ⟨s.state,s.g,s.all++bs.take (8-(b.take 8).length)⟩ (ZcG b++bs.drop (8-(b.take 8).length)) /\
 ZcG (b++bs)=(Zae (ZcG b++bs.drop (8-(b.take 8).length))).2.1 /\
 ((Zae (ZcG b++bs.drop (8-(b.take 8).length))).1≠[]->InvP ⟨s.state,s.g,s.all++bs.take (8-(b.take 8).length)⟩) /\
 (s.all++bs.take (8-(b.take 8).length)).length+(ZcG b++bs.drop (8-(b.take 8).length)).length=(b++bs).length:=by
 have hall:=Ziu h
 have hlen:(s.all++bs.take (8-(b.take 8).length)).length+(ZcG b++bs.drop (8-(b.take 8).length)).length=(b++bs).length:=by
  have h1:=congrArg List.length hall
  simp only [List.length_append,List.length_take,List.length_drop] at h1 ⊢
  omega
 by_cases h8:8<=b.length
 · have e8:8-(b.take 8).length=0:=by rw [List.length_take];omega
   obtain ⟨h1,hmg,he,ht,hr⟩:=Zit h h8
   obtain ⟨f1,f2⟩:=ZnM h h8 hl
   rw [e8] at hlen ⊢
   simp only [List.take_zero,List.append_nil,List.drop_zero] at hlen ⊢
   exact ⟨List.take_append_of_le_length h8,f1,f2,fun _=>Zfl _ _ _ InvP.start ht,hlen⟩
 have hs:=h
 rw [ZdU (by omega)] at hs
 injection hs with hs
 subst hs
 have e8:b.take 8=b:=List.take_of_length_le (by omega)
 have er:ZcG b=[]:=Zeo (by omega)
 rw [e8] at hm hlen ⊢
 rw [er] at hlen ⊢
 simp only [List.nil_append] at hlen ⊢
 have ht:(b++bs).take 8=b++bs.take (8-b.length):=by rw [List.take_append,e8]
 have hd:(b++bs).drop 8=bs.drop (8-b.length):=by rw [List.drop_append,List.drop_of_length_le (by omega),List.nil_append]
 by_cases h9:(b++bs).length<8
 · have hz:bs.drop (8-b.length)=[]:=by
    rw [List.length_append] at h9
    exact List.drop_of_length_le (by omega)
   have hz2:bs.take (8-b.length)=bs:=by
    rw [List.length_append] at h9
    exact List.take_of_length_le (by omega)
   refine ⟨ht,?_,?_,fun hh=>?_,hlen⟩
   · rw [ZdU h9,hz,hz2]
     unfold ZdX
     rw [ZbR]
     rfl
   · unfold ZcG
     rw [hd]
   rw [hz,ZbR] at hh
   exact absurd rfl hh
 have hmm:=hm (by omega) (by rw [List.length_append] at h9;omega)
 refine ⟨ht,?_,?_,fun _=>?_,hlen⟩
 · rw [ZnL hl (by omega) (by rw [ht];exact hmm),hd,hmm]
 · unfold ZcG
   rw [hd]
 rw [hmm]
 exact InvP.start
def FSet (w:World) (B r fr d:Nat) (vf v1 v2:Value) (b:Nat):Prop:=RSet w B r d b\/b=fr\/vf.ownBlock=some b\/v1.ownBlock=some b\/v2.ownBlock=some b
structure AOk (w:World) (B r fr d:Nat) (vf v1 v2:Value) (gr:GR) (fed:Nat) (b:List UInt8) (s:PSt):Prop where
 ard:ARd w B r fr d vf v1 v2 gr fed (b.take 8) (ZcG b) s.all [] s.state 0
 dat:gr.dat=s.g
 ok:fedP b=.ok s
def ZpW (B r fr d:Nat) (vf v1 v2:Value) (fed:Nat) (b bs:List UInt8) (w:World) (e:Ending) (w':World):Prop :=
 Upd (FSet w B r fr d vf v1 v2) w w' /\
 ((∃ (er:Int) (a0 a1 a2 a3 a4 a5 a6:Value),er≠0/\fedP (b++bs)=.error er/\e=.returned (.int .i64 er)/\Blk w' r 97 #[a0,a1,a2,a3,a4,a5,a6,.int .i64 0]) \/
  (∃ (s':PSt) (vf' v1' v2':Value) (gr':GR),e=.returned (.int .i64 0)/\AOk w' B r fr d vf' v1' v2' gr' fed (b++bs) s' /\
    (∀ g,vf'.ownBlock=some g\/v1'.ownBlock=some g\/v2'.ownBlock=some g->(vf.ownBlock=some g\/v1.ownBlock=some g\/v2.ownBlock=some g)\/w.heap.size<=g)))
def NextR (B fr:Nat) (v1 v2:Value) (rest:List UInt8) (fs:List FR) (er:Int) (w:World) (e:Ending) (w':World):Prop :=
 ∃ (ok:Bool) (z:FR) (v2':Value),e=.returned (.tuple #[.agg #[.int .i64 (z.type:Int),.slice z.A z.n z.c],.bool ok])/\FRd w' B fr v1 v2' rest fs.tail er/\Upd (fun b=>b=fr) w w'/\v2'.ownBlock=v2.ownBlock/\(fs=[]->ok=false)/\(∀ x xs,fs=x::xs->ok=true/\z=x/\ZcQ w' B x)
theorem ZjJ {B fr:Nat} {v1 v2:Value} {rest:List UInt8} {fs:List FR} {er:Int} (w:World) (h:FRd w B fr v1 v2 rest fs er) :
 Calls Tryz.prog 93 #[.pointer (some ⟨fr,0,none⟩)] w (NextR B fr v1 v2 rest fs er w):=by
 cases fs with
 | nil =>
   refine (ZnV w h).mono ?_
   rintro e w' ⟨rfl,hs⟩
   exact ⟨false,⟨0,[],none,0,0⟩,v2,rfl,h.same hs,hs.mono fun _ _ f=>f.elim,rfl,fun _=>rfl,(fun x xs e=>by cases e)⟩
 | cons x xs =>
   refine (ZmB w h).mono ?_
   rintro e w' ⟨v2',rfl,h1,h2,h3,h4⟩
   exact ⟨true,x,v2',rfl,h1,h3,h4,(fun e=>by cases e),(fun y ys e=>by injection e with e1 e2;subst e1;exact ⟨rfl,rfl,h2⟩)⟩
theorem ARd.frames {w w':World} {B r fr d:Nat} {vf v1 v2 v1' v2':Value} {gr:GR} {fed:Nat} {first rest rest' all:List UInt8} {ready ready':List FR} {st:Nat} {fe fe':Int} (h:ARd w B r fr d vf v1 v2 gr fed first rest all ready st fe) (hf:FRd w' B fr v1' v2' rest' ready' fe') (hu:Upd (fun b=>b=fr\/v1.ownBlock=some b\/v2.ownBlock=some b) w w') (hv:v1'.ownBlock=v1.ownBlock\/v1'.ownBlock=none\/∃ g,v1'.ownBlock=some g/\w.heap.size<=g):ARd w' B r fr d vf v1' v2' gr fed first rest' all ready' st fe':=by
 have hx:∀ {e:TypeId} {g:Nat},OfT w e g->e≠142->e≠5->e≠84->¬ (g=fr\/v1.ownBlock=some g\/v2.ownBlock=some g):=fun {e g} he n1 n2 n3 hS=>by
  rcases hS with rfl | hS | hS
  · exact n1 (OfT.ne he ⟨_,h.fin.blk⟩)
  · exact n2 (OfT.ne he (Zbi h.fin.orest hS))
  exact n3 (OfT.ne he (Zbi h.fin.oready hS))
 refine ⟨h.br,h.bd,h.blk.upd hu (hx ⟨_,h.blk⟩ (by decide) (by decide) (by decide)),hf,h.dig.upd hu (hx ⟨_,h.dig⟩ (by decide) (by decide) (by decide)),Zam h.fst hu fun g hg hS=>?_,h.own.upd3 hu fun g hS=>?_,fun g hg e=>?_⟩
 · rcases hS with rfl | hS | hS
   · exact absurd (OfT.ne (Zaq h.fst hg) ⟨_,h.fin.blk⟩) (by decide)
   · exact h.ne g hg hS
   exact absurd (OfT.ne (Zaq h.fst hg) (Zbi h.fin.oready hS)) (by decide)
 · rcases hS with rfl | hS | hS
   · exact .inr (.inr (.inr (.inl ⟨_,h.fin.blk⟩)))
   · exact .inr (.inr (.inl (Zbi h.fin.orest hS)))
   exact .inr (.inr (.inr (.inr (Zbi h.fin.oready hS))))
 rcases hv with hv | hv | ⟨k,hv,hk⟩
 · exact h.ne g hg (hv ▸ e)
 · rw [hv] at e;cases e
 rw [hv] at e
 injection e with e
 have:=(Off.lt (Off.of h.fst) g hg).2
 omega
theorem ARd.box {w w':World} {B r fr d g:Nat} {vf v1 v2:Value} {gr:GR} {fed:Nat} {first rest all:List UInt8} {ready:List FR} {st:Nat} {fe:Int} {cs:Array Value} (h:ARd w B r fr d vf v1 v2 gr fed first rest all ready st fe) (hu:Upd (fun b=>b=g) w w') (hk:Blk w g 84 cs) (hv:v2.ownBlock≠some g):ARd w' B r fr d vf v1 v2 gr fed first rest all ready st fe:=by
 have hx:∀ {e:TypeId} {b:Nat},OfT w e b->e≠84->¬ b=g:=fun {e b} he n1 hS=>by
  subst hS
  exact n1 (OfT.ne he ⟨_,hk⟩)
 refine ⟨h.br,h.bd,h.blk.upd hu (hx ⟨_,h.blk⟩ (by decide)),h.fin.upd hu (hx ⟨_,h.fin.blk⟩ (by decide)) (fun b hb=>hx (Zbi h.fin.orest hb) (by decide)) (fun b hb e=>hv (e ▸ hb)) (fun x hm b hb=>hx (Zaq (h.fin.each x hm).row hb) (by decide)),h.dig.upd hu (hx ⟨_,h.dig⟩ (by decide)),Zam h.fst hu fun b hb=>hx (Zaq h.fst hb) (by decide),h.own.upd3 hu fun b hb=>?_,h.ne⟩
 subst hb
 exact .inr (.inr (.inr (.inr ⟨_,hk⟩)))
def LSet (w:World) (B r fr d:Nat) (b:Nat):Prop:=b=fr\/RSet w B r d b
structure FLp (w2:World) (B r fr d:Nat) (vf v1 vv:Value) (fed:Nat) (first rest:List UInt8) (fe:Int) (R:Except Int PSt) (N:Nat) (w:World) (cur:List FR) (g7:Nat) (ok:Bool) (gr:GR) (st:Nat) (all:List UInt8) (v2:Value) (z:FR):Prop where
 no:cur=[]->ok=false
 yes:∀ x xs,cur=x::xs->ok=true/\z=x/\ZcQ w B x
 ard:ARd w B r fr d vf v1 v2 gr fed first rest all cur.tail st fe
 blk:Blk w g7 84 #[.int .i64 (z.type:Int),.slice z.A z.n z.c]
 new:w2.heap.size<=g7
 takes:R=ZaI (cur.map FR.dat) ⟨st,gr.dat,all⟩
 inv:cur≠[]->InvP ⟨st,gr.dat,all⟩
 len:all.length+((cur.map FR.dat).map fun f=>Zai f.type f.data).flatten.length<=N
 upd:Upd (LSet w2 B r fr d) w2 w
 own:v2.ownBlock=vv.ownBlock
theorem FSet.in_ {S:Nat->Prop} {w w1 w2:World} {B r fr d:Nat} {vf v1 v2:Value} (h1:Upd (FSet w B r fr d vf v1 v2) w w1) (h2:Upd S w1 w2) (hS:∀ g,g<w.heap.size->S g->(RSet w1 B r d g\/g=fr\/vf.ownBlock=some g\/v1.ownBlock=some g\/v2.ownBlock=some g)):Upd (FSet w B r fr d vf v1 v2) w w2 :=
 h1.trans h2 fun g hg h=>Classical.byContradiction fun hn=>hn ((hS g hg h).imp (RSet.back h1 hg hn) id)
theorem LSet.in_ {S:Nat->Prop} {w w1 w2:World} {B r fr d:Nat} (h1:Upd (LSet w B r fr d) w w1) (h2:Upd S w1 w2) (hS:∀ g,g<w.heap.size->S g->(g=fr\/RSet w1 B r d g)):Upd (LSet w B r fr d) w w2 :=
 h1.trans h2 fun g hg h=>Classical.byContradiction fun hn=>hn ((hS g hg h).imp id (RSet.back h1 hg hn))
theorem Zpc {s s':PSt} {X:List UInt8} (ht:ZaI (Zae X).1 s=.ok s') (h0:(Zae X).2.2=0) (h3:s'.state=3->(Zae X).2.1=[]):ZdX s X=.ok s':=by
 unfold ZdX
 rw [ht]
 simp only
 by_cases h:s'.state=3
 · rw [if_pos h,if_neg (by simp [h3 h])]
 rw [if_neg h,if_neg (by simp [h0])]
theorem ZjK {s s':PSt} {X:List UInt8} (ht:ZaI (Zae X).1 s=.ok s') (h3:s'.state=3) (h:(Zae X).2.2≠0\/(Zae X).2.1≠[]):ZdX s X=.error 11:=by
 unfold ZdX
 rw [ht]
 simp only
 rw [if_pos h3,if_pos (h.elim (fun h=>ZfK _ (Nat.le_refl _) h) id)]
theorem ZnW {s s':PSt} {X:List UInt8} (ht:ZaI (Zae X).1 s=.ok s') (h3:s'.state≠3) (h:(Zae X).2.2≠0):ZdX s X=.error (Zae X).2.2:=by
 unfold ZdX
 rw [ht]
 simp only
 rw [if_neg h3,if_pos h]
theorem ZmC {s:PSt} {X:List UInt8} {e:Int} (ht:ZaI (Zae X).1 s=.error e):ZdX s X=.error e:=by
 unfold ZdX
 rw [ht]
theorem ZcQ.bytesA {w:World} {B:Nat} {x:FR} (h:ZcQ w B x):Bytes w (fun b=>x.A=some ⟨b,0,none⟩/\B<=b) x.A x.n x.c x.data:=by
 refine Zau h.len ?_
 unfold OwnB
 have h1:=h.row
 rw [h.len]
 exact h1
theorem ZnX {F:Nat->Prop} {B r fr d:Nat} {vf v1 v2:Value} {gr:GR} {fed:Nat} {b bs:List UInt8} {s:PSt} {A:Option Addr} {n c:Nat} (w:World) (h:AOk w B r fr d vf v1 v2 gr fed b s) (hb:Bytes w F A n c bs) (hF:∀ g,F g->¬ FSet w B r fr d vf v1 v2 g) (hl:b.length+n<=16777216) (hN:Nib w) (hG:1<B) :
 Calls Tryz.prog 50 #[.pointer (some ⟨r,0,none⟩),.slice A n c] w (ZpW B r fr d vf v1 v2 fed b bs w):=by
 have HNR:=qH (show ∀ e w',ZpW B r fr d vf v1 v2 fed b bs w e w'↔Upd (FSet w B r fr d vf v1 v2) w w' /\
 ((∃ (er:Int) (a0 a1 a2 a3 a4 a5 a6:Value),er≠0/\fedP (b++bs)=.error er/\e=.returned (.int .i64 er)/\Blk w' r 97 #[a0,a1,a2,a3,a4,a5,a6,.int .i64 0]) \/
  (∃ (s':PSt) (vf' v1' v2':Value) (gr':GR),e=.returned (.int .i64 0)/\AOk w' B r fr d vf' v1' v2' gr' fed (b++bs) s' /\
    (∀ g,vf'.ownBlock=some g\/v1'.ownBlock=some g\/v2'.ownBlock=some g->(vf.ownBlock=some g\/v1.ownBlock=some g\/v2.ownBlock=some g)\/w.heap.size<=g))) from fun _ _=>Iff.rfl)
 generalize ZpW B r fr d vf v1 v2 fed b bs w=NRes at HNR ⊢
 have HA:=qH h
 have hln:=hb.len
 have hlb:(b++bs).length<=16777216:=by rw [List.length_append];omega
 have hal:=congrArg List.length (Ziu h.ok)
 rw [List.length_append] at hal
 have HLB:=qH hlb
 have HFF:=qH hF
 have HN:=qH hN
 have HLT:=qH (ZjH w h.ard hb (fun g hg hS=>hF g hg (by
  rcases hS with e | e | e | e | e | e
  · exact .inl (.inl e)
  · exact .inr (.inl e)
  · exact .inl (.inr (.inl e))
  · exact .inr (.inr (.inl e))
  · exact .inr (.inr (.inr (.inl e)))
  exact .inr (.inr (.inr (.inr e))))) (by rw [List.length_take];omega) (by omega) (by omega) hN hG)
 clear h hb hF hN hal
 go_enter Tryz.func50,Tryz.ntmps50
 go_wp2_with fail
 refine HLT.out.mono ?_
 rintro e w1 ⟨hu1,hres⟩
 have hU1:Upd (FSet w B r fr d vf v1 v2) w w1:=hu1.mono fun g _ e=>by
  rcases e with e | e | e
  · exact .inl (.inl e)
  · exact .inl (.inr (.inl e))
  exact .inr (.inr (.inl e))
 have HU1:=qH hU1
 clear hu1 hU1
 rcases hres with ⟨a0,a1,a2,a3,a4,a5,a6,hL1,hL2,hne,rfl,hk⟩ | ⟨A',n',c',vf',hm,rfl,hb',h1,hv'⟩
 · have HK:=qH hk
   have HE:Hid (fedP (b++bs)=.error 90):=qH (Zfo hlb (by rw [List.length_take] at hL1 hL2;rw [List.length_append];omega) (by
    have e8:b.take 8=b:=List.take_of_length_le (by rw [List.length_take] at hL2;omega)
    rw [List.take_append,e8]
    rw [e8] at hne
    exact hne))
   clear hL1 hL2 hne hk
   go_wp2_with fail
   exact (HNR.out _ _).2 ⟨HU1.out,.inl ⟨90,_,_,_,_,_,_,_,by decide,HE.out,rfl,HK.out⟩⟩
 obtain ⟨ht8,hfe,hrp,hin,hll⟩:=ZpV HA.out.ok hlb hm
 generalize hx:ZcG b++bs.drop (8-(b.take 8).length)=X at *
 generalize hal:s.all++bs.take (8-(b.take 8).length)=all at *
 have HT8:=qH ht8
 have HFE:=qH hfe
 have HRP:=qH hrp
 have HIN:=qH hin
 have HLL:=qH hll
 have H1:=qH h1
 have HV:=qH hv'
 have HXE:=qH hx
 have p2:w1.cell? ⟨r,2,none⟩=some (.pointer (some ⟨fr,0,none⟩)):=h1.blk.cell 2
 have HNS:Hid (∀ w',Upd (FSet w B r fr d vf v1 v2) w w'->Nib w'):=qH fun w' hu=>HN.out.upd hu fun hS=>by
  have h0:=HA.out.ard
  have e1:=h0.br
  have e2:=h0.bd
  have e3:=h0.fin.base
  rcases hS with (e | e | e) | e | e | e | e
  · omega
  · omega
  · omega
  · omega
  · have:=(Off.lt (Off.of h0.fst) _ e).1;omega
  · have:=(h0.fin.orest.lt _ e).1;omega
  have:=(h0.fin.oready.lt _ e).1;omega
 have HNG:=qH (HNS.out w1 HU1.out)
 have hxl:(ZcG b).length+n'<=16777216:=by
  have:=hb'.len
  rw [<- hx,List.length_append] at hll
  omega
 have hfd:=ZkL w1 h1.fin hb' hxl HNG.out hG
 rw [hx] at hfd
 have HFD:=qH hfd
 clear hfd ht8 hfe hrp hin hll h1 hv' hm hb' hxl hx hal
 go_wp2_with fail
 refine HFD.out.mono ?_
 rintro e w2 ⟨v1',v2',fs,rfl,hfs,hfr,hu2,hv1,hv2⟩
 have h2:=H1.out.frames hfr hu2 hv1
 have hU2:Upd (FSet w B r fr d vf v1 v2) w w2:=FSet.in_ HU1.out hu2 fun g _ e=>.inr (e.elim .inl fun e=>.inr (.inr e))
 have HU2:=qH hU2
 have HFS:=qH hfs
 have HV1:=qH hv1
 have HV2:=qH hv2
 obtain ⟨fe,hfe⟩:∃ fe,(Zae X).2.2=fe:=⟨_,rfl⟩
 rw [hfe] at h2 ⊢
 have HFe:=qH hfe
 obtain ⟨rest2,hr2⟩:∃ l,(if fe=0 then (Zae X).2.1 else [])=l:=⟨_,rfl⟩
 rw [hr2] at h2
 have HR2:=qH hr2
 have H2:=qH h2
 have p2':w2.cell? ⟨r,2,none⟩=some (.pointer (some ⟨fr,0,none⟩)):=h2.blk.cell 2
 have HNX:=qH (ZjJ w2 h2.fin)
 clear hfs hfr hu2 hv1 hv2 hU2 h2 hfe hr2 p2
 go_wp2_with fail
 refine HNX.out.mono ?_
 rintro e w3 ⟨ok,z,v3,rfl,hf3,hu3,hv3,hno,hyes⟩
 have hsz3:=hu3.size
 have h3:=H2.out.frames hf3 (hu3.mono fun _ _ e=>.inl e) (.inl rfl)
 have hk4:=Blk.new w3 84 #[.int .i64 (z.type:Int),.slice z.A z.n z.c]
 have hu4:=(Upd.refl (fun _=>False) w3).alloc (.cells #[.int .i64 (z.type:Int),.slice z.A z.n z.c] 84)
 obtain ⟨vr,hvr⟩:∃ R,ZaI (Zae X).1 ⟨s.state,s.g,all⟩=R:=⟨_,rfl⟩
 have HVR:=qH hvr
 have hFL:FLp w2 B r fr d vf' v1' v2' fed (b.take 8++bs.take (8-(b.take 8).length)) rest2 fe vr 16777216 (w3.alloc (.cells #[.int .i64 (z.type:Int),.slice z.A z.n z.c] 84)) fs w3.heap.size ok gr s.state all v3 z :=
  ⟨hno,fun x xs e=>⟨(hyes x xs e).1,(hyes x xs e).2.1,(hyes x xs e).2.2.same hu4⟩,h3.same hu4,hk4,hsz3,by rw [<- hvr,HA.out.dat,HFS.out],fun hne=>by
   have:=HIN.out (by rw [<- HFS.out];simpa using hne)
   rw [HA.out.dat]
   exact this,by
   have hf:=congrArg List.length (ZfI X.length X (Nat.le_refl _))
   have:=HLL.out
   rw [List.length_append] at hf
   rw [HFS.out]
   omega,(hu3.mono (S':=LSet w2 B r fr d) fun _ _ e=>.inl e).trans hu4 fun _ _ f=>f.elim,hv3⟩
 clear hno hyes h3 hk4 hsz3 hu3 hv3 hf3 hvr
 go_wp2_with fail
 generalize w3.alloc (.cells #[.int .i64 (z.type:Int),.slice z.A z.n z.c] 84)=w4 at *
 have HFL:=qH hFL
 clear hFL hu4 p2'
 generalize w3.heap.size=g7 at *
 go_loopg [7,8] (fs.length) (fun gh s7 s8 wr=>∃ (g7:Nat) (ok:Bool) (cur:List FR) (gx:GR) (st:Nat) (al:List UInt8) (vx:Value) (z:FR),s7=.pointer (some ⟨g7,0,none⟩)/\s8=.bool ok/\cur.length=gh/\Hid (FLp w2 B r fr d vf' v1' v2' fed (b.take 8++bs.take (8-(b.take 8).length)) rest2 fe vr 16777216 wr cur g7 ok gx st al vx z))
 case atStart=>exact ⟨g7,ok,fs,gr,s.state,all,v3,z,rfl,rfl,rfl,HFL⟩
 clear HFL
 obtain ⟨g7,ok,cur,gx,st,al,vx,z,rfl,rfl,hcl,HFL⟩:=hrel
 have HU:Hid (Upd (FSet w B r fr d vf v1 v2) w wr):=qH (FSet.in_ HU2.out HFL.out.upd fun g _ e=>e.elim (fun e=>.inr (.inl e)) .inl)
 have hfl:=HFL.out
 have p2:wr.cell? ⟨r,2,none⟩=some (.pointer (some ⟨fr,0,none⟩)):=hfl.ard.blk.cell 2
 cases cur with
 | nil =>
   obtain rfl:ok=false:=hfl.no rfl
   have p4:wr.cell? ⟨r,4,none⟩=some (.int .i64 (st:Int)):=hfl.ard.blk.cell 4
   have HTK:Hid (ZaI (Zae X).1 ⟨s.state,s.g,all⟩=.ok ⟨st,gx.dat,al⟩):=qH (by rw [HVR.out,hfl.takes];rfl)
   have HEr:Hid (∀ (er:Int),er≠0->ZdX ⟨s.state,s.g,all⟩ X=.error er->NRes (.returned (.int .i64 er)) wr):=qH fun er hne he=>(HNR.out _ _).2 ⟨HU.out,.inl ⟨er,_,_,_,_,_,_,_,hne,by rw [HFE.out];exact he,rfl,HFL.out.ard.blk⟩⟩
   have HOk:Hid (fe=0->(st=3->rest2=[])->NRes (.returned (.int .i64 0)) wr):=qH fun h0 h3=>by
    have hrr:=HR2.out
    rw [if_pos h0] at hrr
    refine (HNR.out _ _).2 ⟨HU.out,.inr ⟨⟨st,gx.dat,al⟩,vf',v1',vx,gx,rfl,⟨?_,rfl,?_⟩,fun g hg=>?_⟩⟩
    · have h1:=HFL.out.ard
      rw [HT8.out,HRP.out,hrr]
      rw [h0] at h1
      exact h1
    · rw [HFE.out]
      exact Zpc HTK.out (by rw [HFe.out];exact h0) (fun h=>by rw [hrr];exact h3 h)
    have hsz:=HU1.out.size
    rcases hg with hg | hg | hg
    · rcases HV.out with h | ⟨k,h,h2⟩
      · exact .inl (.inl (h ▸ hg))
      rw [h] at hg;injection hg with hg;exact .inr (by omega)
    · rcases HV1.out with h | h | ⟨k,h,h2⟩
      · exact .inl (.inr (.inl (h ▸ hg)))
      · rw [h] at hg;cases hg
      rw [h] at hg;injection hg with hg;exact .inr (by omega)
    rw [HFL.out.own] at hg
    rcases HV2.out with h | ⟨k,h,h2⟩
    · exact .inl (.inr (.inr (h ▸ hg)))
    rw [h] at hg;injection hg with hg;exact .inr (by omega)
   have HRS:=qH (ZkN wr hfl.ard.fin (n:=rest2.length) rfl)
   clear hfl
   by_cases s3:st=3
   · have q3:((st:Int)==3)=true:=by rw [beq_iff_eq];omega
     have S3:=qH s3
     clear s3
     by_cases f0:fe=0
     · have n0:(fe != 0)=false:=by simp [f0]
       have F0:=qH f0
       clear f0
       by_cases r0:rest2=[]
       · have g0:¬ (0:Int)<(rest2.length:Int):=by rw [r0];simp
         have R0:=qH r0
         clear r0
         go_wp2_with fail
         refine HRS.out.mono ?_
         rintro e w5 ⟨rfl,rfl⟩
         go_wp2_with fail
         rw [F0.out]
         exact HOk.out F0.out fun _=>R0.out
       have g0:(0:Int)<(rest2.length:Int):=by have:=List.length_pos_iff.2 r0;omega
       have R0:=qH r0
       clear r0
       go_wp2_with fail
       refine HRS.out.mono ?_
       rintro e w5 ⟨rfl,rfl⟩
       go_wp2_with fail
       exact HEr.out 11 (by decide) (ZjK HTK.out S3.out (.inr (by
        have hrr:=HR2.out
        rw [if_pos F0.out] at hrr
        rw [hrr]
        exact R0.out)))
     have n0:(fe != 0)=true:=by rw [bne_iff_ne];exact f0
     have F0:=qH f0
     clear f0
     go_wp2_with fail
     exact HEr.out 11 (by decide) (ZjK HTK.out S3.out (.inl (by rw [HFe.out];exact F0.out)))
   have q3:((st:Int)==3)=false:=by rw [beq_eq_false_iff_ne];omega
   have S3:=qH s3
   clear s3
   go_wp2_with fail
   by_cases f0:fe=0
   · subst f0
     exact HOk.out rfl fun h=>absurd h S3.out
   refine HEr.out fe f0 ?_
   have h1:=ZnW HTK.out S3.out (by rw [HFe.out];exact f0)
   rw [HFe.out] at h1
   exact h1
 | cons x xs =>
   obtain ⟨rfl,rfl,hox⟩:=hfl.yes x xs rfl
   have q0:wr.cell? ⟨g7,0,none⟩=some (.int .i64 (z.type:Int)):=hfl.blk.cell 0
   have q1:wr.cell? ⟨g7,1,none⟩=some (.slice z.A z.n z.c):=hfl.blk.cell 1
   have hiv:=hfl.inv (by simp)
   have hlen:=hfl.len
   have hpl:(Zai z.type z.data).length=z.data.length+9:=ZaE _ _
   simp only [List.map_cons,List.flatten_cons,List.length_append,FR.dat] at hlen
   have HTS:=qH (ZjI wr hfl.ard hox.bytesA (fun g hg hS=>by
    have ht:OfT wr 5 g:=Zaq hox.row (by rw [hg.1];rfl)
    rcases hS with rfl | rfl | ⟨hS | hS,_⟩
    · exact absurd (OfT.ne ht ⟨_,hfl.ard.blk⟩) (by decide)
    · exact absurd (OfT.ne ht ⟨_,hfl.ard.dig⟩) (by decide)
    · exact absurd (OfT.ne ht hS) (by decide)
    exact absurd (OfT.ne ht hS) (by decide)) hiv hox.ty hox.max (by omega) (HNS.out wr HU.out) hG)
   have HIV:=qH hiv
   have HLen:=qH hlen
   have HPl:=qH hpl
   clear hfl hiv hlen hpl hox
   go_wp2_with fail
   refine HTS.out.mono ?_
   rintro e w5 ⟨hu5,hres⟩
   have HL5:=qH (LSet.in_ HFL.out.upd hu5 fun g _ e=>.inr e)
   have HU5:=qH hu5
   clear hu5
   rcases hres with ⟨er,a0,a1,a2,a3,a4,a5,a6,hne,htk,rfl,hk⟩ | ⟨g',st',htk,rfl,h5⟩
   · have n0:(er != 0)=true:=by rw [bne_iff_ne];exact hne
     have HTk:=qH htk
     have HNe:=qH hne
     have HK:=qH hk
     clear htk hne hk
     go_wp2_with fail
     refine (HNR.out _ _).2 ⟨FSet.in_ HU2.out HL5.out fun g _ e=>e.elim (fun e=>.inr (.inl e)) .inl,.inl ⟨er,_,_,_,_,_,_,_,HNe.out,?_,rfl,HK.out⟩⟩
     rw [HFE.out]
     refine ZmC ?_
     rw [HVR.out,HFL.out.takes]
     simp only [List.map_cons,ZaI,FR.dat]
     rw [HTk.out]
   have HTk:=qH htk
   have H5:=qH h5
   have k5:=HFL.out.blk.upd HU5.out fun hS=>by
    have ht:OfT wr 84 g7:=⟨_,HFL.out.blk⟩
    rcases hS with e | e | ⟨hS | hS,_⟩
    · rw [e] at ht;exact absurd (OfT.ne ht ⟨_,HFL.out.ard.blk⟩) (by decide)
    · rw [e] at ht;exact absurd (OfT.ne ht ⟨_,HFL.out.ard.dig⟩) (by decide)
    · exact absurd (OfT.ne ht hS) (by decide)
    exact absurd (OfT.ne ht hS) (by decide)
   have q05:w5.cell? ⟨g7,0,none⟩=some (.int .i64 (z.type:Int)):=k5.cell 0
   have q15:w5.cell? ⟨g7,1,none⟩=some (.slice z.A z.n z.c):=k5.cell 1
   have s6:=(Upd.refl (fun _=>False) w5).alloc (.cells #[.int .i64 (z.type:Int),.slice z.A z.n z.c] 84)
   have hk6:=Blk.new w5 84 #[.int .i64 (z.type:Int),.slice z.A z.n z.c]
   have HNX6:=qH (ZjJ _ (h5.same s6).fin)
   have p26:(w5.alloc (.cells #[.int .i64 (z.type:Int),.slice z.A z.n z.c] 84)).cell? ⟨r,2,none⟩=some (.pointer (some ⟨fr,0,none⟩)):=(h5.same s6).blk.cell 2
   have hfr5:=h5.fin.blk.lt
   have hnv:vx.ownBlock≠some w5.heap.size:=fun e=>by have:=(h5.fin.oready.lt _ e).2;omega
   have h6:=h5.same s6
   have HL6:=qH (HL5.out.trans s6 fun _ _ f=>f.elim)
   clear htk h5 k5 q0 q1 p2
   go_upto_region 7 with fail
   generalize w5.alloc (.cells #[.int .i64 (z.type:Int),.slice z.A z.n z.c] 84)=w6 at *
   have hz5:=HL5.out.size
   generalize w5.heap.size=g8 at *
   have H6:=qH h6
   have HK6:=qH hk6
   clear h6 hk6
   go_wp2_with fail
   refine HNX6.out.mono ?_
   rintro e w7 ⟨ok2,z2,v3,rfl,hf7,hu7,hv7,hno7,hyes7⟩
   have k7:=HK6.out.upd hu7 (by omega)
   have c70:=k7.cell 0
   have c71:=k7.cell 1
   have f70:=k7.frozen 0
   have f71:=k7.frozen 1
   simp only [List.getElem?_toArray,List.getElem?_cons_succ,List.getElem?_cons_zero] at c70 c71
   have h7:=H6.out.frames hf7 (hu7.mono fun _ _ e=>.inl e) (.inl rfl)
   have hu8:=((Upd.refl (fun b=>b=g8) w7).put1 (i:=0) (.int .i64 (z2.type:Int))).put1 (i:=1) (.slice z2.A z2.n z2.c)
   have k8:=(k7.put 0 (.int .i64 (z2.type:Int))).put 1 (.slice z2.A z2.n z2.c)
   have h8:=h7.box hu8 k7 (by rw [hv7];exact hnv)
   have HFN:=qH (show FLp w2 B r fr d vf' v1' v2' fed (b.take 8++bs.take (8-(b.take 8).length)) rest2 fe vr 16777216 ((w7.setCell ⟨g8,0,none⟩ (.int .i64 (z2.type:Int))).setCell ⟨g8,1,none⟩ (.slice z2.A z2.n z2.c)) xs g8 ok2 g' st' (al++Zai z.type z.data) v3 z2 from
    ⟨hno7,fun x xs e=>⟨(hyes7 x xs e).1,(hyes7 x xs e).2.1,(hyes7 x xs e).2.2.upd hu8 fun g hg e2=>by
     subst e2
     exact absurd (OfT.ne (Zaq (hyes7 x xs e).2.2.row hg) ⟨_,k7⟩) (by decide)⟩,h8,k8,hz5,by
     rw [HFL.out.takes]
     simp only [List.map_cons,ZaI,FR.dat]
     rw [HTk.out],fun _=>Zjx HIV.out HTk.out,by
     have:=HLen.out
     rw [List.length_append]
     omega,(LSet.in_ HL6.out hu7 fun g _ e=>.inl e).trans hu8 fun g hg e=>by omega,by rw [hv7];exact HFL.out.own⟩)
   clear hno7 hyes7 h7 h8 k7 k8 hu7 hu8 hf7 hv7
   go_wp2_with fail
   go_roundg xs.length
   case measure=>rw [<- hcl];simp
   case rel=>exact ⟨g8,ok2,xs,g',st',al++Zai z.type z.data,v3,z2,rfl,rfl,rfl,HFN⟩
theorem ARd.turn {w w':World} {B r fr d:Nat} {vf v1 v2:Value} {gr:GR} {fed fed':Nat} {first rest all:List UInt8} {ready:List FR} {st:Nat} {fe:Int} (h:ARd w B r fr d vf v1 v2 gr fed first rest all ready st fe) (hu:Upd (fun b=>b=r) w w') (hk:Blk w' r 97 #[.int .i64 (fed':Int),vf,.pointer (some ⟨fr,0,none⟩),.pointer (some ⟨d,0,none⟩),.int .i64 (st:Int),.slice gr.AN gr.nN gr.cN,.slice gr.AR gr.nR gr.cR,.int .i64 0]):ARd w' B r fr d vf v1 v2 gr fed' first rest all ready st fe:=by
 have hx:∀ {e:TypeId} {b:Nat},OfT w e b->e≠97->¬ b=r:=fun {e b} he n1 hS=>by
  subst hS
  exact n1 (OfT.ne he ⟨_,h.blk⟩)
 exact ⟨h.br,h.bd,hk,h.fin.upd hu (hx ⟨_,h.fin.blk⟩ (by decide)) (fun g hg=>hx (Zbi h.fin.orest hg) (by decide)) (fun g hg=>hx (Zbi h.fin.oready hg) (by decide)) (fun x hm g hg=>hx (Zaq (h.fin.each x hm).row hg) (by decide)),h.dig.upd hu (hx ⟨_,h.dig⟩ (by decide)),Zam h.fst hu fun g hg=>hx (Zaq h.fst hg) (by decide),h.own.upd3 hu fun g e=>.inl (e ▸ ⟨_,h.blk⟩),h.ne⟩
theorem Zer (w:World):Calls Tryz.prog 23 #[] w fun e w'=>∃ r fr d,e=.returned (.pointer (some ⟨r,0,none⟩))/\AOk w' w.heap.size r fr d (.slice none 0 0) (.slice none 0 0) (.slice none 0 0) ⟨[],none,0,0,[],none,0,0⟩ 0 [] ⟨0,noG,[]⟩/\Same w w':=by
 go_enter Tryz.func23,Tryz.ntmps23
 go_wp2_with fail
 refine (ZmA w).mono ?_
 rintro e w1 ⟨rfl,hf,hs1⟩
 go_wp2_with fail
 refine (Zgx w1).mono ?_
 rintro e w2 ⟨d,rfl,hd,rfl,hs2⟩
 go_wp2
 go_ret
 have hsz1:=hs1.size
 have hsz2:=hs2.size
 have s3:=(Upd.refl (fun _=>False) w2).alloc (.cells #[.int .i64 0,.slice none 0 0,.pointer (some ⟨w.heap.size,0,none⟩),.pointer (some ⟨w1.heap.size,0,none⟩),.int .i64 0,.slice none 0 0,.slice none 0 0,.int .i64 0] 97)
 have hk:=Blk.new w2 97 #[.int .i64 0,.slice none 0 0,.pointer (some ⟨w.heap.size,0,none⟩),.pointer (some ⟨w1.heap.size,0,none⟩),.int .i64 0,.slice none 0 0,.slice none 0 0,.int .i64 0]
 refine ⟨w2.heap.size,w.heap.size,w1.heap.size,rfl,⟨⟨by omega,by omega,hk,?_,hd.same s3,World.ownsRow_nil _ _ _ _,OwnG.nil_ _ _,fun g hg=>by cases hg⟩,rfl,rfl⟩,(hs1.trans hs2 fun _ _ f=>f).trans s3 fun _ _ f=>f⟩
 have hr:ZcG []=[]:=Zeo (by simp)
 rw [hr]
 exact (hf.same hs2).same s3
def ZnY (B r fr d:Nat) (vf v1 v2:Value) (b bs:List UInt8) (w:World) (e:Ending) (w':World):Prop :=
 Upd (FSet w B r fr d vf v1 v2) w w' /\
 ((∃ (er:Int) (a0 a1 a2 a3 a4 a5 a6:Value),er≠0/\fedP (b++bs)=.error er/\e=.returned (.int .i64 er)/\Blk w' r 97 #[a0,a1,a2,a3,a4,a5,a6,.int .i64 er]) \/
  (∃ (s':PSt) (vf' v1' v2':Value) (gr':GR),e=.returned (.int .i64 0)/\AOk w' B r fr d vf' v1' v2' gr' (b++bs).length (b++bs) s' /\
    (∀ g,vf'.ownBlock=some g\/v1'.ownBlock=some g\/v2'.ownBlock=some g->(vf.ownBlock=some g\/v1.ownBlock=some g\/v2.ownBlock=some g)\/w.heap.size<=g)))
theorem ZdI {F:Nat->Prop} {B r fr d:Nat} {vf v1 v2:Value} {gr:GR} {b bs:List UInt8} {s:PSt} {A:Option Addr} {n c:Nat} (w:World) (h:AOk w B r fr d vf v1 v2 gr b.length b s) (hb:Bytes w F A n c bs) (hF:∀ g,F g->¬ FSet w B r fr d vf v1 v2 g) (hN:Nib w) (hG:1<B) :
 Calls Tryz.prog 24 #[.pointer (some ⟨r,0,none⟩),.slice A n c] w (ZnY B r fr d vf v1 v2 b bs w):=by
 have HNR:=qH (show ∀ e w',ZnY B r fr d vf v1 v2 b bs w e w'↔Upd (FSet w B r fr d vf v1 v2) w w' /\
 ((∃ (er:Int) (a0 a1 a2 a3 a4 a5 a6:Value),er≠0/\fedP (b++bs)=.error er/\e=.returned (.int .i64 er)/\Blk w' r 97 #[a0,a1,a2,a3,a4,a5,a6,.int .i64 er]) \/
  (∃ (s':PSt) (vf' v1' v2':Value) (gr':GR),e=.returned (.int .i64 0)/\AOk w' B r fr d vf' v1' v2' gr' (b++bs).length (b++bs) s' /\
    (∀ g,vf'.ownBlock=some g\/v1'.ownBlock=some g\/v2'.ownBlock=some g->(vf.ownBlock=some g\/v1.ownBlock=some g\/v2.ownBlock=some g)\/w.heap.size<=g))) from fun _ _=>Iff.rfl)
 generalize ZnY B r fr d vf v1 v2 b bs w=NRes at HNR ⊢
 have hbl:b.length<=16777216:=by
  by_cases h1:b.length<=16777216
  · exact h1
  have h2:=h.ok
  rw [ZeN (by omega)] at h2
  cases h2
 have hln:=hb.len
 have hmx:=Row.max hb
 have hle:=Row.le hb
 unfold maxLen at hmx
 have p0:w.cell? ⟨r,0,none⟩=some (.int .i64 (b.length:Int)):=h.ard.blk.cell 0
 have p7:w.cell? ⟨r,7,none⟩=some (.int .i64 0):=h.ard.blk.cell 7
 have f0:=h.ard.blk.frozen 0
 have f7:=h.ard.blk.frozen 7
 have hu0:=(Upd.refl (fun b=>b=r) w).put1 (i:=0) (.int .i64 ((b.length:Int)+(n:Int)))
 have hk0:=h.ard.blk.put 0 (.int .i64 ((b.length:Int)+(n:Int)))
 have HA:=qH h
 have HU0:=qH hu0
 have HBs:=qH (show (b++bs).length=b.length+n by rw [List.length_append,hln])
 by_cases hg:(16777216:Int)-(b.length:Int)<(n:Int)
 · have HE:=qH (show fedP (b++bs)=.error 1 from ZeN (by rw [List.length_append];omega))
   have hu7:=qH ((Upd.refl (fun b=>b=r) w).put1 (i:=7) (.int .i64 1))
   have hk7:=qH (h.ard.blk.put 7 (.int .i64 1))
   have c7:(w.setCell ⟨r,7,none⟩ (.int .i64 1)).cell? ⟨r,7,none⟩=some (.int .i64 1):=hk7.out.cell 7
   clear h hb hF hN hu0 hk0
   go_enter Tryz.func24,Tryz.ntmps24
   go_wp2_with fail
   exact (HNR.out _ _).2 ⟨hu7.out.mono fun g _ e=>.inl (.inl e),.inl ⟨1,_,_,_,_,_,_,_,by decide,HE.out,rfl,hk7.out⟩⟩
 have hu0':=hu0.mono (S':=FSet w B r fr d vf v1 v2) fun g _ e=>.inl (.inl e)
 have hA1:AOk (w.setCell ⟨r,0,none⟩ (.int .i64 ((b.length:Int)+(n:Int)))) B r fr d vf v1 v2 gr (b.length+n) b s :=
  ⟨h.ard.turn hu0 (by rw [Int.natCast_add];exact hk0),h.dat,h.ok⟩
 have hF1:∀ g,(F g/\g<w.heap.size)->¬ FSet (w.setCell ⟨r,0,none⟩ (.int .i64 ((b.length:Int)+(n:Int)))) B r fr d vf v1 v2 g:=fun g hg hS=>by
  by_cases hr:g=r
  · exact hF g hg.1 (.inl (.inl hr))
  exact hF g hg.1 (hS.imp (RSet.back hu0 hg.2 hr) id)
 have hb1:=(hb.mono (F':=fun g=>F g/\g<w.heap.size) fun g h1 h2=>⟨h2,h1⟩).upd hu0 fun g hg e=>hF g hg.1 (.inl (.inl e))
 have hN1:=hN.upd hu0 (by have:=h.ard.br;omega)
 have HFD:=qH (ZnX _ hA1 hb1 hF1 (by omega) hN1 hG)
 have HU1:=qH hu0'
 have HFF:=qH hF
 clear h hb hF hN hA1 hF1 hb1 hN1 hu0'
 go_enter Tryz.func24,Tryz.ntmps24
 go_upto_region 2 with fail
 generalize w.setCell ⟨r,0,none⟩ (.int .i64 ((b.length:Int)+(n:Int)))=w1 at *
 go_wp2_with fail
 refine HFD.out.mono ?_
 rintro e w2 ⟨hu2,hres⟩
 have hu2':=qH (FSet.in_ HU1.out hu2 fun g _ e=>e)
 rcases hres with ⟨er,a0,a1,a2,a3,a4,a5,a6,hne,htk,rfl,hk⟩ | ⟨s',vf',v1',v2',gr',rfl,hok,hown⟩
 · have q7:w2.cell? ⟨r,7,none⟩=some (.int .i64 0):=hk.cell 7
   have g7:=hk.frozen 7
   have hk8:=hk.put 7 (.int .i64 er)
   have q8:(w2.setCell ⟨r,7,none⟩ (.int .i64 er)).cell? ⟨r,7,none⟩=some (.int .i64 er):=hk8.cell 7
   have hu8:=(Upd.refl (fun b=>b=r) w2).put1 (i:=7) (.int .i64 er)
   have HK8:=qH hk8
   have HU8:=qH hu8
   have HNe:=qH hne
   have HTk:=qH htk
   clear hk hk8 hu8 hne htk hu2
   go_wp2_with fail
   exact (HNR.out _ _).2 ⟨FSet.in_ hu2'.out HU8.out fun g _ e=>.inl (.inl e),.inl ⟨er,_,_,_,_,_,_,_,HNe.out,HTk.out,rfl,HK8.out⟩⟩
 have q7:w2.cell? ⟨r,7,none⟩=some (.int .i64 0):=hok.ard.blk.cell 7
 have g7:=hok.ard.blk.frozen 7
 have hk8:=hok.ard.blk.put 7 (.int .i64 0)
 have q8:(w2.setCell ⟨r,7,none⟩ (.int .i64 0)).cell? ⟨r,7,none⟩=some (.int .i64 0):=hk8.cell 7
 have hu8:=(Upd.refl (fun b=>b=r) w2).put1 (i:=7) (.int .i64 0)
 have HU8:=qH hu8
 have HOK:Hid (AOk (w2.setCell ⟨r,7,none⟩ (.int .i64 0)) B r fr d vf' v1' v2' gr' (b++bs).length (b++bs) s'):=qH ⟨by rw [HBs.out];exact hok.ard.turn hu8 hk8,hok.dat,hok.ok⟩
 have HW:=qH hown
 have hz:=qH hu0.size
 clear hok hk8 hu8 hown hu2
 go_wp2_with fail
 refine (HNR.out _ _).2 ⟨FSet.in_ hu2'.out HU8.out fun g _ e=>.inl (.inl e),.inr ⟨s',vf',v1',v2',gr',rfl,HOK.out,fun g hg=>(HW.out g hg).imp id fun h=>by have:=hz.out;omega⟩⟩
end Go.Proofs.YtkopcinhbjimiaaGreatDoor
