/- Texts that the claim leans on: walks and plain laws, function by function. -/
import Derived.Test.YtkopcinhbjimiaaGreatDoorS14
import Derived.Test.YtkopcinhbjimiaaGreatDoorS20
set_option maxRecDepth 100000
set_option maxHeartbeats 16000000
namespace Go.Proofs.YtkopcinhbjimiaaGreatDoor
open Go.RowKit
def PR.blocks (x:PR) (k:Nat):Prop:=(Value.slice x.A1 x.n1 x.c1).ownBlock=some k\/(Value.slice x.A2 x.n2 x.c2).ownBlock=some k
def ND.blocks (x:ND) (k:Nat):Prop:=(Value.slice x.AL x.nL x.cL).ownBlock=some k\/(Value.slice x.AP x.nP x.cP).ownBlock=some k\/∃ p∈x.props,p.blocks k
def RL.blocks (x:RL) (k:Nat):Prop:=(Value.slice x.AP x.nP x.cP).ownBlock=some k\/∃ p∈x.props,p.blocks k
def PR.Apart (x y:PR):Prop:=∀ k,x.blocks k->¬ y.blocks k
def ND.Apart (x y:ND):Prop:=∀ k,x.blocks k->¬ y.blocks k
def RL.Apart (x y:RL):Prop:=∀ k,x.blocks k->¬ y.blocks k
def ND.Fine (x:ND):Prop:=x.props.Pairwise PR.Apart/\∀ k,(Value.slice x.AL x.nL x.cL).ownBlock=some k->∀ p∈x.props,¬ p.blocks k
theorem ZbI.blk {w:World} {B:Nat} {x:PR} (h:ZbI w B x) {k:Nat} (hk:x.blocks k):B<=k/\k<w.heap.size:=by
 rcases hk with hk | hk
 · exact h.nums.lt k hk
 exact h.texts.lt k hk
theorem ZbC.blk {w:World} {B:Nat} {v:Value} {ps:List PR} (h:ZbC w B v ps) {k:Nat} (hk:v.ownBlock=some k\/∃ p∈ps,p.blocks k):B<=k/\k<w.heap.size:=by
 rcases hk with hk | ⟨p,hp,hk⟩
 · exact h.row.lt k hk
 exact (h.each p hp).blk hk
theorem ZcY.blk {w:World} {B:Nat} {x:ND} (h:ZcY w B x) {k:Nat} (hk:x.blocks k):B<=k/\k<w.heap.size:=by
 rcases hk with hk | hk
 · exact h.lab.lt k hk
 exact h.pro.blk hk
theorem Zdr.blk {w:World} {B:Nat} {x:RL} (h:Zdr w B x) {k:Nat} (hk:x.blocks k):B<=k/\k<w.heap.size:=h.pro.blk hk
theorem Zky {α:Type} {R:α->α->Prop} {l:List α} {y:α} (h:l.Pairwise R) (hy:∀ x∈l,R x y):(l++[y]).Pairwise R :=
 List.pairwise_append.2 ⟨h,List.pairwise_singleton _ _,fun a ha b hb=>by
  obtain rfl:=List.mem_singleton.1 hb
  exact hy a ha⟩
theorem Zkz {α:Type} {R:α->α->Prop} (hs:∀ x y,R x y->R y x) {l m:List α} (h:l.Pairwise R) (hp:m.Perm l):m.Pairwise R:=(List.Perm.pairwise_iff (fun {x y} h=>hs x y h) hp).2 h
theorem PR.Apart.symm (x y:PR) (h:x.Apart y):y.Apart x:=fun k h1 h2=>h k h2 h1
theorem ND.Apart.symm (x y:ND) (h:x.Apart y):y.Apart x:=fun k h1 h2=>h k h2 h1
theorem RL.Apart.symm (x y:RL) (h:x.Apart y):y.Apart x:=fun k h1 h2=>h k h2 h1
theorem ZeM {α:Type} {f:α->List Value} {k i j:Nat} (hf:∀ x,(f x).length=k) (P Q:List α) (x y:α) {u:Value} (hj:j<k) (he:f y=(f x).set j u) (hi:P.length=i):((P++x::Q).flatMap f).set (i*k+j) u=(P++y::Q).flatMap f:=by
 rw [List.flatMap_append,List.flatMap_append,List.flatMap_cons,List.flatMap_cons,he]
 rw [List.set_append_right _ _ (by rw [ZbX hf,hi];omega),ZbX hf,hi,Nat.add_sub_cancel_left,List.set_append_left _ _ (by rw [hf];exact hj)]
theorem ZpF {ps:List PR} {i:Nat} {x:PR} (h:ps[i]?=some x):ps.drop i=x::ps.drop (i+1):=by
 obtain ⟨h1,h2⟩:=List.getElem?_eq_some_iff.1 h
 rw [List.drop_eq_getElem_cons h1,h2]
theorem ZlF {w:World} {B n c i:Nat} {A:Option Addr} {l1 Q:List PR} {x:PR} (h:w.ownsRow B 48 6 (.slice A n c) n ((l1++x::Q).flatMap PR.cells)) (hl:l1.length=i) :
 ∃ g,A=some ⟨g,0,none⟩/\B<=g/\g<w.heap.size/\i<n/\AtP w g i x/\FrP w g i /\
  (∀ (A1:Option Addr) (c1:Nat),(w.setCell ⟨g,i*6+4,none⟩ (.slice A1 x.n1 c1)).ownsRow B 48 6 (.slice A n c) n ((l1++{ x with A1:=A1,c1:=c1 }::Q).flatMap PR.cells)) /\
  ∀ (A2:Option Addr) (c2:Nat),(w.setCell ⟨g,i*6+5,none⟩ (.slice A2 x.n2 c2)).ownsRow B 48 6 (.slice A n c) n ((l1++{ x with A2:=A2,c2:=c2 }::Q).flatMap PR.cells):=by
 have hlen:=Zca h PR.six (by omega)
 rw [List.length_append,List.length_cons] at hlen
 obtain ⟨g,_,rfl,hB,hg,_,_,_,s4⟩:=Zdx (i:=i*6+4) h (by omega)
 obtain ⟨_,_,hA,_,_,_,_,_,s5⟩:=Zdx (i:=i*6+5) h (by omega)
 injection hA with hA
 injection hA with hA _ _
 subst hA
 obtain ⟨h1,_,h3,h4⟩:=OwnP.at_ h (ZcF l1 Q x hl)
 refine ⟨_,rfl,hB,hg,h1,h3,h4,fun A1 c1=>?_,fun A2 c2=>?_⟩
 · have:=s4 (.slice A1 x.n1 c1)
   rwa [ZeM PR.six l1 Q x { x with A1:=A1,c1:=c1 } (by omega) rfl hl] at this
 have:=s5 (.slice A2 x.n2 c2)
 rwa [ZeM PR.six l1 Q x { x with A2:=A2,c2:=c2 } (by omega) rfl hl] at this
theorem ZdE {F:Nat->Prop} {A:Option Addr} {n c:Nat} {ls:List PR} (w:World) (h:RdPs w F A n c ls) (hsm:Zkm n ls) :
 Calls Tryz.prog 67 #[.slice A n c] w fun e w'=>∃ (A':Option Addr) (c':Nat) (l:List PR),e=.returned (.slice A' n c')/\Hid (l.map PR.dat=Zdt ltS GPr.key (ls.map PR.dat))/\Hid (ZbC w' w.heap.size (.slice A' n c') l)/\Hid (l.Pairwise PR.Apart)/\Same w w':=by
 have HL:=qH h.len
 have HR:=qH h
 have HF:=qH hsm.2
 have hn:=hsm.1
 clear h hsm
 go_enter Tryz.func67,Tryz.ntmps67
 go_wp2_with fail
 refine (Zkx w HR.out.row (by omega)).mono ?_
 rintro e w1 ⟨A1,c1,rfl,HO1,hs1⟩
 have HS1:=qH hs1
 clear hs1
 go_wp2_with fail
 go_loopg [9] n (fun gh s9 wr=>∃ (i:Nat) (l1:List PR),n-i=gh/\i<=n/\s9=.int .i64 i/\Hid (l1.length=i)/\Hid (l1.map PR.dat=(ls.take i).map PR.dat)/\Hid (wr.ownsRow w.heap.size 48 6 (.slice A1 n c1) n ((l1++ls.drop i).flatMap PR.cells))/\Hid (∀ x∈l1,ZbI wr w.heap.size x)/\Hid (l1.Pairwise PR.Apart)/\Hid (Same w wr))
 case atStart=>exact ⟨0,[],rfl,Nat.zero_le _,rfl,qH rfl,qH rfl,HO1,qH (by simp),qH List.Pairwise.nil,HS1⟩
 obtain ⟨i,l1,rfl,hi,rfl,KL,KD,KO,KV,KA,KS⟩:=hrel
 by_cases hlt:i<n
 · obtain ⟨x,hx⟩:∃ x,ls[i]?=some x:=⟨_,List.getElem?_eq_getElem (by rw [HL.out];exact hlt)⟩
   have hxm:x∈ls:=List.mem_of_getElem? hx
   have hO:=KO.out
   rw [ZpF hx] at hO
   obtain ⟨g,rfl,hB,hg,_,hAx,hFx,s4,_⟩:=ZlF hO KL.out
   have HV:=qH ((HR.out.same KS.out).val x hxm)
   have HXF:=qH (show x.g.Fits from ⟨HV.out.kind,HV.out.num,HV.out.range⟩)
   have HT:=qH (HF.out x hxm)
   have HXM:=qH hxm
   have HD:=qH (ZfD hx)
   have HO:=qH hO
   have HAx:=qH hAx
   have HFx:=qH hFx
   have hz:=KS.out.size
   obtain ⟨c0,c1',c2',c3',c4,c5⟩:=hAx
   clear hx hxm hO s4 hFx
   go_upto_region 5 with fail
   go_wp2_with fail
   refine (Zmu wr HV.out.nums (by have:=HT.1;omega)).mono ?_
   rintro e w2 ⟨Y1,d1,rfl,HY1,hs2⟩
   clear c0 c1' c2' c3' c4 c5
   obtain ⟨_,hA,_,hg2,_,hAx2,hFx2,s4,_⟩:=ZlF (Zaa HO.out hs2) KL.out
   injection hA with hA
   injection hA with hA _ _
   subst hA
   have HS2:=qH (KS.out.same hs2)
   have HV2:=qH (HV.out.same hs2)
   have HKV2:=qH (fun y hy=>(KV.out y hy).same hs2)
   have hz2:=hs2.size
   have HNB1:Hid (∀ k,(Value.slice Y1 x.n1 d1).ownBlock=some k->wr.heap.size<=k):=qH fun k hk=>(HY1.out.lt k hk).1
   have HY1b:Hid (w2.ownsRow w.heap.size 2 1 (.slice Y1 x.n1 d1) x.n1 (x.g.nums.map (Value.int .i64))):=qH (Zad HY1.out (by omega))
   have h4:(w2.setCell ⟨g,i*6+1+3,none⟩ (.slice Y1 x.n1 d1)).ownsRow w.heap.size 48 6 (.slice (some ⟨g,0,none⟩) n c1) n ((l1++{ x with A1:=Y1,c1:=d1 }::ls.drop (i+1)).flatMap PR.cells):=s4 Y1 d1
   have hne:(Value.slice Y1 x.n1 d1).ownBlock≠some g:=fun e=>by have:=(HY1.out.lt _ e).1;omega
   have hu3:=(Upd.refl (fun b=>b=g) w2).put1 (i:=i*6+1+3) (.slice Y1 x.n1 d1)
   have HO3:=qH h4
   have HU3:=qH hu3
   have HNE:=qH hne
   obtain ⟨e0,e1,e2,e3,e4,e5⟩:=hAx2
   obtain ⟨f0,f1,f2,f3,f4,f5⟩:=hFx2
   have HT2:=qH (Zaq (Zaa HO.out hs2) (g:=g) rfl)
   clear hs2 s4 h4 hne hu3
   go_upto_region 6 with fail
   clear e0 e1 e2 e3 e4 e5 f0 f1 f2 f3 f4 f5
   generalize w2.setCell ⟨g,i*6+1+3,none⟩ (.slice Y1 x.n1 d1)=w3 at *
   obtain ⟨_,hA,_,hg3,_,hAx3,hFx3,_,_⟩:=ZlF HO3.out KL.out
   injection hA with hA
   injection hA with hA _ _
   subst hA
   have c5:w3.cell? ⟨g,i*6+5,none⟩=some (.slice x.A2 x.n2 x.c2):=hAx3.2.2.2.2.2
   have HS3:=qH (HS2.out.trans HU3.out fun b hb hh=>by subst hh;omega)
   have HV3:=qH ((HR.out.same HS3.out).val x HXM.out)
   have HVB3:=qH (Zam HY1b.out HU3.out fun k hk hh=>HNE.out (by rw [hk,hh]))
   have HKV3:=qH (fun y hy=>(HKV2.out y hy).type HU3.out (fun k _ hk=>by rw [hk];exact HT2.out) (by decide) (by decide))
   have hz3:=HS3.out.size
   have hzz:wr.heap.size<=w3.heap.size:=Nat.le_trans hz2 HU3.out.size
   clear hAx3 hFx3 HU3
   go_wp2_with fail
   refine (ZhN w3 HV3.out.texts (by have:=HT.2;omega)).mono ?_
   rintro e w4 ⟨Y2,d2,rfl,HY2,hs4⟩
   clear c5
   obtain ⟨_,hA,_,hg4,_,hAx4,hFx4,_,s5⟩:=ZlF (Zaa HO3.out hs4) KL.out
   injection hA with hA
   injection hA with hA _ _
   subst hA
   have h5:(w4.setCell ⟨g,i*6+1+4,none⟩ (.slice Y2 x.n2 d2)).ownsRow w.heap.size 48 6 (.slice (some ⟨g,0,none⟩) n c1) n ((l1++{ x with A1:=Y1,c1:=d1,A2:=Y2,c2:=d2 }::ls.drop (i+1)).flatMap PR.cells):=s5 Y2 d2
   have hu5:=(Upd.refl (fun b=>b=g) w4).put1 (i:=i*6+1+4) (.slice Y2 x.n2 d2)
   have HT4:=qH (Zaq (Zaa HO3.out hs4) (g:=g) rfl)
   have hz4:=hs4.size
   have hy2:(w4.setCell ⟨g,i*6+1+4,none⟩ (.slice Y2 x.n2 d2)).ownsRow w.heap.size 9 1 (.slice Y2 x.n2 d2) x.n2 (x.g.texts.map Value.string) :=
    Zam (Zad HY2.out (by omega)) hu5 fun k hk hh=>by have:=(HY2.out.lt _ hk).1;omega
   have hy1:=Zam (Zaa HVB3.out hs4) hu5 fun k hk hh=>HNE.out (by rw [hk,hh])
   have hkv:=fun y hy=>((HKV3.out y hy).same hs4).type hu5 (fun k _ hk=>by rw [hk];exact HT4.out) (by decide) (by decide)
   have hs5:=(HS3.out.same hs4).trans hu5 fun b hb hh=>by subst hh;omega
   have HNB:Hid (∀ k,PR.blocks { x with A1:=Y1,c1:=d1,A2:=Y2,c2:=d2 } k->wr.heap.size<=k):=qH fun k hk=>by
    rcases hk with hk | hk
    · exact HNB1.out k hk
    have:=(HY2.out.lt k hk).1
    omega
   have HO5:=qH h5
   have HY5:=qH (show ZbI _ w.heap.size { x with A1:=Y1,c1:=d1,A2:=Y2,c2:=d2 } from ⟨hy1,hy2,HXF.out⟩)
   have HKV5:=qH hkv
   have HS5:=qH hs5
   have e5:w4.cell? ⟨g,i*6+5,none⟩=some (.slice x.A2 x.n2 x.c2):=hAx4.2.2.2.2.2
   have f5:w4.frozen? ⟨g,i*6+5,none⟩=false:=hFx4.2.2.2.2.2
   clear h5 hu5 hy1 hy2 hkv hs5 hAx4 hFx4 s5 hs4
   go_upto_region 7 with fail
   clear e5 f5
   generalize w4.setCell ⟨g,i*6+1+4,none⟩ (.slice Y2 x.n2 d2)=w5 at *
   go_wp2
   go_roundg (n-(i+1))
   case measure=>omega
   refine ⟨i+1,l1++[{ x with A1:=Y1,c1:=d1,A2:=Y2,c2:=d2 }],rfl,by omega,by go_num,qH (by rw [List.length_append,KL.out];rfl),qH (by rw [List.map_append,KD.out,HD.out];rfl),qH (by rw [List.append_assoc];exact HO5.out),qH fun y hy=>?_,qH (Zky KA.out fun y hy k h1 h2=>by have h3:=((KV.out y hy).blk h1).2;have h4:=HNB.out k h2;omega),HS5⟩
   rcases List.mem_append.1 hy with hy | hy
   · exact HKV5.out y hy
   obtain rfl:=List.mem_singleton.1 hy
   exact HY5.out
 obtain rfl:i=n:=by omega
 have hO:=KO.out
 rw [List.drop_of_length_le (by rw [HL.out];exact Nat.le_refl _),List.append_nil] at hO
 have HO:=qH hO
 have hD:=KD.out
 rw [List.take_of_length_le (by rw [HL.out];exact Nat.le_refl _)] at hD
 have HD:=qH hD
 clear hO hD KD KO
 go_wp2_with fail
 refine (ZpE wr HO.out (by omega)).mono ?_
 rintro e w2 ⟨rfl,s,h1,h2,h3',h4⟩
 have h3:Zah PR.key s l1:=Zfi h3'
 have HF2:Hid (ZbC w2 w.heap.size (.slice A1 i c1) s):=qH ⟨by rw [Zca h1 PR.six (by omega)];exact h1,fun y hy=>(KV.out y (h3.mem hy)).type h4 (fun k _ hk=>Zaq HO.out hk) (by decide) (by decide)⟩
 have HE2:Hid (s.map PR.dat=Zdt ltS GPr.key (ls.map PR.dat)):=qH (by
  rw [<- HD.out]
  exact ZeK Zay (h2.map (f:=PR.dat) fun _=>rfl) (h3.map (f:=PR.dat) fun _=>rfl))
 have HS2:=qH (KS.out.trans h4 fun b hb hh=>by have:=(HO.out.lt b hh).1;omega)
 have HA2:=qH (Zkz PR.Apart.symm KA.out h3.perm)
 clear h1 h2 h3 h3' h4
 go_wp2
 go_ret
 exact ⟨_,_,s,rfl,HE2,HF2,HA2,HS2.out⟩
end Go.Proofs.YtkopcinhbjimiaaGreatDoor
