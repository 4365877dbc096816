/- Texts that the claim leans on: walks and plain laws, function by function. -/
import Derived.Deep.WholeRow
import Derived.Test.YtkopcinhbjimiaaGreatDoorS15
import Derived.Test.YtkopcinhbjimiaaGreatDoorS17
set_option maxRecDepth 100000
set_option maxHeartbeats 16000000
namespace Go.Proofs.YtkopcinhbjimiaaGreatDoor
def ZlA:Value->Bool
 | .bool b=>!b
 | _=>false
theorem Znz:(Tryz.zeroCells98).toList.all ZlA=true:=by kernel_rfl
theorem ZlB:∀ v∈(Tryz.zeroCells98).toList,v=.bool false:=fun v hv=>by
 have h1:=List.all_eq_true.1 Znz v hv
 cases v <;> simp [ZlA] at h1
 subst h1
 rfl
theorem ZoS:(Tryz.zeroCells98).all (·.oneCell')=true:=by
 rw [<- Array.all_toList,List.all_eq_true]
 intro v hv
 rw [ZlB v hv]
 rfl
theorem ZpC {y:Nat} (hy:y<1024):(Tryz.zeroCells98)[y]?=some (.bool false):=by
 have hs:y<(Tryz.zeroCells98).size:=by rw [Tryz.zeroCells98_size];exact hy
 rw [Array.getElem?_eq_getElem hs]
 congr 1
 exact ZlB _ (Array.getElem_mem_toList hs)
theorem ZnA:(Tryz.prog.info? 98).map (·.size)=some (Tryz.zeroCells98).size:=by
 rw [Tryz.zeroCells98_size]
 kernel_rfl
end Go.Proofs.YtkopcinhbjimiaaGreatDoor
namespace Go.Proofs.YtkopcinhbjimiaaGreatDoor
open Go.RowKit
theorem Zbc {F:Nat->Prop} {g:GR} (k:Int) (w:World) (h:RdG w F g) (hT:(Zaf g.dat k).length<=8796093022208) {m:List ByteArray} (hm:Srt (Zaf g.dat k) m) :
 Calls Tryz.prog 54 #[g.agg,.int .i64 k] w fun e w'=>∃ (A:Option Addr) (c:Nat),e=.returned (.slice A m.length c)/\Same w w':=by
 refine (Zkn k w g h hT).mono ?_
 rintro e w' ⟨A,c,m',rfl,_,h2,_,h4⟩
 have h5:=(Zlz (ZhH h2.out) hm).2
 rw [List.length_map] at h5
 rw [h5]
 exact ⟨A,c,rfl,h4⟩
def Zhj:Option Int->Int
 | none => -1
 | some q=>q
def Zcw (g:Zak) (tl:Int):Int×Nat :=
 match ZaH g with
 | some x=>x
 | none=>(tl,0)
structure Bits (w:World) (gT:Nat) (l:List Int):Prop where
 blk:∃ cs,Blk w gT 98 cs/\cs.size=1024/\∀ y:Nat,y<1024->cs[y]?=some (.bool (decide ((y:Int)∈l)))
theorem Bits.upd {S:Nat->Prop} {w w':World} {gT:Nat} {l:List Int} (h:Bits w gT l) (hu:Upd S w w') (hs:¬ S gT):Bits w' gT l:=by
 obtain ⟨cs,h1,h2,h3⟩:=h.blk
 exact ⟨cs,h1.upd hu hs,h2,h3⟩
theorem Bits.same {w w':World} {gT:Nat} {l:List Int} (h:Bits w gT l) (hu:Same w w'):Bits w' gT l:=h.upd hu fun f=>f
theorem Bits.cell {w:World} {gT:Nat} {l:List Int} (h:Bits w gT l) {y:Nat} (hy:y<1024):w.cell? ⟨gT,y,none⟩=some (.bool (decide ((y:Int)∈l))):=by
 obtain ⟨cs,h1,_,h3⟩:=h.blk
 exact (h1.cell y).trans (h3 y hy)
theorem Bits.frozen {w:World} {gT:Nat} {l:List Int} (h:Bits w gT l) (y:Nat):w.frozen? ⟨gT,y,none⟩=false:=by
 obtain ⟨cs,h1,_⟩:=h.blk
 exact h1.frozen y
theorem Bits.put {w:World} {gT:Nat} {l:List Int} (h:Bits w gT l) {d:Nat} (hd:d<1024):Bits (w.setCell ⟨gT,d,none⟩ (.bool true)) gT (l++[(d:Int)]):=by
 obtain ⟨cs,h1,h2,h3⟩:=h.blk
 refine ⟨_,h1.put d (.bool true),by simpa using h2,fun y hy=>?_⟩
 rw [Array.getElem?_setIfInBounds]
 by_cases e:d=y
 · subst e
   rw [if_pos rfl,if_pos (by omega)]
   simp
 rw [if_neg e,h3 y hy]
 have hn:¬ (y:Int)=(d:Int):=by omega
 simp [hn]
theorem Bits.zero {w:World} {gT:Nat} (h:Blk w gT 98 Tryz.zeroCells98):Bits w gT []:=⟨_,h,Tryz.zeroCells98_size,fun y hy=>by
 rw [ZpC hy]
 simp⟩
theorem Zjp {F:Nat->Prop} (w:World) (g:GR) (h:RdG w F g) (hf:GFit g) {m:Int->List ByteArray} (hm:∀ k,Srt (Zaf g.dat k) (m k)) (hT:ZaH g.dat=none->∀ k,(Zaf g.dat k).length<=8796093022208)
 (hW:ZaH g.dat=none->wsum (g.ns.flatMap ND.props)+wsum (g.rs.flatMap RL.props)<=4611686018427387904) {tl:Int} (htl:Zdl (m 1).length (m 2).length (m 3).length (wsum (g.ns.flatMap ND.props)+wsum (g.rs.flatMap RL.props))=tl) {e:Int} {at_:Nat} (hE:Zcw g.dat tl=(e,at_)) :
 Calls Tryz.prog 27 #[g.agg] w fun x w'=>x=.returned (.tuple #[.int .i64 e,.int .i64 at_])/\Same w w':=by
 obtain ⟨ns,AN,nN,cN,rs,AR,nR,cR⟩:=g
 have HE:=qH hE
 have HM:=qH hm
 have HT:=qH hT
 have HW:=qH hW
 have HTl:=qH htl
 have HF:=qH hf
 have hmx:=h.nodes.row.max
 have hle:=h.nodes.row.le
 have hmx':=h.rels.row.max
 have hle':=h.rels.row.le
 have hnN:=hf.nN
 have hnR:=hf.nR
 unfold maxLen at hmx hmx'
 have HL:=qH h.nodes.len
 have HL':=qH h.rels.len
 simp only at hmx hle hmx' hle' hnN hnR HL HL'
 have hs0:=((Upd.refl (fun _=>False) w).alloc (.cells #[.slice AN nN cN,.slice AR nR cR] 26)).alloc (.cells Tryz.zeroCells98 98)
 have hb0:=(Blk.new w 26 #[.slice AN nN cN,.slice AR nR cR]).alloc (.cells Tryz.zeroCells98 98)
 have hbT:=Blk.new (w.alloc (.cells #[.slice AN nN cN,.slice AR nR cR] 26)) 98 Tryz.zeroCells98
 rw [World.size_alloc] at hbT
 have HBits:=qH (Bits.zero hbT)
 have HS1:=qH hs0
 have HB1:=qH hb0
 have HG1:=qH ((h.mono (F':=fun b=>b<w.heap.size) fun b hb _=>hb).same hs0)
 have hst:=run_storeCells_new (P:=Tryz.prog) (w.alloc (.cells #[.slice AN nN cN,.slice AR nR cR] 26)) 98 Tryz.zeroCells98 Tryz.zeroCells98 ZnA rfl ZoS
 rw [World.size_alloc] at hst
 clear h hf hE hm hT hW htl hs0 hb0 hbT
 go_enter Tryz.func27,Tryz.ntmps27
 go_upto_region 2 with fail
 clear hst
 generalize (w.alloc (.cells #[.slice AN nN cN,.slice AR nR cR] 26)).alloc (.cells Tryz.zeroCells98 98)=w1 at *
 go_wp2_with fail
 go_loopg [6,5] nN (fun gh ix s5 wr=>∃ i:Nat,nN-i=gh/\i<=nN/\ix=.int .i64 i/\s5=.int .i64 (Zhj (Zan ND.id ns i))/\Hid (Bits wr (w.heap.size+1) ((ns.take i).map ND.id))/\Hid (Upd (fun k=>k=w.heap.size+1) w1 wr)/\Hid (∀ y∈(ns.take i).map ND.id,0<=y/\y<1024)/\Hid (Zax none 0 (ns.map ND.dat)=Zax (Zan ND.id ns i) i ((ns.map ND.dat).drop i)))
 case atStart=>exact ⟨0,rfl,Nat.zero_le _,rfl,rfl,HBits,qH (Upd.refl _ _),qH (by simp),qH rfl⟩
 obtain ⟨i,rfl,hi,rfl,rfl,KB,KU,KI,KE⟩:=hrel
 have HSw:=qH (show Same w wr from HS1.out.trans KU.out fun b hb hh=>by omega)
 have HGw:=qH (HG1.out.upd KU.out fun b hb hh=>by omega)
 have HBw:=qH (HB1.out.upd KU.out (by omega))
 by_cases hlt:i<nN
 · obtain ⟨b,o,x,hA,_,hb,hx,hxm,r0,r1,r2⟩:=HGw.out.nodes.at_ hlt
   simp only at hA
   subst hA
   have hke:=KE.out
   have hxd:(ns.map ND.dat)[i]?=some x.dat:=by rw [List.getElem?_map,hx];rfl
   rw [ZbM hxd] at hke
   simp only [Zax] at hke
   have HLab:=qH (HGw.out.nodes.lab x hxm)
   have HPro:=qH (HGw.out.nodes.pro x hxm)
   have HPf:=qH (HF.out.nodes x hxm)
   have HAk:=qH (show Zan ND.id ns (i+1)=some x.id from by simp only [Zan,hx];rfl)
   have HTk:=qH (show (ns.take (i+1)).map ND.id=(ns.take i).map ND.id++[x.id] from by rw [List.take_add_one,hx,Option.toList_some,List.map_append];rfl)
   have hret:=fun (C:Int) (h1:Zbq (Zan ND.id ns i) x.dat=C) (h2:C≠0)=>show C=e/\i=at_ from by
    have hee:=HE.out
    unfold Zcw ZaH at hee
    simp only [GR.dat] at hee
    rw [hke,h1,if_pos h2] at hee
    injection hee with h3 h4
    exact ⟨h3,h4⟩
   have HRet:=qH hret
   have HOn:=qH (fun h1:Zbq (Zan ND.id ns i) x.dat=0=>show Zax none 0 (ns.map ND.dat)=Zax (some x.id) (i+1) ((ns.map ND.dat).drop (i+1)) from by
    rw [hke,if_neg (by rw [h1];simp)]
    rfl)
   obtain ⟨pv,hpv⟩:∃ pv,Zan ND.id ns i=pv:=⟨_,rfl⟩
   rw [hpv] at HRet HOn ⊢
   have p0:wr.cell? ⟨w.heap.size,0,none⟩=some (.slice (some ⟨b,o,none⟩) nN cN):=HBw.out.cell 0
   obtain ⟨id,lb,AL,nL,cL,px,AP,nP,cP⟩:=x
   simp only [ND.dat] at r0 r1 r2 HLab HPro HPf HAk HTk HRet HOn
   clear hx hxm hxd hke hret hpv
   obtain ⟨lv,hlv⟩:∃ lv,Zhj pv=lv:=⟨_,rfl⟩
   rw [hlv]
   by_cases hrange:id<0\/1024<=id
   · have HR:=HRet.out 61 (by unfold Zbq;rw [if_pos hrange]) (by decide)
     obtain ⟨rfl,rfl⟩:=HR
     clear r1 r2
     by_cases hneg:id<0
     · go_wp2
       go_ret2
       exact ⟨rfl,HSw.out⟩
     have hbig:1023<id:=by omega
     go_wp2
     go_ret2
     exact ⟨rfl,HSw.out⟩
   have hn1:¬ id<0:=by omega
   have hn2:¬ 1023<id:=by omega
   obtain ⟨d,rfl⟩:∃ d:Nat,id=d:=⟨id.toNat,by omega⟩
   have hd:d<1024:=by omega
   by_cases hord:Zar (d:Int) pv=true
   · obtain ⟨rfl,rfl⟩:=HRet.out 6 (by unfold Zbq;rw [if_neg hrange,if_pos hord]) (by decide)
     have hle5:(d:Int)<=lv:=by
      rw [<- hlv]
      cases pv with
      | none=>simp [Zar] at hord
      | some q=>simpa [Zar,Zhj] using hord
     clear r1 r2
     go_wp2
     go_ret2
     exact ⟨rfl,HSw.out⟩
   have hle5:¬ (d:Int)<=lv:=by
    rw [<- hlv]
    cases pv with
    | none=>simp [Zhj];omega
    | some q=>simpa [Zar,Zhj] using hord
   have c4:wr.cell? ⟨w.heap.size+1,d,none⟩=some (.bool (decide ((d:Int)∈(ns.take i).map ND.id))):=KB.out.cell hd
   have f4:wr.frozen? ⟨w.heap.size+1,d,none⟩=false:=KB.out.frozen d
   have HB':=qH (KB.out.put hd)
   have HIds:=qH (show ∀ y∈(ns.take i).map ND.id++[(d:Int)],0<=y/\y<1024 from fun y hy=>by
    rcases List.mem_append.1 hy with hy | hy
    · exact KI.out y hy
    rw [List.mem_singleton] at hy;omega)
   have hu:=KU.out.put (r:=w.heap.size+1) (i:=d) rfl (.bool true)
   have HU':=qH hu
   have hu0:=(Upd.refl (fun k=>k=w.heap.size+1) wr).put1 (i:=d) (.bool true)
   have HS':=qH (show Same w (wr.setCell ⟨w.heap.size+1,d,none⟩ (.bool true)) from HS1.out.trans hu fun b hb hh=>by omega)
   have HLab':=qH (HLab.out.upd hu0 fun b hb hh=>by omega)
   have HPro':=qH (HPro.out.upd hu0 fun b hb hh=>by omega)
   obtain ⟨C,hC⟩:∃ C,ZgF lb (px.map PR.dat)=C:=⟨_,rfl⟩
   have HC:=qH hC
   have HNE:=qH (show Zbq pv ⟨(d:Int),lb,px.map PR.dat⟩=C from by
    unfold Zbq
    rw [if_neg hrange,if_neg hord]
    exact hC)
   obtain ⟨bt,hbt⟩:∃ bt,decide ((d:Int)∈(ns.take i).map ND.id)=bt:=⟨_,rfl⟩
   rw [hbt] at c4
   have hwb:b<w.heap.size:=hb
   have hne1:b≠w.heap.size+1:=by omega
   have hne2:w.heap.size≠w.heap.size+1:=by omega
   clear hC hu hu0 hbt KB
   go_wp2_with fail
   refine (Zhi _ HLab'.out HPro'.out HPf.out HC.out).mono ?_
   rintro y w7 ⟨rfl,hs7⟩
   have HS7:=qH (HS'.out.same hs7)
   have HB7:=qH (HB'.out.same hs7)
   have HU7:=qH (HU'.out.same hs7)
   clear hs7 r0 r1 r2 p0 c4 f4
   by_cases hz:C=0
   · subst hz
     have HN:=qH (HOn.out HNE.out)
     go_wp2
     go_roundg (nN-(i+1))
     case measure=>omega
     case rel=>exact ⟨i+1,rfl,by omega,by go_num,by rw [HAk.out];rfl,qH (by rw [HTk.out];exact HB7.out),HU7,qH (by rw [HTk.out];exact HIds.out),qH (by rw [HAk.out];exact HN.out)⟩
   obtain ⟨rfl,rfl⟩:=HRet.out C HNE.out hz
   have hcn:(C != 0)=true:=by rw [bne_iff_ne];exact hz
   go_wp2
   go_ret2
   exact ⟨rfl,HS7.out⟩
 have hin:i=nN:=by omega
 have htk:(ns.take i).map ND.id=ns.map ND.id:=by rw [List.take_of_length_le (by rw [HL.out];omega)]
 rw [htk] at KB KI
 have hke:=KE.out
 rw [List.drop_of_length_le (by rw [List.length_map,HL.out];omega)] at hke
 simp only [Zax] at hke
 obtain ⟨th,hth⟩:∃ th,Zec (GR.dat ⟨ns,AN,nN,cN,rs,AR,nR,cR⟩)=th:=⟨_,rfl⟩
 have HTh:=qH (show ∀ y,th y=decide (y∈ns.map ND.id) from fun y=>by
  rw [<- hth]
  unfold Zec
  simp only [GR.dat,List.map_map]
  have hcomp:(ns.map (ZaO.id ∘ ND.dat))=ns.map ND.id:=List.map_congr_left fun _ _=>rfl
  rw [hcomp])
 have HHead:=qH (show ZaH (GR.dat ⟨ns,AN,nN,cN,rs,AR,nR,cR⟩)=(ZaQ th none 0 (rs.map RL.dat)).map fun e=>(e.1,nN+e.2) from by
  unfold ZaH
  rw [hth]
  simp only [GR.dat]
  rw [hke]
  simp only [List.length_map]
  rw [HL.out])
 clear hin htk hke hth KE
 generalize wr=w2 at *
 have p0:w2.cell? ⟨w.heap.size,0,none⟩=some (.slice AN nN cN):=HBw.out.cell 0
 go_wp2_with fail
 clear p0
 go_loopg [9,5,10] nR (fun gh jx s5 s10 wr=>∃ j:Nat,nR-j=gh/\j<=nR/\jx=.int .i64 j/\s5=.int .i64 (Zhj (Zan RL.id rs j))/\Hid (Same w2 wr)/\Hid (ZaQ th none 0 (rs.map RL.dat)=ZaQ th (Zan RL.id rs j) j ((rs.map RL.dat).drop j)))
 case atStart=>exact ⟨0,rfl,Nat.zero_le _,rfl,rfl,qH (Upd.refl _ _),qH rfl⟩
 obtain ⟨j,rfl,hj,rfl,rfl,KS,KE⟩:=hrel
 have HGx:=qH (HGw.out.same KS.out)
 have HBx:=qH (HBw.out.same KS.out)
 have HSx:=qH (HSw.out.same KS.out)
 have HTx:=qH (KB.out.same KS.out)
 by_cases hltj:j<nR
 · obtain ⟨b,o,x,hA,_,hb,hx,hxm,r0,r1,r2,r3,r4⟩:=HGx.out.rels.at_ hltj
   simp only at hA
   subst hA
   have hke:=KE.out
   have hxd:(rs.map RL.dat)[j]?=some x.dat:=by rw [List.getElem?_map,hx];rfl
   rw [ZbM hxd] at hke
   simp only [ZaQ] at hke
   have HAk:=qH (show Zan RL.id rs (j+1)=some x.id from by simp only [Zan,hx];rfl)
   have HPf:=qH (HF.out.rels x hxm)
   have hret:=fun (C:Int) (h1:ZbN th (Zan RL.id rs j) x.dat=C) (h2:C≠0)=>show C=e/\nN+j=at_ from by
    have hee:=HE.out
    unfold Zcw at hee
    rw [HHead.out,hke,h1,if_pos h2] at hee
    injection hee with h3 h4
    exact ⟨h3,h4⟩
   have HRet:=qH hret
   have HOn:=qH (fun h1:ZbN th (Zan RL.id rs j) x.dat=0=>show ZaQ th none 0 (rs.map RL.dat)=ZaQ th (some x.id) (j+1) ((rs.map RL.dat).drop (j+1)) from by
    rw [hke,if_neg (by rw [h1];simp)]
    rfl)
   obtain ⟨pv,hpv⟩:∃ pv,Zan RL.id rs j=pv:=⟨_,rfl⟩
   rw [hpv] at HRet HOn ⊢
   have p1:wr.cell? ⟨w.heap.size,1,none⟩=some (.slice (some ⟨b,o,none⟩) nR cR):=HBx.out.cell 1
   have HProX:=qH (HGx.out.rels.pro x hxm)
   obtain ⟨id,tx,sx,dx,px,AP,nP,cP⟩:=x
   simp only [RL.dat] at r0 r1 r2 r3 r4 HPf HAk HRet HOn HProX
   clear hx hxm hxd hke hret hpv
   obtain ⟨lv,hlv⟩:∃ lv,Zhj pv=lv:=⟨_,rfl⟩
   rw [hlv]
   have hsA:=(Upd.refl (fun _=>False) wr).alloc (.cells #[.int .i64 id,.string tx,.int .i64 sx,.int .i64 dx,.slice AP nP cP] 50)
   have HBA:=qH (Blk.new wr 50 #[.int .i64 id,.string tx,.int .i64 sx,.int .i64 dx,.slice AP nP cP])
   have HSA:=qH (HSx.out.same hsA)
   have HKA:=qH (KS.out.same hsA)
   have HB0A:=qH (HBx.out.same hsA)
   have HTA:=qH (HTx.out.same hsA)
   have HPA:=qH (HProX.out.same hsA)
   clear hsA
   go_upto_region 21 with fail
   clear r0 r1 r2 r3 r4 p1
   generalize wr.alloc (.cells #[.int .i64 id,.string tx,.int .i64 sx,.int .i64 dx,.slice AP nP cP] 50)=w6 at *
   generalize wr.heap.size=g6 at *
   have p0:w6.cell? ⟨w.heap.size,0,none⟩=some (.slice AN nN cN):=HB0A.out.cell 0
   have q0:w6.cell? ⟨g6,0,none⟩=some (.int .i64 id):=HBA.out.cell 0
   have hwj:IntKind.i64.wrap ((nN:Int)+(j:Int))=((nN+j:Nat):Int):=by rw [IntKind.wrap_i64];omega
   obtain ⟨pl,hpl⟩:∃ pl,nN+j=pl:=⟨_,rfl⟩
   rw [hpl] at hwj HRet
   by_cases hrange:id<0\/2048<=id
   · obtain ⟨rfl,rfl⟩:=HRet.out 62 (by unfold ZbN;rw [if_pos hrange]) (by decide)
     by_cases hneg:id<0
     · go_wp2
       go_ret2
       exact ⟨rfl,HSA.out⟩
     have hbig:2047<id:=by omega
     go_wp2
     go_ret2
     exact ⟨rfl,HSA.out⟩
   have hn1:¬ id<0:=by omega
   have hn2:¬ 2047<id:=by omega
   by_cases hord:Zar id pv=true
   · obtain ⟨rfl,rfl⟩:=HRet.out 6 (by unfold ZbN;rw [if_neg hrange,if_pos hord]) (by decide)
     have hle5:id<=lv:=by
      rw [<- hlv]
      cases pv with
      | none=>simp [Zar] at hord
      | some q=>simpa [Zar,Zhj] using hord
     go_wp2
     go_ret2
     exact ⟨rfl,HSA.out⟩
   have hle5:¬ id<=lv:=by
    rw [<- hlv]
    cases pv with
    | none=>simp [Zhj];omega
    | some q=>simpa [Zar,Zhj] using hord
   have q1:w6.cell? ⟨g6,1,none⟩=some (.string tx):=HBA.out.cell 1
   have HHF:=qH (show ∀ y,(y<0\/1023<y)->th y=false from fun y hy=>by
    rw [HTh.out y,decide_eq_false_iff_not]
    intro hm
    have h9:=KI.out y hm
    omega)
   go_wp2_with fail
   refine (Zdd tx _).mono ?_
   rintro y w7 ⟨rfl,hs7⟩
   have HS7:=qH (HSA.out.same hs7)
   have HK7:=qH (HKA.out.same hs7)
   have HT7:=qH (HTA.out.same hs7)
   have HP7:=qH (HPA.out.same hs7)
   have hbx7:=HBA.out.same hs7
   have q2:w7.cell? ⟨g6,2,none⟩=some (.int .i64 sx):=hbx7.cell 2
   have q3:w7.cell? ⟨g6,3,none⟩=some (.int .i64 dx):=hbx7.cell 3
   have q4:w7.cell? ⟨g6,4,none⟩=some (.slice AP nP cP):=hbx7.cell 4
   clear hs7 hbx7 p0 q0 q1 HSA HKA HTA HPA HBA HB0A
   cases hg:ZaZ tx with
   | false =>
     obtain ⟨rfl,rfl⟩:=HRet.out 60 (by unfold ZbN;rw [if_neg hrange,if_neg hord,if_pos hg]) (by decide)
     clear hg
     go_wp2
     go_ret2
     exact ⟨rfl,HS7.out⟩
   | true =>
     have H65:=qH (fun hh:th sx=false\/th dx=false=>HRet.out 65 (by unfold ZbN;rw [if_neg hrange,if_neg hord,if_neg (by rw [hg];simp),if_pos hh]) (by decide))
     have HPE:=qH (fun hh:¬ (th sx=false\/th dx=false)=>show ZbN th pv ⟨id,tx,sx,dx,px.map PR.dat⟩=ZaF (px.map PR.dat) from by unfold ZbN;rw [if_neg hrange,if_neg hord,if_neg (by rw [hg];simp),if_neg hh])
     clear hg hrange hord hle5
     by_cases hs0:sx<0
     · skip
       obtain ⟨rfl,rfl⟩:=H65.out (.inl (HHF.out sx (.inl hs0)))
       go_wp2
       go_ret2
       exact ⟨rfl,HS7.out⟩
     by_cases hd0:dx<0
     · skip
       obtain ⟨rfl,rfl⟩:=H65.out (.inr (HHF.out dx (.inl hd0)))
       go_wp2
       go_ret2
       exact ⟨rfl,HS7.out⟩
     by_cases hs1:1023<sx
     · skip
       obtain ⟨rfl,rfl⟩:=H65.out (.inl (HHF.out sx (.inr hs1)))
       go_wp2
       go_ret2
       exact ⟨rfl,HS7.out⟩
     by_cases hd1:1023<dx
     · skip
       obtain ⟨rfl,rfl⟩:=H65.out (.inr (HHF.out dx (.inr hd1)))
       go_wp2
       go_ret2
       exact ⟨rfl,HS7.out⟩
     obtain ⟨s',rfl⟩:∃ s':Nat,sx=s':=⟨sx.toNat,by omega⟩
     obtain ⟨d',rfl⟩:∃ d':Nat,dx=d':=⟨dx.toNat,by omega⟩
     have hs':s'<1024:=by omega
     have hd':d'<1024:=by omega
     have c1:w7.cell? ⟨w.heap.size+1,s',none⟩=some (.bool (th (s':Int))):=by rw [HTh.out];exact HT7.out.cell hs'
     have c2:w7.cell? ⟨w.heap.size+1,d',none⟩=some (.bool (th (d':Int))):=by rw [HTh.out];exact HT7.out.cell hd'
     obtain ⟨ts,hts⟩:∃ ts,th (s':Int)=ts:=⟨_,rfl⟩
     obtain ⟨td,htd⟩:∃ td,th (d':Int)=td:=⟨_,rfl⟩
     rw [hts] at c1
     rw [htd] at c2
     rw [hts,htd] at H65 HPE
     clear hts htd HHF
     cases ts with
     | false =>
       obtain ⟨rfl,rfl⟩:=H65.out (.inl rfl)
       go_wp2
       go_ret2
       exact ⟨rfl,HS7.out⟩
     | true =>
     cases td with
     | false =>
       obtain ⟨rfl,rfl⟩:=H65.out (.inr rfl)
       go_wp2
       go_ret2
       exact ⟨rfl,HS7.out⟩
     | true =>
     obtain ⟨C,hC⟩:∃ C,ZaF (px.map PR.dat)=C:=⟨_,rfl⟩
     have HC:=qH hC
     have HRe:=qH ((HPE.out (by simp)).trans hC)
     clear hC H65 HPE
     go_wp2_with fail
     refine (ZdB _ HP7.out HPf.out HC.out).mono ?_
     rintro y w8 ⟨rfl,hs8⟩
     have HS8:=qH (HS7.out.same hs8)
     have HK8:=qH (HK7.out.same hs8)
     clear hs8 q2 q3 q4 c1 c2
     by_cases hz:C=0
     · subst hz
       have HN:=qH (HOn.out HRe.out)
       go_wp2
       go_roundg (nR-(j+1))
       case measure=>omega
       case rel=>exact ⟨j+1,rfl,by omega,by go_num,by rw [HAk.out];rfl,HK8,qH (by rw [HAk.out];exact HN.out)⟩
     obtain ⟨rfl,rfl⟩:=HRet.out C HRe.out hz
     have hcn:(C != 0)=true:=by rw [bne_iff_ne];exact hz
     go_wp2
     go_ret2
     exact ⟨rfl,HS8.out⟩
 have hke:=KE.out
 rw [List.drop_of_length_le (by rw [List.length_map,HL'.out];omega)] at hke
 simp only [ZaQ] at hke
 have hnone:ZaH (GR.dat ⟨ns,AN,nN,cN,rs,AR,nR,cR⟩)=none:=by rw [HHead.out,hke];rfl
 have hfe:=HE.out
 unfold Zcw at hfe
 rw [hnone] at hfe
 injection hfe with he1 he2
 subst he1 he2
 have HTT:=qH (HT.out hnone)
 have HWW:=qH (HW.out hnone)
 have p0:wr.cell? ⟨w.heap.size,0,none⟩=some (.slice AN nN cN):=HBx.out.cell 0
 have p1:wr.cell? ⟨w.heap.size,1,none⟩=some (.slice AR nR cR):=HBx.out.cell 1
 obtain ⟨T,hT⟩:∃ T,wsum (ns.flatMap ND.props)+wsum (rs.flatMap RL.props)=T:=⟨_,rfl⟩
 have htl:=HTl.out
 rw [hT] at htl
 have HTeq:=qH hT
 obtain ⟨a1,ha1⟩:∃ a,(m 1).length=a:=⟨_,rfl⟩
 obtain ⟨a2,ha2⟩:∃ a,(m 2).length=a:=⟨_,rfl⟩
 obtain ⟨a3,ha3⟩:∃ a,(m 3).length=a:=⟨_,rfl⟩
 rw [ha1,ha2,ha3] at htl
 have HA1:=qH ha1
 have HA2:=qH ha2
 have HA3:=qH ha3
 have hWb:T<=4611686018427387904:=by
  have h9:=HWW.out
  rw [hT] at h9
  exact h9
 unfold Zdl at htl
 have HTL:=qH htl
 clear hke hnone hT ha1 ha2 ha3 htl KE
 by_cases g1:200<a1
 · have g1i:(200:Int)<a1:=by omega
   have h66:=HTL.out
   rw [if_pos (.inl g1)] at h66
   subst h66
   go_wp2_with (go_at_call 54;refine (Zbc 1 _ HGx.out (HTT.out 1) (HM.out 1)).mono ?_;rintro x w9 ⟨A9,c9,rfl,hs9⟩;rw [HA1.out];have HS9:=qH (HSx.out.same hs9);clear hs9)
   go_ret2
   exact ⟨rfl,HS9.out⟩
 have g1i:¬ (200:Int)<a1:=by omega
 by_cases g2:200<a2
 · have g2i:(200:Int)<a2:=by omega
   have h66:=HTL.out
   rw [if_pos (.inr (.inl g2))] at h66
   subst h66
   have tok:True:=trivial
   go_wp2_with (first
    | (go_at_call 54;(have _t:=tok);clear tok;refine (Zbc 1 _ HGx.out (HTT.out 1) (HM.out 1)).mono ?_;rintro x w9 ⟨A9,c9,rfl,hs9⟩;rw [HA1.out];have HS9:=qH (HSx.out.same hs9);have HG9:=qH (HGx.out.same hs9);have q0:w9.cell? ⟨w.heap.size,0,none⟩=some (.slice AN nN cN):=(HBx.out.same hs9).cell 0;have q1:w9.cell? ⟨w.heap.size,1,none⟩=some (.slice AR nR cR):=(HBx.out.same hs9).cell 1;clear hs9)
    | (go_at_call 54;refine (Zbc 2 _ HG9.out (HTT.out 2) (HM.out 2)).mono ?_;rintro x w10 ⟨A10,c10,rfl,hs10⟩;rw [HA2.out];have HS10:=qH (HS9.out.same hs10);clear hs10))
   go_ret2
   exact ⟨rfl,HS10.out⟩
 have g2i:¬ (200:Int)<a2:=by omega
 have tok:True:=trivial
 have tok2:True:=trivial
 by_cases g3:200<a3
 · have g3i:(200:Int)<a3:=by omega
   have h66:=HTL.out
   rw [if_pos (.inr (.inr g3))] at h66
   subst h66
   go_wp2_with (first
    | (go_at_call 54;(have _t:=tok);clear tok;refine (Zbc 1 _ HGx.out (HTT.out 1) (HM.out 1)).mono ?_;rintro x w9 ⟨A9,c9,rfl,hs9⟩;rw [HA1.out];have HS9:=qH (HSx.out.same hs9);have HG9:=qH (HGx.out.same hs9);have HB9:=qH (HBx.out.same hs9);have q0:w9.cell? ⟨w.heap.size,0,none⟩=some (.slice AN nN cN):=HB9.out.cell 0;have q1:w9.cell? ⟨w.heap.size,1,none⟩=some (.slice AR nR cR):=HB9.out.cell 1;clear hs9)
    | (go_at_call 54;(have _t:=tok2);clear tok2;refine (Zbc 2 _ HG9.out (HTT.out 2) (HM.out 2)).mono ?_;rintro x w10 ⟨A10,c10,rfl,hs10⟩;rw [HA2.out];have HS10:=qH (HS9.out.same hs10);have HG10:=qH (HG9.out.same hs10);have q2:w10.cell? ⟨w.heap.size,0,none⟩=some (.slice AN nN cN):=(HB9.out.same hs10).cell 0;have q3:w10.cell? ⟨w.heap.size,1,none⟩=some (.slice AR nR cR):=(HB9.out.same hs10).cell 1;clear hs10)
    | (go_at_call 54;refine (Zbc 3 _ HG10.out (HTT.out 3) (HM.out 3)).mono ?_;rintro x w11 ⟨A11,c11,rfl,hs11⟩;rw [HA3.out];have HS11:=qH (HS10.out.same hs11);clear hs11))
   go_ret2
   exact ⟨rfl,HS11.out⟩
 have g3i:¬ (200:Int)<a3:=by omega
 have h67:=HTL.out
 rw [if_neg (by omega)] at h67
 obtain ⟨bw,hbw⟩:∃ bw,decide (262144<T)=bw:=⟨_,rfl⟩
 go_wp2_with (first
  | (go_at_call 54;(have _t:=tok);clear tok;refine (Zbc 1 _ HGx.out (HTT.out 1) (HM.out 1)).mono ?_;rintro x w9 ⟨A9,c9,rfl,hs9⟩;rw [HA1.out];have HS9:=qH (HSx.out.same hs9);have HG9:=qH (HGx.out.same hs9);have HB9:=qH (HBx.out.same hs9);have q0:w9.cell? ⟨w.heap.size,0,none⟩=some (.slice AN nN cN):=HB9.out.cell 0;have q1:w9.cell? ⟨w.heap.size,1,none⟩=some (.slice AR nR cR):=HB9.out.cell 1;clear hs9)
  | (go_at_call 54;(have _t:=tok2);clear tok2;refine (Zbc 2 _ HG9.out (HTT.out 2) (HM.out 2)).mono ?_;rintro x w10 ⟨A10,c10,rfl,hs10⟩;rw [HA2.out];have HS10:=qH (HS9.out.same hs10);have HG10:=qH (HG9.out.same hs10);have HB10:=qH (HB9.out.same hs10);have q2:w10.cell? ⟨w.heap.size,0,none⟩=some (.slice AN nN cN):=HB10.out.cell 0;have q3:w10.cell? ⟨w.heap.size,1,none⟩=some (.slice AR nR cR):=HB10.out.cell 1;clear hs10)
  | (go_at_call 54;refine (Zbc 3 _ HG10.out (HTT.out 3) (HM.out 3)).mono ?_;rintro x w11 ⟨A11,c11,rfl,hs11⟩;rw [HA3.out];have HS11:=qH (HS10.out.same hs11);have HG11:=qH (HG10.out.same hs11);have HB11:=qH (HB10.out.same hs11);have q4:w11.cell? ⟨w.heap.size,0,none⟩=some (.slice AN nN cN):=HB11.out.cell 0;have q5:w11.cell? ⟨w.heap.size,1,none⟩=some (.slice AR nR cR):=HB11.out.cell 1;clear hs11))
 refine (ZfA w11 ⟨ns,AN,nN,cN,rs,AR,nR,cR⟩ HG11.out HF.out HWW.out).mono ?_
 rintro x w12 ⟨rfl,hs12⟩
 have HS12:=qH (HS11.out.same hs12)
 have hTT:=HTeq.out
 rw [hTT]
 clear hs12 hTT
 by_cases hbig:262144<T
 · have hbi:(262144:Int)<(T:Int):=by omega
   rw [if_pos hbig] at h67
   subst h67
   go_wp2
   go_ret2
   exact ⟨rfl,HS12.out⟩
 have hbi:¬ (262144:Int)<(T:Int):=by omega
 rw [if_neg hbig] at h67
 subst h67
 go_wp2
 go_ret2
 exact ⟨rfl,HS12.out⟩
end Go.Proofs.YtkopcinhbjimiaaGreatDoor
namespace Go.Proofs.YtkopcinhbjimiaaGreatDoor
theorem ZhI (x:ByteArray):∀ m:List ByteArray,m.Pairwise ltS->∃ m':List ByteArray,m'.Pairwise ltS/\∀ y,y∈m'↔y=x\/y∈m
 | [],_=>⟨[x],by simp,by simp⟩
 | a::m,h=>by
   obtain ⟨h1,h2⟩:=List.pairwise_cons.1 h
   rcases Zay.tot x a with hh | hh | hh
   · exact ⟨x::a::m,List.pairwise_cons.2 ⟨fun y hy=>by
      rcases List.mem_cons.1 hy with rfl | hy
      · exact hh
      exact Zay.tr hh (h1 y hy),h⟩,fun y=>by simp⟩
   · subst hh
     exact ⟨x::m,h,fun y=>by simp⟩
   obtain ⟨m',h3,h4⟩:=ZhI x m h2
   refine ⟨a::m',List.pairwise_cons.2 ⟨fun y hy=>?_,h3⟩,fun y=>?_⟩
   · rcases (h4 y).1 hy with rfl | hy
     · exact hh
     exact h1 y hy
   rw [List.mem_cons,h4,List.mem_cons]
   constructor
   · rintro (h | h | h)
     · exact .inr (.inl h)
     · exact .inl h
     exact .inr (.inr h)
   rintro (h | h | h)
   · exact .inr (.inl h)
   · exact .inl h
   exact .inr (.inr h)
theorem ZhJ:∀ l:List ByteArray,∃ m,Srt l m
 | []=>⟨[],List.Pairwise.nil,fun _=>Iff.rfl⟩
 | x::l=>by
   obtain ⟨m,h1,h2⟩:=ZhJ l
   obtain ⟨m',h3,h4⟩:=ZhI x m h1
   exact ⟨m',h3,fun y=>by rw [h4,h2,List.mem_cons]⟩
theorem ZnB (f:Int->List ByteArray):∃ m:Int->List ByteArray,∀ k,Srt (f k) (m k):=Classical.axiomOfChoice fun k=>ZhJ (f k)
theorem Zqu (g:GVal):(enc g).length<=65536:=by
 unfold enc
 split
 · rename_i h
   obtain ⟨_,_,_,h4,h5,h6,h7⟩:=ZdN h
   rw [List.length_append,Zab]
   unfold Zbz
   split
   · have:=ZcD g.kind g.num
     omega
   split
   · rw [Zch]
     omega
   rw [List.length_append,List.length_append,Zab]
   have h1:=ZbG (g.kind-4) g.nums
   have h2:=ZbL g.texts h7
   omega
 simp
theorem ZhK (ps:List PR):wsum ps<=65536*ps.length:=by
 induction ps with
 | nil=>simp [wsum]
 | cons x l ih =>
   have h:=Zqu x.g
   have e:wsum (x::l)=(enc x.g).length+wsum l:=by simp [wsum]
   rw [e,List.length_cons]
   omega
def ZfW:Option Int->Int
 | none=>0
 | some q=>q+1
theorem ZcE:∀ (prev:Option Int) (i:Nat) (l:List ZaO),Zax prev i l=none->(l≠[]->(l.length:Int)<=1024-ZfW prev)/\∀ x∈l,(0<=x.id/\x.id<1024)/\x.labels.length<=8/\x.props.length<=16
 | _,_,[],_=>⟨by simp,by simp⟩
 | prev,i,x::l,h=>by
   simp only [Zax] at h
   by_cases hz:Zbq prev x=0
   · rw [if_neg (by rw [hz];simp)] at h
     obtain ⟨h2,h3⟩:=ZcE (some x.id) (i+1) l h
     unfold Zbq at hz
     by_cases ha:x.id<0\/1024<=x.id
     · rw [if_pos ha] at hz;cases hz
     rw [if_neg ha] at hz
     by_cases hb:Zar x.id prev=true
     · rw [if_pos hb] at hz;cases hz
     rw [if_neg hb] at hz
     by_cases hc:ZaB x.labels≠0
     · rw [if_pos hc] at hz;exact absurd hz hc
     rw [if_neg hc] at hz
     have hl:x.labels.length<=8:=by
      by_cases h9:8<x.labels.length
      · exact absurd (by unfold ZaB;rw [if_pos h9];decide) hc
      omega
     have hp:x.props.length<=16:=by
      by_cases h9:16<x.props.length
      · unfold ZaF at hz;rw [if_pos h9] at hz;cases hz
      omega
     refine ⟨fun _=>?_,fun y hy=>?_⟩
     · rw [List.length_cons]
       have hpv:ZfW prev<=x.id:=by
        cases prev with
        | none=>simp only [ZfW];omega
        | some q=>simp [Zar] at hb;simp only [ZfW];omega
       by_cases hnil:l=[]
       · subst hnil
         simp only [List.length_nil]
         omega
       have h4:=h2 hnil
       simp only [ZfW] at h4
       omega
     rcases List.mem_cons.1 hy with rfl | hy
     · exact ⟨by omega,hl,hp⟩
     exact h3 y hy
   rw [if_pos hz] at h;cases h
theorem ZdR (th:Int->Bool):∀ (prev:Option Int) (i:Nat) (l:List GRel),ZaQ th prev i l=none->(l≠[]->(l.length:Int)<=2048-ZfW prev)/\∀ x∈l,th x.src=true/\th x.dst=true/\x.props.length<=16
 | _,_,[],_=>⟨by simp,by simp⟩
 | prev,i,x::l,h=>by
   simp only [ZaQ] at h
   by_cases hz:ZbN th prev x=0
   · rw [if_neg (by rw [hz];simp)] at h
     obtain ⟨h2,h3⟩:=ZdR th (some x.id) (i+1) l h
     unfold ZbN at hz
     by_cases ha:x.id<0\/2048<=x.id
     · rw [if_pos ha] at hz;cases hz
     rw [if_neg ha] at hz
     by_cases hb:Zar x.id prev=true
     · rw [if_pos hb] at hz;cases hz
     rw [if_neg hb] at hz
     by_cases hg:ZaZ x.type=false
     · rw [if_pos hg] at hz;cases hz
     rw [if_neg hg] at hz
     by_cases ht:th x.src=false\/th x.dst=false
     · rw [if_pos ht] at hz;cases hz
     rw [if_neg ht] at hz
     have hp:x.props.length<=16:=by
      by_cases h9:16<x.props.length
      · unfold ZaF at hz;rw [if_pos h9] at hz;cases hz
      omega
     refine ⟨fun _=>?_,fun y hy=>?_⟩
     · rw [List.length_cons]
       have hpv:ZfW prev<=x.id:=by
        cases prev with
        | none=>simp only [ZfW];omega
        | some q=>simp [Zar] at hb;simp only [ZfW];omega
       by_cases hnil:l=[]
       · subst hnil
         simp only [List.length_nil]
         omega
       have h4:=h2 hnil
       simp only [ZfW] at h4
       omega
     rcases List.mem_cons.1 hy with rfl | hy
     · refine ⟨?_,?_,hp⟩
       · cases e:th y.src with
         | true=>rfl
         | false=>exact absurd (.inl e) ht
       cases e:th y.dst with
       | true=>rfl
       | false=>exact absurd (.inr e) ht
     exact h3 y hy
   rw [if_pos hz] at h;cases h
theorem Zde {α β:Type} (f:α->List β) (c:Nat) (l:List α) (h:∀ x∈l,(f x).length<=c):(l.flatMap f).length<=c*l.length:=by
 induction l with
 | nil=>simp
 | cons x l ih =>
   have h1:=h x (by simp)
   have h2:=ih fun y hy=>h y (by simp [hy])
   rw [List.flatMap_cons,List.length_append,List.length_cons,Nat.mul_succ]
   omega
theorem Zdf {g:Zak} (h:ZaH g=none):Zax none 0 g.nodes=none/\ZaQ (Zec g) none 0 g.rels=none:=by
 unfold ZaH at h
 cases hn:Zax none 0 g.nodes with
 | some e=>rw [hn] at h;cases h
 | none =>
   rw [hn] at h
   exact ⟨rfl,Option.map_eq_none_iff.1 h⟩
theorem head_len {g:Zak} (h:ZaH g=none):g.nodes.length<=1024/\g.rels.length<=2048:=by
 obtain ⟨h1,h2⟩:=Zdf h
 obtain ⟨h3,_⟩:=ZcE _ _ _ h1
 obtain ⟨h4,_⟩:=ZdR _ _ _ _ h2
 constructor
 · by_cases hn:g.nodes=[]
   · rw [hn];simp
   have h9:=h3 hn
   simp only [ZfW] at h9
   omega
 by_cases hn:g.rels=[]
 · rw [hn];simp
 have h9:=h4 hn
 simp only [ZfW] at h9
 omega
theorem ZhL {g:Zak} (h:ZaH g=none) (k:Int):(Zaf g k).length<=8796093022208:=by
 obtain ⟨h1,h2⟩:=Zdf h
 obtain ⟨hl1,hl2⟩:=head_len h
 obtain ⟨_,h3⟩:=ZcE _ _ _ h1
 obtain ⟨_,h4⟩:=ZdR _ _ _ _ h2
 unfold Zaf
 split
 · have:=Zde ZaO.labels 8 g.nodes fun x hx=>(h3 x hx).2.1
   omega
 split
 · rw [List.length_map]
   omega
 split
 · rw [List.length_append]
   have e1:=Zde (fun n:ZaO=>n.props.map GPr.key) 16 g.nodes fun x hx=>by rw [List.length_map];exact (h3 x hx).2.2
   have e2:=Zde (fun r:GRel=>r.props.map GPr.key) 16 g.rels fun x hx=>by rw [List.length_map];exact (h4 x hx).2.2
   omega
 simp
theorem ZgL {g:GR} (h:ZaH g.dat=none):wsum (g.ns.flatMap ND.props)+wsum (g.rs.flatMap RL.props)<=4611686018427387904:=by
 obtain ⟨h1,h2⟩:=Zdf h
 obtain ⟨hl1,hl2⟩:=head_len h
 obtain ⟨_,h3⟩:=ZcE _ _ _ h1
 obtain ⟨_,h4⟩:=ZdR _ _ _ _ h2
 simp only [GR.dat,List.length_map] at hl1 hl2 h3 h4
 have e1:=Zde ND.props 16 g.ns fun x hx=>by
  have h9:=(h3 x.dat (List.mem_map_of_mem hx)).2.2
  simpa [ND.dat] using h9
 have e2:=Zde RL.props 16 g.rs fun x hx=>by
  have h9:=(h4 x.dat (List.mem_map_of_mem hx)).2.2
  simpa [RL.dat] using h9
 have w1:=ZhK (g.ns.flatMap ND.props)
 have w2:=ZhK (g.rs.flatMap RL.props)
 omega
end Go.Proofs.YtkopcinhbjimiaaGreatDoor
namespace Go.Proofs.YtkopcinhbjimiaaGreatDoor
open Go.RowKit
theorem Zku {F:Nat->Prop} (w:World) (g:GR) (h:RdG w F g) (hf:GFit g) (ht:ZgG g) {m:Int->List ByteArray} (hm:∀ k,Srt (Zaf g.dat k) (m k)) {tl:Int} (htl:Zdl (m 1).length (m 2).length (m 3).length (wsum (g.ns.flatMap ND.props)+wsum (g.rs.flatMap RL.props))=tl)
 {e:Int} {at_:Nat} (hE:Zcw g.dat tl=(e,at_)):Calls Tryz.prog 29 #[g.agg] w fun x w'=>x=.returned (.tuple #[.int .i64 e,.int .i64 at_])/\Same w w':=by
 cases hh:ZaH g.dat with
 | some x =>
   unfold Zcw at hE
   rw [hh] at hE
   exact Zkg w g h hf (by rw [hh];exact congrArg some hE)
 | none =>
   unfold Zcw at hE
   rw [hh] at hE
   injection hE with h1 h2
   subst h1 h2
   exact Zny w g h hf ht hh (ZhL hh) hm (ZgL hh) htl
end Go.Proofs.YtkopcinhbjimiaaGreatDoor
