/- Package graph: Names. -/
import Derived.Test.YtkopcinhbjimiaaGreatDoorIterL
import Derived.Test.YtkopcinhbjimiaaGreatDoorK01
import Derived.Test.YtkopcinhbjimiaaGreatDoorK13
import Derived.StringKeys
import Derived.Test.YtkopcinhbjimiaaGreatDoorK08
set_option maxRecDepth 100000
set_option maxHeartbeats 16000000
namespace Go.Proofs.YtkopcinhbjimiaaGreatDoor
open Go.RowKit Go.Maps Go.Sort Go.Shelf
theorem sortsL (m:Nat):AnyZ.SortsIn Tryz.prog sortedL_ren Fence.wide m :=
 ⟨fun blk off cap ss W hH hblk hsz=>callsIn_wide.2 (AnyM.slices_Sort_string sortL blk off cap ss W hH hblk hsz),
  fun p cap W=>callsIn_wide.2 (AnyM.slices_Sort_string_none sortL p cap W)⟩
theorem keys_in (mb:Option Nat) (W:World):CallsIn Fence.wide 5 Tryz.prog 103 #[.map mb] W fun e w'=>e=.returned (.func (.func 136) #[] #[.pointer (some ⟨W.heap.size,0,none⟩)])/\w'=W.alloc (.cells #[.map mb] 151) :=
 AnyZ.keys_in keysL Fence.wide 5 trivial rfl mb W
theorem sorted_keys {H:Type} (b nn:Nat) (D0:DataW H) (R:Value->Option (DataW H×List MemPlace)) (w:World) (hown:w.ownsMap Tryz.prog 9 R b nn D0) (hmax:Maps.size D0<=maxLen) (hbytes:Maps.size D0*16<=140737488355328) :
 CallsIn Fence.wide 5 Tryz.prog 102 #[.func (.func 136) #[] #[.pointer (some ⟨w.heap.size,0,none⟩)]] (w.alloc (.cells #[.map (some b)] 151)) fun e w'=>∃ (v:Value) (ss:List (List UInt8)),e=.returned v/\ss.Perm (strKeys D0) /\
  w'.ownsRow (w.alloc (.cells #[.map (some b)] 151)).heap.size 9 1 v ss.length ((ss.mergeSort (fun x y=>decide (x<=y))).map encStr)/\(v=.slice none 0 0↔ss=[])/\Below (w.alloc (.cells #[.map (some b)] 151)).heap.size (w.alloc (.cells #[.map (some b)] 151)) w':=by
 have hbl:=hown.lt
 have hseq:SeqGives Fence.wide 2 Tryz.prog 136 #[.pointer (some ⟨w.heap.size,0,none⟩)] encStr (fun ss=>ss.Perm (strKeys D0)) (Maps.size D0) (w.alloc (.cells #[.map (some b)] 151)) :=
  AnyZ.keys_gives (ρ:=keysL_ren) { keysL with } Fence.wide _ trivial rfl (by omega) w.heap.size b nn D0 _ (by simp) (by simp) (by
   obtain ⟨es,clock,hb,Ft,hs,hD⟩:=hown
   exact ⟨es,clock,(Below.heap_alloc _ _ b hbl).trans hb,Ft,hs,hD⟩)
 exact AnyZ.sorted_in sortedL Fence.wide 5 trivial trivial trivial trivial rfl (by omega) (sortsL _) (enters_of Tryz.func66 (by kernel_rfl) rfl) 136 #[.pointer (some ⟨w.heap.size,0,none⟩)] trivial (enters_of Tryz.func136 (by kernel_rfl) rfl) _ _ hmax hbytes _ hseq
theorem sort_none (p:Option Addr) (cap:Nat) (w:World):Calls Tryz.prog 66 #[.slice p 0 cap] w fun e w'=>e=.returned (.tuple #[])/\w'=w:=AnyM.slices_Sort_string_none sortL p cap w
end Go.Proofs.YtkopcinhbjimiaaGreatDoor
namespace Go.Proofs.YtkopcinhbjimiaaGreatDoor
open Go.RowKit Go.Maps Go.Sort
theorem keyS:Keyed Tryz.prog 9:=string_keyed Tryz.underlying9
def MapS (w:World) (b n:Nat) (seen:List ByteArray):Prop :=
 ∃ D:DataW Unit,w.ownsMap Tryz.prog 9 (plainElem Tryz.prog 3) b n D/\∀ x:ByteArray,Maps.has D (.string x.data.toList)=true↔x∈seen
section
variable {w w':World} {b n:Nat} {seen:List ByteArray}
theorem MapS.made (w:World):MapS (w.alloc (.map #[] 0)) w.heap.size 0 []:=⟨_,World.ownsMap_made w _ _ _,fun _=>by simp [Maps.has]⟩
theorem MapS.lt (h:MapS w b n seen):b<w.heap.size:=by obtain ⟨D,h1,_⟩:=h;exact h1.lt
theorem MapS.upd {S:Nat->Prop} (h:MapS w b n seen) (hu:Upd S w w') (hs:¬ S b):MapS w' b n seen:=by
 obtain ⟨D,h1,h2⟩:=h
 have hb:=h1.lt
 obtain ⟨es,clock,h3,h4⟩:=h1
 exact ⟨D,⟨es,clock,(hu.block b hb hs).trans h3,h4⟩,h2⟩
theorem MapS.same (h:MapS w b n seen) (hu:Same w w'):MapS w' b n seen:=h.upd hu fun f=>f
theorem bytes_eq {x y:ByteArray} (h:x.data.toList=y.data.toList):x=y:=by
 cases x;cases y
 simp only at h
 congr 1
 exact Array.toList_inj.1 h
theorem MapS.put (h:MapS w b n seen) (hn:n<maxLen) {x:ByteArray} (hx:x.size<=maxLen) :
 ∃ c w',(Instr.lookup 151 (.map (some b)) (.string x) false).run Tryz.prog w=.ok (.int .i64 c) w/\(Instr.mapUpdate 151 (.map (some b)) (.string x) (.int .i64 (IntKind.i64.wrap (c+1)))).run Tryz.prog w=.ok () w'/\MapS w' b (n+1) (seen++[x])/\Upd (fun k=>k=b) w w':=by
 obtain ⟨D,h1,h2⟩:=h
 obtain ⟨c,hrun,hat,hw⟩:=h1.lookup_int keyS Tryz.underlying151 Tryz.underlying3 (zeroI w) (Go.WideMaps.keyOf_string_mk Tryz.underlying9 hx)
 have hwf:(Lit.int .i64 (IntKind.i64.wrap (c+1))).wf=true:=wfI (by rw [IntKind.wrap_i64];omega)
 obtain ⟨w',hput,h3,h4⟩:=h1.update keyS Tryz.underlying151 hn (Go.WideMaps.keyOf_string_mk Tryz.underlying9 hx) (plainElem_int Tryz.underlying3 hwf)
 refine ⟨c,w',hrun,hput,⟨_,h3,fun y=>?_⟩,(Upd.refl _ w).grown h4 fun k hk=>.inl (by injection hk with hk;exact hk.symm)⟩
 by_cases hy:y=x
 · subst hy
   rw [has_put_same h1.isMap (by simp [WideAt.IsKeyLit])]
   simp
 rw [has_put_other (by intro h;injection h with h;exact hy (bytes_eq h)),h2]
 simp [hy]
end
structure IsNames (seen:List ByteArray) (l:List (List UInt8)):Prop where
 sorted:l.Pairwise (fun x y=>x<=y)
 nodup:l.Nodup
 mem:∀ x:List UInt8,x∈l↔(⟨x.toArray⟩:ByteArray)∈seen
theorem IsNames.unique {seen:List ByteArray} {l m:List (List UInt8)} (h:IsNames seen l) (h':IsNames seen m):l=m :=
 List.Perm.eq_of_pairwise (le:=fun a b=>a<=b) (fun _ _ _ _ h1 h2=>List.le_antisymm h1 h2) h.sorted h'.sorted ((List.perm_ext_iff_of_nodup h.nodup h'.nodup).2 fun x=>(h.mem x).trans (h'.mem x).symm)
theorem names_of {w:World} {b n:Nat} {R:Value->Option (DataW Unit×List MemPlace)} {D:DataW Unit} {seen:List ByteArray} (h:w.ownsMap Tryz.prog 9 R b n D) (hm:∀ x:ByteArray,Maps.has D (.string x.data.toList)=true↔x∈seen) {ss:List (List UInt8)} (hp:ss.Perm (strKeys D)) :
 IsNames seen (ss.mergeSort fun x y=>decide (x<=y)):=by
 obtain ⟨es,rfl,hne,hkl⟩:=h.entries keyS
 obtain ⟨es',he,hks⟩:=h.keysOf
 injection he with he
 subst he
 have hstr:∀ p∈es,∃ x,p.1=.string x:=fun p hp'=>by
  obtain ⟨key,hk⟩:=hks p hp'
  obtain ⟨x,_,hx,_⟩:=Maps.keyOf_str Tryz.underlying9 hk
  exact ⟨x,hx⟩
 have hnd:(strKeys (.map es:DataW Unit)).Nodup:=by
  show (es.map fun p=>strOf p.1).Nodup
  refine List.pairwise_map.2 (hne.imp_of_mem fun {p q} hp' hq' hne' e=>hne' ?_)
  obtain ⟨a,ha⟩:=hstr p hp'
  obtain ⟨b,hb⟩:=hstr q hq'
  rw [ha,hb] at e ⊢
  exact congrArg _ e
 have hmem:∀ x,x∈strKeys (.map es:DataW Unit)↔Maps.has (.map es:DataW Unit) (.string x)=true:=fun x=>by
  show x∈(es.map fun p=>strOf p.1)↔(es.any fun p=>p.1.sameKey (.string x))=true
  rw [List.any_eq_true,List.mem_map]
  constructor
  · rintro ⟨p,hp',rfl⟩
    obtain ⟨a,ha⟩:=hstr p hp'
    refine ⟨p,hp',?_⟩
    rw [ha]
    exact WideAt.sameKey_self (by simp [WideAt.IsKeyLit])
  rintro ⟨p,hp',h2⟩
  exact ⟨p,hp',by rw [WideAt.sameKey_eq h2];rfl⟩
 have hpm:=(List.mergeSort_perm ss fun x y=>decide (x<=y)).trans hp
 refine ⟨?_,hpm.nodup_iff.2 hnd,fun x=>?_⟩
 · have h1:=List.pairwise_mergeSort (le:=fun x y:List UInt8=>decide (x<=y)) (fun a b c h1 h2=>by simp only [decide_eq_true_eq] at *;exact List.le_trans h1 h2) (fun a b=>by simp only [Bool.or_eq_true,decide_eq_true_eq];exact List.le_total a b) ss
   exact h1.imp fun h=>by simpa using h
 rw [hpm.mem_iff,hmem]
 exact hm ⟨x.toArray⟩
end Go.Proofs.YtkopcinhbjimiaaGreatDoor
namespace Go.Proofs.YtkopcinhbjimiaaGreatDoor
open Go.RowKit
def allNames (g:GGraph) (k:Int):List ByteArray :=
 if k=1 then g.nodes.flatMap GNode.labels
 else if k=2 then g.rels.map GRel.type
 else if k=3 then (g.nodes.flatMap fun n=>n.props.map GPr.key)++g.rels.flatMap fun r=>r.props.map GPr.key
 else []
structure GTexts (g:GR):Prop where
 type:∀ x∈g.rs,x.type.size<=9223372036854775807
 label:∀ x∈g.ns,∀ s∈x.labels,s.size<=9223372036854775807
 key1:∀ x∈g.ns,∀ p∈x.props,p.key.size<=9223372036854775807
 key2:∀ x∈g.rs,∀ p∈x.props,p.key.size<=9223372036854775807
abbrev strV (l:List UInt8):Value:=.string ⟨l.toArray⟩
theorem keys_spec (mb:Option Nat) (w:World):Calls Tryz.prog 103 #[.map mb] w fun e w'=>e=.returned (.func (.func 136) #[] #[.pointer (some ⟨w.heap.size,0,none⟩)])/\w'=w.alloc (.cells #[.map mb] 151) :=
 callsIn_wide.1 (keys_in mb w)
theorem sorted_spec {b nn:Nat} {seen:List ByteArray} (w:World) (h:MapS w b nn seen) (hn:nn<=8796093022208) :
 Calls Tryz.prog 102 #[.func (.func 136) #[] #[.pointer (some ⟨w.heap.size,0,none⟩)]] (w.alloc (.cells #[.map (some b)] 151)) fun e w'=>∃ (v:Value) (l:List (List UInt8)),e=.returned v/\IsNames seen l/\w'.ownsRow w.heap.size 9 1 v l.length (l.map strV)/\Same w w':=by
 obtain ⟨D,h1,h2⟩:=h
 have hsz:=h1.size_le
 refine (callsIn_wide.1 (sorted_keys b nn D _ w h1 (by unfold maxLen;omega) (by omega))).mono ?_
 rintro e w' ⟨v,ss,rfl,hp,hrow,-,hb⟩
 have hn:=names_of h1 h2 hp
 have hl:(ss.mergeSort fun x y=>decide (x<=y)).length=ss.length:=List.length_mergeSort ss
 have hs:Same w w':=((Upd.refl (fun _=>False) w).alloc _).same (Same.of_below hb)
 exact ⟨v,_,rfl,hn,by rw [hl];exact own_base hrow (by simp),hs⟩
theorem names2_spec {F:Nat->Prop} (w:World) (g:GR) (h:RdG w F g) (ht:GTexts g) (hn:g.nR<=8796093022208) :
 Calls Tryz.prog 58 #[g.agg,.int .i64 2] w fun e w'=>∃ (v:Value) (l:List (List UInt8)),e=.returned v/\IsNames (allNames g.dat 2) l/\w'.ownsRow w.heap.size 9 1 v l.length (l.map strV)/\Same w w':=by
 obtain ⟨ns,AN,nN,cN,rs,AR,nR,cR⟩:=g
 simp only at hn
 have hmx:=h.rels.row.max
 have hle:=h.rels.row.le
 unfold maxLen at hmx
 have HL:=qH h.rels.len
 have HT:=qH ht.type
 simp only at hmx hle HL HT
 have hs0:=(Upd.refl (fun _=>False) w).alloc (.cells #[.slice AN nN cN,.slice AR nR cR] 26)
 have hs1:=hs0.alloc (.map #[] 0)
 have hs2:=hs1.alloc (.cells #[.map (some (w.heap.size+1))] 151)
 have hm0:=(MapS.made (w.alloc (.cells #[.slice AN nN cN,.slice AR nR cR] 26))).same ((Upd.refl (fun _=>False) _).alloc (.cells #[.map (some (w.heap.size+1))] 151))
 have hb0:=((Blk.new w 26 #[.slice AN nN cN,.slice AR nR cR]).alloc (.map #[] 0)).alloc (.cells #[.map (some (w.heap.size+1))] 151)
 have hb5:=Blk.new ((w.alloc (.cells #[.slice AN nN cN,.slice AR nR cR] 26)).alloc (.map #[] 0)) 151 #[.map (some (w.heap.size+1))]
 have HR1:=qH ((h.mono (F':=fun b=>b<w.heap.size) fun b hb _=>hb).rels.same hs2)
 simp only [World.size_alloc] at hm0 hb5
 have hmm:=@run_makeMap Tryz.prog
 have HS1:=qH hs2
 have HM1:=qH hm0
 have HB0:=qH hb0
 have HB5:=qH hb5
 clear h ht hs0 hs1 hs2 hm0 hb0 hb5
 go_enter Tryz.func58,Tryz.ntmps58
 go_upto_region 2 with fail
 clear hmm
 generalize ((w.alloc (.cells #[.slice AN nN cN,.slice AR nR cR] 26)).alloc (.map #[] 0)).alloc (.cells #[.map (some (w.heap.size+1))] 151)=w1 at *
 simp only at HR1
 have p1:w1.cell? ⟨w.heap.size,1,none⟩=some (.slice AR nR cR):=HB0.out.cell 1
 go_wp2_with fail
 clear p1
 go_loopg [42] nR (fun gh ix wr=>∃ i:Nat,nR-i=gh/\i<=nR/\ix=.int .i64 i/\Hid (MapS wr (w.heap.size+1) i ((rs.map RL.type).take i))/\Hid (Upd (fun k=>k=w.heap.size+1) w1 wr))
 case atStart=>exact ⟨0,rfl,Nat.zero_le _,rfl,HM1,qH (Upd.refl _ _)⟩
 obtain ⟨i,rfl,hi,rfl,KM,KU⟩:=hrel
 have HRw:=qH (HR1.out.upd KU.out fun b hb hh=>by omega)
 have HB5w:=qH (HB5.out.upd KU.out (by omega))
 by_cases hlt:i<nR
 · obtain ⟨b,o,x,rfl,hb,_,hx,hxm,r0,r1,r2,r3,r4⟩:=HRw.out.at_ hlt
   have HTx:=qH (HT.out x hxm)
   have HTk:=qH (show (rs.map RL.type).take (i+1)=(rs.map RL.type).take i++[x.type] from by
    rw [List.take_add_one,List.getElem?_map,hx];rfl)
   clear hx hxm HRw
   obtain ⟨ix,tx,sx,dx,px,AP,nP,cP⟩:=x
   simp only at r0 r1 r2 r3 r4
   have hsA:=(Upd.refl (fun _=>False) wr).alloc (.cells #[.int .i64 ix,.string tx,.int .i64 sx,.int .i64 dx,.slice AP nP cP] 50)
   have HBA:=qH (Blk.new wr 50 #[.int .i64 ix,.string tx,.int .i64 sx,.int .i64 dx,.slice AP nP cP])
   have HMA:=qH (KM.out.same hsA)
   have HUA:=qH (KU.out.same hsA)
   have HB5A:=qH (HB5w.out.same hsA)
   clear hsA KM KU HB5w
   go_upto_region 17 with fail
   clear r0 r1 r2 r3 r4
   generalize wr.alloc (.cells #[.int .i64 ix,.string tx,.int .i64 sx,.int .i64 dx,.slice AP nP cP] 50)=w6 at *
   generalize wr.heap.size=g6 at *
   have p1:w6.cell? ⟨g6,1,none⟩=some (.string tx):=HBA.out.cell 1
   have p5:w6.cell? ⟨w.heap.size+1+1,0,none⟩=some (.map (some (w.heap.size+1))):=HB5A.out.cell 0
   obtain ⟨c,w7,lk,lput,hm7,hu7⟩:=HMA.out.put (x:=tx) (by unfold maxLen;omega) (by have:=HTx.out;unfold maxLen;omega)
   obtain ⟨c1,hc1⟩:∃ c1,IntKind.i64.wrap (c+1)=c1:=⟨_,rfl⟩
   rw [hc1] at lput
   have HM7:=qH hm7
   have HU7:=qH (HUA.out.trans hu7 fun _ _ h=>h)
   clear hm7 hu7 HMA HUA
   go_wp2_with (at_mapUpdate;go_must (refine wpList_mapUpdate_run rfl _ _ _ _ rfl rfl rfl rfl lput ?_))
   go_roundg (nR-(i+1))
   case measure=>omega
   case rel=>exact ⟨i+1,rfl,by omega,by go_num,qH (by rw [HTk.out];exact HM7.out),HU7⟩
 have hin:i=nR:=by omega
 subst hin
 have hseen:allNames (GR.dat ⟨ns,AN,nN,cN,rs,AR,i,cR⟩) 2=(rs.map RL.type).take i:=by
  rw [List.take_of_length_le (by rw [List.length_map,HL.out];exact Nat.le_refl _)]
  unfold allNames
  rw [if_neg (by decide),if_pos rfl]
  simp only [GR.dat,List.map_map]
  exact List.map_congr_left fun _ _=>rfl
 have HSn:=qH hseen
 have p5:wr.cell? ⟨w.heap.size+1+1,0,none⟩=some (.map (some (w.heap.size+1))):=HB5w.out.cell 0
 have HSw:=qH (show Same w wr from HS1.out.trans KU.out fun b hb hh=>by omega)
 have hzw:=HSw.out.size
 clear hseen hlt
 go_wp2_with fail
 refine (keys_spec _ _).mono ?_
 rintro e w8 ⟨rfl,rfl⟩
 go_wp2_with fail
 refine (sorted_spec _ KM.out (by omega)).mono ?_
 rintro e w9 ⟨v,l,rfl,hnm,hrow,hs9⟩
 have H:=qH (And.intro hnm (And.intro hrow hs9))
 clear hnm hrow hs9
 go_wp2
 go_ret
 exact ⟨v,l,rfl,by rw [HSn.out];exact H.out.1,own_base H.out.2.1 hzw,HSw.out.same H.out.2.2⟩
end Go.Proofs.YtkopcinhbjimiaaGreatDoor
