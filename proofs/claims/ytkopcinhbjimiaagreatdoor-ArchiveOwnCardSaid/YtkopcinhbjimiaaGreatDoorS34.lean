/- Texts that the claim leans on: walks and plain laws, function by function. -/
import Derived.LaidMore
import Derived.Stop.Joined
import Derived.Test.YtkopcinhbjimiaaGreatDoorS33
set_option maxRecDepth 100000
set_option maxHeartbeats 16000000
namespace Go.Proofs.YtkopcinhbjimiaaGreatDoor
open Go.RowKit
theorem ZkQ:(chkP noG).1=0:=by
 have h:∀ k,(ZeP noG k).length=0:=fun k=>by
  have h1:=(Zfp noG k).mem
  have h2:Zaf noG k=[]:=by
   unfold Zaf noG
   by_cases h1:k=1
   · rw [if_pos h1];rfl
   rw [if_neg h1]
   by_cases h2:k=2
   · rw [if_pos h2];rfl
   rw [if_neg h2]
   by_cases h3:k=3
   · rw [if_pos h3];rfl
   rw [if_neg h3]
  rw [h2] at h1
  cases hx:ZeP noG k with
  | nil=>rfl
  | cons a l=>exact absurd ((h1 a).1 (by rw [hx];simp)) (by simp)
 unfold chkP Zcw
 rw [h 1,h 2,h 3]
 rfl
theorem ZjM:Zce noG:=(Zck ZkQ ⟨by simp [noG],by simp [noG]⟩).1
theorem ZkR:(arcP noG).length=44/\(arcP noG).take 15=[83,65,84,67,72,69,76,49,1,0,0,0,2,0,1]:=by
 have e:(Zaz noG).flatten=Zas++Zai 1 [0,1]:=by simp [Zaz,noG]
 refine ⟨?_,?_⟩
 · rw [ZaN,List.length_append,Zcr,e,List.length_append,ZaE]
   rfl
 rw [ZaN,e]
 have e2:Zai 1 [0,1]=[1,0,0,0,2,0,1]++(Zai 1 [0,1]).drop 7:=rfl
 rw [e2]
 rfl
theorem ZpX {g:Zak} (h:Zce g) {k:Nat} (hk:k<25):∃ s,fedP ((Zaz g).flatten++(ZbO g).take k)=.ok s/\s.state≠3:=by
 have hl:((ZbO g).take k).length=k:=by rw [List.length_take,Zcr];omega
 have h1:oneP ((ZbO g).take k)=.ok none:=by
  unfold oneP
  by_cases h5:k<5
  · rw [if_pos (by omega)]
  rw [if_neg (by omega)]
  have e:(((ZbO g).take k).drop 1).take 4=((ZbO g).drop 1).take 4:=by
   rw [List.drop_take,List.take_take,Nat.min_eq_left (by omega)]
  have h2:be (((ZbO g).drop 1).take 4)=16:=by
   have h3:ZbO g=beb 1 4++(beb 4 16++(ZaY g.nodes.length g.rels.length g.wt (Zaz g).flatten++beb 4 (crcS (Zcu 4 (ZaY g.nodes.length g.rels.length g.wt (Zaz g).flatten))).toNat)):=by
    unfold ZbO Zai
    generalize beb 4 (crcS (Zcu 4 (ZaY g.nodes.length g.rels.length g.wt (Zaz g).flatten))).toNat=z
    unfold Zcu
    rw [ZbH]
    simp only [List.append_assoc]
   have h4:(beb 1 4).length=1:=Zab 1 4
   have h5:(beb 4 16).length=4:=Zab 4 16
   rw [h3,List.drop_append_of_le_length (by omega),List.drop_of_length_le (by omega),List.nil_append,List.take_append_of_le_length (by omega),List.take_of_length_le (by omega),ZdZ]
  rw [e,h2,if_neg (by omega),if_pos (by omega)]
 have h8:8<=(Zaz g).flatten.length:=by rw [Zaz,List.flatten_cons,List.length_append,Zdb];omega
 have hm:((Zaz g).flatten++(ZbO g).take k).take 8=Zas:=by
  rw [Zaz,List.flatten_cons,List.append_assoc,<-Zdb,List.take_left]
 have hle:((Zaz g).flatten++(ZbO g).take k).length<=16777216:=by
  have:=h.head_len
  rw [List.length_append,hl]
  omega
 have hf:=ZgT h ((ZbO g).take k)
 rw [ZbS h1] at hf
 obtain ⟨st,hst,ht⟩:=ZhQ h []
 refine ⟨⟨st,g,(Zaz g).flatten⟩,?_,by rcases hst with rfl | rfl <;> simp⟩
 unfold fedP
 rw [if_neg (by omega),if_neg (by rw [List.length_append];omega),if_neg (by simp [hm]),hf]
 simp only [ht]
 have e1:ZaI [] ⟨st,g,(Zaz g).flatten⟩=.ok ⟨st,g,(Zaz g).flatten⟩:=rfl
 rw [e1]
 have e2:st≠3:=by rcases hst with rfl | rfl <;> decide
 simp [e2]
theorem ZlP:Ziz (arcP noG)=(0,noG)/\Ziz ((arcP noG).take 43)=(10,noG):=by
 constructor
 · unfold Ziz
   rw [ZlK ZjM]
   simp only
   unfold ansP
   rw [if_neg (by simp),if_neg (by simp [ZkQ])]
 have e:(Zaz noG).flatten++(ZbO noG).take 24=(arcP noG).take 43:=by
  have h1:(Zaz noG).flatten.length=19:=by
   have e:(Zaz noG).flatten=Zas++Zai 1 [0,1]:=by simp [Zaz,noG]
   rw [e,List.length_append,ZaE]
   rfl
  rw [ZaN,List.take_append,h1,List.take_of_length_le (l:=(Zaz noG).flatten) (by omega)]
 obtain ⟨s,h1,h2⟩:=ZpX ZjM (k:=24) (by omega)
 rw [e] at h1
 unfold Ziz
 rw [h1]
 simp only
 unfold ansP
 rw [if_pos h2]
theorem ZlQ:fedP ([]++[83,65,84,67,72,69,76,50])=.error 90:=Zfo (by simp) (by simp) (by decide)
theorem ZqA (w:World):RdG w (fun b=>b<w.heap.size) ⟨[],none,0,0,[],none,0,0⟩:=((OwnG.nil_ w w.heap.size).rd).mono fun _ hb _=>hb
theorem ZqB:ZbJ ⟨[],none,0,0,[],none,0,0⟩:=⟨by simp,by simp,by simp,by simp⟩
theorem AOk.same {w w':World} {B r fr d:Nat} {vf v1 v2:Value} {gr:GR} {fed:Nat} {b:List UInt8} {s:PSt} (h:AOk w B r fr d vf v1 v2 gr fed b s) (hu:Same w w'):AOk w' B r fr d vf v1 v2 gr fed b s:=⟨h.ard.same hu,h.dat,h.ok⟩
theorem AOk.ge {w wL:World} {B r fr d:Nat} {vf v1 v2:Value} {gr:GR} {fed:Nat} {b:List UInt8} {s:PSt} (h:AOk w B r fr d vf v1 v2 gr fed b s) {g:Nat} (hg:FSet wL B r fr d vf v1 v2 g):B<=g:=by
 rcases hg with h2 | h2 | h2 | h2 | h2
 · rcases h2 with h2 | h2 | ⟨_,h2⟩
   · have:=h.ard.br;omega
   · have:=h.ard.bd;omega
   exact h2
 · have:=h.ard.fin.base;omega
 · exact (h.ard.fst.lt g h2).1
 · exact (Off.lt h.ard.fin.orest g h2).1
 exact (Off.lt h.ard.fin.oready g h2).1
theorem AOk.fresh {w wL:World} {B r fr d:Nat} {vf v1 v2:Value} {gr:GR} {fed:Nat} {b:List UInt8} {s:PSt} (h:AOk w B r fr d vf v1 v2 gr fed b s) {g:Nat} (hg:TyB wL w.heap.size g):¬ FSet wL B r fr d vf v1 v2 g:=by
 have h1:=hg.1
 rintro (h2 | h2 | h2 | h2 | h2)
 · rcases h2 with h2 | h2 | ⟨h2 | h2,_⟩
   · have:=h.ard.blk.lt;omega
   · have:=Blk.lt h.ard.dig;omega
   · exact absurd (hg.ne h2) (by decide)
   exact absurd (hg.ne h2) (by decide)
 · have:=h.ard.fin.blk.lt;omega
 · have:=(h.ard.fst.lt g h2).2;omega
 · have:=(Off.lt h.ard.fin.orest g h2).2;omega
 have:=(Off.lt h.ard.fin.oready g h2).2;omega
theorem ZfO (w:World) (hN:Nib w):Calls Tryz.prog 12 #[] w fun e w'=>e=.returned (.bool true)/\Same w w':=by
 have HN:=qH hN
 have HW:=qH (Zeq w ⟨[],none,0,0,[],none,0,0⟩ (ZqA w) ZqB hN)
 clear hN
 go_enter Tryz.func12,Tryz.ntmps12
 go_wp2_with fail
 refine HW.out.mono ?_
 rintro e w1 ⟨v,rfl,hs1,-,hF⟩
 have h0:(chkP (GR.dat ⟨[],none,0,0,[],none,0,0⟩)).1=0:=ZkQ
 have hFr:Lib.FreshBytes w.heap.size w1 v (arcP noG):=hF h0
 rw [h0]
 obtain ⟨A,c,rfl,hby⟩:=ZgY hFr (by rw [ZkR.1];omega)
 rw [ZkR.1] at hby ⊢
 have HB:=qH hby
 have HS1:=qH hs1
 have hcv:(convert 28 9 (.slice A 15 c)).run Tryz.prog w1=.ok (.string { data:=#[83,65,84,67,72,69,76,49,1,0,0,0,2,0,1] }) w1:=by
  have h1:=ZbF (hby.head (m:=15) (by omega))
  rw [ZkR.2] at h1
  exact h1
 have hle:44<=c:=Row.le hby
 clear hF hFr h0 hby hs1 HW
 go_wp2_with fail
 refine (ZhU w1 HB.out (HN.out.same HS1.out)).mono ?_
 rintro e w2 ⟨g2,rfl,-,-,hs2⟩
 rw [ZlP.1]
 have HB2:=qH (HB.out.same hs2)
 have HS2:=qH (HS1.out.trans hs2 fun _ _ f=>f)
 clear hs2 hcv
 go_wp2_with fail
 have hb3:Bytes w2 (fun b=>w.heap.size<=b) A 43 c ((arcP noG).take 43):=HB2.out.head (by omega)
 refine (ZhU w2 hb3 (HN.out.same HS2.out)).mono ?_
 rintro e w3 ⟨g3,rfl,-,-,hs3⟩
 rw [ZlP.2]
 have hs4:=(HS2.out.trans hs3 fun _ _ f=>f).alloc (.cells #[.slice g3.AN g3.nN g3.cN,.slice g3.AR g3.nR g3.cR] 26)
 have HS4:=qH hs4
 clear hs3 hb3 hs4
 go_upto_region 6 with fail
 generalize w3.alloc (.cells #[.slice g3.AN g3.nN g3.cN,.slice g3.AR g3.nR g3.cR] 26)=w4 at *
 go_wp2_with fail
 refine (Zer w4).mono ?_
 rintro e w5 ⟨r,fr,d,rfl,hA5,hs5⟩
 have HS5:=qH (HS4.out.trans hs5 fun _ _ f=>f)
 have HA5:=qH hA5
 clear hA5 hs5
 have kc:=fun (w:World) (C:Array Value) (n c:Nat)=>Lib.run_convert_bytes_const (P:=Tryz.prog) w 28 5 C n c Tryz.underlying28 Tryz.underlying5
 have sL:=(Upd.refl (fun _=>False) w5).alloc (.cells #[.int .u8 83,.int .u8 65,.int .u8 84,.int .u8 67,.int .u8 72,.int .u8 69,.int .u8 76,.int .u8 50] 5 (8,9))
 have hM:Zaw (w5.alloc (.cells #[.int .u8 83,.int .u8 65,.int .u8 84,.int .u8 67,.int .u8 72,.int .u8 69,.int .u8 76,.int .u8 50] 5 (8,9))) w5.heap.size ⟨[83,65,84,67,72,69,76,50],some ⟨w5.heap.size,0,none⟩,8,8⟩ :=
  Zaw.lit w5 (Nat.le_refl _) [83,65,84,67,72,69,76,50] rfl
 have HF:=qH (ZdI (b:=[]) _ (HA5.out.same sL) hM (fun g hg=>HA5.out.fresh hg) ((HN.out.same HS5.out).same sL) (by have h1:=HN.1;have:=HS4.out.size;omega))
 have HSL:=qH sL
 clear hM sL
 go_wp2_with fail
 refine HF.out.mono ?_
 rintro e w7 ⟨hu,h⟩
 have hS:Same w w7:=((HS5.out.trans HSL.out fun _ _ f=>f).trans hu fun b hb hs=>by have:=HA5.out.ge hs;have:=HS4.out.size;omega)
 have HSS:=qH hS
 clear hS hu
 rcases h with ⟨er,a0,a1,a2,a3,a4,a5,a6,-,he,rfl,-⟩ | ⟨s',_,_,_,_,_,hA,_⟩
 · have e9:er=90:=by
    have h1:=ZlQ.symm.trans he
    injection h1 with h1
    exact h1.symm
   subst e9
   clear he
   go_wp2
   go_ret
   exact ⟨rfl,HSS.out⟩
 have h1:=ZlQ.symm.trans hA.ok
 cases h1
end Go.Proofs.YtkopcinhbjimiaaGreatDoor
namespace Go.Proofs.YtkopcinhbjimiaaGreatDoor
open Go.ChangeShapes Go.WideShapes Go.ChangeAt Go.RowKit
abbrev ZjN:List (String×DataW Unit):=[("satchel/crc.nibble", Rows.laid_satchel_crc_nibble)]
theorem ZlR (os:Os) (args:Array Value):laidMetH Tryz.prog ZjN ((World.doorLaid Tryz.prog 400 os).forCall (fun _ _=>0) ⟨#[],args,[]⟩).memory :=
 laidMetH_of_parts3 (fuel:=8) (laidMet_of_run' 8 (by kernel_rfl) (by kernel_rfl)) (by kernel_rfl) (by kernel_rfl)
theorem ZpY:∀ i:Fin 16,(match (Rows.laid_satchel_crc_nibble:DataW Unit) with | .agg l=>l[i.val]? | _=>none)=(crcT[i.val]?).map fun t=>.lit (.int .u32 (t.toNat:Int)):=fun i=>by
 obtain ⟨i,hi⟩:=i
 rcases i with _ | _ | _ | _ | _ | _ | _ | _ | _ | _ | _ | _ | _ | _ | _ | _ | i
 all_goals first | rfl | omega
theorem Zhb {W:World} (h:laidMetH Tryz.prog ZjN W):Nib W:=by
 rw [MakeChecks.laidMetH_plain _ _ _ (by kernel_rfl)] at h
 obtain ⟨ps,⟨g0,t0,cs0,f0,p0,q0,hg0,ht0,hv0,hd0,_,_⟩,_,_⟩:=h
 obtain rfl:=Option.some.inj ((show Tryz.prog.globalNamed "satchel/crc.nibble" = some 1 by kernel_rfl).symm.trans hg0)
 obtain rfl:=Option.some.inj ((show (Tryz.prog.globals[1]?).map (·.type)=some 169 by kernel_rfl).symm.trans ht0)
 obtain ⟨xs,m1,rfl,hx1,hlen,hn3,hel⟩:=DataW.trod_array Tryz.underlying169 hd0
 have c3:Tryz.prog.cellsOf 87=1:=by kernel_rfl
 have c24:Tryz.prog.cellsOf 169=16:=by kernel_rfl
 rw [c24] at hlen
 simp only [Prod.mk.injEq] at hx1
 have hcell:∀ i,W.cell? ⟨1,i,none⟩=cs0[i]?:=fun i=>World.var?_cell hg0 hv0 i
 have hat:∀ (i:Nat) (t:BitVec 32),crcT[i]?=some t->W.cell? ⟨1,i,none⟩=some (.int .u32 (t.toNat:Int)):=fun i t ht=>by
  have hi:i<16:=(Array.getElem?_eq_some_iff.1 ht).1
  have h1:=hel i hi
  rw [c3,Nat.mul_one,List.getElem?_eq_getElem (by omega)] at h1
  obtain ⟨k,e1,e2,_⟩:=DataW.trod_int Tryz.underlying87 h1
  have h2:=ZpY ⟨i,hi⟩
  simp only [ht,Option.map_some] at h2
  have h3:(Rows.laid_satchel_crc_nibble:DataW Unit)=.agg (xs.map (·.1)):=hx1.1
  rw [h3] at h2
  simp only [List.getElem?_map,List.getElem?_eq_getElem (show i<xs.length by omega),Option.map_some,e2,Option.some.injEq,DataW.lit.injEq,Lit.int.injEq,true_and] at h2
  subst h2
  rw [hcell]
  have h4:(cs0.toList.drop i).take 1=[cs0.toList[i]'(by omega)]:=by
   rw [List.take_one,List.head?_drop,List.getElem?_eq_getElem (by omega)]
   rfl
  rw [h4] at e1
  have h5:cs0.toList[i]?=some (.int .u32 (t.toNat:Int)):=by
   rw [List.getElem?_eq_getElem (by omega)]
   exact congrArg some (List.cons.inj e1).1
  rw [<- Array.getElem?_toList]
  exact h5
 refine ⟨?_,hat⟩
 have h0:=hat 0 _ rfl
 exact block_lt_of_cell h0
end Go.Proofs.YtkopcinhbjimiaaGreatDoor
namespace Go.Proofs.YtkopcinhbjimiaaGreatDoor
open Go.RowKit
theorem Zhc {F F':Nat->Prop} {A A':Option Addr} {n c n' c':Nat} {xs ys:List UInt8} (w:World) (h:Bytes w F A n c xs) (h':Bytes w F' A' n' c' ys) {r:Bool} (hr:decide (xs=ys)=r) :
 Calls Tryz.prog 16 #[.slice A n c,.slice A' n' c'] w fun e w'=>e=.returned (.bool r)/\w=w':=by
 have k1:=ZbF h
 have k2:=ZbF h'
 have he:(xs==ys)=r:=by
  rw [<- hr]
  by_cases hx:xs=ys
  · subst hx
    rw [decide_eq_true rfl,beq_self_eq_true]
  rw [decide_eq_false hx,beq_eq_false_iff_ne]
  exact hx
 clear h h' hr
 go_enter Tryz.func16,Tryz.ntmps16
 go_wp2
 go_ret
 exact ⟨by simp,rfl⟩
theorem ZhV {w w':World} {F F':Nat->Prop} {A A':Option Addr} {n c n' c':Nat} {ps ps':List PR} (h:RdPs w F A n c ps) (h':RdPs w' F' A' n' c' ps') (hz:ZcR n ps) (hd:ps'.map PR.dat=ps.map PR.dat):ZcR n' ps':=by
 have hl:ps'.length=ps.length:=by have:=congrArg List.length hd;simpa using this
 refine ⟨by rw [<- h'.len,hl,h.len];exact hz.n,fun x hx=>?_⟩
 have h1:x.dat∈ps'.map PR.dat:=List.mem_map_of_mem hx
 rw [hd] at h1
 obtain ⟨y,hy,he⟩:=List.mem_map.1 h1
 have hk:y.key=x.key:=congrArg GPr.key he
 have hg:y.g=x.g:=congrArg GPr.val he
 have z:=hz.each y hy
 have r:=h.val y hy
 have r':=h'.val x hx
 have e1:y.g.nums.length=y.n1:=by have:=r.nums.len;simpa using this
 have e2:y.g.texts.length=y.n2:=by have:=r.texts.len;simpa using this
 have e1':x.g.nums.length=x.n1:=by have:=r'.nums.len;simpa using this
 have e2':x.g.texts.length=x.n2:=by have:=r'.texts.len;simpa using this
 rw [hg] at e1 e2
 exact ⟨by rw [<- e1',e1];exact z.s1,by rw [<- e2',e2];exact z.s2,by rw [<- hg];exact z.s3,by rw [<- hg];exact z.s4,by rw [<- hk];exact z.s5⟩
theorem ZdV {w w':World} {F F':Nat->Prop} {g g':GR} (h:RdG w F g) (h':RdG w' F' g') (hz:ZbJ g) (hd:g'.dat=g.dat):ZbJ g':=by
 have hln:g'.ns.length=g.ns.length:=by have:=congrArg (fun x:Zak=>x.nodes.length) hd;simpa [GR.dat] using this
 have hlr:g'.rs.length=g.rs.length:=by have:=congrArg (fun x:Zak=>x.rels.length) hd;simpa [GR.dat] using this
 refine ⟨by rw [<- h'.nodes.len,hln,h.nodes.len];exact hz.nN,by rw [<- h'.rels.len,hlr,h.rels.len];exact hz.nR,fun x hx=>?_,fun x hx=>?_⟩
 · have h1:x.dat∈g'.dat.nodes:=List.mem_map_of_mem hx
   rw [hd] at h1
   obtain ⟨y,hy,he⟩:=List.mem_map.1 h1
   have hl:y.labels=x.labels:=congrArg ZaO.labels he
   have hp:y.props.map PR.dat=x.props.map PR.dat:=congrArg ZaO.props he
   have z:=hz.ns y hy
   have e1:y.labels.length=y.nL:=by have:=(h.nodes.lab y hy).len;simpa using this
   have e2:x.labels.length=x.nL:=by have:=(h'.nodes.lab x hx).len;simpa using this
   rw [hl] at e1
   exact ⟨by rw [<- e2,e1];exact z.nL,by rw [<- hl];exact z.lab,ZhV (h.nodes.pro y hy) (h'.nodes.pro x hx) z.pro hp.symm⟩
 have h1:x.dat∈g'.dat.rels:=List.mem_map_of_mem hx
 rw [hd] at h1
 obtain ⟨y,hy,he⟩:=List.mem_map.1 h1
 have ht:y.type=x.type:=congrArg GRel.type he
 have hp:y.props.map PR.dat=x.props.map PR.dat:=congrArg GRel.props he
 have z:=hz.rs y hy
 exact ⟨by rw [<- ht];exact z.type,ZhV (h.rels.pro y hy) (h'.rels.pro x hx) z.pro hp.symm⟩
theorem ZeT {w:World} {B k n' n c:Nat} {e:TypeId} {A:Option Addr} {xs:List Value} (h:w.ownsRow B e k (.slice A n' c) n xs) {i:Nat} (hi:i<n) :
 ∃ g cur,A=some ⟨g,0,none⟩/\B<=g/\g<w.heap.size/\Blk w g e cur/\i*k+k<=cur.size/\∀ j,j<k->cur[i*k+j]?=xs[i*k+j]?:=by
 rcases h.2 with ⟨_,h0⟩ | ⟨g,cap,cur,hv,hb,hg,hnc,_,hsz,ht⟩
 · omega
 injection hv with h1
 have hm:(i+1)*k<=n*k:=Nat.mul_le_mul_right k hi
 have hm2:n*k<=cap*k:=Nat.mul_le_mul_right k hnc
 rw [Nat.succ_mul] at hm
 refine ⟨g,cur,h1,hb,(Array.getElem?_eq_some_iff.1 hg).1,hg,by omega,fun j hj=>?_⟩
 rw [<- ht,List.getElem?_take,if_pos (by omega),Array.getElem?_toList]
theorem ZiA {α:Type} {f:α->List Value} {k:Nat} (hf:∀ x,(f x).length=k):∀ (l:List α) {i j:Nat} {x:α},l[i]?=some x->j<k->(l.flatMap f)[i*k+j]?=(f x)[j]?
 | [],i,j,x,h,_=>by simp at h
 | y::l,0,j,x,h,hj=>by
   simp only [List.getElem?_cons_zero,Option.some.injEq] at h
   subst h
   rw [List.flatMap_cons,Nat.zero_mul,Nat.zero_add,List.getElem?_append_left (by rw [hf];exact hj)]
 | y::l,i+1,j,x,h,hj=>by
   rw [List.getElem?_cons_succ] at h
   rw [List.flatMap_cons,List.getElem?_append_right (by rw [hf,Nat.succ_mul];omega),hf,show (i+1)*k+j-k=i*k+j by rw [Nat.succ_mul];omega]
   exact ZiA hf l h hj
structure NShp (w:World) (B C:Nat) (ns:List ND) (A:Option Addr):Prop where
 row:∀ i x,ns[i]?=some x->∃ nb cs,A=some ⟨nb,0,none⟩/\B<=nb/\nb<C/\Blk w nb 43 cs/\i*3+2<cs.size/\cs[i*3+1]?=some (.slice x.AL x.nL x.cL)/\cs[i*3+2]?=some (.slice x.AP x.nP x.cP)
 labs:∀ x∈ns,∀ k,k<x.nL->∃ h cs,x.AL=some ⟨h,0,none⟩/\B<=h/\h<C/\Blk w h 9 cs/\k<cs.size
 props:∀ x∈ns,∀ k,k<x.nP->∃ h cs,x.AP=some ⟨h,0,none⟩/\B<=h/\h<C/\Blk w h 48 cs/\k*6+5<cs.size
structure RShp (w:World) (B C:Nat) (rs:List RL) (A:Option Addr):Prop where
 row:∀ i x,rs[i]?=some x->∃ nb cs,A=some ⟨nb,0,none⟩/\B<=nb/\nb<C/\Blk w nb 50 cs/\i*5+4<cs.size/\cs[i*5+4]?=some (.slice x.AP x.nP x.cP)
 props:∀ x∈rs,∀ k,k<x.nP->∃ h cs,x.AP=some ⟨h,0,none⟩/\B<=h/\h<C/\Blk w h 48 cs/\k*6+5<cs.size
structure GShp (w:World) (B C:Nat) (g:GR):Prop where
 nodes:NShp w B C g.ns g.AN
 rels:RShp w B C g.rs g.AR
theorem own_n {w:World} {B k n' n c:Nat} {e:TypeId} {A:Option Addr} {xs:List Value} (h:w.ownsRow B e k (.slice A n' c) n xs):n'=n:=by
 rcases h.2 with ⟨hv,h0⟩ | ⟨g,cap,cur,hv,_⟩
 · injection hv with _ h1;omega
 injection hv with _ h1
theorem ZlS {w:World} {B n c:Nat} {A:Option Addr} {ps:List PR} (h:ZbC w B (.slice A n c) ps) {k:Nat} (hk:k<n):∃ b cs,A=some ⟨b,0,none⟩/\B<=b/\b<w.heap.size/\Blk w b 48 cs/\k*6+5<cs.size:=by
 obtain ⟨g,cur,h1,h2,h3,h4,h5,_⟩:=ZeT h.row (i:=k) (by rw [<- own_n h.row];exact hk)
 exact ⟨g,cur,h1,h2,h3,h4,by omega⟩
theorem OwnG.shp {w:World} {B:Nat} {g:GR} (h:OwnG w B g):GShp w B w.heap.size g:=by
 refine ⟨⟨fun i x hx=>?_,fun x hx k hk=>?_,fun x hx k hk=>ZlS (h.nodes.each x hx).pro hk⟩,⟨fun i x hx=>?_,fun x hx k hk=>ZlS (h.rels.each x hx).pro hk⟩⟩
 · obtain ⟨g,cur,h1,h2,h3,h4,h5,h6⟩:=ZeT h.nodes.row (i:=i) (List.getElem?_eq_some_iff.1 hx).1
   refine ⟨g,cur,h1,h2,h3,h4,by omega,?_,?_⟩
   · rw [h6 1 (by omega),ZiA (k:=3) (fun _=>rfl) _ hx (by omega)];rfl
   rw [h6 2 (by omega),ZiA (k:=3) (fun _=>rfl) _ hx (by omega)];rfl
 · obtain ⟨g,cur,h1,h2,h3,h4,h5,_⟩:=ZeT (h.nodes.each x hx).lab (i:=k) hk
   exact ⟨g,cur,h1,h2,h3,h4,by omega⟩
 obtain ⟨g,cur,h1,h2,h3,h4,h5,h6⟩:=ZeT h.rels.row (i:=i) (List.getElem?_eq_some_iff.1 hx).1
 refine ⟨g,cur,h1,h2,h3,h4,by omega,?_⟩
 rw [h6 4 (by omega),ZiA (k:=5) (fun _=>rfl) _ hx (by omega)];rfl
def ZlT (t:TypeId) (j:Nat):Prop:=(t=43->j % 3=0)/\(t=50->j % 5≠4)
section
variable {w:World} {B C g j:Nat} {t:TypeId} {cs:Array Value}
theorem Blk.any {h:Nat} {t':TypeId} {cs':Array Value} (hb:Blk w g t cs) (u:Value) (h':Blk w h t' cs'):∃ cs2,Blk (w.setCell ⟨g,j,none⟩ u) h t' cs2/\cs2.size=cs'.size/\∀ i,(h=g->i≠j)->cs2[i]?=cs'[i]?:=by
 by_cases e:h=g
 · subst e
   refine ⟨_,h'.put j u,by simp,fun i hi=>?_⟩
   rw [Array.getElem?_setIfInBounds,if_neg (fun e=>hi rfl e.symm)]
 exact ⟨cs',h'.far (p:=⟨g,j,none⟩) e u,rfl,fun _ _=>rfl⟩
theorem NShp.put {ns:List ND} {A:Option Addr} (h:NShp w B C ns A) (hb:Blk w g t cs) (hf:ZlT t j) (u:Value):NShp (w.setCell ⟨g,j,none⟩ u) B C ns A:=by
 refine ⟨fun i x hx=>?_,fun x hx k hk=>?_,fun x hx k hk=>?_⟩
 · obtain ⟨nb,cs',h1,h2,h3,h4,h5,h6,h7⟩:=h.row i x hx
   obtain ⟨cs2,k1,k2,k3⟩:=hb.any (j:=j) u h4
   have hj:nb=g->j % 3=0:=fun e=>hf.1 (by subst e;exact OfT.ne (w:=w) ⟨_,hb⟩ ⟨_,h4⟩)
   refine ⟨nb,cs2,h1,h2,h3,k1,by omega,?_,?_⟩
   · rw [k3 _ (fun e=>by have:=hj e;omega)];exact h6
   rw [k3 _ (fun e=>by have:=hj e;omega)];exact h7
 · obtain ⟨b,cs',h1,h2,h3,h4,h5⟩:=h.labs x hx k hk
   obtain ⟨cs2,k1,k2,_⟩:=hb.any (j:=j) u h4
   exact ⟨b,cs2,h1,h2,h3,k1,by omega⟩
 obtain ⟨b,cs',h1,h2,h3,h4,h5⟩:=h.props x hx k hk
 obtain ⟨cs2,k1,k2,_⟩:=hb.any (j:=j) u h4
 exact ⟨b,cs2,h1,h2,h3,k1,by omega⟩
theorem RShp.put {rs:List RL} {A:Option Addr} (h:RShp w B C rs A) (hb:Blk w g t cs) (hf:ZlT t j) (u:Value):RShp (w.setCell ⟨g,j,none⟩ u) B C rs A:=by
 refine ⟨fun i x hx=>?_,fun x hx k hk=>?_⟩
 · obtain ⟨nb,cs',h1,h2,h3,h4,h5,h6⟩:=h.row i x hx
   obtain ⟨cs2,k1,k2,k3⟩:=hb.any (j:=j) u h4
   have hj:nb=g->j % 5≠4:=fun e=>hf.2 (by subst e;exact OfT.ne (w:=w) ⟨_,hb⟩ ⟨_,h4⟩)
   refine ⟨nb,cs2,h1,h2,h3,k1,by omega,?_⟩
   rw [k3 _ (fun e=>by have:=hj e;omega)];exact h6
 obtain ⟨b,cs',h1,h2,h3,h4,h5⟩:=h.props x hx k hk
 obtain ⟨cs2,k1,k2,_⟩:=hb.any (j:=j) u h4
 exact ⟨b,cs2,h1,h2,h3,k1,by omega⟩
theorem GShp.put {gr:GR} (h:GShp w B C gr) (hb:Blk w g t cs) (hf:ZlT t j) (u:Value):GShp (w.setCell ⟨g,j,none⟩ u) B C gr:=⟨h.nodes.put hb hf u,h.rels.put hb hf u⟩
theorem GShp.upd {S:Nat->Prop} {w':World} {gr:GR} (h:GShp w B C gr) (hu:Upd S w w') (hs:∀ b,B<=b->b<C->¬ S b):GShp w' B C gr:=by
 refine ⟨⟨fun i x hx=>?_,fun x hx k hk=>?_,fun x hx k hk=>?_⟩,⟨fun i x hx=>?_,fun x hx k hk=>?_⟩⟩
 · obtain ⟨nb,cs',h1,h2,h3,h4,h5⟩:=h.nodes.row i x hx
   exact ⟨nb,cs',h1,h2,h3,h4.upd hu (hs _ h2 h3),h5⟩
 · obtain ⟨b,cs',h1,h2,h3,h4,h5⟩:=h.nodes.labs x hx k hk
   exact ⟨b,cs',h1,h2,h3,h4.upd hu (hs _ h2 h3),h5⟩
 · obtain ⟨b,cs',h1,h2,h3,h4,h5⟩:=h.nodes.props x hx k hk
   exact ⟨b,cs',h1,h2,h3,h4.upd hu (hs _ h2 h3),h5⟩
 · obtain ⟨nb,cs',h1,h2,h3,h4,h5⟩:=h.rels.row i x hx
   exact ⟨nb,cs',h1,h2,h3,h4.upd hu (hs _ h2 h3),h5⟩
 obtain ⟨b,cs',h1,h2,h3,h4,h5⟩:=h.rels.props x hx k hk
 exact ⟨b,cs',h1,h2,h3,h4.upd hu (hs _ h2 h3),h5⟩
end
structure WrB (w:World) (B:Nat) (A:Option Addr) (n c:Nat):Prop where
 le:n<=c
 max:c<=maxLen
 cell:(A=none/\c=0)\/∃ g,A=some ⟨g,0,none⟩/\B<=g/\g<w.heap.size/\∀ j,j<c->(w.cell? ⟨g,j,none⟩).isSome=true/\w.frozen? ⟨g,j,none⟩=false
theorem WrB.put {w:World} {B n c g k:Nat} (h:WrB w B (some ⟨g,0,none⟩) n c) (u:Value):WrB (w.setCell ⟨g,k,none⟩ u) B (some ⟨g,0,none⟩) n c:=by
 refine ⟨h.le,h.max,?_⟩
 rcases h.cell with h0 | ⟨g',e,hb,hg,hc⟩
 · exact absurd h0.1 (by simp)
 injection e with e
 injection e with e
 subst e
 refine .inr ⟨g,rfl,hb,by simpa [World.setCell] using hg,fun j hj=>⟨?_,by rw [World.frozen?_setCell];exact (hc j hj).2⟩⟩
 by_cases e:(⟨g,k,none⟩:Addr)=⟨g,j,none⟩
 · rw [e]
   obtain ⟨v,hv⟩:=Option.isSome_iff_exists.1 (hc j hj).1
   rw [World.cell?_setCell_same _ _ _ hv]
   rfl
 rw [World.cell?_setCell_other _ _ _ _ e]
 exact (hc j hj).1
theorem OwnG.low {S:Nat->Prop} {w w':World} {B:Nat} {g:GR} (h:OwnG w B g) (hu:Upd S w w') (hS:∀ b,S b->b<B):OwnG w' B g:=by
 have key:∀ {k n:Nat} {e:TypeId} {v:Value} {xs:List Value},w.ownsRow B e k v n xs->w'.ownsRow B e k v n xs:=fun h =>
  Zam h hu fun g hg hs=>by
   have:=(h.lt g hg).1
   have:=hS g hs
   omega
 have ps:∀ {v:Value} {l:List PR},ZbC w B v l->ZbC w' B v l:=fun hp=>⟨key hp.row,fun x hx=>⟨key (hp.each x hx).nums,key (hp.each x hx).texts,(hp.each x hx).fits⟩⟩
 exact ⟨⟨key h.nodes.row,fun x hx=>⟨key (h.nodes.each x hx).lab,ps (h.nodes.each x hx).pro,(h.nodes.each x hx).id⟩⟩,⟨key h.rels.row,fun x hx=>⟨ps (h.rels.each x hx).pro,(h.rels.each x hx).id⟩⟩⟩
structure MkI (w0:World) (B C:Nat) (gr:GR) (w:World):Prop where
 shp:GShp w B C gr
 upd:Upd (fun b=>B<=b/\b<C) w0 w
theorem MkI.put {w0 w:World} {B C g j:Nat} {gr:GR} {t:TypeId} {cs:Array Value} (h:MkI w0 B C gr w) (hb:Blk w g t cs) (h1:B<=g) (h2:g<C) (hf:ZlT t j) (u:Value):MkI w0 B C gr (w.setCell ⟨g,j,none⟩ u):=⟨h.shp.put hb hf u,h.upd.put ⟨h1,h2⟩ u⟩
theorem NShp.cells {w:World} {B C nb i:Nat} {ns:List ND} {x:ND} (h:NShp w B C ns (some ⟨nb,0,none⟩)) (hx:ns[i]?=some x):w.cell? ⟨nb,i*3+1,none⟩=some (.slice x.AL x.nL x.cL)/\w.cell? ⟨nb,i*3+2,none⟩=some (.slice x.AP x.nP x.cP):=by
 obtain ⟨nb',cs,e,_,_,hb,_,e1,e2⟩:=h.row i x hx
 injection e with e
 injection e with e
 subst e
 exact ⟨(hb.cell _).trans e1,(hb.cell _).trans e2⟩
end Go.Proofs.YtkopcinhbjimiaaGreatDoor
