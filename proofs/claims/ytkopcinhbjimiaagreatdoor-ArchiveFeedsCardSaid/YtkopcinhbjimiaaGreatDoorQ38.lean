/- Texts that the claim leans on: walks and plain laws, function by function. -/
import Derived.LaidMore
import Derived.Stop.Joined
import Derived.Test.YtkopcinhbjimiaaGreatDoorQ30
import Derived.Test.YtkopcinhbjimiaaGreatDoorQ37
set_option maxRecDepth 100000
set_option maxHeartbeats 16000000
namespace Go.Proofs.YtkopcinhbjimiaaGreatDoor
open Go.RowKit
theorem Zle {bs:List UInt8} (h:bs.length<=16777216):Zcv bs=match Zbo bs with
 | .error e=>(e,noG)
 | .ok g=>if (chkP g).1≠0 then ((chkP g).1,noG) else (0,g):=by
 rw [ZgJ h]
 unfold Zcv
 cases fedP bs with
 | error e=>rfl
 | ok s =>
   simp only [Zkm]
   unfold ansP
   by_cases h3:s.state=3
   · rw [if_neg (by simp [h3]),if_pos h3]
   rw [if_pos h3,if_neg h3]
theorem Zoc {bs:List UInt8} (h:bs.length<=16777216) {g:Zak} (hs:Zbo bs=.ok g):ZpY g/\9*g.nodes.length+9*g.rels.length+g.wt<=16777216:=by
 rw [ZgJ h] at hs
 cases hf:fedP bs with
 | error e=>rw [hf] at hs;cases hs
 | ok s =>
   rw [hf] at hs
   simp only [Zkm] at hs
   by_cases h3:s.state=3
   · rw [if_pos h3] at hs
     injection hs with hs
     subst hs
     have hi:InvP s:=by
      by_cases h8:8<=bs.length
      · obtain ⟨-,-,-,ht,-⟩:=Zha hf h8
        exact Zeb _ _ _ InvP.start ht
      rw [ZcZ (by omega)] at hf
      injection hf with hf
      rw [<- hf] at h3
      cases h3
     have hall:=congrArg List.length (Zgm hf)
     rw [List.length_append] at hall
     have:=Zed hi
     exact ⟨hi.1,by omega⟩
   rw [if_neg h3] at hs
   cases hs
theorem ZeZ {tmps:Array Value} {W:World} {g:Nat} {v0 v1 v2:Value} {R:Ending->World->Prop} (h2:tmps.getD 2 undef=.pointer (some ⟨g,0,none⟩)) (h3:tmps.getD 3 undef=v2) (hb:Blk W g 26 #[v0,v1])
 (hR:R (.returned (.tuple #[.agg #[v0,v1],v2])) W) :
 bodyPost Tryz.prog Tryz.f22 R Exit.ret { tmps:=tmps,defers:=[] } W:=by
 have c0:=hb.cell 0
 have c1:=hb.cell 1
 refine bodyPost_ret (v:=.tuple #[.agg #[v0,v1],v2]) ?_ rfl hR
 simp only [Array.getD_eq_getD_getElem?] at h2 h3
 simp [results,Tryz.results22,go_sem,h2,h3,c0,c1]
theorem ZfB {F:Nat->Prop} {A:Option Addr} {n c:Nat} {bs:List UInt8} (w:World) (hb:Bytes w F A n c bs) :
 Calls Tryz.prog 22 #[.slice A n c] w (ZhY (Zcv bs).1 (Zcv bs).2 w):=by
 have hs0:=(Upd.refl (fun _=>False) w).alloc (.cells #[.slice none 0 0,.slice none 0 0] 26)
 have HK:=qH (Blk.new w 26 #[.slice none 0 0,.slice none 0 0])
 have HY:=qH ((hb.mono (F':=fun b=>b<w.heap.size) fun b h _=>h).same hs0)
 have HS:=qH hs0
 have HL:=qH hb.len
 have hmx:=Row.max hb
 have hle:=Row.le hb
 unfold maxLen at hmx
 have hlt:w.heap.size<(w.alloc (.cells #[.slice none 0 0,.slice none 0 0] 26)).heap.size:=by rw [World.size_alloc];omega
 generalize hq:Zcv bs=q
 have HQ:=qH hq
 clear hb hs0 hq
 go_enter Tryz.func22,Tryz.ntmps22
 go_upto_region 1 with fail
 generalize w.alloc (.cells #[.slice none 0 0,.slice none 0 0] 26)=w1 at *
 generalize hg0:w.heap.size=g0 at *
 have c0:w1.cell? ⟨g0,0,none⟩=some (.slice none 0 0):=HK.out.cell 0
 have c1:w1.cell? ⟨g0,1,none⟩=some (.slice none 0 0):=HK.out.cell 1
 have f0:=HK.out.frozen 0
 have f1:=HK.out.frozen 1
 by_cases hn:(16777216:Int)<(n:Int)
 case pos =>
  have HQQ:Hid (q=(1,noG)):=qH (by rw [<- HQ.out];unfold Zcv;rw [Zda (by rw [HL.out];omega)])
  have HK2:Hid (Blk ((w1.setCell ⟨g0,0,none⟩ (.slice none 0 0)).setCell ⟨g0,1,none⟩ (.slice none 0 0)) g0 26 #[.slice none 0 0,.slice none 0 0]):=qH ((HK.out.put 0 (.slice none 0 0)).put 1 (.slice none 0 0))
  have HS2:Hid (Same w ((w1.setCell ⟨g0,0,none⟩ (.slice none 0 0)).setCell ⟨g0,1,none⟩ (.slice none 0 0))):=qH (HS.out.trans (((Upd.refl (fun b=>b=g0) w1).put1 _).put1 _) fun b hb e=>by omega)
  go_wp2_with fail
  generalize (w1.setCell ⟨g0,0,none⟩ (.slice none 0 0)).setCell ⟨g0,1,none⟩ (.slice none 0 0)=w2 at *
  rw [HQQ.out]
  refine ZeZ rfl rfl HK2.out ⟨⟨[],none,0,0,[],none,0,0⟩,rfl,rfl,OwnG.nil_ _ _,HS2.out⟩
 have HR:=qH (Zle (bs:=bs) (by rw [HL.out];omega))
 go_wp2_with fail
 refine (Zhh w1 HY.out (by omega)).mono ?_
 rintro e w2 ⟨⟨ns,A1,n1,m1,rs,A2,n2,m2⟩,er,rfl,hO,hok,her,hs2⟩
 have hs3:=hs2.alloc (.cells #[.slice A1 n1 m1,.slice A2 n2 m2] 26)
 have HS3:=qH hs3
 have hz2:=hs2.size
 have HO:=qH (hO.same ((Upd.refl (fun _=>False) w2).alloc (.cells #[.slice A1 n1 m1,.slice A2 n2 m2] 26)))
 have hk4:=Blk.new w2 26 #[.slice A1 n1 m1,.slice A2 n2 m2]
 have HK4:=qH hk4
 have k3:=HK.out.same hs3
 have HK3:=qH k3
 have c30:(w2.alloc (.cells #[.slice A1 n1 m1,.slice A2 n2 m2] 26)).cell? ⟨g0,0,none⟩=some (.slice none 0 0):=k3.cell 0
 have c31:(w2.alloc (.cells #[.slice A1 n1 m1,.slice A2 n2 m2] 26)).cell? ⟨g0,1,none⟩=some (.slice none 0 0):=k3.cell 1
 have f30:=k3.frozen 0
 have f31:=k3.frozen 1
 by_cases he:er=0
 case neg =>
  have n0:(er==0)=false:=by rw [beq_eq_false_iff_ne];exact he
  have nz:(er != 0)=true:=by rw [bne_iff_ne];exact he
  have HQQ:Hid (q=(er,noG)):=qH (by rw [<- HQ.out,HR.out,her he])
  clear hO hok her he hs2 hs3 hk4 k3
  go_upto_region 7 with fail
  generalize w2.alloc (.cells #[.slice A1 n1 m1,.slice A2 n2 m2] 26)=w3 at *
  have HK5:Hid (Blk ((w3.setCell ⟨g0,0,none⟩ (.slice none 0 0)).setCell ⟨g0,1,none⟩ (.slice none 0 0)) g0 26 #[.slice none 0 0,.slice none 0 0]):=qH ((HK3.out.put 0 (.slice none 0 0)).put 1 (.slice none 0 0))
  have HS5:Hid (Same w ((w3.setCell ⟨g0,0,none⟩ (.slice none 0 0)).setCell ⟨g0,1,none⟩ (.slice none 0 0))):=qH ((HS.out.trans HS3.out fun _ _ f=>f).trans (((Upd.refl (fun b=>b=g0) w3).put1 _).put1 _) fun b hb e=>by omega)
  go_wp2_with fail
  generalize (w3.setCell ⟨g0,0,none⟩ (.slice none 0 0)).setCell ⟨g0,1,none⟩ (.slice none 0 0)=w4 at *
  rw [HQQ.out]
  refine ZeZ rfl rfl HK5.out ⟨⟨[],none,0,0,[],none,0,0⟩,rfl,rfl,OwnG.nil_ _ _,HS5.out⟩
 subst he
 have HST:=qH (hok rfl)
 obtain ⟨hwr,hbd⟩:=Zoc (bs:=bs) (by rw [HL.out];omega) HST.out
 have hgs:=Zdb HO.out hwr (by simp only [GR.dat,List.length_map] at hbd;simp only;omega) (by simp only [GR.dat,List.length_map] at hbd;simp only;omega)
 obtain ⟨e,at_,hE⟩:∃ e at_,chkP (GR.dat ⟨ns,A1,n1,m1,rs,A2,n2,m2⟩)=(e,at_):=⟨_,_,rfl⟩
 have HE:=qH hE
 have HCK:=qH (ZjG (w2.alloc (.cells #[.slice A1 n1 m1,.slice A2 n2 m2] 26)) ⟨ns,A1,n1,m1,rs,A2,n2,m2⟩ HO.out.rd hgs hE)
 have k40:(w2.alloc (.cells #[.slice A1 n1 m1,.slice A2 n2 m2] 26)).cell? ⟨w2.heap.size,0,none⟩=some (.slice A1 n1 m1):=hk4.cell 0
 have k41:(w2.alloc (.cells #[.slice A1 n1 m1,.slice A2 n2 m2] 26)).cell? ⟨w2.heap.size,1,none⟩=some (.slice A2 n2 m2):=hk4.cell 1
 clear hO hok her hs2 hs3 hk4 k3 hwr hbd hgs hE
 go_upto_region 5 with fail
 generalize w2.alloc (.cells #[.slice A1 n1 m1,.slice A2 n2 m2] 26)=w3 at *
 generalize w2.heap.size=g4 at *
 go_wp2_with fail
 refine HCK.out.mono ?_
 rintro x w5 ⟨rfl,hs5⟩
 have k5:=HK3.out.same hs5
 have k45:=HK4.out.same hs5
 have c50:w5.cell? ⟨g0,0,none⟩=some (.slice none 0 0):=k5.cell 0
 have c51:w5.cell? ⟨g0,1,none⟩=some (.slice none 0 0):=k5.cell 1
 have d50:w5.cell? ⟨g4,0,none⟩=some (.slice A1 n1 m1):=k45.cell 0
 have d51:w5.cell? ⟨g4,1,none⟩=some (.slice A2 n2 m2):=k45.cell 1
 have f50:=k5.frozen 0
 have f51:=k5.frozen 1
 by_cases he:e=0
 case neg =>
  have nz:(e != 0)=true:=by rw [bne_iff_ne];exact he
  have HQQ:Hid (q=(e,noG)):=qH (by rw [<- HQ.out,HR.out,HST.out];simp only;rw [HE.out,if_pos he])
  have HK6:Hid (Blk ((w5.setCell ⟨g0,0,none⟩ (.slice none 0 0)).setCell ⟨g0,1,none⟩ (.slice none 0 0)) g0 26 #[.slice none 0 0,.slice none 0 0]):=qH ((k5.put 0 (.slice none 0 0)).put 1 (.slice none 0 0))
  have HS6:Hid (Same w ((w5.setCell ⟨g0,0,none⟩ (.slice none 0 0)).setCell ⟨g0,1,none⟩ (.slice none 0 0))):=qH (((HS.out.trans HS3.out fun _ _ f=>f).trans hs5 fun _ _ f=>f).trans (((Upd.refl (fun b=>b=g0) w5).put1 _).put1 _) fun b hb e=>by omega)
  clear he hs5 k5 k45
  go_wp2_with fail
  generalize (w5.setCell ⟨g0,0,none⟩ (.slice none 0 0)).setCell ⟨g0,1,none⟩ (.slice none 0 0)=w6 at *
  rw [HQQ.out]
  refine ZeZ rfl rfl HK6.out ⟨⟨[],none,0,0,[],none,0,0⟩,rfl,rfl,OwnG.nil_ _ _,HS6.out⟩
 have nz:(e != 0)=false:=by rw [bne_eq_false_iff_eq];exact he
 have HQQ:Hid (q=(0,GR.dat ⟨ns,A1,n1,m1,rs,A2,n2,m2⟩)):=qH (by rw [<- HQ.out,HR.out,HST.out];simp only;rw [HE.out,if_neg (by simp [he])])
 have HK6:Hid (Blk ((w5.setCell ⟨g0,0,none⟩ (.slice A1 n1 m1)).setCell ⟨g0,1,none⟩ (.slice A2 n2 m2)) g0 26 #[.slice A1 n1 m1,.slice A2 n2 m2]):=qH ((k5.put 0 (.slice A1 n1 m1)).put 1 (.slice A2 n2 m2))
 have hu6:=(((Upd.refl (fun b=>b=g0) w5).put1 (i:=0) (.slice A1 n1 m1)).put1 (i:=1) (.slice A2 n2 m2))
 have HS6:Hid (Same w ((w5.setCell ⟨g0,0,none⟩ (.slice A1 n1 m1)).setCell ⟨g0,1,none⟩ (.slice A2 n2 m2))):=qH (((HS.out.trans HS3.out fun _ _ f=>f).trans hs5 fun _ _ f=>f).trans hu6 fun b hb e=>by omega)
 have HO6:Hid (OwnG ((w5.setCell ⟨g0,0,none⟩ (.slice A1 n1 m1)).setCell ⟨g0,1,none⟩ (.slice A2 n2 m2)) w.heap.size ⟨ns,A1,n1,m1,rs,A2,n2,m2⟩):=qH (by
  have hT:∀ b,b<w5.heap.size->b=g0->OfT w5 26 b:=fun b _ e=>e ▸ ⟨_,k5⟩
  have h1:=(HO.out.same hs5).base (B':=w.heap.size) (by omega)
  exact ⟨h1.nodes.type hu6 hT (by decide) (by decide) (by decide) (by decide),h1.rels.type hu6 hT (by decide) (by decide) (by decide) (by decide)⟩)
 clear he hs5 k5 k45 hu6
 go_wp2_with fail
 generalize (w5.setCell ⟨g0,0,none⟩ (.slice A1 n1 m1)).setCell ⟨g0,1,none⟩ (.slice A2 n2 m2)=w6 at *
 rw [HQQ.out]
 refine ZeZ rfl rfl HK6.out ⟨⟨ns,A1,n1,m1,rs,A2,n2,m2⟩,rfl,rfl,HO6.out,HS6.out⟩
theorem Zlf:(chkP noG).1=0:=by
 have h:∀ k,(ZeW noG k).length=0:=fun k=>by
  have h1:=(Zfv noG k).mem
  have h2:Zag noG k=[]:=by
   unfold Zag noG
   by_cases h1:k=1
   · rw [if_pos h1];rfl
   rw [if_neg h1]
   by_cases h2:k=2
   · rw [if_pos h2];rfl
   rw [if_neg h2]
   by_cases h3:k=3
   · rw [if_pos h3];rfl
   rw [if_neg h3]
  rw [h2] at h1
  cases hx:ZeW noG k with
  | nil=>rfl
  | cons a l=>exact absurd ((h1 a).1 (by rw [hx];simp)) (by simp)
 unfold chkP Zcq
 rw [h 1,h 2,h 3]
 rfl
theorem ZjT:Zcc noG:=(Zec Zlf ⟨by simp [noG],by simp [noG]⟩).1
theorem Zlg:(arcP noG).length=44/\(arcP noG).take 15=[83,65,84,67,72,69,76,49,1,0,0,0,2,0,1]:=by
 have e:(ZaE noG).flatten=Zau++Zal 1 [0,1]:=by simp [ZaE,noG]
 refine ⟨?_,?_⟩
 · rw [Zby,List.length_append,ZeU,e,List.length_append,ZaT]
   rfl
 rw [Zby,e]
 have e2:Zal 1 [0,1]=[1,0,0,0,2,0,1]++(Zal 1 [0,1]).drop 7:=rfl
 rw [e2]
 rfl
theorem Zqj {g:Zak} (h:Zcc g) {k:Nat} (hk:k<25):∃ s,fedP ((ZaE g).flatten++(Zcr g).take k)=.ok s/\s.state≠3:=by
 have hl:((Zcr g).take k).length=k:=by rw [List.length_take,ZeU];omega
 have h1:oneP ((Zcr g).take k)=.ok none:=by
  unfold oneP
  by_cases h5:k<5
  · rw [if_pos (by omega)]
  rw [if_neg (by omega)]
  have e:(((Zcr g).take k).drop 1).take 4=((Zcr g).drop 1).take 4:=by
   rw [List.drop_take,List.take_take,Nat.min_eq_left (by omega)]
  have h2:be (((Zcr g).drop 1).take 4)=16:=by
   have h3:Zcr g=beb 1 4++(beb 4 16++(ZaS g.nodes.length g.rels.length g.wt (ZaE g).flatten++beb 4 (crcS (Zck 4 (ZaS g.nodes.length g.rels.length g.wt (ZaE g).flatten))).toNat)):=by
    unfold Zcr Zal
    generalize beb 4 (crcS (Zck 4 (ZaS g.nodes.length g.rels.length g.wt (ZaE g).flatten))).toNat=z
    unfold Zck
    rw [ZbQ]
    simp only [List.append_assoc]
   have h4:(beb 1 4).length=1:=Zac 1 4
   have h5:(beb 4 16).length=4:=Zac 4 16
   rw [h3,List.drop_append_of_le_length (by omega),List.drop_of_length_le (by omega),List.nil_append,List.take_append_of_le_length (by omega),List.take_of_length_le (by omega),Zej]
  rw [e,h2,if_neg (by omega),if_pos (by omega)]
 have h8:8<=(ZaE g).flatten.length:=by rw [ZaE,List.flatten_cons,List.length_append,ZcT];omega
 have hm:((ZaE g).flatten++(Zcr g).take k).take 8=Zau:=by
  rw [ZaE,List.flatten_cons,List.append_assoc,<-ZcT,List.take_left]
 have hle:((ZaE g).flatten++(Zcr g).take k).length<=16777216:=by
  have:=h.head_len
  rw [List.length_append,hl]
  omega
 have hf:=ZgZ h ((Zcr g).take k)
 rw [ZaN h1] at hf
 obtain ⟨st,hst,ht⟩:=ZhT h []
 refine ⟨⟨st,g,(ZaE g).flatten⟩,?_,by rcases hst with rfl | rfl <;> simp⟩
 unfold fedP
 rw [if_neg (by omega),if_neg (by rw [List.length_append];omega),if_neg (by simp [hm]),hf]
 simp only [ht]
 have e1:Zat [] ⟨st,g,(ZaE g).flatten⟩=.ok ⟨st,g,(ZaE g).flatten⟩:=rfl
 rw [e1]
 have e2:st≠3:=by rcases hst with rfl | rfl <;> decide
 simp [e2]
theorem ZlX:Zcv (arcP noG)=(0,noG)/\Zcv ((arcP noG).take 43)=(10,noG):=by
 constructor
 · unfold Zcv
   rw [ZoZ ZjT]
   simp only
   unfold ansP
   rw [if_neg (by simp),if_neg (by simp [Zlf])]
 have e:(ZaE noG).flatten++(Zcr noG).take 24=(arcP noG).take 43:=by
  have h1:(ZaE noG).flatten.length=19:=by
   have e:(ZaE noG).flatten=Zau++Zal 1 [0,1]:=by simp [ZaE,noG]
   rw [e,List.length_append,ZaT]
   rfl
  rw [Zby,List.take_append,h1,List.take_of_length_le (l:=(ZaE noG).flatten) (by omega)]
 obtain ⟨s,h1,h2⟩:=Zqj ZjT (k:=24) (by omega)
 rw [e] at h1
 unfold Zcv
 rw [h1]
 simp only
 unfold ansP
 rw [if_pos h2]
theorem ZlY:fedP ([]++[83,65,84,67,72,69,76,50])=.error 90:=Zft (by simp) (by simp) (by decide)
theorem Zpp (w:World):RdG w (fun b=>b<w.heap.size) ⟨[],none,0,0,[],none,0,0⟩:=((OwnG.nil_ w w.heap.size).rd).mono fun _ hb _=>hb
theorem ZqM:ZcW ⟨[],none,0,0,[],none,0,0⟩:=⟨by simp,by simp,by simp,by simp⟩
theorem AOk.same {w w':World} {B r fr d:Nat} {vf v1 v2:Value} {gr:GR} {fed:Nat} {b:List UInt8} {s:PSt} (h:AOk w B r fr d vf v1 v2 gr fed b s) (hu:Same w w'):AOk w' B r fr d vf v1 v2 gr fed b s:=⟨h.ard.same hu,h.dat,h.ok⟩
theorem AOk.ge {w wL:World} {B r fr d:Nat} {vf v1 v2:Value} {gr:GR} {fed:Nat} {b:List UInt8} {s:PSt} (h:AOk w B r fr d vf v1 v2 gr fed b s) {g:Nat} (hg:FSet wL B r fr d vf v1 v2 g):B<=g:=by
 rcases hg with h2 | h2 | h2 | h2 | h2
 · rcases h2 with h2 | h2 | ⟨_,h2⟩
   · have:=h.ard.br;omega
   · have:=h.ard.bd;omega
   exact h2
 · have:=h.ard.fin.base;omega
 · exact (h.ard.fst.lt g h2).1
 · exact (Off.lt h.ard.fin.orest g h2).1
 exact (Off.lt h.ard.fin.oready g h2).1
theorem AOk.fresh {w wL:World} {B r fr d:Nat} {vf v1 v2:Value} {gr:GR} {fed:Nat} {b:List UInt8} {s:PSt} (h:AOk w B r fr d vf v1 v2 gr fed b s) {g:Nat} (hg:TyB wL w.heap.size g):¬ FSet wL B r fr d vf v1 v2 g:=by
 have h1:=hg.1
 rintro (h2 | h2 | h2 | h2 | h2)
 · rcases h2 with h2 | h2 | ⟨h2 | h2,_⟩
   · have:=h.ard.blk.lt;omega
   · have:=Blk.lt h.ard.dig;omega
   · exact absurd (hg.ne h2) (by decide)
   exact absurd (hg.ne h2) (by decide)
 · have:=h.ard.fin.blk.lt;omega
 · have:=(h.ard.fst.lt g h2).2;omega
 · have:=(Off.lt h.ard.fin.orest g h2).2;omega
 have:=(Off.lt h.ard.fin.oready g h2).2;omega
theorem ZfX (w:World) (hN:Nib w):Calls Tryz.prog 12 #[] w fun e w'=>e=.returned (.bool true)/\Same w w':=by
 have HN:=qH hN
 have HW:=qH (ZkU w ⟨[],none,0,0,[],none,0,0⟩ (Zpp w) ZqM hN)
 clear hN
 go_enter Tryz.func12,Tryz.ntmps12
 go_wp2_with fail
 refine HW.out.mono ?_
 rintro e w1 ⟨v,rfl,hs1,-,hF⟩
 have h0:(chkP (GR.dat ⟨[],none,0,0,[],none,0,0⟩)).1=0:=Zlf
 have hFr:Lib.FreshBytes w.heap.size w1 v (arcP noG):=hF h0
 rw [h0]
 obtain ⟨A,c,rfl,hby⟩:=ZkS hFr (by rw [Zlg.1];omega)
 rw [Zlg.1] at hby ⊢
 have HB:=qH hby
 have HS1:=qH hs1
 have hcv:(convert 28 9 (.slice A 15 c)).run Tryz.prog w1=.ok (.string { data:=#[83,65,84,67,72,69,76,49,1,0,0,0,2,0,1] }) w1:=by
  have h1:=Zay (hby.head (m:=15) (by omega))
  rw [Zlg.2] at h1
  exact h1
 have hle:44<=c:=Row.le hby
 clear hF hFr h0 hby hs1 HW
 go_wp2_with fail
 refine (Zfx w1 HB.out (HN.out.same HS1.out)).mono ?_
 rintro e w2 ⟨g2,rfl,-,-,hs2⟩
 rw [ZlX.1]
 have HB2:=qH (HB.out.same hs2)
 have HS2:=qH (HS1.out.trans hs2 fun _ _ f=>f)
 clear hs2 hcv
 go_wp2_with fail
 have hb3:Bytes w2 (fun b=>w.heap.size<=b) A 43 c ((arcP noG).take 43):=HB2.out.head (by omega)
 refine (Zfx w2 hb3 (HN.out.same HS2.out)).mono ?_
 rintro e w3 ⟨g3,rfl,-,-,hs3⟩
 rw [ZlX.2]
 have hs4:=(HS2.out.trans hs3 fun _ _ f=>f).alloc (.cells #[.slice g3.AN g3.nN g3.cN,.slice g3.AR g3.nR g3.cR] 26)
 have HS4:=qH hs4
 clear hs3 hb3 hs4
 go_upto_region 6 with fail
 generalize w3.alloc (.cells #[.slice g3.AN g3.nN g3.cN,.slice g3.AR g3.nR g3.cR] 26)=w4 at *
 go_wp2_with fail
 refine (ZeA w4).mono ?_
 rintro e w5 ⟨r,fr,d,rfl,hA5,hs5⟩
 have HS5:=qH (HS4.out.trans hs5 fun _ _ f=>f)
 have HA5:=qH hA5
 clear hA5 hs5
 have kc:=fun (w:World) (C:Array Value) (n c:Nat)=>Lib.run_convert_bytes_const (P:=Tryz.prog) w 28 5 C n c Tryz.underlying28 Tryz.underlying5
 have sL:=(Upd.refl (fun _=>False) w5).alloc (.cells #[.int .u8 83,.int .u8 65,.int .u8 84,.int .u8 67,.int .u8 72,.int .u8 69,.int .u8 76,.int .u8 50] 5 (8,9))
 have hM:Zbx (w5.alloc (.cells #[.int .u8 83,.int .u8 65,.int .u8 84,.int .u8 67,.int .u8 72,.int .u8 69,.int .u8 76,.int .u8 50] 5 (8,9))) w5.heap.size ⟨[83,65,84,67,72,69,76,50],some ⟨w5.heap.size,0,none⟩,8,8⟩ :=
  Zbx.lit w5 (Nat.le_refl _) [83,65,84,67,72,69,76,50] rfl
 have HF:=qH (ZdM (b:=[]) _ (HA5.out.same sL) hM (fun g hg=>HA5.out.fresh hg) ((HN.out.same HS5.out).same sL) (by have h1:=HN.1;have:=HS4.out.size;omega))
 have HSL:=qH sL
 clear hM sL
 go_wp2_with fail
 refine HF.out.mono ?_
 rintro e w7 ⟨hu,h⟩
 have hS:Same w w7:=((HS5.out.trans HSL.out fun _ _ f=>f).trans hu fun b hb hs=>by have:=HA5.out.ge hs;have:=HS4.out.size;omega)
 have HSS:=qH hS
 clear hS hu
 rcases h with ⟨er,a0,a1,a2,a3,a4,a5,a6,-,he,rfl,-⟩ | ⟨s',_,_,_,_,_,hA,_⟩
 · have e9:er=90:=by
    have h1:=ZlY.symm.trans he
    injection h1 with h1
    exact h1.symm
   subst e9
   clear he
   go_wp2
   go_ret
   exact ⟨rfl,HSS.out⟩
 have h1:=ZlY.symm.trans hA.ok
 cases h1
end Go.Proofs.YtkopcinhbjimiaaGreatDoor
namespace Go.Proofs.YtkopcinhbjimiaaGreatDoor
open Go.ChangeShapes Go.WideShapes Go.ChangeAt Go.RowKit
abbrev ZjU:List (String×DataW Unit):=[("satchel/crc.nibble", Rows.laid_satchel_crc_nibble)]
theorem ZlZ (os:Os) (args:Array Value):laidMetH Tryz.prog ZjU ((World.doorLaid Tryz.prog 400 os).forCall (fun _ _=>0) ⟨#[],args,[]⟩).memory :=
 laidMetH_of_parts3 (fuel:=8) (laidMet_of_run' 8 (by kernel_rfl) (by kernel_rfl)) (by kernel_rfl) (by kernel_rfl)
theorem Zqk:∀ i:Fin 16,(match (Rows.laid_satchel_crc_nibble:DataW Unit) with | .agg l=>l[i.val]? | _=>none)=(crcT[i.val]?).map fun t=>.lit (.int .u32 (t.toNat:Int)):=fun i=>by
 obtain ⟨i,hi⟩:=i
 rcases i with _ | _ | _ | _ | _ | _ | _ | _ | _ | _ | _ | _ | _ | _ | _ | _ | i
 all_goals first | rfl | omega
theorem Zhi {W:World} (h:laidMetH Tryz.prog ZjU W):Nib W:=by
 rw [MakeChecks.laidMetH_plain _ _ _ (by kernel_rfl)] at h
 obtain ⟨ps,⟨g0,t0,cs0,f0,p0,q0,hg0,ht0,hv0,hd0,_,_⟩,_,_⟩:=h
 obtain rfl:=Option.some.inj ((show Tryz.prog.globalNamed "satchel/crc.nibble" = some 1 by kernel_rfl).symm.trans hg0)
 obtain rfl:=Option.some.inj ((show (Tryz.prog.globals[1]?).map (·.type)=some 169 by kernel_rfl).symm.trans ht0)
 obtain ⟨xs,m1,rfl,hx1,hlen,hn3,hel⟩:=DataW.trod_array Tryz.underlying169 hd0
 have c3:Tryz.prog.cellsOf 87=1:=by kernel_rfl
 have c24:Tryz.prog.cellsOf 169=16:=by kernel_rfl
 rw [c24] at hlen
 simp only [Prod.mk.injEq] at hx1
 have hcell:∀ i,W.cell? ⟨1,i,none⟩=cs0[i]?:=fun i=>World.var?_cell hg0 hv0 i
 have hat:∀ (i:Nat) (t:BitVec 32),crcT[i]?=some t->W.cell? ⟨1,i,none⟩=some (.int .u32 (t.toNat:Int)):=fun i t ht=>by
  have hi:i<16:=(Array.getElem?_eq_some_iff.1 ht).1
  have h1:=hel i hi
  rw [c3,Nat.mul_one,List.getElem?_eq_getElem (by omega)] at h1
  obtain ⟨k,e1,e2,_⟩:=DataW.trod_int Tryz.underlying87 h1
  have h2:=Zqk ⟨i,hi⟩
  simp only [ht,Option.map_some] at h2
  have h3:(Rows.laid_satchel_crc_nibble:DataW Unit)=.agg (xs.map (·.1)):=hx1.1
  rw [h3] at h2
  simp only [List.getElem?_map,List.getElem?_eq_getElem (show i<xs.length by omega),Option.map_some,e2,Option.some.injEq,DataW.lit.injEq,Lit.int.injEq,true_and] at h2
  subst h2
  rw [hcell]
  have h4:(cs0.toList.drop i).take 1=[cs0.toList[i]'(by omega)]:=by
   rw [List.take_one,List.head?_drop,List.getElem?_eq_getElem (by omega)]
   rfl
  rw [h4] at e1
  have h5:cs0.toList[i]?=some (.int .u32 (t.toNat:Int)):=by
   rw [List.getElem?_eq_getElem (by omega)]
   exact congrArg some (List.cons.inj e1).1
  rw [<- Array.getElem?_toList]
  exact h5
 refine ⟨?_,hat⟩
 have h0:=hat 0 _ rfl
 exact block_lt_of_cell h0
end Go.Proofs.YtkopcinhbjimiaaGreatDoor
namespace Go.Proofs.YtkopcinhbjimiaaGreatDoor
open Go.RowKit
theorem ZdN {F:Nat->Prop} {A:Option Addr} {n c:Nat} {bs:List UInt8} (w:World) (hb:Bytes w F A n c bs) (hn:n<=140737488355328) :
 Calls Tryz.prog 20 #[.slice A n c] w fun e w'=>∃ v',e=.returned v'/\OwnB w' w.heap.size v' bs/\Same w w':=by
 have HL:=qH hb.len
 have hmax:n<=maxLen:=by have:=Row.le hb;have:=Row.max hb;omega
 go_enter Tryz.func20,Tryz.ntmps20
 go_wp2_with (at_builtin;go_must (refine Zaf rfl (.tmp 3) (.tmp 4) _ _ rfl w.heap.size _ _ _ _ Tryz.underlying28 ZaZ rfl _ 0 [] rfl (World.ownsRow_made w #[] 0 (Nat.le_refl _) (Nat.zero_le _) rfl) rfl (Zan Tryz.underlying28 (Row.same hb ((Upd.refl _ w).alloc _)) (Zcd bs)) (by omega) (by omega) (by simp) ?_);intro v' w1 happ)
 go_ret
 refine ⟨v',rfl,?_,?_⟩
 · have:=happ.own
   unfold OwnB
   rw [HL.out]
   simpa using this
 exact ((Upd.refl _ w).alloc _).trans happ.upd fun b hb hv=>by
  have:=Option.some.inj hv
  simp only at this
  omega
end Go.Proofs.YtkopcinhbjimiaaGreatDoor
