/- Texts that the claim leans on: walks and plain laws, function by function. -/
import Derived.Test.YtkopcinhbjimiaaGreatDoorS27
import Derived.Test.YtkopcinhbjimiaaGreatDoorS30
set_option maxRecDepth 100000
set_option maxHeartbeats 16000000
namespace Go.Proofs.YtkopcinhbjimiaaGreatDoor
open Go.RowKit
theorem ZpU (xs ys:List UInt8) {r:Bool} (hr:decide (xs=ys)=r):((⟨xs.toArray⟩:ByteArray).toList==(⟨ys.toArray⟩:ByteArray).toList)=r:=by
 rw [<- hr,Bool.eq_iff_iff,beq_iff_eq,ZcX,decide_eq_true_eq]
 constructor
 · intro h
   injection h with h
   exact Array.mk.inj h
 rintro rfl;rfl
theorem Zcf {F F':Nat->Prop} {A A':Option Addr} {n c n' c':Nat} {xs ys:List UInt8} (w:World) (h:Bytes w F A n c xs) (h':Bytes w F' A' n' c' ys) {r:Bool} (hr:decide (xs=ys)=r) :
 Calls Tryz.prog 129 #[.slice A n c,.slice A' n' c'] w fun e w'=>e=.returned (.bool r)/\w=w':=by
 have c1:=ZbF h
 have c2:=ZbF h'
 have hb:=ZpU xs ys hr
 clear hr
 generalize (⟨xs.toArray⟩:ByteArray)=X at *
 generalize (⟨ys.toArray⟩:ByteArray)=Y at *
 go_enter Tryz.func129,Tryz.ntmps129
 go_wp2
 go_ret
 exact ⟨rfl,rfl⟩
def RSet (w:World) (B r d:Nat) (b:Nat):Prop:=b=r\/b=d\/((OfT w 43 b\/OfT w 50 b)/\B<=b)
theorem OfT.back {S:Nat->Prop} {w w1:World} (hu:Upd S w w1) {b:Nat} (hb:b<w.heap.size) (hs:¬ S b) {e:TypeId} (h:OfT w1 e b):OfT w e b:=by
 obtain ⟨c,h⟩:=h
 exact ⟨c,(hu.block b hb hs).symm.trans h⟩
theorem RSet.back {S:Nat->Prop} {w w1:World} {B r d:Nat} (hu:Upd S w w1) {b:Nat} (hb:b<w.heap.size) (hs:¬ S b) (h:RSet w1 B r d b):RSet w B r d b:=by
 rcases h with h | h | ⟨h | h,h2⟩
 · exact .inl h
 · exact .inr (.inl h)
 · exact .inr (.inr ⟨.inl (h.back hu hb hs),h2⟩)
 exact .inr (.inr ⟨.inr (h.back hu hb hs),h2⟩)
theorem RSet.same1 {w w1 w2:World} {B r d:Nat} (h1:Same w w1) (h2:Upd (RSet w1 B r d) w1 w2):Upd (RSet w B r d) w w2 :=
 (h1.mono fun _ _ f=>f.elim).trans h2 fun _ hb h=>RSet.back h1 hb (fun f=>f) h
theorem ARd.took {w w':World} {B r fr d:Nat} {vf v1 v2:Value} {gr gr':GR} {fed:Nat} {first rest all all':List UInt8} {ready:List FR} {st st':Nat} {fe:Int} (h:ARd w B r fr d vf v1 v2 gr fed first rest all ready st fe) (hu:Upd (RSet w B r d) w w') (hk:Blk w' r 97 #[.int .i64 (fed:Int),vf,.pointer (some ⟨fr,0,none⟩),.pointer (some ⟨d,0,none⟩),.int .i64 (st':Int),.slice gr'.AN gr'.nN gr'.cN,.slice gr'.AR gr'.nR gr'.cR,.int .i64 0]) (ho:OwnG w' B gr') (hd:Dig w' d all'):ARd w' B r fr d vf v1 v2 gr' fed first rest all' ready st' fe:=by
 have hx:∀ {e:TypeId} {g:Nat},OfT w e g->e≠97->e≠121->e≠43->e≠50->¬ RSet w B r d g:=fun {e g} he n1 n2 n3 n4 hS=>by
  rcases hS with rfl | rfl | ⟨hS | hS,_⟩
  · exact n1 (OfT.ne he ⟨_,h.blk⟩)
  · exact n2 (OfT.ne he ⟨_,h.dig⟩)
  · exact n3 (OfT.ne he hS)
  exact n4 (OfT.ne he hS)
 refine ⟨h.br,h.bd,hk,h.fin.upd hu (hx ⟨_,h.fin.blk⟩ (by decide) (by decide) (by decide) (by decide)) (fun g hg=>hx (Zbi h.fin.orest hg) (by decide) (by decide) (by decide) (by decide)) (fun g hg=>hx (Zbi h.fin.oready hg) (by decide) (by decide) (by decide) (by decide)) (fun x hm g hg=>hx (Zaq (h.fin.each x hm).row hg) (by decide) (by decide) (by decide) (by decide)),hd,Zam h.fst hu fun g hg=>hx (Zaq h.fst hg) (by decide) (by decide) (by decide) (by decide),ho,h.ne⟩
theorem Zcl {w wT w5 w6:World} {B r fr d:Nat} {vf v1 v2:Value} {gr gr':GR} {fed:Nat} {first rest all all':List UInt8} {ready:List FR} {st st':Nat} {fe:Int} (h:ARd w B r fr d vf v1 v2 gr fed first rest all ready st fe) (hu:Upd (RSet w B r d) w wT) (hk:Blk wT r 97 #[.int .i64 (fed:Int),vf,.pointer (some ⟨fr,0,none⟩),.pointer (some ⟨d,0,none⟩),.int .i64 (st':Int),.slice gr'.AN gr'.nN gr'.cN,.slice gr'.AR gr'.nR gr'.cR,.int .i64 0]) (ho:OwnG wT B gr') (hD:Dig wT d all) (hs:Same wT w5) (hu6:Upd (fun b=>b=d) w5 w6) (hd:Dig w6 d all'):Upd (RSet w B r d) w w6/\ARd w6 B r fr d vf v1 v2 gr' fed first rest all' ready st' fe:=by
 have h1:Upd (RSet w B r d) w w5:=hu.trans hs fun _ _ f=>f.elim
 have h2:Upd (RSet w B r d) w w6:=h1.trans hu6 fun _ _ e=>.inr (.inl e)
 have hne:r≠d:=Blk.ne hk hD (by decide)
 refine ⟨h2,h.took h2 ((hk.same hs).upd hu6 hne) ((ho.same hs).upd3 hu6 fun g e=>?_) hd⟩
 subst e
 exact .inr (.inl ⟨_,hD.same hs⟩)
def Ziy (B r fr d:Nat) (vf v1 v2:Value) (gr:GR) (fed:Nat) (first rest all:List UInt8) (ready:List FR) (st ty:Nat) (fe:Int) (bs:List UInt8) (w:World) (e:Ending) (w':World):Prop :=
 Upd (RSet w B r d) w w' /\
 ((∃ (er:Int) (a0 a1 a2 a3 a4 a5 a6:Value),er≠0/\Zby ⟨st,gr.dat,all⟩ ⟨ty,bs⟩=.error er/\e=.returned (.int .i64 er)/\Blk w' r 97 #[a0,a1,a2,a3,a4,a5,a6,.int .i64 0]) \/
  (∃ (gr':GR) (st':Nat),Zby ⟨st,gr.dat,all⟩ ⟨ty,bs⟩=.ok ⟨st',gr'.dat,all++Zai ty bs⟩/\e=.returned (.int .i64 0)/\ARd w' B r fr d vf v1 v2 gr' fed first rest (all++Zai ty bs) ready st' fe))
theorem ZjI {F:Nat->Prop} {B r fr d:Nat} {vf v1 v2:Value} {gr:GR} {fed:Nat} {first rest all:List UInt8} {ready:List FR} {st ty:Nat} {fe:Int} {A:Option Addr} {n c:Nat} {bs:List UInt8} (w:World) (h:ARd w B r fr d vf v1 v2 gr fed first rest all ready st fe) (hb:Bytes w F A n c bs) (hF:∀ b,F b->¬ RSet w B r d b) (hi:InvP ⟨st,gr.dat,all⟩) (hty:ty<=255) (hn:n<=1048576) (hal:all.length<=16777216) (hN:Nib w) (hG:1<B) :
 Calls Tryz.prog 94 #[.pointer (some ⟨r,0,none⟩),.agg #[.int .i64 (ty:Int),.slice A n c]] w (Ziy B r fr d vf v1 v2 gr fed first rest all ready st ty fe bs w):=by
 have HNR:=qH (show ∀ e w',Ziy B r fr d vf v1 v2 gr fed first rest all ready st ty fe bs w e w'↔Upd (RSet w B r d) w w' /\
 ((∃ (er:Int) (a0 a1 a2 a3 a4 a5 a6:Value),er≠0/\Zby ⟨st,gr.dat,all⟩ ⟨ty,bs⟩=.error er/\e=.returned (.int .i64 er)/\Blk w' r 97 #[a0,a1,a2,a3,a4,a5,a6,.int .i64 0]) \/
  (∃ (gr':GR) (st':Nat),Zby ⟨st,gr.dat,all⟩ ⟨ty,bs⟩=.ok ⟨st',gr'.dat,all++Zai ty bs⟩/\e=.returned (.int .i64 0)/\ARd w' B r fr d vf v1 v2 gr' fed first rest (all++Zai ty bs) ready st' fe)) from fun _ _=>Iff.rfl)
 generalize Ziy B r fr d vf v1 v2 gr fed first rest all ready st ty fe bs w=NRes at HNR ⊢
 have hs0:=(Upd.refl (fun _=>False) w).alloc (.cells #[.int .i64 (ty:Int),.slice A n c] 84)
 have HX:=qH (Blk.new w 84 #[.int .i64 (ty:Int),.slice A n c])
 have HA0:=qH h
 have HA:=qH (h.same hs0)
 have HLn:=qH hb.len
 have HY:=qH ((hb.mono (F':=fun b=>b<w.heap.size/\¬ RSet w B r d b) fun b h hf=>⟨h,hF b hf⟩).same hs0)
 have HN:=qH (hN.same hs0)
 have HS0:=qH hs0
 have HI:=qH hi
 have hst:st<=3:=by
  rcases hi.2 with h | h | h | h
  · have h1:st=0:=h.1;omega
  · have h1:st=1:=h.1;omega
  · have h1:st=2:=h.1;omega
  have h1:st=3:=h.1;omega
 have hBr:=h.br
 have hBd:=h.bd
 have hrl:r<w.heap.size:=h.blk.lt
 have hdl:d<w.heap.size:=h.dig.lt
 have hrd:r≠d:=Blk.ne h.blk h.dig (by decide)
 have HZ0:=qH (show w.heap.size<(w.alloc (.cells #[.int .i64 (ty:Int),.slice A n c] 84)).heap.size by rw [World.size_alloc];omega)
 have hnb:n=bs.length:=hb.len.symm
 have HNb:=qH hnb
 have ib:=ZhT hi
 have hnN:gr.nN<=2097152:=by have:=h.own.nodes.rd.len;simp only [GR.dat,List.length_map] at ib;omega
 have hnR:gr.nR<=2097152:=by have:=h.own.rels.rd.len;simp only [GR.dat,List.length_map] at ib;omega
 have hwt:gr.dat.wt<=16777216:=by simp only at ib;omega
 have HWt:=qH hwt
 clear h hb hF hN hs0 hi hnb ib hwt
 go_enter Tryz.func94,Tryz.ntmps94
 go_upto_region 3 with fail
 generalize hbx:w.heap.size=bx at *
 generalize w.alloc (.cells #[.int .i64 (ty:Int),.slice A n c] 84)=w1 at *
 have hz0:=HZ0.out
 have p3:w1.cell? ⟨r,3,none⟩=some (.pointer (some ⟨d,0,none⟩)):=HA.out.blk.cell 3
 have p4:w1.cell? ⟨r,4,none⟩=some (.int .i64 (st:Int)):=HA.out.blk.cell 4
 have x0:w1.cell? ⟨bx,0,none⟩=some (.int .i64 (ty:Int)):=HX.out.cell 0
 have x1:w1.cell? ⟨bx,1,none⟩=some (.slice A n c):=HX.out.cell 1
 have f4:=HA.out.blk.frozen 4
 by_cases s3:st=3
 · have q3:((st:Int)==3)=true:=by rw [beq_iff_eq];omega
   have S3:=qH s3
   clear s3
   go_wp2_with fail
   refine (HNR.out _ _).2 ⟨HS0.out.mono fun _ _ f=>f.elim,.inl ⟨11,_,_,_,_,_,_,_,by decide,?_,rfl,HA.out.blk⟩⟩
   unfold Zby
   rw [if_pos (show st=3 from S3.out)]
 by_cases s0:st=0
 · have S0:=qH s0
   have q3:((st:Int)==3)=false:=by rw [beq_eq_false_iff_ne];omega
   have q0:((st:Int)==0)=true:=by rw [beq_iff_eq];omega
   have q1:((st:Int)==1)=false:=by rw [beq_eq_false_iff_ne];omega
   have n0:((st:Int) != 0)=false:=by simp;omega
   by_cases y1:ty=1
   · have Y1:=qH y1
     have t1:((ty:Int)==1)=true:=by rw [beq_iff_eq];omega
     clear s3 s0 y1
     have HE2:Hid (Bytes (w1.alloc (.cells #[.int .u8 0,.int .u8 1] 5)) (fun b=>b=w1.heap.size) (some ⟨w1.heap.size,0,none⟩) 2 2 [0,1]):=qH (Row.of_blk (Blk.new w1 _ _) rfl (by omega) (by unfold maxLen;omega))
     have sA:=(Upd.refl (fun _=>False) w1).alloc (.cells #[.int .u8 0,.int .u8 1] 5)
     have HSA:=qH sA
     clear sA
     by_cases hd:bs=[0,1]
     · have HD:=qH hd
       clear hd
       go_wp2_with fail
       refine (Zcf _ (HY.out.same HSA.out) HE2.out (r:=true) (by rw [decide_eq_true_eq];exact HD.out)).mono ?_
       rintro e w2 ⟨rfl,rfl⟩
       have k2:=HA.out.blk.same HSA.out
       have f24:=k2.frozen 4
       have c24:(w1.alloc (.cells #[.int .u8 0,.int .u8 1] 5)).cell? ⟨r,4,none⟩=some (.int .i64 (st:Int)):=k2.cell 4
       have HK2:=qH k2
       have HU2:=qH ((Upd.refl (fun b=>b=r) (w1.alloc (.cells #[.int .u8 0,.int .u8 1] 5))).put1 (i:=4) (.int .i64 1))
       have HKT:=qH (k2.put 4 (.int .i64 1))
       generalize w1.alloc (.cells #[.int .u8 0,.int .u8 1] 5)=w2 at *
       clear k2
       go_upto_region 22 with fail
       have HYT:=qH ((HY.out.same HSA.out).upd HU2.out fun b hb e=>hb.2 (.inl e))
       have HNT:=qH ((HN.out.same HSA.out).upd HU2.out (by omega))
       have HO:=qH ((HA.out.own.same HSA.out).upd3 HU2.out fun g e=>.inl (e ▸ ⟨_,HK2.out⟩))
       have HDg:=qH ((HA.out.dig.same HSA.out).upd HU2.out (fun e=>hrd e.symm))
       have HU:=qH (((HS0.out.trans HSA.out fun _ _ f=>f).mono (S':=RSet w B r d) fun _ _ f=>f.elim).trans HU2.out fun _ _ e=>.inl e)
       have hX:=(HX.out.same HSA.out).upd HU2.out (by omega)
       have p3':=HKT.out.cell 3
       clear p3 p4 f4 x0 x1 f24 c24
       have x0:=hX.cell 0
       have x1:=hX.cell 1
       simp only [List.getElem?_toArray,List.getElem?_cons_succ,List.getElem?_cons_zero] at x0 x1
       generalize w2.setCell ⟨r,4,none⟩ (.int .i64 1)=wT at *
       have p3:wT.cell? ⟨r,3,none⟩=some (.pointer (some ⟨d,0,none⟩)):=p3'
       clear hX p3'
       go_wp2_with fail
       refine (ZbT wT ty hty HYT.out hn HNT.out).mono ?_
       rintro e w5 ⟨v,rfl,HO5,hs5⟩
       obtain ⟨A5,c5,rfl⟩:=Zac HO5.out
       have HS5:=qH hs5
       have p35:w5.cell? ⟨r,3,none⟩=some (.pointer (some ⟨d,0,none⟩)):=(HKT.out.same hs5).cell 3
       have hpl:(Zai ty bs).length=n+9:=by rw [ZaE,HLn.out]
       have HPL:=qH hpl
       clear hs5 hpl
       go_wp2_with fail
       refine (ZaU w5 (HDg.out.same HS5.out) (ZaG HO5.out) (HNT.out.same HS5.out) (by rw [HPL.out];omega)).mono ?_
       rintro e w6 ⟨rfl,hd6,hu6⟩
       have HE:=qH (Zcl (st':=1) (gr':=gr) HA0.out (HU.out) HKT.out HO.out HDg.out HS5.out hu6 hd6)
       clear hd6 hu6
       go_wp2_with fail
       refine (HNR.out _ _).2 ⟨HE.1,.inr ⟨gr,1,?_,rfl,HE.2⟩⟩
       have hh:=HD.out
       have h0:st=0:=S0.out
       have h1:ty=1:=Y1.out
       subst h0 h1 hh
       unfold Zby
       simp
     have HD:=qH hd
     clear hd
     go_wp2_with fail
     refine (Zcf _ (HY.out.same HSA.out) HE2.out (r:=false) (by rw [decide_eq_false_iff_not];exact HD.out)).mono ?_
     rintro e w2 ⟨rfl,rfl⟩
     go_wp2_with fail
     refine (HNR.out _ _).2 ⟨(HS0.out.trans HSA.out fun _ _ f=>f).mono fun _ _ f=>f.elim,.inl ⟨8,_,_,_,_,_,_,_,by decide,?_,rfl,HA.out.blk.same HSA.out⟩⟩
     have hh:=HD.out
     have h0:st=0:=S0.out
     have h1:ty=1:=Y1.out
     subst h0 h1
     unfold Zby
     simp [hh]
   have Y1:=qH y1
   have t1:((ty:Int)==1)=false:=by rw [beq_eq_false_iff_ne];omega
   clear s3 s0 y1
   go_wp2_with fail
   refine (HNR.out _ _).2 ⟨HS0.out.mono fun _ _ f=>f.elim,.inl ⟨200,_,_,_,_,_,_,_,by decide,?_,rfl,HA.out.blk⟩⟩
   have h0:st=0:=S0.out
   have hy:=Y1.out
   subst h0
   unfold Zby
   simp [hy]
 by_cases s1:st=1
 · have S1:=qH s1
   have q3:((st:Int)==3)=false:=by rw [beq_eq_false_iff_ne];omega
   have q0:((st:Int)==0)=false:=by rw [beq_eq_false_iff_ne];omega
   have q1:((st:Int)==1)=true:=by rw [beq_iff_eq];omega
   have n0:((st:Int) != 0)=true:=by rw [bne_iff_ne];omega
   by_cases y2:ty=2
   · have Y2:=qH y2
     have t2:((ty:Int)==2)=true:=by rw [beq_iff_eq];omega
     clear s3 s0 s1 y2
     have hsA:=(Upd.refl (fun _=>False) w1).alloc (.cells #[.int .i64 0,.slice none 0 0,.slice none 0 0] 43)
     have HSA:=qH hsA
     have HGA:=qH (Blk.new w1 43 #[.int .i64 0,.slice none 0 0,.slice none 0 0])
     have HZA:=qH (show w1.heap.size<(w1.alloc (.cells #[.int .i64 0,.slice none 0 0,.slice none 0 0] 43)).heap.size by rw [World.size_alloc];omega)
     clear hsA
     go_upto_region 11 with fail
     generalize hgn:w1.heap.size=gn at *
     have hxA:(w1.alloc (.cells #[.int .i64 0,.slice none 0 0,.slice none 0 0] 43)).cell? ⟨bx,1,none⟩=some (.slice A n c):=(HX.out.same HSA.out).cell 1
     generalize w1.alloc (.cells #[.int .i64 0,.slice none 0 0,.slice none 0 0] 43)=wA at *
     go_wp2_with fail
     refine (ZjA wA (HY.out.same HSA.out) (by omega)).mono ?_
     rintro e w3 ⟨x,ok,rfl,hx,hok,hno,hs3⟩
     have HOk:=qH (And.intro hok hno)
     have hza:=HZA.out
     have HX3:=qH (hx.base (B':=B) (by omega))
     have HS3:=qH hs3
     have k3:=HGA.out.same hs3
     have c30:=k3.cell 0
     have f30:=k3.frozen 0
     have c31:=k3.cell 1
     have f31:=k3.frozen 1
     have c32:=k3.cell 2
     have f32:=k3.frozen 2
     simp only [List.getElem?_toArray,List.getElem?_cons_succ,List.getElem?_cons_zero] at c30 c31 c32
     clear hok hno hx hs3 hxA x0 x1
     go_upto_region 12 with fail
     have HUB:=qH ((((Upd.refl (fun b=>b=gn) w3).put1 (i:=0) (.int .i64 x.id)).put1 (i:=1) (.slice x.AL x.nL x.cL)).put1 (i:=2) (.slice x.AP x.nP x.cP))
     have HKB:Hid (Blk (((w3.setCell ⟨gn,0,none⟩ (.int .i64 x.id)).setCell ⟨gn,1,none⟩ (.slice x.AL x.nL x.cL)).setCell ⟨gn,2,none⟩ (.slice x.AP x.nP x.cP)) gn 43 #[.int .i64 x.id,.slice x.AL x.nL x.cL,.slice x.AP x.nP x.cP]):=qH (((k3.put 0 (.int .i64 x.id)).put 1 (.slice x.AL x.nL x.cL)).put 2 (.slice x.AP x.nP x.cP))
     have HXB:=qH (HX3.out.type HUB.out (e':=43) (fun b _ e=>e ▸ ⟨_,k3⟩) (by decide) (by decide) (by decide))
     generalize (((w3.setCell ⟨gn,0,none⟩ (.int .i64 x.id)).setCell ⟨gn,1,none⟩ (.slice x.AL x.nL x.cL)).setCell ⟨gn,2,none⟩ (.slice x.AP x.nP x.cP))=wB at *
     have SB:=qH ((HSA.out.trans HS3.out fun _ _ f=>f).trans HUB.out fun b hb e=>by omega)
     have HRB:=qH (HA.out.blk.same SB.out)
     have HOB:=qH (HA.out.own.same SB.out)
     have hBw:B<=wB.heap.size:=by have:=SB.out.size;omega
     clear k3 c30 f30 c31 f31 c32 f32
     have s0:Same wB wB.drew:=(Upd.refl _ wB).drew
     have hKeep:Hid (∀ wx,Same wB wx->wx.cell? ⟨r,5,none⟩=some (.slice gr.AN gr.nN gr.cN)/\wx.cell? ⟨gn,0,none⟩=some (.int .i64 x.id)/\wx.cell? ⟨gn,1,none⟩=some (.slice x.AL x.nL x.cL)/\wx.cell? ⟨gn,2,none⟩=some (.slice x.AP x.nP x.cP)):=qH fun wx hs=>⟨(HRB.out.same hs).cell 5,(HKB.out.same hs).cell 0,(HKB.out.same hs).cell 1,(HKB.out.same hs).cell 2⟩
     refine ZaX 12 (fun wx=>wx.cell? ⟨r,5,none⟩=some (.slice gr.AN gr.nN gr.cN)/\wx.cell? ⟨gn,0,none⟩=some (.int .i64 x.id)/\wx.cell? ⟨gn,1,none⟩=some (.slice x.AL x.nL x.cL)/\wx.cell? ⟨gn,2,none⟩=some (.slice x.AP x.nP x.cP)) (by kernel_rfl) (hKeep.out _ s0) (fun hHeld=>?_)
     repeat
      first
       | refine ESt.take (i:=0) (v:=?_) (by decide +kernel) rfl (by decide +kernel) (fun _ _ _ h=>h) (Or.inl ⟨by rfl,?_⟩) (by assumption) ?_
       | refine ESt.take (i:=1) (v:=?_) (by decide +kernel) rfl (by decide +kernel) (fun _ _ _ h=>h) (Or.inl ⟨by rfl,?_⟩) (by assumption) ?_
       | refine ESt.take (i:=2) (v:=?_) (by decide +kernel) rfl (by decide +kernel) (fun _ _ _ h=>h) (Or.inl ⟨by rfl,?_⟩) (by assumption) ?_
       | refine ESt.take (i:=3) (v:=?_) (by decide +kernel) rfl (by decide +kernel) (fun _ _ _ h=>h) (Or.inl ⟨by rfl,?_⟩) (by assumption) ?_
       | refine ESt.take (i:=4) (v:=?_) (by decide +kernel) rfl (by decide +kernel) (fun _ _ _ h=>h) (Or.inl ⟨by rfl,?_⟩) (by assumption) ?_
       | refine ESt.take (i:=5) (v:=?_) (by decide +kernel) rfl (by decide +kernel) (fun _ _ _ h=>h) (Or.inl ⟨by rfl,?_⟩) (by assumption) ?_
       | refine ESt.take (i:=6) (v:=?_) (by decide +kernel) rfl (by decide +kernel) (fun _ _ _ h=>h) (Or.inl ⟨by rfl,?_⟩) (by assumption) ?_
      rotate_left
      · intro wx hSw;obtain ⟨h0,h1,h2,h3⟩:=hSw;go_simp;try with_reducible rfl
      simp only [Act.put,List.setIfInBounds_toArray]
     refine ESt.branch (rs:=[7]) (by decide +kernel) (by decide +kernel) ?_
     refine AllE.cons rfl (fun K hK=>?_) AllE.nil
     go_simp
     have sA:=((Upd.refl (fun _=>False) wB).alloc (.cells #[.int .i64 x.id,.slice x.AL x.nL x.cL,.slice x.AP x.nP x.cP] 43)).drew
     refine hK.out _ _ (hKeep.out _ sA) (fun hHeld=>?_)
     clear hK K
     refine ESt.branch (rs:=[8]) (by decide +kernel) (by decide +kernel) ?_
     refine AllE.cons rfl (fun K hK=>?_) AllE.nil
     have hrow:=Zaa HOB.out.nodes.row sA
     rw [HOB.out.nodes.rd.len] at hrow
     refine ZbP rfl (.tmp 57) (.tmp 59) _ _ rfl B 43 3 56 _ Tryz.underlying23 Zgv rfl (.slice gr.AN gr.nN gr.cN) gr.nN _ rfl hrow rfl (Zal Tryz.underlying23 (Row.nd wB x).drew (ND.one _)) (by unfold maxLen;omega) (by omega) (by have:=sA.size;omega) ?_
     intro v9 w9 hg9
     have hgn9:=(HKB.out.same sA).upd hg9.upd fun e=>by have:=(Off.lt (Off.of HA.out.own.nodes.row) _ e).2;omega
     obtain ⟨A9,c9,rfl,hO9,hB9,hB9',hU9⟩:=Zmy (i:=5) (x:=x) HOB.out HRB.out (by decide) (by decide) (by decide) (by decide) (by decide) sA (HXB.out.same sA) hg9
     have HO9:=qH hO9
     have HB9:=qH hB9
     have HU9:=qH hU9
     have HB9':=qH hB9'
     clear hO9 hB9 hU9 hg9 hrow
     refine hK.out _ _ ⟨hB9'.cell 5,hgn9.cell 0,hgn9.cell 1,hgn9.cell 2⟩ (fun hHeld=>?_)
     clear hK K
     simp only [Act.put]
     repeat
      first
       | refine ESt.take (i:=9) (v:=?_) (by decide +kernel) rfl (by decide +kernel) (fun _ _ _ h=>h) (Or.inl ⟨by rfl,?_⟩) (by assumption) ?_
       | refine ESt.take (i:=10) (v:=?_) (by decide +kernel) rfl (by decide +kernel) (fun _ _ _ h=>h) (Or.inl ⟨by rfl,?_⟩) (by assumption) ?_
       | refine ESt.take (i:=11) (v:=?_) (by decide +kernel) rfl (by decide +kernel) (fun _ _ _ h=>h) (Or.inl ⟨by rfl,?_⟩) (by assumption) ?_
      rotate_left
      · intro wx hSw;obtain ⟨h0,h1,h2,h3⟩:=hSw;go_simp;try with_reducible rfl
      simp only [Act.put,List.setIfInBounds_toArray]
     refine ESt.last (by decide +kernel) (by decide +kernel) rfl (fun K hK=>?_) _
     have r3:w9.cell? ⟨r,5,none⟩=some (.slice gr.AN gr.nN gr.cN):=hB9'.cell 5
     have z3:=hB9'.frozen 5
     go_simp
     refine hK.out _ _ ?_
     clear hK K hHeld z3 r3 hgn9 hB9' s0 sA
     have hUC:Upd (RSet w B r d) w (w9.setCell ⟨r,5,none⟩ (.slice A9 (gr.nN+1) c9)):=RSet.same1 (HS0.out.trans SB.out fun _ _ f=>f) (HU9.out.mono (S':=RSet wB B r d) fun b _ h=>h.elim .inl fun h=>.inr (.inr ⟨.inl h.1,h.2⟩))
     have HYC:=qH ((HY.out.same SB.out).upd HU9.out fun b hb h=>hb.2 (RSet.back (HS0.out.trans SB.out fun _ _ f=>f) (by omega) (fun f=>f) (h.elim .inl fun h=>.inr (.inr ⟨.inl h.1,h.2⟩))))
     have HNC:Hid (Nib (w9.setCell ⟨r,5,none⟩ (.slice A9 (gr.nN+1) c9))):=qH ((HN.out.same SB.out).upd HU9.out fun h=>h.elim (by omega) fun h=>by have:=h.2;omega)
     have HDC:=qH ((HA.out.dig.same SB.out).upd HU9.out fun h=>h.elim (fun e=>hrd e.symm) fun h=>absurd (OfT.ne h.1 ⟨_,HA.out.dig.same SB.out⟩) (by decide))
     have HXC:=qH ((HX.out.same SB.out).upd HU9.out fun h=>h.elim (by omega) fun h=>absurd (OfT.ne h.1 ⟨_,HX.out.same SB.out⟩) (by decide))
     have HUC:=qH hUC
     have HKC:Hid (Blk (w9.setCell ⟨r,5,none⟩ (.slice A9 (gr.nN+1) c9)) r 97 #[.int .i64 (fed:Int),vf,.pointer (some ⟨fr,0,none⟩),.pointer (some ⟨d,0,none⟩),.int .i64 (st:Int),.slice A9 (gr.nN+1) c9,.slice gr.AR gr.nR gr.cR,.int .i64 0]):=qH HB9.out
     generalize w9.setCell ⟨r,5,none⟩ (.slice A9 (gr.nN+1) c9)=wC at *
     clear hUC p3 p4 f4 hKeep HB9
     have x0:wC.cell? ⟨bx,0,none⟩=some (.int .i64 (ty:Int)):=HXC.out.cell 0
     have x1:wC.cell? ⟨bx,1,none⟩=some (.slice A n c):=HXC.out.cell 1
     have p3:wC.cell? ⟨r,3,none⟩=some (.pointer (some ⟨d,0,none⟩)):=HKC.out.cell 3
     have HYT:=HYC
     have HNT:=HNC
     cases ok with
     | false =>
       go_wp2_with fail
       refine (HNR.out _ _).2 ⟨HUC.out,.inl ⟨201,_,_,_,_,_,_,_,by decide,?_,rfl,HKC.out⟩⟩
       have h0:st=1:=S1.out
       have h1:ty=2:=Y2.out
       have hk:=HOk.2 trivial
       subst h0 h1
       unfold Zby
       simp [hk]
     | true =>
       go_wp2_with fail
       refine (ZbT wC ty hty HYT.out hn HNT.out).mono ?_
       rintro e w5 ⟨v,rfl,HO5,hs5⟩
       obtain ⟨A5,c5,rfl⟩:=Zac HO5.out
       have HS5:=qH hs5
       have p35:w5.cell? ⟨r,3,none⟩=some (.pointer (some ⟨d,0,none⟩)):=(HKC.out.same hs5).cell 3
       have hpl:(Zai ty bs).length=n+9:=by rw [ZaE,HLn.out]
       have HPL:=qH hpl
       clear hs5 hpl
       go_wp2_with fail
       refine (ZaU w5 (HDC.out.same HS5.out) (ZaG HO5.out) (HNT.out.same HS5.out) (by rw [HPL.out];omega)).mono ?_
       rintro e w6 ⟨rfl,hd6,hu6⟩
       have HE:=qH (Zcl (st':=st) (gr':=(⟨gr.ns++[x],A9,gr.nN+1,c9,gr.rs,gr.AR,gr.nR,gr.cR⟩:GR)) HA0.out (HUC.out) HKC.out HO9.out HDC.out HS5.out hu6 hd6)
       clear hd6 hu6
       go_wp2_with fail
       refine (HNR.out _ _).2 ⟨HE.1,.inr ⟨(⟨gr.ns++[x],A9,gr.nN+1,c9,gr.rs,gr.AR,gr.nR,gr.cR⟩:GR),st,?_,rfl,HE.2⟩⟩
       have h0:st=1:=S1.out
       have h1:ty=2:=Y2.out
       have hk:=HOk.1 trivial
       subst h0 h1
       unfold Zby
       simp [hk,GR.dat]
   by_cases y3:ty=3
   · have Y3:=qH y3
     have t2:((ty:Int)==2)=false:=by rw [beq_eq_false_iff_ne];omega
     have t3:((ty:Int)==3)=true:=by rw [beq_iff_eq];omega
     clear s3 s0 s1 y2 y3
     have hsA:=(Upd.refl (fun _=>False) w1).alloc (.cells #[.int .i64 0,.string ⟨#[]⟩,.int .i64 0,.int .i64 0,.slice none 0 0] 50)
     have HSA:=qH hsA
     have HGA:=qH (Blk.new w1 50 #[.int .i64 0,.string ⟨#[]⟩,.int .i64 0,.int .i64 0,.slice none 0 0])
     have HZA:=qH (show w1.heap.size<(w1.alloc (.cells #[.int .i64 0,.string ⟨#[]⟩,.int .i64 0,.int .i64 0,.slice none 0 0] 50)).heap.size by rw [World.size_alloc];omega)
     clear hsA
     go_upto_region 15 with fail
     generalize hgn:w1.heap.size=gn at *
     have hxA:(w1.alloc (.cells #[.int .i64 0,.string ⟨#[]⟩,.int .i64 0,.int .i64 0,.slice none 0 0] 50)).cell? ⟨bx,1,none⟩=some (.slice A n c):=(HX.out.same HSA.out).cell 1
     generalize w1.alloc (.cells #[.int .i64 0,.string ⟨#[]⟩,.int .i64 0,.int .i64 0,.slice none 0 0] 50)=wA at *
     go_wp2_with fail
     refine (ZgX wA (HY.out.same HSA.out) (by omega)).mono ?_
     rintro e w3 ⟨x,ok,rfl,hx,hok,hno,hs3⟩
     have HOk:=qH (And.intro hok hno)
     have hza:=HZA.out
     have HX3:=qH (hx.base (B':=B) (by omega))
     have HS3:=qH hs3
     have k3:=HGA.out.same hs3
     have c30:=k3.cell 0
     have f30:=k3.frozen 0
     have c31:=k3.cell 1
     have f31:=k3.frozen 1
     have c32:=k3.cell 2
     have f32:=k3.frozen 2
     have c33:=k3.cell 3
     have f33:=k3.frozen 3
     have c34:=k3.cell 4
     have f34:=k3.frozen 4
     simp only [List.getElem?_toArray,List.getElem?_cons_succ,List.getElem?_cons_zero] at c30 c31 c32 c33 c34
     clear hok hno hx hs3 hxA x0 x1
     go_upto_region 16 with fail
     have HUB:=qH ((((((Upd.refl (fun b=>b=gn) w3).put1 (i:=0) (.int .i64 x.id)).put1 (i:=1) (.string x.type)).put1 (i:=2) (.int .i64 x.src)).put1 (i:=3) (.int .i64 x.dst)).put1 (i:=4) (.slice x.AP x.nP x.cP))
     have HKB:Hid (Blk (((((w3.setCell ⟨gn,0,none⟩ (.int .i64 x.id)).setCell ⟨gn,1,none⟩ (.string x.type)).setCell ⟨gn,2,none⟩ (.int .i64 x.src)).setCell ⟨gn,3,none⟩ (.int .i64 x.dst)).setCell ⟨gn,4,none⟩ (.slice x.AP x.nP x.cP)) gn 50 #[.int .i64 x.id,.string x.type,.int .i64 x.src,.int .i64 x.dst,.slice x.AP x.nP x.cP]):=qH (((((k3.put 0 (.int .i64 x.id)).put 1 (.string x.type)).put 2 (.int .i64 x.src)).put 3 (.int .i64 x.dst)).put 4 (.slice x.AP x.nP x.cP))
     have HXB:=qH (HX3.out.type HUB.out (e':=50) (fun b _ e=>e ▸ ⟨_,k3⟩) (by decide) (by decide) (by decide))
     generalize (((((w3.setCell ⟨gn,0,none⟩ (.int .i64 x.id)).setCell ⟨gn,1,none⟩ (.string x.type)).setCell ⟨gn,2,none⟩ (.int .i64 x.src)).setCell ⟨gn,3,none⟩ (.int .i64 x.dst)).setCell ⟨gn,4,none⟩ (.slice x.AP x.nP x.cP))=wB at *
     have SB:=qH ((HSA.out.trans HS3.out fun _ _ f=>f).trans HUB.out fun b hb e=>by omega)
     have HRB:=qH (HA.out.blk.same SB.out)
     have HOB:=qH (HA.out.own.same SB.out)
     have hBw:B<=wB.heap.size:=by have:=SB.out.size;omega
     clear k3 c30 f30 c31 f31 c32 f32 c33 f33 c34 f34
     have s0:Same wB wB.drew:=(Upd.refl _ wB).drew
     have hKeep:Hid (∀ wx,Same wB wx->wx.cell? ⟨r,6,none⟩=some (.slice gr.AR gr.nR gr.cR)/\wx.cell? ⟨gn,0,none⟩=some (.int .i64 x.id)/\wx.cell? ⟨gn,1,none⟩=some (.string x.type)/\wx.cell? ⟨gn,2,none⟩=some (.int .i64 x.src)/\wx.cell? ⟨gn,3,none⟩=some (.int .i64 x.dst)/\wx.cell? ⟨gn,4,none⟩=some (.slice x.AP x.nP x.cP)):=qH fun wx hs=>⟨(HRB.out.same hs).cell 6,(HKB.out.same hs).cell 0,(HKB.out.same hs).cell 1,(HKB.out.same hs).cell 2,(HKB.out.same hs).cell 3,(HKB.out.same hs).cell 4⟩
     refine ZaX 12 (fun wx=>wx.cell? ⟨r,6,none⟩=some (.slice gr.AR gr.nR gr.cR)/\wx.cell? ⟨gn,0,none⟩=some (.int .i64 x.id)/\wx.cell? ⟨gn,1,none⟩=some (.string x.type)/\wx.cell? ⟨gn,2,none⟩=some (.int .i64 x.src)/\wx.cell? ⟨gn,3,none⟩=some (.int .i64 x.dst)/\wx.cell? ⟨gn,4,none⟩=some (.slice x.AP x.nP x.cP)) (by kernel_rfl) (hKeep.out _ s0) (fun hHeld=>?_)
     repeat
      first
       | refine ESt.take (i:=0) (v:=?_) (by decide +kernel) rfl (by decide +kernel) (fun _ _ _ h=>h) (Or.inl ⟨by rfl,?_⟩) (by assumption) ?_
       | refine ESt.take (i:=1) (v:=?_) (by decide +kernel) rfl (by decide +kernel) (fun _ _ _ h=>h) (Or.inl ⟨by rfl,?_⟩) (by assumption) ?_
       | refine ESt.take (i:=2) (v:=?_) (by decide +kernel) rfl (by decide +kernel) (fun _ _ _ h=>h) (Or.inl ⟨by rfl,?_⟩) (by assumption) ?_
       | refine ESt.take (i:=3) (v:=?_) (by decide +kernel) rfl (by decide +kernel) (fun _ _ _ h=>h) (Or.inl ⟨by rfl,?_⟩) (by assumption) ?_
       | refine ESt.take (i:=4) (v:=?_) (by decide +kernel) rfl (by decide +kernel) (fun _ _ _ h=>h) (Or.inl ⟨by rfl,?_⟩) (by assumption) ?_
       | refine ESt.take (i:=5) (v:=?_) (by decide +kernel) rfl (by decide +kernel) (fun _ _ _ h=>h) (Or.inl ⟨by rfl,?_⟩) (by assumption) ?_
       | refine ESt.take (i:=6) (v:=?_) (by decide +kernel) rfl (by decide +kernel) (fun _ _ _ h=>h) (Or.inl ⟨by rfl,?_⟩) (by assumption) ?_
      rotate_left
      · intro wx hSw;obtain ⟨h0,h1,h2,h3,h4,h5⟩:=hSw;go_simp;try with_reducible rfl
      simp only [Act.put,List.setIfInBounds_toArray]
     refine ESt.branch (rs:=[7]) (by decide +kernel) (by decide +kernel) ?_
     refine AllE.cons rfl (fun K hK=>?_) AllE.nil
     go_simp
     have sA:=((Upd.refl (fun _=>False) wB).alloc (.cells #[.int .i64 x.id,.string x.type,.int .i64 x.src,.int .i64 x.dst,.slice x.AP x.nP x.cP] 50)).drew
     refine hK.out _ _ (hKeep.out _ sA) (fun hHeld=>?_)
     clear hK K
     refine ESt.branch (rs:=[8]) (by decide +kernel) (by decide +kernel) ?_
     refine AllE.cons rfl (fun K hK=>?_) AllE.nil
     have hrow:=Zaa HOB.out.rels.row sA
     rw [HOB.out.rels.rd.len] at hrow
     refine ZbP rfl (.tmp 86) (.tmp 88) _ _ rfl B 50 5 64 _ Tryz.underlying24 Zgb rfl (.slice gr.AR gr.nR gr.cR) gr.nR _ rfl hrow rfl (Zal Tryz.underlying24 (Row.rl wB x).drew (RL.one _)) (by unfold maxLen;omega) (by omega) (by have:=sA.size;omega) ?_
     intro v9 w9 hg9
     have hgn9:=(HKB.out.same sA).upd hg9.upd fun e=>by have:=(Off.lt (Off.of HA.out.own.rels.row) _ e).2;omega
     obtain ⟨A9,c9,rfl,hO9,hB9,hB9',hU9⟩:=ZjC (i:=6) (x:=x) HOB.out HRB.out (by decide) (by decide) (by decide) (by decide) (by decide) sA (HXB.out.same sA) hg9
     have HO9:=qH hO9
     have HB9:=qH hB9
     have HU9:=qH hU9
     have HB9':=qH hB9'
     clear hO9 hB9 hU9 hg9 hrow
     refine hK.out _ _ ⟨hB9'.cell 6,hgn9.cell 0,hgn9.cell 1,hgn9.cell 2,hgn9.cell 3,hgn9.cell 4⟩ (fun hHeld=>?_)
     clear hK K
     simp only [Act.put]
     repeat
      first
       | refine ESt.take (i:=9) (v:=?_) (by decide +kernel) rfl (by decide +kernel) (fun _ _ _ h=>h) (Or.inl ⟨by rfl,?_⟩) (by assumption) ?_
       | refine ESt.take (i:=10) (v:=?_) (by decide +kernel) rfl (by decide +kernel) (fun _ _ _ h=>h) (Or.inl ⟨by rfl,?_⟩) (by assumption) ?_
       | refine ESt.take (i:=11) (v:=?_) (by decide +kernel) rfl (by decide +kernel) (fun _ _ _ h=>h) (Or.inl ⟨by rfl,?_⟩) (by assumption) ?_
      rotate_left
      · intro wx hSw;obtain ⟨h0,h1,h2,h3,h4,h5⟩:=hSw;go_simp;try with_reducible rfl
      simp only [Act.put,List.setIfInBounds_toArray]
     refine ESt.last (by decide +kernel) (by decide +kernel) rfl (fun K hK=>?_) _
     have r3:w9.cell? ⟨r,6,none⟩=some (.slice gr.AR gr.nR gr.cR):=hB9'.cell 6
     have z3:=hB9'.frozen 6
     go_simp
     refine hK.out _ _ ?_
     clear hK K hHeld z3 r3 hgn9 hB9' s0 sA
     have hUC:Upd (RSet w B r d) w (w9.setCell ⟨r,6,none⟩ (.slice A9 (gr.nR+1) c9)):=RSet.same1 (HS0.out.trans SB.out fun _ _ f=>f) (HU9.out.mono (S':=RSet wB B r d) fun b _ h=>h.elim .inl fun h=>.inr (.inr ⟨.inr h.1,h.2⟩))
     have HYC:=qH ((HY.out.same SB.out).upd HU9.out fun b hb h=>hb.2 (RSet.back (HS0.out.trans SB.out fun _ _ f=>f) (by omega) (fun f=>f) (h.elim .inl fun h=>.inr (.inr ⟨.inr h.1,h.2⟩))))
     have HNC:Hid (Nib (w9.setCell ⟨r,6,none⟩ (.slice A9 (gr.nR+1) c9))):=qH ((HN.out.same SB.out).upd HU9.out fun h=>h.elim (by omega) fun h=>by have:=h.2;omega)
     have HDC:=qH ((HA.out.dig.same SB.out).upd HU9.out fun h=>h.elim (fun e=>hrd e.symm) fun h=>absurd (OfT.ne h.1 ⟨_,HA.out.dig.same SB.out⟩) (by decide))
     have HXC:=qH ((HX.out.same SB.out).upd HU9.out fun h=>h.elim (by omega) fun h=>absurd (OfT.ne h.1 ⟨_,HX.out.same SB.out⟩) (by decide))
     have HUC:=qH hUC
     have HKC:Hid (Blk (w9.setCell ⟨r,6,none⟩ (.slice A9 (gr.nR+1) c9)) r 97 #[.int .i64 (fed:Int),vf,.pointer (some ⟨fr,0,none⟩),.pointer (some ⟨d,0,none⟩),.int .i64 (st:Int),.slice gr.AN gr.nN gr.cN,.slice A9 (gr.nR+1) c9,.int .i64 0]):=qH HB9.out
     generalize w9.setCell ⟨r,6,none⟩ (.slice A9 (gr.nR+1) c9)=wC at *
     clear hUC p3 p4 f4 hKeep HB9
     have x0:wC.cell? ⟨bx,0,none⟩=some (.int .i64 (ty:Int)):=HXC.out.cell 0
     have x1:wC.cell? ⟨bx,1,none⟩=some (.slice A n c):=HXC.out.cell 1
     have p3:wC.cell? ⟨r,3,none⟩=some (.pointer (some ⟨d,0,none⟩)):=HKC.out.cell 3
     have p4:wC.cell? ⟨r,4,none⟩=some (.int .i64 (st:Int)):=HKC.out.cell 4
     have f4:=HKC.out.frozen 4
     have hU2:=(Upd.refl (fun b=>b=r) wC).put1 (i:=4) (.int .i64 2)
     have HYD:=qH (HYC.out.upd hU2 fun b hb e=>hb.2 (.inl e))
     have HND:=qH (HNC.out.upd hU2 (by omega))
     have HDD:=qH (HDC.out.upd hU2 fun e=>hrd e.symm)
     have HXD:=qH (HXC.out.upd hU2 (by omega))
     have HOD:=qH (HO9.out.upd3 hU2 fun g e=>.inl (e ▸ ⟨_,HKC.out⟩))
     have HUD:=qH (HUC.out.trans hU2 fun _ _ e=>.inl e)
     have HKD:Hid (Blk (wC.setCell ⟨r,4,none⟩ (.int .i64 2)) r 97 #[.int .i64 (fed:Int),vf,.pointer (some ⟨fr,0,none⟩),.pointer (some ⟨d,0,none⟩),.int .i64 ((2:Nat):Int),.slice gr.AN gr.nN gr.cN,.slice A9 (gr.nR+1) c9,.int .i64 0]):=qH (HKC.out.put 4 _)
     clear hU2
     go_upto_region 22 with fail
     clear p3 p4 f4 x0 x1
     generalize wC.setCell ⟨r,4,none⟩ (.int .i64 2)=wD at *
     have x0:wD.cell? ⟨bx,0,none⟩=some (.int .i64 (ty:Int)):=HXD.out.cell 0
     have x1:wD.cell? ⟨bx,1,none⟩=some (.slice A n c):=HXD.out.cell 1
     have p3:wD.cell? ⟨r,3,none⟩=some (.pointer (some ⟨d,0,none⟩)):=HKD.out.cell 3
     have HYT:=HYD
     have HNT:=HND
     cases ok with
     | false =>
       go_wp2_with fail
       refine (HNR.out _ _).2 ⟨HUD.out,.inl ⟨201,_,_,_,_,_,_,_,by decide,?_,rfl,HKD.out⟩⟩
       have h0:st=1:=S1.out
       have h1:ty=3:=Y3.out
       have hk:=HOk.2 trivial
       subst h0 h1
       unfold Zby
       simp [hk]
     | true =>
       go_wp2_with fail
       refine (ZbT wD ty hty HYT.out hn HNT.out).mono ?_
       rintro e w5 ⟨v,rfl,HO5,hs5⟩
       obtain ⟨A5,c5,rfl⟩:=Zac HO5.out
       have HS5:=qH hs5
       have p35:w5.cell? ⟨r,3,none⟩=some (.pointer (some ⟨d,0,none⟩)):=(HKD.out.same hs5).cell 3
       have hpl:(Zai ty bs).length=n+9:=by rw [ZaE,HLn.out]
       have HPL:=qH hpl
       clear hs5 hpl
       go_wp2_with fail
       refine (ZaU w5 (HDD.out.same HS5.out) (ZaG HO5.out) (HNT.out.same HS5.out) (by rw [HPL.out];omega)).mono ?_
       rintro e w6 ⟨rfl,hd6,hu6⟩
       have HE:=qH (Zcl (st':=2) (gr':=(⟨gr.ns,gr.AN,gr.nN,gr.cN,gr.rs++[x],A9,gr.nR+1,c9⟩:GR)) HA0.out (HUD.out) HKD.out HOD.out HDD.out HS5.out hu6 hd6)
       clear hd6 hu6
       go_wp2_with fail
       refine (HNR.out _ _).2 ⟨HE.1,.inr ⟨(⟨gr.ns,gr.AN,gr.nN,gr.cN,gr.rs++[x],A9,gr.nR+1,c9⟩:GR),2,?_,rfl,HE.2⟩⟩
       have h0:st=1:=S1.out
       have h1:ty=3:=Y3.out
       have hk:=HOk.1 trivial
       subst h0 h1
       unfold Zby
       simp [hk,GR.dat]
   by_cases y4:ty=4
   · have Y4:=qH y4
     have t2:((ty:Int)==2)=false:=by rw [beq_eq_false_iff_ne];omega
     have t3:((ty:Int)==3)=false:=by rw [beq_eq_false_iff_ne];omega
     have t4:((ty:Int)==4)=true:=by rw [beq_iff_eq];omega
     clear s3 s0 s1 y2 y3 y4
     obtain ⟨q,hq⟩:∃ q,decide (bs=ZaY gr.nN gr.nR gr.dat.wt all)=q:=⟨_,rfl⟩
     have HQ:=qH hq
     have hGS:=ZeQ HA.out.own HI.1 (by have:=HA.out.own.nodes.rd.len;omega) (by have:=HA.out.own.rels.rd.len;omega)
     have hrg:=HA.out.own.rd
     have hwt:=HWt.out
     have HCS:Hid (∀ wx,Same w1 wx->Calls Tryz.prog 42 #[.pointer (some ⟨d,0,none⟩)] wx fun e w'=>e=.returned (.int .u32 ((crcS all).toNat:Int))/\Same w1 w'):=qH fun wx hs=>(Zej wx (HA.out.dig.same hs)).mono fun e w' h=>⟨h.1,h.2 ▸ hs⟩
     have HCT:Hid (∀ wx,Same w1 wx->Calls Tryz.prog 41 #[.agg #[.slice gr.AN gr.nN gr.cN,.slice gr.AR gr.nR gr.cR],.int .u32 ((crcS all).toNat:Int)] wx fun e w'=>∃ A5 c5,e=.returned (.slice A5 (ZaY gr.nN gr.nR gr.dat.wt all).length c5)/\Same w1 w'/\Hid (∀ wy,Same w' wy->Calls Tryz.prog 129 #[.slice A n c,.slice A5 (ZaY gr.nN gr.nR gr.dat.wt all).length c5] wy fun e w''=>e=.returned (.bool q)/\Same w1 w'')):=qH fun wx hs=>(ZcV wx gr (hrg.same hs) hGS.fit rfl (by omega) (by omega) (by omega) all).mono fun e w' h=>by
      obtain ⟨v,rfl,HO,hs'⟩:=h
      obtain ⟨A5,c5,rfl⟩:=Zac HO.out
      have hss:Same w1 w':=hs.trans hs' fun _ _ f=>f
      refine ⟨A5,c5,rfl,hss,qH fun wy hy=>(Zcf wy ((HY.out.same hss).same hy) (ZaG (Zaa HO.out hy)) HQ.out).mono fun e w'' h=>⟨h.1,h.2 ▸ (hss.trans hy fun _ _ f=>f)⟩⟩
     have p5:w1.cell? ⟨r,5,none⟩=some (.slice gr.AN gr.nN gr.cN):=HA.out.blk.cell 5
     have p6:w1.cell? ⟨r,6,none⟩=some (.slice gr.AR gr.nR gr.cR):=HA.out.blk.cell 6
     have hKeep:Hid (∀ wx,Same w1 wx->Same w1 wx/\wx.cell? ⟨bx,1,none⟩=some (.slice A n c)/\wx.cell? ⟨r,3,none⟩=some (.pointer (some ⟨d,0,none⟩))/\wx.cell? ⟨r,5,none⟩=some (.slice gr.AN gr.nN gr.cN)/\wx.cell? ⟨r,6,none⟩=some (.slice gr.AR gr.nR gr.cR)):=qH fun wx hs=>⟨hs,(HX.out.same hs).cell 1,(HA.out.blk.same hs).cell 3,(HA.out.blk.same hs).cell 5,(HA.out.blk.same hs).cell 6⟩
     clear hq hGS hrg hwt
     go_upto_region 19 with fail
     go_cut [120] from 107 to 120 (fun s120 wx=>s120=.bool (!q)/\Hid (Same w1 wx))
     case first =>
      have hss:Same w1 w1:=Upd.refl _ w1
      go_region_held3 (fun wx=>Same w1 wx/\wx.cell? ⟨bx,1,none⟩=some (.slice A n c)/\wx.cell? ⟨r,3,none⟩=some (.pointer (some ⟨d,0,none⟩))/\wx.cell? ⟨r,5,none⟩=some (.slice gr.AN gr.nN gr.cN)/\wx.cell? ⟨r,6,none⟩=some (.slice gr.AR gr.nR gr.cR)) (exact hKeep.out _ (by first | assumption | exact Upd.drew (by assumption))) (first
       | (go_at_call 42;with_reducible refine (HCS.out _ (by first | assumption | exact Upd.refl _ _ | exact (Upd.refl _ _).drew)).mono ?_;rintro e w2 ⟨rfl,hs2⟩)
       | (go_at_call 41;with_reducible refine (HCT.out _ (by first | assumption | exact Upd.drew (by assumption))).mono ?_;rintro e w4 ⟨A5,c5,rfl,hs4,HCE⟩)
       | (go_at_call 129;with_reducible refine (HCE.out _ (by first | exact Upd.refl _ _ | exact (Upd.refl _ _).drew)).mono ?_;rintro e w5 ⟨rfl,hs5⟩))
      go_wp2
      go_meet
      exact ⟨rfl,qH (by assumption)⟩
     obtain ⟨rfl,HS4⟩:=hcut
     obtain ⟨w4,rfl⟩:∃ w4:World,w4=wc:=⟨_,rfl⟩
     clear p5 p6 p3 p4 f4 x0 x1 HCS HCT hKeep
     cases q
     case false =>
      go_wp2_with fail
      refine (HNR.out _ _).2 ⟨(HS0.out.trans HS4.out fun _ _ f=>f).mono fun _ _ f=>f.elim,.inl ⟨202,_,_,_,_,_,_,_,by decide,?_,rfl,HA.out.blk.same HS4.out⟩⟩
      have h0:st=1:=S1.out
      have h1:ty=4:=Y4.out
      have hq:=HQ.out
      rw [decide_eq_false_iff_not] at hq
      have e1:gr.dat.nodes.length=gr.nN:=by rw [<- HA.out.own.nodes.rd.len];simp [GR.dat]
      have e2:gr.dat.rels.length=gr.nR:=by rw [<- HA.out.own.rels.rd.len];simp [GR.dat]
      subst h0 h1
      unfold Zby
      simp only [e1,e2]
      simp [hq]
     have hk:=HA.out.blk.same HS4.out
     have p4:w4.cell? ⟨r,4,none⟩=some (.int .i64 (st:Int)):=hk.cell 4
     have f4:=hk.frozen 4
     have hU2:=(Upd.refl (fun b=>b=r) w4).put1 (i:=4) (.int .i64 3)
     have HYT:=qH ((HY.out.same HS4.out).upd hU2 fun b hb e=>hb.2 (.inl e))
     have HNT:=qH ((HN.out.same HS4.out).upd hU2 (by omega))
     have HDD:=qH ((HA.out.dig.same HS4.out).upd hU2 fun e=>hrd e.symm)
     have HXD:=qH ((HX.out.same HS4.out).upd hU2 (by omega))
     have HOD:=qH ((HA.out.own.same HS4.out).upd3 hU2 fun g e=>.inl (e ▸ ⟨_,hk⟩))
     have HUD:=qH (((HS0.out.trans HS4.out fun _ _ f=>f).mono (S':=RSet w B r d) fun _ _ f=>f.elim).trans hU2 fun _ _ e=>.inl e)
     have HKD:Hid (Blk (w4.setCell ⟨r,4,none⟩ (.int .i64 3)) r 97 #[.int .i64 (fed:Int),vf,.pointer (some ⟨fr,0,none⟩),.pointer (some ⟨d,0,none⟩),.int .i64 ((3:Nat):Int),.slice gr.AN gr.nN gr.cN,.slice gr.AR gr.nR gr.cR,.int .i64 0]):=qH (hk.put 4 _)
     clear hU2 hk
     go_upto_region 22 with fail
     clear p4 f4
     generalize w4.setCell ⟨r,4,none⟩ (.int .i64 3)=wD at *
     have x0:wD.cell? ⟨bx,0,none⟩=some (.int .i64 (ty:Int)):=HXD.out.cell 0
     have x1:wD.cell? ⟨bx,1,none⟩=some (.slice A n c):=HXD.out.cell 1
     have p3:wD.cell? ⟨r,3,none⟩=some (.pointer (some ⟨d,0,none⟩)):=HKD.out.cell 3
     go_wp2_with fail
     refine (ZbT wD ty hty HYT.out hn HNT.out).mono ?_
     rintro e w5 ⟨v,rfl,HO5,hs5⟩
     obtain ⟨A5,c5,rfl⟩:=Zac HO5.out
     have HS5:=qH hs5
     have p35:w5.cell? ⟨r,3,none⟩=some (.pointer (some ⟨d,0,none⟩)):=(HKD.out.same hs5).cell 3
     have hpl:(Zai ty bs).length=n+9:=by rw [ZaE,HLn.out]
     have HPL:=qH hpl
     clear hs5 hpl
     go_wp2_with fail
     refine (ZaU w5 (HDD.out.same HS5.out) (ZaG HO5.out) (HNT.out.same HS5.out) (by rw [HPL.out];omega)).mono ?_
     rintro e w6 ⟨rfl,hd6,hu6⟩
     have HE:=qH (Zcl (st':=3) (gr':=gr) HA0.out (HUD.out) HKD.out HOD.out HDD.out HS5.out hu6 hd6)
     clear hd6 hu6
     go_wp2_with fail
     refine (HNR.out _ _).2 ⟨HE.1,.inr ⟨gr,3,?_,rfl,HE.2⟩⟩
     have h0:st=1:=S1.out
     have h1:ty=4:=Y4.out
     have hq:=HQ.out
     rw [decide_eq_true_eq] at hq
     have e1:gr.dat.nodes.length=gr.nN:=by rw [<- HA.out.own.nodes.rd.len];simp [GR.dat]
     have e2:gr.dat.rels.length=gr.nR:=by rw [<- HA.out.own.rels.rd.len];simp [GR.dat]
     subst h0 h1
     unfold Zby
     simp only [e1,e2]
     simp [hq]
   have Y2:=qH y2
   have Y3:=qH y3
   have Y4:=qH y4
   have t2:((ty:Int)==2)=false:=by rw [beq_eq_false_iff_ne];omega
   have t3:((ty:Int)==3)=false:=by rw [beq_eq_false_iff_ne];omega
   have t4:((ty:Int)==4)=false:=by rw [beq_eq_false_iff_ne];omega
   clear s3 s0 s1 y2 y3 y4
   go_wp2_with fail
   refine (HNR.out _ _).2 ⟨HS0.out.mono fun _ _ f=>f.elim,.inl ⟨200,_,_,_,_,_,_,_,by decide,?_,rfl,HA.out.blk⟩⟩
   have h0:st=1:=S1.out
   have h2:=Y2.out
   have h3:=Y3.out
   have h4:=Y4.out
   subst h0
   unfold Zby
   simp [h2,h3,h4]
 have s2:st=2:=by omega
 have S2:=qH s2
 have q3:((st:Int)==3)=false:=by rw [beq_eq_false_iff_ne];omega
 have q0:((st:Int)==0)=false:=by rw [beq_eq_false_iff_ne];omega
 have q1:((st:Int)==1)=false:=by rw [beq_eq_false_iff_ne];omega
 have n0:((st:Int) != 0)=true:=by rw [bne_iff_ne];omega
 by_cases y3:ty=3
 · have Y3:=qH y3
   have t3:((ty:Int)==3)=true:=by rw [beq_iff_eq];omega
   clear s3 s0 s1 s2 y3
   have hsA:=(Upd.refl (fun _=>False) w1).alloc (.cells #[.int .i64 0,.string ⟨#[]⟩,.int .i64 0,.int .i64 0,.slice none 0 0] 50)
   have HSA:=qH hsA
   have HGA:=qH (Blk.new w1 50 #[.int .i64 0,.string ⟨#[]⟩,.int .i64 0,.int .i64 0,.slice none 0 0])
   have HZA:=qH (show w1.heap.size<(w1.alloc (.cells #[.int .i64 0,.string ⟨#[]⟩,.int .i64 0,.int .i64 0,.slice none 0 0] 50)).heap.size by rw [World.size_alloc];omega)
   clear hsA
   go_upto_region 15 with fail
   generalize hgn:w1.heap.size=gn at *
   have hxA:(w1.alloc (.cells #[.int .i64 0,.string ⟨#[]⟩,.int .i64 0,.int .i64 0,.slice none 0 0] 50)).cell? ⟨bx,1,none⟩=some (.slice A n c):=(HX.out.same HSA.out).cell 1
   generalize w1.alloc (.cells #[.int .i64 0,.string ⟨#[]⟩,.int .i64 0,.int .i64 0,.slice none 0 0] 50)=wA at *
   go_wp2_with fail
   refine (ZgX wA (HY.out.same HSA.out) (by omega)).mono ?_
   rintro e w3 ⟨x,ok,rfl,hx,hok,hno,hs3⟩
   have HOk:=qH (And.intro hok hno)
   have hza:=HZA.out
   have HX3:=qH (hx.base (B':=B) (by omega))
   have HS3:=qH hs3
   have k3:=HGA.out.same hs3
   have c30:=k3.cell 0
   have f30:=k3.frozen 0
   have c31:=k3.cell 1
   have f31:=k3.frozen 1
   have c32:=k3.cell 2
   have f32:=k3.frozen 2
   have c33:=k3.cell 3
   have f33:=k3.frozen 3
   have c34:=k3.cell 4
   have f34:=k3.frozen 4
   simp only [List.getElem?_toArray,List.getElem?_cons_succ,List.getElem?_cons_zero] at c30 c31 c32 c33 c34
   clear hok hno hx hs3 hxA x0 x1
   go_upto_region 16 with fail
   have HUB:=qH ((((((Upd.refl (fun b=>b=gn) w3).put1 (i:=0) (.int .i64 x.id)).put1 (i:=1) (.string x.type)).put1 (i:=2) (.int .i64 x.src)).put1 (i:=3) (.int .i64 x.dst)).put1 (i:=4) (.slice x.AP x.nP x.cP))
   have HKB:Hid (Blk (((((w3.setCell ⟨gn,0,none⟩ (.int .i64 x.id)).setCell ⟨gn,1,none⟩ (.string x.type)).setCell ⟨gn,2,none⟩ (.int .i64 x.src)).setCell ⟨gn,3,none⟩ (.int .i64 x.dst)).setCell ⟨gn,4,none⟩ (.slice x.AP x.nP x.cP)) gn 50 #[.int .i64 x.id,.string x.type,.int .i64 x.src,.int .i64 x.dst,.slice x.AP x.nP x.cP]):=qH (((((k3.put 0 (.int .i64 x.id)).put 1 (.string x.type)).put 2 (.int .i64 x.src)).put 3 (.int .i64 x.dst)).put 4 (.slice x.AP x.nP x.cP))
   have HXB:=qH (HX3.out.type HUB.out (e':=50) (fun b _ e=>e ▸ ⟨_,k3⟩) (by decide) (by decide) (by decide))
   generalize (((((w3.setCell ⟨gn,0,none⟩ (.int .i64 x.id)).setCell ⟨gn,1,none⟩ (.string x.type)).setCell ⟨gn,2,none⟩ (.int .i64 x.src)).setCell ⟨gn,3,none⟩ (.int .i64 x.dst)).setCell ⟨gn,4,none⟩ (.slice x.AP x.nP x.cP))=wB at *
   have SB:=qH ((HSA.out.trans HS3.out fun _ _ f=>f).trans HUB.out fun b hb e=>by omega)
   have HRB:=qH (HA.out.blk.same SB.out)
   have HOB:=qH (HA.out.own.same SB.out)
   have hBw:B<=wB.heap.size:=by have:=SB.out.size;omega
   clear k3 c30 f30 c31 f31 c32 f32 c33 f33 c34 f34
   have s0:Same wB wB.drew:=(Upd.refl _ wB).drew
   have hKeep:Hid (∀ wx,Same wB wx->wx.cell? ⟨r,6,none⟩=some (.slice gr.AR gr.nR gr.cR)/\wx.cell? ⟨gn,0,none⟩=some (.int .i64 x.id)/\wx.cell? ⟨gn,1,none⟩=some (.string x.type)/\wx.cell? ⟨gn,2,none⟩=some (.int .i64 x.src)/\wx.cell? ⟨gn,3,none⟩=some (.int .i64 x.dst)/\wx.cell? ⟨gn,4,none⟩=some (.slice x.AP x.nP x.cP)):=qH fun wx hs=>⟨(HRB.out.same hs).cell 6,(HKB.out.same hs).cell 0,(HKB.out.same hs).cell 1,(HKB.out.same hs).cell 2,(HKB.out.same hs).cell 3,(HKB.out.same hs).cell 4⟩
   refine ZaX 12 (fun wx=>wx.cell? ⟨r,6,none⟩=some (.slice gr.AR gr.nR gr.cR)/\wx.cell? ⟨gn,0,none⟩=some (.int .i64 x.id)/\wx.cell? ⟨gn,1,none⟩=some (.string x.type)/\wx.cell? ⟨gn,2,none⟩=some (.int .i64 x.src)/\wx.cell? ⟨gn,3,none⟩=some (.int .i64 x.dst)/\wx.cell? ⟨gn,4,none⟩=some (.slice x.AP x.nP x.cP)) (by kernel_rfl) (hKeep.out _ s0) (fun hHeld=>?_)
   repeat
    first
     | refine ESt.take (i:=0) (v:=?_) (by decide +kernel) rfl (by decide +kernel) (fun _ _ _ h=>h) (Or.inl ⟨by rfl,?_⟩) (by assumption) ?_
     | refine ESt.take (i:=1) (v:=?_) (by decide +kernel) rfl (by decide +kernel) (fun _ _ _ h=>h) (Or.inl ⟨by rfl,?_⟩) (by assumption) ?_
     | refine ESt.take (i:=2) (v:=?_) (by decide +kernel) rfl (by decide +kernel) (fun _ _ _ h=>h) (Or.inl ⟨by rfl,?_⟩) (by assumption) ?_
     | refine ESt.take (i:=3) (v:=?_) (by decide +kernel) rfl (by decide +kernel) (fun _ _ _ h=>h) (Or.inl ⟨by rfl,?_⟩) (by assumption) ?_
     | refine ESt.take (i:=4) (v:=?_) (by decide +kernel) rfl (by decide +kernel) (fun _ _ _ h=>h) (Or.inl ⟨by rfl,?_⟩) (by assumption) ?_
     | refine ESt.take (i:=5) (v:=?_) (by decide +kernel) rfl (by decide +kernel) (fun _ _ _ h=>h) (Or.inl ⟨by rfl,?_⟩) (by assumption) ?_
     | refine ESt.take (i:=6) (v:=?_) (by decide +kernel) rfl (by decide +kernel) (fun _ _ _ h=>h) (Or.inl ⟨by rfl,?_⟩) (by assumption) ?_
    rotate_left
    · intro wx hSw;obtain ⟨h0,h1,h2,h3,h4,h5⟩:=hSw;go_simp;try with_reducible rfl
    simp only [Act.put,List.setIfInBounds_toArray]
   refine ESt.branch (rs:=[7]) (by decide +kernel) (by decide +kernel) ?_
   refine AllE.cons rfl (fun K hK=>?_) AllE.nil
   go_simp
   have sA:=((Upd.refl (fun _=>False) wB).alloc (.cells #[.int .i64 x.id,.string x.type,.int .i64 x.src,.int .i64 x.dst,.slice x.AP x.nP x.cP] 50)).drew
   refine hK.out _ _ (hKeep.out _ sA) (fun hHeld=>?_)
   clear hK K
   refine ESt.branch (rs:=[8]) (by decide +kernel) (by decide +kernel) ?_
   refine AllE.cons rfl (fun K hK=>?_) AllE.nil
   have hrow:=Zaa HOB.out.rels.row sA
   rw [HOB.out.rels.rd.len] at hrow
   refine ZbP rfl (.tmp 86) (.tmp 88) _ _ rfl B 50 5 64 _ Tryz.underlying24 Zgb rfl (.slice gr.AR gr.nR gr.cR) gr.nR _ rfl hrow rfl (Zal Tryz.underlying24 (Row.rl wB x).drew (RL.one _)) (by unfold maxLen;omega) (by omega) (by have:=sA.size;omega) ?_
   intro v9 w9 hg9
   have hgn9:=(HKB.out.same sA).upd hg9.upd fun e=>by have:=(Off.lt (Off.of HA.out.own.rels.row) _ e).2;omega
   obtain ⟨A9,c9,rfl,hO9,hB9,hB9',hU9⟩:=ZjC (i:=6) (x:=x) HOB.out HRB.out (by decide) (by decide) (by decide) (by decide) (by decide) sA (HXB.out.same sA) hg9
   have HO9:=qH hO9
   have HB9:=qH hB9
   have HU9:=qH hU9
   have HB9':=qH hB9'
   clear hO9 hB9 hU9 hg9 hrow
   refine hK.out _ _ ⟨hB9'.cell 6,hgn9.cell 0,hgn9.cell 1,hgn9.cell 2,hgn9.cell 3,hgn9.cell 4⟩ (fun hHeld=>?_)
   clear hK K
   simp only [Act.put]
   repeat
    first
     | refine ESt.take (i:=9) (v:=?_) (by decide +kernel) rfl (by decide +kernel) (fun _ _ _ h=>h) (Or.inl ⟨by rfl,?_⟩) (by assumption) ?_
     | refine ESt.take (i:=10) (v:=?_) (by decide +kernel) rfl (by decide +kernel) (fun _ _ _ h=>h) (Or.inl ⟨by rfl,?_⟩) (by assumption) ?_
     | refine ESt.take (i:=11) (v:=?_) (by decide +kernel) rfl (by decide +kernel) (fun _ _ _ h=>h) (Or.inl ⟨by rfl,?_⟩) (by assumption) ?_
    rotate_left
    · intro wx hSw;obtain ⟨h0,h1,h2,h3,h4,h5⟩:=hSw;go_simp;try with_reducible rfl
    simp only [Act.put,List.setIfInBounds_toArray]
   refine ESt.last (by decide +kernel) (by decide +kernel) rfl (fun K hK=>?_) _
   have r3:w9.cell? ⟨r,6,none⟩=some (.slice gr.AR gr.nR gr.cR):=hB9'.cell 6
   have z3:=hB9'.frozen 6
   go_simp
   refine hK.out _ _ ?_
   clear hK K hHeld z3 r3 hgn9 hB9' s0 sA
   have hUC:Upd (RSet w B r d) w (w9.setCell ⟨r,6,none⟩ (.slice A9 (gr.nR+1) c9)):=RSet.same1 (HS0.out.trans SB.out fun _ _ f=>f) (HU9.out.mono (S':=RSet wB B r d) fun b _ h=>h.elim .inl fun h=>.inr (.inr ⟨.inr h.1,h.2⟩))
   have HYC:=qH ((HY.out.same SB.out).upd HU9.out fun b hb h=>hb.2 (RSet.back (HS0.out.trans SB.out fun _ _ f=>f) (by omega) (fun f=>f) (h.elim .inl fun h=>.inr (.inr ⟨.inr h.1,h.2⟩))))
   have HNC:Hid (Nib (w9.setCell ⟨r,6,none⟩ (.slice A9 (gr.nR+1) c9))):=qH ((HN.out.same SB.out).upd HU9.out fun h=>h.elim (by omega) fun h=>by have:=h.2;omega)
   have HDC:=qH ((HA.out.dig.same SB.out).upd HU9.out fun h=>h.elim (fun e=>hrd e.symm) fun h=>absurd (OfT.ne h.1 ⟨_,HA.out.dig.same SB.out⟩) (by decide))
   have HXC:=qH ((HX.out.same SB.out).upd HU9.out fun h=>h.elim (by omega) fun h=>absurd (OfT.ne h.1 ⟨_,HX.out.same SB.out⟩) (by decide))
   have HUC:=qH hUC
   have HKC:Hid (Blk (w9.setCell ⟨r,6,none⟩ (.slice A9 (gr.nR+1) c9)) r 97 #[.int .i64 (fed:Int),vf,.pointer (some ⟨fr,0,none⟩),.pointer (some ⟨d,0,none⟩),.int .i64 (st:Int),.slice gr.AN gr.nN gr.cN,.slice A9 (gr.nR+1) c9,.int .i64 0]):=qH HB9.out
   generalize w9.setCell ⟨r,6,none⟩ (.slice A9 (gr.nR+1) c9)=wC at *
   clear hUC p3 p4 f4 hKeep HB9
   have x0:wC.cell? ⟨bx,0,none⟩=some (.int .i64 (ty:Int)):=HXC.out.cell 0
   have x1:wC.cell? ⟨bx,1,none⟩=some (.slice A n c):=HXC.out.cell 1
   have p3:wC.cell? ⟨r,3,none⟩=some (.pointer (some ⟨d,0,none⟩)):=HKC.out.cell 3
   have p4:wC.cell? ⟨r,4,none⟩=some (.int .i64 (st:Int)):=HKC.out.cell 4
   have f4:=HKC.out.frozen 4
   have hU2:=(Upd.refl (fun b=>b=r) wC).put1 (i:=4) (.int .i64 2)
   have HYD:=qH (HYC.out.upd hU2 fun b hb e=>hb.2 (.inl e))
   have HND:=qH (HNC.out.upd hU2 (by omega))
   have HDD:=qH (HDC.out.upd hU2 fun e=>hrd e.symm)
   have HXD:=qH (HXC.out.upd hU2 (by omega))
   have HOD:=qH (HO9.out.upd3 hU2 fun g e=>.inl (e ▸ ⟨_,HKC.out⟩))
   have HUD:=qH (HUC.out.trans hU2 fun _ _ e=>.inl e)
   have HKD:Hid (Blk (wC.setCell ⟨r,4,none⟩ (.int .i64 2)) r 97 #[.int .i64 (fed:Int),vf,.pointer (some ⟨fr,0,none⟩),.pointer (some ⟨d,0,none⟩),.int .i64 ((2:Nat):Int),.slice gr.AN gr.nN gr.cN,.slice A9 (gr.nR+1) c9,.int .i64 0]):=qH (HKC.out.put 4 _)
   clear hU2
   go_upto_region 22 with fail
   clear p3 p4 f4 x0 x1
   generalize wC.setCell ⟨r,4,none⟩ (.int .i64 2)=wD at *
   have x0:wD.cell? ⟨bx,0,none⟩=some (.int .i64 (ty:Int)):=HXD.out.cell 0
   have x1:wD.cell? ⟨bx,1,none⟩=some (.slice A n c):=HXD.out.cell 1
   have p3:wD.cell? ⟨r,3,none⟩=some (.pointer (some ⟨d,0,none⟩)):=HKD.out.cell 3
   have HYT:=HYD
   have HNT:=HND
   cases ok with
   | false =>
     go_wp2_with fail
     refine (HNR.out _ _).2 ⟨HUD.out,.inl ⟨201,_,_,_,_,_,_,_,by decide,?_,rfl,HKD.out⟩⟩
     have h0:st=2:=S2.out
     have h1:ty=3:=Y3.out
     have hk:=HOk.2 trivial
     subst h0 h1
     unfold Zby
     simp [hk]
   | true =>
     go_wp2_with fail
     refine (ZbT wD ty hty HYT.out hn HNT.out).mono ?_
     rintro e w5 ⟨v,rfl,HO5,hs5⟩
     obtain ⟨A5,c5,rfl⟩:=Zac HO5.out
     have HS5:=qH hs5
     have p35:w5.cell? ⟨r,3,none⟩=some (.pointer (some ⟨d,0,none⟩)):=(HKD.out.same hs5).cell 3
     have hpl:(Zai ty bs).length=n+9:=by rw [ZaE,HLn.out]
     have HPL:=qH hpl
     clear hs5 hpl
     go_wp2_with fail
     refine (ZaU w5 (HDD.out.same HS5.out) (ZaG HO5.out) (HNT.out.same HS5.out) (by rw [HPL.out];omega)).mono ?_
     rintro e w6 ⟨rfl,hd6,hu6⟩
     have HE:=qH (Zcl (st':=2) (gr':=(⟨gr.ns,gr.AN,gr.nN,gr.cN,gr.rs++[x],A9,gr.nR+1,c9⟩:GR)) HA0.out (HUD.out) HKD.out HOD.out HDD.out HS5.out hu6 hd6)
     clear hd6 hu6
     go_wp2_with fail
     refine (HNR.out _ _).2 ⟨HE.1,.inr ⟨(⟨gr.ns,gr.AN,gr.nN,gr.cN,gr.rs++[x],A9,gr.nR+1,c9⟩:GR),2,?_,rfl,HE.2⟩⟩
     have h0:st=2:=S2.out
     have h1:ty=3:=Y3.out
     have hk:=HOk.1 trivial
     subst h0 h1
     unfold Zby
     simp [hk,GR.dat]
 by_cases y4:ty=4
 · have Y4:=qH y4
   have t3:((ty:Int)==3)=false:=by rw [beq_eq_false_iff_ne];omega
   have t4:((ty:Int)==4)=true:=by rw [beq_iff_eq];omega
   clear s3 s0 s1 s2 y3 y4
   obtain ⟨q,hq⟩:∃ q,decide (bs=ZaY gr.nN gr.nR gr.dat.wt all)=q:=⟨_,rfl⟩
   have HQ:=qH hq
   have hGS:=ZeQ HA.out.own HI.1 (by have:=HA.out.own.nodes.rd.len;omega) (by have:=HA.out.own.rels.rd.len;omega)
   have hrg:=HA.out.own.rd
   have hwt:=HWt.out
   have HCS:Hid (∀ wx,Same w1 wx->Calls Tryz.prog 42 #[.pointer (some ⟨d,0,none⟩)] wx fun e w'=>e=.returned (.int .u32 ((crcS all).toNat:Int))/\Same w1 w'):=qH fun wx hs=>(Zej wx (HA.out.dig.same hs)).mono fun e w' h=>⟨h.1,h.2 ▸ hs⟩
   have HCT:Hid (∀ wx,Same w1 wx->Calls Tryz.prog 41 #[.agg #[.slice gr.AN gr.nN gr.cN,.slice gr.AR gr.nR gr.cR],.int .u32 ((crcS all).toNat:Int)] wx fun e w'=>∃ A5 c5,e=.returned (.slice A5 (ZaY gr.nN gr.nR gr.dat.wt all).length c5)/\Same w1 w'/\Hid (∀ wy,Same w' wy->Calls Tryz.prog 129 #[.slice A n c,.slice A5 (ZaY gr.nN gr.nR gr.dat.wt all).length c5] wy fun e w''=>e=.returned (.bool q)/\Same w1 w'')):=qH fun wx hs=>(ZcV wx gr (hrg.same hs) hGS.fit rfl (by omega) (by omega) (by omega) all).mono fun e w' h=>by
    obtain ⟨v,rfl,HO,hs'⟩:=h
    obtain ⟨A5,c5,rfl⟩:=Zac HO.out
    have hss:Same w1 w':=hs.trans hs' fun _ _ f=>f
    refine ⟨A5,c5,rfl,hss,qH fun wy hy=>(Zcf wy ((HY.out.same hss).same hy) (ZaG (Zaa HO.out hy)) HQ.out).mono fun e w'' h=>⟨h.1,h.2 ▸ (hss.trans hy fun _ _ f=>f)⟩⟩
   have p5:w1.cell? ⟨r,5,none⟩=some (.slice gr.AN gr.nN gr.cN):=HA.out.blk.cell 5
   have p6:w1.cell? ⟨r,6,none⟩=some (.slice gr.AR gr.nR gr.cR):=HA.out.blk.cell 6
   have hKeep:Hid (∀ wx,Same w1 wx->Same w1 wx/\wx.cell? ⟨bx,1,none⟩=some (.slice A n c)/\wx.cell? ⟨r,3,none⟩=some (.pointer (some ⟨d,0,none⟩))/\wx.cell? ⟨r,5,none⟩=some (.slice gr.AN gr.nN gr.cN)/\wx.cell? ⟨r,6,none⟩=some (.slice gr.AR gr.nR gr.cR)):=qH fun wx hs=>⟨hs,(HX.out.same hs).cell 1,(HA.out.blk.same hs).cell 3,(HA.out.blk.same hs).cell 5,(HA.out.blk.same hs).cell 6⟩
   clear hq hGS hrg hwt
   go_upto_region 19 with fail
   go_cut [120] from 107 to 120 (fun s120 wx=>s120=.bool (!q)/\Hid (Same w1 wx))
   case first =>
    have hss:Same w1 w1:=Upd.refl _ w1
    go_region_held3 (fun wx=>Same w1 wx/\wx.cell? ⟨bx,1,none⟩=some (.slice A n c)/\wx.cell? ⟨r,3,none⟩=some (.pointer (some ⟨d,0,none⟩))/\wx.cell? ⟨r,5,none⟩=some (.slice gr.AN gr.nN gr.cN)/\wx.cell? ⟨r,6,none⟩=some (.slice gr.AR gr.nR gr.cR)) (exact hKeep.out _ (by first | assumption | exact Upd.drew (by assumption))) (first
     | (go_at_call 42;with_reducible refine (HCS.out _ (by first | assumption | exact Upd.refl _ _ | exact (Upd.refl _ _).drew)).mono ?_;rintro e w2 ⟨rfl,hs2⟩)
     | (go_at_call 41;with_reducible refine (HCT.out _ (by first | assumption | exact Upd.drew (by assumption))).mono ?_;rintro e w4 ⟨A5,c5,rfl,hs4,HCE⟩)
     | (go_at_call 129;with_reducible refine (HCE.out _ (by first | exact Upd.refl _ _ | exact (Upd.refl _ _).drew)).mono ?_;rintro e w5 ⟨rfl,hs5⟩))
    go_wp2
    go_meet
    exact ⟨rfl,qH (by assumption)⟩
   obtain ⟨rfl,HS4⟩:=hcut
   obtain ⟨w4,rfl⟩:∃ w4:World,w4=wc:=⟨_,rfl⟩
   clear p5 p6 p3 p4 f4 x0 x1 HCS HCT hKeep
   cases q
   case false =>
    go_wp2_with fail
    refine (HNR.out _ _).2 ⟨(HS0.out.trans HS4.out fun _ _ f=>f).mono fun _ _ f=>f.elim,.inl ⟨202,_,_,_,_,_,_,_,by decide,?_,rfl,HA.out.blk.same HS4.out⟩⟩
    have h0:st=2:=S2.out
    have h1:ty=4:=Y4.out
    have hq:=HQ.out
    rw [decide_eq_false_iff_not] at hq
    have e1:gr.dat.nodes.length=gr.nN:=by rw [<- HA.out.own.nodes.rd.len];simp [GR.dat]
    have e2:gr.dat.rels.length=gr.nR:=by rw [<- HA.out.own.rels.rd.len];simp [GR.dat]
    subst h0 h1
    unfold Zby
    simp only [e1,e2]
    simp [hq]
   have hk:=HA.out.blk.same HS4.out
   have p4:w4.cell? ⟨r,4,none⟩=some (.int .i64 (st:Int)):=hk.cell 4
   have f4:=hk.frozen 4
   have hU2:=(Upd.refl (fun b=>b=r) w4).put1 (i:=4) (.int .i64 3)
   have HYT:=qH ((HY.out.same HS4.out).upd hU2 fun b hb e=>hb.2 (.inl e))
   have HNT:=qH ((HN.out.same HS4.out).upd hU2 (by omega))
   have HDD:=qH ((HA.out.dig.same HS4.out).upd hU2 fun e=>hrd e.symm)
   have HXD:=qH ((HX.out.same HS4.out).upd hU2 (by omega))
   have HOD:=qH ((HA.out.own.same HS4.out).upd3 hU2 fun g e=>.inl (e ▸ ⟨_,hk⟩))
   have HUD:=qH (((HS0.out.trans HS4.out fun _ _ f=>f).mono (S':=RSet w B r d) fun _ _ f=>f.elim).trans hU2 fun _ _ e=>.inl e)
   have HKD:Hid (Blk (w4.setCell ⟨r,4,none⟩ (.int .i64 3)) r 97 #[.int .i64 (fed:Int),vf,.pointer (some ⟨fr,0,none⟩),.pointer (some ⟨d,0,none⟩),.int .i64 ((3:Nat):Int),.slice gr.AN gr.nN gr.cN,.slice gr.AR gr.nR gr.cR,.int .i64 0]):=qH (hk.put 4 _)
   clear hU2 hk
   go_upto_region 22 with fail
   clear p4 f4
   generalize w4.setCell ⟨r,4,none⟩ (.int .i64 3)=wD at *
   have x0:wD.cell? ⟨bx,0,none⟩=some (.int .i64 (ty:Int)):=HXD.out.cell 0
   have x1:wD.cell? ⟨bx,1,none⟩=some (.slice A n c):=HXD.out.cell 1
   have p3:wD.cell? ⟨r,3,none⟩=some (.pointer (some ⟨d,0,none⟩)):=HKD.out.cell 3
   go_wp2_with fail
   refine (ZbT wD ty hty HYT.out hn HNT.out).mono ?_
   rintro e w5 ⟨v,rfl,HO5,hs5⟩
   obtain ⟨A5,c5,rfl⟩:=Zac HO5.out
   have HS5:=qH hs5
   have p35:w5.cell? ⟨r,3,none⟩=some (.pointer (some ⟨d,0,none⟩)):=(HKD.out.same hs5).cell 3
   have hpl:(Zai ty bs).length=n+9:=by rw [ZaE,HLn.out]
   have HPL:=qH hpl
   clear hs5 hpl
   go_wp2_with fail
   refine (ZaU w5 (HDD.out.same HS5.out) (ZaG HO5.out) (HNT.out.same HS5.out) (by rw [HPL.out];omega)).mono ?_
   rintro e w6 ⟨rfl,hd6,hu6⟩
   have HE:=qH (Zcl (st':=3) (gr':=gr) HA0.out (HUD.out) HKD.out HOD.out HDD.out HS5.out hu6 hd6)
   clear hd6 hu6
   go_wp2_with fail
   refine (HNR.out _ _).2 ⟨HE.1,.inr ⟨gr,3,?_,rfl,HE.2⟩⟩
   have h0:st=2:=S2.out
   have h1:ty=4:=Y4.out
   have hq:=HQ.out
   rw [decide_eq_true_eq] at hq
   have e1:gr.dat.nodes.length=gr.nN:=by rw [<- HA.out.own.nodes.rd.len];simp [GR.dat]
   have e2:gr.dat.rels.length=gr.nR:=by rw [<- HA.out.own.rels.rd.len];simp [GR.dat]
   subst h0 h1
   unfold Zby
   simp only [e1,e2]
   simp [hq]
 have Y3:=qH y3
 have Y4:=qH y4
 have t3:((ty:Int)==3)=false:=by rw [beq_eq_false_iff_ne];omega
 have t4:((ty:Int)==4)=false:=by rw [beq_eq_false_iff_ne];omega
 clear s3 s0 s1 s2 y3 y4
 go_wp2_with fail
 refine (HNR.out _ _).2 ⟨HS0.out.mono fun _ _ f=>f.elim,.inl ⟨200,_,_,_,_,_,_,_,by decide,?_,rfl,HA.out.blk⟩⟩
 have h0:st=2:=S2.out
 have h3:=Y3.out
 have h4:=Y4.out
 subst h0
 unfold Zby
 simp [h3,h4]
end Go.Proofs.YtkopcinhbjimiaaGreatDoor
