/- Texts that the claim leans on: walks and plain laws, function by function. -/
import Derived.Test.YtkopcinhbjimiaaGreatDoorQ04
import Derived.Test.YtkopcinhbjimiaaGreatDoorQ06
set_option maxRecDepth 100000
set_option maxHeartbeats 16000000
namespace Go.Proofs.YtkopcinhbjimiaaGreatDoor
def step (K kk:Int) (l:List UInt8) (g:GVal):Except Int (GVal×List UInt8) :=
 if kk<4 then match pNum kk l with
  | .error e=>.error e
  | .ok (n,r)=>.ok (if 4<K then { g with nums:=g.nums++[n] } else { g with num:=n },r)
 else match Zbn l with
  | .error e=>.error e
  | .ok (s,r)=>.ok (if 4<K then { g with texts:=g.texts++[s] } else { g with text:=s },r)
def run (K kk:Int):Nat->List UInt8->GVal->Except Int (GVal×List UInt8)
 | 0,l,g=>.ok (g,l)
 | m+1,l,g=>match step K kk l g with
   | .error e=>.error e
   | .ok (g',r)=>run K kk m r g'
theorem Zie {K kk:Int} {m:Nat} {l:List UInt8} {g:GVal} {e:Int} (hm:0<m) (h:step K kk l g=.error e):run K kk m l g=.error e:=by
 cases m with
 | zero=>omega
 | succ m=>simp only [run,h]
theorem Zhu {K kk:Int} {m:Nat} {l r:List UInt8} {g g':GVal} (hm:0<m) (h:step K kk l g=.ok (g',r)):run K kk m l g=run K kk (m-1) r g':=by
 cases m with
 | zero=>omega
 | succ m=>simp only [run,h,Nat.add_sub_cancel]
theorem ZmM (K:Int) (hK:4<K):∀ (m:Nat) (l:List UInt8) (g:GVal),run K 4 m l g=match ZaW Zbn m l with
 | .error e=>.error e
 | .ok (xs,r)=>.ok ({ g with texts:=g.texts++xs },r):=by
 intro m
 induction m with
 | zero=>intro l g;simp [run,ZaW]
 | succ m ih =>
   intro l g
   simp only [run,step,ZaW,if_neg (show ¬ (4:Int)<4 by omega),if_pos hK]
   cases Zbn l with
   | error e=>rfl
   | ok x =>
     obtain ⟨s,r⟩:=x
     simp only [ih]
     cases ZaW Zbn m r with
     | error e=>rfl
     | ok y=>obtain ⟨ys,r'⟩:=y;simp
theorem Zom (K kk:Int) (hK:4<K) (hk:kk<4):∀ (m:Nat) (l:List UInt8) (g:GVal),run K kk m l g=match ZaW (pNum kk) m l with
 | .error e=>.error e
 | .ok (xs,r)=>.ok ({ g with nums:=g.nums++xs },r):=by
 intro m
 induction m with
 | zero=>intro l g;simp [run,ZaW]
 | succ m ih =>
   intro l g
   simp only [run,step,ZaW,if_pos hk,if_pos hK]
   cases pNum kk l with
   | error e=>rfl
   | ok x =>
     obtain ⟨s,r⟩:=x
     simp only [ih]
     cases ZaW (pNum kk) m r with
     | error e=>rfl
     | ok y=>obtain ⟨ys,r'⟩:=y;simp
def g0 (N:Int):GVal:=⟨N,0,⟨#[]⟩,[],[]⟩
theorem Zon (c:UInt8) (l:List UInt8):pVal (c::l)=if c.toNat<1\/8<c.toNat then .error 40
 else if 4<c.toNat then (match l with
  | []=>.error 10
  | d::l=>if 40<d.toNat then .error 45 else run c.toNat ((c.toNat:Int)-4) d.toNat l (g0 c.toNat))
 else run c.toNat c.toNat 1 l (g0 c.toNat):=by
 simp only [pVal]
 generalize c.toNat=N
 split
 · rfl
 rename_i h1
 split
 · rename_i h2
   cases l with
   | nil=>rfl
   | cons d l =>
     simp only [Zeo]
     split
     · rfl
     split
     · rename_i h8
       obtain rfl:N=8:=by omega
       rw [show (((8:Nat):Int)-4)=4 from rfl,ZmM _ (by omega)]
       cases ZaW Zbn d.toNat l <;> rfl
     rename_i h8
     rw [Zom _ _ (by omega) (by omega)]
     cases ZaW (pNum ((N:Int)-4)) d.toNat l <;> rfl
 rename_i h2
 split
 · rename_i h4
   subst h4
   simp only [run,step]
   rw [if_neg (by omega)]
   cases Zbn l with
   | error e=>rfl
   | ok x=>simp [g0]
 rename_i h4
 simp only [run,step]
 rw [if_pos (by omega)]
 cases pNum (N:Int) l with
 | error e=>rfl
 | ok x=>simp [g0];omega
end Go.Proofs.YtkopcinhbjimiaaGreatDoor
namespace Go.Proofs.YtkopcinhbjimiaaGreatDoor
open Go.RowKit
theorem Zgy {tmps:Array Value} {wE:World} {B:Nat} {a0 a1 a2 a3 a4 u0 u1 u2 u3 u4:Value} {nn ee:Int} {R:Ending->World->Prop} (h2:tmps.getD 2 undef=.pointer (some ⟨B,0,none⟩)) (h3:tmps.getD 3 undef=.int .i64 nn) (h4:tmps.getD 4 undef=.int .i64 ee)
 (hb:Blk wE B 46 #[a0,a1,a2,a3,a4]) (hR:R (.returned (.tuple #[.agg #[u0,u1,u2,u3,u4],.int .i64 nn,.int .i64 ee])) (put5 wE B u0 u1 u2 u3 u4)) :
 bodyPost Tryz.prog Tryz.f184 R Exit.ret ⟨tmps,[]⟩ (put5 wE B u0 u1 u2 u3 u4):=by
 obtain ⟨r0,r1,r2,r3,r4⟩:=(hb.put5 u0 u1 u2 u3 u4).five
 generalize put5 wE B u0 u1 u2 u3 u4=W at *
 refine bodyPost_ret (v:=.tuple #[.agg #[u0,u1,u2,u3,u4],.int .i64 nn,.int .i64 ee]) ?_ rfl hR
 simp only [Array.getD_eq_getD_getElem?] at h2 h3 h4
 simp [results,Tryz.results184,go_sem,h2,h3,h4,r0,r1,r2,r3,r4]
theorem Zbe {w wE:World} {tmps:Array Value} {a0 a1 a2 a3 a4:Value} {bs:List UInt8} {er:Int} {P:GVal×Nat×Int} (h2:tmps.getD 2 undef=.pointer (some ⟨w.heap.size,0,none⟩)) (h3:tmps.getD 3 undef=.int .i64 0) (h4:tmps.getD 4 undef=.int .i64 er)
 (hP:decP bs=P) (hv:pVal bs=.error er) (hb:Blk wE w.heap.size 46 #[a0,a1,a2,a3,a4]) (hs:Same w wE) :
 bodyPost Tryz.prog Tryz.f184 (fun e w'=>∃ v,e=.returned (.tuple #[v,.int .i64 (P.2.1:Int),.int .i64 P.2.2])/\Zeh w' w.heap.size v P.1/\Same w w') Exit.ret ⟨tmps,[]⟩
  (put5 wE w.heap.size (.int .i64 0) (.int .i64 0) (.string ⟨#[]⟩) (.slice none 0 0) (.slice none 0 0)):=by
 have hD:=hP.symm.trans (ZdR hv)
 refine Zgy h2 h3 h4 hb ⟨_,by rw [hD];rfl,by rw [hD];exact Zeh.none _ _,hs.trans (Upd.put5 (Upd.refl _ _) _ _ _ _ _) fun b hb hh=>by omega⟩
theorem Zcy {w wr wn:World} {v:Value} {e:TypeId} {k n:Nat} {xs:List Value} (hu:Upd (fun b=>b=w.heap.size+2\/v.ownBlock=some b) wr wn) (hv:wr.ownsRow w.heap.size e k v n xs) (hne:e≠46)
 {cs ds:Array Value} (hB:Blk wr w.heap.size 46 cs) (hC:Blk wr (w.heap.size+1) 46 ds) (hs:Same w wr):Blk wn w.heap.size 46 cs/\Blk wn (w.heap.size+1) 46 ds/\Same w wn:=by
 refine ⟨hB.upd hu ?_,hC.upd hu ?_,hs.trans hu ?_⟩
 · rintro (hh | hh)
   · omega
   exact hB.ne_own hv hne hh
 · rintro (hh | hh)
   · omega
   exact hC.ne_own hv hne hh
 rintro b hb (hh | hh)
 · omega
 have:=(hv.lt b hh).1;omega
theorem Zgz {w wr wn:World} {v v2:Value} {e e2:TypeId} {n n2:Nat} {xs xs2:List Value} {cs:Array Value} (hu:Upd (fun b=>b=w.heap.size+2\/v.ownBlock=some b) wr wn) (hv:wr.ownsRow w.heap.size e 1 v n xs) (h2:wr.ownsRow w.heap.size e2 1 v2 n2 xs2)
 (hG:Blk wr (w.heap.size+2) 46 cs) (hne:e2≠46) (hne2:e2≠e):wn.ownsRow w.heap.size e2 1 v2 n2 xs2:=by
 refine Zai h2 hu fun g hg=>?_
 rintro (hh | hh)
 · exact hG.ne_own h2 hne (hh ▸ hg)
 exact Zma h2 hv hne2 g hg hh
theorem ZiL {F:Nat->Prop} {A:Option Addr} {n c:Nat} {bs:List UInt8} (w:World) (hb:Bytes w F A n c bs) (P:GVal×Nat×Int) (hP:decP bs=P) :
 Calls Tryz.prog 184 #[.slice A n c] w fun e w'=>∃ v,e=.returned (.tuple #[v,.int .i64 (P.2.1:Int),.int .i64 P.2.2])/\Zeh w' w.heap.size v P.1/\Same w w':=by
 have HB:=qH hb
 have HP:=qH hP
 have hc0:=Row.le hb
 have hc1:=Row.max hb
 have hlen:=hb.len
 unfold maxLen at hc1
 have hs0:=((Upd.refl (fun _=>False) w).alloc (.cells #[.int .i64 0,.int .i64 0,.string ⟨#[]⟩,.slice none 0 0,.slice none 0 0] 46)).alloc (.cells #[.int .i64 0,.int .i64 0,.string ⟨#[]⟩,.slice none 0 0,.slice none 0 0] 46)
 have hb0:=(Blk.new w 46 #[.int .i64 0,.int .i64 0,.string ⟨#[]⟩,.slice none 0 0,.slice none 0 0]).alloc (.cells #[.int .i64 0,.int .i64 0,.string ⟨#[]⟩,.slice none 0 0,.slice none 0 0] 46)
 have hb1:=Blk.new (w.alloc (.cells #[.int .i64 0,.int .i64 0,.string ⟨#[]⟩,.slice none 0 0,.slice none 0 0] 46)) 46 #[.int .i64 0,.int .i64 0,.string ⟨#[]⟩,.slice none 0 0,.slice none 0 0]
 have hsz:((w.alloc (.cells #[.int .i64 0,.int .i64 0,.string ⟨#[]⟩,.slice none 0 0,.slice none 0 0] 46)).alloc (.cells #[.int .i64 0,.int .i64 0,.string ⟨#[]⟩,.slice none 0 0,.slice none 0 0] 46)).heap.size=w.heap.size+2:=by simp
 rw [World.size_alloc] at hb1
 have hbx:=hb.same hs0
 have HW0:=qH hb
 clear hb hP
 go_enter Tryz.func184,Tryz.ntmps184
 go_upto_if 18 with fail
 generalize (w.alloc (.cells #[.int .i64 0,.int .i64 0,.string ⟨#[]⟩,.slice none 0 0,.slice none 0 0] 46)).alloc (.cells #[.int .i64 0,.int .i64 0,.string ⟨#[]⟩,.slice none 0 0,.slice none 0 0] 46)=w2 at *
 obtain ⟨b0,b1,b2,b3,b4⟩:=hb0.five
 obtain ⟨z0,z1,z2,z3,z4⟩:=hb0.five_free
 obtain ⟨k0,k1,k2,k3,k4⟩:=hb1.five
 have HS:=qH hs0
 have HB0:=qH hb0
 have HB1:=qH hb1
 have HBX:=qH hbx
 clear hb0 hb1 hs0 hbx
 cases hbs:bs with
 | nil =>
   subst hbs
   have HV:=qH (show pVal []=.error 10 from rfl)
   obtain rfl:n=0:=by simpa using hlen.symm
   go_wp2
   exact Zbe rfl rfl rfl HP.out HV.out HB0.out HS.out
 | cons cc l0 =>
   subst hbs
   have HV:=qH (Zon cc l0)
   have hn:0<n:=by rw [<- hlen];simp
   obtain ⟨b,o,rfl,hbl,hFb,hc⟩:=HBX.out.at_ hn
   simp only [List.getElem_cons_zero,Nat.add_zero] at hc
   have hcc:=cc.toNat_lt
   have HL:=qH hlen
   clear HB hlen
   generalize cc.toNat=N at *
   have hu:=(Upd.refl (fun _=>False) w2).alloc (.cells #[.int .i64 N,.int .i64 0,.string ⟨#[]⟩,.slice none 0 0,.slice none 0 0] 46)
   have hb6:=Blk.new w2 46 #[.int .i64 N,.int .i64 0,.string ⟨#[]⟩,.slice none 0 0,.slice none 0 0]
   rw [hsz] at hb6
   go_upto_region 5 with fail
   have HS3:=qH (HS.out.same hu)
   have HB3:=qH (HB0.out.same hu)
   have HC3:=qH (HB1.out.same hu)
   have HX3:=qH (HBX.out.same hu)
   have hc:=(hu.cell (p:=⟨b,o,none⟩) hbl (fun f=>f)).trans hc
   have hbl:=Nat.lt_of_lt_of_le hbl hu.size
   have hsz3:=hu.size
   clear HS HB0 HB1 HBX b0 b1 b2 b3 b4 z0 z1 z2 z3 z4 k0 k1 k2 k3 k4
   generalize w2.alloc (.cells #[.int .i64 N,.int .i64 0,.string ⟨#[]⟩,.slice none 0 0,.slice none 0 0] 46)=w3 at *
   clear hu
   obtain ⟨b0,b1,b2,b3,b4⟩:=HB3.out.five
   obtain ⟨z0,z1,z2,z3,z4⟩:=HB3.out.five_free
   obtain ⟨k0,k1,k2,k3,k4⟩:=HC3.out.five
   obtain ⟨j0,j1,j2,j3,j4⟩:=hb6.five
   have HB6:=qH hb6
   clear hb6
   by_cases ha:N<1\/8<N
   · have HV1:=qH (HV.out.trans (if_pos ha))
     rcases ha with ha | ha
     · go_wp2
       exact Zbe rfl rfl rfl HP.out HV1.out HB3.out HS3.out
     go_wp2
     exact Zbe rfl rfl rfl HP.out HV1.out HB3.out HS3.out
   have HV1:=qH (HV.out.trans (if_neg ha))
   have ha1:1<=N:=by omega
   have ha8:N<=8:=by omega
   clear ha
   go_upto_if 37 with (go_quiet (fail))
   have hdn:=(Upd.refl (fun _=>False) w3).drewN nq
   have HB4:=qH (HB3.out.drewN nq)
   have HS4:=qH (HS3.out.same hdn)
   clear hdn
   go_cut [7,8,9,27,28,31,32] from 36 (fun s7 s8 s9 _ _ _ _ wx=>∃ (d at_ cnt:Nat) (kk:Int),s7=.int .i64 at_/\s8=.int .i64 cnt/\s9=.int .i64 kk/\wx=w3.drewN d/\at_<=n/\cnt<=40/\1<=kk/\kk<=4/\Hid (run N kk cnt ((cc::l0).drop at_) (g0 N)=pVal (cc::l0)))
   case first =>
    by_cases h4:4<N
    · have HV2:=qH (HV1.out.trans (if_pos h4))
      cases hl0:l0 with
      | nil =>
        subst hl0
        have HV3:=qH (HV2.out.trans rfl)
        obtain rfl:n=1:=by rw [<- HL.out];rfl
        go_wp2
        exact Zbe rfl rfl rfl HP.out HV3.out HB4.out HS4.out
      | cons dd l1 =>
        subst hl0
        have hn2:1<n:=by rw [<- HL.out];simp
        obtain ⟨_,_,hA,_,_,hc5⟩:=HX3.out.at_ hn2
        injection hA with hA
        injection hA with e1 e2 _
        subst e1 e2
        simp only [List.getElem_cons_succ,List.getElem_cons_zero] at hc5
        have hdd:=dd.toNat_lt
        have HV3:=qH (HV2.out.trans (show _=if 40<dd.toNat then _ else _ from rfl))
        generalize dd.toNat=D at *
        by_cases h40:40<D
        · have HV4:=qH (HV3.out.trans (if_pos h40))
          go_wp2_with fail
          go_quiet (fail)
          go_wp2
          exact Zbe rfl rfl rfl HP.out HV4.out (HB3.out.drewN _) (HS3.out.same ((Upd.refl (fun _=>False) w3).drewN _))
        have HV4:=qH (HV3.out.trans (if_neg h40))
        go_wp2_with fail
        go_quiet (fail)
        go_wp2
        go_meet
        case rel=>exact ⟨_,2,D,_,rfl,rfl,rfl,rfl,by omega,by omega,by omega,by omega,qH HV4.out.symm⟩
    have HV2:=qH (HV1.out.trans (if_neg h4))
    go_wp2
    go_meet
    case rel=>exact ⟨_,1,1,_,rfl,rfl,rfl,rfl,by omega,by omega,by omega,by omega,qH HV2.out.symm⟩
   obtain ⟨d,at0,cnt,kk,rfl,rfl,rfl,rfl,hat,hcnt,hk1,hk4,HRun⟩:=hcut
   clear HV HV1 HB4 HS4
   generalize hV:pVal (cc::l0)=V at *
   have HVV:=qH hV
   clear hV
   have HSd:=qH (HS3.out.same ((Upd.refl (fun _=>False) w3).drewN d))
   have HBd:=qH (HB3.out.drewN d)
   have HCd:=qH (HC3.out.drewN d)
   have HGd:=qH (HB6.out.drewN d)
   clear HS3 HB3 HC3 HB6 HX3 b0 b1 b2 b3 b4 z0 z1 z2 z3 z4 k0 k1 k2 k3 k4 j0 j1 j2 j3 j4 hc
   generalize w3.drewN d=w4 at *
   go_wp2_with fail
   go_loopw [7,10] (fun s7 s10 wr=>∃ (i at1:Nat) (g:GVal) (v1 v2:Value),s7=.int .i64 at1/\s10=.int .i64 i/\i<=cnt/\at1<=n/\Hid (run N kk (cnt-i) ((cc::l0).drop at1) g=V)/\Hid (g.nums.length<=i/\g.texts.length<=i) /\
    Hid (Blk wr (w.heap.size+2) 46 #[.int .i64 N,.int .i64 g.num,.string g.text,v1,v2]/\g.kind=N)/\Hid (Blk wr w.heap.size 46 #[.int .i64 0,.int .i64 0,.string ⟨#[]⟩,.slice none 0 0,.slice none 0 0])/\Hid (Blk wr (w.heap.size+1) 46 #[.int .i64 0,.int .i64 0,.string ⟨#[]⟩,.slice none 0 0,.slice none 0 0]) /\
    Hid (wr.ownsRow w.heap.size 2 1 v1 g.nums.length (g.nums.map (Value.int .i64)))/\Hid (wr.ownsRow w.heap.size 9 1 v2 g.texts.length (g.texts.map Value.string))/\Hid (Same w wr)) (fun _ s10 _=>cnt-(intOf s10).toNat)
   case atStart=>exact ⟨0,at0,g0 N,_,_,rfl,rfl,by omega,hat,HRun,qH ⟨Nat.le_refl _,Nat.le_refl _⟩,qH ⟨HGd.out,rfl⟩,HBd,HCd,qH (World.ownsRow_nil _ _ _ _),qH (World.ownsRow_nil _ _ _ _),HSd⟩
   obtain ⟨i,at1,g,v1,v2,rfl,rfl,hi,hat1,JR,JL,JG,JB,JC,JO1,JO2,JS⟩:=hrel
   clear HSd HBd HCd HGd HRun hat
   have HX:=qH (HW0.out.same JS.out)
   obtain ⟨gkind,gnum,gtext,gnums,gtexts⟩:=g
   obtain ⟨A1,m1,q1,hv1⟩:=Zas JO1.out
   obtain ⟨A2,m2,q2,hv2⟩:=Zas JO2.out
   subst hv1 hv2
   obtain ⟨b0,b1,b2,b3,b4⟩:=JB.out.five
   obtain ⟨z0,z1,z2,z3,z4⟩:=JB.out.five_free
   obtain ⟨k0,k1,k2,k3,k4⟩:=JC.out.five
   obtain ⟨j0,j1,j2,j3,j4⟩:=JG.1.five
   by_cases hlt:i<cnt
   · have HLd:=qH (show ((cc::l0).drop at1).length=n-at1 from by rw [List.length_drop,HL.out])
     by_cases h4:kk=4
     · subst h4
       by_cases hsh:n-at1<2
       · have HSt:=qH (show pVal (cc::l0)=.error 10 from by
          rw [HVV.out,<-JR.out]
          refine Zie (by omega) ?_
          unfold step
          rw [if_neg (by omega)]
          have:Zbn ((cc::l0).drop at1)=.error 10:=by
           unfold Zbn
           rw [HLd.out,if_pos hsh]
          rw [this])
         go_wp2
         exact Zbe rfl rfl rfl HP.out HSt.out JB.out JS.out
       have HY:=qH (show Bytes _ F (some ⟨b,o+at1,none⟩) 2 (c-at1) (((cc::l0).drop at1).take 2) from by
        have h1:=HX.out.cut (j:=at1) (m:=at1+2) (by omega) (by omega)
        rw [if_neg (by omega),Option.map_some,ZbB,Nat.add_sub_cancel_left] at h1
        exact h1)
       have HLt:=qH (Zgu ((cc::l0).drop at1))
       have hdd:((cc::l0).drop at1).drop 2=(cc::l0).drop (at1+2):=List.drop_drop
       have HT:=qH (show Zbn ((cc::l0).drop at1)=if 1000<be (((cc::l0).drop at1).take 2) then .error 44 else if n-(at1+2)<be (((cc::l0).drop at1).take 2) then .error 10 else
        .ok (⟨(((cc::l0).drop (at1+2)).take (be (((cc::l0).drop at1).take 2))).toArray⟩,(cc::l0).drop (at1+2+be (((cc::l0).drop at1).take 2))) from by
        unfold Zbn
        rw [HLd.out,if_neg hsh,hdd,List.length_drop,HL.out,List.drop_drop])
       clear hdd
       generalize ((cc::l0).drop at1).take 2=Y at *
       go_wp2_with fail
       refine (Zgg _ HY.out (by omega)).mono ?_
       rintro e wv ⟨rfl,rfl⟩
       have hM:=HLt.out
       generalize be Y=M at *
       have herr:∀ er:Int,Zbn ((cc::l0).drop at1)=.error er->pVal (cc::l0)=.error er:=fun er h=>by
        rw [HVV.out,<-JR.out]
        refine Zie (by omega) ?_
        unfold step
        rw [if_neg (by omega),h]
       have HErr:=qH herr
       clear herr
       by_cases hbig:1000<M
       · have HSt:=qH (HErr.out _ (HT.out.trans (if_pos hbig)))
         go_wp2
         exact Zbe rfl rfl rfl HP.out HSt.out JB.out JS.out
       have HT2:=qH (HT.out.trans (if_neg hbig))
       by_cases hs2:n-(at1+2)<M
       · have HSt:=qH (HErr.out _ (HT2.out.trans (if_pos hs2)))
         go_wp2
         exact Zbe rfl rfl rfl HP.out HSt.out JB.out JS.out
       have HT3:=qH (HT2.out.trans (if_neg hs2))
       have hcut:=HX.out.cut (j:=at1+2) (m:=at1+2+M) (by omega) (by omega)
       rw [Nat.add_sub_cancel_left,Option.map_some,ZbB] at hcut
       by_cases hce:c=at1+2
       · rw [if_pos hce,show c-(at1+2)=0 by omega] at hcut
         have hconv:=Zay hcut
         clear hcut
         subst hce
         generalize (⟨(((cc::l0).drop (at1+2)).take M).toArray⟩:ByteArray)=T at *
         by_cases h4N:4<N
         · have HRn:=qH (show run N 4 (cnt-(i+1)) ((cc::l0).drop (at1+2+M)) ⟨gkind,gnum,gtext,gnums,gtexts++[T]⟩=V from by
            rw [<- JR.out,Zhu (K:=N) (kk:=4) (m:=cnt-i) (g':=⟨gkind,gnum,gtext,gnums,gtexts++[T]⟩) (r:=(cc::l0).drop (at1+2+M)) (by omega) (by
             unfold step
             rw [if_neg (by omega),HT3.out]
             simp only [if_pos (show (4:Int)<N by omega)])]
            rw [Nat.sub_sub])
           have HNE:=qH (JG.1.ne_own JO2.out (by decide))
           have hl1:=JL.2
           have hszr:=JS.out.size
           go_wp2_with (at_builtin;go_must (refine Zaf rfl (.tmp 128) (.tmp 130) _ _ rfl w.heap.size 9 1 16 _ Tryz.underlying40 Zax rfl (.slice A2 m2 q2) gtexts.length _ rfl (JO2.out.alloc _) rfl (Zan Tryz.underlying40 (Row.one _ _ _) (by simp [Value.oneCell'])) (by unfold maxLen;omega) (by omega) (by simp;omega) ?_);intro v' w5 hg;obtain ⟨A',m',c',rfl⟩:=Zas hg.own;have s1:w5.cell? ⟨w.heap.size+2,4,none⟩=some (.slice A2 m2 q2):=(hg.blk (JG.1.alloc _) HNE.out).cell 4;have s2:w5.frozen? ⟨w.heap.size+2,4,none⟩=false:=(hg.blk (JG.1.alloc _) HNE.out).frozen 4;have HG:=qH hg;clear hg)
           go_roundw
           case rel =>
            obtain ⟨f1,f2,f3⟩:=Zci (i:=4) JG.1 JO2.out (by decide) ((Upd.refl _ wr).alloc _) HG.out
            obtain ⟨r1,r2,r3⟩:=Zcy f3 JO2.out (by decide) JB.out JC.out JS.out
            have hl:=JL.out
            exact ⟨i+1,at1+2+M,⟨gkind,gnum,gtext,gnums,gtexts++[T]⟩,_,_,by go_num,by go_num,by omega,by omega,HRn,qH ⟨by simp only;omega,by simp;omega⟩,qH ⟨f1,JG.2⟩,qH r1,qH r2,qH (Zgz f3 JO2.out JO1.out JG.1 (by decide) (by decide)),qH (by simp only [List.length_append,List.length_singleton,List.map_append,List.map_cons,List.map_nil];exact f2),qH r3⟩
           case measure=>simp [intOf];omega
         have HRn:=qH (show run N 4 (cnt-(i+1)) ((cc::l0).drop (at1+2+M)) ⟨gkind,gnum,T,gnums,gtexts⟩=V from by
          rw [<- JR.out,Zhu (K:=N) (kk:=4) (m:=cnt-i) (g':=⟨gkind,gnum,T,gnums,gtexts⟩) (r:=(cc::l0).drop (at1+2+M)) (by omega) (by
           unfold step
           rw [if_neg (by omega),HT3.out]
           simp only [if_neg (show ¬ (4:Int)<N by omega)])]
          rw [Nat.sub_sub])
         have s2:=JG.1.frozen 2
         go_wp2
         go_roundw
         case rel =>
          have f3:Upd (fun b=>b=w.heap.size+2\/(Value.slice A1 m1 q1).ownBlock=some b) wr (wr.setCell ⟨w.heap.size+2,2,none⟩ (.string T)):=(Upd.refl _ wr).put (.inl rfl) _
          have f4:Upd (fun b=>b=w.heap.size+2) wr (wr.setCell ⟨w.heap.size+2,2,none⟩ (.string T)):=(Upd.refl _ wr).put1 _
          obtain ⟨r1,r2,r3⟩:=Zcy f3 JO1.out (by decide) JB.out JC.out JS.out
          have hl:=JL.out
          exact ⟨i+1,at1+2+M,⟨gkind,gnum,T,gnums,gtexts⟩,_,_,by go_num,by go_num,by omega,by omega,HRn,qH ⟨by simp only;omega,by simp only;omega⟩,qH ⟨JG.1.put 2 _,JG.2⟩,qH r1,qH r2,qH (Zai JO1.out f4 fun g hg hh=>JG.1.ne_own JO1.out (by decide) (hh ▸ hg)),qH (Zai JO2.out f4 fun g hg hh=>JG.1.ne_own JO2.out (by decide) (hh ▸ hg)),qH r3⟩
         case measure=>simp [intOf];omega
       rw [if_neg hce] at hcut
       have hconv:=Zay hcut
       clear hcut
       generalize (⟨(((cc::l0).drop (at1+2)).take M).toArray⟩:ByteArray)=T at *
       by_cases h4N:4<N
       · have HRn:=qH (show run N 4 (cnt-(i+1)) ((cc::l0).drop (at1+2+M)) ⟨gkind,gnum,gtext,gnums,gtexts++[T]⟩=V from by
          rw [<- JR.out,Zhu (K:=N) (kk:=4) (m:=cnt-i) (g':=⟨gkind,gnum,gtext,gnums,gtexts++[T]⟩) (r:=(cc::l0).drop (at1+2+M)) (by omega) (by
           unfold step
           rw [if_neg (by omega),HT3.out]
           simp only [if_pos (show (4:Int)<N by omega)])]
          rw [Nat.sub_sub])
         have HNE:=qH (JG.1.ne_own JO2.out (by decide))
         have hl1:=JL.2
         have hszr:=JS.out.size
         go_wp2_with (at_builtin;go_must (refine Zaf rfl (.tmp 128) (.tmp 130) _ _ rfl w.heap.size 9 1 16 _ Tryz.underlying40 Zax rfl (.slice A2 m2 q2) gtexts.length _ rfl (JO2.out.alloc _) rfl (Zan Tryz.underlying40 (Row.one _ _ _) (by simp [Value.oneCell'])) (by unfold maxLen;omega) (by omega) (by simp;omega) ?_);intro v' w5 hg;obtain ⟨A',m',c',rfl⟩:=Zas hg.own;have s1:w5.cell? ⟨w.heap.size+2,4,none⟩=some (.slice A2 m2 q2):=(hg.blk (JG.1.alloc _) HNE.out).cell 4;have s2:w5.frozen? ⟨w.heap.size+2,4,none⟩=false:=(hg.blk (JG.1.alloc _) HNE.out).frozen 4;have HG:=qH hg;clear hg)
         go_roundw
         case rel =>
          obtain ⟨f1,f2,f3⟩:=Zci (i:=4) JG.1 JO2.out (by decide) ((Upd.refl _ wr).alloc _) HG.out
          obtain ⟨r1,r2,r3⟩:=Zcy f3 JO2.out (by decide) JB.out JC.out JS.out
          have hl:=JL.out
          exact ⟨i+1,at1+2+M,⟨gkind,gnum,gtext,gnums,gtexts++[T]⟩,_,_,by go_num,by go_num,by omega,by omega,HRn,qH ⟨by simp only;omega,by simp;omega⟩,qH ⟨f1,JG.2⟩,qH r1,qH r2,qH (Zgz f3 JO2.out JO1.out JG.1 (by decide) (by decide)),qH (by simp only [List.length_append,List.length_singleton,List.map_append,List.map_cons,List.map_nil];exact f2),qH r3⟩
         case measure=>simp [intOf];omega
       have HRn:=qH (show run N 4 (cnt-(i+1)) ((cc::l0).drop (at1+2+M)) ⟨gkind,gnum,T,gnums,gtexts⟩=V from by
        rw [<- JR.out,Zhu (K:=N) (kk:=4) (m:=cnt-i) (g':=⟨gkind,gnum,T,gnums,gtexts⟩) (r:=(cc::l0).drop (at1+2+M)) (by omega) (by
         unfold step
         rw [if_neg (by omega),HT3.out]
         simp only [if_neg (show ¬ (4:Int)<N by omega)])]
        rw [Nat.sub_sub])
       have s2:=JG.1.frozen 2
       go_wp2
       go_roundw
       case rel =>
        have f3:Upd (fun b=>b=w.heap.size+2\/(Value.slice A1 m1 q1).ownBlock=some b) wr (wr.setCell ⟨w.heap.size+2,2,none⟩ (.string T)):=(Upd.refl _ wr).put (.inl rfl) _
        have f4:Upd (fun b=>b=w.heap.size+2) wr (wr.setCell ⟨w.heap.size+2,2,none⟩ (.string T)):=(Upd.refl _ wr).put1 _
        obtain ⟨r1,r2,r3⟩:=Zcy f3 JO1.out (by decide) JB.out JC.out JS.out
        have hl:=JL.out
        exact ⟨i+1,at1+2+M,⟨gkind,gnum,T,gnums,gtexts⟩,_,_,by go_num,by go_num,by omega,by omega,HRn,qH ⟨by simp only;omega,by simp only;omega⟩,qH ⟨JG.1.put 2 _,JG.2⟩,qH r1,qH r2,qH (Zai JO1.out f4 fun g hg hh=>JG.1.ne_own JO1.out (by decide) (hh ▸ hg)),qH (Zai JO2.out f4 fun g hg hh=>JG.1.ne_own JO2.out (by decide) (hh ▸ hg)),qH r3⟩
       case measure=>simp [intOf];omega
     have hk4':(kk==4)=false:=by rw [beq_eq_false_iff_ne];exact h4
     have HK:=qH (show kk<4 by omega)
     go_upto_if 58 with fail
     go_cut [11] from 57 to 134 (fun s11 wx=>wx=wr/\∃ Wd:Nat,s11=.int .i64 Wd/\1<=Wd/\Wd<=8/\Hid (Wd=if kk=1 then 1 else 8))
     case first =>
      by_cases h1:kk=1
      · subst h1
        go_wp2
        go_meet
        case rel=>exact ⟨rfl,1,rfl,by omega,by omega,qH rfl⟩
      have h1':(kk==1)=false:=by rw [beq_eq_false_iff_ne];exact h1
      go_wp2
      go_meet
      case rel=>exact ⟨rfl,8,rfl,by omega,by omega,qH (if_neg h1).symm⟩
     obtain ⟨rfl,Wd,rfl,hw1,hw8,HWd⟩:=hcut
     by_cases hsh:n-at1<Wd
     · have HSt:=qH (show pVal (cc::l0)=.error 10 from by
        rw [HVV.out,<-JR.out]
        refine Zie (by omega) ?_
        unfold step
        rw [if_pos HK.out]
        have:pNum kk ((cc::l0).drop at1)=.error 10:=by
         unfold pNum
         rw [HLd.out,<-HWd.out,if_pos hsh]
        rw [this])
       go_wp2
       exact Zbe rfl rfl rfl HP.out HSt.out JB.out JS.out
     have HY:=qH (show Bytes _ F (some ⟨b,o+at1,none⟩) Wd (c-at1) (((cc::l0).drop at1).take Wd) from by
      have h1:=HX.out.cut (j:=at1) (m:=at1+Wd) (by omega) (by omega)
      rw [if_neg (by omega),Option.map_some,ZbB,Nat.add_sub_cancel_left] at h1
      exact h1)
     have HLt:=qH (ZdQ ((cc::l0).drop at1) Wd hw8)
     have HNum:=qH (show pNum kk ((cc::l0).drop at1)=if Zaq kk (i64 (be (((cc::l0).drop at1).take Wd)))≠0 then .error (Zaq kk (i64 (be (((cc::l0).drop at1).take Wd)))) else .ok (i64 (be (((cc::l0).drop at1).take Wd)),((cc::l0).drop at1).drop Wd) from by
      unfold pNum
      rw [<- HWd.out,HLd.out,if_neg hsh])
     generalize ((cc::l0).drop at1).take Wd=Y at *
     have hwr:=Zia (be Y) HLt.out
     have hdd:((cc::l0).drop at1).drop Wd=(cc::l0).drop (at1+Wd):=List.drop_drop
     rw [hdd] at HNum
     clear hdd
     go_wp2_with fail
     refine (Zgg _ HY.out hw8).mono ?_
     rintro e wv ⟨rfl,rfl⟩
     go_wp2_with fail
     refine (Zdc kk _ _).mono ?_
     rintro e wv ⟨rfl,rfl⟩
     generalize i64 (be Y)=X at *
     generalize Zaq kk X=Er at *
     by_cases he:Er=0
     · subst he
       have HP1:=qH (HNum.out.trans (if_neg (by simp)))
       by_cases h4N:4<N
       · have HRn:=qH (show run N kk (cnt-(i+1)) ((cc::l0).drop (at1+Wd)) ⟨gkind,gnum,gtext,gnums++[X],gtexts⟩=V from by
          rw [<- JR.out,Zhu (K:=N) (kk:=kk) (m:=cnt-i) (g':=⟨gkind,gnum,gtext,gnums++[X],gtexts⟩) (r:=(cc::l0).drop (at1+Wd)) (by omega) (by
           unfold step
           rw [if_pos HK.out,HP1.out]
           simp only [if_pos (show (4:Int)<N by omega)])]
          rw [Nat.sub_sub])
         have HNE:=qH (JG.1.ne_own JO1.out (by decide))
         have hl1:=JL.1
         have hszr:=JS.out.size
         go_wp2_with (at_builtin;go_must (refine Zaf rfl (.tmp 92) (.tmp 95) _ _ rfl w.heap.size 2 1 8 _ Tryz.underlying44 Zib rfl (.slice A1 m1 q1) gnums.length _ rfl (JO1.out.alloc _) rfl (Zan Tryz.underlying44 (Row.one _ _ _) (by simp [Value.oneCell'])) (by unfold maxLen;omega) (by omega) (by simp;omega) ?_);intro v' w5 hg;obtain ⟨A',m',c',rfl⟩:=Zas hg.own;have s1:w5.cell? ⟨w.heap.size+2,3,none⟩=some (.slice A1 m1 q1):=(hg.blk (JG.1.alloc _) HNE.out).cell 3;have s2:w5.frozen? ⟨w.heap.size+2,3,none⟩=false:=(hg.blk (JG.1.alloc _) HNE.out).frozen 3;have HG:=qH hg;clear hg)
         go_roundw
         case rel =>
          obtain ⟨f1,f2,f3⟩:=Zci (i:=3) JG.1 JO1.out (by decide) ((Upd.refl _ wc).alloc _) HG.out
          obtain ⟨r1,r2,r3⟩:=Zcy f3 JO1.out (by decide) JB.out JC.out JS.out
          have hl:=JL.out
          exact ⟨i+1,at1+Wd,⟨gkind,gnum,gtext,gnums++[X],gtexts⟩,_,_,by go_num,by go_num,by omega,by omega,HRn,qH ⟨by simp;omega,by simp only;omega⟩,qH ⟨f1,JG.2⟩,qH r1,qH r2,qH (by simp only [List.length_append,List.length_singleton,List.map_append,List.map_cons,List.map_nil];exact f2),qH (Zgz f3 JO1.out JO2.out JG.1 (by decide) (by decide)),qH r3⟩
         case measure=>simp [intOf];omega
       have HRn:=qH (show run N kk (cnt-(i+1)) ((cc::l0).drop (at1+Wd)) ⟨gkind,X,gtext,gnums,gtexts⟩=V from by
        rw [<- JR.out,Zhu (K:=N) (kk:=kk) (m:=cnt-i) (g':=⟨gkind,X,gtext,gnums,gtexts⟩) (r:=(cc::l0).drop (at1+Wd)) (by omega) (by
         unfold step
         rw [if_pos HK.out,HP1.out]
         simp only [if_neg (show ¬ (4:Int)<N by omega)])]
        rw [Nat.sub_sub])
       have s2:=JG.1.frozen 1
       go_wp2
       go_roundw
       case rel =>
        have f3:Upd (fun b=>b=w.heap.size+2\/(Value.slice A1 m1 q1).ownBlock=some b) wc (wc.setCell ⟨w.heap.size+2,1,none⟩ (.int .i64 X)):=(Upd.refl _ wc).put (.inl rfl) _
        have f4:Upd (fun b=>b=w.heap.size+2) wc (wc.setCell ⟨w.heap.size+2,1,none⟩ (.int .i64 X)):=(Upd.refl _ wc).put1 _
        obtain ⟨r1,r2,r3⟩:=Zcy f3 JO1.out (by decide) JB.out JC.out JS.out
        have hl:=JL.out
        exact ⟨i+1,at1+Wd,⟨gkind,X,gtext,gnums,gtexts⟩,_,_,by go_num,by go_num,by omega,by omega,HRn,qH ⟨by simp only;omega,by simp only;omega⟩,qH ⟨JG.1.put 1 _,JG.2⟩,qH r1,qH r2,qH (Zai JO1.out f4 fun g hg hh=>JG.1.ne_own JO1.out (by decide) (hh ▸ hg)),qH (Zai JO2.out f4 fun g hg hh=>JG.1.ne_own JO2.out (by decide) (hh ▸ hg)),qH r3⟩
       case measure=>simp [intOf];omega
     have HP1:=qH (HNum.out.trans (if_pos he))
     have hne:(Er != 0)=true:=by simpa using he
     have HSt:=qH (show pVal (cc::l0)=.error Er from by
      rw [HVV.out,<-JR.out]
      refine Zie (by omega) ?_
      unfold step
      rw [if_pos HK.out,HP1.out])
     go_wp2
     exact Zbe rfl rfl rfl HP.out HSt.out JB.out JS.out
   have hic:i=cnt:=by omega
   have HD:=qH (show P=(⟨gkind,gnum,gtext,gnums,gtexts⟩,at1,0) from by
    rw [<- HP.out]
    have h1:=JR.out
    rw [hic,Nat.sub_self] at h1
    have h2:=Zfc (HVV.out.trans h1.symm)
    rw [h2,List.length_drop,HL.out]
    congr 2
    omega)
   have HN1:=qH (JB.out.ne_own JO1.out (by decide))
   have HN2:=qH (JB.out.ne_own JO2.out (by decide))
   have HK2:=qH JG.2
   go_wp2
   refine Zgy rfl rfl rfl JB.out ⟨_,by rw [HD.out],by rw [HD.out];exact ⟨_,_,by rw [<- HK2.out],Zai JO1.out ((Upd.refl (fun b=>b=w.heap.size) _).put5 _ _ _ _ _) (fun g hg e=>HN1.out (e ▸ hg)),Zai JO2.out ((Upd.refl (fun b=>b=w.heap.size) _).put5 _ _ _ _ _) (fun g hg e=>HN2.out (e ▸ hg))⟩,JS.out.trans ((Upd.refl (fun b=>b=w.heap.size) _).put5 _ _ _ _ _) fun b hb hh=>by omega⟩
theorem Zeq {tmps:Array Value} {wE:World} {B:Nat} {a0 a1 a2 a3 a4 u0 u1 u2 u3 u4:Value} {ee:Int} {R:Ending->World->Prop} (h2:tmps.getD 2 undef=.pointer (some ⟨B,0,none⟩)) (h3:tmps.getD 3 undef=.int .i64 ee)
 (hb:Blk wE B 46 #[a0,a1,a2,a3,a4]) (hR:R (.returned (.tuple #[.agg #[u0,u1,u2,u3,u4],.int .i64 ee])) (put5 wE B u0 u1 u2 u3 u4)) :
 bodyPost Tryz.prog Tryz.f160 R Exit.ret ⟨tmps,[]⟩ (put5 wE B u0 u1 u2 u3 u4):=by
 obtain ⟨r0,r1,r2,r3,r4⟩:=(hb.put5 u0 u1 u2 u3 u4).five
 generalize put5 wE B u0 u1 u2 u3 u4=W at *
 refine bodyPost_ret (v:=.tuple #[.agg #[u0,u1,u2,u3,u4],.int .i64 ee]) ?_ rfl hR
 simp only [Array.getD_eq_getD_getElem?] at h2 h3
 simp [results,Tryz.results160,go_sem,h2,h3,r0,r1,r2,r3,r4]
theorem Zpt (l:List UInt8):(decP l).2.1<=l.length:=by
 unfold decP
 split
 · exact Nat.zero_le _
 exact Nat.sub_le _ _
theorem ZiM {F:Nat->Prop} {A:Option Addr} {n c:Nat} {bs:List UInt8} (w:World) (hb:Bytes w F A n c bs) (D:GVal×Int) (hD:decD n (decP bs)=D) :
 Calls Tryz.prog 160 #[.slice A n c] w fun e w'=>∃ v,e=.returned (.tuple #[v,.int .i64 D.2])/\Zeh w' w.heap.size v D.1/\Same w w':=by
 have HB:=qH hb
 have hc0:=Row.le hb
 have hc1:=Row.max hb
 unfold maxLen at hc1
 have HD:=qH hD
 have hle:=Zpt bs
 rw [hb.len] at hle
 clear hb hD
 go_enter Tryz.func160,Tryz.ntmps160
 have hs0:=(Upd.refl (fun _=>False) w).alloc (.cells #[.int .i64 0,.int .i64 0,.string ⟨#[]⟩,.slice none 0 0,.slice none 0 0] 46)
 have hb0:=Blk.new w 46 #[.int .i64 0,.int .i64 0,.string ⟨#[]⟩,.slice none 0 0,.slice none 0 0]
 have HX:=qH (HB.out.same hs0)
 go_wp2_with fail
 refine (ZiL _ HX.out _ rfl).mono ?_
 rintro e w1 ⟨v,rfl,⟨v1,v2,rfl,ho1,ho2⟩,hs1⟩
 have hs2:=hs0.same hs1
 have hb1:=hb0.same hs1
 have hsz:=hs1.size
 rw [World.size_alloc] at ho1 ho2 hsz
 clear hs0 hb0 hs1
 generalize decP bs=P at *
 obtain ⟨⟨gk,gn,gt,gns,gts⟩,k,er⟩:=P
 simp only at ho1 ho2 hle
 obtain ⟨A1,m1,q1,rfl⟩:=Zas ho1
 obtain ⟨A2,m2,q2,rfl⟩:=Zas ho2
 have hs3:=hs2.alloc (.cells #[.int .i64 gk,.int .i64 gn,.string gt,.slice A1 m1 q1,.slice A2 m2 q2] 46)
 have hb2:=hb1.alloc (.cells #[.int .i64 gk,.int .i64 gn,.string gt,.slice A1 m1 q1,.slice A2 m2 q2] 46)
 have hb3:=Blk.new w1 46 #[.int .i64 gk,.int .i64 gn,.string gt,.slice A1 m1 q1,.slice A2 m2 q2]
 have hu:=(Upd.refl (fun _=>False) w1).alloc (.cells #[.int .i64 gk,.int .i64 gn,.string gt,.slice A1 m1 q1,.slice A2 m2 q2] 46)
 have ho3:=Zai ho1 hu fun _ _ f=>f
 have ho4:=Zai ho2 hu fun _ _ f=>f
 have HN1:=qH (hb2.ne_own ho3 (by decide))
 have HN2:=qH (hb2.ne_own ho4 (by decide))
 have HO1:=qH (Zae ho3 (Nat.le_succ _))
 have HO2:=qH (Zae ho4 (Nat.le_succ _))
 have HS:=qH hs3
 clear ho1 ho2 ho3 ho4 hs2 hs3 hb1 hu HX
 obtain ⟨b0,b1,b2,b3,b4⟩:=hb2.five
 obtain ⟨z0,z1,z2,z3,z4⟩:=hb2.five_free
 obtain ⟨k0,k1,k2,k3,k4⟩:=hb3.five
 clear hb3
 by_cases he:er=0
 · subst he
   by_cases hk:k<n
   · have HE:=qH (HD.out.symm.trans (if_pos ⟨rfl,hk⟩))
     have hne:((k:Int) != (n:Int))=true:=by rw [bne_iff_ne];omega
     go_wp2
     exact Zeq rfl rfl hb2 ⟨_,by rw [HE.out],by rw [HE.out];exact Zeh.none _ _,HS.out.trans ((Upd.refl (fun b=>b=w.heap.size) _).put5 _ _ _ _ _) fun b hb hh=>by omega⟩
   have HE:=qH (HD.out.symm.trans (if_neg (fun hh=>hk hh.2)))
   have hne:((k:Int) != (n:Int))=false:=by
    have:k=n:=by omega
    simp [this]
   go_wp2
   exact Zeq rfl rfl hb2 ⟨_,by rw [HE.out],by rw [HE.out];exact ⟨_,_,rfl,Zai HO1.out ((Upd.refl (fun b=>b=w.heap.size) _).put5 _ _ _ _ _) (fun g hg e=>HN1.out (e ▸ hg)),Zai HO2.out ((Upd.refl (fun b=>b=w.heap.size) _).put5 _ _ _ _ _) (fun g hg e=>HN2.out (e ▸ hg))⟩,HS.out.trans ((Upd.refl (fun b=>b=w.heap.size) _).put5 _ _ _ _ _) fun b hb hh=>by omega⟩
 have HE:=qH (HD.out.symm.trans (if_neg (fun hh=>he hh.1)))
 have he':(er==0)=false:=by rw [beq_eq_false_iff_ne];exact he
 go_wp2
 exact Zeq rfl rfl hb2 ⟨_,by rw [HE.out],by rw [HE.out];exact ⟨_,_,rfl,Zai HO1.out ((Upd.refl (fun b=>b=w.heap.size) _).put5 _ _ _ _ _) (fun g hg e=>HN1.out (e ▸ hg)),Zai HO2.out ((Upd.refl (fun b=>b=w.heap.size) _).put5 _ _ _ _ _) (fun g hg e=>HN2.out (e ▸ hg))⟩,HS.out.trans ((Upd.refl (fun b=>b=w.heap.size) _).put5 _ _ _ _ _) fun b hb hh=>by omega⟩
end Go.Proofs.YtkopcinhbjimiaaGreatDoor
