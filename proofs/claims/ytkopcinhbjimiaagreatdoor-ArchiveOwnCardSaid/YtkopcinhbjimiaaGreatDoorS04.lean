/- Texts that the claim leans on: walks and plain laws, function by function. -/
import Derived.StillTailTactics
import Derived.Deep.CutBlock
import Derived.Test.YtkopcinhbjimiaaGreatDoorS03
set_option maxRecDepth 100000
set_option maxHeartbeats 16000000
namespace Go.Proofs.YtkopcinhbjimiaaGreatDoor
open Go.RowKit
structure Pre {α:Type} (p:List UInt8->Except Int (α×List UInt8)) (count:Nat) (l:List UInt8) (i:Nat) (xs:List α) (rest:List UInt8):Prop where
 le:i<=count
 len:xs.length=i
 short:rest.length<=l.length
 eq:Zbu p count l=match Zbu p (count-i) rest with
  | .error e=>.error e
  | .ok (ys,r')=>.ok (xs++ys,r')
section
variable {α:Type} {p:List UInt8->Except Int (α×List UInt8)} {count i:Nat} {l rest:List UInt8} {xs:List α}
theorem Pre.zero (p:List UInt8->Except Int (α×List UInt8)) (count:Nat) (l:List UInt8):Pre p count l 0 [] l:=by
 refine ⟨Nat.zero_le _,rfl,Nat.le_refl _,?_⟩
 rw [Nat.sub_zero]
 cases Zbu p count l <;> rfl
theorem Pre.next (h:Pre p count l i xs rest) (hi:i<count) {x:α} {r2:List UInt8} (hp:p rest=.ok (x,r2)) (hs:r2.length<=rest.length):Pre p count l (i+1) (xs++[x]) r2:=by
 refine ⟨hi,by simp [h.len],Nat.le_trans hs h.short,?_⟩
 rw [h.eq,show count-i=(count-(i+1))+1 from by omega]
 simp only [Zbu,hp]
 cases Zbu p (count-(i+1)) r2 with
 | error e=>rfl
 | ok y=>obtain ⟨ys,r'⟩:=y;simp
theorem Pre.stop (h:Pre p count l i xs rest) (hi:i<count) {e:Int} (hp:p rest=.error e):Zbu p count l=.error e:=by
 rw [h.eq,show count-i=(count-(i+1))+1 from by omega]
 simp only [Zbu,hp]
theorem Pre.done (h:Pre p count l i xs rest) (hi:i=count):Zbu p count l=.ok (xs,rest):=by
 rw [h.eq,hi,Nat.sub_self]
 simp [Zbu]
end
theorem ZcH.ok {K:Int} {l:List UInt8} {n:Int} {s':RS} (h:ZcH K l n 0 s'):∃ r,pNum K l=.ok (n,r)/\s'=⟨r,0⟩:=by
 unfold ZcH at h
 split at h
 · exact absurd rfl h.2
 rename_i m r hp
 obtain ⟨_,rfl,rfl⟩:=h
 exact ⟨_,hp,rfl⟩
theorem ZcH.err {K:Int} {l:List UInt8} {n e:Int} {s':RS} (h:ZcH K l n e s') (he:e≠0):pNum K l=.error e:=by
 unfold ZcH at h
 split at h
 · rename_i e0 hp
   rw [hp,h.1]
 exact absurd h.1 he
theorem Zct.ok {l:List UInt8} {s:ByteArray} {s':RS} (h:Zct l s 0 s'):∃ r,ZbW l=.ok (s,r)/\s'=⟨r,0⟩:=by
 unfold Zct at h
 split at h
 · exact absurd rfl h.2
 rename_i m r hp
 obtain ⟨_,rfl,rfl⟩:=h
 exact ⟨_,hp,rfl⟩
theorem Zct.err {l:List UInt8} {s:ByteArray} {e:Int} {s':RS} (h:Zct l s e s') (he:e≠0):ZbW l=.error e:=by
 unfold Zct at h
 split at h
 · rename_i e0 hp
   rw [hp,h.1]
 exact absurd h.1 he
def Zdu (k:Int) (l:List UInt8) (B pv:Nat) (er:Int) (s':RS) (w':World):Prop :=
 match Zeu k l with
 | .error e0=>er=e0/\er≠0
 | .ok (g,r)=>er=0/\s'=⟨r,0⟩/\∃ v1 v2,Blk w' pv 46 #[.int .i64 k,.int .i64 0,.string ⟨#[]⟩,v1,v2] /\
    w'.ownsRow B 2 1 v1 g.nums.length (g.nums.map (Value.int .i64))/\w'.ownsRow B 9 1 v2 g.texts.length (g.texts.map Value.string)
theorem ZiE {w:World} {F:Nat->Prop} {r pv:Nat} {l:List UInt8} (h:Rdr w F r ⟨l,0⟩) (hF:¬ F r) (hl:l.length<=140737488355328) (kind:Int) (hk5:4<kind) (hk:kind<=8)
 (hv:Blk w pv 46 #[.int .i64 kind,.int .i64 0,.string ⟨#[]⟩,.slice none 0 0,.slice none 0 0]) (hne:pv≠r) (hFp:¬ F pv) (hFB:∀ b,F b->b<w.heap.size) :
 Calls Tryz.prog 200 #[.pointer (some ⟨r,0,none⟩),.pointer (some ⟨pv,0,none⟩)] w fun e w'=>∃ (er:Int) (s':RS),e=.returned (.int .i64 er)/\Zdu kind l w.heap.size pv er s' w'/\Rdr w' F r s'/\Upd (fun b=>b=r\/b=pv) w w':=by
 have HR:=qH h
 clear h
 cases hlc:l with
 | nil =>
   subst hlc
   have HP:Hid (Zeu kind []=.error 10):=qH rfl
   have hm:=Zbb HR.out hF 1
   have hx:=RS.num_short (l:=[]) (k:=1) rfl (by simp)
   rw [show ((1:Nat):Int)=1 from rfl] at hx
   rw [hx] at hm
   have HM:=qH hm
   clear hm hx
   go_enter Tryz.func200,Tryz.ntmps200
   go_wp2_with fail
   refine HM.out.mono ?_
   rintro e w1 ⟨rfl,hr,hu⟩
   have HR1:=qH hr
   have HU1:=qH (hu.mono (S':=fun b=>b=r\/b=pv) fun _ _ hh=>.inl hh)
   clear hr hu
   go_wp2_with fail
   refine (Zbm HR1.out).mono ?_
   rintro e w2 ⟨rfl,rfl⟩
   go_wp2
   go_ret
   exact ⟨_,_,rfl,by unfold Zdu;rw [HP.out];exact ⟨rfl,by decide⟩,HR1.out,HU1.out⟩
 | cons c l =>
   subst hlc
   have HP:=qH (show Zeu kind (c::l)=if 40<c.toNat then .error 45
    else if kind=8 then match Zbu ZbW c.toNat l with
     | .error e=>.error e
     | .ok (xs,r)=>.ok (⟨kind,0,⟨#[]⟩,[],xs⟩,r)
    else match Zbu (pNum (kind-4)) c.toNat l with
     | .error e=>.error e
     | .ok (xs,r)=>.ok (⟨kind,0,⟨#[]⟩,xs,[]⟩,r) from rfl)
   have hm:=Zbb HR.out hF 1
   have hx:=RS.num_ok (l:=c::l) (k:=1) rfl (by simp)
   rw [show ((1:Nat):Int)=1 from rfl] at hx
   rw [hx] at hm
   have hbe:be ((c::l).take 1)=c.toNat:=by simp [be]
   rw [hbe] at hm
   have HM:=qH hm
   have hc:=c.toNat_lt
   have hl':l.length<=140737488355328:=by simp at hl;omega
   clear hm hx hbe hl
   generalize c.toNat=N at *
   by_cases hbig:40<N
   · have HP1:=qH (HP.out.trans (if_pos hbig))
     go_enter Tryz.func200,Tryz.ntmps200
     go_wp2_with fail
     refine HM.out.mono ?_
     rintro e w1 ⟨rfl,hr,hu⟩
     have HR1:=qH hr
     have HU1:=qH (hu.mono (S':=fun b=>b=r\/b=pv) fun _ _ hh=>.inl hh)
     clear hr hu
     go_wp2_with fail
     refine (Zbm HR1.out).mono ?_
     rintro e w2 ⟨rfl,rfl⟩
     go_wp2
     go_ret
     exact ⟨_,_,rfl,by unfold Zdu;rw [HP1.out];exact ⟨rfl,by decide⟩,HR1.out,HU1.out⟩
   have HP1:=qH (HP.out.trans (if_neg hbig))
   go_enter Tryz.func200,Tryz.ntmps200
   go_wp2_with fail
   refine HM.out.mono ?_
   rintro e w1 ⟨rfl,hr,hu⟩
   have HR1:=qH (show Rdr w1 F r ⟨l,0⟩ from hr)
   have HU1:=qH (hu.mono (S':=fun b=>b=r\/b=pv) fun _ _ hh=>.inl hh)
   have hv1:=hv.upd hu hne
   clear hr hu
   go_wp2_with fail
   refine (Zbm HR1.out).mono ?_
   rintro e w2 ⟨rfl,rfl⟩
   by_cases h8:kind=8
   · have HP2:=qH (HP1.out.trans (if_pos h8))
     have h8':(kind==8)=true:=by simpa using h8
     have H8:=qH h8
     have hrw:=HR1.out.lt
     have hsz:=HU1.out.size
     clear h8
     go_wp2
     go_loopw [22] (fun i wr=>∃ (i0:Nat) (xs:List ByteArray) (rest:List UInt8) (v:Value),i0<=N/\i=.int .i64 i0/\Hid (Pre ZbW N l i0 xs rest)/\Hid (Rdr wr F r ⟨rest,0⟩) /\
      Hid (Blk wr pv 46 #[.int .i64 kind,.int .i64 0,.string ⟨#[]⟩,.slice none 0 0,v])/\Hid (wr.ownsRow w.heap.size 9 1 v i0 (xs.map Value.string))/\Hid (Upd (fun b=>b=r\/b=pv) w wr)) (fun i _=>N-(intOf i).toNat)
     case atStart=>exact ⟨0,[],l,_,Nat.zero_le _,rfl,qH (Pre.zero _ _ _),HR1,qH hv1,qH (World.ownsRow_nil _ _ _ _),HU1⟩
     obtain ⟨i0,xs,rest,v,hi,rfl,JP,JR,JB,JO,JU⟩:=hrel
     clear hv1 HR1 HU1 hrw hsz
     have hrw:=JB.out.lt
     have hsz:=JU.out.size
     have e0:wr.cell? ⟨pv,0,none⟩=some (.int .i64 kind):=JB.out.cell 0
     by_cases hlt:i0<N
     · have HR2:=JR
       have hl2:rest.length<=140737488355328:=Nat.le_trans JP.out.short hl'
       go_wp2_with fail
       refine (Zfv HR2.out hF hl2).mono ?_
       rintro e w3 ⟨x,er,s',rfl,hres,hr3,hu3⟩
       have HRes:=qH hres
       have HR3:=qH hr3
       have HU3:=qH hu3
       have hle3:=hu3.size
       clear hres hr3 hu3
       by_cases hz:er=0
       · subst hz
         have JB3:=qH (JB.out.upd HU3.out hne)
         have JO3:=qH (Zam JO.out HU3.out fun g hg hh=>by
          obtain ⟨A,n,c,hb,_⟩:=JR.out
          exact hb.ne_own JO.out (by decide) (hh ▸ hg))
         obtain ⟨A,m,c,rfl⟩:=Zav JO3.out
         have HNE:=qH (JB3.out.ne_own JO3.out (by decide))
         have b4:w3.cell? ⟨pv,4,none⟩=some (.slice A m c):=JB3.out.cell 4
         go_wp2_with (at_builtin;go_must (refine Zag rfl (.tmp 41) (.tmp 43) _ _ rfl w.heap.size 9 1 16 _ Tryz.underlying40 ZaA rfl (.slice A m c) i0 _ rfl (JO3.out.alloc _) rfl (Zal Tryz.underlying40 (Row.one _ _ _) (by simp [Value.oneCell'])) (by unfold maxLen;omega) (by omega) (by simp;omega) ?_);intro v' w4 hg;obtain ⟨A',m',c',rfl⟩:=Zav hg.own;have s1:w4.cell? ⟨pv,4,none⟩=some (.slice A m c):=(hg.blk (JB3.out.alloc _) HNE.out).cell 4;have s2:w4.frozen? ⟨pv,4,none⟩=false:=(hg.blk (JB3.out.alloc _) HNE.out).frozen 4;have HG:=qH hg;clear hg)
         go_roundw
         case rel =>
          obtain ⟨f1,f2,f3⟩:=Zco (i:=4) JB3.out JO3.out (by decide) ((Upd.refl _ w3).alloc _) HG.out
          obtain ⟨r2,hp,rfl⟩:=HRes.out.ok
          refine ⟨i0+1,xs++[x],r2,_,by omega,by go_num,qH (JP.out.next hlt hp (Zeh hp)),qH (HR3.out.upd f3 ?_ ?_),qH f1,qH (by rw [List.map_append];exact f2),qH ((JU.out.trans (HU3.out.mono (S':=fun b=>b=r\/b=pv) fun _ _ hh=>.inl hh) fun _ _ hh=>hh).trans f3 ?_)⟩
          · rintro (hh | hh)
            · exact hne hh.symm
            obtain ⟨A0,n0,c0,hb0,_⟩:=HR3.out
            exact hb0.ne_own JO3.out (by decide) hh
          · rintro b hb (hh | hh)
            · exact hFp (hh ▸ hb)
            have:=hFB b hb;have:=(JO3.out.lt b hh).1;omega
          rintro b hb (hh | hh)
          · exact .inr hh
          have:=(JO3.out.lt b hh).1
          omega
         case measure=>simp [intOf];omega
       have hz':(er != 0)=true:=by simpa using hz
       have HZ:=qH hz
       clear hz
       go_wp2
       go_ret
       refine ⟨er,s',rfl,?_,HR3.out,JU.out.trans (HU3.out.mono (S':=fun b=>b=r\/b=pv) fun _ _ hh=>.inl hh) fun _ _ hh=>hh⟩
       unfold Zdu
       rw [HP2.out,JP.out.stop hlt (HRes.out.err HZ.out)]
       exact ⟨rfl,HZ.out⟩
     have hiN:i0=N:=by omega
     have HD:=qH (JP.out.done hiN)
     clear hiN
     go_wp2
     go_ret
     refine ⟨0,_,rfl,?_,JR.out,JU.out⟩
     unfold Zdu
     rw [HP2.out,HD.out]
     exact ⟨rfl,rfl,⟨.slice none 0 0,_,JB.out,World.ownsRow_nil _ _ _ _,by have h1:=JO.out;rw [<- JP.out.len] at h1;exact h1⟩⟩
   have HP2:=qH (HP1.out.trans (if_neg h8))
   have h8':(kind==8)=false:=by simpa using h8
   have H8:=qH h8
   have HBK:=qH (show ZbA kind=kind-4 from by unfold ZbA;rw [if_pos hk5])
   have hrw:=HR1.out.lt
   have hsz:=HU1.out.size
   clear h8
   go_wp2
   go_loopw [22] (fun i wr=>∃ (i0:Nat) (xs:List Int) (rest:List UInt8) (v:Value),i0<=N/\i=.int .i64 i0/\Hid (Pre (pNum (kind-4)) N l i0 xs rest)/\Hid (Rdr wr F r ⟨rest,0⟩) /\
    Hid (Blk wr pv 46 #[.int .i64 kind,.int .i64 0,.string ⟨#[]⟩,v,.slice none 0 0])/\Hid (wr.ownsRow w.heap.size 2 1 v i0 (xs.map (Value.int .i64)))/\Hid (Upd (fun b=>b=r\/b=pv) w wr)) (fun i _=>N-(intOf i).toNat)
   case atStart=>exact ⟨0,[],l,_,Nat.zero_le _,rfl,qH (Pre.zero _ _ _),HR1,qH hv1,qH (World.ownsRow_nil _ _ _ _),HU1⟩
   obtain ⟨i0,xs,rest,v,hi,rfl,JP,JR,JB,JO,JU⟩:=hrel
   clear hv1 HR1 HU1 hrw hsz
   have hrw:=JB.out.lt
   have hsz:=JU.out.size
   have e0:wr.cell? ⟨pv,0,none⟩=some (.int .i64 kind):=JB.out.cell 0
   by_cases hlt:i0<N
   · have HR2:=JR
     have hl2:rest.length<=140737488355328:=Nat.le_trans JP.out.short hl'
     go_wp2_with fail
     refine (Zgp HR2.out hF kind (by omega) (by omega)).mono ?_
     rintro e w3 ⟨x,er,s',rfl,hres,hr3,hu3⟩
     rw [HBK.out] at hres
     have HRes:=qH hres
     have HR3:=qH hr3
     have HU3:=qH hu3
     have hle3:=hu3.size
     clear hres hr3 hu3
     by_cases hz:er=0
     · subst hz
       have JB3:=qH (JB.out.upd HU3.out hne)
       have JO3:=qH (Zam JO.out HU3.out fun g hg hh=>by
        obtain ⟨A,n,c,hb,_⟩:=JR.out
        exact hb.ne_own JO.out (by decide) (hh ▸ hg))
       obtain ⟨A,m,c,rfl⟩:=Zav JO3.out
       have HNE:=qH (JB3.out.ne_own JO3.out (by decide))
       have b3:w3.cell? ⟨pv,3,none⟩=some (.slice A m c):=JB3.out.cell 3
       go_wp2_with (at_builtin;go_must (refine Zag rfl (.tmp 63) (.tmp 65) _ _ rfl w.heap.size 2 1 8 _ Tryz.underlying44 ZhY rfl (.slice A m c) i0 _ rfl (JO3.out.alloc _) rfl (Zal Tryz.underlying44 (Row.one _ _ _) (by simp [Value.oneCell'])) (by unfold maxLen;omega) (by omega) (by simp;omega) ?_);intro v' w4 hg;obtain ⟨A',m',c',rfl⟩:=Zav hg.own;have s1:w4.cell? ⟨pv,3,none⟩=some (.slice A m c):=(hg.blk (JB3.out.alloc _) HNE.out).cell 3;have s2:w4.frozen? ⟨pv,3,none⟩=false:=(hg.blk (JB3.out.alloc _) HNE.out).frozen 3;have HG:=qH hg;clear hg)
       go_roundw
       case rel =>
        obtain ⟨f1,f2,f3⟩:=Zco (i:=3) JB3.out JO3.out (by decide) ((Upd.refl _ w3).alloc _) HG.out
        obtain ⟨r2,hp,rfl⟩:=HRes.out.ok
        refine ⟨i0+1,xs++[x],r2,_,by omega,by go_num,qH (JP.out.next hlt hp (ZeW hp)),qH (HR3.out.upd f3 ?_ ?_),qH f1,qH (by rw [List.map_append];exact f2),qH ((JU.out.trans (HU3.out.mono (S':=fun b=>b=r\/b=pv) fun _ _ hh=>.inl hh) fun _ _ hh=>hh).trans f3 ?_)⟩
        · rintro (hh | hh)
          · exact hne hh.symm
          obtain ⟨A0,n0,c0,hb0,_⟩:=HR3.out
          exact hb0.ne_own JO3.out (by decide) hh
        · rintro b hb (hh | hh)
          · exact hFp (hh ▸ hb)
          have:=hFB b hb;have:=(JO3.out.lt b hh).1;omega
        rintro b hb (hh | hh)
        · exact .inr hh
        have:=(JO3.out.lt b hh).1
        omega
       case measure=>simp [intOf];omega
     have hz':(er != 0)=true:=by simpa using hz
     have HZ:=qH hz
     clear hz
     go_wp2
     go_ret
     refine ⟨er,s',rfl,?_,HR3.out,JU.out.trans (HU3.out.mono (S':=fun b=>b=r\/b=pv) fun _ _ hh=>.inl hh) fun _ _ hh=>hh⟩
     unfold Zdu
     rw [HP2.out,JP.out.stop hlt (HRes.out.err HZ.out)]
     exact ⟨rfl,HZ.out⟩
   have hiN:i0=N:=by omega
   have HD:=qH (JP.out.done hiN)
   clear hiN
   go_wp2
   go_ret
   refine ⟨0,_,rfl,?_,JR.out,JU.out⟩
   unfold Zdu
   rw [HP2.out,HD.out]
   exact ⟨rfl,rfl,⟨_,.slice none 0 0,JB.out,by have h1:=JO.out;rw [<- JP.out.len] at h1;exact h1,World.ownsRow_nil _ _ _ _⟩⟩
theorem Rdr.mono {w:World} {F F':Nat->Prop} {r:Nat} {s:RS} (h:Rdr w F r s) (hf:∀ b,b<w.heap.size->F b->F' b):Rdr w F' r s:=by
 obtain ⟨A,n,c,hb,hy⟩:=h
 exact ⟨A,n,c,hb,hy.mono hf⟩
theorem ZiF (n:Nat) (h:n<9223372036854775808):IntKind.i64.wrap (n:Int)=n:=by
 simp [IntKind.wrap,IntKind.bits,IntKind.signed];omega
theorem Rdr.drew {w:World} {F:Nat->Prop} {r:Nat} {s:RS} (h:Rdr w F r s):Rdr w.drew F r s:=h.same (Upd.refl _ w).drew
theorem Rdr.drew_put5 {w:World} {F:Nat->Prop} {r B:Nat} {s:RS} (h:Rdr w F r s) (hr:r≠B) (hf:∀ b,F b->b≠B) (u0 u1 u2 u3 u4:Value):Rdr (put5 w.drew B u0 u1 u2 u3 u4) F r s :=
 h.upd (((Upd.refl (fun b=>b=B) w).drew).put5 u0 u1 u2 u3 u4) hr hf
def SwRes (w:World) (F:Nat->Prop) (r pv:Nat) (l:List UInt8) (er:Int) (wx:World):Prop :=
 Same w wx/\Blk wx w.heap.size 46 #[.int .i64 0,.int .i64 0,.string ⟨#[]⟩,.slice none 0 0,.slice none 0 0] /\
 (er≠0/\pVal l=.error er\/er=0/\∃ g rest v1 v2,pVal l=.ok (g,rest)/\Rdr wx F r ⟨rest,0⟩/\Blk wx pv 46 #[.int .i64 g.kind,.int .i64 g.num,.string g.text,v1,v2] /\
   wx.ownsRow w.heap.size 2 1 v1 g.nums.length (g.nums.map (Value.int .i64))/\wx.ownsRow w.heap.size 9 1 v2 g.texts.length (g.texts.map Value.string))
theorem ZeX {tmps:Array Value} {wE:World} {B:Nat} {a0 a1 a2 a3 a4 u0 u1 u2 u3 u4:Value} {nn ee:Int} {R:Ending->World->Prop} (h2:tmps.getD 2 undef=.pointer (some ⟨B,0,none⟩)) (h3:tmps.getD 3 undef=.int .i64 nn) (h4:tmps.getD 4 undef=.int .i64 ee)
 (hb:Blk wE B 46 #[a0,a1,a2,a3,a4]) (hR:R (.returned (.tuple #[.agg #[u0,u1,u2,u3,u4],.int .i64 nn,.int .i64 ee])) (put5 wE B u0 u1 u2 u3 u4)) :
 bodyPost Tryz.prog Tryz.f197 R Exit.ret ⟨tmps,[]⟩ (put5 wE B u0 u1 u2 u3 u4):=by
 obtain ⟨r0,r1,r2,r3,r4⟩:=(hb.put5 u0 u1 u2 u3 u4).five
 generalize put5 wE B u0 u1 u2 u3 u4=W at *
 refine bodyPost_ret (v:=.tuple #[.agg #[u0,u1,u2,u3,u4],.int .i64 nn,.int .i64 ee]) ?_ rfl hR
 simp only [Array.getD_eq_getD_getElem?] at h2 h3 h4
 simp [results,Tryz.results197,go_sem,h2,h3,h4,r0,r1,r2,r3,r4]
theorem ZjS {F:Nat->Prop} {A:Option Addr} {n c:Nat} {bs:List UInt8} (w:World) (hb:Bytes w F A n c bs) (P:GVal×Nat×Int) (hP:decP (bs.take 40082)=P) :
 Calls Tryz.prog 197 #[.slice A n c] w fun e w'=>∃ v,e=.returned (.tuple #[v,.int .i64 (P.2.1:Int),.int .i64 P.2.2])/\ZiB w' w.heap.size v P.1/\Same w w':=by
 have HB:=qH hb
 have HP:=qH hP
 have hc0:=Row.le hb
 have hc1:=Row.max hb
 unfold maxLen at hc1
 clear hb hP
 go_enter Tryz.func197,Tryz.ntmps197
 go_upto_if 12 with fail
 go_cut [0] from 9 (fun x wx=>wx=w.alloc (.cells #[.int .i64 0,.int .i64 0,.string ⟨#[]⟩,.slice none 0 0,.slice none 0 0] 46)/\∃ n',x=.slice A n' c/\n'<=40082/\Hid (Bytes w F A n' c (bs.take 40082)))
 case first =>
  by_cases hbig:40082<n
  · go_wp2
    go_meet
    case rel=>exact ⟨rfl,_,rfl,Nat.le_refl _,qH (HB.out.head (by omega))⟩
  go_wp2
  go_meet
  case rel=>exact ⟨rfl,_,rfl,by omega,qH (by rw [List.take_of_length_le (by rw [HB.out.len];omega)];exact HB.out)⟩
 obtain ⟨rfl,m,rfl,hm,HX⟩:=hcut
 have HL:=qH HX.out.len
 generalize bs.take 40082=l at *
 have hs0:=(Upd.refl (fun _=>False) w).alloc (.cells #[.int .i64 0,.int .i64 0,.string ⟨#[]⟩,.slice none 0 0,.slice none 0 0] 46)
 have hb0:=Blk.new w 46 #[.int .i64 0,.int .i64 0,.string ⟨#[]⟩,.slice none 0 0,.slice none 0 0]
 have HX1:=qH (HX.out.same hs0)
 clear HB hc0 hc1
 go_wp2_with fail
 refine (ZcM HX1.out (by omega)).mono ?_
 rintro e w1 ⟨r,rfl,hr0,hr,hs1⟩
 have hs2:=hs0.same hs1
 have hb1:=hb0.same hs1
 rw [World.size_alloc] at hr0
 have HR:=qH (Rdr.mono (F':=fun b=>w.heap.size+1<=b/\b≠r/\b<w1.heap.size) hr fun b hlt hb=>⟨by have:=hb.1;simpa using this,hb.2,hlt⟩)
 have hrl:=hr.lt
 clear hs0 hb0 hs1 HX1 hr
 have hnum:=Zbb HR.out (fun hf=>hf.2.1 rfl) 1
 cases hl:l with
 | nil =>
   subst hl
   have HD:=qH (HP.out.symm.trans (Zey (l:=[]) rfl))
   have hx:=RS.num_short (l:=[]) (k:=1) rfl (by simp)
   rw [show ((1:Nat):Int)=1 from rfl] at hx
   rw [hx] at hnum
   have HN:=qH hnum
   clear hnum hx HP
   go_wp2_with fail
   refine HN.out.mono ?_
   rintro e w2 ⟨rfl,hr2,hu2⟩
   have hs3:Same w (w2.alloc (.cells #[.int .i64 0,.int .i64 0,.string ⟨#[]⟩,.slice none 0 0,.slice none 0 0] 46)):=(hs2.trans hu2 fun b hb hh=>by omega).alloc _
   have hb2:=(hb1.upd hu2 (by omega)).alloc (.cells #[.int .i64 0,.int .i64 0,.string ⟨#[]⟩,.slice none 0 0,.slice none 0 0] 46)
   have HR2:=qH (hr2.same ((Upd.refl _ w2).alloc (.cells #[.int .i64 0,.int .i64 0,.string ⟨#[]⟩,.slice none 0 0,.slice none 0 0] 46)))
   clear hs2 hb1 hu2 hr2
   go_wp2_with fail
   refine (Zbm HR2.out).mono ?_
   rintro e w3 ⟨rfl,rfl⟩
   obtain ⟨b0,b1,b2,b3,b4⟩:=hb2.five
   obtain ⟨z0,z1,z2,z3,z4⟩:=hb2.five_free
   go_wp2
   exact ZeX rfl rfl rfl hb2 ⟨_,by rw [HD.out];rfl,by rw [HD.out];exact ⟨_,_,rfl,World.ownsRow_nil _ _ _ _,World.ownsRow_nil _ _ _ _⟩,hs3.trans (Upd.put5 (Upd.refl _ _) _ _ _ _ _) fun b hb hh=>by omega⟩
 | cons cc l0 =>
   subst hl
   have hx:=RS.num_ok (l:=cc::l0) (k:=1) rfl (by simp)
   rw [show ((1:Nat):Int)=1 from rfl,show be ((cc::l0).take 1)=cc.toNat from by simp [be],List.drop_one,List.tail_cons] at hx
   rw [hx] at hnum
   have HN:=qH hnum
   have HPV:=qH (show pVal (cc::l0)=if cc.toNat<1\/8<cc.toNat then .error 40
    else if 4<cc.toNat then Zeu cc.toNat l0
    else if cc.toNat=4 then match ZbW l0 with
     | .error e=>.error e
     | .ok (s,r)=>.ok (⟨4,0,s,[],[]⟩,r)
    else match pNum cc.toNat l0 with
     | .error e=>.error e
     | .ok (n,r)=>.ok (⟨cc.toNat,n,⟨#[]⟩,[],[]⟩,r) from rfl)
   have hcc:=cc.toNat_lt
   have hll:l0.length+1=m:=by rw [<- HL.out];rfl
   have HLL:=qH hll
   have hl0:l0.length<=40081:=by omega
   clear hnum hx hll
   generalize cc.toNat=N at *
   go_wp2_with fail
   refine HN.out.mono ?_
   rintro e w2 ⟨rfl,hr2,hu2⟩
   have hs3:Same w (w2.alloc (.cells #[.int .i64 N,.int .i64 0,.string ⟨#[]⟩,.slice none 0 0,.slice none 0 0] 46)):=(hs2.trans hu2 fun b hb hh=>by omega).alloc _
   have hb2:=(hb1.upd hu2 (by omega)).alloc (.cells #[.int .i64 N,.int .i64 0,.string ⟨#[]⟩,.slice none 0 0,.slice none 0 0] 46)
   have hbv:=Blk.new w2 46 #[.int .i64 N,.int .i64 0,.string ⟨#[]⟩,.slice none 0 0,.slice none 0 0]
   have HR2:=qH (hr2.same ((Upd.refl _ w2).alloc (.cells #[.int .i64 N,.int .i64 0,.string ⟨#[]⟩,.slice none 0 0,.slice none 0 0] 46)))
   have hsz2:=hu2.size
   have hsz3:=hs2.size
   clear hs2 hb1 hu2 hr2
   go_wp2_with fail
   refine (Zbm HR2.out).mono ?_
   rintro e w3 ⟨rfl,rfl⟩
   go_upto_block 0 with fail
   have hszv:w.heap.size<w2.heap.size:=by omega
   have hrv:r<w2.heap.size:=by omega
   have hne:w2.heap.size≠r:=by omega
   go_cut [8] from 9 (fun s8 wx=>∃ er:Int,s8=.int .i64 er/\Hid (SwRes w (fun b=>w.heap.size+1<=b/\b≠r/\b<w1.heap.size) r w2.heap.size (cc::l0) er wx))
   case first =>
    have c0:World.cell? _ ⟨w2.heap.size,0,none⟩=some (.int .i64 N):=hbv.cell 0
    by_cases ha:N<1\/8<N
    · have HV:=qH (HPV.out.trans (if_pos ha))
      rcases ha with ha | ha
      · go_wp2
        go_meet
        case rel=>exact ⟨40,rfl,qH ⟨hs3,hb2,.inl ⟨by decide,HV.out⟩⟩⟩
      go_wp2
      go_meet
      case rel=>exact ⟨40,rfl,qH ⟨hs3,hb2,.inl ⟨by decide,HV.out⟩⟩⟩
    have HV1:=qH (HPV.out.trans (if_neg ha))
    by_cases h4:4<N
    · have HV2:=qH (HV1.out.trans (if_pos h4))
      go_wp2_with fail
      refine (ZiE HR2.out (fun hf=>hf.2.1 rfl) (by omega) (N:Int) (by omega) (by omega) hbv hne (fun hf=>by have:=hf.2.2;omega) (fun b hb=>by simp;have:=hb.2.2;omega)).mono ?_
      rintro e w4 ⟨er,s',rfl,hres,hr4,hu4⟩
      have HRes:=qH hres
      have HR4:=qH hr4
      have HU4:=qH hu4
      clear hres hr4 hu4
      go_wp2
      go_meet
      refine ⟨er,rfl,qH ⟨hs3.trans HU4.out fun b hb hh=>by omega,hb2.upd HU4.out (by omega),?_⟩⟩
      have h5:=HRes.out
      unfold Zdu at h5
      rw [HV2.out]
      split at h5
      · rename_i e0 hp
        left
        exact ⟨h5.2,by rw [hp,h5.1]⟩
      rename_i g rest hp
      right
      obtain ⟨rfl,rfl,v1,v2,q1,q2,q3⟩:=h5
      obtain ⟨t1,t2,t3⟩:=ZjQ hp
      refine ⟨rfl,g,rest,v1,v2,hp,HR4.out,?_,Zad q2 (by simp;omega),Zad q3 (by simp;omega)⟩
      rw [t1,t2,t3]
      exact q1
    have HV2:=qH (HV1.out.trans (if_neg h4))
    by_cases h44:N=4
    · have HV3:=qH (HV2.out.trans (if_pos h44))
      subst h44
      obtain ⟨_,_,c2,_,_⟩:=hbv.five
      have HBV:=qH hbv
      clear hbv
      go_wp2_with fail
      refine (Zfv HR2.out (fun hf=>hf.2.1 rfl) (by omega)).mono ?_
      rintro e w4 ⟨x,er,s',rfl,hres,hr4,hu4⟩
      have HRes:=qH hres
      have HR4:=qH hr4
      have HU4:=qH hu4
      have hb4:=HBV.out.upd hu4 hne
      have k2:w4.cell? ⟨w2.heap.size,2,none⟩=some (.string ⟨#[]⟩):=hb4.cell 2
      have z2:=hb4.frozen 2
      have HB4:=qH hb4
      clear hres hr4 hu4 hb4 c2
      go_wp2
      go_meet
      have hu5:Upd (fun b=>b=w2.heap.size) w4 (w4.setCell ⟨w2.heap.size,2,none⟩ (.string x)):=(Upd.refl _ w4).put1 _
      refine ⟨er,rfl,qH ⟨(hs3.trans HU4.out fun b hb hh=>by omega).trans hu5 fun b hb hh=>by omega,(hb2.upd HU4.out (by omega)).upd hu5 (by omega),?_⟩⟩
      have h5:=HRes.out
      unfold Zct at h5
      rw [HV3.out]
      split at h5
      · rename_i e0 hp
        left
        exact ⟨h5.2,by rw [hp,h5.1]⟩
      rename_i t rest hp
      right
      obtain ⟨rfl,rfl,rfl⟩:=h5
      refine ⟨rfl,_,rest,_,_,by rw [hp],HR4.out.upd hu5 (fun hh=>hne hh.symm) (fun b hb hh=>by have:=hb.2.2;omega),HB4.out.put 2 _,World.ownsRow_nil _ _ _ _,World.ownsRow_nil _ _ _ _⟩
    have HV3:=qH (HV2.out.trans (if_neg h44))
    have h44':((N:Int)==4)=false:=by rw [beq_eq_false_iff_ne];omega
    have HBV:=qH hbv
    clear hbv
    go_wp2_with fail
    refine (Zgp HR2.out (fun hf=>hf.2.1 rfl) (N:Int) (by omega) (by omega)).mono ?_
    rintro e w4 ⟨x,er,s',rfl,hres,hr4,hu4⟩
    rw [show ZbA (N:Int)=N from by unfold ZbA;rw [if_neg (by omega)]] at hres
    have HRes:=qH hres
    have HR4:=qH hr4
    have HU4:=qH hu4
    have hb4:=HBV.out.upd hu4 hne
    have k2:w4.cell? ⟨w2.heap.size,1,none⟩=some (.int .i64 0):=hb4.cell 1
    have z2:=hb4.frozen 1
    have HB4:=qH hb4
    clear hres hr4 hu4 hb4 c0
    go_wp2
    go_meet
    have hu5:Upd (fun b=>b=w2.heap.size) w4 (w4.setCell ⟨w2.heap.size,1,none⟩ (.int .i64 x)):=(Upd.refl _ w4).put1 _
    refine ⟨er,rfl,qH ⟨(hs3.trans HU4.out fun b hb hh=>by omega).trans hu5 fun b hb hh=>by omega,(hb2.upd HU4.out (by omega)).upd hu5 (by omega),?_⟩⟩
    have h5:=HRes.out
    unfold ZcH at h5
    rw [HV3.out]
    split at h5
    · rename_i e0 hp
      left
      exact ⟨h5.2,by rw [hp,h5.1]⟩
    rename_i t rest hp
    right
    obtain ⟨rfl,rfl,rfl⟩:=h5
    refine ⟨rfl,_,rest,_,_,by rw [hp],HR4.out.upd hu5 (fun hh=>hne hh.symm) (fun b hb hh=>by have:=hb.2.2;omega),HB4.out.put 1 _,World.ownsRow_nil _ _ _ _,World.ownsRow_nil _ _ _ _⟩
   obtain ⟨er,rfl,HSW⟩:=hcut
   obtain ⟨hsame,hbz,hcase⟩:=HSW.out
   rcases hcase with ⟨hne0,hpv⟩ | ⟨rfl,g,rest,v1,v2,hpv,hrd,hbg,ho1,ho2⟩
   · have HD:=qH (HP.out.symm.trans (Zey hpv))
     have hne':(er != 0)=true:=by simpa using hne0
     obtain ⟨b0,b1,b2,b3,b4⟩:=hbz.five
     obtain ⟨z0,z1,z2,z3,z4⟩:=hbz.five_free
     clear hb2 hbv hs3 hsame hpv hne0
     go_wp2
     exact ZeX rfl rfl rfl hbz ⟨_,by rw [HD.out];rfl,by rw [HD.out];exact ⟨_,_,rfl,World.ownsRow_nil _ _ _ _,World.ownsRow_nil _ _ _ _⟩,HSW.1.trans (Upd.put5 (Upd.refl _ _) _ _ _ _ _) fun b hb hh=>by omega⟩
   have HD:=qH (HP.out.symm.trans (Zgl hpv))
   obtain ⟨A1,m1,q1,rfl⟩:=Zav ho1
   obtain ⟨A2,m2,q2,rfl⟩:=Zav ho2
   have HN1:=qH (hbz.ne_own ho1 (by decide))
   have HN2:=qH (hbz.ne_own ho2 (by decide))
   have HO1:=qH ho1
   have HO2:=qH ho2
   have HRD:=qH hrd
   have HSA:=qH hsame
   have hlen:rest.length<=m:=by
    have h1:=Zho hpv
    have h2:=HL.out
    omega
   obtain ⟨gkind,gnum,gtext,gnums,gtexts⟩:=g
   simp only at hbg
   clear hb2 hbv hs3 hsame hpv ho1 ho2 hrd HSW
   obtain ⟨b0,b1,b2,b3,b4⟩:=hbz.five
   obtain ⟨z0,z1,z2,z3,z4⟩:=hbz.five_free
   obtain ⟨k0,k1,k2,k3,k4⟩:=hbg.five
   go_upto_region 17 with fail
   have HR1:=qH HRD.out.drew
   have HR2':=qH (HRD.out.drew_put5 (B:=w.heap.size) (by omega) (fun b hb=>by have:=hb.1;omega) (.int .i64 gkind) (.int .i64 gnum) (.string gtext) (.slice A1 m1 q1) (.slice A2 m2 q2))
   clear HR2
   go_region_with (go_at_call 203;first | refine (ZiC HR1.out).mono ?_ | refine (ZiC HR2'.out).mono ?_;rintro e w' ⟨rfl,rfl⟩)
   all_goals go_wp2
   all_goals have hbd:=hbz.drew
   all_goals have hn:((m:Int)-rest.length)=(((cc::l0).length-rest.length:Nat):Int):=by rw [HL.out];omega
   all_goals have hq:(cc::l0).length-rest.length<9223372036854775808:=by rw [HL.out];omega
   all_goals exact ZeX (wE:=wc.drew) rfl rfl rfl hbd ⟨_,by rw [HD.out,hn,ZiF _ hq],by rw [HD.out];exact ⟨_,_,rfl,Zam HO1.out ((Upd.refl (fun b=>b=w.heap.size) wc).drew.put5 _ _ _ _ _) (fun g hg e=>HN1.out (e ▸ hg)),Zam HO2.out ((Upd.refl (fun b=>b=w.heap.size) wc).drew.put5 _ _ _ _ _) (fun g hg e=>HN2.out (e ▸ hg))⟩,HSA.out.trans ((Upd.refl (fun b=>b=w.heap.size) wc).drew.put5 _ _ _ _ _) fun b hb hh=>by omega⟩
theorem ZiB.none (w:World) (B:Nat):ZiB w B (.agg #[.int .i64 0,.int .i64 0,.string ⟨#[]⟩,.slice none 0 0,.slice none 0 0]) Zof :=
 ⟨_,_,rfl,World.ownsRow_nil _ _ _ _,World.ownsRow_nil _ _ _ _⟩
theorem ZeY {tmps:Array Value} {wE:World} {B:Nat} {a0 a1 a2 a3 a4 u0 u1 u2 u3 u4:Value} {ee:Int} {R:Ending->World->Prop} (h2:tmps.getD 2 undef=.pointer (some ⟨B,0,none⟩)) (h3:tmps.getD 3 undef=.int .i64 ee)
 (hb:Blk wE B 46 #[a0,a1,a2,a3,a4]) (hR:R (.returned (.tuple #[.agg #[u0,u1,u2,u3,u4],.int .i64 ee])) (put5 wE B u0 u1 u2 u3 u4)) :
 bodyPost Tryz.prog Tryz.f189 R Exit.ret ⟨tmps,[]⟩ (put5 wE B u0 u1 u2 u3 u4):=by
 obtain ⟨r0,r1,r2,r3,r4⟩:=(hb.put5 u0 u1 u2 u3 u4).five
 generalize put5 wE B u0 u1 u2 u3 u4=W at *
 refine bodyPost_ret (v:=.tuple #[.agg #[u0,u1,u2,u3,u4],.int .i64 ee]) ?_ rfl hR
 simp only [Array.getD_eq_getD_getElem?] at h2 h3
 simp [results,Tryz.results189,go_sem,h2,h3,r0,r1,r2,r3,r4]
theorem ZjT {F:Nat->Prop} {A:Option Addr} {n c:Nat} {bs:List UInt8} (w:World) (hb:Bytes w F A n c bs) (D:GVal×Int) (hD:decD n (decP (bs.take 40082))=D) :
 Calls Tryz.prog 189 #[.slice A n c] w fun e w'=>∃ v,e=.returned (.tuple #[v,.int .i64 D.2])/\ZiB w' w.heap.size v D.1/\Same w w':=by
 have HB:=qH hb
 have hc0:=Row.le hb
 have hc1:=Row.max hb
 unfold maxLen at hc1
 have HD:=qH hD
 clear hb hD
 go_enter Tryz.func189,Tryz.ntmps189
 have hs0:=(Upd.refl (fun _=>False) w).alloc (.cells #[.int .i64 0,.int .i64 0,.string ⟨#[]⟩,.slice none 0 0,.slice none 0 0] 46)
 have hb0:=Blk.new w 46 #[.int .i64 0,.int .i64 0,.string ⟨#[]⟩,.slice none 0 0,.slice none 0 0]
 have HX:=qH (HB.out.same hs0)
 go_wp2_with fail
 refine (ZjS _ HX.out _ rfl).mono ?_
 rintro e w1 ⟨v,rfl,⟨v1,v2,rfl,ho1,ho2⟩,hs1⟩
 have hs2:=hs0.same hs1
 have hb1:=hb0.same hs1
 have hsz:=hs1.size
 rw [World.size_alloc] at ho1 ho2 hsz
 clear hs0 hb0 hs1
 generalize decP (bs.take 40082)=P at *
 obtain ⟨⟨gk,gn,gt,gns,gts⟩,k,er⟩:=P
 simp only at ho1 ho2
 obtain ⟨A1,m1,q1,rfl⟩:=Zav ho1
 obtain ⟨A2,m2,q2,rfl⟩:=Zav ho2
 have hs3:=hs2.alloc (.cells #[.int .i64 gk,.int .i64 gn,.string gt,.slice A1 m1 q1,.slice A2 m2 q2] 46)
 have hb2:=hb1.alloc (.cells #[.int .i64 gk,.int .i64 gn,.string gt,.slice A1 m1 q1,.slice A2 m2 q2] 46)
 have hb3:=Blk.new w1 46 #[.int .i64 gk,.int .i64 gn,.string gt,.slice A1 m1 q1,.slice A2 m2 q2]
 have hu:=(Upd.refl (fun _=>False) w1).alloc (.cells #[.int .i64 gk,.int .i64 gn,.string gt,.slice A1 m1 q1,.slice A2 m2 q2] 46)
 have ho3:=Zam ho1 hu fun _ _ f=>f
 have ho4:=Zam ho2 hu fun _ _ f=>f
 have HN1:=qH (hb2.ne_own ho3 (by decide))
 have HN2:=qH (hb2.ne_own ho4 (by decide))
 have HO1:=qH (Zad ho3 (Nat.le_succ _))
 have HO2:=qH (Zad ho4 (Nat.le_succ _))
 have HS:=qH hs3
 clear ho1 ho2 ho3 ho4 hs2 hs3 hb1 hu HX
 obtain ⟨b0,b1,b2,b3,b4⟩:=hb2.five
 obtain ⟨z0,z1,z2,z3,z4⟩:=hb2.five_free
 obtain ⟨k0,k1,k2,k3,k4⟩:=hb3.five
 clear hb3
 by_cases he:er=0
 · subst he
   by_cases hk:k<n
   · have HE:=qH (HD.out.symm.trans (if_pos ⟨rfl,hk⟩))
     go_wp2
     exact ZeY rfl rfl hb2 ⟨_,by rw [HE.out],by rw [HE.out];exact ZiB.none _ _,HS.out.trans ((Upd.refl (fun b=>b=w.heap.size) _).put5 _ _ _ _ _) fun b hb hh=>by omega⟩
   have HE:=qH (HD.out.symm.trans (if_neg (fun hh=>hk hh.2)))
   go_wp2
   exact ZeY rfl rfl hb2 ⟨_,by rw [HE.out],by rw [HE.out];exact ⟨_,_,rfl,Zam HO1.out ((Upd.refl (fun b=>b=w.heap.size) _).put5 _ _ _ _ _) (fun g hg e=>HN1.out (e ▸ hg)),Zam HO2.out ((Upd.refl (fun b=>b=w.heap.size) _).put5 _ _ _ _ _) (fun g hg e=>HN2.out (e ▸ hg))⟩,HS.out.trans ((Upd.refl (fun b=>b=w.heap.size) _).put5 _ _ _ _ _) fun b hb hh=>by omega⟩
 have HE:=qH (HD.out.symm.trans (if_neg (fun hh=>he hh.1)))
 have he':(er==0)=false:=by rw [beq_eq_false_iff_ne];exact he
 go_wp2
 exact ZeY rfl rfl hb2 ⟨_,by rw [HE.out],by rw [HE.out];exact ⟨_,_,rfl,Zam HO1.out ((Upd.refl (fun b=>b=w.heap.size) _).put5 _ _ _ _ _) (fun g hg e=>HN1.out (e ▸ hg)),Zam HO2.out ((Upd.refl (fun b=>b=w.heap.size) _).put5 _ _ _ _ _) (fun g hg e=>HN2.out (e ▸ hg))⟩,HS.out.trans ((Upd.refl (fun b=>b=w.heap.size) _).put5 _ _ _ _ _) fun b hb hh=>by omega⟩
end Go.Proofs.YtkopcinhbjimiaaGreatDoor
