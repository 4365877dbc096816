/- Texts that the claim leans on: walks and plain laws, function by function. -/
import Derived.Maps.Own
import Derived.Maps.OwnSet
import Derived.Maps.OwnOps
import Derived.Maps.Views
import Derived.Test.YtkopcinhbjimiaaGreatDoorS10
set_option maxRecDepth 100000
set_option maxHeartbeats 16000000
namespace Go.Proofs.YtkopcinhbjimiaaGreatDoor
open Go.RowKit Go.Maps
theorem keyI:Keyed Tryz.prog 3:=int_keyed Tryz.underlying3
theorem Zqq (w:World):(zeroValue 3).run Tryz.prog w=.ok (.int .i64 0) w:=by kernel_rfl
theorem wfI {x:Int} (h : -9223372036854775808<=x/\x<=9223372036854775807):(Lit.int .i64 x).wf=true:=by
 simp [Lit.wf,IntKind.min,IntKind.max,IntKind.signed,IntKind.bits]
 exact h
theorem ZoH {x:Int} (h:(Lit.int .i64 x).wf=true) : -9223372036854775808<=x/\x<=9223372036854775807:=by
 simp [Lit.wf,IntKind.min,IntKind.max,IntKind.signed,IntKind.bits] at h
 exact h
def MapI (w:World) (b n:Nat) (f:Int->Int):Prop :=
 ∃ D:DataW Unit,w.ownsMap Tryz.prog 3 (plainElem Tryz.prog 3) b n D/\∀ x,D.atKey (.int .i64 x) (.lit (.int .i64 0))=.lit (.int .i64 (f x))
section
variable {w w':World} {b n:Nat} {f:Int->Int}
theorem MapI.made (w:World):MapI (w.alloc (.map #[] 0)) w.heap.size 0 fun _=>0:=⟨_,World.ownsMap_made w _ _ _,fun _=>rfl⟩
theorem MapI.upd {S:Nat->Prop} (h:MapI w b n f) (hu:Upd S w w') (hs:¬ S b):MapI w' b n f:=by
 obtain ⟨D,h1,h2⟩:=h
 have hb:=h1.lt
 obtain ⟨es,clock,h3,h4⟩:=h1
 exact ⟨D,⟨es,clock,(hu.block b hb hs).trans h3,h4⟩,h2⟩
theorem MapI.same (h:MapI w b n f) (hu:Same w w'):MapI w' b n f:=h.upd hu fun f=>f
theorem MapI.fit (h:MapI w b n f) {x:Int} (hx : -9223372036854775808<=x/\x<=9223372036854775807):(Instr.lookup 104 (.map (some b)) (.int .i64 x) false).run Tryz.prog w=.ok (.int .i64 (f x)) w /\ -9223372036854775808<=f x/\f x<=9223372036854775807:=by
 obtain ⟨D,h1,h2⟩:=h
 obtain ⟨c,hrun,hat,hw⟩:=h1.lookup_int keyI Tryz.underlying104 Tryz.underlying3 (Zqq w) (keyOf_int_mk Tryz.underlying3 (wfI hx))
 rw [h2] at hat
 injection hat with hat
 injection hat with _ hat
 subst hat
 exact ⟨hrun,ZoH hw⟩
theorem MapI.put (h:MapI w b n f) (hn:n<maxLen) {x v:Int} (hx : -9223372036854775808<=x/\x<=9223372036854775807) (hv : -9223372036854775808<=v/\v<=9223372036854775807) :
 ∃ w',(Instr.mapUpdate 104 (.map (some b)) (.int .i64 x) (.int .i64 v)).run Tryz.prog w=.ok () w'/\MapI w' b (n+1) (fun y=>if y=x then v else f y)/\Upd (fun k=>k=b) w w':=by
 obtain ⟨D,h1,h2⟩:=h
 obtain ⟨w',hrun,h3,h4⟩:=h1.update keyI Tryz.underlying104 hn (keyOf_int_mk Tryz.underlying3 (wfI hx)) (plainElem_int Tryz.underlying3 (wfI hv))
 refine ⟨w',hrun,⟨_,h3,fun y=>?_⟩,(Upd.refl _ w).grown h4 fun k hk=>.inl (by injection hk with hk;exact hk.symm)⟩
 show _=DataW.lit (Lit.int .i64 (if y=x then v else f y))
 by_cases hy:y=x
 · subst hy
   rw [atKey_put_same h1.isMap (by simp [WideAt.IsKeyLit]),if_pos rfl]
 rw [atKey_put_other (by intro h;injection h with _ h;exact hy h),if_neg hy]
 exact h2 y
end
theorem Zbf {P:Program} {w w':World} {ops:Array Oper} {rest:List Oper} {o:Oper} {a:Act} {Q:Exit->Act->World->Prop}
 (hg:o.guard=none) (m x v:Operand) (t:TypeId) (hop:o.op=Op.mapUpdate t m x v) {mv xv vv:Value} (hm:a.eval m=mv) (hx:a.eval x=xv) (hv:a.eval v=vv)
 (hrun:(Instr.mapUpdate t mv xv vv).run P w=.ok () w') (hK:wpList P ops Q rest (a.put o.dst undef) w'):wpList P ops Q (o::rest) a w:=by
 refine wpList_plain hg fun K' hK'=>?_
 unfold Oper.wp
 simp [execOp,hop,hm,hx,hv,hrun,Result.andThen]
 exact hK' _ _ hK
end Go.Proofs.YtkopcinhbjimiaaGreatDoor
namespace Go.Proofs.YtkopcinhbjimiaaGreatDoor
open Go.RowKit
def leB (a b:ByteArray):Bool:=Op.bytesLess a.toList b.toList || a.toList==b.toList
def Zbp (k:ByteArray):Option ByteArray->Bool
 | none=>false
 | some q=>leB k q
def Zbg:Option ByteArray->List GPr->Int
 | _,[]=>0
 | prev,p::l=>if ZaZ p.key=false then 60 else if Zbp p.key prev=true then 6 else if chk p.val≠0 then chk p.val else Zbg (some p.key) l
def ZaF (l:List GPr):Int:=if 16<l.length then 64 else Zbg none l
def ZbZ:Option ByteArray->List ByteArray->Int
 | _,[]=>0
 | prev,p::l=>if ZaZ p=false then 60 else if Zbp p prev=true then 6 else ZbZ (some p) l
def ZaB (l:List ByteArray):Int:=if 8<l.length then 63 else ZbZ none l
def Zan {α β:Type} (f:α->β) (l:List α):Nat->Option β
 | 0=>none
 | j+1=>(l[j]?).map f
def Zel (ps:List PR):Prop:=∀ x∈ps,x.g.text.size<=9223372036854775807/\∀ s∈x.g.texts,s.size<=9223372036854775807
theorem ZbM {α:Type} {l:List α} {i:Nat} {x:α} (h:l[i]?=some x):l.drop i=x::l.drop (i+1):=by
 obtain ⟨hi,rfl⟩:=List.getElem?_eq_some_iff.1 h
 exact List.drop_eq_getElem_cons hi
theorem ZfV {F:Nat->Prop} {A:Option Addr} {n c:Nat} {ls:List ByteArray} (w:World) (h:WRow w F 1 A n c (ls.map Value.string)) {E:Int} (hE:ZaB ls=E) :
 Calls Tryz.prog 98 #[.slice A n c] w fun e w'=>e=.returned (.int .i64 E)/\Same w w':=by
 have hl:ls.length=n:=by have:=h.len;simpa using this
 have hmx:=h.max
 have hle:=h.le
 unfold maxLen at hmx
 have HR:=qH h
 unfold ZaB at hE
 rw [hl] at hE
 have HL:=qH hl
 by_cases h8:8<n
 · rw [if_pos h8] at hE
   subst hE
   go_enter Tryz.func98,Tryz.ntmps98
   go_wp2
   go_ret
   exact ⟨rfl,Upd.refl _ _⟩
 rw [if_neg h8] at hE
 have HE:=qH hE
 have h8i:¬ (8:Int)<n:=by omega
 clear h hl hE
 go_enter Tryz.func98,Tryz.ntmps98
 go_wp2_with fail
 go_loopg [10] n (fun gh ix wr=>∃ i:Nat,n-i=gh/\i<=n/\ix=.int .i64 i/\wr=w/\Hid (ZbZ (Zan id ls i) (ls.drop i)=E))
 case atStart=>exact ⟨0,rfl,Nat.zero_le _,rfl,rfl,qH (by rw [List.drop_zero];exact HE.out)⟩
 obtain ⟨i,rfl,hi,rfl,rfl,KE⟩:=hrel
 by_cases hlt:i<n
 · obtain ⟨b,o,u,rfl,hb,_,hu,hc⟩:=HR.out.at_ hlt
   rw [List.getElem?_map] at hu
   cases hx:ls[i]? with
   | none=>rw [hx] at hu;cases hu
   | some x =>
     rw [hx] at hu
     injection hu with hu
     subst hu
     have hke:=KE.out
     rw [ZbM hx] at hke
     simp only [ZbZ] at hke
     cases hg:ZaZ x with
     | false =>
       rw [hg,if_pos rfl] at hke
       have HK:=qH hke
       have HG:=qH hg
       clear hke hg hx
       go_wp2_with fail
       refine (Zbo x _).mono ?_
       rintro e w2 ⟨rfl,rfl⟩
       rw [HG.out]
       go_wp2
       go_ret
       exact ⟨by rw [<- HK.out];rfl,Upd.refl _ _⟩
     | true =>
       rw [hg,if_neg (by simp)] at hke
       have HG:=qH hg
       obtain ⟨r,hr⟩:∃ r,Zbp x (Zan id ls i)=r:=⟨_,rfl⟩
       rw [hr] at hke
       have HK:=qH hke
       have HX:=qH hx
       have HRr:=qH hr
       have hkr:r=true->(6:Int)=E:=fun h=>by have:=HK.out;rw [if_pos h] at this;exact this
       have hkn:r=false->ZbZ (some x) (ls.drop (i+1))=E:=fun h=>by have:=HK.out;rw [if_neg (by rw [h];simp)] at this;exact this
       have HKr:=qH hkr
       have HKn:=qH hkn
       clear hke hg hx hr hkr hkn HK
       cases i with
       | zero =>
         obtain rfl:r=false:=HRr.out.symm
         rw [Nat.add_zero] at hc
         go_wp2_with fail
         refine (Zbo x _).mono ?_
         rintro e w2 ⟨rfl,rfl⟩
         rw [HG.out]
         go_wp2
         go_roundg (n-1)
         case measure=>omega
         case rel=>exact ⟨1,rfl,by omega,by go_num,rfl,qH (by have h1:=HKn.out (by trivial);simp only [Zan,HX.out];exact h1)⟩
       | succ j =>
         have hjl:j<ls.length:=by rw [HL.out];omega
         obtain ⟨b2,o2,u2,hA2,_,_,hu2,hc2⟩:=HR.out.at_ (i:=j) (by omega)
         injection hA2 with hA2
         injection hA2 with e1 e2 _
         subst e1 e2
         rw [List.getElem?_map,List.getElem?_eq_getElem hjl] at hu2
         injection hu2 with hu2
         subst hu2
         obtain ⟨y,hy⟩:∃ y,ls[j]=y:=⟨_,rfl⟩
         rw [hy] at hc2
         have HY:=qH (show Zbp x (some y)=r from by rw [<- HRr.out];simp only [Zan];rw [List.getElem?_eq_getElem hjl,hy];rfl)
         have hyr:(Op.bytesLess x.toList y.toList || x.toList==y.toList)=r:=HY.out
         clear hy hjl
         cases r with
         | true =>
           have hE6:=HKr.out rfl
           subst hE6
           go_wp2_with fail
           refine (Zbo x _).mono ?_
           rintro e w2 ⟨rfl,rfl⟩
           rw [HG.out]
           go_wp2
           go_ret
           exact ⟨rfl,Upd.refl _ _⟩
         | false =>
           go_wp2_with fail
           refine (Zbo x _).mono ?_
           rintro e w2 ⟨rfl,rfl⟩
           rw [HG.out]
           go_wp2
           go_roundg (n-(j+1+1))
           case measure=>omega
           case rel=>exact ⟨j+1+1,rfl,by omega,by go_num,rfl,qH (by have h1:=HKn.out (by trivial);simp only [Zan,HX.out];exact h1)⟩
 have hin:i=n:=by omega
 have hE0:E=0:=by
  have h1:=KE.out
  rw [List.drop_of_length_le (by rw [HL.out];omega)] at h1
  simpa [ZbZ] using h1.symm
 subst hE0
 clear KE HE
 go_wp2
 go_ret
 exact ⟨rfl,Upd.refl _ _⟩
theorem Zdz {F:Nat->Prop} {A:Option Addr} {n c:Nat} {ps:List PR} (w:World) (h:RdPs w F A n c ps) (hf:Zel ps) {E:Int} (hE:ZaF (ps.map PR.dat)=E) :
 Calls Tryz.prog 99 #[.slice A n c] w fun e w'=>e=.returned (.int .i64 E)/\Same w w':=by
 have hl:=h.len
 have hmx:=h.row.max
 have hle:=h.row.le
 unfold maxLen at hmx
 have HR:=qH h
 have HF:=qH hf
 unfold ZaF at hE
 rw [List.length_map,hl] at hE
 have HL:=qH hl
 by_cases h16:16<n
 · rw [if_pos h16] at hE
   subst hE
   go_enter Tryz.func99,Tryz.ntmps99
   go_wp2
   go_ret
   exact ⟨rfl,Upd.refl _ _⟩
 rw [if_neg h16] at hE
 have HE:=qH hE
 have h16i:¬ (16:Int)<n:=by omega
 clear h hf hl hE
 go_enter Tryz.func99,Tryz.ntmps99
 go_wp2_with fail
 go_loopg [11] n (fun gh ix wr=>∃ i:Nat,n-i=gh/\i<=n/\ix=.int .i64 i/\Hid (Same w wr)/\Hid (Zbg (Zan PR.key ps i) ((ps.map PR.dat).drop i)=E))
 case atStart=>exact ⟨0,rfl,Nat.zero_le _,rfl,qH (Upd.refl _ _),qH (by rw [List.drop_zero];exact HE.out)⟩
 obtain ⟨i,rfl,hi,rfl,KS,KE⟩:=hrel
 by_cases hlt:i<n
 · have HRw:=qH (HR.out.same KS.out)
   obtain ⟨b,o,x,rfl,hb,_,hx,hxm,r0,r1,r2,r3,r4,r5⟩:=HRw.out.at_ hlt
   have hke:=KE.out
   have hxd:(ps.map PR.dat)[i]?=some x.dat:=by rw [List.getElem?_map,hx];rfl
   rw [ZbM hxd] at hke
   simp only [Zbg] at hke
   have HV:=qH ((HRw.out.val x hxm))
   have HX1:=qH (HF.out x hxm).1
   have HX2:=qH (HF.out x hxm).2
   have HAk:=qH (show Zan PR.key ps (i+1)=some x.key from by simp only [Zan,hx];rfl)
   obtain ⟨kx,⟨x0,x1,x2,x3,x4⟩,X1,a1,b1,X2,a2,b2⟩:=x
   simp only at r0 r1 r2 r3 r4 r5
   replace hke:(if ZaZ kx=false then 60 else if Zbp kx (Zan PR.key ps i)=true then 6 else if chk ⟨x0,x1,x2,x3,x4⟩≠0 then chk ⟨x0,x1,x2,x3,x4⟩ else Zbg (some kx) ((ps.map PR.dat).drop (i+1)))=E:=hke
   have hsA:=(Upd.refl (fun _=>False) wr).alloc (.cells #[.string kx,.int .i64 x0,.int .i64 x1,.string x2,.slice X1 a1 b1,.slice X2 a2 b2] 48)
   have hbA:=Blk.new wr 48 #[.string kx,.int .i64 x0,.int .i64 x1,.string x2,.slice X1 a1 b1,.slice X2 a2 b2]
   have HVA:=qH (HV.out.same hsA)
   have HSA:=qH (KS.out.same hsA)
   have HBA:=qH hbA
   clear hsA hbA
   cases hg:ZaZ kx with
   | false =>
     rw [hg,if_pos rfl] at hke
     have HK:=qH hke
     have HG:=qH hg
     clear hke hg hx hxd hxm
     go_wp2_with fail
     refine (Zbo kx _).mono ?_
     rintro e w2 ⟨rfl,rfl⟩
     rw [HG.out]
     go_wp2
     go_ret
     exact ⟨by rw [<- HK.out];rfl,HSA.out⟩
   | true =>
     rw [hg,if_neg (by simp)] at hke
     have HG:=qH hg
     obtain ⟨r,hr⟩:∃ r,Zbp kx (Zan PR.key ps i)=r:=⟨_,rfl⟩
     rw [hr] at hke
     have HKr:=qH (show r=true->(6:Int)=E from fun h=>by rw [if_pos h] at hke;exact hke)
     have HKn:=qH (show r=false->(if chk ⟨x0,x1,x2,x3,x4⟩≠0 then chk ⟨x0,x1,x2,x3,x4⟩ else Zbg (some kx) (List.drop (i+1) (ps.map PR.dat)))=E from fun h=>by rw [if_neg (by rw [h];simp)] at hke;exact hke)
     have HRr:=qH hr
     clear hke hg hr hx hxd hxm
     go_wp2_with fail
     refine (Zbo kx _).mono ?_
     rintro e w2 ⟨rfl,rfl⟩
     rw [HG.out]
     go_upto_region 8 with fail
     have HRA:=qH (HRw.out.same ((Upd.refl (fun _=>False) wr).alloc (.cells #[.string kx,.int .i64 x0,.int .i64 x1,.string x2,.slice X1 a1 b1,.slice X2 a2 b2] 48)))
     clear r0 r1 r2 r3 r4 r5 KS KE HRw
     generalize wr.alloc (.cells #[.string kx,.int .i64 x0,.int .i64 x1,.string x2,.slice X1 a1 b1,.slice X2 a2 b2] 48)=w5 at *
     generalize wr.heap.size=g5 at *
     have p0:w5.cell? ⟨g5,0,none⟩=some (.string kx):=HBA.out.cell 0
     go_cut [32] from 20 to 32 (fun s32 wx=>s32=.bool r/\∃ d,wx=w5.drewN d)
     case first =>
      by_cases hi0:i=0
      · have hgt:¬ (0:Int)<i:=by omega
        have hgtN:¬ 0<i:=by omega
        have hgd:decide (0<i)=false:=decide_eq_false hgtN
        have hr0:r=false:=by rw [<- HRr.out,hi0];rfl
        subst hr0
        clear hi0
        go_quiet (fail)
        go_wp2
        go_meet
        case rel=>exact ⟨rfl,_,rfl⟩
      obtain ⟨j,hj⟩:∃ j,i=j+1:=⟨i-1,by omega⟩
      have hgt:(0:Int)<i:=by omega
      have hgtN:0<i:=by omega
      have hjn:j<n:=by omega
      have hwr:IntKind.i64.wrap ((i:Int)-1)=(j:Int):=by rw [IntKind.wrap_i64];omega
      obtain ⟨b2,o2,y,hA2,_,_,hy,_,q0,_⟩:=HRA.out.at_ hjn
      injection hA2 with hA2
      injection hA2 with e1 e2 _
      subst e1 e2
      obtain ⟨ky,hky⟩:∃ ky,y.key=ky:=⟨_,rfl⟩
      rw [hky] at q0
      have hyr:(Op.bytesLess kx.toList ky.toList || kx.toList==ky.toList)=r:=by
       rw [<- HRr.out,hj]
       simp only [Zan]
       rw [hy]
       simp only [Option.map_some,hky]
       rfl
      clear hy hky hj hi0
      go_quiet (fail)
      go_wp2
      go_meet
      case rel=>exact ⟨rfl,_,rfl⟩
     obtain ⟨rfl,d,rfl⟩:=hcut
     have hsd:Same w5 (w5.drewN d):=(Upd.refl _ w5).drewN d
     have HS6:=qH (HSA.out.same hsd)
     have HB6:=qH (HBA.out.same hsd)
     have HV6:=qH (HVA.out.same hsd)
     clear hsd p0 HSA HBA HVA HRA
     generalize w5.drewN d=w6 at *
     cases r with
     | true =>
       have hE6:=HKr.out rfl
       subst hE6
       go_wp2
       go_ret
       exact ⟨rfl,HS6.out⟩
     | false =>
       have hk:=HKn.out rfl
       have p1:w6.cell? ⟨g5,1,none⟩=some (.int .i64 x0):=HB6.out.cell 1
       have p2:w6.cell? ⟨g5,2,none⟩=some (.int .i64 x1):=HB6.out.cell 2
       have p3:w6.cell? ⟨g5,3,none⟩=some (.string x2):=HB6.out.cell 3
       have p4:w6.cell? ⟨g5,4,none⟩=some (.slice X1 a1 b1):=HB6.out.cell 4
       have p5:w6.cell? ⟨g5,5,none⟩=some (.slice X2 a2 b2):=HB6.out.cell 5
       have HK:=qH hk
       clear hk HB6
       go_wp2_with fail
       refine (Zhp _ HV6.out HX1.out HX2.out).mono ?_
       rintro e w7 ⟨rfl,hs7⟩
       have HS7:=qH (HS6.out.same hs7)
       clear hs7 p1 p2 p3 p4 p5 HS6 HV6
       obtain ⟨C,hC⟩:∃ C,chk ⟨x0,x1,x2,x3,x4⟩=C:=⟨_,rfl⟩
       have hk:=HK.out
       rw [hC] at hk ⊢
       by_cases hz:C=0
       · subst hz
         rw [if_neg (by simp)] at hk
         have HK2:=qH hk
         clear hk HK hC
         go_wp2
         go_roundg (n-(i+1))
         case measure=>omega
         case rel=>exact ⟨i+1,rfl,by omega,by go_num,HS7,qH (by rw [HAk.out];exact HK2.out)⟩
       rw [if_pos hz] at hk
       subst hk
       have hcn:(C != 0)=true:=by rw [bne_iff_ne];exact hz
       go_wp2
       go_ret
       exact ⟨rfl,HS7.out⟩
 have hin:i=n:=by omega
 have hE0:E=0:=by
  have h1:=KE.out
  rw [List.drop_of_length_le (by rw [List.length_map,HL.out];omega)] at h1
  simpa [Zbg] using h1.symm
 subst hE0
 clear KE HE
 go_wp2
 go_ret
 exact ⟨rfl,KS.out⟩
def Zar (k:Int):Option Int->Bool
 | none=>false
 | some q=>decide (k<=q)
def Zbq (prev:Option Int) (g:ZaO):Int:=if g.id<0\/1024<=g.id then 61 else if Zar g.id prev=true then 6 else if ZaB g.labels≠0 then ZaB g.labels else ZaF g.props
def ZbN (there:Int->Bool) (prev:Option Int) (g:GRel):Int :=
 if g.id<0\/2048<=g.id then 62 else if Zar g.id prev=true then 6 else if ZaZ g.type=false then 60 else if there g.src=false\/there g.dst=false then 65 else ZaF g.props
theorem Zeb {F:Nat->Prop} {A:Option Addr} {n c:Nat} {ns:List ND} (w:World) (h:RdNs w F A n c ns) (hf:∀ x∈ns,Zel x.props) {i:Nat} (hi:i<n) {x:ND} (hx:ns[i]?=some x) {E:Int} (hE:Zbq (Zan ND.id ns i) x.dat=E) :
 Calls Tryz.prog 56 #[.slice A n c,.int .i64 i] w fun e w'=>e=.returned (.int .i64 E)/\Same w w':=by
 have hmx:=h.row.max
 have hle:=h.row.le
 unfold maxLen at hmx
 obtain ⟨b,o,x',rfl,hb,_,hx',hxm,r0,r1,r2⟩:=h.at_ hi
 obtain rfl:x=x':=Option.some.inj (hx.symm.trans hx')
 have HR:=qH h
 have HL:=qH h.len
 have HLab:=qH (h.lab x hxm)
 have HPro:=qH (h.pro x hxm)
 have HF:=qH (hf x hxm)
 obtain ⟨id,labels,AL,nL,cL,props,AP,nP,cP⟩:=x
 simp only at r0 r1 r2
 replace hE:(if id<0\/1024<=id then 61 else if Zar id (Zan ND.id ns i)=true then 6 else if ZaB labels≠0 then ZaB labels else ZaF (props.map PR.dat))=E:=hE
 have HE:=qH hE
 have hsA:=(Upd.refl (fun _=>False) w).alloc (.cells #[.int .i64 id,.slice AL nL cL,.slice AP nP cP] 43)
 have hbA:=Blk.new w 43 #[.int .i64 id,.slice AL nL cL,.slice AP nP cP]
 have HSA:=qH hsA
 have HBA:=qH hbA
 have HRA:=qH (h.same hsA)
 clear h hf hx hx' hxm hE hsA hbA
 go_enter Tryz.func56,Tryz.ntmps56
 by_cases hid:id<0\/1024<=id
 · have hE:=(if_pos hid).symm.trans HE.out
   subst hE
   by_cases h0:id<0
   · go_wp2
     go_ret
     exact ⟨rfl,HSA.out⟩
   have h1:1024<=id:=by omega
   go_wp2
   go_ret
   exact ⟨rfl,HSA.out⟩
 have h0:¬ id<0:=by omega
 have h1:¬ 1024<=id:=by omega
 have HE2:=qH ((if_neg hid).symm.trans HE.out)
 clear hid HE
 go_upto_region 4 with fail
 obtain ⟨r,hr⟩:∃ r,Zar id (Zan ND.id ns i)=r:=⟨_,rfl⟩
 have HRr:=qH hr
 have HLabA:=qH (HLab.out.same HSA.out)
 have HProA:=qH (HPro.out.same HSA.out)
 clear hr r0 r1 r2 HR HLab HPro
 generalize w.alloc (.cells #[.int .i64 id,.slice AL nL cL,.slice AP nP cP] 43)=w5 at *
 generalize w.heap.size=g5 at *
 have p0:w5.cell? ⟨g5,0,none⟩=some (.int .i64 id):=HBA.out.cell 0
 go_cut [20] from 20 to 33 (fun s20 wx=>s20=.bool r/\∃ d,wx=w5.drewN d)
 case first =>
  by_cases hi0:i=0
  · have hgt:¬ (0:Int)<i:=by omega
    have hgtN:¬ 0<i:=by omega
    have hgd:decide (0<i)=false:=decide_eq_false hgtN
    have hr0:r=false:=by rw [<- HRr.out,hi0];rfl
    subst hr0
    clear hi0
    go_quiet (fail)
    go_wp2
    go_meet
    case rel=>exact ⟨rfl,_,rfl⟩
  obtain ⟨j,hj⟩:∃ j,i=j+1:=⟨i-1,by omega⟩
  have hgt:(0:Int)<i:=by omega
  have hgtN:0<i:=by omega
  have hjn:j<n:=by omega
  have hwr:IntKind.i64.wrap ((i:Int)-1)=(j:Int):=by rw [IntKind.wrap_i64];omega
  obtain ⟨b2,o2,y,hA2,_,_,hy,_,q0,_⟩:=HRA.out.at_ hjn
  injection hA2 with hA2
  injection hA2 with e1 e2 _
  subst e1 e2
  obtain ⟨iy,hiy⟩:∃ iy,y.id=iy:=⟨_,rfl⟩
  rw [hiy] at q0
  have hyr:decide (id<=iy)=r:=by
   rw [<- HRr.out,hj]
   simp only [Zan]
   rw [hy]
   simp only [Option.map_some,hiy]
   rfl
  clear hy hiy hj hi0
  go_quiet (fail)
  go_wp2
  go_meet
  case rel=>exact ⟨by first | rfl | rw [hyr],_,rfl⟩
 obtain ⟨rfl,d,rfl⟩:=hcut
 have hsd:Same w5 (w5.drewN d):=(Upd.refl _ w5).drewN d
 have HS6:=qH (HSA.out.same hsd)
 have HB6:=qH (HBA.out.same hsd)
 have HL6:=qH (HLabA.out.same hsd)
 have HP6:=qH (HProA.out.same hsd)
 clear hsd p0 HSA HBA HRA HLabA HProA
 generalize w5.drewN d=w6 at *
 rw [HRr.out] at HE2
 cases r with
 | true =>
   have hE6:(6:Int)=E:=(if_pos (by trivial)).symm.trans HE2.out
   subst hE6
   go_wp2
   go_ret
   exact ⟨rfl,HS6.out⟩
 | false =>
   have HE3:=qH ((if_neg (by simp)).symm.trans HE2.out)
   obtain ⟨C,hC⟩:∃ C,ZaB labels=C:=⟨_,rfl⟩
   have hE3:=HE3.out
   rw [hC] at hE3
   have p1:w6.cell? ⟨g5,1,none⟩=some (.slice AL nL cL):=HB6.out.cell 1
   go_wp2_with fail
   refine (ZfV _ HL6.out hC).mono ?_
   rintro e w7 ⟨rfl,hs7⟩
   have HS7:=qH (HS6.out.same hs7)
   have HP7:=qH (HP6.out.same hs7)
   have p2:w7.cell? ⟨g5,2,none⟩=some (.slice AP nP cP):=(HB6.out.same hs7).cell 2
   clear p1 hs7 HE2 HE3
   by_cases hz:C=0
   · subst hz
     rw [if_neg (by simp)] at hE3
     go_wp2_with fail
     refine (Zdz _ HP7.out HF.out hE3).mono ?_
     rintro e w8 ⟨rfl,hs8⟩
     have HS8:=qH (HS7.out.same hs8)
     clear hs8
     go_wp2
     go_ret
     exact ⟨rfl,HS8.out⟩
   rw [if_pos hz] at hE3
   subst hE3
   have hcn:(C != 0)=true:=by rw [bne_iff_ne];exact hz
   go_wp2
   go_ret
   exact ⟨rfl,HS7.out⟩
theorem ZeH {F:Nat->Prop} {A:Option Addr} {n c:Nat} {rs:List RL} (w:World) (h:RdRs w F A n c rs) (hf:∀ x∈rs,Zel x.props) {m k:Nat} {f:Int->Int} (hm:MapI w m k f) {i:Nat} (hi:i<n) {x:RL} (hx:rs[i]?=some x) {E:Int} (hE:ZbN (fun y=>f y != 0) (Zan RL.id rs i) x.dat=E) :
 Calls Tryz.prog 57 #[.slice A n c,.int .i64 i,.map (some m)] w fun e w'=>e=.returned (.int .i64 E)/\Same w w':=by
 have hmx:=h.row.max
 have hle:=h.row.le
 unfold maxLen at hmx
 obtain ⟨b,o,x',rfl,hb,_,hx',hxm,r0,r1,r2,r3,r4⟩:=h.at_ hi
 obtain rfl:x=x':=Option.some.inj (hx.symm.trans hx')
 have HR:=qH h
 have HL:=qH h.len
 have HPro:=qH (h.pro x hxm)
 have HF:=qH (hf x hxm)
 have HId:=qH (h.id x hxm)
 obtain ⟨id,type,src,dst,props,AP,nP,cP⟩:=x
 simp only at r0 r1 r2 r3 r4
 replace hE:(if id<0\/2048<=id then 62 else if Zar id (Zan RL.id rs i)=true then 6 else if ZaZ type=false then 60 else if (f src != 0)=false\/(f dst != 0)=false then 65 else ZaF (props.map PR.dat))=E:=hE
 have HE:=qH hE
 have hsA:=(Upd.refl (fun _=>False) w).alloc (.cells #[.int .i64 id,.string type,.int .i64 src,.int .i64 dst,.slice AP nP cP] 50)
 have hbA:=Blk.new w 50 #[.int .i64 id,.string type,.int .i64 src,.int .i64 dst,.slice AP nP cP]
 have HSA:=qH hsA
 have HBA:=qH hbA
 have HRA:=qH (h.same hsA)
 have HMA:=qH (hm.same hsA)
 clear h hf hx hx' hxm hE hsA hbA hm
 go_enter Tryz.func57,Tryz.ntmps57
 by_cases hid:id<0\/2048<=id
 · have hE:=(if_pos hid).symm.trans HE.out
   subst hE
   by_cases h0:id<0
   · go_wp2
     go_ret
     exact ⟨rfl,HSA.out⟩
   have h1:2048<=id:=by omega
   go_wp2
   go_ret
   exact ⟨rfl,HSA.out⟩
 have h0:¬ id<0:=by omega
 have h1:¬ 2048<=id:=by omega
 have HE2:=qH ((if_neg hid).symm.trans HE.out)
 clear hid HE
 go_upto_region 4 with fail
 obtain ⟨r,hr⟩:∃ r,Zar id (Zan RL.id rs i)=r:=⟨_,rfl⟩
 have HRr:=qH hr
 have HProA:=qH (HPro.out.same HSA.out)
 clear hr r0 r1 r2 r3 r4 HR HPro
 generalize w.alloc (.cells #[.int .i64 id,.string type,.int .i64 src,.int .i64 dst,.slice AP nP cP] 50)=w5 at *
 generalize w.heap.size=g5 at *
 have p0:w5.cell? ⟨g5,0,none⟩=some (.int .i64 id):=HBA.out.cell 0
 go_cut [21] from 21 to 34 (fun s21 wx=>s21=.bool r/\∃ d,wx=w5.drewN d)
 case first =>
  by_cases hi0:i=0
  · have hgt:¬ (0:Int)<i:=by omega
    have hgtN:¬ 0<i:=by omega
    have hgd:decide (0<i)=false:=decide_eq_false hgtN
    have hr0:r=false:=by rw [<- HRr.out,hi0];rfl
    subst hr0
    clear hi0
    go_quiet (fail)
    go_wp2
    go_meet
    case rel=>exact ⟨rfl,_,rfl⟩
  obtain ⟨j,hj⟩:∃ j,i=j+1:=⟨i-1,by omega⟩
  have hgt:(0:Int)<i:=by omega
  have hgtN:0<i:=by omega
  have hjn:j<n:=by omega
  have hwr:IntKind.i64.wrap ((i:Int)-1)=(j:Int):=by rw [IntKind.wrap_i64];omega
  obtain ⟨b2,o2,y,hA2,_,_,hy,_,q0,_⟩:=HRA.out.at_ hjn
  injection hA2 with hA2
  injection hA2 with e1 e2 _
  subst e1 e2
  obtain ⟨iy,hiy⟩:∃ iy,y.id=iy:=⟨_,rfl⟩
  rw [hiy] at q0
  have hyr:decide (id<=iy)=r:=by
   rw [<- HRr.out,hj]
   simp only [Zan]
   rw [hy]
   simp only [Option.map_some,hiy]
   rfl
  clear hy hiy hj hi0
  go_quiet (fail)
  go_wp2
  go_meet
  case rel=>exact ⟨by first | rfl | rw [hyr],_,rfl⟩
 obtain ⟨rfl,d,rfl⟩:=hcut
 have hsd:Same w5 (w5.drewN d):=(Upd.refl _ w5).drewN d
 have HS6:=qH (HSA.out.same hsd)
 have HB6:=qH (HBA.out.same hsd)
 have HM6:=qH (HMA.out.same hsd)
 have HP6:=qH (HProA.out.same hsd)
 clear hsd p0 HSA HBA HRA HMA HProA
 generalize w5.drewN d=w6 at *
 rw [HRr.out] at HE2
 cases r with
 | true =>
   have hE6:(6:Int)=E:=(if_pos (by trivial)).symm.trans HE2.out
   subst hE6
   go_wp2
   go_ret
   exact ⟨rfl,HS6.out⟩
 | false =>
   have HE3:=qH ((if_neg (by simp)).symm.trans HE2.out)
   have p1:w6.cell? ⟨g5,1,none⟩=some (.string type):=HB6.out.cell 1
   go_wp2_with fail
   refine (Zbo type _).mono ?_
   rintro e w7 ⟨rfl,rfl⟩
   clear p1 HE2
   cases hg:ZaZ type with
   | false =>
     have hE60:(60:Int)=E:=(if_pos hg).symm.trans HE3.out
     subst hE60
     go_wp2
     go_ret
     exact ⟨rfl,HS6.out⟩
   | true =>
     have HE4:=qH ((if_neg (by rw [hg];simp)).symm.trans HE3.out)
     obtain ⟨lk1,-,-⟩:=HM6.out.fit HId.2.1
     obtain ⟨lk2,-,-⟩:=HM6.out.fit HId.2.2
     have p2:w6.cell? ⟨g5,2,none⟩=some (.int .i64 src):=HB6.out.cell 2
     have p3:w6.cell? ⟨g5,3,none⟩=some (.int .i64 dst):=HB6.out.cell 3
     have p4:w6.cell? ⟨g5,4,none⟩=some (.slice AP nP cP):=HB6.out.cell 4
     obtain ⟨fs,hfs⟩:∃ y,f src=y:=⟨_,rfl⟩
     obtain ⟨fd,hfd⟩:∃ y,f dst=y:=⟨_,rfl⟩
     rw [hfs] at lk1
     rw [hfd] at lk2
     have hE4:=HE4.out
     rw [hfs,hfd] at hE4
     clear hg HE3 HE4 HM6 hfs hfd
     by_cases h65:(fs != 0)=false\/(fd != 0)=false
     · rw [if_pos h65] at hE4
       subst hE4
       by_cases z1:fs=0
       · subst z1
         go_wp2
         go_ret
         exact ⟨rfl,HS6.out⟩
       have z2:fd=0:=by
        rcases h65 with h | h
        · exact absurd h (by simpa using z1)
        simpa using h
       subst z2
       have z1b:(fs==0)=false:=by rw [beq_eq_false_iff_ne];exact z1
       go_wp2
       go_ret
       exact ⟨rfl,HS6.out⟩
     rw [if_neg h65] at hE4
     have z1b:(fs==0)=false:=by
      cases h:(fs==0) with
      | false=>rfl
      | true=>exact absurd (Or.inl (by simp only [bne,h];rfl)) h65
     have z2b:(fd==0)=false:=by
      cases h:(fd==0) with
      | false=>rfl
      | true=>exact absurd (Or.inr (by simp only [bne,h];rfl)) h65
     clear h65
     go_wp2_with fail
     refine (Zdz _ HP6.out HF.out hE4).mono ?_
     rintro e w8 ⟨rfl,hs8⟩
     have HS8:=qH (HS6.out.same hs8)
     clear hs8
     go_wp2
     go_ret
     exact ⟨rfl,HS8.out⟩
def Zax:Option Int->Nat->List ZaO->Option (Int×Nat)
 | _,_,[]=>none
 | prev,i,x::l=>if Zbq prev x≠0 then some (Zbq prev x,i) else Zax (some x.id) (i+1) l
def ZaQ (there:Int->Bool):Option Int->Nat->List GRel->Option (Int×Nat)
 | _,_,[]=>none
 | prev,i,x::l=>if ZbN there prev x≠0 then some (ZbN there prev x,i) else ZaQ there (some x.id) (i+1) l
def Zec (g:Zak) (y:Int):Bool:=decide (y∈g.nodes.map ZaO.id)
structure GFit (g:GR):Prop where
 nodes:∀ x∈g.ns,Zel x.props
 rels:∀ x∈g.rs,Zel x.props
 nN:g.nN<=140737488351232
 nR:g.nR<=140737488351232
def ZaH (g:Zak):Option (Int×Nat) :=
 match Zax none 0 g.nodes with
 | some e=>some e
 | none=>(ZaQ (Zec g) none 0 g.rels).map fun e=>(e.1,g.nodes.length+e.2)
theorem ZdA {l:List Int} {i:Nat} {x:Int} (h:l[i]?=some x) (y:Int):(l.take (i+1)).count y=(l.take i).count y+(if y=x then 1 else 0):=by
 rw [List.take_add_one,h,Option.toList_some,List.count_append]
 congr 1
 by_cases hy:y=x
 · subst hy;simp
 rw [if_neg hy,List.count_eq_zero];simpa using fun h=>hy h
theorem Zkg {F:Nat->Prop} (w:World) (g:GR) (h:RdG w F g) (hf:GFit g) {e:Int} {i:Nat} (hE:ZaH g.dat=some (e,i)) :
 Calls Tryz.prog 29 #[g.agg] w fun x w'=>x=.returned (.tuple #[.int .i64 e,.int .i64 i])/\Same w w':=by
 obtain ⟨ns,AN,nN,cN,rs,AR,nR,cR⟩:=g
 have HE:=qH hE
 have hmx:=h.nodes.row.max
 have hle:=h.nodes.row.le
 have hmx':=h.rels.row.max
 have hle':=h.rels.row.le
 unfold maxLen at hmx hmx'
 have hnN:=hf.nN
 have hnR:=hf.nR
 have HL:=qH h.nodes.len
 have HL':=qH h.rels.len
 simp only at hmx hle hmx' hle' hnN hnR HL HL'
 have hs0:=(Upd.refl (fun _=>False) w).alloc (.cells #[.slice AN nN cN,.slice AR nR cR] 26)
 have HB0:=qH (Blk.new w 26 #[.slice AN nN cN,.slice AR nR cR])
 have hm0:=MapI.made (w.alloc (.cells #[.slice AN nN cN,.slice AR nR cR] 26))
 have hs1:=hs0.alloc (.map #[] 0)
 have HB1:=qH (HB0.out.alloc (.map #[] 0))
 rw [World.size_alloc] at hm0
 have HM1:=qH hm0
 have HG1:=qH ((h.mono (F':=fun b=>b<w.heap.size) fun b hb _=>hb).same hs1)
 have HS1:=qH hs1
 have HF:=qH hf
 have hmm:=@run_makeMap Tryz.prog
 clear h hf hE hs0 hs1 hm0 HB0
 go_enter Tryz.func29,Tryz.ntmps29
 go_upto_region 2 with fail
 clear hmm
 generalize (w.alloc (.cells #[.slice AN nN cN,.slice AR nR cR] 26)).alloc (.map #[] 0)=w1 at *
 have p0:w1.cell? ⟨w.heap.size,0,none⟩=some (.slice AN nN cN):=HB1.out.cell 0
 go_wp2_with fail
 clear p0
 go_loopg [15] nN (fun gh ix wr=>∃ (i:Nat) (f:Int->Int),nN-i=gh/\i<=nN/\ix=.int .i64 i/\Hid (MapI wr (w.heap.size+1) i f)/\Hid (∀ y,f y=(((ns.map ND.id).take i).count y:Nat))/\Hid (Upd (fun k=>k=w.heap.size+1) w1 wr)/\Hid (Zax none 0 (ns.map ND.dat)=Zax (Zan ND.id ns i) i ((ns.map ND.dat).drop i)))
 case atStart=>exact ⟨0,_,rfl,Nat.zero_le _,rfl,HM1,qH (by simp),qH (Upd.refl _ _),qH rfl⟩
 obtain ⟨i,f,rfl,hi,rfl,KM,KF,KU,KE⟩:=hrel
 have hsw:Same w wr:=HS1.out.trans KU.out fun b hb hh=>by omega
 have HSw:=qH hsw
 have HGw:=qH (HG1.out.upd KU.out fun b hb hh=>by omega)
 have HBw:=qH (HB1.out.upd KU.out (by omega))
 have hzw:=hsw.size
 clear hsw
 by_cases hlt:i<nN
 · obtain ⟨b,o,x,hA,hb,_,hx,hxm,r0,r1,r2⟩:=HGw.out.nodes.at_ hlt
   simp only at hA
   subst hA
   have hke:=KE.out
   have hxd:(ns.map ND.dat)[i]?=some x.dat:=by rw [List.getElem?_map,hx];rfl
   rw [ZbM hxd] at hke
   simp only [Zax] at hke
   have HIx:=qH (HGw.out.nodes.id x hxm)
   have HX:=qH hx
   have HCt:=qH (ZdA (l:=ns.map ND.id) (i:=i) (x:=x.id) (by rw [List.getElem?_map,hx];rfl))
   have HAk:=qH (show Zan ND.id ns (i+1)=some x.dat.id from by simp only [Zan,hx];rfl)
   obtain ⟨C,hC⟩:∃ C,Zbq (Zan ND.id ns i) x.dat=C:=⟨_,rfl⟩
   have HC:=qH hC
   rw [hC] at hke
   have HK:=qH hke
   obtain ⟨id,hid⟩:∃ id,x.id=id:=⟨_,rfl⟩
   obtain ⟨AL,nL,cL,hL⟩:∃ a b c,x.AL=a/\x.nL=b/\x.cL=c:=⟨_,_,_,rfl,rfl,rfl⟩
   obtain ⟨AP,nP,cP,hP⟩:∃ a b c,x.AP=a/\x.nP=b/\x.cP=c:=⟨_,_,_,rfl,rfl,rfl⟩
   obtain ⟨hL1,hL2,hL3⟩:=hL
   obtain ⟨hP1,hP2,hP3⟩:=hP
   rw [hid] at r0 HIx HCt
   rw [hL1,hL2,hL3] at r1
   rw [hP1,hP2,hP3] at r2
   have hsA:=(Upd.refl (fun _=>False) wr).alloc (.cells #[.int .i64 id,.slice AL nL cL,.slice AP nP cP] 43)
   have HBA:=qH (Blk.new wr 43 #[.int .i64 id,.slice AL nL cL,.slice AP nP cP])
   have HGA:=qH (HGw.out.same hsA)
   have HMA:=qH (KM.out.same hsA)
   have HUA:=qH (KU.out.same hsA)
   have HSA:=qH (HSw.out.same hsA)
   have p0:(wr.alloc (.cells #[.int .i64 id,.slice AL nL cL,.slice AP nP cP] 43)).cell? ⟨w.heap.size,0,none⟩=some (.slice (some ⟨b,o,none⟩) nN cN):=(HBw.out.same hsA).cell 0
   clear hsA hx hxm hxd hke hC hL1 hL2 hL3 hP1 hP2 hP3 HGw HSw KM KU
   go_wp2_with fail
   refine (Zeb _ HGA.out.nodes HF.out.nodes hlt HX.out HC.out).mono ?_
   rintro y w7 ⟨rfl,hs7⟩
   have HS7:=qH (HSA.out.same hs7)
   have HM7:=qH (HMA.out.same hs7)
   have HU7:=qH (HUA.out.same hs7)
   have q0:w7.cell? ⟨wr.heap.size,0,none⟩=some (.int .i64 id):=(HBA.out.same hs7).cell 0
   clear hs7 p0 r0 r1 r2 HSA HMA HUA HGA HBA
   by_cases hz:C=0
   · subst hz
     have HK2:=qH ((if_neg (by simp)).symm.trans HK.out.symm)
     obtain ⟨lk,l1,l2⟩:=HM7.out.fit HIx.out
     have hfc:=KF.out id
     have hcl:((ns.map ND.id).take i).count id<=i:=Nat.le_trans List.count_le_length (by rw [List.length_take];omega)
     obtain ⟨fv,hfv⟩:∃ v,f id=v:=⟨_,rfl⟩
     rw [hfv] at lk hfc
     obtain ⟨fv1,hfv1⟩:∃ v,fv+1=v:=⟨_,rfl⟩
     have hw1:IntKind.i64.wrap (fv+1)=fv1:=by rw [IntKind.wrap_i64];omega
     obtain ⟨w8,lput,hm8,hu8⟩:=HM7.out.put (v:=fv1) (by unfold maxLen;omega) HIx.out (by omega)
     have HM8:=qH hm8
     have HU8:=qH (HU7.out.trans hu8 fun _ _ h=>h)
     have HFv:=qH (show f id+1=fv1 from by rw [hfv,hfv1])
     clear hm8 hu8 hfc hfv hfv1 hcl
     go_wp2_with (at_mapUpdate;go_must (refine Zbf rfl _ _ _ _ rfl rfl rfl rfl lput ?_))
     go_roundg (nN-(i+1))
     case measure=>omega
     refine ⟨i+1,_,rfl,by omega,by go_num,HM8,qH fun y=>?_,HU8,qH ?_⟩
     · rw [HCt.out y]
       by_cases hy:y=id
       · subst hy
         rw [if_pos rfl,if_pos rfl,<-HFv.out,KF.out]
         simp
       rw [if_neg hy,if_neg hy,KF.out]
       simp
     rw [HAk.out];exact HK2.out.symm
   have hk:=(if_pos hz).symm.trans HK.out.symm
   have hcn:(C != 0)=true:=by rw [bne_iff_ne];exact hz
   have hee:=HE.out
   unfold ZaH at hee
   simp only [GR.dat] at hee
   rw [<- hk] at hee
   injection hee with hee
   injection hee with h1 h2
   subst h1 h2
   go_wp2
   go_ret2
   exact ⟨rfl,HS7.out⟩
 have hin:i=nN:=by omega
 subst hin
 have hke:=KE.out
 rw [List.drop_of_length_le (by rw [List.length_map,HL.out];omega)] at hke
 simp only [Zax] at hke
 have hee:=HE.out
 unfold ZaH at hee
 simp only [GR.dat] at hee
 rw [hke] at hee
 obtain ⟨⟨e1,i1⟩,hr1,hr2⟩:=Option.map_eq_some_iff.1 hee
 injection hr2 with h1 h2
 simp only at h1 h2
 subst h1
 rw [List.length_map,HL.out] at h2
 have hth:Zec (GR.dat ⟨ns,AN,i,cN,rs,AR,nR,cR⟩)=fun y=>f y != 0:=by
  funext y
  have hf:=KF.out y
  rw [List.take_of_length_le (by rw [List.length_map,HL.out];omega)] at hf
  unfold Zec
  simp only [GR.dat,List.map_map]
  have hcomp:(ns.map (ZaO.id ∘ ND.dat))=ns.map ND.id:=List.map_congr_left fun _ _=>rfl
  rw [hcomp]
  by_cases hm:y∈ns.map ND.id
  · rw [decide_eq_true hm]
    have:0<(ns.map ND.id).count y:=List.count_pos_iff.2 hm
    rw [eq_comm,bne_iff_ne]
    omega
  rw [decide_eq_false hm]
  have:(ns.map ND.id).count y=0:=List.count_eq_zero.2 hm
  have hz:f y=0:=by omega
  rw [hz];rfl
 simp only [GR.dat] at hth
 rw [hth] at hr1
 have HR1:=qH hr1
 have HI2:=qH h2
 have p1:wr.cell? ⟨w.heap.size,1,none⟩=some (.slice AR nR cR):=HBw.out.cell 1
 have HMr:=qH KM.out
 clear hke hee hr1 h2 hth KE KF KU HE hlt KM
 go_wp2_with fail
 clear p1
 generalize wr=w2 at *
 go_loopg [37] nR (fun gh ix wr=>∃ (j:Nat),nR-j=gh/\j<=nR/\ix=.int .i64 j/\Hid (Same w2 wr)/\Hid (ZaQ (fun y=>f y != 0) none 0 (rs.map RL.dat)=ZaQ (fun y=>f y != 0) (Zan RL.id rs j) j ((rs.map RL.dat).drop j)))
 case atStart=>exact ⟨0,rfl,Nat.zero_le _,rfl,qH (Upd.refl _ _),qH rfl⟩
 obtain ⟨j,rfl,hj,rfl,KS,KE⟩:=hrel
 have HGx:=qH (HGw.out.same KS.out)
 have HBx:=qH (HBw.out.same KS.out)
 have HMx:=qH (HMr.out.same KS.out)
 have HSx:=qH (HSw.out.same KS.out)
 have hke:=KE.out
 rw [HR1.out] at hke
 clear KE
 by_cases hlt:j<nR
 · have hjl:j<rs.length:=by rw [HL'.out];exact hlt
   obtain ⟨x,hx⟩:∃ x,rs[j]?=some x:=⟨_,List.getElem?_eq_getElem hjl⟩
   have hxd:(rs.map RL.dat)[j]?=some x.dat:=by rw [List.getElem?_map,hx];rfl
   rw [ZbM hxd] at hke
   simp only [ZaQ] at hke
   have HX:=qH hx
   have HAk:=qH (show Zan RL.id rs (j+1)=some x.dat.id from by simp only [Zan,hx];rfl)
   obtain ⟨C,hC⟩:∃ C,ZbN (fun y=>f y != 0) (Zan RL.id rs j) x.dat=C:=⟨_,rfl⟩
   have HC:=qH hC
   rw [hC] at hke
   have HK:=qH hke
   have p1:wr.cell? ⟨w.heap.size,1,none⟩=some (.slice AR nR cR):=HBx.out.cell 1
   clear hx hxd hke hC hjl
   go_wp2_with fail
   refine (ZeH _ HGx.out.rels HF.out.rels HMx.out hlt HX.out HC.out).mono ?_
   rintro y w7 ⟨rfl,hs7⟩
   have HS7:=qH (HSx.out.same hs7)
   have HB7:=qH (HBx.out.same hs7)
   by_cases hz:C=0
   · subst hz
     have hk:=HK.out.trans (if_neg (by simp))
     have HK2:=qH hk
     have HSr:=qH (KS.out.same hs7)
     clear hk HSx p1 hs7
     go_wp2
     go_roundg (nR-(j+1))
     case measure=>omega
     case rel=>exact ⟨j+1,rfl,by omega,by go_num,HSr,qH (by rw [HR1.out,HAk.out];exact HK2.out)⟩
   have hk:=HK.out.trans (if_pos hz)
   injection hk with hk
   injection hk with h1 h2
   have hcn:(C != 0)=true:=by rw [bne_iff_ne];exact hz
   have p0:w7.cell? ⟨w.heap.size,0,none⟩=some (.slice AN i cN):=HB7.out.cell 0
   clear hs7 p1 HK HB7
   subst h1 h2
   have h3:=HI2.out
   have hw3:IntKind.i64.wrap ((i:Int)+(i1:Int))=((i+i1:Nat):Int):=by rw [IntKind.wrap_i64];omega
   go_wp2_with fail
   go_quiet (fail)
   go_wp2
   go_ret2
   exact ⟨by rw [<- HI2.out];simp,HS7.out.same ((Upd.refl _ _).drewN _)⟩
 rw [List.drop_of_length_le (by rw [List.length_map,HL'.out];omega)] at hke
 simp [ZaQ] at hke
end Go.Proofs.YtkopcinhbjimiaaGreatDoor
