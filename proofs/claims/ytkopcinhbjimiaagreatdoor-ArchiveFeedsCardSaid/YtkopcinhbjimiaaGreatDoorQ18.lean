/- Texts that the claim leans on: walks and plain laws, function by function. -/
import Derived.Test.YtkopcinhbjimiaaGreatDoorQ15
import Derived.Test.YtkopcinhbjimiaaGreatDoorQ17
set_option maxRecDepth 100000
set_option maxHeartbeats 16000000
namespace Go.Proofs.YtkopcinhbjimiaaGreatDoor
open Go.RowKit
theorem Zho {F F':Nat->Prop} {A A':Option Addr} {n c n' c':Nat} {ls ms:List ByteArray} (w:World) (h:WRow w F 1 A n c (ls.map Value.string)) (h':WRow w F' 1 A' n' c' (ms.map Value.string)) {r:Bool} (hr:Zbw eqS ls ms=r) :
 Calls Tryz.prog 33 #[.slice A n c,.slice A' n' c'] w fun e w'=>e=.returned (.bool r)/\Same w w':=by
 have HL:=qH (show ls.length=n from by have:=h.len;simpa using this)
 have HL':=qH (show ms.length=n' from by have:=h'.len;simpa using this)
 have hmx:=h.max
 have hle:=h.le
 have hmx':=h'.max
 have hle':=h'.le
 unfold maxLen at hmx hmx'
 have hn:n<=9223372036854775807:=by omega
 have hn':n'<=9223372036854775807:=by omega
 clear hmx hmx' hle hle'
 have HR:=qH h
 have HR':=qH h'
 have HE:=qH hr
 clear h h' hr
 by_cases hne:n=n'
 · subst hne
   go_enter Tryz.func33,Tryz.ntmps33
   go_wp2_with fail
   go_loopg [5] n (fun gh ix wr=>∃ k:Nat,n-k=gh/\k<=n/\ix=.int .i64 k/\Hid (Same w wr)/\Hid (Zbw eqS (ls.drop k) (ms.drop k)=r))
   case atStart=>exact ⟨0,rfl,Nat.zero_le _,rfl,qH (Upd.refl _ _),HE⟩
   obtain ⟨k,rfl,hk,rfl,KS,KE⟩:=hrel
   by_cases hlt:k<n
   · obtain ⟨b,o,u,rfl,hb,_,hu,r0⟩:=(HR.out.same KS.out).at_ hlt
     obtain ⟨b',o',u',rfl,hb',_,hu',r0'⟩:=(HR'.out.same KS.out).at_ hlt
     obtain ⟨x,hx⟩:∃ x,ls[k]?=some x:=⟨_,List.getElem?_eq_getElem (by rw [HL.out];exact hlt)⟩
     obtain ⟨y,hy⟩:∃ y,ms[k]?=some y:=⟨_,List.getElem?_eq_getElem (by rw [HL'.out];exact hlt)⟩
     rw [List.getElem?_map,hx] at hu
     rw [List.getElem?_map,hy] at hu'
     cases hu
     cases hu'
     have hke:=KE.out
     rw [ZdU hx hy] at hke
     cases hs:eqS x y with
     | false =>
       rw [hs,Bool.false_and] at hke
       subst hke
       have hk1:(x.toList==y.toList)=false:=hs
       have hkk:(!(x.toList==y.toList))=true:=by rw [hk1];rfl
       clear hx hy hs
       go_wp2_with fail
       go_quiet (fail)
       go_wp2
       go_ret
       exact ⟨rfl,KS.out.drewN _⟩
     | true =>
       rw [hs,Bool.true_and] at hke
       have HK:=qH hke
       have hk1:(x.toList==y.toList)=true:=hs
       have hkk:(!(x.toList==y.toList))=false:=by rw [hk1];rfl
       clear hx hy hs hke
       go_wp2_with fail
       go_quiet (fail)
       go_wp2
       go_roundg (n-(k+1))
       case measure=>omega
       case rel=>exact ⟨k+1,rfl,by omega,by go_num,qH (KS.out.drewN _),HK⟩
   have hke:=KE.out
   rw [List.drop_of_length_le (by rw [HL.out];omega),List.drop_of_length_le (by rw [HL'.out];omega)] at hke
   simp only [Zbw] at hke
   subst hke
   go_wp2
   go_ret
   exact ⟨rfl,KS.out⟩
 have hne':((n:Int) != (n':Int))=true:=by rw [bne_iff_ne];omega
 have hk:=HE.out
 rw [Zdx (by rw [HL.out,HL'.out];exact hne)] at hk
 subst hk
 clear hne
 go_enter Tryz.func33,Tryz.ntmps33
 go_wp2
 go_ret
 exact ⟨rfl,Upd.refl _ _⟩
theorem ZkA {w wx:World} {b p b' p':Nat} {k a0 a1 a2 a3 a4 k' a0' a1' a2' a3' a4':Value} (h:Hid (PrAt w b p k a0 a1 a2 a3 a4)) (h':Hid (PrAt w b' p' k' a0' a1' a2' a3' a4')) (hb:b<w.heap.size) (hb':b'<w.heap.size) (hs:Same w wx) :
 Same w wx/\PrAt wx b p k a0 a1 a2 a3 a4/\PrAt wx b' p' k' a0' a1' a2' a3' a4':=⟨hs,h.out.same hb hs,h'.out.same hb' hs⟩
theorem ZdF {F F':Nat->Prop} {A A':Option Addr} {n c n' c':Nat} {ls ms:List PR} (w:World) (h:RdPs w F A n c ls) (h':RdPs w F' A' n' c' ms) {r:Bool} (hr:Zbw Zdk (ls.map PR.dat) (ms.map PR.dat)=r) :
 Calls Tryz.prog 34 #[.slice A n c,.slice A' n' c'] w fun e w'=>e=.returned (.bool r)/\Same w w':=by
 have HL:=qH h.len
 have HL':=qH h'.len
 have hmx:=h.row.max
 have hle:=h.row.le
 have hmx':=h'.row.max
 have hle':=h'.row.le
 unfold maxLen at hmx hmx'
 have hn:n<=9223372036854775807:=by omega
 have hn':n'<=9223372036854775807:=by omega
 clear hmx hmx' hle hle'
 have HR:=qH h
 have HR':=qH h'
 have HE:=qH hr
 clear h h' hr
 by_cases hne:n=n'
 · subst hne
   go_enter Tryz.func34,Tryz.ntmps34
   go_wp2_with fail
   go_loopg [5] n (fun gh ix wr=>∃ k:Nat,n-k=gh/\k<=n/\ix=.int .i64 k/\Hid (Same w wr)/\Hid (Zbw Zdk ((ls.map PR.dat).drop k) ((ms.map PR.dat).drop k)=r))
   case atStart=>exact ⟨0,rfl,Nat.zero_le _,rfl,qH (Upd.refl _ _),HE⟩
   obtain ⟨k,rfl,hk,rfl,KS,KE⟩:=hrel
   by_cases hlt:k<n
   · obtain ⟨b,o,x,rfl,hb,_,hx,hxm,r0,r1,r2,r3,r4,r5⟩:=(HR.out.same KS.out).at_ hlt
     obtain ⟨b',o',y,rfl,hb',_,hy,hym,q0,q1,q2,q3,q4,q5⟩:=(HR'.out.same KS.out).at_ hlt
     have hke:=KE.out
     rw [ZdU (f:=Zdk) (x:=x.dat) (y:=y.dat) (by rw [List.getElem?_map,hx];rfl) (by rw [List.getElem?_map,hy];rfl)] at hke
     have HVx:=qH ((HR.out.val x hxm).mono (F':=fun _=>True) fun _ _ _=>trivial)
     have HVy:=qH ((HR'.out.val y hym).mono (F':=fun _=>True) fun _ _ _=>trivial)
     clear hx hy hxm hym
     obtain ⟨kx,⟨x0,x1,x2,x3,x4⟩,X1,a1,b1,X2,a2,b2⟩:=x
     obtain ⟨ky,⟨y0,y1,y2,y3,y4⟩,Y1,d1,e1,Y2,d2,e2⟩:=y
     simp only at r0 r1 r2 r3 r4 r5 q0 q1 q2 q3 q4 q5
     have HP:=qH (show PrAt wr b (o+k*6) (.string kx) (.int .i64 x0) (.int .i64 x1) (.string x2) (.slice X1 a1 b1) (.slice X2 a2 b2) from ⟨r0,r1,r2,r3,r4,r5⟩)
     have HQ2:=qH (show PrAt wr b' (o'+k*6) (.string ky) (.int .i64 y0) (.int .i64 y1) (.string y2) (.slice Y1 d1 e1) (.slice Y2 d2 e2) from ⟨q0,q1,q2,q3,q4,q5⟩)
     clear r0 r1 r2 r3 r4 r5 q0 q1 q2 q3 q4 q5
     replace hke:((kx.toList==ky.toList && ZeG ⟨x0,x1,x2,x3,x4⟩ ⟨y0,y1,y2,y3,y4⟩) && Zbw Zdk ((ls.map PR.dat).drop (k+1)) ((ms.map PR.dat).drop (k+1)))=r:=hke
     cases hs:(kx.toList==ky.toList) with
     | false =>
       rw [hs,Bool.false_and,Bool.false_and] at hke
       subst hke
       have hkk:(!(kx.toList==ky.toList))=true:=by rw [hs];rfl
       obtain ⟨p0,_,_,_,_,_⟩:=HP.out
       obtain ⟨q0,_,_,_,_,_⟩:=HQ2.out
       go_wp2_with fail
       go_quiet (fail)
       go_wp2
       go_ret
       exact ⟨rfl,KS.out.drewN _⟩
     | true =>
       rw [hs,Bool.true_and] at hke
       have hkk:(!(kx.toList==ky.toList))=false:=by rw [hs];rfl
       obtain ⟨sb,hsb⟩:∃ sb,ZeG ⟨x0,x1,x2,x3,x4⟩ ⟨y0,y1,y2,y3,y4⟩=sb:=⟨_,rfl⟩
       rw [hsb] at hke
       have HK:=qH hke
       have HSB:=qH hsb
       have HVx2:=qH (HVx.out.same KS.out)
       have HVy2:=qH (HVy.out.same KS.out)
       have HS:=qH (Zpx fun wx hs=>Zmc wx (HVx2.out.same hs) (HVy2.out.same hs))
       simp only at HS
       rw [hsb] at HS
       clear hke hsb HVx HVy
       go_upto_region 6 with fail
       have h00:Same wr wr.drew:=(Upd.refl _ wr).drew
       go_region_held3 (fun wx=>Same wr wx/\PrAt wx b (o+k*6) (.string kx) (.int .i64 x0) (.int .i64 x1) (.string x2) (.slice X1 a1 b1) (.slice X2 a2 b2)/\PrAt wx b' (o'+k*6) (.string ky) (.int .i64 y0) (.int .i64 y1) (.string y2) (.slice Y1 d1 e1) (.slice Y2 d2 e2)) (exact ZkA HP HQ2 hb hb' (by assumption)) (first
        | (go_at_call 62;refine (HS.out _ (by assumption)).mono ?_;rintro e w' ⟨rfl,hs⟩))
       all_goals
        cases sb with
        | true =>
          have hke:=HK.out
          rw [Bool.true_and] at hke
          have HK2:=qH hke
          clear hke
          go_wp2
          go_roundg (n-(k+1))
          case measure=>omega
          case rel=>exact ⟨k+1,rfl,by omega,by go_num,qH (KS.out.same (by assumption)),HK2⟩
        | false =>
          have hke:=HK.out
          rw [Bool.false_and] at hke
          subst hke
          go_wp2
          go_ret
          exact ⟨rfl,KS.out.same (by assumption)⟩
   have hke:=KE.out
   rw [List.drop_of_length_le (by rw [List.length_map,HL.out];omega),List.drop_of_length_le (by rw [List.length_map,HL'.out];omega)] at hke
   simp only [Zbw] at hke
   subst hke
   go_wp2
   go_ret
   exact ⟨rfl,KS.out⟩
 have hne':((n:Int) != (n':Int))=true:=by rw [bne_iff_ne];omega
 have hk:=HE.out
 rw [Zdx (by rw [List.length_map,List.length_map,HL.out,HL'.out];exact hne)] at hk
 subst hk
 clear hne
 go_enter Tryz.func34,Tryz.ntmps34
 go_wp2
 go_ret
 exact ⟨rfl,Upd.refl _ _⟩
theorem ZqD {w wx:World} {ga gb b p b' p':Nat} {t:TypeId} {va vb x0 x1 x2 y0 y1 y2 ua ub:Value} (ha:Hid (Blk w ga t #[va,ua])) (hb:Hid (Blk w gb t #[vb,ub])) (hx:Hid (w.cell? ⟨b,p,none⟩=some x0/\w.cell? ⟨b,p+1,none⟩=some x1/\w.cell? ⟨b,p+2,none⟩=some x2)) (hy:Hid (w.cell? ⟨b',p',none⟩=some y0/\w.cell? ⟨b',p'+1,none⟩=some y1/\w.cell? ⟨b',p'+2,none⟩=some y2))
 (hbl:b<w.heap.size) (hbl':b'<w.heap.size) (hs:Same w wx) :
 Same w wx/\wx.cell? ⟨ga,0,none⟩=some va/\wx.cell? ⟨gb,0,none⟩=some vb/\(wx.cell? ⟨b,p,none⟩=some x0/\wx.cell? ⟨b,p+1,none⟩=some x1/\wx.cell? ⟨b,p+2,none⟩=some x2)/\(wx.cell? ⟨b',p',none⟩=some y0/\wx.cell? ⟨b',p'+1,none⟩=some y1/\wx.cell? ⟨b',p'+2,none⟩=some y2):=by
 have hk:∀ b o,b<w.heap.size->wx.cell? ⟨b,o,none⟩=w.cell? ⟨b,o,none⟩:=fun b o h=>hs.cell (p:=⟨b,o,none⟩) h fun f=>f
 refine ⟨hs,(ha.out.same hs).cell 0,(hb.out.same hs).cell 0,?_,?_⟩
 · rw [hk _ _ hbl,hk _ _ hbl,hk _ _ hbl];exact hx.out
 rw [hk _ _ hbl',hk _ _ hbl',hk _ _ hbl'];exact hy.out
theorem ZqE {w wx:World} {ga gb b p b' p':Nat} {t:TypeId} {va vb x0 x1 x2 x3 x4 y0 y1 y2 y3 y4 ua ub:Value} (ha:Hid (Blk w ga t #[ua,va])) (hb:Hid (Blk w gb t #[ub,vb]))
 (hx:Hid (w.cell? ⟨b,p,none⟩=some x0/\w.cell? ⟨b,p+1,none⟩=some x1/\w.cell? ⟨b,p+2,none⟩=some x2/\w.cell? ⟨b,p+3,none⟩=some x3/\w.cell? ⟨b,p+4,none⟩=some x4))
 (hy:Hid (w.cell? ⟨b',p',none⟩=some y0/\w.cell? ⟨b',p'+1,none⟩=some y1/\w.cell? ⟨b',p'+2,none⟩=some y2/\w.cell? ⟨b',p'+3,none⟩=some y3/\w.cell? ⟨b',p'+4,none⟩=some y4))
 (hbl:b<w.heap.size) (hbl':b'<w.heap.size) (hs:Same w wx) :
 Same w wx/\wx.cell? ⟨ga,1,none⟩=some va/\wx.cell? ⟨gb,1,none⟩=some vb/\(wx.cell? ⟨b,p,none⟩=some x0/\wx.cell? ⟨b,p+1,none⟩=some x1/\wx.cell? ⟨b,p+2,none⟩=some x2/\wx.cell? ⟨b,p+3,none⟩=some x3/\wx.cell? ⟨b,p+4,none⟩=some x4) /\
  (wx.cell? ⟨b',p',none⟩=some y0/\wx.cell? ⟨b',p'+1,none⟩=some y1/\wx.cell? ⟨b',p'+2,none⟩=some y2/\wx.cell? ⟨b',p'+3,none⟩=some y3/\wx.cell? ⟨b',p'+4,none⟩=some y4):=by
 have hk:∀ b o,b<w.heap.size->wx.cell? ⟨b,o,none⟩=w.cell? ⟨b,o,none⟩:=fun b o h=>hs.cell (p:=⟨b,o,none⟩) h fun f=>f
 refine ⟨hs,(ha.out.same hs).cell 1,(hb.out.same hs).cell 1,?_,?_⟩
 · rw [hk _ _ hbl,hk _ _ hbl,hk _ _ hbl,hk _ _ hbl,hk _ _ hbl];exact hx.out
 rw [hk _ _ hbl',hk _ _ hbl',hk _ _ hbl',hk _ _ hbl',hk _ _ hbl'];exact hy.out
theorem ZlG (w:World) (o:Obj) (t:TypeId) (cs:Array Value):Blk ((w.alloc o).alloc (.cells cs t)) (w.heap.size+1) t cs:=by
 have h:=Blk.new (w.alloc o) t cs
 rwa [World.size_alloc] at h
theorem Zev {F F':Nat->Prop} (w:World) (g g':GR) (h:RdG w F g) (h':RdG w F' g') {r:Bool} (hr:Zpy g.dat g'.dat=r) :
 Calls Tryz.prog 17 #[g.agg,g'.agg] w fun e w'=>e=.returned (.bool r)/\Same w w':=by
 obtain ⟨ns,AN,nN,cN,rs,AR,nR,cR⟩:=g
 obtain ⟨ns',AN',nN',cN',rs',AR',nR',cR'⟩:=g'
 replace hr:(Zbw ZfM (ns.map ND.dat) (ns'.map ND.dat) && Zbw Zek (rs.map RL.dat) (rs'.map RL.dat))=r:=hr
 have hs1:=(Upd.refl (fun _=>False) w).alloc (.cells #[.slice AN nN cN,.slice AR nR cR] 26)
 have hs2:=hs1.alloc (.cells #[.slice AN' nN' cN',.slice AR' nR' cR'] 26)
 have hb1:=(Blk.new w 26 #[.slice AN nN cN,.slice AR nR cR]).alloc (.cells #[.slice AN' nN' cN',.slice AR' nR' cR'] 26)
 have hb2:=Blk.new (w.alloc (.cells #[.slice AN nN cN,.slice AR nR cR] 26)) 26 #[.slice AN' nN' cN',.slice AR' nR' cR']
 rw [World.size_alloc] at hb2
 have HN:=qH (h.nodes.mono (F':=fun _=>True) fun _ _ _=>trivial)
 have HN':=qH (h'.nodes.mono (F':=fun _=>True) fun _ _ _=>trivial)
 have HR:=qH (h.rels.mono (F':=fun _=>True) fun _ _ _=>trivial)
 have HR':=qH (h'.rels.mono (F':=fun _=>True) fun _ _ _=>trivial)
 simp only at HN HN' HR HR'
 have HL:=qH HN.out.len
 have HL':=qH HN'.out.len
 have HM:=qH HR.out.len
 have HM':=qH HR'.out.len
 have m1:=HN.out.row.max
 have m2:=HN.out.row.le
 have m3:=HN'.out.row.max
 have m4:=HN'.out.row.le
 have m5:=HR.out.row.max
 have m6:=HR.out.row.le
 have m7:=HR'.out.row.max
 have m8:=HR'.out.row.le
 unfold maxLen at m1 m3 m5 m7
 have hn1:nN<=9223372036854775807:=by omega
 have hn2:nN'<=9223372036854775807:=by omega
 have hn3:nR<=9223372036854775807:=by omega
 have hn4:nR'<=9223372036854775807:=by omega
 clear m1 m2 m3 m4 m5 m6 m7 m8
 have HE:=qH hr
 have HS0:=qH hs2
 have HB1:=qH hb1
 have HB2:=qH hb2
 clear h h' hs1 hs2 hb1 hb2 hr
 by_cases hne:nN=nN'
 · subst hne
   by_cases hne2:nR=nR'
   · subst hne2
     go_enter Tryz.func17,Tryz.ntmps17
     go_wp2_with fail
     generalize (w.alloc (.cells #[.slice AN nN cN,.slice AR nR cR] 26)).alloc (.cells #[.slice AN' nN cN',.slice AR' nR cR'] 26)=w1 at *
     go_loopg [5] nN (fun gh ix wr=>∃ i:Nat,nN-i=gh/\i<=nN/\ix=.int .i64 i/\Hid (Same w wr)/\Hid (Blk wr w.heap.size 26 #[.slice AN nN cN,.slice AR nR cR])/\Hid (Blk wr (w.heap.size+1) 26 #[.slice AN' nN cN',.slice AR' nR cR']) /\
      Hid ((Zbw ZfM ((ns.map ND.dat).drop i) ((ns'.map ND.dat).drop i) && Zbw Zek (rs.map RL.dat) (rs'.map RL.dat))=r))
     case atStart=>exact ⟨0,rfl,Nat.zero_le _,rfl,HS0,HB1,HB2,HE⟩
     clear HS0 HB1 HB2 HE
     obtain ⟨i,rfl,hi,rfl,KS,KB1,KB2,KE⟩:=hrel
     have p1:wr.cell? ⟨w.heap.size,0,none⟩=some (.slice AN nN cN):=KB1.out.cell 0
     by_cases hlt:i<nN
     · obtain ⟨b,o,x,rfl,hb,_,hx,hxm,r0,r1,r2⟩:=(HN.out.same KS.out).at_ hlt
       obtain ⟨b',o',y,rfl,hb',_,hy,hym,q0,q1,q2⟩:=(HN'.out.same KS.out).at_ hlt
       have hke:=KE.out
       rw [ZdU (f:=ZfM) (x:=x.dat) (y:=y.dat) (by rw [List.getElem?_map,hx];rfl) (by rw [List.getElem?_map,hy];rfl)] at hke
       have HLx:=qH ((HN.out.same KS.out).lab x hxm)
       have HLy:=qH ((HN'.out.same KS.out).lab y hym)
       have HPx:=qH ((HN.out.same KS.out).pro x hxm)
       have HPy:=qH ((HN'.out.same KS.out).pro y hym)
       clear hx hy hxm hym
       obtain ⟨ix,lx,ALx,nLx,cLx,psx,APx,nPx,cPx⟩:=x
       obtain ⟨iy,ly,ALy,nLy,cLy,psy,APy,nPy,cPy⟩:=y
       simp only at r0 r1 r2 q0 q1 q2
       have HX:=qH (And.intro r0 (And.intro r1 r2))
       have HY:=qH (And.intro q0 (And.intro q1 q2))
       have HK:=qH hke
       clear hke r0 r1 r2 q0 q1 q2 KE
       go_upto_region 6 with fail
       clear p1
       have h00:Same wr wr.drew:=(Upd.refl _ wr).drew
       go_cut [6,7] from 34 to 64 (fun s6 s7 wx=>∃ g6 g7:Nat,s6=.pointer (some ⟨g6,0,none⟩)/\s7=.pointer (some ⟨g7,0,none⟩)/\Hid (Blk wx g6 43 #[.int .i64 ix,.slice ALx nLx cLx,.slice APx nPx cPx])/\Hid (Blk wx g7 43 #[.int .i64 iy,.slice ALy nLy cLy,.slice APy nPy cPy])/\Hid (Same wr wx))
       case first =>
        go_region_held3 (fun wx=>Same wr wx/\wx.cell? ⟨w.heap.size,0,none⟩=some (.slice (some ⟨b,o,none⟩) nN cN)/\wx.cell? ⟨w.heap.size+1,0,none⟩=some (.slice (some ⟨b',o',none⟩) nN cN')/\(wx.cell? ⟨b,o+i*3,none⟩=some (.int .i64 ix)/\wx.cell? ⟨b,o+i*3+1,none⟩=some (.slice ALx nLx cLx)/\wx.cell? ⟨b,o+i*3+2,none⟩=some (.slice APx nPx cPx)) /\
         (wx.cell? ⟨b',o'+i*3,none⟩=some (.int .i64 iy)/\wx.cell? ⟨b',o'+i*3+1,none⟩=some (.slice ALy nLy cLy)/\wx.cell? ⟨b',o'+i*3+2,none⟩=some (.slice APy nPy cPy))) (exact ZqD KB1 KB2 HX HY hb hb' (by repeat (first | assumption | exact Upd.refl _ _ | refine Upd.drew ?_ | refine Upd.alloc ?_ _))) (fail)
        all_goals go_wp2
        all_goals go_meet
        all_goals refine ⟨_,_,rfl,rfl,qH ?_,qH ?_,qH (((Upd.refl _ wr).alloc _).alloc _).drew⟩
        all_goals first
         | exact ((Blk.new _ _ _).alloc _).drew
         | exact (ZlG _ _ _ _).drew
       obtain ⟨g6,g7,rfl,rfl,JB6,JB7,JS⟩:=hcut
       have k0:wc.cell? ⟨g6,0,none⟩=some (.int .i64 ix):=JB6.out.cell 0
       have k1:wc.cell? ⟨g6,1,none⟩=some (.slice ALx nLx cLx):=JB6.out.cell 1
       have l0:wc.cell? ⟨g7,0,none⟩=some (.int .i64 iy):=JB7.out.cell 0
       have l1:wc.cell? ⟨g7,1,none⟩=some (.slice ALy nLy cLy):=JB7.out.cell 1
       have HK2:=qH (show (((decide (ix=iy) && Zbw eqS lx ly) && Zbw Zdk (psx.map PR.dat) (psy.map PR.dat)) && Zbw ZfM ((ns.map ND.dat).drop (i+1)) ((ns'.map ND.dat).drop (i+1)) && Zbw Zek (rs.map RL.dat) (rs'.map RL.dat))=r from HK.out)
       clear HK h00
       by_cases hid:ix=iy
       · subst hid
         obtain ⟨q1,hq1⟩:∃ q1,Zbw eqS lx ly=q1:=⟨_,rfl⟩
         have hkk:=HK2.out
         rw [decide_eq_true rfl,Bool.true_and,hq1] at hkk
         have HQ1:=qH hq1
         have HK3:=qH hkk
         clear hkk hq1 HK2
         go_wp2_with fail
         refine (Zho wc (HLx.out.same JS.out) (HLy.out.same JS.out) HQ1.out).mono ?_
         rintro e w8 ⟨rfl,hs8⟩
         have JS8:=qH (JS.out.same hs8)
         have m2:w8.cell? ⟨g6,2,none⟩=some (.slice APx nPx cPx):=(JB6.out.same hs8).cell 2
         have m3:w8.cell? ⟨g7,2,none⟩=some (.slice APy nPy cPy):=(JB7.out.same hs8).cell 2
         clear k0 k1 l0 l1 hs8 JS
         cases q1 with
         | false =>
           have hkk:=HK3.out
           simp only [Bool.false_and] at hkk
           subst hkk
           go_wp2
           go_ret
           exact ⟨rfl,KS.out.same JS8.out⟩
         | true =>
           obtain ⟨q2,hq2⟩:∃ q2,Zbw Zdk (psx.map PR.dat) (psy.map PR.dat)=q2:=⟨_,rfl⟩
           have hkk:=HK3.out
           rw [Bool.true_and,hq2] at hkk
           have HQ2:=qH hq2
           have HK4:=qH hkk
           clear hkk hq2 HK3
           go_wp2_with fail
           refine (ZdF w8 (HPx.out.same JS8.out) (HPy.out.same JS8.out) HQ2.out).mono ?_
           rintro e w9 ⟨rfl,hs9⟩
           have JS9:=qH (JS8.out.same hs9)
           clear hs9 JS8 m2 m3
           cases q2 with
           | false =>
             have hkk:=HK4.out
             simp only [Bool.false_and] at hkk
             subst hkk
             go_wp2
             go_ret
             exact ⟨rfl,KS.out.same JS9.out⟩
           | true =>
             have hkk:=HK4.out
             rw [Bool.true_and] at hkk
             have HK5:=qH hkk
             clear hkk HK4
             go_wp2
             go_roundg (nN-(i+1))
             case measure=>omega
             case rel=>exact ⟨i+1,rfl,by omega,by go_num,qH (KS.out.same JS9.out),qH (KB1.out.same JS9.out),qH (KB2.out.same JS9.out),HK5⟩
       have hkk:=HK2.out
       rw [decide_eq_false hid] at hkk
       simp only [Bool.false_and] at hkk
       subst hkk
       have hne':((ix:Int) != iy)=true:=by rw [bne_iff_ne];exact hid
       clear HK2 hid
       go_wp2
       go_ret
       exact ⟨rfl,KS.out.same JS.out⟩
     have hin:i=nN:=by omega
     subst hin
     have hkk:=KE.out
     rw [List.drop_of_length_le (by rw [List.length_map,HL.out];exact Nat.le_refl _),List.drop_of_length_le (by rw [List.length_map,HL'.out];exact Nat.le_refl _)] at hkk
     simp only [Zbw,Bool.true_and] at hkk
     have HK:=qH hkk
     clear hkk KE hlt
     obtain ⟨wo,rfl⟩:∃ wo:World,wo=wr:=⟨_,rfl⟩
     go_wp2_with fail
     clear p1
     go_loopg [8] nR (fun gh ix wr=>∃ j:Nat,nR-j=gh/\j<=nR/\ix=.int .i64 j/\Hid (Same w wr)/\Hid (Blk wr w.heap.size 26 #[.slice AN i cN,.slice AR nR cR])/\Hid (Blk wr (w.heap.size+1) 26 #[.slice AN' i cN',.slice AR' nR cR']) /\
      Hid (Zbw Zek ((rs.map RL.dat).drop j) ((rs'.map RL.dat).drop j)=r))
     case atStart=>exact ⟨0,rfl,Nat.zero_le _,rfl,KS,KB1,KB2,HK⟩
     clear KS KB1 KB2 HK
     obtain ⟨j,rfl,hj,rfl,KS,KB1,KB2,KE⟩:=hrel
     have p1:wr.cell? ⟨w.heap.size,1,none⟩=some (.slice AR nR cR):=KB1.out.cell 1
     by_cases hlt:j<nR
     · obtain ⟨b,o,x,rfl,hb,_,hx,hxm,r0,r1,r2,r3,r4⟩:=(HR.out.same KS.out).at_ hlt
       obtain ⟨b',o',y,rfl,hb',_,hy,hym,q0,q1,q2,q3,q4⟩:=(HR'.out.same KS.out).at_ hlt
       have hke:=KE.out
       rw [ZdU (f:=Zek) (x:=x.dat) (y:=y.dat) (by rw [List.getElem?_map,hx];rfl) (by rw [List.getElem?_map,hy];rfl)] at hke
       have HPx:=qH ((HR.out.same KS.out).pro x hxm)
       have HPy:=qH ((HR'.out.same KS.out).pro y hym)
       clear hx hy hxm hym
       obtain ⟨ix,tx,sx,dx,psx,APx,nPx,cPx⟩:=x
       obtain ⟨iy,ty,sy,dy,psy,APy,nPy,cPy⟩:=y
       simp only at r0 r1 r2 r3 r4 q0 q1 q2 q3 q4
       have HX:=qH (And.intro r0 (And.intro r1 (And.intro r2 (And.intro r3 r4))))
       have HY:=qH (And.intro q0 (And.intro q1 (And.intro q2 (And.intro q3 q4))))
       have HK:=qH hke
       clear hke r0 r1 r2 r3 r4 q0 q1 q2 q3 q4 KE
       go_upto_region 12 with fail
       clear p1
       have h00:Same wr wr.drew:=(Upd.refl _ wr).drew
       go_cut [9,10] from 72 to 115 (fun s6 s7 wx=>∃ g6 g7:Nat,s6=.pointer (some ⟨g6,0,none⟩)/\s7=.pointer (some ⟨g7,0,none⟩)/\Hid (Blk wx g6 50 #[.int .i64 ix,.string tx,.int .i64 sx,.int .i64 dx,.slice APx nPx cPx])/\Hid (Blk wx g7 50 #[.int .i64 iy,.string ty,.int .i64 sy,.int .i64 dy,.slice APy nPy cPy])/\Hid (Same wr wx))
       case first =>
        go_region_held3 (fun wx=>Same wr wx/\wx.cell? ⟨w.heap.size,1,none⟩=some (.slice (some ⟨b,o,none⟩) nR cR)/\wx.cell? ⟨w.heap.size+1,1,none⟩=some (.slice (some ⟨b',o',none⟩) nR cR') /\
         (wx.cell? ⟨b,o+j*5,none⟩=some (.int .i64 ix)/\wx.cell? ⟨b,o+j*5+1,none⟩=some (.string tx)/\wx.cell? ⟨b,o+j*5+2,none⟩=some (.int .i64 sx)/\wx.cell? ⟨b,o+j*5+3,none⟩=some (.int .i64 dx)/\wx.cell? ⟨b,o+j*5+4,none⟩=some (.slice APx nPx cPx)) /\
         (wx.cell? ⟨b',o'+j*5,none⟩=some (.int .i64 iy)/\wx.cell? ⟨b',o'+j*5+1,none⟩=some (.string ty)/\wx.cell? ⟨b',o'+j*5+2,none⟩=some (.int .i64 sy)/\wx.cell? ⟨b',o'+j*5+3,none⟩=some (.int .i64 dy)/\wx.cell? ⟨b',o'+j*5+4,none⟩=some (.slice APy nPy cPy))) (exact ZqE KB1 KB2 HX HY hb hb' (by repeat (first | assumption | exact Upd.refl _ _ | refine Upd.drew ?_ | refine Upd.alloc ?_ _))) (fail)
        all_goals go_wp2
        all_goals go_meet
        all_goals refine ⟨_,_,rfl,rfl,qH ?_,qH ?_,qH (((Upd.refl _ wr).alloc _).alloc _).drew⟩
        all_goals first
         | exact ((Blk.new _ _ _).alloc _).drew
         | exact (ZlG _ _ _ _).drew
       obtain ⟨g6,g7,rfl,rfl,JB6,JB7,JS⟩:=hcut
       have k0:wc.cell? ⟨g6,0,none⟩=some (.int .i64 ix):=JB6.out.cell 0
       have k1:wc.cell? ⟨g6,1,none⟩=some (.string tx):=JB6.out.cell 1
       have k2:wc.cell? ⟨g6,2,none⟩=some (.int .i64 sx):=JB6.out.cell 2
       have k3:wc.cell? ⟨g6,3,none⟩=some (.int .i64 dx):=JB6.out.cell 3
       have k4:wc.cell? ⟨g6,4,none⟩=some (.slice APx nPx cPx):=JB6.out.cell 4
       have l0:wc.cell? ⟨g7,0,none⟩=some (.int .i64 iy):=JB7.out.cell 0
       have l1:wc.cell? ⟨g7,1,none⟩=some (.string ty):=JB7.out.cell 1
       have l2:wc.cell? ⟨g7,2,none⟩=some (.int .i64 sy):=JB7.out.cell 2
       have l3:wc.cell? ⟨g7,3,none⟩=some (.int .i64 dy):=JB7.out.cell 3
       have l4:wc.cell? ⟨g7,4,none⟩=some (.slice APy nPy cPy):=JB7.out.cell 4
       have HK2:=qH (show ((((decide (ix=iy) && (tx.toList==ty.toList)) && decide (sx=sy)) && decide (dx=dy)) && Zbw Zdk (psx.map PR.dat) (psy.map PR.dat) && Zbw Zek ((rs.map RL.dat).drop (j+1)) ((rs'.map RL.dat).drop (j+1)))=r from HK.out)
       clear HK h00
       by_cases hid:ix=iy
       · subst hid
         cases htt:(tx.toList==ty.toList) with
         | false =>
           have hkk:=HK2.out
           simp only [htt,decide_true,Bool.true_and,Bool.false_and] at hkk
           subst hkk
           have ht2:(!(tx.toList==ty.toList))=true:=by rw [htt];rfl
           clear HK2
           go_wp2
           go_ret
           exact ⟨rfl,KS.out.same JS.out⟩
         | true =>
           have ht2:(!(tx.toList==ty.toList))=false:=by rw [htt];rfl
           by_cases hsd:sx=sy
           · subst hsd
             by_cases hdd:dx=dy
             · subst hdd
               obtain ⟨q2,hq2⟩:∃ q2,Zbw Zdk (psx.map PR.dat) (psy.map PR.dat)=q2:=⟨_,rfl⟩
               have hkk:=HK2.out
               simp only [htt,decide_true,Bool.true_and,hq2] at hkk
               have HQ2:=qH hq2
               have HK4:=qH hkk
               clear hkk hq2 HK2
               go_wp2_with fail
               refine (ZdF wc (HPx.out.same JS.out) (HPy.out.same JS.out) HQ2.out).mono ?_
               rintro e w9 ⟨rfl,hs9⟩
               have JS9:=qH (JS.out.same hs9)
               clear hs9 k0 k1 k2 k3 k4 l0 l1 l2 l3 l4 JS
               cases q2 with
               | false =>
                 have hkk:=HK4.out
                 simp only [Bool.false_and] at hkk
                 subst hkk
                 go_wp2
                 go_ret
                 exact ⟨rfl,KS.out.same JS9.out⟩
               | true =>
                 have hkk:=HK4.out
                 rw [Bool.true_and] at hkk
                 have HK5:=qH hkk
                 clear hkk HK4
                 go_wp2
                 go_roundg (nR-(j+1))
                 case measure=>omega
                 case rel=>exact ⟨j+1,rfl,by omega,by go_num,qH (KS.out.same JS9.out),qH (KB1.out.same JS9.out),qH (KB2.out.same JS9.out),HK5⟩
             have hkk:=HK2.out
             simp only [decide_eq_false hdd,Bool.and_false,Bool.false_and] at hkk
             subst hkk
             have hne':((dx:Int) != dy)=true:=by rw [bne_iff_ne];exact hdd
             clear HK2 hdd
             go_wp2
             go_ret
             exact ⟨rfl,KS.out.same JS.out⟩
           have hkk:=HK2.out
           simp only [decide_eq_false hsd,Bool.and_false,Bool.false_and] at hkk
           subst hkk
           have hne':((sx:Int) != sy)=true:=by rw [bne_iff_ne];exact hsd
           clear HK2 hsd
           go_wp2
           go_ret
           exact ⟨rfl,KS.out.same JS.out⟩
       have hkk:=HK2.out
       rw [decide_eq_false hid] at hkk
       simp only [Bool.false_and] at hkk
       subst hkk
       have hne':((ix:Int) != iy)=true:=by rw [bne_iff_ne];exact hid
       clear HK2 hid
       go_wp2
       go_ret
       exact ⟨rfl,KS.out.same JS.out⟩
     have hkk:=KE.out
     rw [List.drop_of_length_le (by rw [List.length_map,HM.out];omega),List.drop_of_length_le (by rw [List.length_map,HM'.out];omega)] at hkk
     simp only [Zbw] at hkk
     subst hkk
     go_wp2
     go_ret
     exact ⟨rfl,KS.out⟩
   have hne':((nR:Int) != (nR':Int))=true:=by rw [bne_iff_ne];omega
   have hk:=HE.out
   rw [Zdx (f:=Zek) (by rw [List.length_map,List.length_map,HM.out,HM'.out];exact hne2),Bool.and_false] at hk
   subst hk
   clear hne2
   go_enter Tryz.func17,Tryz.ntmps17
   go_wp2
   go_ret
   exact ⟨rfl,HS0.out⟩
 have hne':((nN:Int) != (nN':Int))=true:=by rw [bne_iff_ne];omega
 have hk:=HE.out
 rw [Zdx (f:=ZfM) (by rw [List.length_map,List.length_map,HL.out,HL'.out];exact hne),Bool.false_and] at hk
 subst hk
 clear hne
 go_enter Tryz.func17,Tryz.ntmps17
 go_wp2
 go_ret
 exact ⟨rfl,HS0.out⟩
theorem ZhK {s m:List ByteArray} (h:Srt s m):Zcp s (m.map fun x=>x.data.toList) where
 sorted:=by
  rw [List.pairwise_map]
  exact h.sorted.imp fun {a b} (hh:ltS a b)=>List.le_of_lt hh
 nodup:=by
  rw [List.nodup_iff_pairwise_ne,List.pairwise_map]
  refine h.sorted.imp fun {a b} (hh:ltS a b) e=>?_
  have h2:a.data.toList<b.data.toList:=hh
  rw [e] at h2
  exact List.lt_irrefl _ h2
 mem:=fun x=>by
  rw [List.mem_map,<-h.mem]
  constructor
  · rintro ⟨y,hy,rfl⟩
    simpa using hy
  intro hx
  exact ⟨_,hx,by simp⟩
theorem ZlH {s m:List ByteArray} {l:List (List UInt8)} (h:Zcp s l) (h':Srt s m):l.map strV=m.map Value.string/\l.length=m.length:=by
 rw [h.unique (ZhK h'),List.map_map,List.length_map]
 exact ⟨List.map_congr_left fun x _=>by simp [strV],rfl⟩
theorem ZoT {F:Nat->Prop} (w0 w:World) (g:GR) (hs:Same w0 w) (h:RdG w0 F g) (ht:ZgP g) (k:Int) (hT:(Zag g.dat k).length<=8796093022208) {m:List ByteArray} (hm:Srt (Zag g.dat k) m) :
 Calls Tryz.prog 58 #[g.agg,.int .i64 k] w fun e w'=>∃ (A:Option Addr) (c:Nat),e=.returned (.slice A m.length c)/\Hid (w'.ownsRow w.heap.size 9 1 (.slice A m.length c) m.length (m.map Value.string))/\Same w w'/\Same w0 w':=by
 refine (Zmt w g (h.same hs) ht k hT).mono ?_
 rintro e w' ⟨v,l,rfl,h1,h2,h3⟩
 obtain ⟨h4,h5⟩:=ZlH h1 hm
 rw [h4,h5] at h2
 obtain ⟨A,c,rfl⟩:=Zad h2
 exact ⟨A,c,rfl,qH h2,h3,hs.same h3⟩
end Go.Proofs.YtkopcinhbjimiaaGreatDoor
