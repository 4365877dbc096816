/- Texts that the claim leans on: walks and plain laws, function by function. -/
import Derived.Test.YtkopcinhbjimiaaGreatDoorQ35
set_option maxRecDepth 100000
set_option maxHeartbeats 16000000
namespace Go.Proofs.YtkopcinhbjimiaaGreatDoor
open Go.RowKit
theorem ZnY {tmps:Array Value} {wE:World} {g:Nat} {a0 a1 a2 v0 v1 v2 v3:Value} {R:Ending->World->Prop} (h2:tmps.getD 2 undef=.pointer (some ⟨g,0,none⟩)) (h3:tmps.getD 3 undef=v3) (hb:Blk wE g 43 #[a0,a1,a2])
 (hR:R (.returned (.tuple #[.agg #[v0,v1,v2],v3])) (((wE.setCell ⟨g,0,none⟩ v0).setCell ⟨g,1,none⟩ v1).setCell ⟨g,2,none⟩ v2)) :
 bodyPost Tryz.prog Tryz.f89 R Exit.ret { tmps:=tmps,defers:=[] } (((wE.setCell ⟨g,0,none⟩ v0).setCell ⟨g,1,none⟩ v1).setCell ⟨g,2,none⟩ v2):=by
 have hb2:=((hb.put 0 v0).put 1 v1).put 2 v2
 have c0:=hb2.cell 0
 have c1:=hb2.cell 1
 have c2:=hb2.cell 2
 generalize ((wE.setCell ⟨g,0,none⟩ v0).setCell ⟨g,1,none⟩ v1).setCell ⟨g,2,none⟩ v2=W at *
 refine bodyPost_ret (v:=.tuple #[.agg #[v0,v1,v2],v3]) ?_ rfl hR
 simp only [Array.getD_eq_getD_getElem?] at h2 h3
 simp [results,Tryz.results89,go_sem,h2,h3,c0,c1,c2]
theorem ZqK {w1 wx:World} {g gn r:Nat} {t t':TypeId} {a0 a1 a2 b0 b1 b2:Value} (h:Hid (Blk w1 gn t #[a0,a1,a2])) (h':Hid (Blk w1 r t' #[b0,b1,b2])) (h1:gn≠g) (h2:r≠g) (hs:Upd (fun b=>b=g) w1 wx) :
 wx.cell? ⟨gn,0,none⟩=some a0/\wx.cell? ⟨gn,1,none⟩=some a1/\wx.cell? ⟨gn,2,none⟩=some a2/\wx.cell? ⟨r,2,none⟩=some b2 :=
 ⟨(h.out.upd hs h1).cell 0,(h.out.upd hs h1).cell 1,(h.out.upd hs h1).cell 2,(h'.out.upd hs h2).cell 2⟩
theorem ZmG {F:Nat->Prop} {A:Option Addr} {n c:Nat} {bs:List UInt8} (w:World) (hb:Bytes w F A n c bs) (hn:n<=140737488355328) :
 Calls Tryz.prog 89 #[.slice A n c] w (Zfu bs w):=by
 have hL:=hb.len
 have HY:=qH (hb.mono (F':=fun b=>b<w.heap.size) fun b h _=>h)
 have HP:=qH (show pNd bs=(RS.names ((RS.num ⟨bs,0⟩ 4).2.num 1).1 ((RS.num ⟨bs,0⟩ 4).2.num 1).2).2.props.map fun ps=>(⟨(((RS.num ⟨bs,0⟩ 4).1:Nat):Int),(RS.names ((RS.num ⟨bs,0⟩ 4).2.num 1).1 ((RS.num ⟨bs,0⟩ 4).2.num 1).2).1,ps⟩:ZaP) from rfl)
 have HNR:=qH (show ∀ e w',Zfu bs w e w'↔∃ (x:ND) (ok:Bool),e=.returned (.tuple #[.agg #[.int .i64 x.id,.slice x.AL x.nL x.cL,.slice x.AP x.nP x.cP],.bool ok])/\ZcJ w' w.heap.size x/\(ok=true->pNd bs=some x.dat)/\(ok=false->pNd bs=none)/\Same w w' from fun e w'=>Iff.rfl)
 generalize Zfu bs w=NRes at HNR ⊢
 have h32:=RS.num4_lt ⟨bs,0⟩
 have h8:=RS.num1_lt (RS.num ⟨bs,0⟩ 4).2
 have hbn:bs.length<=140737488355328:=by omega
 obtain ⟨g,hg⟩:∃ g,w.heap.size=g:=⟨_,rfl⟩
 have hs0:=((Upd.refl (fun _=>False) w).alloc (.cells #[.int .i64 0,.slice none 0 0,.slice none 0 0] 43)).alloc (.cells #[.slice A n c,.int .i64 0,.bool false] 179)
 have hb0:=(Blk.new w 43 #[.int .i64 0,.slice none 0 0,.slice none 0 0]).alloc (.cells #[.slice A n c,.int .i64 0,.bool false] 179)
 have hc0:=Blk.new (w.alloc (.cells #[.int .i64 0,.slice none 0 0,.slice none 0 0] 43)) 179 #[.slice A n c,.int .i64 0,.bool false]
 rw [World.size_alloc] at hc0
 have HB0:=qH hb0
 have HC0:=qH (show Cur ((w.alloc (.cells #[.int .i64 0,.slice none 0 0,.slice none 0 0] 43)).alloc (.cells #[.slice A n c,.int .i64 0,.bool false] 179)) (fun b=>b<g) (g+1) bs ⟨bs,0⟩ from ⟨A,n,c,0,false,by rw [<- hg];exact hc0,(HY.out.same hs0).mono fun b _ h=>by rw [<- hg];exact h,Nat.zero_le _,rfl,fun _=>rfl⟩)
 have HS0:=qH hs0
 have HZ0:=qH (show ((w.alloc (.cells #[.int .i64 0,.slice none 0 0,.slice none 0 0] 43)).alloc (.cells #[.slice A n c,.int .i64 0,.bool false] 179)).heap.size=g+1+1 by simp only [World.size_alloc];rw [hg])
 have HF:=qH (show ¬ (g+1<g) by omega)
 clear hb hs0 hb0 hc0 hL
 go_enter Tryz.func89,Tryz.ntmps89
 go_wp2_with fail
 generalize (w.alloc (.cells #[.int .i64 0,.slice none 0 0,.slice none 0 0] 43)).alloc (.cells #[.slice A n c,.int .i64 0,.bool false] 179)=w1 at *
 rw [hg] at HB0
 have HG:=qH hg
 clear hg
 refine (Zee HC0.out HF.out hbn).mono ?_
 rintro e w2 ⟨rfl,hc2,hu2⟩
 have HC2:=qH hc2
 have HB2:=qH (HB0.out.upd hu2 (by omega))
 have HU2:=qH ((HS0.out.mono (S':=fun b=>b=g+1) fun _ _ f=>f.elim).trans hu2 fun _ _ hh=>hh)
 have HZ2:=qH hu2.size
 clear hc2 hu2 HC0 HB0
 generalize RS.num ⟨bs,0⟩ 4=S2 at *
 obtain ⟨id,s2⟩:=S2
 simp only at h32 h8 HP HC2 ⊢
 have hsa:=(Upd.refl (fun _=>False) w2).alloc (.cells #[.int .i64 (id:Int),.slice none 0 0,.slice none 0 0] 43)
 have HN3:=qH (Blk.new w2 43 #[.int .i64 (id:Int),.slice none 0 0,.slice none 0 0])
 have HC3:=qH (HC2.out.same hsa)
 have HB3:=qH (HB2.out.same hsa)
 have HU3:=qH (HU2.out.same hsa)
 have HZ3:=qH (show w2.heap.size<(w2.alloc (.cells #[.int .i64 (id:Int),.slice none 0 0,.slice none 0 0] 43)).heap.size by rw [World.size_alloc];omega)
 obtain ⟨gn,hgn⟩:∃ gn,w2.heap.size=gn:=⟨_,rfl⟩
 have hne1:gn≠g:=by have:=HZ0.out;have:=HZ2.out;omega
 have hne2:gn≠g+1:=by have:=HZ0.out;have:=HZ2.out;omega
 have hgnz:g+1+1<=gn:=by have:=HZ0.out;have:=HZ2.out;omega
 clear hsa HC2 HB2
 go_wp2_with fail
 generalize w2.alloc (.cells #[.int .i64 (id:Int),.slice none 0 0,.slice none 0 0] 43)=w3 at *
 rw [hgn] at HN3 HZ3
 clear hgn
 refine (Zfz HC3.out HF.out hbn).mono ?_
 rintro e w4 ⟨rfl,hc4,hu4⟩
 have HC4:=qH hc4
 have HN4:=qH (HN3.out.upd hu4 hne2)
 have HB4:=qH (HB3.out.upd hu4 (by omega))
 have HU4:=qH (HU3.out.trans hu4 fun _ _ hh=>hh)
 have HZ4:=qH hu4.size
 clear hc4 hu4 HC3 HN3 HB3 HU3
 generalize s2.num 1=S4 at *
 obtain ⟨cnt,s4⟩:=S4
 simp only at h8 HP HC4 ⊢
 have hz4:gn<w4.heap.size:=Nat.lt_of_lt_of_le HZ3.out HZ4.out
 go_wp2_with fail
 obtain ⟨wo,hwo⟩:∃ wo:World,wo=w4:=⟨_,rfl⟩
 have HWO:=qH hwo
 clear hwo
 go_loopg [7] cnt (fun gh ix wr=>∃ (k:Nat) (Ao:Option Addr) (co:Nat) (sk:RS) (ls:List ByteArray),cnt-k=gh/\k<=cnt/\ix=.int .i64 k/\Hid (ls.length=k)/\Hid (Cur wr (fun b=>b<g) (g+1) bs sk)/\Hid (wr.ownsRow wo.heap.size 9 1 (.slice Ao k co) k (ls.map Value.string))/\Hid (Blk wr gn 43 #[.int .i64 (id:Int),.slice Ao k co,.slice none 0 0])/\Hid (RS.names cnt s4=(ls++(RS.names (cnt-k) sk).1,(RS.names (cnt-k) sk).2))/\Hid (Upd (fun b=>b=gn\/b=g+1) wo wr))
 case atStart=>exact ⟨0,none,0,s4,[],rfl,Nat.zero_le _,rfl,qH rfl,HC4,qH (World.ownsRow_nil _ _ _ _),HN4,qH (by simp),qH (by rw [HWO.out];exact Upd.refl _ _)⟩
 rw [<- HWO.out] at hz4
 have HB4':Hid (Blk wo g 43 #[.int .i64 0,.slice none 0 0,.slice none 0 0]):=qH (by rw [HWO.out];exact HB4.out)
 have HU4':Hid (Upd (fun b=>b=g+1) w wo):=qH (by rw [HWO.out];exact HU4.out)
 clear HB4 HU4 HC4 HN4 HZ4 HWO
 obtain ⟨k,Ao,co,sk,ls,rfl,hk,rfl,KL,KC,KO,KB,KP,KU⟩:=hrel
 by_cases hlk:k<cnt
 · have hnk:cnt-k=(cnt-(k+1))+1:=by omega
   have HK:=qH (show RS.names cnt s4=(ls++sk.name.1::(RS.names (cnt-(k+1)) sk.name.2).1,(RS.names (cnt-(k+1)) sk.name.2).2) by
    rw [KP.out,hnk]
    rfl)
   have hzr:=KU.out.size
   clear hnk
   go_upto_region 7 with fail
   have s0:Same wr wr.drew:=(Upd.refl _ wr).drew
   refine Zbg 7 (fun wx=>wx.cell? ⟨gn,1,none⟩=some (.slice Ao k co)) (by kernel_rfl) ((KB.out.same s0).cell 1) (fun hHeld=>?_)
   repeat
    first
     | refine ESt.take (i:=0) (v:=?_) (by decide +kernel) rfl (by decide +kernel) (fun _ _ _ h=>h) (Or.inl ⟨by rfl,?_⟩) (by assumption) ?_
     | refine ESt.take (i:=1) (v:=?_) (by decide +kernel) rfl (by decide +kernel) (fun _ _ _ h=>h) (Or.inl ⟨by rfl,?_⟩) (by assumption) ?_
     | refine ESt.take (i:=2) (v:=?_) (by decide +kernel) rfl (by decide +kernel) (fun _ _ _ h=>h) (Or.inl ⟨by rfl,?_⟩) (by assumption) ?_
     | refine ESt.take (i:=6) (v:=?_) (by decide +kernel) rfl (by decide +kernel) (fun _ _ _ h=>h) (Or.inl ⟨by rfl,?_⟩) (by assumption) ?_
    rotate_left
    · intro wx hSw;have h0:=hSw;go_simp;try with_reducible rfl
    simp only [Act.put,List.setIfInBounds_toArray]
   refine ESt.branch (rs:=[3]) (by decide +kernel) (by decide +kernel) ?_
   refine AllE.cons rfl (fun K hK=>?_) AllE.nil
   go_simp
   refine (ZfA (KC.out.same s0) HF.out hbn).mono ?_
   rintro e w6 ⟨rfl,hr6,hu6⟩
   generalize sk.name=NM at *
   obtain ⟨nm,s6⟩:=NM
   simp only at hr6 HK ⊢
   have HU6:=qH ((s0.mono (S':=fun b=>b=g+1) fun _ _ f=>f.elim).trans hu6 fun _ _ hh=>hh)
   have HB6:=qH (KB.out.upd HU6.out hne2)
   have HO6:=qH (Zai KO.out HU6.out fun b hb e=>by have:=(KO.out.lt b hb).1;omega)
   have HR6:=qH hr6
   clear hr6 hu6 s0
   go_wp2_with fail
   refine hK.out _ _ (HB6.out.cell 1) (fun hHeld=>?_)
   clear hK K
   refine ESt.branch (rs:=[4]) (by decide +kernel) (by decide +kernel) ?_
   refine AllE.cons rfl (fun K hK=>?_) AllE.nil
   go_simp
   have sA:=(Upd.refl (fun _=>False) w6).alloc (.cells #[.string nm] 9)
   refine hK.out _ _ ((HB6.out.same sA).cell 1) (fun hHeld=>?_)
   clear hK K
   refine ESt.branch (rs:=[5]) (by decide +kernel) (by decide +kernel) ?_
   refine AllE.cons rfl (fun K hK=>?_) AllE.nil
   have hz6:=HU6.out.size
   have hrow:=Zaa HO6.out sA
   refine ZdO rfl (.tmp 22) (.tmp 25) _ _ rfl wo.heap.size 9 1 16 _ Tryz.underlying40 Zax rfl (.slice Ao k co) k _ rfl hrow rfl (Zan Tryz.underlying40 (Row.one _ _ _) (by simp [Value.oneCell'])) (by unfold maxLen;omega) (by omega) (by have:=sA.size;omega) ?_
   intro v9 w9 hg9
   obtain ⟨f1,f2,f3⟩:=Zci (i:=1) HB6.out HO6.out (by decide) sA hg9
   obtain ⟨A9,c9,rfl⟩:=Zad hg9.own
   have q3:=(HB6.out.same sA).upd hg9.upd fun hh=>(HB6.out.same sA).ne_own hrow (by decide) hh
   have F1:=qH f1
   have F2:=qH f2
   have HRn:=qH (HR6.out.upd f3 (by
    rintro (e | e)
    · omega
    · have:=(HO6.out.lt _ e).1
      omega) (by
    rintro b h1 (e | e)
    · omega
    have:=(HO6.out.lt _ e).1;omega))
   have HUn:=qH ((KU.out.trans (HU6.out.mono (S':=fun b=>b=gn\/b=g+1) fun _ _ hh=>.inr hh) fun _ _ hh=>hh).trans f3 (by
    rintro b hb (e | e)
    · exact .inl e
    have:=(HO6.out.lt _ e).1;omega))
   have Q3:=qH q3
   clear f1 f2 f3 hg9 hrow HR6
   refine hK.out _ _ (q3.cell 1) (fun hHeld=>?_)
   clear hK K q3
   simp only [Act.put]
   try (refine ESt.take (i:=6) (v:=?_) (by decide +kernel) rfl (by decide +kernel) (fun _ _ _ h=>h) (Or.inl ⟨by rfl,?_⟩) (by assumption) ?_
        rotate_left
        intro wx hSw;have h0:=hSw;go_simp;try with_reducible rfl)
   simp only [Act.put,List.setIfInBounds_toArray]
   refine ESt.last (by decide +kernel) (by decide +kernel) rfl (fun K hK=>?_) _
   have r3:=Q3.out.cell 1
   have z3:=Q3.out.frozen 1
   go_simp
   refine hK.out _ _ ?_
   clear hK K r3 z3 hHeld sA
   have HKn:Hid (RS.names cnt s4=((ls++[nm])++(RS.names (cnt-(k+1)) s6).1,(RS.names (cnt-(k+1)) s6).2)):=qH (by rw [HK.out];simp)
   have HOn:Hid ((w9.setCell ⟨gn,1,none⟩ (.slice A9 (k+1) c9)).ownsRow wo.heap.size 9 1 (.slice A9 (k+1) c9) (k+1) ((ls++[nm]).map Value.string)):=qH (by rw [List.map_append];exact F2.out)
   go_wp2
   go_roundg (cnt-(k+1))
   case measure=>omega
   case rel=>exact ⟨k+1,A9,c9,s6,ls++[nm],rfl,by omega,by go_num,qH (by simp [KL.out]),HRn,HOn,F1,HKn,HUn⟩
 obtain rfl:k=cnt:=by omega
 have HK:=qH (show pNd bs=sk.props.map fun ps=>(⟨(id:Int),ls,ps⟩:ZaP) by
  rw [HP.out,KP.out,Nat.sub_self]
  simp [RS.names])
 have HBr:=qH (HB4'.out.upd KU.out (by rintro (e | e) <;> omega))
 have HUr:=qH ((HU4'.out.mono (S':=fun b=>b=gn\/b=g+1) fun _ _ hh=>.inr hh).trans KU.out fun _ _ hh=>hh)
 go_wp2_with fail
 refine (Zhg KC.out HF.out hbn).mono ?_
 rintro e w6 ⟨v6,ps,bad,a0,a1,rfl,ho,hbc,hok,hno,hu6⟩
 obtain ⟨A6,c6,rfl⟩:=Zad ho.row
 have HPs:=qH ho
 have HOk:=qH (And.intro hok hno)
 have HN6:=qH (KB.out.upd hu6 hne2)
 have HB6:=qH (HBr.out.upd hu6 (by omega))
 have HU6:=qH (HUr.out.trans hu6 fun k _ hk=>.inr hk)
 have HO6:=qH (Zai KO.out hu6 fun b hb e=>by have:=(KO.out.lt b hb).1;omega)
 have HZr:=qH KU.out.size
 have HCu:=qH hbc
 clear ho hok hno hu6 KC hbc HBr
 have c2:=HN6.out.cell 2
 have f2:=HN6.out.frozen 2
 simp only [List.getElem?_toArray,List.getElem?_cons_succ,List.getElem?_cons_zero] at c2
 have hsp:=(Upd.refl (fun b=>b=gn) w6).put1 (i:=2) (.slice A6 ps.length c6)
 have HN7:Hid (Blk (w6.setCell ⟨gn,2,none⟩ (.slice A6 ps.length c6)) gn 43 #[.int .i64 (id:Int),.slice Ao k co,.slice A6 ps.length c6]):=qH (HN6.out.put 2 _)
 have HB7:=qH (HB6.out.upd hsp (by omega))
 have HCu7:=qH (HCu.out.upd hsp (by omega))
 have HU7:=qH (HU6.out.trans hsp fun k _ hk=>.inl hk)
 have HO7:=qH (Zai HO6.out hsp fun b hb e=>by have:=(HO6.out.lt b hb).1;omega)
 have HPs7:=qH (HPs.out.type hsp (fun b _ e=>by rw [e];exact ⟨_,HN6.out⟩) (by decide) (by decide) (by decide))
 clear hsp HN6 HB6 HCu HU6 HO6 HPs
 go_upto_region 9 with fail
 clear c2 f2
 generalize w6.setCell ⟨gn,2,none⟩ (.slice A6 ps.length c6)=w7 at *
 have c0:=HB7.out.cell 0
 have c1:=HB7.out.cell 1
 have c2:=HB7.out.cell 2
 have f0:=HB7.out.frozen 0
 have f1:=HB7.out.frozen 1
 have f2:=HB7.out.frozen 2
 simp only [List.getElem?_toArray,List.getElem?_cons_succ,List.getElem?_cons_zero] at c0 c1 c2
 have hd7:Upd (fun b=>b=g) w7 w7.drew:=(Upd.refl _ w7).drew
 go_region_held3 (fun wx=>wx.cell? ⟨gn,0,none⟩=some (.int .i64 (id:Int))/\wx.cell? ⟨gn,1,none⟩=some (.slice Ao k co)/\wx.cell? ⟨gn,2,none⟩=some (.slice A6 ps.length c6)/\wx.cell? ⟨g+1,2,none⟩=some (.bool bad)) (exact ZqK HN7 HCu7 hne1 (by omega) (by repeat first | exact Upd.refl _ _ | refine Upd.drew ?_ | refine Upd.put1 ?_ _)) (fail)
 all_goals go_wp2
 all_goals refine ZnY rfl rfl HB7.out.drew ?_
 obtain ⟨W,hW⟩:∃ W,W=((w7.drew.setCell ⟨g,0,none⟩ (.int .i64 (id:Int))).setCell ⟨g,1,none⟩ (.slice Ao k co)).setCell ⟨g,2,none⟩ (.slice A6 ps.length c6):=⟨_,rfl⟩
 have hu:Upd (fun b=>b=g) w7 W:=by rw [hW];exact (((Upd.refl (fun b=>b=g) w7).drew.put1 _).put1 _).put1 _
 rw [<- hW]
 have hzo:g<=wo.heap.size:=by omega
 refine (HNR.out _ _).2 ⟨⟨(id:Int),ls,Ao,k,co,ps,A6,ps.length,c6⟩,!bad,rfl,⟨?_,?_,⟨by simp only;omega,by simp only;omega⟩⟩,?_,?_,?_⟩
 · exact Zae (Zai HO7.out hu fun b hb e=>by have:=(HO7.out.lt b hb).1;omega) (by rw [HG.out];exact hzo)
 · exact (HPs7.out.type hu (fun b _ e=>by rw [e];exact ⟨_,HB7.out⟩) (by decide) (by decide) (by decide)).base (by rw [HG.out];have:=HZr.out;omega)
 · intro h
   rw [HK.out,HOk.1 (by simpa using h)]
   rfl
 · intro h
   rw [HK.out,HOk.2 (by simpa using h)]
   rfl
 exact ((HU7.out.mono (S':=fun b=>b=gn\/b=g+1\/b=g) (fun b _ e=>by
  rcases e with e | e
  · exact .inl e
  exact .inr (.inl e))).trans hu (fun b _ e=>.inr (.inr e))).mono (fun b hb e=>by
  have h1:=HG.out
  omega)
theorem Zpg {tmps:Array Value} {W:World} {g:Nat} {v0 v1 v2 v3 v4 v5:Value} {R:Ending->World->Prop} (h2:tmps.getD 2 undef=.pointer (some ⟨g,0,none⟩)) (h3:tmps.getD 3 undef=v5) (hb:Blk W g 50 #[v0,v1,v2,v3,v4])
 (hR:R (.returned (.tuple #[.agg #[v0,v1,v2,v3,v4],v5])) W) :
 bodyPost Tryz.prog Tryz.f90 R Exit.ret { tmps:=tmps,defers:=[] } W:=by
 obtain ⟨c0,c1,c2,c3,c4⟩:=hb.five
 refine bodyPost_ret (v:=.tuple #[.agg #[v0,v1,v2,v3,v4],v5]) ?_ rfl hR
 simp only [Array.getD_eq_getD_getElem?] at h2 h3
 simp [results,Tryz.results90,go_sem,h2,h3,c0,c1,c2,c3,c4]
theorem ZqL {w1 wx:World} {g gn r:Nat} {t t':TypeId} {a0 a1 a2 a3 a4 b0 b1 b2:Value} (h:Hid (Blk w1 gn t #[a0,a1,a2,a3,a4])) (h':Hid (Blk w1 r t' #[b0,b1,b2])) (h1:gn≠g) (h2:r≠g) (hs:Upd (fun b=>b=g) w1 wx) :
 wx.cell? ⟨gn,0,none⟩=some a0/\wx.cell? ⟨gn,1,none⟩=some a1/\wx.cell? ⟨gn,2,none⟩=some a2/\wx.cell? ⟨gn,3,none⟩=some a3/\wx.cell? ⟨gn,4,none⟩=some a4/\wx.cell? ⟨r,2,none⟩=some b2 :=
 ⟨(h.out.upd hs h1).cell 0,(h.out.upd hs h1).cell 1,(h.out.upd hs h1).cell 2,(h.out.upd hs h1).cell 3,(h.out.upd hs h1).cell 4,(h'.out.upd hs h2).cell 2⟩
theorem ZnZ {F:Nat->Prop} {A:Option Addr} {n c:Nat} {bs:List UInt8} (w:World) (hb:Bytes w F A n c bs) (hn:n<=140737488355328) :
 Calls Tryz.prog 90 #[.slice A n c] w (ZhW bs w):=by
 have hL:=hb.len
 have HY:=qH (hb.mono (F':=fun b=>b<w.heap.size) fun b h _=>h)
 obtain ⟨S1,hS1⟩:∃ S1,RS.num ⟨bs,0⟩ 4=S1:=⟨_,rfl⟩
 obtain ⟨S2,hS2⟩:∃ S2,S1.2.num 4=S2:=⟨_,rfl⟩
 obtain ⟨S3,hS3⟩:∃ S3,S2.2.num 4=S3:=⟨_,rfl⟩
 obtain ⟨S4,hS4⟩:∃ S4,S3.2.name=S4:=⟨_,rfl⟩
 have HP:=qH (show pRl bs=S4.2.props.map fun ps=>(⟨((S1.1:Nat):Int),S4.1,((S2.1:Nat):Int),((S3.1:Nat):Int),ps⟩:GRel) by
  rw [<- hS4,<-hS3,<-hS2,<-hS1]
  rfl)
 have HNR:=qH (show ∀ e w',ZhW bs w e w'↔∃ (x:RL) (ok:Bool),e=.returned (.tuple #[.agg #[.int .i64 x.id,.string x.type,.int .i64 x.src,.int .i64 x.dst,.slice x.AP x.nP x.cP],.bool ok])/\Zdd w' w.heap.size x/\(ok=true->pRl bs=some x.dat)/\(ok=false->pRl bs=none)/\Same w w' from fun e w'=>Iff.rfl)
 generalize ZhW bs w=NRes at HNR ⊢
 have h1:=RS.num4_lt ⟨bs,0⟩
 have h2:=RS.num4_lt S1.2
 have h3:=RS.num4_lt S2.2
 rw [hS1] at h1
 rw [hS2] at h2
 rw [hS3] at h3
 have HS1:=qH hS1
 have HS2':=qH hS2
 have HS3:=qH hS3
 have HS4:=qH hS4
 obtain ⟨id,s1⟩:=S1
 obtain ⟨src,s2⟩:=S2
 obtain ⟨dst,s3⟩:=S3
 obtain ⟨ty,s4⟩:=S4
 simp only at h1 h2 h3 HP HS1 HS2' HS3 HS4
 have hbn:bs.length<=140737488355328:=by omega
 clear hS1 hS2 hS3 hS4
 obtain ⟨g,hg⟩:∃ g,w.heap.size=g:=⟨_,rfl⟩
 have hs0:=((Upd.refl (fun _=>False) w).alloc (.cells #[.int .i64 0,.string ⟨#[]⟩,.int .i64 0,.int .i64 0,.slice none 0 0] 50)).alloc (.cells #[.slice A n c,.int .i64 0,.bool false] 179)
 have hb0:=(Blk.new w 50 #[.int .i64 0,.string ⟨#[]⟩,.int .i64 0,.int .i64 0,.slice none 0 0]).alloc (.cells #[.slice A n c,.int .i64 0,.bool false] 179)
 have hc0:=Blk.new (w.alloc (.cells #[.int .i64 0,.string ⟨#[]⟩,.int .i64 0,.int .i64 0,.slice none 0 0] 50)) 179 #[.slice A n c,.int .i64 0,.bool false]
 rw [World.size_alloc] at hc0
 have HB0:=qH hb0
 have HC0:=qH (show Cur ((w.alloc (.cells #[.int .i64 0,.string ⟨#[]⟩,.int .i64 0,.int .i64 0,.slice none 0 0] 50)).alloc (.cells #[.slice A n c,.int .i64 0,.bool false] 179)) (fun b=>b<g) (g+1) bs ⟨bs,0⟩ from ⟨A,n,c,0,false,by rw [<- hg];exact hc0,(HY.out.same hs0).mono fun b _ h=>by rw [<- hg];exact h,Nat.zero_le _,rfl,fun _=>rfl⟩)
 have HS0:=qH hs0
 have HZ0:=qH (show ((w.alloc (.cells #[.int .i64 0,.string ⟨#[]⟩,.int .i64 0,.int .i64 0,.slice none 0 0] 50)).alloc (.cells #[.slice A n c,.int .i64 0,.bool false] 179)).heap.size=g+1+1 by simp only [World.size_alloc];rw [hg])
 have HF:=qH (show ¬ (g+1<g) by omega)
 clear hb hs0 hb0 hc0 hL
 go_enter Tryz.func90,Tryz.ntmps90
 go_wp2_with fail
 generalize (w.alloc (.cells #[.int .i64 0,.string ⟨#[]⟩,.int .i64 0,.int .i64 0,.slice none 0 0] 50)).alloc (.cells #[.slice A n c,.int .i64 0,.bool false] 179)=w1 at *
 rw [hg] at HB0
 have HG:=qH hg
 clear hg
 refine (Zee HC0.out HF.out hbn).mono ?_
 rintro e w2 ⟨rfl,hc2,hu2⟩
 rw [HS1.out] at hc2 ⊢
 have HC2:=qH hc2
 have HB2:=qH (HB0.out.upd hu2 (by omega))
 have HU2:=qH ((HS0.out.mono (S':=fun b=>b=g+1) fun _ _ f=>f.elim).trans hu2 fun _ _ hh=>hh)
 have HZ2:=qH hu2.size
 clear hc2 hu2 HC0 HB0
 simp only
 have hsa:=(Upd.refl (fun _=>False) w2).alloc (.cells #[.int .i64 (id:Int),.string ⟨#[]⟩,.int .i64 0,.int .i64 0,.slice none 0 0] 50)
 have HN3:=qH (Blk.new w2 50 #[.int .i64 (id:Int),.string ⟨#[]⟩,.int .i64 0,.int .i64 0,.slice none 0 0])
 have HC3:=qH (HC2.out.same hsa)
 have HB3:=qH (HB2.out.same hsa)
 have HU3:=qH (HU2.out.same hsa)
 obtain ⟨gn,hgn⟩:∃ gn,w2.heap.size=gn:=⟨_,rfl⟩
 have hne1:gn≠g:=by have:=HZ0.out;have:=HZ2.out;omega
 have hne2:gn≠g+1:=by have:=HZ0.out;have:=HZ2.out;omega
 have hgnz:g+1+1<=gn:=by have:=HZ0.out;have:=HZ2.out;omega
 clear hsa HC2 HB2 HU2
 go_wp2_with fail
 generalize w2.alloc (.cells #[.int .i64 (id:Int),.string ⟨#[]⟩,.int .i64 0,.int .i64 0,.slice none 0 0] 50)=w3 at *
 rw [hgn] at HN3
 clear hgn
 refine (Zee HC3.out HF.out hbn).mono ?_
 rintro e w4 ⟨rfl,hc4,hu4⟩
 rw [HS2'.out] at hc4 ⊢
 have HC4:=qH hc4
 have HN4:=qH (HN3.out.upd hu4 hne2)
 have HB4:=qH (HB3.out.upd hu4 (by omega))
 have HU4:=qH (HU3.out.trans hu4 fun _ _ hh=>hh)
 clear hc4 hu4 HC3 HN3 HB3 HU3
 simp only
 obtain ⟨c0,c1,c2,c3,c4⟩:=HN4.out.five
 obtain ⟨f0,f1,f2,f3,f4⟩:=HN4.out.five_free
 have hs5:=(Upd.refl (fun b=>b=gn) w4).put1 (i:=2) (.int .i64 (src:Int))
 have HC5:=qH (HC4.out.upd hs5 (by omega) (fun b hb e=>by omega))
 have HN5:Hid (Blk (w4.setCell ⟨gn,2,none⟩ (.int .i64 (src:Int))) gn 50 #[.int .i64 (id:Int),.string ⟨#[]⟩,.int .i64 (src:Int),.int .i64 0,.slice none 0 0]):=qH (HN4.out.put 2 _)
 have HB5:=qH (HB4.out.upd hs5 (by omega))
 have HU5:=qH ((HU4.out.mono (S':=fun b=>b=gn\/b=g+1) fun k _ hk=>.inr hk).trans hs5 fun k _ hk=>.inl hk)
 clear hs5 HC4 HN4 HB4 HU4
 go_wp2_with fail
 clear c0 c1 c2 c3 c4 f0 f1 f2 f3 f4
 generalize w4.setCell ⟨gn,2,none⟩ (.int .i64 (src:Int))=w5 at *
 refine (Zee HC5.out HF.out hbn).mono ?_
 rintro e w6 ⟨rfl,hc6,hu6⟩
 rw [HS3.out] at hc6 ⊢
 have HC6:=qH hc6
 have HN6:=qH (HN5.out.upd hu6 hne2)
 have HB6:=qH (HB5.out.upd hu6 (by omega))
 have HU6:=qH (HU5.out.trans hu6 fun _ _ hh=>.inr hh)
 clear hc6 hu6 HC5 HN5 HB5 HU5
 simp only
 obtain ⟨c0,c1,c2,c3,c4⟩:=HN6.out.five
 obtain ⟨f0,f1,f2,f3,f4⟩:=HN6.out.five_free
 have hs7:=(Upd.refl (fun b=>b=gn) w6).put1 (i:=3) (.int .i64 (dst:Int))
 have HC7:=qH (HC6.out.upd hs7 (by omega) (fun b hb e=>by omega))
 have HN7:Hid (Blk (w6.setCell ⟨gn,3,none⟩ (.int .i64 (dst:Int))) gn 50 #[.int .i64 (id:Int),.string ⟨#[]⟩,.int .i64 (src:Int),.int .i64 (dst:Int),.slice none 0 0]):=qH (HN6.out.put 3 _)
 have HB7:=qH (HB6.out.upd hs7 (by omega))
 have HU7:=qH (HU6.out.trans hs7 fun k _ hk=>.inl hk)
 clear hs7 HC6 HN6 HB6 HU6
 go_wp2_with fail
 clear c0 c1 c2 c3 c4 f0 f1 f2 f3 f4
 generalize w6.setCell ⟨gn,3,none⟩ (.int .i64 (dst:Int))=w7 at *
 refine (ZfA HC7.out HF.out hbn).mono ?_
 rintro e w8 ⟨rfl,hc8,hu8⟩
 rw [HS4.out] at hc8 ⊢
 have HC8:=qH hc8
 have HN8:=qH (HN7.out.upd hu8 hne2)
 have HB8:=qH (HB7.out.upd hu8 (by omega))
 have HU8:=qH (HU7.out.trans hu8 fun _ _ hh=>.inr hh)
 clear hc8 hu8 HC7 HN7 HB7 HU7
 simp only
 obtain ⟨c0,c1,c2,c3,c4⟩:=HN8.out.five
 obtain ⟨f0,f1,f2,f3,f4⟩:=HN8.out.five_free
 have hs9:=(Upd.refl (fun b=>b=gn) w8).put1 (i:=1) (.string ty)
 have HC9:=qH (HC8.out.upd hs9 (by omega) (fun b hb e=>by omega))
 have HN9:Hid (Blk (w8.setCell ⟨gn,1,none⟩ (.string ty)) gn 50 #[.int .i64 (id:Int),.string ty,.int .i64 (src:Int),.int .i64 (dst:Int),.slice none 0 0]):=qH (HN8.out.put 1 _)
 have HB9:=qH (HB8.out.upd hs9 (by omega))
 have HU9:=qH (HU8.out.trans hs9 fun k _ hk=>.inl hk)
 clear hs9 HC8 HN8 HB8 HU8
 go_wp2_with fail
 clear c0 c1 c2 c3 c4 f0 f1 f2 f3 f4
 generalize w8.setCell ⟨gn,1,none⟩ (.string ty)=w9 at *
 refine (Zhg HC9.out HF.out hbn).mono ?_
 rintro e wa ⟨va,ps,bad,a0,a1,rfl,ho,hbc,hok,hno,hua⟩
 obtain ⟨A6,c6,rfl⟩:=Zad ho.row
 have HPs:=qH ho
 have HOk:=qH (And.intro hok hno)
 have HNa:=qH (HN9.out.upd hua hne2)
 have HBa:=qH (HB9.out.upd hua (by omega))
 have HUa:=qH (HU9.out.trans hua fun k _ hk=>.inr hk)
 have HZ9:=qH HU9.out.size
 have HCu:=qH hbc
 clear ho hok hno hua HC9 hbc HB9 HN9 HU9
 obtain ⟨c0,c1,c2,c3,c4⟩:=HNa.out.five
 obtain ⟨f0,f1,f2,f3,f4⟩:=HNa.out.five_free
 have hsp:=(Upd.refl (fun b=>b=gn) wa).put1 (i:=4) (.slice A6 ps.length c6)
 have HNb:Hid (Blk (wa.setCell ⟨gn,4,none⟩ (.slice A6 ps.length c6)) gn 50 #[.int .i64 (id:Int),.string ty,.int .i64 (src:Int),.int .i64 (dst:Int),.slice A6 ps.length c6]):=qH (HNa.out.put 4 _)
 have HBb:=qH (HBa.out.upd hsp (by omega))
 have HCb:=qH (HCu.out.upd hsp (by omega))
 have HUb:=qH (HUa.out.trans hsp fun k _ hk=>.inl hk)
 have HPb:=qH (HPs.out.type hsp (fun b _ e=>by rw [e];exact ⟨_,HNa.out⟩) (by decide) (by decide) (by decide))
 clear hsp HNa HBa HCu HUa HPs
 go_upto_region 7 with fail
 clear c0 c1 c2 c3 c4 f0 f1 f2 f3 f4
 generalize wa.setCell ⟨gn,4,none⟩ (.slice A6 ps.length c6)=wb at *
 obtain ⟨c0,c1,c2,c3,c4⟩:=HBb.out.five
 obtain ⟨f0,f1,f2,f3,f4⟩:=HBb.out.five_free
 go_region_held3 (fun wx=>wx.cell? ⟨gn,0,none⟩=some (.int .i64 (id:Int))/\wx.cell? ⟨gn,1,none⟩=some (.string ty)/\wx.cell? ⟨gn,2,none⟩=some (.int .i64 (src:Int))/\wx.cell? ⟨gn,3,none⟩=some (.int .i64 (dst:Int))/\wx.cell? ⟨gn,4,none⟩=some (.slice A6 ps.length c6)/\wx.cell? ⟨g+1,2,none⟩=some (.bool bad)) (exact ZqL HNb HCb hne1 (by omega) (by repeat first | exact Upd.refl _ _ | refine Upd.drew ?_ | refine Upd.put1 ?_ _)) (fail)
 have HBW:=qH (HBb.out.put5 (.int .i64 (id:Int)) (.string ty) (.int .i64 (src:Int)) (.int .i64 (dst:Int)) (.slice A6 ps.length c6)).drew
 have HUW:=qH ((Upd.refl (fun b=>b=g) wb).put5 (.int .i64 (id:Int)) (.string ty) (.int .i64 (src:Int)) (.int .i64 (dst:Int)) (.slice A6 ps.length c6)).drew
 generalize (put5 wb g (.int .i64 (id:Int)) (.string ty) (.int .i64 (src:Int)) (.int .i64 (dst:Int)) (.slice A6 ps.length c6)).drew=W at *
 clear c0 c1 c2 c3 c4 f0 f1 f2 f3 f4
 go_wp2
 refine Zpg rfl rfl HBW.out ?_
 have hu:=HUW.out
 refine (HNR.out _ _).2 ⟨⟨(id:Int),ty,(src:Int),(dst:Int),ps,A6,ps.length,c6⟩,!bad,rfl,⟨?_,⟨⟨by simp only;omega,by simp only;omega⟩,⟨by simp only;omega,by simp only;omega⟩,⟨by simp only;omega,by simp only;omega⟩⟩⟩,?_,?_,?_⟩
 · exact (HPb.out.type hu (fun b _ e=>by rw [e];exact ⟨_,HBb.out⟩) (by decide) (by decide) (by decide)).base HZ9.out
 · intro h
   rw [HP.out,HOk.1 (by simpa using h)]
   rfl
 · intro h
   rw [HP.out,HOk.2 (by simpa using h)]
   rfl
 exact ((HUb.out.mono (S':=fun b=>b=gn\/b=g+1\/b=g) (fun b _ e=>by
  rcases e with e | e
  · exact .inl e
  exact .inr (.inl e))).trans hu (fun b _ e=>.inr (.inr e))).mono (fun b hb e=>by
  have h1:=HG.out
  omega)
end Go.Proofs.YtkopcinhbjimiaaGreatDoor
