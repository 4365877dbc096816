/- Texts that the claim leans on: walks and plain laws, function by function. -/
import Derived.Test.YtkopcinhbjimiaaGreatDoorJoinL
import Derived.Test.YtkopcinhbjimiaaGreatDoorQ28
set_option maxRecDepth 100000
set_option maxHeartbeats 16000000
namespace Go.Proofs.YtkopcinhbjimiaaGreatDoor
open Go.RowKit
theorem Zpc {tmps:Array Value} {wE:World} {g:Nat} {a0 a1 a2 v0 v1 v2 v3:Value} {R:Ending->World->Prop} (h2:tmps.getD 2 undef=.pointer (some ⟨g,0,none⟩)) (h3:tmps.getD 3 undef=v3) (hb:Blk wE g 43 #[a0,a1,a2])
 (hR:R (.returned (.tuple #[.agg #[v0,v1,v2],v3])) (((wE.setCell ⟨g,0,none⟩ v0).setCell ⟨g,1,none⟩ v1).setCell ⟨g,2,none⟩ v2)) :
 bodyPost Tryz.prog Tryz.f130 R Exit.ret { tmps:=tmps,defers:=[] } (((wE.setCell ⟨g,0,none⟩ v0).setCell ⟨g,1,none⟩ v1).setCell ⟨g,2,none⟩ v2):=by
 have hb2:=((hb.put 0 v0).put 1 v1).put 2 v2
 have c0:=hb2.cell 0
 have c1:=hb2.cell 1
 have c2:=hb2.cell 2
 generalize ((wE.setCell ⟨g,0,none⟩ v0).setCell ⟨g,1,none⟩ v1).setCell ⟨g,2,none⟩ v2=W at *
 refine bodyPost_ret (v:=.tuple #[.agg #[v0,v1,v2],v3]) ?_ rfl hR
 simp only [Array.getD_eq_getD_getElem?] at h2 h3
 simp [results,Tryz.results130,go_sem,h2,h3,c0,c1,c2]
def Zfu (bs:List UInt8) (w:World) (e:Ending) (w':World):Prop :=
 ∃ (x:ND) (ok:Bool),e=.returned (.tuple #[.agg #[.int .i64 x.id,.slice x.AL x.nL x.cL,.slice x.AP x.nP x.cP],.bool ok])/\ZcJ w' w.heap.size x/\(ok=true->pNd bs=some x.dat)/\(ok=false->pNd bs=none)/\Same w w'
theorem ZjF {F:Nat->Prop} {A:Option Addr} {n c:Nat} {bs:List UInt8} (w:World) (hb:Bytes w F A n c bs) (hn:n<=140737488355328) :
 Calls Tryz.prog 130 #[.slice A n c] w (Zfu bs w):=by
 have hL:=hb.len
 have hs0:=(Upd.refl (fun _=>False) w).alloc (.cells #[.int .i64 0,.slice none 0 0,.slice none 0 0] 43)
 have HB0:=qH (Blk.new w 43 #[.int .i64 0,.slice none 0 0,.slice none 0 0])
 have HY:=qH (hb.same hs0)
 have HS0:=qH hs0
 have HZ0:=qH (show w.heap.size<(w.alloc (.cells #[.int .i64 0,.slice none 0 0,.slice none 0 0] 43)).heap.size by rw [World.size_alloc];omega)
 have HP:=qH (show pNd bs=(RS.names ((RS.num ⟨bs,0⟩ 4).2.num 1).1 ((RS.num ⟨bs,0⟩ 4).2.num 1).2).2.props.map fun ps=>(⟨(((RS.num ⟨bs,0⟩ 4).1:Nat):Int),(RS.names ((RS.num ⟨bs,0⟩ 4).2.num 1).1 ((RS.num ⟨bs,0⟩ 4).2.num 1).2).1,ps⟩:ZaP) from rfl)
 have HNR:=qH (show ∀ e w',Zfu bs w e w'↔∃ (x:ND) (ok:Bool),e=.returned (.tuple #[.agg #[.int .i64 x.id,.slice x.AL x.nL x.cL,.slice x.AP x.nP x.cP],.bool ok])/\ZcJ w' w.heap.size x/\(ok=true->pNd bs=some x.dat)/\(ok=false->pNd bs=none)/\Same w w' from fun e w'=>Iff.rfl)
 generalize Zfu bs w=NRes at HNR ⊢
 have hl1:=RS.num_left_le ⟨bs,0⟩ 4
 have hl2:=RS.num_left_le (RS.num ⟨bs,0⟩ 4).2 1
 have h32:=RS.num4_lt ⟨bs,0⟩
 have h8:=RS.num1_lt (RS.num ⟨bs,0⟩ 4).2
 simp only at hl1
 have hbn:bs.length<=140737488355328:=by omega
 clear hb hs0 hL
 go_enter Tryz.func130,Tryz.ntmps130
 go_wp2_with fail
 generalize w.alloc (.cells #[.int .i64 0,.slice none 0 0,.slice none 0 0] 43)=w1 at *
 obtain ⟨g,hg⟩:∃ g,w.heap.size=g:=⟨_,rfl⟩
 rw [hg] at HB0 HZ0 ⊢
 have HG:=qH hg
 clear hg
 refine (ZcI HY.out hn).mono ?_
 rintro e w2 ⟨r,rfl,hr1,hrd,hs2⟩
 have hgr:g≠r:=by have:=HZ0.out;omega
 have HR2:=qH hrd.narrow
 have HF2:=qH (show ¬ ((w1.heap.size<=r/\r≠r)/\r<w2.heap.size) from fun h=>h.1.2 rfl)
 have HrL:=qH hrd.lt
 have HB2:=qH (HB0.out.same hs2)
 have HS2:=qH (HS0.out.same hs2)
 have HZ2:=qH hs2.size
 clear hrd hs2 HB0 HS0 HY
 go_wp2_with fail
 refine (Zbb HR2.out HF2.out 4).mono ?_
 rintro e w3 ⟨rfl,hr3,hu3⟩
 have HR3:=qH hr3
 have HB3:=qH (HB2.out.upd hu3 hgr)
 have HU3:=qH hu3
 clear hr3 hu3 HR2 HB2
 generalize RS.num ⟨bs,0⟩ 4=S3 at *
 obtain ⟨id,s3⟩:=S3
 simp only at hl1 hl2 h32 h8 HP HR3 ⊢
 have c0:=HB3.out.cell 0
 have f0:=HB3.out.frozen 0
 simp only [List.getElem?_toArray,List.getElem?_cons_zero] at c0
 have hs4:=(Upd.refl (fun b=>b=g) w3).put1 (i:=0) (.int .i64 (id:Int))
 have HR4:=qH (HR3.out.upd hs4 (fun e=>hgr e.symm) (fun b hb e=>by have:=HZ0.out;have:=hb.1.1;omega))
 have HB4:Hid (Blk (w3.setCell ⟨g,0,none⟩ (.int .i64 (id:Int))) g 43 #[.int .i64 (id:Int),.slice none 0 0,.slice none 0 0]):=qH (HB3.out.put 0 _)
 have HU4:=qH ((HU3.out.mono (S':=fun b=>b=g\/b=r) fun k _ hk=>.inr hk).trans hs4 fun k _ hk=>.inl hk)
 clear hs4 HR3 HB3 HU3
 go_wp2_with fail
 clear c0 f0
 generalize w3.setCell ⟨g,0,none⟩ (.int .i64 (id:Int))=w4 at *
 refine (Zbb HR4.out HF2.out 1).mono ?_
 rintro e w5 ⟨rfl,hr5,hu5⟩
 have HR5:=qH hr5
 have HB5:=qH (HB4.out.upd hu5 hgr)
 have HU5:=qH (HU4.out.trans hu5 fun k _ hk=>.inr hk)
 clear hr5 hu5 HR4 HB4 HU4
 generalize s3.num 1=S5 at *
 obtain ⟨cnt,s5⟩:=S5
 simp only at hl2 h8 HP HR5 ⊢
 go_wp2_with fail
 go_loopg [13] cnt (fun gh ix wr=>∃ (k:Nat) (Ao:Option Addr) (co:Nat) (sk:RS) (ls:List ByteArray),cnt-k=gh/\k<=cnt/\ix=.int .u64 k/\Hid (ls.length=k)/\Hid (Rdr wr (fun b=>(w1.heap.size<=b/\b≠r)/\b<w2.heap.size) r sk)/\Hid (sk.left.length<=140737488355328)/\Hid (wr.ownsRow w2.heap.size 9 1 (.slice Ao k co) k (ls.map Value.string))/\Hid (Blk wr g 43 #[.int .i64 (id:Int),.slice Ao k co,.slice none 0 0])/\Hid (RS.names cnt s5=(ls++(RS.names (cnt-k) sk).1,(RS.names (cnt-k) sk).2))/\Hid (Upd (fun b=>b=g\/b=r) w2 wr))
 case atStart=>exact ⟨0,none,0,s5,[],rfl,Nat.zero_le _,rfl,qH rfl,HR5,qH (by omega),qH (World.ownsRow_nil _ _ _ _),HB5,qH (by simp),HU5⟩
 obtain ⟨k,Ao,co,sk,ls,rfl,hk,rfl,KL,KR,KLn,KO,KB,KP,KU⟩:=hrel
 by_cases hlk:k<cnt
 · have hnk:cnt-k=(cnt-(k+1))+1:=by omega
   have HK:=qH (show RS.names cnt s5=(ls++sk.name.1::(RS.names (cnt-(k+1)) sk.name.2).1,(RS.names (cnt-(k+1)) sk.name.2).2) by
    rw [KP.out,hnk]
    rfl)
   have hnl:=RS.name_left_le sk
   have HKL:=KLn.out
   have hzr:=KU.out.size
   clear hnk
   go_upto_region 5 with fail
   have s0:Same wr wr.drew:=(Upd.refl _ wr).drew
   refine Zbg 7 (fun wx=>wx.cell? ⟨g,1,none⟩=some (.slice Ao k co)) (by kernel_rfl) ((KB.out.same s0).cell 1) (fun hHeld=>?_)
   repeat
    first
     | refine ESt.take (i:=0) (v:=?_) (by decide +kernel) rfl (by decide +kernel) (fun _ _ _ h=>h) (Or.inl ⟨by rfl,?_⟩) (by assumption) ?_
     | refine ESt.take (i:=1) (v:=?_) (by decide +kernel) rfl (by decide +kernel) (fun _ _ _ h=>h) (Or.inl ⟨by rfl,?_⟩) (by assumption) ?_
     | refine ESt.take (i:=2) (v:=?_) (by decide +kernel) rfl (by decide +kernel) (fun _ _ _ h=>h) (Or.inl ⟨by rfl,?_⟩) (by assumption) ?_
     | refine ESt.take (i:=6) (v:=?_) (by decide +kernel) rfl (by decide +kernel) (fun _ _ _ h=>h) (Or.inl ⟨by rfl,?_⟩) (by assumption) ?_
    rotate_left
    · intro wx hSw;have h0:=hSw;go_simp;try with_reducible rfl
    simp only [Act.put,List.setIfInBounds_toArray]
   refine ESt.branch (rs:=[3]) (by decide +kernel) (by decide +kernel) ?_
   refine AllE.cons rfl (fun K hK=>?_) AllE.nil
   go_simp
   refine (ZdK (KR.out.same s0) HF2.out KLn.out).mono ?_
   rintro e w6 ⟨rfl,hr6,hu6⟩
   generalize sk.name=NM at *
   obtain ⟨nm,s6⟩:=NM
   simp only at hr6 hnl HK ⊢
   have HU6:=qH ((s0.mono (S':=fun b=>b=r) fun _ _ f=>f.elim).trans hu6 fun _ _ hh=>hh)
   have HB6:=qH (KB.out.upd HU6.out hgr)
   have HO6:=qH (Zai KO.out HU6.out fun b hb e=>by have:=(KO.out.lt b hb).1;have:=HrL.out;omega)
   have HR6:=qH hr6
   clear hr6 hu6 s0
   go_wp2_with fail
   refine hK.out _ _ (HB6.out.cell 1) (fun hHeld=>?_)
   clear hK K
   refine ESt.branch (rs:=[4]) (by decide +kernel) (by decide +kernel) ?_
   refine AllE.cons rfl (fun K hK=>?_) AllE.nil
   go_simp
   have sA:=(Upd.refl (fun _=>False) w6).alloc (.cells #[.string nm] 9)
   refine hK.out _ _ ((HB6.out.same sA).cell 1) (fun hHeld=>?_)
   clear hK K
   refine ESt.branch (rs:=[5]) (by decide +kernel) (by decide +kernel) ?_
   refine AllE.cons rfl (fun K hK=>?_) AllE.nil
   have hz6:=HU6.out.size
   have hrow:=Zaa HO6.out sA
   refine ZdO rfl (.tmp 16) (.tmp 19) _ _ rfl w2.heap.size 9 1 16 _ Tryz.underlying40 Zax rfl (.slice Ao k co) k _ rfl hrow rfl (Zan Tryz.underlying40 (Row.one _ _ _) (by simp [Value.oneCell'])) (by unfold maxLen;omega) (by omega) (by have:=sA.size;omega) ?_
   intro v9 w9 hg9
   obtain ⟨f1,f2,f3⟩:=Zci (i:=1) HB6.out HO6.out (by decide) sA hg9
   obtain ⟨A9,c9,rfl⟩:=Zad hg9.own
   have q3:=(HB6.out.same sA).upd hg9.upd fun hh=>(HB6.out.same sA).ne_own hrow (by decide) hh
   have F1:=qH f1
   have F2:=qH f2
   have HRn:=qH (HR6.out.upd f3 (by
    rintro (e | e)
    · exact hgr e.symm
    · have:=(HO6.out.lt _ e).1
      have:=HrL.out
      omega) (by
    rintro b ⟨⟨h1,h2⟩,h3⟩ (e | e)
    · have:=HZ0.out;omega
    have:=(HO6.out.lt _ e).1;omega))
   have HUn:=qH ((KU.out.trans (HU6.out.mono (S':=fun b=>b=g\/b=r) fun _ _ hh=>.inr hh) fun _ _ hh=>hh).trans f3 (by
    rintro b hb (e | e)
    · exact .inl e
    have:=(HO6.out.lt _ e).1;omega))
   have Q3:=qH q3
   clear f1 f2 f3 hg9 hrow HR6
   refine hK.out _ _ (q3.cell 1) (fun hHeld=>?_)
   clear hK K q3
   simp only [Act.put]
   try (refine ESt.take (i:=6) (v:=?_) (by decide +kernel) rfl (by decide +kernel) (fun _ _ _ h=>h) (Or.inl ⟨by rfl,?_⟩) (by assumption) ?_
        rotate_left
        intro wx hSw;have h0:=hSw;go_simp;try with_reducible rfl)
   simp only [Act.put,List.setIfInBounds_toArray]
   refine ESt.last (by decide +kernel) (by decide +kernel) rfl (fun K hK=>?_) _
   have r3:=Q3.out.cell 1
   have z3:=Q3.out.frozen 1
   go_simp
   refine hK.out _ _ ?_
   clear hK K r3 z3 hHeld sA
   have HKn:Hid (RS.names cnt s5=((ls++[nm])++(RS.names (cnt-(k+1)) s6).1,(RS.names (cnt-(k+1)) s6).2)):=qH (by rw [HK.out];simp)
   have HOn:Hid ((w9.setCell ⟨g,1,none⟩ (.slice A9 (k+1) c9)).ownsRow w2.heap.size 9 1 (.slice A9 (k+1) c9) (k+1) ((ls++[nm]).map Value.string)):=qH (by rw [List.map_append];exact F2.out)
   have hl6:s6.left.length<=140737488355328:=by omega
   go_wp2
   go_roundg (cnt-(k+1))
   case measure=>omega
   case rel=>exact ⟨k+1,A9,c9,s6,ls++[nm],rfl,by omega,by go_num,qH (by simp [KL.out]),HRn,qH hl6,HOn,F1,HKn,HUn⟩
 obtain rfl:k=cnt:=by omega
 have HK:=qH (show pNd bs=sk.props.map fun ps=>(⟨(id:Int),ls,ps⟩:ZaP) by
  rw [HP.out,KP.out,Nat.sub_self]
  simp [RS.names])
 go_wp2_with fail
 refine (ZeV KR.out HF2.out KLn.out).mono ?_
 rintro e w6 ⟨v6,ok,rfl,HR6,hu6⟩
 obtain ⟨ps,ho,hok,hno⟩:=HR6.out
 obtain ⟨A6,c6,rfl⟩:=Zad ho.row
 have HPs:=qH ho
 have HOk:=qH (And.intro hok hno)
 have HB6:=qH (KB.out.upd hu6 hgr)
 have HU6:=qH (KU.out.trans hu6 fun k _ hk=>.inr hk)
 have HO6:=qH (Zai KO.out hu6 fun b hb e=>by have:=(KO.out.lt b hb).1;have:=HrL.out;omega)
 clear ho hok hno hu6 HR6 KR
 have c0:=HB6.out.cell 0
 have c1:=HB6.out.cell 1
 have c2:=HB6.out.cell 2
 have f0:=HB6.out.frozen 0
 have f1:=HB6.out.frozen 1
 have f2:=HB6.out.frozen 2
 simp only [List.getElem?_toArray,List.getElem?_cons_succ,List.getElem?_cons_zero] at c0 c1 c2
 have HZr:=qH KU.out.size
 go_wp2
 refine Zpc rfl rfl (HB6.out.put 2 _) ?_
 obtain ⟨W,hW⟩:∃ W,W=((((w6.setCell ⟨g,2,none⟩ (.slice A6 ps.length c6)).setCell ⟨g,0,none⟩ (.int .i64 (id:Int))).setCell ⟨g,1,none⟩ (.slice Ao k co)).setCell ⟨g,2,none⟩ (.slice A6 ps.length c6)):=⟨_,rfl⟩
 have hu:Upd (fun b=>b=g) w6 W:=by rw [hW];exact ((((Upd.refl (fun b=>b=g) w6).put1 _).put1 _).put1 _).put1 _
 rw [<- hW]
 refine (HNR.out _ _).2 ⟨⟨(id:Int),ls,Ao,k,co,ps,A6,ps.length,c6⟩,ok,rfl,⟨?_,?_,⟨by simp only;omega,by simp only;omega⟩⟩,?_,?_,?_⟩
 · exact Zae (Zai HO6.out hu fun b hb e=>by have:=(HO6.out.lt b hb).1;have:=HZ2.out;have:=HZ0.out;omega) (by have:=HS2.out.size;omega)
 · exact (HPs.out.type hu (fun b _ e=>by rw [e];exact ⟨_,HB6.out⟩) (by decide) (by decide) (by decide)).base (by have:=HS2.out.size;have:=HZr.out;omega)
 · intro h
   rw [HK.out,HOk.1 h]
   rfl
 · intro h
   rw [HK.out,HOk.2 h]
   rfl
 exact HS2.out.trans (HU6.out.trans hu (S:=fun b=>b=g\/b=r) fun b _ e=>.inl e) fun b hb e=>by
  have h1:=HG.out
  have h2:=HS2.out.size
  have h3:=HZ0.out
  rcases e with e | e
  · omega
  have:=hr1;omega
theorem Zqe {tmps:Array Value} {wE:World} {g:Nat} {a0 a1 a2 a3 a4 v0 v1 v2 v3 v4 v5:Value} {R:Ending->World->Prop} (h2:tmps.getD 2 undef=.pointer (some ⟨g,0,none⟩)) (h3:tmps.getD 3 undef=v5) (hb:Blk wE g 50 #[a0,a1,a2,a3,a4])
 (hR:R (.returned (.tuple #[.agg #[v0,v1,v2,v3,v4],v5])) (put5 wE g v0 v1 v2 v3 v4)) :
 bodyPost Tryz.prog Tryz.f131 R Exit.ret { tmps:=tmps,defers:=[] } (put5 wE g v0 v1 v2 v3 v4):=by
 obtain ⟨c0,c1,c2,c3,c4⟩:=(hb.put5 v0 v1 v2 v3 v4).five
 generalize put5 wE g v0 v1 v2 v3 v4=W at *
 refine bodyPost_ret (v:=.tuple #[.agg #[v0,v1,v2,v3,v4],v5]) ?_ rfl hR
 simp only [Array.getD_eq_getD_getElem?] at h2 h3
 simp [results,Tryz.results131,go_sem,h2,h3,c0,c1,c2,c3,c4]
def ZhW (bs:List UInt8) (w:World) (e:Ending) (w':World):Prop :=
 ∃ (x:RL) (ok:Bool),e=.returned (.tuple #[.agg #[.int .i64 x.id,.string x.type,.int .i64 x.src,.int .i64 x.dst,.slice x.AP x.nP x.cP],.bool ok])/\Zdd w' w.heap.size x/\(ok=true->pRl bs=some x.dat)/\(ok=false->pRl bs=none)/\Same w w'
theorem Zhb {F:Nat->Prop} {A:Option Addr} {n c:Nat} {bs:List UInt8} (w:World) (hb:Bytes w F A n c bs) (hn:n<=140737488355328) :
 Calls Tryz.prog 131 #[.slice A n c] w (ZhW bs w):=by
 have hL:=hb.len
 have hs0:=(Upd.refl (fun _=>False) w).alloc (.cells #[.int .i64 0,.string ⟨#[]⟩,.int .i64 0,.int .i64 0,.slice none 0 0] 50)
 have HB0:=qH (Blk.new w 50 #[.int .i64 0,.string ⟨#[]⟩,.int .i64 0,.int .i64 0,.slice none 0 0])
 have HY:=qH (hb.same hs0)
 have HS0:=qH hs0
 have HZ0:=qH (show w.heap.size<(w.alloc (.cells #[.int .i64 0,.string ⟨#[]⟩,.int .i64 0,.int .i64 0,.slice none 0 0] 50)).heap.size by rw [World.size_alloc];omega)
 obtain ⟨S1,hS1⟩:∃ S1,RS.num ⟨bs,0⟩ 4=S1:=⟨_,rfl⟩
 obtain ⟨S2,hS2⟩:∃ S2,S1.2.num 4=S2:=⟨_,rfl⟩
 obtain ⟨S3,hS3⟩:∃ S3,S2.2.num 4=S3:=⟨_,rfl⟩
 obtain ⟨S4,hS4⟩:∃ S4,S3.2.name=S4:=⟨_,rfl⟩
 have HP:=qH (show pRl bs=S4.2.props.map fun ps=>(⟨((S1.1:Nat):Int),S4.1,((S2.1:Nat):Int),((S3.1:Nat):Int),ps⟩:GRel) by
  rw [<- hS4,<-hS3,<-hS2,<-hS1]
  rfl)
 have HNR:=qH (show ∀ e w',ZhW bs w e w'↔∃ (x:RL) (ok:Bool),e=.returned (.tuple #[.agg #[.int .i64 x.id,.string x.type,.int .i64 x.src,.int .i64 x.dst,.slice x.AP x.nP x.cP],.bool ok])/\Zdd w' w.heap.size x/\(ok=true->pRl bs=some x.dat)/\(ok=false->pRl bs=none)/\Same w w' from fun e w'=>Iff.rfl)
 generalize ZhW bs w=NRes at HNR ⊢
 have hl1:=RS.num_left_le ⟨bs,0⟩ 4
 have hl2:=RS.num_left_le S1.2 4
 have hl3:=RS.num_left_le S2.2 4
 have hl4:=RS.name_left_le S3.2
 have h1:=RS.num4_lt ⟨bs,0⟩
 have h2:=RS.num4_lt S1.2
 have h3:=RS.num4_lt S2.2
 rw [hS1] at hl1 h1
 rw [hS2] at hl2 h2
 rw [hS3] at hl3 h3
 rw [hS4] at hl4
 have HS1:=qH hS1
 have HS2':=qH hS2
 have HS3:=qH hS3
 have HS4:=qH hS4
 obtain ⟨id,s1⟩:=S1
 obtain ⟨src,s2⟩:=S2
 obtain ⟨dst,s3⟩:=S3
 obtain ⟨ty,s4⟩:=S4
 simp only at hl1 hl2 hl3 hl4 h1 h2 h3 HP HS1 HS2' HS3 HS4
 have hbn:bs.length<=140737488355328:=by omega
 clear hb hs0 hL hS1 hS2 hS3 hS4
 go_enter Tryz.func131,Tryz.ntmps131
 go_wp2_with fail
 generalize w.alloc (.cells #[.int .i64 0,.string ⟨#[]⟩,.int .i64 0,.int .i64 0,.slice none 0 0] 50)=w1 at *
 obtain ⟨g,hg⟩:∃ g,w.heap.size=g:=⟨_,rfl⟩
 rw [hg] at HB0 HZ0 ⊢
 have HG:=qH hg
 clear hg
 refine (ZcI HY.out hn).mono ?_
 rintro e w2 ⟨r,rfl,hr1,hrd,hs2⟩
 have hgr:g≠r:=by have:=HZ0.out;omega
 have HR2:=qH hrd.narrow
 have HF2:=qH (show ¬ ((w1.heap.size<=r/\r≠r)/\r<w2.heap.size) from fun h=>h.1.2 rfl)
 have HrL:=qH hrd.lt
 have HB2:=qH (HB0.out.same hs2)
 have HS2:=qH (HS0.out.same hs2)
 have HZ2:=qH hs2.size
 clear hrd hs2 HB0 HS0 HY
 go_wp2_with fail
 refine (Zbb HR2.out HF2.out 4).mono ?_
 rintro e w3 ⟨rfl,hr3,hu3⟩
 rw [HS1.out] at hr3 ⊢
 have HR3:=qH hr3
 have HU3:=qH hu3
 clear hr3 hu3 HR2
 go_wp2_with fail
 refine (Zbb HR3.out HF2.out 4).mono ?_
 rintro e w4 ⟨rfl,hr4,hu4⟩
 rw [HS2'.out] at hr4 ⊢
 have HR4:=qH hr4
 have HU4:=qH (HU3.out.trans hu4 fun _ _ hh=>hh)
 clear hr4 hu4 HR3 HU3
 go_wp2_with fail
 refine (Zbb HR4.out HF2.out 4).mono ?_
 rintro e w5 ⟨rfl,hr5,hu5⟩
 rw [HS3.out] at hr5 ⊢
 have HR5:=qH hr5
 have HU5:=qH (HU4.out.trans hu5 fun _ _ hh=>hh)
 have HB5:=qH (HB2.out.upd HU5.out hgr)
 clear hr5 hu5 HR4 HU4 HB2
 simp only
 obtain ⟨c0,c1,c2,c3,c4⟩:=HB5.out.five
 obtain ⟨f0,f1,f2,f3,f4⟩:=HB5.out.five_free
 have hs6:=(((Upd.refl (fun b=>b=g) w5).put1 (i:=0) (.int .i64 (id:Int))).put1 (i:=2) (.int .i64 (src:Int))).put1 (i:=3) (.int .i64 (dst:Int))
 have HR6:=qH (HR5.out.upd hs6 (fun e=>hgr e.symm) (fun b hb e=>by have:=HZ0.out;have:=hb.1.1;omega))
 have HB6:Hid (Blk (((w5.setCell ⟨g,0,none⟩ (.int .i64 (id:Int))).setCell ⟨g,2,none⟩ (.int .i64 (src:Int))).setCell ⟨g,3,none⟩ (.int .i64 (dst:Int))) g 50 #[.int .i64 (id:Int),.string ⟨#[]⟩,.int .i64 (src:Int),.int .i64 (dst:Int),.slice none 0 0]):=qH (((HB5.out.put 0 _).put 2 _).put 3 _)
 have HU6:=qH ((HU5.out.mono (S':=fun b=>b=g\/b=r) fun k _ hk=>.inr hk).trans hs6 fun k _ hk=>.inl hk)
 clear hs6 HR5 HB5 HU5
 go_wp2_with fail
 clear c0 c1 c2 c3 c4 f0 f1 f2 f3 f4
 generalize ((w5.setCell ⟨g,0,none⟩ (.int .i64 (id:Int))).setCell ⟨g,2,none⟩ (.int .i64 (src:Int))).setCell ⟨g,3,none⟩ (.int .i64 (dst:Int))=w6 at *
 refine (ZdK HR6.out HF2.out (by omega)).mono ?_
 rintro e w7 ⟨rfl,hr7,hu7⟩
 rw [HS4.out] at hr7 ⊢
 have HR7:=qH hr7
 have HU7:=qH (HU6.out.trans hu7 fun k _ hk=>.inr hk)
 have HB7:=qH (HB6.out.upd hu7 hgr)
 clear hr7 hu7 HR6 HU6 HB6
 simp only
 obtain ⟨c0,c1,c2,c3,c4⟩:=HB7.out.five
 obtain ⟨f0,f1,f2,f3,f4⟩:=HB7.out.five_free
 have hs8:=(Upd.refl (fun b=>b=g) w7).put1 (i:=1) (.string ty)
 have HR8:=qH (HR7.out.upd hs8 (fun e=>hgr e.symm) (fun b hb e=>by have:=HZ0.out;have:=hb.1.1;omega))
 have HB8:Hid (Blk (w7.setCell ⟨g,1,none⟩ (.string ty)) g 50 #[.int .i64 (id:Int),.string ty,.int .i64 (src:Int),.int .i64 (dst:Int),.slice none 0 0]):=qH (HB7.out.put 1 _)
 have HU8:=qH (HU7.out.trans hs8 fun k _ hk=>.inl hk)
 clear hs8 HR7 HB7 HU7
 go_wp2_with fail
 clear c0 c1 c2 c3 c4 f0 f1 f2 f3 f4
 generalize w7.setCell ⟨g,1,none⟩ (.string ty)=w8 at *
 refine (ZeV HR8.out HF2.out (by omega)).mono ?_
 rintro e w9 ⟨v9,ok,rfl,HR9,hu9⟩
 obtain ⟨ps,ho,hok,hno⟩:=HR9.out
 obtain ⟨A9,c9,rfl⟩:=Zad ho.row
 have HPs:=qH ho
 have HOk:=qH (And.intro hok hno)
 have HB9:=qH (HB8.out.upd hu9 hgr)
 have HU9:=qH (HU8.out.trans hu9 fun k _ hk=>.inr hk)
 have HZ8:=qH HU8.out.size
 clear ho hok hno hu9 HR9 HR8 HU8 HB8
 obtain ⟨c0,c1,c2,c3,c4⟩:=HB9.out.five
 obtain ⟨f0,f1,f2,f3,f4⟩:=HB9.out.five_free
 go_wp2
 refine Zqe rfl rfl (HB9.out.put 4 _) ?_
 obtain ⟨W,hW⟩:∃ W,W=put5 (w9.setCell ⟨g,4,none⟩ (.slice A9 ps.length c9)) g (.int .i64 (id:Int)) (.string ty) (.int .i64 (src:Int)) (.int .i64 (dst:Int)) (.slice A9 ps.length c9):=⟨_,rfl⟩
 have hu:Upd (fun b=>b=g) w9 W:=by rw [hW];exact ((Upd.refl (fun b=>b=g) w9).put1 _).put5 _ _ _ _ _
 rw [<- hW]
 refine (HNR.out _ _).2 ⟨⟨(id:Int),ty,(src:Int),(dst:Int),ps,A9,ps.length,c9⟩,ok,rfl,⟨?_,⟨⟨by simp only;omega,by simp only;omega⟩,⟨by simp only;omega,by simp only;omega⟩,⟨by simp only;omega,by simp only;omega⟩⟩⟩,?_,?_,?_⟩
 · exact (HPs.out.type hu (fun b _ e=>by rw [e];exact ⟨_,HB9.out⟩) (by decide) (by decide) (by decide)).base (by have:=HS2.out.size;have:=HZ8.out;omega)
 · intro h
   rw [HP.out,HOk.1 h]
   rfl
 · intro h
   rw [HP.out,HOk.2 h]
   rfl
 exact HS2.out.trans (HU9.out.trans hu (S:=fun b=>b=g\/b=r) fun b _ e=>.inl e) fun b hb e=>by
  have h1:=HG.out
  have h2:=HS2.out.size
  have h3:=HZ0.out
  rcases e with e | e
  · omega
  have:=hr1;omega
noncomputable def ZeW (g:Zak):Int->List ByteArray:=Classical.choose (Zny (Zag g))
theorem Zfv (g:Zak):∀ k,Srt (Zag g k) (ZeW g k):=Classical.choose_spec (Zny (Zag g))
noncomputable def chkP (g:Zak):Int×Nat:=Zcq g (Zdh (ZeW g 1).length (ZeW g 2).length (ZeW g 3).length g.wt)
theorem ZdL {F:Nat->Prop} (w:World) (g:GR) (h:RdG w F g) (hz:ZcW g) {e:Int} {at_:Nat} (hE:chkP g.dat=(e,at_)) :
 Calls Tryz.prog 29 #[g.agg] w fun x w'=>x=.returned (.tuple #[.int .i64 e,.int .i64 at_])/\Same w w' :=
 ZkC w g h hz.fit hz.texts (Zfv g.dat) (by rw [<- ZlT]) hE
theorem ZjG {F:Nat->Prop} (w:World) (g:GR) (h:RdG w F g) (hz:ZcW g) {e:Int} {at_:Nat} (hE:chkP g.dat=(e,at_)) :
 Calls Tryz.prog 27 #[g.agg] w fun x w'=>x=.returned (.tuple #[.int .i64 e,.int .i64 at_])/\Same w w' :=
 Zjv w g h hz.fit (Zfv g.dat) (fun hh=>ZhO hh) (fun hh=>ZgR hh) (by rw [<- ZlT]) hE
theorem ZnL {g:Zak} (h:(chkP g).1=0):ZaI g=none/\g.wt<=262144:=by
 have h1:ZaI g=none:=Zmz (g:=g) (tl:=Zdh (ZeW g 1).length (ZeW g 2).length (ZeW g 3).length g.wt) (at_:=(chkP g).2) (Prod.ext h rfl)
 refine ⟨h1,?_⟩
 unfold chkP Zcq at h
 rw [h1] at h
 simp only at h
 unfold Zdh at h
 split at h
 · cases h
 split at h
 · cases h
 omega
theorem Zec {g:Zak} (h:(chkP g).1=0) (hf:ZpU g):Zcc g/\ZdG g=g:=by
 obtain ⟨h1,h2⟩:=ZnL h
 exact ⟨ZoY h1 h2 hf,(ZkK h1).1⟩
theorem ZkR {w:World} {F:Nat->Prop} {g:GR} (h:RdG w F g):ZpU g.dat:=by
 have key:∀ (ps:List PR) (A:Option Addr) (n c:Nat),RdPs w F A n c ps->∀ p∈ps.map PR.dat,p.val.Fits:=fun ps A n c hp p hm=>by
  obtain ⟨x,hx,rfl⟩:=List.mem_map.1 hm
  have hv:=hp.val x hx
  exact ⟨hv.kind,hv.num,hv.range⟩
 refine ⟨fun x hx p hp=>?_,fun x hx p hp=>?_⟩
 · obtain ⟨y,hy,rfl⟩:=List.mem_map.1 hx
   exact key _ _ _ _ (h.nodes.pro y hy) p hp
 obtain ⟨y,hy,rfl⟩:=List.mem_map.1 hx
 exact key _ _ _ _ (h.rels.pro y hy) p hp
theorem Zfw:∀ l:List GPr,psW l<=(l.flatMap ZbT).length
 | []=>by simp [psW]
 | p::l=>by
   have h:=Zfw l
   rw [Zlx,List.flatMap_cons,List.length_append]
   have e:(enc p.val).length<=(ZbT p).length:=by
    unfold ZbT
    simp only [List.length_append]
    omega
   omega
theorem ZnM (x:ZaP):psW x.props<=(Zca x).length:=by
 have h:=Zfw x.props
 unfold Zca Zcl
 simp only [List.length_append]
 omega
theorem ZnN (x:GRel):psW x.props<=(Zcb x).length:=by
 have h:=Zfw x.props
 unfold Zcb Zcl
 simp only [List.length_append]
 omega
theorem Ziy {α:Type} (f:α->List GPr) (t:Nat) (e:α->List UInt8) (h:∀ x,psW (f x)<=(e x).length):∀ l:List α,9*l.length+psW (l.flatMap f)<=((l.map fun x=>Zal t (e x)).flatten).length
 | []=>by simp [psW]
 | y::l=>by
   have h1:=Ziy f t e h l
   have h2:=h y
   rw [List.map_cons,List.flatten_cons,List.length_append,ZaT,List.flatMap_cons,ZcU,List.length_cons]
   omega
theorem Zez (g:Zak):9*g.nodes.length+9*g.rels.length+g.wt<=(ZaE g).flatten.length:=by
 have h1:=Ziy ZaP.props 2 Zca ZnM g.nodes
 have h2:=Ziy GRel.props 3 Zcb ZnN g.rels
 rw [Zbh]
 unfold Zak.wt
 simp only [List.length_append]
 omega
theorem Zed {s:PSt} (h:InvP s):9*s.g.nodes.length+9*s.g.rels.length+s.g.wt<=s.all.length:=by
 rcases h.2 with c | c | c | c
 · rw [c.2.1,c.2.2]
   decide
 · rw [c.2.2]
   exact Zez _
 · rw [c.2]
   exact Zez _
 rw [c.2,Zby,List.length_append]
 have:=Zez s.g
 omega
theorem ZjH {w:World} {B:Nat} {A:Option Addr} {n c:Nat} {ps:List PR} (h:ZbJ w B (.slice A n c) ps) (hn:ps.length<=255) (hw:∀ p∈ps.map PR.dat,p.Wr):Zeu n ps:=by
 have h1:ps.length=n:=h.rd.len
 refine ⟨by omega,fun x hx=>?_⟩
 have hx1:=hw x.dat (List.mem_map_of_mem hx)
 have hv:=(h.each x hx).rd
 have l1:=hv.len1
 have l2:=hv.len2
 obtain ⟨_,_,_,z4,z5,z6,z7⟩:=ZdS (show chk x.g=0 from hx1.2.1)
 have h5:x.key.size<=255:=hx1.1
 exact ⟨by omega,by omega,by omega,fun s hs=>by have:=z7 s hs;omega,by omega⟩
theorem Zdb {w:World} {B:Nat} {g:GR} (h:OwnG w B g) (hw:ZpY g.dat) (hn1:g.ns.length<=16777216) (hn2:g.rs.length<=16777216):ZcW g:=by
 have l1:g.ns.length=g.nN:=h.nodes.rd.len
 have l2:g.rs.length=g.nR:=h.rels.rd.len
 refine ⟨by omega,by omega,fun x hx=>?_,fun x hx=>?_⟩
 · have hx1:=hw.nodes x.dat (List.mem_map_of_mem hx)
   have hl:x.labels.length=x.nL:=by
    have:=(ZbK (h.nodes.each x hx).lab).len
    simpa using this
   have hln:x.labels.length<=255:=hx1.n
   exact ⟨by omega,fun s hs=>by have:s.size<=255:=hx1.lab s hs;omega,ZjH (h.nodes.each x hx).pro (by simpa [ND.dat] using hx1.np) hx1.pr⟩
 have hx1:=hw.rels x.dat (List.mem_map_of_mem hx)
 have ht:x.type.size<=255:=hx1.type
 exact ⟨by omega,ZjH (h.rels.each x hx).pro (by simpa [RL.dat] using hx1.np) hx1.pr⟩
theorem OwnG.nil_ (w:World) (B:Nat):OwnG w B ⟨[],none,0,0,[],none,0,0⟩:=⟨Zdq.nil_ _ _,Zdr.nil_ _ _⟩
theorem ZhX {w wa w9:World} {B g i:Nat} {t:TypeId} {cs:Array Value} {gr:GR} {x:ND} {v9:Value} (KO:OwnG w B gr) (kb:Blk w g t cs) (h0:43≠t) (h1:48≠t) (h2:2≠t) (h3:9≠t) (h4:50≠t)
 (hsa:Same w wa) (hx:ZcJ wa B x) (hg:Grew wa B 43 3 (.slice gr.AN gr.nN gr.cN) (gr.nN+1) (gr.ns.flatMap ND.cells++x.cells) v9 w9) :
 ∃ A9 c9,v9=.slice A9 (gr.nN+1) c9/\OwnG (w9.setCell ⟨g,i,none⟩ v9) B ⟨gr.ns++[x],A9,gr.nN+1,c9,gr.rs,gr.AR,gr.nR,gr.cR⟩/\Blk (w9.setCell ⟨g,i,none⟩ v9) g t (cs.setIfInBounds i v9)/\Blk w9 g t cs/\Upd (fun b=>b=g\/(OfT w 43 b/\B<=b)) w (w9.setCell ⟨g,i,none⟩ v9):=by
 have hln:gr.ns.length=gr.nN:=KO.nodes.rd.len
 have hrow:=KO.nodes.row
 rw [hln] at hrow
 have hrowa:=Zaa hrow hsa
 obtain ⟨A9,c9,rfl⟩:=Zad hg.own
 have hT:∀ b,b<wa.heap.size->(Value.slice gr.AN gr.nN gr.cN).ownBlock=some b->OfT wa 43 b:=fun b _ hb=>Zap hrowa hb
 have k9:=(kb.same hsa).upd hg.upd fun hh=>(kb.same hsa).ne_own hrowa h0 hh
 have hp:=(Upd.refl (fun b=>b=g) w9).put1 (i:=i) (.slice A9 (gr.nN+1) c9)
 have hTp:∀ b,b<w9.heap.size->b=g->OfT w9 t b:=fun b _ e=>by rw [e];exact ⟨_,k9⟩
 have hN9:=(KO.nodes.same hsa).snoc (x:=x) (by rw [hln];exact hg) hx
 have hR9:=(KO.rels.same hsa).type hg.upd hT (by decide) (by decide) (by decide) (by decide)
 refine ⟨A9,c9,rfl,⟨hN9.type hp hTp h0 h1 h2 h3,hR9.type hp hTp h4 h1 h2 h3⟩,k9.put i _,k9,?_⟩
 refine Upd.put ((hsa.mono (S':=fun b=>b=g\/(OfT w 43 b/\B<=b)) fun _ _ f=>f.elim).trans hg.upd fun k hk hb=>.inr ⟨Zap hrow hb,(hrow.lt k hb).1⟩) (.inl rfl) _
theorem Zhc {w wa w9:World} {B g i:Nat} {t:TypeId} {cs:Array Value} {gr:GR} {x:RL} {v9:Value} (KO:OwnG w B gr) (kb:Blk w g t cs) (h0:43≠t) (h1:48≠t) (h2:2≠t) (h3:9≠t) (h4:50≠t)
 (hsa:Same w wa) (hx:Zdd wa B x) (hg:Grew wa B 50 5 (.slice gr.AR gr.nR gr.cR) (gr.nR+1) (gr.rs.flatMap RL.cells++x.cells) v9 w9) :
 ∃ A9 c9,v9=.slice A9 (gr.nR+1) c9/\OwnG (w9.setCell ⟨g,i,none⟩ v9) B ⟨gr.ns,gr.AN,gr.nN,gr.cN,gr.rs++[x],A9,gr.nR+1,c9⟩/\Blk (w9.setCell ⟨g,i,none⟩ v9) g t (cs.setIfInBounds i v9)/\Blk w9 g t cs/\Upd (fun b=>b=g\/(OfT w 50 b/\B<=b)) w (w9.setCell ⟨g,i,none⟩ v9):=by
 have hln:gr.rs.length=gr.nR:=KO.rels.rd.len
 have hrow:=KO.rels.row
 rw [hln] at hrow
 have hrowa:=Zaa hrow hsa
 obtain ⟨A9,c9,rfl⟩:=Zad hg.own
 have hT:∀ b,b<wa.heap.size->(Value.slice gr.AR gr.nR gr.cR).ownBlock=some b->OfT wa 50 b:=fun b _ hb=>Zap hrowa hb
 have k9:=(kb.same hsa).upd hg.upd fun hh=>(kb.same hsa).ne_own hrowa h4 hh
 have hp:=(Upd.refl (fun b=>b=g) w9).put1 (i:=i) (.slice A9 (gr.nR+1) c9)
 have hTp:∀ b,b<w9.heap.size->b=g->OfT w9 t b:=fun b _ e=>by rw [e];exact ⟨_,k9⟩
 have hR9:=(KO.rels.same hsa).snoc (x:=x) (by rw [hln];exact hg) hx
 have hN9:=(KO.nodes.same hsa).type hg.upd hT (by decide) (by decide) (by decide) (by decide)
 refine ⟨A9,c9,rfl,⟨hN9.type hp hTp h0 h1 h2 h3,hR9.type hp hTp h4 h1 h2 h3⟩,k9.put i _,k9,?_⟩
 refine Upd.put ((hsa.mono (S':=fun b=>b=g\/(OfT w 50 b/\B<=b)) fun _ _ f=>f.elim).trans hg.upd fun k hk hb=>.inr ⟨Zap hrow hb,(hrow.lt k hb).1⟩) (.inl rfl) _
theorem ZnO {w w1:World} {g B:Nat} {t e:TypeId} {cs:Array Value} (kb:Blk w g t cs) (hu:Upd (fun b=>b=g\/(OfT w e b/\B<=b)) w w1) {k:Nat} {t':TypeId} {cs':Array Value} (h:Blk w k t' cs') (h1:t'≠t) (h2:t'≠e):Blk w1 k t' cs' :=
 h.upd hu (by
  rintro (rfl | ⟨⟨cs2,h3⟩,_⟩)
  · unfold Blk at h kb
    rw [h] at kb
    injection kb with kb
    injection kb with _ kb _
    exact h1 kb
  unfold Blk at h h3
  rw [h] at h3
  injection h3 with h3
  injection h3 with _ h3 _
  exact h2 h3)
theorem ZjI (a:Addr) (h:a.spot=none) (i:Nat):a.add i=⟨a.block,a.off+i,none⟩:=by
 obtain ⟨b,o,s⟩:=a
 subst h
 unfold Addr.add
 split <;> simp_all
theorem ZkS {B:Nat} {w:World} {v:Value} {l:List UInt8} (h:Lib.FreshBytes B w v l) (h0:0<l.length):∃ A c,v=.slice A l.length c/\Bytes w (fun b=>B<=b) A l.length c l:=by
 obtain ⟨g,cap,zs,rfl,hB,hle,hmx,hzl,hz,hb,hc,_⟩:=h
 refine ⟨_,_,rfl,by simp,hle,hmx,(fun h=>by cases h),fun a ha=>?_⟩
 cases ha
 have hat:∀ i u,(l.map u8v)[i]?=some u->w.cell? ⟨g,0+i,none⟩=some u:=fun i u hu=>by
  obtain ⟨x,hx,rfl⟩:∃ x,l[i]?=some x/\u8v x=u:=by simpa using hu
  have hi:=(List.getElem?_eq_some_iff.1 hx).1
  rw [Nat.zero_add,hc i (by omega)]
  have h1:(Lib.bytesOf (zs.take l.length))[i]?=some x:=by rw [hb];exact hx
  have h2:zs[i]?=some (zs.getD i 0):=by rw [List.getD,List.getElem?_eq_getElem (by omega)];rfl
  have h3:=hz _ (List.mem_of_getElem? h2)
  simp only [Lib.bytesOf,List.getElem?_map,List.getElem?_take,if_pos hi,h2,Option.map_some,Option.some.injEq] at h1
  subst h1
  have h4:(UInt8.ofNat (zs.getD i 0).toNat).toNat=(zs.getD i 0).toNat:=by
   rw [UInt8.toNat_ofNat']
   exact Nat.mod_eq_of_lt (by omega)
  simp only [u8v,h4,Option.some.injEq,Value.int.injEq,true_and]
  omega
 refine ⟨rfl,?_,hB,hat⟩
 have h1:=hat 0 (u8v l[0]) (by rw [List.getElem?_map,List.getElem?_eq_getElem h0];rfl)
 exact block_lt_of_cell h1
theorem Zpd {w:World} {B n c b o:Nat} {l:List BS} (h:Zfk w B (.slice (some ⟨b,o,none⟩) n c) l) (hn:l.length=n):Lib.PartsAt w ⟨b,o,none⟩ (l.map BS.cell) (l.map BS.data):=by
 refine ⟨by simp,fun i v hv=>?_,fun i v d hv hd=>?_⟩
 · have hi:i<n:=by have:=(List.getElem?_eq_some_iff.1 hv).1;simpa [hn] using this
   obtain ⟨b',o',x,hA,_,hx,_,hc⟩:=h.at_ hn hi
   cases hA
   rw [List.getElem?_map,hx] at hv
   cases hv
   rw [ZjI _ rfl]
   exact hc
 obtain ⟨x,hx,rfl⟩:∃ x,l[i]?=some x/\x.cell=v:=by simpa using hv
 rw [List.getElem?_map,hx] at hd
 cases hd
 have h1:=h.each x (List.mem_of_getElem? hx)
 refine ⟨x.A,x.c,by unfold BS.cell;rw [Bytes.len h1],fun hA=>?_,fun a ha j y hy=>?_⟩
 · have h2:=Row.nil h1 hA
   have h3:=Row.le h1
   exact List.eq_nil_of_length_eq_zero (by rw [Bytes.len h1];omega)
 obtain ⟨h2,_,_,h3⟩:=Row.cell h1 a ha
 rw [ZjI _ h2]
 exact h3 j _ (by rw [List.getElem?_map,hy];rfl)
theorem ZkT (L:List (List UInt8)):Lib.join L []=L.flatten:=by
 cases L with
 | nil=>rfl
 | cons x r =>
   rw [Lib.join_cons]
   simp [Lib.joinTail]
theorem ZnP (L:List (List UInt8)):Lib.lens L=L.flatten.length:=by
 unfold Lib.lens
 rw [List.length_flatten]
theorem ZnQ (w:World) {B n c:Nat} {A:Option Addr} {l:List BS} (h:Zfk w B (.slice A n c) l) (hn:l.length=n) (h2:2<=n) (h3:n<=100000) (hl:(l.map BS.data).flatten.length<=140737488355328) :
 Calls Tryz.prog 30 #[.slice A n c,.slice none 0 0] w fun e w'=>∃ v,e=.returned v/\Lib.FreshBytes w.heap.size w' v (l.map BS.data).flatten/\Same w w':=by
 obtain ⟨b,o,x,hA,_⟩:=h.at_ hn (i:=0) (by omega)
 subst hA
 have hr:=h.row
 rw [hn] at hr
 have hk:=Row.of_own hr
 have h1:=Any.bytes_Join_many joinL b o n c (l.map BS.cell) (l.map BS.data) (.slice none 0 0) [] w (by simp [hn]) h2 (Zpd h hn) hk.le ⟨none,0,rfl,fun _=>rfl,fun a ha=>by cases ha⟩
  (by omega) (by rw [ZnP];simpa using hl)
 rw [ZkT] at h1
 refine Calls.mono h1 ?_
 rintro e w' ⟨v,rfl,h3,h4⟩
 exact ⟨v,rfl,h3,Same.of_below h4⟩
end Go.Proofs.YtkopcinhbjimiaaGreatDoor
