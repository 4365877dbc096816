/- ArchiveBurst: for every graph, place and row of bytes it returns true (a tied card: crc.nibble's content by the program's text). -/
import Derived.Test.YtkopcinhbjimiaaGreatDoorK41
import Derived.Test.YtkopcinhbjimiaaGreatDoorTie
import Derived.Test.YtkopcinhbjimiaaGreatDoorCards
import Derived.Test.YtkopcinhbjimiaaGreatDoorK17
import Derived.SevenTiedAt
import Derived.Test.YtkopcinhbjimiaaGreatDoorK01
set_option maxRecDepth 100000
set_option maxHeartbeats 16000000
namespace Go.Proofs.YtkopcinhbjimiaaGreatDoor
open Go.ChangeShapes Go.WideShapes Go.ChangeAt Go.RowKit
def valB (arc turn:List UInt8) (a i j:Nat):UInt8:=if a<=j/\j<a+i then arc.getD j 0 ^^^ turn.getD (j-a) 0 else arc.getD j 0
def trnB (turn:List UInt8) (i:Nat):Bool:=(turn.take i).any fun x=>x != 0
theorem trnB_succ {turn:List UInt8} {i:Nat} (h:i<turn.length):trnB turn (i+1)=(trnB turn i || (turn.getD i 0 != 0)):=by
 unfold trnB
 rw [List.take_add_one,List.getElem?_eq_getElem h,List.any_append,List.getD,List.getElem?_eq_getElem h]
 simp
theorem valB_succ {arc turn:List UInt8} {a i j:Nat}:valB arc turn a (i+1) j=if j=a+i then arc.getD (a+i) 0 ^^^ turn.getD i 0 else valB arc turn a i j:=by
 unfold valB
 by_cases h:j=a+i
 · subst h
   rw [if_pos (by omega),if_pos rfl,Nat.add_sub_cancel_left]
 rw [if_neg h]
 by_cases h2:a<=j/\j<a+i
 · rw [if_pos h2,if_pos (by omega)]
 rw [if_neg h2,if_neg (by omega)]
theorem range_three (f:Nat->UInt8) {n a m:Nat} (h:a+m<=n):(List.range n).map f=(List.range a).map f++((List.range m).map fun k=>f (a+k))++((List.range (n-(a+m))).map fun k=>f (a+m+k)):=by
 have e:n=a+m+(n-(a+m)):=by omega
 conv=>lhs;rw [e,List.range_add,List.range_add]
 simp only [List.map_append,List.map_map]
 rfl
theorem range_all8 (l:List UInt8):(List.range l.length).map (fun j=>l.getD j 0)=l:=by
 apply List.ext_getElem
 · simp
 intro i h1 h2
 simp [h2]
theorem xor_zero_of {x y:UInt8} (h:x=x ^^^ y):y=0:=by
 have h1:x ^^^ x=x ^^^ (x ^^^ y):=congrArg (x ^^^ ·) h
 rw [<- UInt8.xor_assoc,UInt8.xor_self,UInt8.zero_xor] at h1
 exact h1.symm
theorem burst_read {G:GGraph} (hR:RightD G) (hC:(chkP G).1=0) {turn:List UInt8} {a m:Nat} (h4:m<=4) (ha:a+m<=(arcP G).length) (ht:m<=turn.length)
 (hG:(chkP (readP ((List.range (arcP G).length).map (valB (arcP G) turn a m))).2).1=0->RightD (readP ((List.range (arcP G).length).map (valB (arcP G) turn a m))).2) :
 ((readP ((List.range (arcP G).length).map (valB (arcP G) turn a m))).1 != 0)=trnB turn m:=by
 obtain ⟨C,hCe⟩:∃ C,(List.range (arcP G).length).map (valB (arcP G) turn a m)=C:=⟨_,rfl⟩
 rw [hCe] at hG ⊢
 by_cases ht0:trnB turn m=true
 · rw [ht0,bne_iff_ne]
   intro h0
   obtain ⟨h1,h2⟩:=readP_ok h0
   have hR':=hG h1
   have e1:arcP G=(List.range a).map (fun j=>(arcP G).getD j 0)++((List.range m).map fun k=>(arcP G).getD (a+k) 0)++((List.range ((arcP G).length-(a+m))).map fun k=>(arcP G).getD (a+m+k) 0):=by
    rw [<- range_three (fun j=>(arcP G).getD j 0) ha,range_all8]
   have e2:arcP (readP C).2=(List.range a).map (fun j=>(arcP G).getD j 0)++((List.range m).map fun k=>valB (arcP G) turn a m (a+k))++((List.range ((arcP G).length-(a+m))).map fun k=>(arcP G).getD (a+m+k) 0):=by
    rw [<- h2,<-hCe,range_three (valB (arcP G) turn a m) ha]
    congr 1
    · congr 1
      apply List.map_congr_left
      intro j hj
      have:=List.mem_range.1 hj
      unfold valB
      rw [if_neg (by omega)]
    apply List.map_congr_left
    intro j hj
    unfold valB
    rw [if_neg (by omega)]
   have e3:=burst hR hR' e1 e2 (by simp) (by simpa using h4)
   have:trnB turn m=false:=by
    unfold trnB
    rw [List.any_eq_false]
    intro x hx
    obtain ⟨k,hk,rfl⟩:=List.mem_iff_getElem.1 hx
    rw [List.length_take] at hk
    have e4:=congrArg (fun l=>l[k]?) e3
    simp only [List.getElem?_map] at e4
    rw [List.getElem?_range (by omega)] at e4
    simp only [Option.map_some,Option.some.injEq] at e4
    unfold valB at e4
    rw [if_pos (by omega),Nat.add_sub_cancel_left] at e4
    have e5:=xor_zero_of e4
    rw [List.getElem_take]
    rw [List.getD,List.getElem?_eq_getElem (by omega)] at e5
    simpa using e5
   rw [this] at ht0
   cases ht0
 have ht1:trnB turn m=false:=by simpa using ht0
 rw [ht1]
 have hz:∀ k,k<m->turn.getD k 0=0:=fun k hk=>by
  unfold trnB at ht1
  have h5:=List.any_eq_false.1 ht1 (turn[k]'(by omega)) (List.mem_iff_getElem.2 ⟨k,by rw [List.length_take];omega,by rw [List.getElem_take]⟩)
  rw [List.getD,List.getElem?_eq_getElem (by omega)]
  simpa using h5
 have e:C=arcP G:=by
  rw [<- hCe]
  conv=>rhs;rw [<- range_all8 (arcP G)]
  apply List.map_congr_left
  intro j hj
  unfold valB
  by_cases h6:a<=j/\j<a+m
  · rw [if_pos h6,hz (j-a) (by omega),UInt8.xor_zero]
  rw [if_neg h6]
 rw [e]
 have h7:(readP (arcP G)).1=0:=by
  unfold readP
  rw [fedP_arc hR]
  simp only
  unfold ansP
  rw [if_neg (by simp),if_neg (by simp [hC])]
 rw [h7]
 rfl
theorem u8_bv (a:UInt8):BitVec.ofInt 8 (a.toNat:Int)=a.toBitVec:=by
 rw [BitVec.ofInt_natCast]
 show BitVec.ofNat 8 a.toBitVec.toNat=a.toBitVec
 rw [BitVec.ofNat_toNat,BitVec.setWidth_eq]
theorem u8_wrap (a:UInt8):IntKind.u8.wrap (a.toNat:Int)=(a.toNat:Int):=IntWalk.u8_in _ ⟨by omega,by have:=a.toNat_lt;omega⟩
theorem u8_xor (a b:UInt8):bits .xor .u8 (a.toNat:Int) (b.toNat:Int)=((a ^^^ b).toNat:Int):=by
 show IntKind.u8.wrap ((BitVec.ofInt 8 (a.toNat:Int) ^^^ BitVec.ofInt 8 (b.toNat:Int)).toNat:Int)=_
 rw [u8_bv,u8_bv]
 exact u8_wrap (a ^^^ b)
theorem archiveBurst_walk {F F':Nat->Prop} (w:World) (hN:Nib w) {g:GR} (h:RdG w F g) (hz:GSized g) {at_:Int} {AT:Option Addr} {nT cT:Nat} {tr:List UInt8} (hT:Bytes w F' AT nT cT tr) (hnT:nT<=140737488351232) :
 Calls Tryz.prog 10 #[g.agg,.int .i64 at_,.slice AT nT cT] w fun e w'=>e=.returned (.bool true)/\Same w w':=by
 have s1:=(Upd.refl (fun _=>False) w).alloc (.cells #[.slice g.AN g.nN g.cN,.slice g.AR g.nR g.cR] 26)
 have HB1:=qH (Blk.new w 26 #[.slice g.AN g.nN g.cN,.slice g.AR g.nR g.cR])
 have HS1:=qH s1
 have HRG:=qH (h.same s1)
 have HT:=qH ((hT.mono (F':=fun b=>b<w.heap.size) fun _ hb _=>hb).same s1)
 have HZ:=qH hz
 have HN:=qH (hN.same s1)
 have HTL:=qH hT.len
 obtain ⟨G,hG⟩:∃ G,g.dat=G:=⟨_,rfl⟩
 have HG:=qH hG
 have HRt:=qH fun (h0:(chkP G).1=0)=>(chkP_right h0 (hG ▸ rd_fits h)).1
 clear h hz s1 hN hG hT
 obtain ⟨ns,AN,nN,cN,rs,AR,nR,cR⟩:=g
 simp only at HB1 HS1 HRG
 go_enter Tryz.func10,Tryz.ntmps10
 go_upto_region 1 with fail
 generalize w.alloc (.cells #[.slice AN nN cN,.slice AR nR cR] 26)=w1 at *
 generalize hg0:w.heap.size=g0 at *
 go_wp2_with fail
 refine (speaksA_spec w1 HN.out).mono ?_
 rintro e w2 ⟨rfl,hs2⟩
 have HS2:=qH hs2
 have HB2:=qH (HB1.out.same hs2)
 have c0:w2.cell? ⟨g0,0,none⟩=some (.slice AN nN cN):=HB2.out.cell 0
 have c1:w2.cell? ⟨g0,1,none⟩=some (.slice AR nR cR):=HB2.out.cell 1
 clear hs2
 go_wp2_with fail
 refine (copyG_spec w2 ⟨ns,AN,nN,cN,rs,AR,nR,cR⟩ (HRG.out.same HS2.out) HZ.out).mono ?_
 rintro e w4 ⟨⟨ns',AN',nN',cN',rs',AR',nR',cR'⟩,rfl,HD,HO,hs4⟩
 have HS4:=qH (HS2.out.trans hs4 fun _ _ f=>f)
 have HZ':=qH (gsized_dat HRG.out HO.out.rd HZ.out HD.out)
 clear c0 c1 hs4
 go_wp2_with fail
 refine (writeF_spec w4 ⟨ns',AN',nN',cN',rs',AR',nR',cR'⟩ HO.out.rd HZ'.out (HN.out.same HS4.out)).mono ?_
 rintro e w5 ⟨v5,rfl,hs5,h51,h52⟩
 rw [HD.out,HG.out] at h51 h52 ⊢
 have HS5:=qH (HS4.out.trans hs5 fun _ _ f=>f)
 have hSz:g0<=w4.heap.size:=by have:=HS4.out.size;have:=HS1.out.size;omega
 clear hs5
 by_cases h0:(chkP G).1=0
 case neg =>
  obtain rfl:=h51 h0
  have nz:((chkP G).1 != 0)=true:=by rw [bne_iff_ne];exact h0
  generalize (chkP G).1=er at *
  go_wp2
  go_ret
  exact ⟨rfl,HS1.out.trans HS5.out fun _ _ f=>f⟩
 obtain ⟨arc,harc⟩:∃ arc,arcP G=arc:=⟨_,rfl⟩
 have HA:=qH harc
 have hF:=h52 h0
 rw [harc] at hF
 rw [h0]
 have HC:=qH h0
 have hal:0<arc.length/\arc.length<=2900025:=by
  rw [<- harc]
  have h1:=(HRt.out h0).arc_len
  rw [arcP_split,List.length_append,tailP_len] at h1 ⊢
  omega
 have hby:=fresh_bytes hF hal.1
 obtain ⟨gb,cap,zs,rfl,hgB,hle,hmx,hzl,hz8,hzb,hzc,hzf⟩:=hF
 obtain ⟨A5,c5,he5,hb5⟩:=hby
 injection he5 with e1 e2 e3
 subst e1
 subst e3
 have HB5:=qH hb5
 have HFz:=qH hzf
 clear h51 h52 h0 harc hzc hz8 hzb hzl hb5 e2 hzf
 generalize hn:arc.length=n at *
 have HNl:=qH hn
 by_cases ha0:at_<0
 case pos =>
  go_wp2
  go_ret
  exact ⟨rfl,HS1.out.trans HS5.out fun _ _ f=>f⟩
 by_cases ha1:(n:Int)<=at_
 case pos =>
  go_wp2
  go_ret
  exact ⟨rfl,HS1.out.trans HS5.out fun _ _ f=>f⟩
 obtain ⟨a,rfl⟩:∃ a:Nat,at_=(a:Int):=⟨at_.toNat,by omega⟩
 have hwn:IntKind.i64.wrap ((n:Int)-(a:Int))=((n-a:Nat):Int):=by rw [IntKind.wrap_i64];omega
 obtain ⟨m,hm⟩:∃ m,min (min nT 4) (n-a)=m:=⟨_,rfl⟩
 clear hn
 have q0:decide ((a:Int)<0)=false:=decide_eq_false (by omega)
 have q1:decide (n<=a)=false:=decide_eq_false (by omega)
 have q2:decide ((n:Int)<=(a:Int))=false:=decide_eq_false (by omega)
 go_wp2_with fail
 clear q0 q1 q2
 go_loopg [10,9] m (fun gh s10 s9 wr=>∃ (i:Nat),m-i=gh/\i<=m/\s10=.int .i64 (i:Int)/\s9=.bool (trnB tr i)/\Hid (Upd (fun b=>b=gb) w5 wr)/\Hid (∀ j,j<n->wr.cell? ⟨gb,j,none⟩=some (.int .u8 ((valB arc tr a i j).toNat:Int))/\wr.frozen? ⟨gb,j,none⟩=false))
 case atStart =>
  refine ⟨0,rfl,Nat.zero_le _,rfl,rfl,qH (Upd.refl _ _),qH fun j hj=>⟨?_,HFz.out j (by omega)⟩⟩
  have e:valB arc tr a 0 j=arc.getD j 0:=by unfold valB;rw [if_neg (by omega)]
  have h9:=(Row.cell HB5.out _ rfl).2.2.2 j (u8v (arc.getD j 0)) (by rw [List.getElem?_map,List.getD,List.getElem?_eq_getElem (by have:=HNl.out;omega)];rfl)
  rw [e]
  simpa using h9
 obtain ⟨i,rfl,hi,rfl,rfl,KU,KC⟩:=hrel
 have hgb:g0<gb:=by have:=HS4.out.size;have:=HB1.out.lt;have:=HS2.out.size;omega
 by_cases hin:i<m
 case pos =>
  have j1:(i:Int)<(nT:Int):=by omega
  have j2:(i:Int)<4:=by omega
  have j3:(i:Int)<((n-a:Nat):Int):=by omega
  obtain ⟨q,hq⟩:∃ q,a+i=q:=⟨_,rfl⟩
  have hwa:IntKind.i64.wrap ((a:Int)+(i:Int))=(q:Int):=by rw [IntKind.wrap_i64];omega
  have hwi:IntKind.i64.wrap ((i:Int)+1)=((i+1:Nat):Int):=by rw [IntKind.wrap_i64];omega
  have j4:(q:Int)<(n:Int):=by omega
  have hai:q<n:=by omega
  have hit:i<tr.length:=by have:=HTL.out;omega
  obtain ⟨b,o,rfl,hb,hbF,hct⟩:=((HT.out.same HS5.out).upd KU.out (fun b hb e=>by subst e;omega)).at_ (show i<nT by omega)
  obtain ⟨x,hx⟩:∃ x,valB arc tr a i q=x:=⟨_,rfl⟩
  obtain ⟨y,hy⟩:∃ y,tr[i]=y:=⟨_,rfl⟩
  have hyd:tr.getD i 0=y:=by rw [List.getD,List.getElem?_eq_getElem hit,<-hy];rfl
  have hxd:arc.getD q 0=x:=by rw [<- hx];unfold valB;rw [if_neg (by omega)]
  rw [hy] at hct
  have hcx:wr.cell? ⟨gb,q,none⟩=some (.int .u8 (x.toNat:Int)):=by rw [<- hx];exact (KC.out _ hai).1
  have hfx:=(KC.out _ hai).2
  obtain ⟨z,hz⟩:∃ z,x ^^^ y=z:=⟨_,rfl⟩
  have hxor:bits BinOp.xor IntKind.u8 (x.toNat:Int) (y.toNat:Int)=(z.toNat:Int):=by rw [<- hz];exact u8_xor x y
  have hne:gb≠b:=by omega
  have KC2:Hid (∀ j,j<n->((wr.setCell ⟨gb,q,none⟩ (.int .u8 (z.toNat:Int))).cell? ⟨gb,j,none⟩=some (.int .u8 ((valB arc tr a (i+1) j).toNat:Int))/\(wr.setCell ⟨gb,q,none⟩ (.int .u8 (z.toNat:Int))).frozen? ⟨gb,j,none⟩=false)):=qH fun j hj=>by
   refine ⟨?_,by rw [World.frozen?_setCell];exact (KC.out j hj).2⟩
   rw [valB_succ,hq,hxd,hyd,hz]
   by_cases hje:j=q
   · subst hje
     rw [if_pos rfl]
     exact World.cell?_setCell_same' _ _ _ (by rw [hcx];rfl)
   rw [if_neg hje,World.cell?_setCell_other _ _ _ _ (by intro e;injection e with _ e;exact hje e.symm)]
   exact (KC.out j hj).1
  have KU2:Hid (Upd (fun b=>b=gb) w5 (wr.setCell ⟨gb,q,none⟩ (.int .u8 (z.toNat:Int)))):=qH (KU.out.put1 _)
  have HTS:=qH (trnB_succ hit)
  rw [hyd] at HTS
  have hct2:(wr.setCell ⟨gb,q,none⟩ (.int .u8 (z.toNat:Int))).cell? ⟨b,o+i,none⟩=some (.int .u8 (y.toNat:Int)):=by
   rw [World.cell?_setCell_other _ _ _ _ (by intro e;injection e with e _;exact hne e)]
   exact hct
  have hy0:((y.toNat:Int) != 0)=(y != 0):=by
   by_cases h:y=0
   · subst h;rfl
   rw [(bne_iff_ne).2 h,bne_iff_ne]
   intro hh
   exact h (UInt8.toNat_inj.1 (by simpa using hh))
  clear hx hy hxd hyd hz hit hai hq
  go_upto_region 10 with fail
  refine wp_region_E 12 (fun wx=>wx.cell? ⟨gb,q,none⟩=some (.int .u8 (x.toNat:Int))/\wx.cell? ⟨b,o+i,none⟩=some (.int .u8 (y.toNat:Int))) (by kernel_rfl) ⟨hcx,hct⟩ (fun hHeld=>?_)
  refine ESt.take (i:=0) (v:=?_) (by decide +kernel) rfl (by decide +kernel) (fun _ _ _ h=>h) (Or.inl ⟨by rfl,?_⟩) (by assumption) ?_
  rotate_left
  · intro wx hSw
    obtain ⟨h0,h1⟩:=hSw
    go_simp
    try with_reducible rfl
  simp only [Act.put]
  refine ESt.take (i:=1) (v:=?_) (by decide +kernel) rfl (by decide +kernel) (fun _ _ _ h=>h) (Or.inl ⟨by rfl,?_⟩) (by assumption) ?_
  rotate_left
  · intro wx hSw
    obtain ⟨h0,h1⟩:=hSw
    go_simp
    try with_reducible rfl
  simp only [Act.put]
  refine ESt.take (i:=2) (v:=?_) (by decide +kernel) rfl (by decide +kernel) (fun _ _ _ h=>h) (Or.inl ⟨by rfl,?_⟩) (by assumption) ?_
  rotate_left
  · intro wx hSw
    obtain ⟨h0,h1⟩:=hSw
    go_simp
    try with_reducible rfl
  simp only [Act.put]
  refine ESt.take (i:=3) (v:=?_) (by decide +kernel) rfl (by decide +kernel) (fun _ _ _ h=>h) (Or.inl ⟨by rfl,?_⟩) (by assumption) ?_
  rotate_left
  · intro wx hSw
    obtain ⟨h0,h1⟩:=hSw
    go_simp
    try with_reducible rfl
  simp only [Act.put]
  refine ESt.take (i:=4) (v:=?_) (by decide +kernel) rfl (by decide +kernel) (fun _ _ _ h=>h) (Or.inl ⟨by rfl,?_⟩) (by assumption) ?_
  rotate_left
  · intro wx hSw
    obtain ⟨h0,h1⟩:=hSw
    go_simp
    try with_reducible rfl
  simp only [Act.put]
  refine ESt.take (i:=5) (v:=?_) (by decide +kernel) rfl (by decide +kernel) (fun _ _ _ h=>h) (Or.inl ⟨by rfl,?_⟩) (by assumption) ?_
  rotate_left
  · intro wx hSw
    obtain ⟨h0,h1⟩:=hSw
    go_simp
    try with_reducible rfl
  simp only [Act.put]
  refine ESt.take (i:=6) (v:=?_) (by decide +kernel) rfl (by decide +kernel) (fun _ _ _ h=>h) (Or.inl ⟨by rfl,?_⟩) (by assumption) ?_
  rotate_left
  · intro wx hSw
    obtain ⟨h0,h1⟩:=hSw
    go_simp
    try with_reducible rfl
  simp only [Act.put]
  refine ESt.take (i:=7) (v:=?_) (by decide +kernel) rfl (by decide +kernel) (fun _ _ _ h=>h) (Or.inl ⟨by rfl,?_⟩) (by assumption) ?_
  rotate_left
  · intro wx hSw
    obtain ⟨h0,h1⟩:=hSw
    go_simp
    try with_reducible rfl
  simp only [Act.put]
  refine ESt.take (i:=8) (v:=?_) (by decide +kernel) rfl (by decide +kernel) (fun _ _ _ h=>h) (Or.inl ⟨by rfl,?_⟩) (by assumption) ?_
  rotate_left
  · intro wx hSw
    obtain ⟨h0,h1⟩:=hSw
    go_simp
    try with_reducible rfl
  simp only [Act.put]
  refine ESt.take (i:=9) (v:=?_) (by decide +kernel) rfl (by decide +kernel) (fun _ _ _ h=>h) (Or.inl ⟨by rfl,?_⟩) (by assumption) ?_
  rotate_left
  · intro wx hSw
    obtain ⟨h0,h1⟩:=hSw
    go_simp
    try with_reducible rfl
  simp only [Act.put]
  refine ESt.take (i:=10) (v:=?_) (by decide +kernel) rfl (by decide +kernel) (fun _ _ _ h=>h) (Or.inl ⟨by rfl,?_⟩) (by assumption) ?_
  rotate_left
  · intro wx hSw
    obtain ⟨h0,h1⟩:=hSw
    go_simp
    try with_reducible rfl
  simp only [Act.put]
  refine ESt.take (i:=11) (v:=?_) (by decide +kernel) rfl (by decide +kernel) (fun _ _ _ h=>h) (Or.inl ⟨by rfl,?_⟩) (by assumption) ?_
  rotate_left
  · intro wx hSw
    obtain ⟨h0,h1⟩:=hSw
    go_simp
    try with_reducible rfl
  simp only [Act.put]
  refine ESt.last (by decide +kernel) (by decide +kernel) rfl (fun K hK=>?_) _
  go_simp
  refine hK.out _ _ ?_
  clear hK K
  generalize wr.setCell ⟨gb,q,none⟩ (.int .u8 (z.toNat:Int))=wz at *
  clear hHeld hct hcx hfx hxor hwa
  cases htb:trnB tr i with
  | true =>
    rw [htb] at HTS
    go_wp2_with fail
    go_roundg (m-(i+1))
    case measure=>omega
    case rel=>exact ⟨i+1,rfl,by omega,by go_num,by rw [HTS.out];rfl,qH KU2.out.drew,qH fun j hj=>KC2.out j hj⟩
  | false =>
    rw [htb] at HTS
    generalize (y != 0)=yb at *
    go_wp2_with fail
    go_roundg (m-(i+1))
    case measure=>omega
    case rel=>exact ⟨i+1,rfl,by omega,by go_num,by rw [HTS.out];simp,qH KU2.out.drew,qH fun j hj=>KC2.out j hj⟩
 obtain rfl:i=m:=by omega
 have HBn:Hid (Bytes wr (fun b=>b=gb) (some ⟨gb,0,none⟩) n cap ((List.range n).map (valB arc tr a i))):=qH (by
  refine ⟨by simp,hle,hmx,(fun h=>by cases h),fun A hA=>?_⟩
  cases hA
  refine ⟨rfl,by have h1:=(KC.out 0 (by omega)).1;exact block_lt_of_cell h1,rfl,fun j u hu=>?_⟩
  simp only [List.map_map,List.getElem?_map] at hu
  by_cases hj:j<n
  · rw [List.getElem?_range hj] at hu
    simp only [Option.map_some,Option.some.injEq] at hu
    subst hu
    rw [Nat.zero_add]
    exact (KC.out j hj).1
  rw [List.getElem?_eq_none (by simpa using hj)] at hu
  cases hu)
 have HBr:=qH fun hG=>burst_read (HRt.out HC.out) HC.out (turn:=tr) (a:=a) (m:=i) (by omega) (by rw [HA.out,HNl.out];omega) (by have:=HTL.out;omega) hG
 rw [HA.out,HNl.out] at HBr
 have HSr:Hid (Same w wr):=qH ((HS1.out.trans HS5.out fun _ _ f=>f).trans KU.out fun b hb e=>by omega)
 have HNr:=qH (HN.out.same HS5.out |>.upd KU.out (by have h1:=HN.out.1;have:=HS4.out.size;omega))
 have HAR:=qH (aread_spec wr HBn.out HNr.out)
 generalize (List.range n).map (valB arc tr a i)=C at *
 generalize trnB tr i=tb at *
 have h3:¬ (i:Int)<(nT:Int)\/((i:Int)<(nT:Int)/\¬ (i:Int)<4)\/((i:Int)<(nT:Int)/\(i:Int)<4/\¬ (i:Int)<((n-a:Nat):Int)):=by omega
 clear KC KU hin hi HBn HNr
 rcases h3 with h3 | ⟨h3,h4⟩ | ⟨h3,h4,h5⟩
 all_goals
  go_wp2_with fail
  refine HAR.out.mono ?_
  rintro e w9 ⟨⟨ns9,AN9,nN9,cN9,rs9,AR9,nR9,cR9⟩,rfl,hD9,hO9,hs9⟩
  have hne:=HBr.out fun h0=>(chkP_right h0 (hD9 ▸ rd_fits hO9.rd)).1
  have HS9:=qH (HSr.out.trans hs9 fun _ _ f=>f)
  generalize (readP C).1=er9 at *
  clear hD9 hO9 hs9
  go_wp2
  go_ret
  exact ⟨by simp,HS9.out⟩
theorem archiveBurst_lifted (os:Os) (started:os.Started) (H:Type) (enc:TypeId×Value->H) :
 ReturnsInHanded {} Tryz.checked os 10 .any (fun w args=>(Rows.archiveBurstSpec.pre enc Tryz.prog Tryz.f10 [] false w args/\laidMetH Tryz.prog laidT w)/\sizedMet enc Tryz.prog Tryz.f10 (OpenSpec.ofChange Rows.archiveBurstSpec) false w args)
  (Rows.archiveBurstSpec.post enc Tryz.prog Tryz.f10 false true false false):=by
 refine returnsInHanded_of_change_and (C:=Tryz.checked) (X:=fun w _=>laidMetH Tryz.prog laidT w) (fun _ _ _ hh h=>h.of_heap hh) ownTry started (by kernel_rfl) Tryz.func10
  (ChangeSpec.witness_shaped (enc:=enc) (C:=Tryz.checked) (os:=os) (X:=fun w _=>laidMetH Tryz.prog laidT w) false (World.doorLaid Tryz.prog 400 os) #[.agg #[.slice none 0 0,.slice none 0 0],.int .i64 0,.slice none 0 0] 8 rfl (World.shaped_of_RefB (by kernel_rfl) (by kernel_rfl)) (by kernel_rfl) (by kernel_rfl) (by kernel_rfl) (door_met os _)) ?_
 intro W base args ds gs before hval hW _ hsz hL _
 obtain ⟨p,hA⟩:=whole_args (P:=Tryz.prog) (ts:=[26,3,28]) (by rw [Tryz.params10]) hW
 obtain ⟨v0,v1,v2,d0,d1,d2,p0,p1,p2,rfl,rfl,_,h0,h1,h2⟩:=trodAll_three hA
 obtain ⟨g0,rfl,hr0,z0⟩:=open_graph (hval 0 26 v0 (by rw [Tryz.params10];rfl) rfl) h0 (weights_of hsz (j:=0) (by rw [Tryz.params10];rfl) rfl)
 obtain ⟨x1,rfl,_,_,wx1⟩:=open_int Tryz.underlying3 (hval 1 3 v1 (by rw [Tryz.params10];rfl) rfl) h1
 obtain ⟨A2,n2,c2,bs2,rfl,hr2,z2⟩:=open_bytes (hval 2 28 v2 (by rw [Tryz.params10];rfl) rfl) h2 (weights_of hsz (j:=2) (by rw [Tryz.params10];rfl) rfl)
 refine (archiveBurst_walk W (nib_of_laid hL) hr0 z0 hr2 z2).mono ?_
 rintro e W' ⟨rfl,hs⟩
 exact ⟨_,rfl,law_post laidTry (ts:=[26,3,28]) (by rw [Tryz.params10]) (tb:=4) (by kernel_rfl) Tryz.underlying4 (by kernel_rfl) rfl (by rintro rfl;exact ⟨rfl,rfl,rfl⟩) hW hs.below⟩
theorem archiveBurst_said:Rows.ArchiveBurstSaid :=
 OpenClaim.holds_of_wide 10 Tryz.f10 rfl rfl rfl rfl rfl rfl rfl ⟨rfl,rfl,rfl,rfl,rfl⟩ rfl rfl rfl rfl rfl (by kernel_rfl) Tryz.func10 (by kernel_rfl)
  (of_decide_eq_true (by kernel_rfl)) (by unfold Func.isWrapper;first | (rw [if_pos (by decide +kernel)];kernel_rfl) | (rw [if_neg (by decide +kernel)];exact ⟨rfl,rfl⟩))
  (fun os started H enc _=>archiveBurst_lifted os started H enc)
theorem archiveBurst_holds:Rows.ArchiveBurstCardSaid :=
 Claim7.holds_tied_plain_at .later [] [.data] true (true, "4982e14d7e6b816143ef947475410f28ce78841f78923bc3c4f68e82710c8bf7") false
  archiveBurst_said (fun _ h=>by cases h) (by kernel_rfl) (fun _ h=>by cases h) archiveBurst_row_tie rfl ⟨rfl,rfl⟩ (by kernel_rfl) rfl
  (fun f fn hf hfn=>by
    obtain rfl:f=10:=Option.some.inj ((show Tryz.prog.funcNamed "satchel/satchellaw20.ArchiveBurst" = some 10 by kernel_rfl).symm.trans hf) |>.symm
    obtain rfl:fn=Tryz.f10:=(Option.some.inj (Tryz.func10.symm.trans hfn)).symm
    exact ⟨by kernel_rfl,fun j t ht=>by
     rw [Tryz.params10] at ht
     have hm:t∈[26,3,28]:=by simpa using Array.mem_of_getElem? ht
     have hall:([26,3,28].all fun u=>!Tryz.prog.wantsStandIn u)=true:=by kernel_rfl
     exact (show Tryz.prog.wantsStandIn t=false by simpa using List.all_eq_true.1 hall t hm)⟩)
  (by kernel_rfl)
end Go.Proofs.YtkopcinhbjimiaaGreatDoor
