/- Texts that the claim leans on: walks and plain laws, function by function. -/
import Derived.Test.YtkopcinhbjimiaaGreatDoorS03
set_option maxRecDepth 100000
set_option maxHeartbeats 16000000
namespace Go.Proofs.YtkopcinhbjimiaaGreatDoor
open Go.RowKit
theorem Zab (k n:Nat):(beb k n).length=k:=by
 induction k with
 | zero=>rfl
 | succ k ih=>simp [beb,ih]
theorem Zqe:∀ (k n j:Nat) (h:j<k),(beb k n)[j]'(by rw [Zab];exact h)=UInt8.ofNat (n / 256 ^ (k-1-j)):=by
 intro k
 induction k with
 | zero=>intro n j h;omega
 | succ k ih =>
   intro n j h
   cases j with
   | zero=>simp [beb]
   | succ j =>
     have h2:=ih n j (by omega)
     simp only [beb,List.getElem_cons_succ]
     rw [h2]
     congr 3
     omega
theorem Zoi (n s:Nat):IntKind.u8.wrap ((n:Int) / 2 ^ (8*s))=(((UInt8.ofNat (n / 256 ^ s)).toNat:Nat):Int):=by
 rw [IntKind.wrap_u8']
 have:(256:Nat) ^ s=2 ^ (8*s):=by rw [Nat.pow_mul]
 simp [this]
theorem Zla {B:Nat} {v:Value} {bs:List UInt8} (w:World) (hv:OwnB w B v bs) (hB:B<=w.heap.size) (width n:Nat) (hw:1<=width/\width<=8) (hx:bs.length+8<=140737488355328) :
 Calls Tryz.prog 118 #[v,.int .i64 width,.int .u64 n] w fun e w' =>
  ∃ v',e=.returned v'/\Zbw w B v (bs++beb width n) v' w':=by
 go_enter Tryz.func118,Tryz.ntmps118
 go_wp2
 go_loopw [0,7] (fun u i wr=>∃ k:Nat,k<=width/\i=.int .i64 (8*((width:Int)-1)-8*k)/\Grew w B 5 1 v (bs.length+k) (bs.map u8v++((beb width n).take k).map u8v) u wr) (fun _ i _=>(intOf i+8).toNat)
 case atStart=>exact ⟨0,by omega,by go_num,Grew.refl (by simpa using hv)⟩
 obtain ⟨k,hk,rfl,hg⟩:=hrel
 have hown:=hg.own
 by_cases hlt:k<width
 · go_wp2_with (at_builtin;go_must (refine Zag rfl (.tmp 15) (.tmp 20) _ _ rfl B _ _ _ _ Tryz.underlying28 ZaR rfl u0 _ _ rfl (hown.alloc _) rfl (Zal Tryz.underlying28 (Row.one _ _ _) (by simp [Value.oneCell'])) (by unfold maxLen;omega) (by omega) (by have:=hg.size;simp;omega) ?_);intro v' w1 happ)
   go_roundw
   case rel =>
    refine ⟨k+1,by omega,by go_num,?_⟩
    have h1:=(hg.alloc _).trans happ
    have h2:(beb width n).take (k+1)=(beb width n).take k++[UInt8.ofNat (n / 256 ^ (width-1-k))]:=by
     rw [Zev _ k (by rw [Zab];exact hlt),Zqe width n k hlt]
    have h3:=Zoi n (width-1-k)
    rw [IntKind.wrap_u8',show 8*(width-1-k)=8*(width-1)-8*k from by omega] at h3
    rw [h2,List.map_append,List.map_singleton,<-List.append_assoc,<-Nat.add_assoc]
    rwa [h3] at h1
   case measure=>simp [intOf];omega
 obtain rfl:k=width:=by omega
 go_wp2
 go_ret
 refine ⟨_,rfl,?_⟩
 rw [List.take_of_length_le (by rw [Zab];exact Nat.le_refl _)] at hg
 unfold Zbw
 rwa [List.length_append,Zab,List.map_append]
def Wtr (w:World) (B r:Nat) (bs:List UInt8):Prop :=
 B<=r/\∃ v,Blk w r 173 #[v]/\OwnB w B v bs
theorem Wtr.same {w w':World} {B r:Nat} {bs:List UInt8} (h:Wtr w B r bs) (hu:Same w w'):Wtr w' B r bs:=by
 obtain ⟨hB,v,hb,ho⟩:=h
 exact ⟨hB,v,hb.same hu,Zaa ho hu⟩
theorem Wtr.lt {w:World} {B r:Nat} {bs:List UInt8} (h:Wtr w B r bs):r<w.heap.size:=by
 obtain ⟨hB,v,hb,ho⟩:=h
 exact hb.lt
theorem ZbK (w:World):Calls Tryz.prog 77 #[] w fun e w'=>∃ r,e=.returned (.pointer (some ⟨r,0,none⟩))/\Wtr w' w.heap.size r []/\Same w w':=by
 go_enter Tryz.func77,Tryz.ntmps77
 go_wp2
 go_ret
 exact ⟨w.heap.size,rfl,⟨Nat.le_refl _,_,Blk.new _ _ _,World.ownsRow_nil _ _ _ _⟩,(Upd.refl _ w).alloc _⟩
theorem Zga {w:World} {B r:Nat} {bs:List UInt8} (h:Wtr w B r bs) (width n:Nat) (hw:Zao width=true) (hl:bs.length+8<=140737488355328) :
 Calls Tryz.prog 78 #[.pointer (some ⟨r,0,none⟩),.int .i64 width,.int .u64 n] w fun e w'=>e=.returned (.tuple #[])/\Wtr w' B r (bs++beb width n)/\Upd (fun b=>B<=b) w w':=by
 obtain ⟨hB,v,hb,ho⟩:=h
 have hlt:=hb.lt
 have hne:v.ownBlock≠some r:=hb.ne_own ho (by decide)
 have h0:=hb.cell 0
 simp only [List.getElem?_toArray,List.getElem?_cons_zero] at h0
 have hwid:1<=width/\width<=8:=by
  simp only [Zao,Bool.or_eq_true,beq_iff_eq] at hw
  omega
 have HW:=qH hw
 clear hw
 go_enter Tryz.func78,Tryz.ntmps78
 go_wp2_with fail
 refine (Zcp _ _).mono ?_
 rintro e w' ⟨rfl,rfl⟩
 rw [HW.out]
 go_wp2_with fail
 refine (Zla _ ho (by omega) width n hwid hl).mono ?_
 rintro e w1 ⟨v',rfl,hg⟩
 have hb1:=hg.blk hb hne
 have f1:=hb1.frozen 0
 have h1:=hb1.cell 0
 simp only [List.getElem?_toArray,List.getElem?_cons_zero] at h1
 obtain ⟨A,m,c,rfl⟩:=Zav hg.own
 go_wp2
 go_end0
 have hne':(Value.slice A m c).ownBlock≠some r:=hb1.ne_own hg.own (by decide)
 refine ⟨rfl,⟨hB,_,hb1.put 0 _,?_⟩,(hg.upd.mono fun b _ hv=>(ho.lt b hv).1).put hB _⟩
 exact Zam hg.own ((Upd.refl (fun b=>b=r) w1).put1 _) fun g hgg hgr=>hne' (hgr ▸ hgg)
theorem Zdv {w:World} {B r:Nat} {bs:List UInt8} (h:Wtr w B r bs) (width n:Int) (hw:Zao width=true) (hn:0<=n) (hl:bs.length+8<=140737488355328) :
 Calls Tryz.prog 78 #[.pointer (some ⟨r,0,none⟩),.int .i64 width,.int .u64 n] w fun e w'=>e=.returned (.tuple #[])/\Wtr w' B r (bs++beb width.toNat n.toNat)/\Upd (fun b=>B<=b) w w':=by
 have h0:0<=width:=by
  simp only [Zao,Bool.or_eq_true,beq_iff_eq] at hw
  omega
 obtain ⟨k,rfl⟩:=Int.eq_ofNat_of_zero_le h0
 obtain ⟨m,rfl⟩:=Int.eq_ofNat_of_zero_le hn
 exact Zga h k m hw hl
theorem Zbd (s:ByteArray):s.data.toList.length=s.size:=by rw [Array.length_toList];rfl
theorem ZmI {w:World} {B r:Nat} {bs:List UInt8} (h:Wtr w B r bs) (s:ByteArray) (hl:bs.length+s.size<=140737488355328) :
 Calls Tryz.prog 155 #[.pointer (some ⟨r,0,none⟩),.string s] w fun e w'=>e=.returned (.tuple #[])/\Wtr w' B r (bs++s.data.toList)/\Upd (fun b=>B<=b) w w':=by
 obtain ⟨hB,v,hb,ho⟩:=h
 have hlt:=hb.lt
 have hne:v.ownBlock≠some r:=hb.ne_own ho (by decide)
 have h0:=hb.cell 0
 simp only [List.getElem?_toArray,List.getElem?_cons_zero] at h0
 go_enter Tryz.func155,Tryz.ntmps155
 go_wp2_with (at_builtin;go_must (refine Zag rfl (.tmp 8) (.tmp 9) _ _ rfl B _ _ _ _ Tryz.underlying28 ZaR rfl v _ _ rfl ho rfl (Src.ofString w Tryz.underlying9 s) (by unfold maxLen;omega) (by omega) (by omega) ?_);intro v' w1 hg;obtain ⟨A,m,c,rfl⟩:=Zav hg.own;have f1:w1.frozen? ⟨r,0,none⟩=false:=(hg.blk hb hne).frozen 0;have h1:w1.cell? ⟨r,0,none⟩=some v:=(hg.blk hb hne).cell 0)
 go_end0
 have hb1:=hg.blk hb hne
 have hne':(Value.slice A m c).ownBlock≠some r:=hb1.ne_own hg.own (by decide)
 refine ⟨rfl,⟨hB,_,hb1.put 0 _,?_⟩,(hg.upd.mono fun b _ hv=>(ho.lt b hv).1).put hB _⟩
 have h2:=Zam hg.own ((Upd.refl (fun b=>b=r) w1).put1 (i:=0) (.slice A m c)) fun g hgg hgr=>hne' (hgr ▸ hgg)
 unfold OwnB
 rw [List.length_append,Zbd,List.map_append]
 exact h2
theorem ZbB {w:World} {B r:Nat} {bs:List UInt8} (h:Wtr w B r bs) (hl:bs.length<=140737488355328) :
 Calls Tryz.prog 81 #[.pointer (some ⟨r,0,none⟩)] w fun e w'=>∃ v,e=.returned v/\OwnB w' w.heap.size v bs/\Same w w':=by
 obtain ⟨hB,v,hb,ho⟩:=h
 have h0:=hb.cell 0
 simp only [List.getElem?_toArray,List.getElem?_cons_zero] at h0
 obtain ⟨A,c,rfl⟩:=Zac ho
 have hrow:=Row.of_own ho
 generalize bs.length=m at h0 hrow hl
 go_enter Tryz.func81,Tryz.ntmps81
 go_wp2_with fail
 refine (ZdM _ hrow hl).mono ?_
 rintro e w1 ⟨v',rfl,ho',hs⟩
 go_wp2
 go_ret
 exact ⟨v',rfl,ho',hs⟩
theorem Zoj (n:Int):Zat 3 n=if (IntKind.u64.wrap ((IntKind.u64.wrap n).tdiv 4503599627370496)).tmod 2048=2047/\¬ (IntKind.u64.wrap n).tmod 4503599627370496=0/\(IntKind.u64.wrap n != 9221120237041090560)=true then 43 else 0:=by
 rw [Zog n]
 have hlt:=ZkY n
 unfold Zat nanB
 generalize u64 n=U at *
 have e1:((U:Int).tdiv 4503599627370496)=((U / 4503599627370496:Nat):Int):=by
  rw [Int.tdiv_eq_ediv_of_nonneg (by omega)];omega
 have e2:IntKind.u64.wrap ((U / 4503599627370496:Nat):Int)=((U / 4503599627370496:Nat):Int):=IntWalk.u64_in _ ⟨by omega,by omega⟩
 have e3:(((U / 4503599627370496:Nat):Int).tmod 2048)=((U / 4503599627370496 % 2048:Nat):Int):=by
  rw [Int.tmod_eq_emod_of_nonneg (by omega)];omega
 have e4:((U:Int).tmod 4503599627370496)=((U % 4503599627370496:Nat):Int):=by
  rw [Int.tmod_eq_emod_of_nonneg (by omega)];omega
 rw [e1,e2,e3,e4]
 simp only [Bool.and_eq_true,beq_iff_eq,bne_iff_ne,ne_eq]
 by_cases h1:U / 4503599627370496 % 2048=2047
 · by_cases h2:U % 4503599627370496=0
   · rw [if_neg (by omega),if_neg (by omega),if_neg (by omega)]
   by_cases h3:U=9221120237041090560
   · rw [if_neg (by omega),if_neg (by omega),if_neg (by omega)]
   rw [if_neg (by omega),if_pos ⟨trivial,⟨h1,h2⟩,h3⟩,if_pos ⟨by omega,by omega,by omega⟩]
 rw [if_neg (by omega),if_neg (fun h=>h1 h.2.1.1),if_neg (fun h=>h1 (by omega))]
theorem Zez (k n:Int) (w:World):Calls Tryz.prog 132 #[.int .i64 k,.int .i64 n] w fun e w'=>e=.returned (.int .i64 (Zat k n))/\w=w':=by
 by_cases hk:k=1
 · subst hk
   by_cases h0:n=0
   · subst h0
     go_enter Tryz.func132,Tryz.ntmps132
     go_wp2
     go_ret
     exact ⟨ZaS (by decide),rfl⟩
   by_cases h1:n=1
   · subst h1
     go_enter Tryz.func132,Tryz.ntmps132
     go_wp2
     go_ret
     exact ⟨ZaS (by decide),rfl⟩
   have h0':(n != 0)=true:=by simpa using h0
   have h1':(n != 1)=true:=by simpa using h1
   go_enter Tryz.func132,Tryz.ntmps132
   go_wp2
   go_ret
   exact ⟨ZaS (by simp [Zat,h0,h1]),rfl⟩
 have hk':(k==1)=false:=by simpa using hk
 by_cases hk3:k=3
 · subst hk3
   clear hk hk'
   go_enter Tryz.func132,Tryz.ntmps132
   go_wp2
   all_goals
    go_ret
    refine ⟨ZaS ?_,rfl⟩
    rw [Zoj]
   · rename_i h1 h2
     rw [if_neg (fun h=>h.2.1 h2)]
   · rename_i h1 h2 h3
     rw [if_pos ⟨h1,h2,h3.2⟩]
   · rename_i h1 h2 h3
     rw [if_neg (fun h=>by rcases h3 with h3 | h3;exact absurd h3 (by simpa using h2);rw [h.2.2] at h3;cases h3)]
   rename_i h1
   rw [if_neg (fun h=>h1 h.1)]
 have hk3':(k==3)=false:=by simpa using hk3
 have hz:Zat k n=0:=by simp [Zat,hk,hk3]
 go_enter Tryz.func132,Tryz.ntmps132
 go_wp2
 go_ret
 exact ⟨ZaS hz.symm,rfl⟩
theorem ZdY {P:Program} {f:FuncId} {args:Array Value} {w:World} {a n:Nat} {v:Value} (h:Calls P f args (w.drewN (a+n)) fun e w'=>e=.returned v/\w.drewN (a+n)=w') :
 Calls P f args (w.drewN (a+n)) fun e w''=>e=.returned v/\∃ m,w''=w.drewN (a+m):=h.mono fun _ _ ⟨he,hm⟩=>⟨he,n,hm.symm⟩
theorem ZmJ {g:GVal} (hr:¬ (g.kind<1\/8<g.kind)) (hf:ZbE g=false) (hl:¬ (40<g.nums.length\/40<g.texts.length)) :
 chk g=if g.kind<4 then Zat g.kind g.num else if g.kind=4/\1000<g.text.size then 44 else if ZaJ (g.kind-4) g.nums≠0 then ZaJ (g.kind-4) g.nums else if ZaP g.texts=true then 44 else 0:=by
 obtain ⟨kind,num,text,nums,texts⟩:=g
 simp only at hr hl
 unfold chk
 rw [if_neg hr,if_neg (by rw [hf];simp),if_neg hl]
 simp only [ZbE,Bool.or_eq_false_iff,Bool.and_eq_false_imp,bne_iff_ne,ne_eq,decide_eq_false_iff_not,bne_eq_false_iff_eq,beq_eq_false_iff_ne] at hf
 obtain ⟨⟨⟨f1,f2⟩,f3⟩,f4⟩:=hf
 change (if 1000<text.size\/ZaP texts=true then (44:Int) else if kind<4 then Zat kind num else ZaJ (kind-4) nums)=_
 simp only
 by_cases h4:kind<4
 · have e1:text.size=0:=Classical.byContradiction fun h=>by have:=f2 h;omega
   have e2:texts=[]:=List.eq_nil_of_length_eq_zero (Classical.byContradiction fun h=>by have:=f4 h;omega)
   subst e2
   rw [if_neg (by simp [e1,ZaP]),if_pos h4,if_pos h4]
 rw [if_neg h4,if_neg h4]
 by_cases h44:kind=4
 · subst h44
   have e1:nums=[]:=List.eq_nil_of_length_eq_zero (Classical.byContradiction fun h=>by have:=(f3 h).1;omega)
   have e2:texts=[]:=List.eq_nil_of_length_eq_zero (Classical.byContradiction fun h=>by have:=f4 h;omega)
   subst e1
   subst e2
   by_cases ht:1000<text.size
   · rw [if_pos (.inl ht),if_pos ⟨rfl,ht⟩]
   simp [ZaP,ZaJ,ht]
 have e1:text.size=0:=Classical.byContradiction fun h=>by have:=f2 h;omega
 by_cases h8:kind=8
 · have e2:nums=[]:=List.eq_nil_of_length_eq_zero (Classical.byContradiction fun h=>by have:=(f3 h).2;omega)
   subst e2
   simp [ZaJ,e1]
 have e2:texts=[]:=List.eq_nil_of_length_eq_zero (Classical.byContradiction fun h=>by have:=f4 h;omega)
 subst e2
 rw [if_neg (by simp [e1,ZaP]),if_neg (by omega)]
 by_cases hz:ZaJ (kind-4) nums=0
 · rw [hz];simp [ZaP]
 rw [if_pos hz]
theorem Zgq {F:Nat->Prop} {A1 A2:Option Addr} {n1 c1 n2 c2:Nat} {g:GVal} (w:World) (h:Zcg w F A1 n1 c1 A2 n2 c2 g) (hx:g.text.size<=9223372036854775807) (hts:∀ s∈g.texts,s.size<=9223372036854775807) :
 Calls Tryz.prog 96 #[g.val A1 n1 c1 A2 n2 c2] w fun e w'=>e=.returned (.int .i64 (chk g))/\Same w w':=by
 obtain ⟨kind,num,text,nums,texts⟩:=g
 simp only [GVal.val]
 simp only at hx hts
 have HR:=qH h
 have HL1:=qH (show nums.length=n1 from h.len1)
 have HL2:=qH (show texts.length=n2 from h.len2)
 have hn1:n1<=9223372036854775807:=by have:=h.nums.le;have:=h.nums.max;unfold maxLen at this;omega
 have hn2:n2<=9223372036854775807:=by have:=h.texts.le;have:=h.texts.max;unfold maxLen at this;omega
 have HTS:=qH hts
 clear h hts
 by_cases hr1:kind<1
 · have HB:=qH (show chk ⟨kind,num,text,nums,texts⟩=40 from by unfold chk;rw [if_pos (.inl hr1)])
   go_enter Tryz.func96,Tryz.ntmps96
   go_wp2
   go_ret
   exact ⟨ZaS HB.out.symm,(Upd.refl _ w).alloc _⟩
 by_cases hr8:8<kind
 · have HB:=qH (show chk ⟨kind,num,text,nums,texts⟩=40 from by unfold chk;rw [if_pos (.inr hr8)])
   go_enter Tryz.func96,Tryz.ntmps96
   go_wp2
   go_ret
   exact ⟨ZaS HB.out.symm,(Upd.refl _ w).alloc _⟩
 have HRG:=qH (show ¬ (kind<1\/8<kind) from by omega)
 have HFB:=qH (show ZbE ⟨kind,num,text,nums,texts⟩=badB kind num text.size n1 n2 from by
  simp only [ZbE,badB,HL1.out,HL2.out])
 go_enter Tryz.func96,Tryz.ntmps96
 go_upto_region 3 with fail
 go_cut [0,58] from 6 (fun _ s58 wx=>s58=.bool (badB kind num text.size n1 n2)/\wx=w.alloc (.cells #[.int .i64 kind,.int .i64 num,.string text,.slice A1 n1 c1,.slice A2 n2 c2] 46))
 case first =>
  go_wp2_with fail
  all_goals
   go_meet
   clear HFB HRG HTS HL1 HL2 HR
   refine ⟨congrArg Value.bool ?_,by simp [*]⟩
   unfold badB
   rw [Zex]
   simp [*] <;> grind
 obtain ⟨rfl,rfl⟩:=hcut
 have hs0:=(Upd.refl (fun _=>False) w).alloc (.cells #[.int .i64 kind,.int .i64 num,.string text,.slice A1 n1 c1,.slice A2 n2 c2] 46)
 have hb0:=Blk.new w 46 #[.int .i64 kind,.int .i64 num,.string text,.slice A1 n1 c1,.slice A2 n2 c2]
 have hc0:=hb0.cell 0
 have hc1:=hb0.cell 1
 have hc2:=hb0.cell 2
 have hc3:=hb0.cell 3
 have hc4:=hb0.cell 4
 simp only [List.getElem?_toArray,List.getElem?_cons_succ,List.getElem?_cons_zero] at hc0 hc1 hc2 hc3 hc4
 clear hb0
 revert hs0 hc0 hc1 hc2 hc3 hc4
 generalize w.alloc (.cells #[.int .i64 kind,.int .i64 num,.string text,.slice A1 n1 c1,.slice A2 n2 c2] 46)=W
 intro hs0 hc0 hc1 hc2 hc3 hc4
 have HW:=qH (HR.out.same hs0)
 have HS:=qH hs0
 clear hs0
 by_cases hf:badB kind num text.size n1 n2=true
 · have HB:=qH (show chk ⟨kind,num,text,nums,texts⟩=41 from by unfold chk;rw [if_neg HRG.out,if_pos (by rw [HFB.out];exact hf)])
   rw [hf]
   clear hf
   go_wp2
   go_ret
   exact ⟨ZaS HB.out.symm,HS.out⟩
 have hff:badB kind num text.size n1 n2=false:=by simpa using hf
 have HF:=qH (HFB.out.trans hff)
 rw [hff]
 clear hf hff
 by_cases hl1:40<n1
 · have HB:=qH (show chk ⟨kind,num,text,nums,texts⟩=45 from by
    unfold chk;rw [if_neg HRG.out,if_neg (by rw [HF.out];simp),if_pos (.inl (by rw [HL1.out];exact hl1))])
   go_wp2
   go_ret
   exact ⟨ZaS HB.out.symm,HS.out⟩
 by_cases hl2:40<n2
 · have HB:=qH (show chk ⟨kind,num,text,nums,texts⟩=45 from by
    unfold chk;rw [if_neg HRG.out,if_neg (by rw [HF.out];simp),if_pos (.inr (by rw [HL2.out];exact hl2))])
   go_wp2
   go_ret
   exact ⟨ZaS HB.out.symm,HS.out⟩
 have HC:=qH (ZmJ HRG.out HF.out (show ¬ (40<nums.length\/40<texts.length) from by rw [HL1.out,HL2.out];omega))
 by_cases h4:kind<4
 · have HB:=qH (HC.out.trans (if_pos h4))
   go_wp2_with fail
   refine (Zez _ _ _).mono ?_
   rintro e w1 ⟨rfl,rfl⟩
   go_wp2
   go_ret
   exact ⟨ZaS HB.out.symm,HS.out⟩
 have HC1:=qH (HC.out.trans (if_neg h4))
 by_cases h44:kind=4/\1000<text.size
 · obtain ⟨rfl,ht⟩:=h44
   have HB:=qH (HC1.out.trans (if_pos ⟨rfl,ht⟩))
   go_wp2
   go_ret
   exact ⟨ZaS HB.out.symm,HS.out⟩
 have HC2:=qH (HC1.out.trans (if_neg h44))
 go_upto_region 9 with fail
 go_cut [0,85] from 6 (fun _ s85 wx=>s85=.bool false/\wx=W)
 case first =>
  by_cases hk4:kind=4
  · have ht:¬ 1000<text.size:=fun hh=>h44 ⟨hk4,hh⟩
    subst hk4
    clear h44
    go_wp2_with fail
    go_meet
    case rel=>exact ⟨by simp;omega,rfl⟩
  clear h44
  go_wp2_with fail
  go_meet
  case rel=>exact ⟨rfl,rfl⟩
 obtain ⟨rfl,rfl⟩:=hcut
 clear h44
 have hq:=fun (n:Int) (W:World)=>Zez (kind-4) n W
 have HQ:=qH hq
 clear hq
 go_wp2
 go_loopw [3] (fun i wr=>∃ k d:Nat,k<=n1/\i=.int .i64 k/\wr=wc.drewN d/\Hid (ZaJ (kind-4) (nums.take k)=0)) (fun i _=>n1-(intOf i).toNat)
 case atStart=>exact ⟨0,0,Nat.zero_le _,rfl,rfl,qH rfl⟩
 obtain ⟨k,d,hk,rfl,rfl,hno⟩:=hrel
 by_cases hlt:k<n1
 · obtain ⟨b,o,u,rfl,hbl,_,hu,hc⟩:=HW.out.nums.at_ hlt
   have hkl:k<nums.length:=by rw [HL1.out];exact hlt
   simp only [List.getElem?_map,List.getElem?_eq_getElem hkl,Option.map_some,Option.some.injEq] at hu
   subst hu
   have HN:=qH (Zft (kind-4) nums k hkl hno.out)
   have HS1:=qH (Zfu (kind-4) nums (k+1))
   generalize nums[k]=x at *
   by_cases hz:Zat (kind-4) x=0
   · go_wp2_with fail
     go_quiet ((go_at_call 132;exact ZdY (HQ.out _ _)))
     have HZ:=qH hz
     go_wp2
     go_roundw
     case rel=>exact ⟨k+1,_,by omega,by go_num,rfl,qH (HN.out.trans HZ.out)⟩
     case measure=>simp [intOf];omega
   have hz':(Zat (kind-4) x != 0)=true:=by simpa using hz
   go_wp2_with fail
   go_quiet ((go_at_call 132;exact ZdY (HQ.out _ _)))
   have HZ:=qH hz
   clear hz
   go_wp2
   go_ret
   refine ⟨ZaS ?_,HS.out.drewN _⟩
   have e1:=HS1.out (by rw [HN.out];exact HZ.out)
   have e2:=HC2.out
   rw [e2,e1,HN.out,if_pos HZ.out]
 obtain rfl:k=n1:=by omega
 have HZ:=qH (show ZaJ (kind-4) nums=0 from by
  have:=hno.out
  rwa [List.take_of_length_le (by rw [HL1.out];exact Nat.le_refl _)] at this)
 have HC3:=qH (show chk ⟨kind,num,text,nums,texts⟩=if ZaP texts=true then 44 else 0 from by
  have e2:=HC2.out
  rw [e2,HZ.out];rfl)
 go_wp2
 go_loopw [5] (fun i wr=>∃ k:Nat,k<=n2/\i=.int .i64 k/\wr=wc.drewN d/\Hid (ZaP (texts.take k)=false)) (fun i _=>n2-(intOf i).toNat)
 case atStart=>exact ⟨0,Nat.zero_le _,rfl,rfl,qH rfl⟩
 obtain ⟨k2,hk2,rfl,rfl,hno2⟩:=hrel
 by_cases hlt:k2<n2
 · obtain ⟨b,o,u,rfl,hbl,_,hu,hc⟩:=HW.out.texts.at_ hlt
   have hkl:k2<texts.length:=by rw [HL2.out];exact hlt
   simp only [List.getElem?_map,List.getElem?_eq_getElem hkl,Option.map_some,Option.some.injEq] at hu
   subst hu
   have HTk:=qH (show ZaP (texts.take (k2+1))=(ZaP (texts.take k2) || decide (1000<texts[k2].size)) from by
    rw [List.take_succ_eq_append_getElem hkl];unfold ZaP;rw [List.any_append,List.any_cons,List.any_nil,Bool.or_false])
   have HSz:=qH (HTS.out texts[k2] (List.getElem_mem hkl))
   generalize texts[k2]=x at *
   by_cases hbig:1000<x.size
   · have HBg:=qH hbig
     go_wp2
     go_ret
     refine ⟨ZaS ?_,HS.out.drewN _⟩
     have h1:=HTk.out
     rw [decide_eq_true HBg.out,Bool.or_true] at h1
     have h2:ZaP texts=true:=by
      unfold ZaP at h1 ⊢
      obtain ⟨y,hy,hy2⟩:=List.any_eq_true.1 h1
      exact List.any_eq_true.2 ⟨y,List.mem_of_mem_take hy,hy2⟩
     rw [HC3.out,if_pos h2]
   have HBg:=qH hbig
   go_wp2
   go_roundw
   case rel =>
    refine ⟨k2+1,by omega,by go_num,by first | rfl | trivial,qH ?_⟩
    rw [HTk.out,hno2.out,decide_eq_false HBg.out]
    rfl
   case measure=>simp [intOf];omega
 obtain rfl:k2=n2:=by omega
 go_wp2
 go_ret
 refine ⟨ZaS ?_,HS.out.drewN _⟩
 have h1:=hno2.out
 rw [List.take_of_length_le (by rw [HL2.out];exact Nat.le_refl _)] at h1
 rw [HC3.out,h1]
 rfl
end Go.Proofs.YtkopcinhbjimiaaGreatDoor
