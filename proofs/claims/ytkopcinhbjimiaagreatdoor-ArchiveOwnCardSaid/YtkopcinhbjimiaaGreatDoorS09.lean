/- Texts that the claim leans on: walks and plain laws, function by function. -/
import Derived.Deep.RegionHeld3
import Derived.Shelf.Abstract
import Derived.Shelf.RegionOpen
import Derived.OwnWalkIn
import Derived.TacticsInMore
import Derived.LoopNIn
import Derived.LoopIn
import Derived.Test.YtkopcinhbjimiaaGreatDoorS08
set_option maxRecDepth 100000
set_option maxHeartbeats 16000000
namespace Go.Proofs.YtkopcinhbjimiaaGreatDoor
open Go.RowKit
theorem ZbT {F:Nat->Prop} {A:Option Addr} {n c:Nat} {bs:List UInt8} (w:World) (t:Nat) (ht:t<=255) (hb:Bytes w F A n c bs) (hn:n<=1048576) (hN:Nib w) :
 Calls Tryz.prog 40 #[.agg #[.int .i64 (t:Int),.slice A n c]] w fun e w'=>∃ v,e=.returned (.tuple #[v,.int .i64 0])/\Hid (OwnB w' w.heap.size v (Zai t bs))/\Same w w':=by
 have hs1:=(Upd.refl (fun _=>False) w).alloc (.cells #[.int .i64 (t:Int),.slice A n c] 84)
 have HB1:=qH (Blk.new w 84 #[.int .i64 (t:Int),.slice A n c])
 have HL:=qH hb.len
 have HY:=qH ((hb.mono (F':=fun b=>b<w.heap.size) fun b h _=>h).same hs1)
 have HN:=qH (hN.same hs1)
 have HS1:=qH hs1
 have HZ:=qH (show w.heap.size<(w.alloc (.cells #[.int .i64 (t:Int),.slice A n c] 84)).heap.size by rw [World.size_alloc];omega)
 have ht0:(0:Int)<=(t:Int):=by omega
 have ht1:(t:Int)<=255:=by omega
 obtain ⟨P1,hP1⟩:∃ P1,P1=([]++beb 1 t)++beb 4 n:=⟨_,rfl⟩
 obtain ⟨P2,hP2⟩:∃ P2,P2=P1++bs:=⟨_,rfl⟩
 obtain ⟨S,hS⟩:∃ S,S=crcS P2:=⟨_,rfl⟩
 have hl2:P2.length=n+5:=by rw [hP2,hP1];simp [Zab,hb.len];omega
 have HL2:=qH hl2
 have HP:Hid (Zai t bs=P2++beb 4 S.toNat):=qH (by
  have e:Zcu t bs=P2:=by rw [hP2,hP1];unfold Zcu;rw [hb.len];simp
  unfold Zai
  rw [e,hS])
 have HPS:=qH (And.intro hP1 (And.intro hP2 hS))
 have HSL:=qH (show S.toNat<4294967296 from S.isLt)
 generalize Zai t bs=out at HP ⊢
 have hN1:=hN.1
 clear hb hN hs1 hP1 hP2 hS hl2
 go_enter Tryz.func40,Tryz.ntmps40
 go_upto_region 5 with fail
 generalize w.alloc (.cells #[.int .i64 (t:Int),.slice A n c] 84)=w1 at *
 go_wp2_with fail
 refine (ZbK w1).mono ?_
 rintro e w2 ⟨r,rfl,HW2,hs2⟩
 have HW2:=qH HW2
 have c0:w2.cell? ⟨w.heap.size,0,none⟩=some (.int .i64 (t:Int)):=(HB1.out.same hs2).cell 0
 have HU:=qH (hs2.mono (S':=fun b=>w1.heap.size<=b) fun _ _ f=>f.elim)
 clear hs2
 go_wp2_with fail
 refine (Zga HW2.out 1 t (by decide) (by simp)).mono ?_
 rintro e w3 ⟨rfl,HW3,hu3⟩
 have HW3:=qH HW3
 have HU3:=qH (HU.out.trans hu3 fun _ _ h=>h)
 clear hu3 c0 HU HW2
 have c1:w3.cell? ⟨w.heap.size,1,none⟩=some (.slice A n c):=(HB1.out.upd HU3.out (by have:=HZ.out;omega)).cell 1
 go_wp2_with fail
 refine (Zga HW3.out 4 n (by decide) (by simp [Zab])).mono ?_
 rintro e w4 ⟨rfl,HW4,hu4⟩
 have HW4:=qH (show Wtr w4 w1.heap.size r P1 by rw [HPS.1];exact HW4)
 have HU4:=qH (HU3.out.trans hu4 fun _ _ h=>h)
 clear hu4 c1 HU3 HW3
 have c1:w4.cell? ⟨w.heap.size,1,none⟩=some (.slice A n c):=(HB1.out.upd HU4.out (by have:=HZ.out;omega)).cell 1
 have HL1:=qH (show P1.length=5 by rw [HPS.1];simp [Zab])
 go_wp2_with fail
 refine (Znb HW4.out (HY.out.upd HU4.out fun b h1 h2=>by have:=HZ.out;omega) (by rw [HL1.out];omega)).mono ?_
 rintro e w5 ⟨rfl,HW5,hu5⟩
 have HW5:=qH (show Wtr w5 w1.heap.size r P2 by rw [HPS.2.1];exact HW5)
 have HU5:=qH (HU4.out.trans hu5 fun _ _ h=>h)
 clear hu5 c1 HU4 HW4
 go_wp2_with fail
 refine (ZbB HW5.out (by rw [HL2.out];omega)).mono ?_
 rintro e w6 ⟨v6,rfl,HO6,hs6⟩
 obtain ⟨A6,c6,rfl⟩:=Zac HO6
 have hBy:=ZaG HO6
 have HBy:=qH hBy
 clear hBy
 have HO6:=qH HO6
 have HW6:=qH (HW5.out.same hs6)
 have HU6:=qH (HU5.out.same hs6)
 have HN6:=qH (HN.out.upd HU6.out (by have:=hN1;have:=HZ.out;omega))
 clear hs6 HW5 HU5
 go_wp2_with fail
 refine (Zei w6 HBy.out HN6.out).mono ?_
 rintro e w6' ⟨rfl,rfl⟩
 rw [<- HPS.2.2]
 have hsl:=HSL.out
 go_wp2_with fail
 refine (Zga HW6.out 4 S.toNat (by decide) (by rw [HL2.out];omega)).mono ?_
 rintro e w7 ⟨rfl,HW7,hu7⟩
 have HW7:=qH HW7
 have HU7:=qH (HU6.out.trans hu7 fun _ _ h=>h)
 clear hu7 HW6 HU6 hsl
 go_wp2_with fail
 refine (ZbB HW7.out (by rw [List.length_append,HL2.out,Zab];omega)).mono ?_
 rintro e w8 ⟨v8,rfl,HO8,hs8⟩
 go_wp2
 go_ret2
 refine ⟨v8,rfl,qH ?_,?_⟩
 · rw [HP.out]
   exact Zad HO8 (by have:=HU7.out.size;have:=HZ.out;omega)
 exact HS1.out.trans (HU7.out.same hs8) fun b hb hh=>by have:=HZ.out;omega
def Zox (er:Int) (w:World) (e:Ending) (w':World):Prop:=e=.returned (.tuple #[.agg #[.int .i64 0,.slice none 0 0],.int .i64 0,.int .i64 er])/\Same w w'
theorem ZgA {tmps:Array Value} {wE w:World} {a0 a1 v0 v1 v3 v4:Value} {R:Ending->World->Prop} (h2:tmps.getD 2 undef=.pointer (some ⟨w.heap.size,0,none⟩)) (h3:tmps.getD 3 undef=v3) (h4:tmps.getD 4 undef=v4) (hb:Blk wE w.heap.size 84 #[a0,a1])
 (hR:R (.returned (.tuple #[.agg #[v0,v1],v3,v4])) ((wE.setCell ⟨w.heap.size,0,none⟩ v0).setCell ⟨w.heap.size,1,none⟩ v1)) :
 bodyPost Tryz.prog Tryz.f128 R Exit.ret { tmps:=tmps,defers:=[] } ((wE.setCell ⟨w.heap.size,0,none⟩ v0).setCell ⟨w.heap.size,1,none⟩ v1):=by
 have hb2:=(hb.put 0 v0).put 1 v1
 have c0:=hb2.cell 0
 have c1:=hb2.cell 1
 generalize (wE.setCell ⟨w.heap.size,0,none⟩ v0).setCell ⟨w.heap.size,1,none⟩ v1=W at *
 refine bodyPost_ret (v:=.tuple #[.agg #[v0,v1],v3,v4]) ?_ rfl hR
 simp only [Array.getD_eq_getD_getElem?] at h2 h3 h4
 simp [results,Tryz.results128,go_sem,h2,h3,h4,c0,c1]
theorem Zdy {w wE:World} (h:Same w wE) (a b:Value):Same w ((wE.setCell ⟨w.heap.size,0,none⟩ a).setCell ⟨w.heap.size,1,none⟩ b) :=
 (h.putNew (r:=w.heap.size) (i:=0) (Nat.le_refl _) a).putNew (r:=w.heap.size) (i:=1) (Nat.le_refl _) b
theorem Zoy {A:Option Addr} {n c:Nat} (w:World) (h:n<5) :
 Calls Tryz.prog 128 #[.slice A n c] w (Zox 0 w):=by
 have hs:=(Upd.refl (fun _=>False) w).alloc (.cells #[.int .i64 0,.slice none 0 0] 84)
 have HB0:=qH (Blk.new w 84 #[.int .i64 0,.slice none 0 0])
 have HS:=qH hs
 clear hs
 have hn5:(n:Int)<5:=by omega
 go_enter Tryz.func128,Tryz.ntmps128
 go_upto_region 1 with fail
 generalize w.alloc (.cells #[.int .i64 0,.slice none 0 0] 84)=w1 at *
 have q0:=HB0.out.cell 0
 have q1:=HB0.out.cell 1
 have f0:=HB0.out.frozen 0
 have f1:=HB0.out.frozen 1
 go_wp2
 exact ZgA rfl rfl rfl HB0.out ⟨rfl,Zdy HS.out _ _⟩
theorem Znc {F:Nat->Prop} {A:Option Addr} {n c:Nat} {bs:List UInt8} (w:World) (hb:Bytes w F A n c bs) (hn:n<=140737488355328) (hN:Nib w) (h5:5<=n) {N:Nat} (hNN:be ((bs.drop 1).take 4)=N) {er:Int}
 (h:(1048576<N/\er=1)\/(N<=1048576/\n<N+9/\er=0)\/(N<=1048576/\N+9<=n/\be ((bs.drop (N+5)).take 4)≠(crcS (bs.take (N+5))).toNat/\er=91)) :
 Calls Tryz.prog 128 #[.slice A n c] w (Zox er w):=by
 have hs:=(Upd.refl (fun _=>False) w).alloc (.cells #[.int .i64 0,.slice none 0 0] 84)
 have HB0:=qH (Blk.new w 84 #[.int .i64 0,.slice none 0 0])
 have HY:=qH (hb.same hs)
 have HN:=qH (hN.same hs)
 have HS:=qH hs
 have HNN:=qH hNN
 have hN32:N<4294967296:=by
  have:=Zeg ((bs.drop 1).take 4)
  rw [hNN] at this
  have h4:((bs.drop 1).take 4).length<=4:=List.length_take_le _ _
  have h5:256 ^ ((bs.drop 1).take 4).length<=256 ^ 4:=Nat.pow_le_pow_right (by omega) h4
  omega
 have hL:=hb.len
 have HL:=qH hL
 have hrow:=Row.le hb
 obtain ⟨b,o,rfl,-,-,-⟩:=hb.at_ (i:=0) (by omega)
 clear hb hN hs hNN hL
 have hn5:¬ (n:Int)<5:=by omega
 go_enter Tryz.func128,Tryz.ntmps128
 go_upto_region 1 with fail
 generalize w.alloc (.cells #[.int .i64 0,.slice none 0 0] 84)=w1 at *
 go_wp2_with fail
 refine (Zlj w1 HY.out 1 4 (by decide) (by omega) HNN.out).mono ?_
 rintro e w' ⟨rfl,rfl⟩
 have q0:=HB0.out.cell 0
 have q1:=HB0.out.cell 1
 have f0:=HB0.out.frozen 0
 have f1:=HB0.out.frozen 1
 rcases h with ⟨h1,rfl⟩ | ⟨h1,h2,rfl⟩ | ⟨h1,h2,h3,rfl⟩
 · go_wp2
   exact ZgA rfl rfl rfl HB0.out ⟨rfl,Zdy HS.out _ _⟩
 · have hw1:IntKind.i64.wrap (5+(N:Int))=5+(N:Int):=by rw [IntKind.wrap_i64];omega
   go_wp2
   exact ZgA rfl rfl rfl HB0.out ⟨rfl,Zdy HS.out _ _⟩
 have H3:=qH h3
 have hlt:be ((bs.drop (N+5)).take 4)<4294967296:=by
  have:=Zeg ((bs.drop (N+5)).take 4)
  have h5:256 ^ ((bs.drop (N+5)).take 4).length<=256 ^ 4:=Nat.pow_le_pow_right (by omega) (List.length_take_le _ _)
  omega
 obtain ⟨M,hM⟩:∃ M,be ((bs.drop (N+5)).take 4)=M:=⟨_,rfl⟩
 obtain ⟨S,hS⟩:∃ S,crcS (bs.take (N+5))=S:=⟨_,rfl⟩
 rw [hM] at hlt h3
 rw [hS] at h3
 have HM:=qH hM
 have HCS:=qH hS
 obtain ⟨E,hE⟩:∃ E,E=N+5:=⟨_,rfl⟩
 have hE1:(5:Int)+(N:Int)=(E:Int):=by omega
 have hE2:E+4<=n:=by omega
 have HE:=qH hE
 have hne:((M:Int) != (S.toNat:Int))=true:=by
  rw [bne_iff_ne]
  intro e
  exact h3 (by omega)
 have hS32:S.toNat<4294967296:=S.isLt
 clear hM hS h3 hE
 go_wp2_with fail
 refine (Zlj w1 HY.out E 4 (by decide) hE2 (N:=M) (by rw [HE.out];exact HM.out)).mono ?_
 rintro e w' ⟨rfl,rfl⟩
 go_wp2_with fail
 have hcut:=HY.out.head (m:=E) (by omega)
 rw [HE.out] at hcut
 have HC:=qH hcut
 clear hcut
 refine (Zei w1 (by rw [HE.out];exact HC.out) HN.out).mono ?_
 rintro e w' ⟨rfl,rfl⟩
 rw [HCS.out]
 go_wp2
 exact ZgA rfl rfl rfl HB0.out ⟨rfl,Zdy HS.out _ _⟩
def Zqn (f:GFr) (w:World) (e:Ending) (w':World):Prop :=
 ∃ A c,e=.returned (.tuple #[.agg #[.int .i64 (f.type:Int),.slice A f.data.length c],.int .i64 ((f.data.length+9:Nat):Int),.int .i64 0])/\OwnB w' w.heap.size (.slice A f.data.length c) f.data/\Same w w'
theorem Znd {w:World} {B g:Nat} {v a b:Value} {bs:List UInt8} {cs:Array Value} (h:OwnB w B v bs) (hb:Blk w g 84 cs):OwnB ((w.setCell ⟨g,0,none⟩ a).setCell ⟨g,1,none⟩ b) B v bs :=
 ZaT h (((Upd.refl (fun x=>x=g) w).put1 a).put1 b) (fun x _ hx=>by rw [hx];exact ⟨_,hb⟩) (by decide)
theorem Zoz {F:Nat->Prop} {A:Option Addr} {n c:Nat} {bs:List UInt8} (w0 w:World) (hs:Same w0 w) (hb:Bytes w0 F A n c bs) (hn:n<=140737488355328) :
 Calls Tryz.prog 119 #[.slice A n c] w fun e w'=>∃ A' c',e=.returned (.slice A' n c')/\Hid (OwnB w' w.heap.size (.slice A' n c') bs)/\Same w w'/\Same w0 w' :=
 (ZdM w (hb.same hs) hn).mono fun _ _ ⟨v,h1,h2,h3⟩=>by
   obtain ⟨A',c',rfl⟩:=Zac h2
   rw [hb.len] at h1 h2
   exact ⟨A',c',h1,qH h2,h3,hs.same h3⟩
theorem Zqo {w2:World} {b o g:Nat} {x u u':Value} (h:w2.cell? ⟨b,o,none⟩=some x) (hne:b≠g) (hlt:b<w2.heap.size):((w2.setCell ⟨g,0,none⟩ u).setCell ⟨g,1,none⟩ u').cell? ⟨b,o,none⟩=some x :=
 ((((Upd.refl (fun k=>k=g) w2).put1 (i:=0) u).put1 (i:=1) u').cell (p:=⟨b,o,none⟩) hlt hne).trans h
theorem Zpu {F:Nat->Prop} {A:Option Addr} {n c:Nat} {bs:List UInt8} (w:World) (hb:Bytes w F A n c bs) (hn:n<=140737488355328) (hN:Nib w) {f:GFr} {r:List UInt8} (h:oneP bs=.ok (some (f,r))) :
 Calls Tryz.prog 128 #[.slice A n c] w (Zqn f w):=by
 obtain ⟨N,hNN⟩:∃ N,be ((bs.drop 1).take 4)=N:=⟨_,rfl⟩
 have hL:=hb.len
 unfold oneP at h
 rw [hNN] at h
 split at h
 · cases h
 split at h
 · cases h
 split at h
 · cases h
 split at h
 · cases h
 rename_i g1 g2 g3 g4
 injection h with h
 injection h with h
 injection h with h _
 have g4:=Decidable.not_not.1 g4
 rw [hL] at g1 g3
 obtain ⟨b,o,hA,hbl,-,hc0⟩:=hb.at_ (i:=0) (by omega)
 obtain ⟨x,hx⟩:∃ x,bs[0]'(by omega)=x:=⟨_,rfl⟩
 rw [hx] at hc0
 have hft:f.type=x.toNat:=by
  rw [<- h]
  have e:bs.take 1=[x]:=by
   rw [<- hx]
   cases bs with
   | nil=>simp at hL;omega
   | cons y l=>simp
  simp only [e]
  simp [be]
 have hfd:f.data=(bs.drop 5).take N:=by rw [<- h]
 have hfl:f.data.length=N:=by rw [hfd,List.length_take,List.length_drop,hL];omega
 have hs:=(Upd.refl (fun _=>False) w).alloc (.cells #[.int .i64 0,.slice none 0 0] 84)
 have hc1:w.cell? ⟨b,o,none⟩=some (.int .u8 (x.toNat:Int)):=hc0
 have HC1:=qH ((hs.cell (p:=⟨b,o,none⟩) hbl fun f=>f).trans hc1)
 have HB0:=qH (Blk.new w 84 #[.int .i64 0,.slice none 0 0])
 have HY:=qH (hb.same hs)
 have HN:=qH (hN.same hs)
 have HS:=qH hs
 have HNN:=qH hNN
 have HL:=qH hL
 have hrow:=Row.le hb
 have hmx:=Row.max hb
 subst hA
 obtain ⟨S,hS⟩:∃ S,crcS (bs.take (N+5))=S:=⟨_,rfl⟩
 rw [hS] at g4
 have HCS:=qH hS
 have HM:=qH g4
 obtain ⟨E,hE⟩:∃ E,E=N+5:=⟨_,rfl⟩
 have hE1:(5:Int)+(N:Int)=(E:Int):=by omega
 have hE2:E+4<=n:=by omega
 have hE3:5<=E:=by omega
 have HE:=qH hE
 have hS32:S.toNat<4294967296:=S.isLt
 have HFT:=qH hft
 have HFL:=qH hfl
 have HFD:=qH hfd
 unfold maxLen at hmx
 clear hb hN hs hNN hL h hS g4 hE hft hfl hfd hx hc0 hc1
 have hn5:¬ (n:Int)<5:=by omega
 go_enter Tryz.func128,Tryz.ntmps128
 go_upto_region 1 with fail
 generalize w.alloc (.cells #[.int .i64 0,.slice none 0 0] 84)=w1 at *
 have hN1:¬ 1048576<(N:Int):=by omega
 go_wp2_with fail
 refine (Zlj w1 HY.out 1 4 (by decide) (by omega) HNN.out).mono ?_
 rintro e w' ⟨rfl,rfl⟩
 go_wp2_with fail
 refine (Zlj w1 HY.out E 4 (by decide) hE2 (N:=S.toNat) (by rw [HE.out];exact HM.out)).mono ?_
 rintro e w' ⟨rfl,rfl⟩
 have hcut:=HY.out.head (m:=E) (by omega)
 have HC:=qH hcut
 clear hcut
 go_wp2_with fail
 refine (Zei w1 HC.out HN.out).mono ?_
 rintro e w' ⟨rfl,rfl⟩
 rw [HE.out,HCS.out]
 have c0:=HC1.out
 have hc5:¬ c=5:=by omega
 have hc5':(5:Int)<=(E:Int):=by omega
 have hc6:(E:Int)<=(c:Int):=by omega
 have hw4:IntKind.i64.wrap ((N:Int)+5+4)=((N+9:Nat):Int):=by rw [IntKind.wrap_i64];omega
 have hcut:=HY.out.cut (j:=5) (m:=N+5) (by omega) (by omega)
 rw [if_neg hc5,Option.map_some,Zcm,Nat.add_sub_cancel] at hcut
 have HCT:=qH hcut
 have hsz:=HS.out.size
 have hk5:(5:Int)<=(N:Int)+5:=by omega
 have hk6:(N:Int)+5<=(c:Int):=by omega
 have hk7:0<n:=by omega
 clear hcut
 go_upto_region 12 with fail
 have h00:Same w1 w1.drew:=(Upd.refl _ w1).drew
 have hwx:IntKind.i64.wrap (x.toNat:Int)=(x.toNat:Int):=by rw [IntKind.wrap_i64];have:=x.toNat_lt;omega
 have hblt:b<w1.heap.size:=by omega
 have cd:w1.drew.cell? ⟨b,o,none⟩=some (.int .u8 (x.toNat:Int)):=c0
 go_region_held3 (fun wx=>wx.cell? ⟨b,o,none⟩=some (.int .u8 (x.toNat:Int))) (first | exact cd | exact c2 | exact Zqo c2 (by omega) (by omega)) (first
  | (go_at_call 119;refine (Zoz w1 _ h00 HCT.out (by omega)).mono ?_;rintro e w2 ⟨A2,c2',rfl,HO,hs2,hsa2⟩;have hz2:=hsa2.size;have c2:w2.cell? ⟨b,o,none⟩=some (.int .u8 (x.toNat:Int)):=(hsa2.cell (p:=⟨b,o,none⟩) hblt fun f=>f).trans c0;have q0:=(HB0.out.same hsa2).cell 0;have q1:=(HB0.out.same hsa2).cell 1;have f0:=(HB0.out.same hsa2).frozen 0;have f1:=(HB0.out.same hsa2).frozen 1))
 all_goals go_wp2
 all_goals refine ZgA rfl rfl rfl (HB0.out.same hsa2) ?_
 all_goals refine ⟨A2,c2',?_,?_,?_⟩
 all_goals first
  | exact Zdy (HS.out.same hsa2) _ _
  | (rw [HFT.out,HFL.out];rfl)
  | (have h9:=Zad (base':=w.heap.size) HO.out hsz;rw [<- HFD.out,<-HFL.out] at h9;exact Znd h9 (HB0.out.same hsa2))
theorem ZoA {F:Nat->Prop} {A:Option Addr} {n c:Nat} {bs:List UInt8} (w:World) (hb:Bytes w F A n c bs) (hn:n<=140737488355328) (hN:Nib w) (h:oneP bs=.ok none) :
 Calls Tryz.prog 128 #[.slice A n c] w (Zox 0 w):=by
 have hL:=hb.len
 unfold oneP at h
 split at h
 · exact Zoy w (by omega)
 split at h
 · cases h
 split at h
 · exact Znc w hb hn hN (by omega) rfl (.inr (.inl ⟨by omega,by omega,rfl⟩))
 split at h
 · cases h
 injection h with h
 cases h
theorem Zpv {F:Nat->Prop} {A:Option Addr} {n c:Nat} {bs:List UInt8} (w:World) (hb:Bytes w F A n c bs) (hn:n<=140737488355328) (hN:Nib w) {er:Int} (h:oneP bs=.error er) :
 Calls Tryz.prog 128 #[.slice A n c] w (Zox er w):=by
 have hL:=hb.len
 unfold oneP at h
 split at h
 · cases h
 split at h
 · injection h with h
   exact Znc w hb hn hN (by omega) rfl (.inl ⟨by omega,h.symm⟩)
 split at h
 · cases h
 split at h
 · rename_i h4
   injection h with h
   exact Znc w hb hn hN (by omega) rfl (.inr (.inr ⟨by omega,by omega,h4,h.symm⟩))
 cases h
theorem Zkc {bs:List UInt8} {er:Int} (h:oneP bs=.error er):er=1\/er=91:=by
 unfold oneP at h
 split at h
 · cases h
 split at h
 · injection h with h;exact .inl h.symm
 split at h
 · cases h
 split at h
 · injection h with h;exact .inr h.symm
 cases h
theorem Zbt {B:Nat} {v:Value} {bs more:List UInt8} {F:Nat->Prop} {A:Option Addr} {m c:Nat} (w:World) (hv:OwnB w B v bs) (hB:B<=w.heap.size) (hm:Bytes w F A m c more) (hF:∀ b,F b->v.ownBlock≠some b) (hl:bs.length+m<=140737488355328) :
 Calls Tryz.prog 32 #[v,.slice A m c] w fun e w'=>∃ v',e=.returned v'/\Zbw w B v (bs++more) v' w':=by
 have HV:=qH hv
 have HX:=qH hm
 have HM:=qH hm.len
 have HF:=qH hF
 have hmx:=Row.max hm
 have hle:=Row.le hm
 unfold maxLen at hmx
 clear hv hm hF
 go_enter Tryz.func32,Tryz.ntmps32
 go_wp2
 go_loopw [0,5] (fun y i wr=>∃ k:Nat,k<=m/\i=.int .i64 k/\Hid (Grew w B 5 1 v (bs.length+k) (bs.map u8v++(more.take k).map u8v) y wr)) (fun _ i _=>m-(intOf i).toNat)
 case atStart=>exact ⟨0,Nat.zero_le _,rfl,qH (Grew.refl (by simpa using HV.out))⟩
 obtain ⟨k,hk,rfl,KG⟩:=hrel
 by_cases hlt:k<m
 · obtain ⟨b,o,rfl,hbl,hbF,hc⟩:=Bytes.at_ (HX.out.upd KG.out.upd fun b hb hs=>HF.out b hb hs) hlt
   have hkl:k<more.length:=by rw [HM.out];exact hlt
   have HT:=qH (ZbY more k hkl)
   generalize more[k]=z at *
   go_wp2_with (at_builtin;go_must (refine Zag rfl (.tmp 12) (.tmp 17) _ _ rfl B _ _ _ _ Tryz.underlying28 ZaR rfl u0 _ _ rfl (KG.out.own.alloc _) rfl (Zal Tryz.underlying28 (Row.one _ _ _) (by simp [Value.oneCell'])) (by unfold maxLen;omega) (by omega) (by have:=KG.out.size;simp;omega) ?_);intro v' w2 hg;have HG:=qH hg;clear hg)
   go_roundw
   case rel =>
    refine ⟨k+1,by omega,by go_num,qH ?_⟩
    have h1:=(KG.out.alloc _).trans HG.out
    rw [HT.out,<-List.append_assoc,<-Nat.add_assoc]
    exact h1
   case measure=>simp [intOf];omega
 obtain rfl:k=m:=by omega
 go_wp2
 go_ret
 refine ⟨_,rfl,?_⟩
 have h1:=KG.out
 rw [List.take_of_length_le (by rw [HM.out];exact Nat.le_refl _)] at h1
 unfold Zbw
 rw [List.length_append,HM.out,List.map_append]
 exact h1
theorem Zgd (t:Nat) (h:t<=255):(beb 1 t).map u8v=[.int .u8 (t:Int)]:=by
 simp [beb,u8v]
 omega
theorem Zne (width n:Nat) (w0 w:World) (hs:Same w0 w) (hw:Zao width=true) (hn:n<18446744073709551616) :
 Calls Tryz.prog 83 #[.int .i64 width,.int .u64 n] w fun e w'=>∃ A c,e=.returned (.slice A (beb width n).length c)/\Hid (OwnB w' w.heap.size (.slice A (beb width n).length c) (beb width n))/\Same w w'/\Same w0 w' :=
 (ZiG width n w hw hn).mono fun _ _ ⟨v,h1,h2,h3⟩=>by
   obtain ⟨A,c,rfl⟩:=Zac h2
   exact ⟨A,c,h1,qH h2,h3,hs.same h3⟩
theorem Zcn (n:Nat) (w0 w:World) (hs:Same w0 w) (hn:n<18446744073709551616) :
 Calls Tryz.prog 83 #[.int .i64 4,.int .u64 (n:Int)] w fun e w'=>∃ A c,e=.returned (.slice A 4 c)/\Hid (OwnB w' w.heap.size (.slice A 4 c) (beb 4 n))/\Same w w'/\Same w0 w':=Zne 4 n w0 w hs (by decide) hn
theorem Znf {w:World} {B g:Nat} {x:Value} (h:Blk w g 5 #[x]) (hB:B<=g):w.ownsRow B 5 1 (.slice (some ⟨g,0,none⟩) 1 1) 1 [x]:=by
 refine ⟨rfl,.inr ⟨g,1,#[x],rfl,hB,h,Nat.le_refl _,by simp [maxLen],rfl,rfl⟩⟩
theorem Zau {w:World} {B n c:Nat} {A:Option Addr} {bs:List UInt8} (_:bs.length=n) (h:OwnB w B (.slice A n c) bs):Bytes w (fun b=>A=some ⟨b,0,none⟩/\B<=b) A n c bs:=ZaG h
theorem keepF {w1 wx:World} {g:Nat} {t:TypeId} {a0 a1:Value} (h2:Hid (Blk w1 g t #[a0,a1])) (hs:Same w1 wx) :
 Same w1 wx/\wx.cell? ⟨g,0,none⟩=some a0/\wx.cell? ⟨g,1,none⟩=some a1 :=
 ⟨hs,(h2.out.same hs).cell 0,(h2.out.same hs).cell 1⟩
theorem Zkd {F:Nat->Prop} {A:Option Addr} {n c:Nat} {bs:List UInt8} (w:World) (t:Nat) (ht:t<=255) (hb:Bytes w F A n c bs) (hn:n<=1048576) :
 Calls Tryz.prog 82 #[.agg #[.int .i64 (t:Int),.slice A n c]] w fun e w'=>∃ v,e=.returned (.tuple #[v,.int .i64 0])/\Hid (OwnB w' w.heap.size v (Zai t bs))/\Same w w':=by
 have hs1:=(Upd.refl (fun _=>False) w).alloc (.cells #[.int .i64 (t:Int),.slice A n c] 84)
 have HB1:=qH (Blk.new w 84 #[.int .i64 (t:Int),.slice A n c])
 have HL:=qH hb.len
 have HY:=qH ((hb.mono (F':=fun b=>b<w.heap.size) fun b h _=>h).same hs1)
 have HS1:=qH hs1
 have HZ:=qH (show w.heap.size<(w.alloc (.cells #[.int .i64 (t:Int),.slice A n c] 84)).heap.size by rw [World.size_alloc];omega)
 have ht0:(0:Int)<=(t:Int):=by omega
 have ht1:(t:Int)<=255:=by omega
 have HBT:=qH (Zgd t ht)
 clear hb hs1
 go_enter Tryz.func82,Tryz.ntmps82
 go_upto_region 5 with fail
 generalize w.alloc (.cells #[.int .i64 (t:Int),.slice A n c] 84)=w1 at *
 have h00:Same w1 w1.drew:=(Upd.refl _ w1).drew
 have hz0:=HZ.out
 have hwt:IntKind.u8.wrap (t:Int)=(t:Int):=by rw [IntKind.wrap_u8];omega
 have hwn:IntKind.u64.wrap (n:Int)=(n:Int):=by rw [IntKind.wrap_u64];omega
 go_cut [4] from 22 to 31 (fun s4 wx=>∃ (A':Option Addr) (c':Nat),s4=.slice A' 5 c'/\Hid (wx.ownsRow w1.heap.size 5 1 (.slice A' 5 c') 5 ((beb 1 t++beb 4 n).map u8v))/\Hid (Same w1 wx))
 case first =>
  go_region_held3 (fun wx=>Same w1 wx/\wx.cell? ⟨w.heap.size,0,none⟩=some (.int .i64 (t:Int))/\wx.cell? ⟨w.heap.size,1,none⟩=some (.slice A n c)) (exact keepF HB1 (by repeat first | assumption | exact Upd.refl _ _ | refine Upd.drew ?_ | refine Upd.alloc ?_ _)) (first
   | (go_at_call 83;with_reducible refine (Zcn n w1 _ (by repeat first | assumption | exact Upd.refl _ _ | refine Upd.drew ?_ | refine Upd.alloc ?_ _) (by omega)).mono ?_;rintro e w2 ⟨A2,c2,rfl,HO,hs2,hsa2⟩;have hz2:=hsa2.size;(try (have qb:Blk w2 w1.heap.size 5 _:=Blk.same (by first | exact Blk.new _ _ _ | exact (Blk.new _ _ _).drew) hs2)))
   | (have HO':=HO;refine ZbP rfl (.tmp 25) (.tmp 30) _ _ rfl w1.heap.size 5 1 1 _ Tryz.underlying28 ZaR rfl _ 1 [.int .u8 (t:Int)] rfl (by first | exact Znf qb (Nat.le_refl _) | exact Znf (Blk.new _ _ _) (by omega)) rfl (Zal Tryz.underlying28 (Row.same (ZaG HO.out) (by first | exact Upd.refl _ _ | exact (Upd.refl _ _).alloc _)) (ZcC _)) (by simp [maxLen]) (by omega) (by first | omega | (simp;done) | (simp;omega)) ?_;intro v9 w9 hg;obtain ⟨A9,c9,rfl⟩:=Zac hg.own;(have hsa9:Same w1 w9:=(show Same w1 _ from (by repeat first | assumption | refine Upd.drew ?_ | refine Upd.alloc ?_ _)).trans hg.upd fun b hb hv=>by have:=Option.some.inj hv;simp only at this;omega);have HG9:=qH hg.own;clear hg))
  all_goals
   go_wp2
   go_meet
   exact ⟨A9,c9,rfl,qH (by rw [List.map_append,HBT.out];exact HG9.out),qH hsa9⟩
 obtain ⟨A',c',rfl,KO,KS⟩:=hcut
 obtain ⟨w2,rfl⟩:∃ w2:World,w2=wc:=⟨_,rfl⟩
 have HY2:=qH (HY.out.same KS.out)
 have HB2:=qH (HB1.out.same KS.out)
 have hz2:=KS.out.size
 clear hwn hwt h00
 have HP0:=qH (show (beb 1 t++beb 4 n).length=5 by simp [Zab])
 go_wp2_with fail
 go_loopw [4,5] (fun y i wr=>∃ k:Nat,k<=n/\i=.int .i64 k/\Hid (Grew w2 w1.heap.size 5 1 (.slice A' 5 c') (5+k) ((beb 1 t++beb 4 n).map u8v++(bs.take k).map u8v) y wr)) (fun _ i _=>n-(intOf i).toNat)
 case atStart=>exact ⟨0,Nat.zero_le _,rfl,qH (Grew.refl (by simpa using KO.out))⟩
 obtain ⟨k,hk,rfl,KG⟩:=hrel
 have hzr:=KG.out.size
 have HBr:=qH (HB2.out.upd KG.out.upd fun hs=>by have:=(KO.out.lt _ hs).1;omega)
 have p1:wr.cell? ⟨w.heap.size,1,none⟩=some (.slice A n c):=HBr.out.cell 1
 by_cases hlt:k<n
 · obtain ⟨b,o,rfl,hbl,hbF,hc⟩:=Bytes.at_ (HY2.out.upd KG.out.upd fun b hb hs=>by have:=(KO.out.lt b hs).1;omega) hlt
   have hkl:k<bs.length:=by rw [HL.out];exact hlt
   have HT:=qH (ZbY bs k hkl)
   generalize bs[k]=z at *
   go_wp2_with (at_builtin;go_must (refine Zag rfl (.tmp 39) (.tmp 45) _ _ rfl w1.heap.size _ _ _ _ Tryz.underlying28 ZaR rfl u4 _ _ rfl (KG.out.own.alloc _) rfl (Zal Tryz.underlying28 (Row.one _ _ _) (by simp [Value.oneCell'])) (by unfold maxLen;omega) (by omega) (by have:=KG.out.size;simp;omega) ?_);intro v' w3 hg;have HG:=qH hg;clear hg)
   go_roundw
   case rel =>
    refine ⟨k+1,by omega,by go_num,qH ?_⟩
    have h1:=(KG.out.alloc _).trans HG.out
    rw [HT.out,<-List.append_assoc,<-Nat.add_assoc]
    exact h1
   case measure=>simp [intOf];omega
 obtain rfl:k=n:=by omega
 obtain ⟨S,hS⟩:∃ S,crcS (Zcu t bs)=S:=⟨_,rfl⟩
 have HS:=qH hS
 have hS32:=S.isLt
 have HPK:=qH (show Zcu t bs=(beb 1 t++beb 4 k)++bs by unfold Zcu;rw [HL.out,List.append_assoc])
 have KG2:Hid (Grew w2 w1.heap.size 5 1 (.slice A' 5 c') (5+k) ((Zcu t bs).map u8v) u4 wr):=qH (by
  have h1:=KG.out
  rw [List.take_of_length_le (by rw [HL.out];exact Nat.le_refl _),<-List.map_append,<-HPK.out] at h1
  exact h1)
 have HPL:=qH (show (Zcu t bs).length=5+k by rw [HPK.out,List.length_append,HP0.out,HL.out])
 obtain ⟨A3,c3,rfl⟩:=Zac KG2.out.own
 have HO3:Hid (OwnB wr w1.heap.size (.slice A3 (5+k) c3) (Zcu t bs)):=qH (by unfold OwnB;rw [HPL.out];exact KG2.out.own)
 have HU3:=qH (KS.out.trans KG2.out.upd fun b hb hs=>by have:=(KO.out.lt b hs).1;omega)
 clear hS KG HY2 hlt hk HBr HPK
 go_wp2_with fail
 refine (Zfz wr (Zau HPL.out HO3.out)).mono ?_
 rintro e w' ⟨rfl,rfl⟩
 rw [HS.out]
 have hwS:IntKind.u64.wrap (S.toNat:Int)=(S.toNat:Int):=by rw [IntKind.wrap_u64];omega
 go_wp2_with fail
 refine (Zcn S.toNat wr _ (Upd.refl _ _) (by omega)).mono ?_
 rintro e w4 ⟨A4,c4,rfl,HO4,hs4,_⟩
 have HO3':=qH (Zaa HO3.out hs4)
 have HU4:=qH (HU3.out.same hs4)
 have HY4:=qH ((Zau (Zab 4 _) HO4.out).mono (F':=fun b=>wr.heap.size<=b) fun b _ hb=>hb.2)
 have hle4:=Row.le HY4.out
 have hmx4:=Row.max HY4.out
 have hz4:=hs4.size
 have hsl:=fun b (hb:(Value.slice A3 (5+k) c3).ownBlock=some b)=>HO3.out.lt b hb
 have HSL:=qH hsl
 unfold maxLen at hmx4
 clear hs4 HO4 p1 hwS hsl
 obtain ⟨w5,rfl⟩:∃ w5:World,w5=w4:=⟨_,rfl⟩
 go_wp2_with fail
 go_loopw [4,7] (fun y i wr=>∃ j:Nat,j<=4/\i=.int .i64 j/\Hid (Grew w5 w1.heap.size 5 1 (.slice A3 (5+k) c3) (5+k+j) ((Zcu t bs).map u8v++((beb 4 S.toNat).take j).map u8v) y wr)) (fun _ i _=>4-(intOf i).toNat)
 case atStart=>exact ⟨0,Nat.zero_le _,rfl,qH (Grew.refl (by have h1:=HO3'.out;unfold OwnB at h1;rw [HPL.out] at h1;simpa using h1))⟩
 obtain ⟨j,hj,rfl,KG⟩:=hrel
 by_cases hlt:j<4
 · obtain ⟨b,o,rfl,hbl,hbF,hc⟩:=Bytes.at_ (HY4.out.upd KG.out.upd fun b hb hs=>by have:=(HSL.out b hs).2;omega) hlt
   have hkl:j<(beb 4 S.toNat).length:=by rw [Zab];exact hlt
   have HT:=qH (ZbY (beb 4 S.toNat) j hkl)
   generalize (beb 4 S.toNat)[j]=z at *
   go_wp2_with (at_builtin;go_must (refine Zag rfl (.tmp 55) (.tmp 60) _ _ rfl w1.heap.size _ _ _ _ Tryz.underlying28 ZaR rfl u4 _ _ rfl (KG.out.own.alloc _) rfl (Zal Tryz.underlying28 (Row.one _ _ _) (by simp [Value.oneCell'])) (by unfold maxLen;omega) (by omega) (by have:=KG.out.size;simp;omega) ?_);intro v' w3 hg;have HG:=qH hg;clear hg)
   go_roundw
   case rel =>
    refine ⟨j+1,by omega,by go_num,qH ?_⟩
    have h1:=(KG.out.alloc _).trans HG.out
    rw [HT.out,<-List.append_assoc,<-Nat.add_assoc]
    exact h1
   case measure=>simp [intOf];omega
 obtain rfl:j=4:=by omega
 go_wp2
 go_ret2
 refine ⟨_,rfl,qH ?_,?_⟩
 · have h1:=KG.out.own
   rw [List.take_of_length_le (by rw [Zab];exact Nat.le_refl _),<-List.map_append] at h1
   have hpk:Zai t bs=Zcu t bs++beb 4 S.toNat:=by unfold Zai;rw [HS.out]
   unfold OwnB
   rw [hpk,List.length_append,HPL.out,Zab]
   exact Zad h1 (by omega)
 exact HS1.out.trans (HU4.out.trans KG.out.upd fun b hb hs=>by have:=(HO3.out.lt b hs).1;omega) fun b hb hh=>hh.elim
structure BS where
 data:List UInt8
 A:Option Addr
 n:Nat
 c:Nat
def BS.cell (x:BS):Value:=.slice x.A x.n x.c
def TyB (w:World) (B b:Nat):Prop:=B<=b/\b<w.heap.size/\∃ cs fr,w.heap[b]?=some (.cells cs 5 fr)
theorem TyB.upd {S:Nat->Prop} {w w':World} {B b:Nat} (h:TyB w B b) (hu:Upd S w w') (hs:¬ S b):TyB w' B b :=
 ⟨h.1,by have:=hu.size;have:=h.2.1;omega,by rw [hu.block b h.2.1 hs];exact h.2.2⟩
theorem TyB.base {w:World} {B B' b:Nat} (h:TyB w B b) (hB:B'<=B):TyB w B' b:=⟨Nat.le_trans hB h.1,h.2⟩
theorem TyB.ne {w:World} {B b:Nat} {e:TypeId} (h:TyB w B b) (h':OfT w e b):5=e:=by
 obtain ⟨_,_,cs,fr,h1⟩:=h
 obtain ⟨cs',h2⟩:=h'
 unfold Blk at h2
 rw [h1] at h2
 injection h2 with h2
 injection h2
def Zaw (w:World) (B:Nat) (x:BS):Prop:=Bytes w (TyB w B) x.A x.n x.c x.data
structure ZbQ (w:World) (B:Nat) (v:Value) (l:List BS):Prop where
 row:w.ownsRow B 28 1 v l.length (l.map BS.cell)
 each:∀ x∈l,Zaw w B x
theorem Zlk (l:List BS):∀ u∈l.map BS.cell,u.oneCell'=true:=by
 intro u hu
 obtain ⟨x,_,rfl⟩:=List.mem_map.1 hu
 rfl
theorem Zda:(Tryz.prog.info? 28).map (fun i=>(i.zero,i.size,i.bytes))=some (some (.slice none 0 0),1,24):=by kernel_rfl
section
variable {w w':World} {B B':Nat} {v:Value} {l:List BS} {x:BS}
theorem Zaw.upd {S:Nat->Prop} (h:Zaw w B x) (hu:Upd S w w') (hs:∀ b,TyB w B b->¬ S b):Zaw w' B x:=(Row.upd h hu hs).mono fun b _ hb=>hb.upd hu (hs b hb)
theorem Zaw.same (h:Zaw w B x) (hu:Same w w'):Zaw w' B x:=h.upd hu fun _ _ f=>f
theorem Zaw.base (h:Zaw w B x) (hB:B'<=B):Zaw w B' x:=Row.mono h fun _ _ hb=>hb.base hB
theorem Zaw.type {S:Nat->Prop} {e':TypeId} (h:Zaw w B x) (hu:Upd S w w') (hS:∀ g,g<w.heap.size->S g->OfT w e' g) (hne:5≠e'):Zaw w' B x:=h.upd hu fun b hb hs=>hne (hb.ne (hS b hb.2.1 hs))
theorem Zaw.of {A:Option Addr} {n c:Nat} {bs:List UInt8} (h:OwnB w B (.slice A n c) bs) (hn:bs.length=n):Zaw w B ⟨bs,A,n,c⟩:=by
 refine Row.mono (Zau hn h) fun b hl hb=>⟨hb.2,hl,?_⟩
 obtain ⟨cs,h1⟩:=Zaq h (g:=b) (by have h9:A=some ⟨b,0,none⟩:=hb.1;rw [h9];rfl)
 exact ⟨cs,_,h1⟩
theorem ZbQ.nil_ (w:World) (B:Nat):ZbQ w B (.slice none 0 0) []:=⟨World.ownsRow_nil _ _ _ _,by simp⟩
theorem ZbQ.same (h:ZbQ w B v l) (hu:Same w w'):ZbQ w' B v l:=⟨Zaa h.row hu,fun x hx=>(h.each x hx).same hu⟩
theorem ZbQ.app {v':Value} {l2:List BS} (h:ZbQ w B v l) (hg:Grew w B 28 1 v (l.length+l2.length) (l.map BS.cell++l2.map BS.cell) v' w') (hx:∀ x∈l2,Zaw w B x):ZbQ w' B v' (l++l2):=by
 have hS:∀ g,g<w.heap.size->v.ownBlock=some g->OfT w 28 g:=fun g _ hg=>Zaq h.row hg
 refine ⟨?_,fun y hy=>?_⟩
 · rw [List.length_append,List.map_append]
   exact hg.own
 rcases List.mem_append.1 hy with hy | hy
 · exact (h.each y hy).type hg.upd hS (by decide)
 exact (hx y hy).type hg.upd hS (by decide)
theorem ZbQ.at_ {A:Option Addr} {n c:Nat} (h:ZbQ w B (.slice A n c) l) (hl:l.length=n) {i:Nat} (hi:i<n):∃ b o x,A=some ⟨b,o,none⟩/\b<w.heap.size/\l[i]?=some x/\x∈l/\w.cell? ⟨b,o+i,none⟩=some (.slice x.A x.n x.c):=by
 have hr:=h.row
 rw [hl] at hr
 have hk:=Row.of_own hr
 obtain ⟨x,hx⟩:∃ x,l[i]?=some x:=⟨_,List.getElem?_eq_getElem (by omega)⟩
 cases hA:A with
 | none =>
   have:=hk.nil hA
   have:=hk.le
   omega
 | some a =>
   obtain ⟨b,o,p⟩:=a
   obtain ⟨hp,hb,_,hc⟩:=hk.cell _ hA
   simp only at hb hp hc
   subst hp
   refine ⟨b,o,x,rfl,hb,hx,List.mem_of_getElem? hx,?_⟩
   have:=hc i x.cell (by rw [List.getElem?_map,hx];rfl)
   exact this
end
theorem ZbQ.empty (w:World) {B:Nat} (hB:B<=w.heap.size):ZbQ (w.alloc (.cells #[] 28)) B (.slice (some ⟨w.heap.size,0,none⟩) 0 0) [] :=
 ⟨World.ownsRow_made w #[] 0 hB (Nat.zero_le _) rfl,by simp⟩
theorem Zaw.lit (w:World) {B:Nat} (hB:B<=w.heap.size) (l:List UInt8) {cs:Array Value} {fr:Nat×Nat} (hc:cs.toList=l.map u8v) {n:Nat} (hn:l.length=n:=by rfl) (hm:n<=maxLen:=by simp [maxLen]):Zaw (w.alloc (.cells cs 5 fr)) B ⟨l,some ⟨w.heap.size,0,none⟩,n,n⟩:=by
 have hg:(w.alloc (.cells cs 5 fr)).heap[w.heap.size]?=some (.cells cs 5 fr):=by
  show (w.heap.push _)[w.heap.size]?=_
  simp
 refine ⟨by simp [hn],Nat.le_refl _,hm,(fun h=>by cases h),fun a ha=>?_⟩
 cases ha
 refine ⟨rfl,by rw [World.size_alloc];simp,⟨hB,by rw [World.size_alloc];simp,cs,fr,hg⟩,fun i u hu=>?_⟩
 rw [<- hc] at hu
 show (w.alloc (.cells cs 5 fr)).cell? ⟨w.heap.size,0+i,none⟩=some u
 simp only [World.cell?,hg,Nat.zero_add]
 simpa using hu
end Go.Proofs.YtkopcinhbjimiaaGreatDoor
namespace Go.Proofs.YtkopcinhbjimiaaGreatDoor
open Go.RowKit Go.Shelf
attribute [local go_sem] Oper.semAt_some
theorem ZiT {F:Fence} {nF:Nat} {P:Program} {w:World} {ops:Array Oper} {rest:List Oper} {o:Oper} {a:Act} {Q:Exit->Act->World->Prop} (hgd:o.guard=none) (s x:Operand) (t tx:TypeId)
 (ho:o.op=.call { callee:=.builtin .append,args:=#[s,x],argTypes:=#[t,tx] })
 (base:Nat) (e:TypeId) (k bytes:Nat) (z:Value) (ht:P.underlying t=some (.slice e)) (hi:(P.info? e).map (fun i=>(i.zero,i.size,i.bytes))=some (some z,k,bytes))
 (hzs:z.cells.size=k)
 (v:Value) (n:Nat) (xs:List Value) (hs:a.eval s=v) (hown:w.ownsRow base e k v n xs)
 {xv:Value} {m:Nat} {news:List Value} (hx:a.eval x=xv) (hsrc:Src P k tx xv m news w)
 (h63:n+m<=maxLen) (hbytes:(n+m+1000)*bytes<=211106232532992) (hbase:base<=w.heap.size)
 (h:∀ v' w',Grew w base e k v (n+m) (xs++news) v' w'->wpListIn F nF P ops Q rest (a.put o.dst v') w'):wpListIn F nF P ops Q (o::rest) a w:=by
 refine wpListIn_plain hgd fun K hK'=>?_
 obtain ⟨i,hi',hz,hk,hby⟩:=info_parts hi
 clear hi
 subst hk
 subst hby
 obtain ⟨v',w',hr,h2⟩:=Zgh (P:=P) w t tx o.type base e i z ht hi' hz hzs v n xs hown xv m news hsrc h63 hbytes hbase
 unfold Oper.wpIn
 refine ⟨?_,?_⟩
 · simp [Oper.about,ho,resolve,Target.leads,Sem.run_pure]
 rw [Oper.semAt_plain F _ _ (by rw [ho];intro c hc';cases hc')]
 simp [execOp,ho,resolve,invoke,builtin,hs,hx,hr,Result.andThen]
 exact hK' _ _ (h v' w' h2)
def BS.args (x:BS):Array Value:=#[.slice x.A x.n x.c]
structure PcR (L:List (List UInt8)) (B:Nat) (pre:List BS) (x:BS) (W:World):Prop where
 at_:L[pre.length]?=some x.data
 row:Zaw W B x
theorem ZaD.cells {T:TypeId->Prop} {B k:Nat} {W:World} {cs:Array Value} {t:TypeId} {fr:Nat×Nat} (h:ZaD T B W k) (hk:W.heap[k]?=some (.cells cs t fr)):T t:=by
 obtain ⟨_,o,h1,h2⟩:=h
 rw [hk] at h1
 injection h1 with h1
 subst h1
 rcases h2 with h2 | ⟨cs',t',fr',h3,h4⟩
 · cases h2
 injection h3 with _ h3
 subst h3
 exact h4
theorem Blk.it {U:TypeId->Prop} {B g:Nat} {t:TypeId} {cs:Array Value} {W W':World} (h:Blk W g t cs) (hu:Upd (ZaD U B W) W W') (ht:¬ U t):Blk W' g t cs :=
 h.upd hu fun hs=>ht (hs.cells h)
theorem Upd.it {T:TypeId->Prop} {B:Nat} {W W':World} (h:Same W W'):Upd (ZaD T B W) W W':=h.mono fun _ _ f=>f.elim
theorem Zaw.it {T:TypeId->Prop} {B B':Nat} {W W':World} {x:BS} (h:Zaw W B x) (hu:Upd (ZaD T B' W) W W') (ht:¬ T 5):Zaw W' B x :=
 h.upd hu fun _ ⟨_,_,_,_,h1⟩ hs=>ht (hs.cells h1)
theorem Zqp {T:TypeId->Prop} {base B':Nat} {e:TypeId} {k n:Nat} {v:Value} {xs:List Value} {W W':World} (h:W.ownsRow base e k v n xs) (hu:Upd (ZaD T B' W) W W') (ht:¬ T e):W'.ownsRow base e k v n xs :=
 Zam h hu fun b hb hs=>by
  obtain ⟨cs,h1⟩:=Zaq h hb
  exact ht (hs.cells h1)
theorem ZbQ.it {T:TypeId->Prop} {B B':Nat} {W W':World} {v:Value} {l:List BS} (h:ZbQ W B v l) (hu:Upd (ZaD T B' W) W W') (ht:¬ T 5) (ht':¬ T 28):ZbQ W' B v l :=
 ⟨Zqp h.row hu ht',fun x hx=>(h.each x hx).it hu ht⟩
theorem ZcP {S:Nat->Prop} {B:Nat} {W W':World} (hu:Upd S W W') (h:∀ k,S k->B<=k->∀ o,W.heap[k]?=some o->o.isCells=true):KeepsFrom B W W' :=
 ⟨hu.size,fun k o hB hk ho=>by
  by_cases hs:S k
  · rw [h k hs hB o hk] at ho;cases ho
  exact (hu.block k (Array.getElem?_eq_some_iff.1 hk).1 hs).trans hk⟩
theorem OfT.cells {w:World} {e:TypeId} {g:Nat} (h:OfT w e g) {o:Obj} (ho:w.heap[g]?=some o):o.isCells=true:=by
 obtain ⟨cs,h1⟩:=h
 unfold Blk at h1
 rw [ho] at h1
 injection h1 with h1
 subst h1
 rfl
theorem OfT.itSet {w:World} {e:TypeId} {g B:Nat} {T:TypeId->Prop} (h:OfT w e g) (hB:B<=g) (ht:T e):ZaD T B w g:=by
 obtain ⟨cs,h1⟩:=h
 exact ⟨hB,_,h1,.inr ⟨_,_,_,rfl,ht⟩⟩
theorem Same.it {T:TypeId->Prop} {B:Nat} {w W W':World} (h:Same w W) (hu:Upd (ZaD T B W) W W') (hB:w.heap.size<=B):Same w W' :=
 h.trans hu fun b hb hs=>by have:=hs.1;omega
theorem Zhh {T U:TypeId->Prop} (hT1:¬ T 5) (hT2:¬ T 28) (hT3:¬ T 51) (hU2:U 28) (hU3:U 51) {gf:Nat} {lb:Array Value} (eg:∀ args w,(callFunc gf args).run Tryz.prog w=.ok (.enter gf args) w)
 (w:World) (B0:Nat) (hB0:B0<=w.heap.size) (L:List (List UInt8)) (hL:L.length<=100000) {Sp:List BS->Prop}
 (hseq:∀ w1,Same w w1->SeqR T Fence.wide 4 Tryz.prog gf lb BS.args (fun _ W W'=>Upd (ZaD U B0 W) W W') (PcR L w.heap.size) (fun xs=>xs.map BS.data=L) Sp w1) :
 Calls Tryz.prog 61 #[.slice none 0 0,.func (.func gf) #[] lb] w fun e w'=>∃ (A:Option Addr) (c:Nat) (l:List BS),e=.returned (.slice A l.length c)/\ZbQ w' w.heap.size (.slice A l.length c) l/\l.map BS.data=L/\Same w w':=by
 have s1:=(Upd.refl (fun _=>False) w).alloc (.cells #[.slice none 0 0] 51)
 have hb1:=Blk.new w 51 #[.slice none 0 0]
 have hz1:(w.alloc (.cells #[.slice none 0 0] 51)).heap.size=w.heap.size+1:=World.size_alloc _ _
 have hq:=hseq _ s1
 have HO1:=ZbQ.nil_ (w.alloc (.cells #[.slice none 0 0] 51)) w.heap.size
 clear hseq
 refine (callsIn_wide (n:=5)).1 ?_
 refine callsIn_of_wp_marks Tryz.func61 rfl trivial ?_ rfl
 simp only [Tryz.ntmps61,List.size_toArray,List.length_cons,List.length_nil,Nat.reduceAdd,Nat.reduceSub,Array.replicate_succ,Array.replicate_zero,List.push_toArray,List.append_toArray,List.nil_append,List.cons_append]
 gi_wp2
 generalize hw1:w.alloc (.cells #[.slice none 0 0] 51)=w1 at *
 generalize hg0:w.heap.size=g0 at *
 refine Zcs (T:=T) rfl (by omega) (gf:=gf) (lb:=lb) rfl trivial eg hq ZaD.trans (fun x W l o o' hl ho hc=>(Upd.refl _ W).grown (grownBy_putObj' W l o') fun k e=>.inl (by cases e;exact ZaD.nc ho hc (by omega))) (Below.refl _ _) (fun _=>rfl)
  (fun pre W=>(∃ (A:Option Addr) (c:Nat),Blk W g0 51 #[.slice A pre.length c]/\ZbQ W g0 (.slice A pre.length c) pre)/\Same w W)
  (fun _ _ _=>False)
  (fun pre W W' ⟨⟨A,c,h1,h2⟩,h3⟩ hu=>⟨⟨A,c,h1.it hu hT3,h2.it hu hT1 hT2⟩,h3.it hu (by omega)⟩)
  (fun _ _ _ _ f _=>f)
  ⟨⟨none,0,hb1,HO1⟩,s1⟩
  (fun pre x a' W=>a'={ tmps:=#[.slice none 0 0,.func (.func gf) #[] lb,.pointer (some ⟨g0,0,none⟩),undef,.slice none 0 0,.slice x.A x.n x.c,.func (.func gf) #[] lb,.slice x.A x.n x.c,undef,undef,undef,undef,undef],defers:=[] }/\PcR L g0 pre x W)
  (fun pre x a' W l o o' hl ho hc h=>⟨h.1,h.2.at_,h.2.row.upd ((Upd.refl (fun b=>b=l) W).grown (grownBy_putObj' W l o') fun k e=>.inl (by injection e with e;exact e.symm)) fun b hb e=>by
    subst e
    obtain ⟨_,_,cs,fr,h4⟩:=hb
    rw [ho] at h4
    injection h4 with h4
    subst h4
    cases hc⟩) ?assign ?body ?done ?stop
 case assign =>
  intro l pre x W K hi hr hK
  dsimp only [BS.args]
  gi_wp2
  exact hK _ _ (KeepsFrom.refl _ _) (Upd.refl _ _) hi ⟨rfl,hr⟩
 case body =>
  rintro l pre x a' W hl hlo ⟨⟨A,c,hb,ho⟩,hs⟩ ⟨rfl,hp⟩
  have hlt:pre.length<L.length:=(List.getElem?_eq_some_iff.1 hp.at_).1
  have c0:W.cell? ⟨g0,0,none⟩=some (.slice A pre.length c):=hb.cell 0
  have sA:=(Upd.refl (fun _=>False) W).alloc (.cells #[.slice x.A x.n x.c] 28)
  have hrow:=Zaa ho.row sA
  have hsrc:=Row.of_blk (Blk.new W 28 #[.slice x.A x.n x.c]) (k:=1) (n:=1) (c:=1) rfl (Nat.le_refl _) (by simp [maxLen])
  have hbA:=hb.same sA
  have hzW:=hs.size
  gi_wp2_with (gi_at_builtin;refine ZiT rfl (.tmp 8) (.tmp 10) _ _ rfl g0 28 1 24 _ Tryz.underlying51 Zda rfl (.slice A pre.length c) pre.length (pre.map BS.cell) rfl hrow rfl (Zal Tryz.underlying51 hsrc (by simp [Value.oneCell'])) (by unfold maxLen;omega) (by omega) (by simp;omega) ?_;intro v9 w9 hg;have hF:=Zco (i:=0) hb ho.row (by decide) sA hg;obtain ⟨A9,c9,rfl⟩:=Zac hg.own;have hb9:=hbA.upd hg.upd fun e=>hbA.ne_own hrow (by decide) e;have f9:=hb9.frozen 0;have e9:w9.cell? ⟨g0,0,none⟩=some (.slice A pre.length c):=hb9.cell 0)
  obtain ⟨h1,h2,h3⟩:=hF
  have hln:(pre++[x]).length=pre.length+1:=by simp
  have hS:∀ k,(k=g0\/(Value.slice A pre.length c).ownBlock=some k)->OfT W 51 k\/OfT W 28 k:=fun k hk=>hk.elim (fun e=>.inl (e ▸ ⟨_,hb⟩)) fun e=>.inr (Zaq ho.row e)
  have hlo:∀ k,(k=g0\/(Value.slice A pre.length c).ownBlock=some k)->g0<=k:=fun k hk=>hk.elim (fun e=>Nat.le_of_eq e.symm) fun e=>(ho.row.lt k e).1
  refine ⟨ZcP h3 fun k hk _ o hko=>(hS k hk).elim (fun h=>h.cells hko) fun h=>h.cells hko,h3.mono fun k _ hk=>(hS k hk).elim (fun h=>h.itSet (by have:=hlo k hk;omega) hU3) fun h=>h.itSet (by have:=hlo k hk;omega) hU2,⟨A9,c9,by rw [hln];exact h1,⟨?_,?_⟩⟩,hs.trans h3 fun b hb' hk=>by have:=hlo b hk;omega⟩
  · rw [hln,List.map_append]
    exact h2
  intro y hy
  have ht:∀ k,TyB W g0 k->¬ (k=g0\/(Value.slice A pre.length c).ownBlock=some k):=fun k hk h=>(hS k h).elim (fun h=>absurd (hk.ne h) (by decide)) fun h=>absurd (hk.ne h) (by decide)
  rcases List.mem_append.1 hy with hy | hy
  · exact (ho.each y hy).upd h3 ht
  obtain rfl:y=x:=by simpa using hy
  exact hp.row.upd h3 ht
 case done =>
  rintro D xs W hD hS ⟨⟨A,c,hb,ho⟩,hs⟩ hK
  have c0:W.cell? ⟨g0,0,none⟩=some (.slice A xs.length c):=hb.cell 0
  gi_wp2
  refine ⟨by simp,.inl ⟨_,_,rfl,run_takeDeferred hK,?_⟩⟩
  have hu:=(Upd.refl (ZaD T g0 W) W).grown (grownBy_putObj' W D (.deferred none)) fun k e=>.inl (by cases e;exact ZaD.nc hK rfl (by omega))
  exact ⟨_,results_tmp rfl _ _ _,A,c,xs,rfl,by rw [hg0];exact ho.it hu hT1 hT2,hS,hs.it hu (by omega)⟩
 rintro D c pre W _ _ h _
 exact h.elim
theorem ZiU {T U:TypeId->Prop} (hT1:¬ T 5) (hT2:¬ T 28) (hT3:¬ T 51) (hU2:U 28) (hU3:U 51) {gf:Nat} {lb:Array Value} (eg:∀ args w,(callFunc gf args).run Tryz.prog w=.ok (.enter gf args) w)
 (w:World) (B0:Nat) (hB0:B0<=w.heap.size) (L:List (List UInt8)) (hL:L.length<=100000) {Sp:List BS->Prop}
 (hseq:∀ w1,Same w w1->SeqR T Fence.wide 4 Tryz.prog gf lb BS.args (fun _ W W'=>Upd (ZaD U B0 W) W W') (PcR L w.heap.size) (fun xs=>xs.map BS.data=L) Sp w1) :
 Calls Tryz.prog 31 #[.func (.func gf) #[] lb] w fun e w'=>∃ (A:Option Addr) (c:Nat) (l:List BS),e=.returned (.slice A l.length c)/\ZbQ w' w.heap.size (.slice A l.length c) l/\l.map BS.data=L/\Same w w':=by
 have HC:=qH (Zhh hT1 hT2 hT3 hU2 hU3 eg w B0 hB0 L hL hseq)
 clear hseq
 go_enter Tryz.func31,Tryz.ntmps31
 go_wp2_with fail
 refine HC.out.mono ?_
 rintro e w' ⟨A,c,l,rfl,h1,h2,h3⟩
 generalize hn:l.length=n at *
 go_wp2
 go_ret
 subst hn
 exact ⟨A,c,l,rfl,h1,h2,h3⟩
end Go.Proofs.YtkopcinhbjimiaaGreatDoor
