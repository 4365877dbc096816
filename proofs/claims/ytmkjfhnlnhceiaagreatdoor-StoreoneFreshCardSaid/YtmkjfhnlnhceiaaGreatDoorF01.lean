/- Lemmas: walks and plain laws. -/
import Derived.WalkKit
import Derived.WalkSpells
import Derived.Laws.Rows
import Derived.Deep.Draws
import Derived.Deep.AppendLies
import Derived.Laws.AppendOwnNone
import Derived.Deep.AppendSrc
import Derived.Deep.DeepAppendWide
import Derived.Test.YtmkjfhnlnhceiaaGreatDoorProg
import Derived.Lib.Hide
import Derived.WalkLawsBesides
set_option maxRecDepth 100000
set_option maxHeartbeats 16000000
namespace Go.Proofs.YtmkjfhnlnhceiaaGreatDoor
variable {p:Addr} {r bs:List UInt8} {i B j n m c k g n1:Nat} {l xs:List Value} {x1 x2 x3 x4 x5 x6 x7 x8 v xv:Value} {S F:Nat->Prop} {e t:TypeId} {w w1:World} {A:Option Addr} {o:Oper} {a:Act} {K:Act->World->Prop} {Q:Exit->Act->World->Prop} {cs:Array Value}
abbrev aA:=@if_neg
abbrev gA:=@if_pos
abbrev kA:=@List.length_append
abbrev lA:=@Nat.le_refl
abbrev nA:=@List.length_map
abbrev oA:=@Nat.zero_le
abbrev tA:=@Nat.le_trans
abbrev vA:=@List.append_assoc
abbrev zA:=@List.setIfInBounds_toArray
abbrev BA:=@List.length_cons
abbrev CA:=@List.set_cons_zero
abbrev FA:=@List.getElem?_eq_getElem
abbrev IA:=@List.getElem?_eq_some_iff
abbrev JA:=@List.set_cons_succ
abbrev MA:=@List.getElem?_map
abbrev QA:=@List.length_drop
abbrev TA:=@List.mem_cons
abbrev aB:=@Go.World.size_alloc
abbrev cB:=@List.take_of_length_le
abbrev eB:=@Option.some.inj
abbrev iB:=@List.getElem_cons_succ
abbrev kB:=@Bool.and_eq_true
abbrev oB:=@List.getElem_cons_zero
abbrev qB:=@List.getElem_toArray
abbrev tB:=@congrArg
abbrev CB:=@List.map_cons
abbrev DB:=@List.map_append
abbrev EB:=@List.cons_append
abbrev LB:=@decide_eq_false
abbrev QB:=@List.mem_singleton
abbrev RB:=@List.length_take
abbrev SB:=@List.nil_append
abbrev XB:=@Int.toNat_natCast
abbrev YB:=@List.mem_append
abbrev ZB:=@Go.callsIn_wide
abbrev fC:=@List.mem_map
abbrev iC:=@Go.World.ownsRow_nil
abbrev kC:=@decide_eq_true
abbrev mC:=@List.length_nil
abbrev qC:=@bne_iff_ne
abbrev rC:=@List.getElem?_cons_zero
abbrev sC:=@Array.getElem?_eq_some_iff
abbrev BC:=@List.drop_of_length_le
abbrev LC:=@List.getElem?_cons_succ
abbrev MC:=@List.map_map
abbrev NC:=@decide_eq_true_eq
abbrev OC:=@List.mem_of_getElem?
abbrev VC:=@Option.map_some
abbrev WC:=@beq_eq_false_iff_ne
abbrev YC:=@List.getElem?_toArray
abbrev ZC:=@List.append_nil
abbrev aD:=@List.length_replicate
abbrev cD:=@Bool.false_and
abbrev dD:=@List.drop_drop
abbrev eD:=@List.take_add_one
abbrev fD:=@List.mem_map_of_mem
abbrev iD:=@List.flatMap_cons
abbrev oD:=@Go.Oper.semAt_some
abbrev yD:=@Go.Proofs.Tryz.underlying39
abbrev zD:=@Bool.true_and
abbrev ED:=@List.mem_flatMap
abbrev LD:=@Go.bodyPost_ret
abbrev SD:=@Nat.sub_self
abbrev jE:=@beq_iff_eq
abbrev kE:=@List.drop_eq_getElem_cons
abbrev lE:=@List.nodup_cons
abbrev AE:=@Nat.zero_add
abbrev SE:=@Option.some.injEq
abbrev TE:=@List.pairwise_cons
abbrev UE:=@Go.rounds_succ
abbrev jF:=@List.flatMap_append
abbrev kF:=@Go.IntWalk.i64_in
abbrev rF:=@Go.IntKind.wrap_i64
abbrev sF:=@Go.run_underlying
abbrev tF:=@List.take_append_drop
abbrev uF:=@Decidable.not_not
abbrev vF:=@List.mem_range
abbrev GF:=@List.size_toArray
abbrev IF:=@Nat.add_zero
abbrev JF:=@Ne.symm
abbrev LF:=@Array.getD_eq_getD_getElem?
abbrev RF:=@Nat.lt_of_lt_of_le
abbrev TF:=@List.drop_zero
abbrev UF:=@Array.length_toList
abbrev VF:=@List.length_set
abbrev WF:=@or_false
abbrev gG:=@Nat.mul_le_mul_right
abbrev iG:=@List.any_eq_true
abbrev jG:=@Go.StepsIn.trans
abbrev kG:=@List.map_congr_left
abbrev lG:=@if_true
abbrev mG:=@Go.Proofs.Tryz.underlying110
abbrev BG:=@Nat.succ_mul
abbrev CG:=@List.eq_nil_of_length_eq_zero
abbrev DG:=@Go.results_none
abbrev EG:=@List.all_eq_true
abbrev FG:=@List.getElem?_set_self
abbrev GG:=@List.length_singleton
abbrev TG:=@List.map_nil
abbrev UG:=@Bool.and_false
abbrev VG:=@List.replicate_succ
abbrev WG:=@List.getElem?_append_right
abbrev XG:=@List.not_mem_nil
abbrev YG:=@Go.RowKit.run_makeMap
abbrev BH:=@Nat.sub_zero
abbrev CH:=@Bool.or_eq_true
abbrev DH:=@Go.Proofs.Tryz.underlying9
abbrev EH:=@List.length_eq_zero_iff
abbrev FH:=@Go.Proofs.Tryz.underlying3
abbrev GH:=@Option.map_eq_some_iff
abbrev IH:=@List.mem_cons_of_mem
abbrev JH:=@Nat.lt_irrefl
abbrev dI:=@Go.Lib.run_eql_slice_nil
abbrev eI:=@Go.wpIn_wide
abbrev fI:=@List.set_append_right
abbrev iI:=@List.getElem?_set_ne
abbrev jI:=@true_and
abbrev kI:=@List.filter_append
abbrev lI:=@List.cons.inj
abbrev mI:=@Go.Proofs.Tryz.underlying48
abbrev nI:=@List.sum_cons
abbrev oI:=@Array.replicate_succ
abbrev pI:=@Array.replicate_zero
abbrev qI:=@List.push_toArray
abbrev rI:=@List.append_toArray
abbrev sI:=@Option.getD_some
abbrev NI:=@Go.World.ownsRow_made
abbrev OI:=@Nat.mod_eq_of_lt
abbrev PI:=@List.getElem?_append_left
abbrev QI:=@Prod.mk.injEq
abbrev RI:=@Nat.not_lt_zero
abbrev SI:=@List.pairwise_map
abbrev TI:=@List.length_range
abbrev UI:=@List.getElem?_eq_none
abbrev VI:=@List.prefix_append
abbrev WI:=@beq_self_eq_true
abbrev XI:=@Go.stepR_block
abbrev AJ:=@List.take_succ_eq_append_getElem
abbrev BJ:=@Go.ByteArray.toList_eq
abbrev CJ:=@List.getElem_mem
abbrev DJ:=@Go.Proofs.Tryz.func139
abbrev EJ:=@Go.Proofs.Tryz.ntmps139
abbrev FJ:=@Go.fenced_wide
abbrev GJ:=@Array.size_setIfInBounds
abbrev IJ:=@Nat.min_eq_left
abbrev JJ:=@List.mem_filter
abbrev LJ:=@List.mem_cons_self
abbrev MJ:=@of_decide_eq_true
abbrev NJ:=@List.cons_ne_nil
abbrev uK:=@Array.getElem?_modify
abbrev vK:=@Nat.add_assoc
abbrev wK:=@Nat.pow_le_pow_right
abbrev xK:=@Nat.mul_comm
abbrev yK:=@Nat.mod_one
abbrev zK:=@List.nodup_append
abbrev AK:=@Bool.true_eq_false
abbrev BK:=@List.filter_cons
abbrev CK:=@Go.RowKit.Below.refl
abbrev DK:=@Go.World.size_drew
abbrev EK:=@Go.Proofs.Tryz.underlying29
abbrev lL:=@List.getElem?_take
abbrev mL:=@List.foldl_cons
abbrev pL:=@List.take_succ_cons
abbrev qL:=@Go.Proofs.Tryz.func80
abbrev sL:=@Go.Proofs.Tryz.ntmps80
abbrev tL:=@Int.eq_ofNat_of_zero_le
abbrev uL:=@List.any_eq_false
abbrev vL:=@UInt8.toNat_inj
abbrev wL:=@Option.toList_some
abbrev xL:=@Array.getElem?_toList
abbrev yL:=@Go.stepR_seq
abbrev zL:=@List.mem_replicate
abbrev CL:=@Nat.mul_one
abbrev EL:=@List.count_append
abbrev FL:=@List.map_id
abbrev GL:=@List.headD_cons
abbrev IL:=@Nat.add_sub_cancel_left
abbrev LL:=@Array.getElem?_eq_getElem
abbrev ML:=@List.Perm.refl
abbrev NL:=@List.nodup_nil
abbrev OL:=@List.length_filter_le
abbrev PL:=@Go.Proofs.Tryz.underlying169
abbrev QL:=@Go.Proofs.Tryz.underlying70
abbrev FM:=@Go.RowKit.Below.heap_alloc
abbrev GM:=@List.getElem?_drop
abbrev IM:=@Go.Proofs.Tryz.func157
abbrev LM:=@Go.Proofs.Tryz.ntmps157
abbrev MM:=@List.mem_of_mem_take
abbrev NM:=@Nat.add_comm
abbrev OM:=@BitVec.getLsbD_ushiftRight
abbrev PM:=@Go.Proofs.Tryz.func44
abbrev QM:=@Go.Proofs.Tryz.ntmps44
abbrev RM:=@Go.fenced_calm
abbrev SM:=@Go.Proofs.Tryz.func122
abbrev TM:=@List.findIdx?_cons
abbrev UM:=@Go.Proofs.Tryz.func194
abbrev VM:=@Go.Proofs.Tryz.ntmps194
abbrev WM:=@List.pairwise_iff_getElem
abbrev XM:=@List.getElem_of_mem
abbrev YM:=@List.set_set
abbrev ZM:=@Go.Proofs.Tryz.underlying49
abbrev aN:=@Nat.le_succ
abbrev dN:=@List.getElem?_range
abbrev eN:=@List.map_set
abbrev iN:=@List.mem_or_eq_of_mem_set
abbrev jN:=@List.flatMap_map
abbrev kN:=@List.getElem?_replicate
abbrev oN:=@Option.getD_none
abbrev pN:=@Go.Proofs.Tryz.underlying23
abbrev sN:=@Go.Proofs.Tryz.underlying24
abbrev tN:=@Go.Proofs.Tryz.underlying54
abbrev uN:=@Except.ok.injEq
abbrev xN:=@Go.Proofs.Tryz.func98
abbrev yN:=@Go.Proofs.Tryz.ntmps98
abbrev BN:=@List.IsPrefix.trans
abbrev CN:=@Go.Proofs.Tryz.params6
abbrev CO:=@Nat.add_mul
abbrev DO:=@Go.Proofs.Tryz.func182
abbrev EO:=@Go.Proofs.Tryz.ntmps182
abbrev FO:=@Go.Proofs.Tryz.func88
abbrev GO:=@Go.Proofs.Tryz.ntmps88
abbrev LO:=@Go.Proofs.Tryz.func145
abbrev MO:=@Go.Proofs.Tryz.ntmps145
abbrev NO:=@Nat.div_eq_of_lt
abbrev OO:=@List.flatMap_nil
abbrev PO:=@Go.Proofs.Tryz.func83
abbrev QO:=@Go.Proofs.Tryz.ntmps83
abbrev RO:=@Array.toList_setIfInBounds
abbrev SO:=@Go.Proofs.Tryz.func195
abbrev TO:=@Go.Proofs.Tryz.ntmps195
abbrev UO:=@Go.WideAt.sameKey_self
abbrev VO:=@Go.MapKept.run_getObj_map
abbrev WO:=@Go.WideMaps.keyOf_string_mk
abbrev XO:=@List.count_le_length
abbrev YO:=@List.count_pos_iff
abbrev ZO:=@Go.Proofs.Tryz.underlying5
abbrev aP:=@Go.Proofs.Tryz.func220
abbrev bP:=@Go.Proofs.Tryz.ntmps220
abbrev dP:=@Go.Proofs.Tryz.func219
abbrev eP:=@Go.Proofs.Tryz.ntmps219
abbrev fP:=@List.drop_succ_cons
abbrev gP:=@List.drop_append
abbrev iP:=@List.append_cancel_left
abbrev jP:=@List.filterMap_cons
abbrev kP:=@List.nodup_iff_count
abbrev oP:=@List.pairwise_append
abbrev pP:=@List.filter_eq_nil_iff
abbrev sP:=@List.getElem_take
abbrev tP:=@List.take_append
abbrev uP:=@List.filter_congr
abbrev wP:=@Nat.lt_or_ge
abbrev xP:=@List.tail_cons
abbrev yP:=@Go.Proofs.Tryz.func39
abbrev zP:=@Go.Proofs.Tryz.ntmps39
abbrev BP:=@List.mem_append_left
abbrev CP:=@List.map_replicate
abbrev DP:=@Go.Proofs.Tryz.func124
abbrev EP:=@Go.Proofs.Tryz.ntmps124
abbrev FP:=@Int.le_refl
abbrev GP:=@Option.isNone_none
abbrev iR:=@Array.toList_append
abbrev jR:=@Go.IntKind.wrap_u64
abbrev kR:=@bne_eq_false_iff_eq
abbrev oR:=@List.any_append
abbrev pR:=@Array.toList_inj
abbrev sR:=@List.map_singleton
abbrev tR:=@List.take_append_of_le_length
abbrev uR:=@Bool.or_eq_false_iff
abbrev wR:=@BitVec.getLsbD_and
abbrev xR:=@BitVec.getLsbD_not
abbrev yR:=@BitVec.shiftRight_add
abbrev zR:=@List.all_append
abbrev BR:=@Nat.eq_of_mul_eq_mul_right
abbrev DR:=@Go.ComesIn.of_steps
abbrev ER:=@Go.World.ownsMap_made
abbrev FR:=@Go.Maps.sameKey_ne
abbrev IR:=@Go.MapKept.run_setObj_map
abbrev LR:=@Go.ChangeMaps.heap_setBlock_same
abbrev MR:=@Array.getElem_push_lt
abbrev NR:=@List.eq_of_mem_replicate
abbrev QR:=@List.replicate_zero
abbrev RR:=@Go.Proofs.Tryz.underlying71
abbrev SR:=@List.count_eq_zero
abbrev TR:=@List.takeWhile_cons
abbrev UR:=@Int.sub_add_cancel
abbrev WR:=@List.mem_erase_of_ne
abbrev XR:=@List.append_of_mem
abbrev YR:=@List.filter_cons_of_pos
abbrev ZR:=@List.sum_append
abbrev aS:=@List.filter_map
abbrev bS:=@Go.Proofs.Tryz.underlying154
abbrev cS:=@List.mem_append_right
abbrev dS:=@Int.natCast_add
abbrev eS:=@Option.isSome_none
abbrev fS:=@List.ext_getElem?
abbrev iS:=@List.nodup_range
abbrev jS:=@List.cons.injEq
abbrev kS:=@List.set_getElem_self
abbrev lS:=@List.filter_eq_self
abbrev mS:=@Option.isNone_some
abbrev oS:=@Bool.not_eq_true
abbrev pS:=@List.mem_iff_getElem
abbrev iV:=@Array.eq_empty_of_size_eq_zero
abbrev jV:=@List.count_eq_zero_of_not_mem
abbrev kV:=@List.set_eq_take_append_cons_drop
abbrev lV:=@List.prefix_append_right_inj
theorem qH {p:Prop} (h:p):RowKit.Hid p:=h
theorem qO {p:Prop} (h:p:=by omega):p:=h
theorem qD {p:Prop} (h:p:=by decide):p:=h
theorem qA {p:Prop} (h:p:=by assumption):p:=h
theorem qS {p:Prop} (h:p:=by simp):p:=h
theorem qR {p:Prop} (h:p:=by rfl):p:=h
theorem qK {p:Prop} (h:p:=by kernel_rfl):p:=h
theorem qF {p:Prop} (h:p:=by first | omega | (simp;done) | (simp;omega)):p:=h
theorem qM {p:Prop} (h:p:=by unfold maxLen;omega):p:=h
theorem qN {p:Prop} (h:p:=by go_num):p:=h
theorem qP {p:Prop} (h:p:=by simp;omega):p:=h
theorem qw {x y:Int} (h:-9223372036854775808<=x/\x<=9223372036854775807:=by omega) (k:x=y:=by omega):IntKind.i64.wrap x=y:=by rw [rF];omega
theorem qf {α:Type} {p q:α->Prop} (a:α) (_:q a) (h:p a):p a:=h
theorem qe {α:Type} {p q:α->Prop} (a:α) (_:q a) (h:False):p a:=h.elim
theorem qx {α:Sort _} (a:α):∃ x,a=x:=⟨_,rfl⟩
theorem qy {α:Sort _} (a:α):∃ x,x=a:=⟨_,rfl⟩
theorem qh {q p:Prop} (h:RowKit.Hid q) (k:q->p:=by intro;omega):p:=k h
theorem qt {q p:Prop} (h:q) (k:q->p:=by intro;omega):p:=k h
section
structure GVal where
 kind:Int
 num:Int
 text:ByteArray
 nums:List Int
 texts:List ByteArray
def u64 (n:Int):Nat:=(n % 18446744073709551616).toNat
def nanB (n:Int):Bool:=u64 n / 4503599627370496 % 2048==2047 && u64 n % 4503599627370496 != 0 && u64 n != 9221120237041090560
def oC (k n:Int):Int:=if k=1/\n≠0/\n≠1 then 42 else if k=3/\nanB n=true then 43 else 0
def YI (g:GVal):Bool :=
 (g.num != 0 && decide (3<g.kind)) || (g.text.size != 0 && g.kind != 4) || (g.nums.length != 0 && (decide (g.kind<5) || g.kind==8)) || (g.texts.length != 0 && g.kind != 8)
def lF (k:Int):List Int->Int
 | []=>0
 | n::l=>if oC k n≠0 then oC k n else lF k l
def chk (g:GVal):Int :=
 if g.kind<1\/8<g.kind then 40
 else if YI g=true then 41
 else if 40<g.nums.length\/40<g.texts.length then 45
 else if 1000<g.text.size\/g.texts.any (fun s=>decide (1000<s.size))=true then 44
 else if g.kind<4 then oC g.kind g.num
 else lF (g.kind-4) g.nums
def beb:Nat->Nat->List UInt8
 | 0,_=>[]
 | k+1,n=>UInt8.ofNat (n / 256 ^ k)::beb k n
def AD (k n:Int):List UInt8:=if k=1 then beb 1 (u64 n) else beb 8 (u64 n)
def BE (s:ByteArray):List UInt8:=beb 2 s.size++s.data.toList
def nG (g:GVal):List UInt8 :=
 if g.kind<4 then AD g.kind g.num
 else if g.kind=4 then BE g.text
 else beb 1 (g.nums.length+g.texts.length)++(g.nums.flatMap (AD (g.kind-4))++g.texts.flatMap BE)
def enc (g:GVal):List UInt8:=if chk g=0 then beb 1 g.kind.toNat++nG g else []
def be (bs:List UInt8):Nat:=bs.foldl (fun n c=>n*256+c.toNat) 0
def i64 (n:Nat):Int:=if n<9223372036854775808 then n else (n:Int)-18446744073709551616
def pNum (k:Int) (l:List UInt8):Except Int (Int×List UInt8) :=
 let width:=if k=1 then 1 else 8
 if l.length<width then .error 10
 else if oC k (i64 (be (l.take width)))≠0 then .error (oC k (i64 (be (l.take width))))
 else .ok (i64 (be (l.take width)),l.drop width)
def jD (l:List UInt8):Except Int (ByteArray×List UInt8) :=
 if l.length<2 then .error 10
 else if 1000<be (l.take 2) then .error 44
 else if (l.drop 2).length<be (l.take 2) then .error 10
 else .ok (⟨((l.drop 2).take (be (l.take 2))).toArray⟩,(l.drop 2).drop (be (l.take 2)))
def wC {α:Type} (p:List UInt8->Except Int (α×List UInt8)):Nat->List UInt8->Except Int (List α×List UInt8)
 | 0,l=>.ok ([],l)
 | n+1,l=>match p l with
   | .error e=>.error e
   | .ok (x,r)=>match wC p n r with
     | .error e=>.error e
     | .ok (xs,r')=>.ok (x::xs,r')
def oG (k:Int) (l:List UInt8):Except Int (GVal×List UInt8) :=
 match l with
 | []=>.error 10
 | c::l =>
   if 40<c.toNat then .error 45
   else if k=8 then match wC jD c.toNat l with
    | .error e=>.error e
    | .ok (xs,r)=>.ok (⟨k,0,⟨#[]⟩,[],xs⟩,r)
   else match wC (pNum (k-4)) c.toNat l with
    | .error e=>.error e
    | .ok (xs,r)=>.ok (⟨k,0,⟨#[]⟩,xs,[]⟩,r)
def pVal (l:List UInt8):Except Int (GVal×List UInt8) :=
 match l with
 | []=>.error 10
 | c::l =>
   if c.toNat<1\/8<c.toNat then .error 40
   else if 4<c.toNat then oG c.toNat l
   else if c.toNat=4 then match jD l with
    | .error e=>.error e
    | .ok (s,r)=>.ok (⟨4,0,s,[],[]⟩,r)
   else match pNum c.toNat l with
    | .error e=>.error e
    | .ok (n,r)=>.ok (⟨c.toNat,n,⟨#[]⟩,[],[]⟩,r)
def IP:GVal:=⟨0,0,⟨#[]⟩,[],[]⟩
def decP (l:List UInt8):GVal×Nat×Int :=
 match pVal l with
 | .error e=>(IP,0,e)
 | .ok (g,r)=>(g,l.length-r.length,0)
end
section
open Go.RowKit
structure Upd (S:Nat->Prop) (w w':World):Prop where
 os:w'.os=w.os
 tape:w'.tape=w.tape
 output:w'.output=w.output
 size:w.heap.size<=w'.heap.size
 block:∀ k,k<w.heap.size->¬ S k->w'.heap[k]?=w.heap[k]?
abbrev Same (w w':World):Prop:=Upd (fun _=>False) w w'
section upd
variable {S S':Nat->Prop} {w w1 w':World}
theorem Upd.refl (S:Nat->Prop) (w:World):Upd S w w:=⟨rfl,rfl,rfl,lA _,fun _ _ _=>rfl⟩
abbrev eA:=@Upd.refl
theorem Upd.r0 (w:World):Upd (fun _=>False) w w:=eA _ w
abbrev iA:=@Upd.r0
theorem Upd.mono (h:Upd S w w') (hs:∀ k,k<w.heap.size->S k->S' k):Upd S' w w' :=
 ⟨h.os,h.tape,h.output,h.size,fun k a b=>h.block k a (fun c=>b (hs k a c))⟩
abbrev ZI:=@Upd.mono
theorem Upd.trans (h:Upd S w w1) (h':Upd S' w1 w') (hs:∀ k,k<w.heap.size->S' k->S k):Upd S w w' :=
 ⟨h'.os.trans h.os,h'.tape.trans h.tape,h'.output.trans h.output,tA h.size h'.size,
  fun k a b=>(h'.block k (RF a h.size) (fun c=>b (hs k a c))).trans (h.block k a b)⟩
theorem Upd.same (h:Upd S w w1) (h':Same w1 w'):Upd S w w':=h.trans h' qe
theorem Upd.drew (h:Upd S w w'):Upd S w w'.drew:=⟨h.os,h.tape,h.output,h.size,h.block⟩
theorem Upd.drewN (h:Upd S w w') (n:Nat):Upd S w (w'.drewN n):=⟨h.os,h.tape,h.output,h.size,h.block⟩
theorem Upd.alloc (h:Upd S w w') (o:Obj):Upd S w (w'.alloc o) :=
 ⟨h.os,h.tape,h.output,tA h.size qS,fun k a b=>(FM w' o k (RF a h.size)).trans (h.block k a b)⟩
abbrev OJ:=@Upd.alloc
theorem Upd.setCell (h:Upd S w w') (hp:S p.block\/w.heap.size<=p.block) (u:Value):Upd S w (w'.setCell p u) :=
 ⟨h.os,h.tape,h.output,by simpa [World.setCell] using h.size,fun k b a=>(Below.heap_setCell w' p u k (by
  rintro rfl;rcases hp with hp | hp
  · exact a hp
  omega)).trans (h.block k b a)⟩
theorem Upd.put {r:Nat} (h:Upd S w w') (hr:S r) (u:Value):Upd S w (w'.setCell ⟨r,i,none⟩ u):=h.setCell (p:=⟨r,i,none⟩) (.inl hr) u
abbrev FK:=@Upd.put
theorem Upd.put1 {r:Nat} {w w':World} (h:Upd (fun b=>b=r) w w') (u:Value):Upd (fun b=>b=r) w (w'.setCell ⟨r,i,none⟩ u):=h.put rfl u
theorem Upd.putNew {r:Nat} (h:Upd S w w') (hr:w.heap.size<=r) (u:Value):Upd S w (w'.setCell ⟨r,i,none⟩ u):=h.setCell (p:=⟨r,i,none⟩) (.inr hr) u
abbrev CC:=@Upd.putNew
theorem Upd.grown (h:Upd S w w1) {d:Option Nat} (g:w1.grownBy w' d) (hr:∀ k,d=some k->S k\/w.heap.size<=k):Upd S w w' :=
 ⟨g.os.trans h.os,g.tape.trans h.tape,g.output.trans h.output,tA h.size g.size,
  fun k a b=>(g.block k (RF a h.size) (fun e=>by
   rcases hr k e.symm with c | c
   · exact b c
   omega)).trans (h.block k a b)⟩
theorem Upd.cell (h:Upd S w w') (hp:p.block<w.heap.size) (hs:¬ S p.block):w'.cell? p=w.cell? p:=World.cell?_of_block (w:=w) (h.block _ hp hs)
theorem Upd.frozen (h:Upd S w w') (hp:p.block<w.heap.size) (hs:¬ S p.block):w'.frozen? p=w.frozen? p:=World.frozen?_of_block (w:=w) (h.block _ hp hs)
theorem Upd.below (h:Upd S w w') (hB:B<=w.heap.size) (hs:∀ k,k<B->¬ S k):Below B w w' :=
 ⟨h.os,h.tape,h.output,h.size,fun k a=>h.block k qO (hs k a)⟩
theorem Same.below (h:Same w w'):Below w.heap.size w w':=Upd.below h (lA _) qf
theorem Same.of_below (h:Below w.heap.size w w'):Same w w':=⟨h.os,h.tape,h.output,h.size,fun k a _=>h.block k a⟩
abbrev JP:=@Same.of_below
end upd
def Blk (w:World) (g:Nat) (t:TypeId) (cs:Array Value):Prop:=w.heap[g]?=some (.cells cs t (0,0))
section blk
variable {w w':World} {g:Nat} {t:TypeId} {cs:Array Value}
theorem Blk.lt (h:Blk w g t cs):g<w.heap.size:=(sC.1 h).1
theorem Blk.cell (h:Blk w g t cs) (i:Nat):w.cell? ⟨g,i,none⟩=cs[i]?:=cell_of_row w g i cs t (0,0) h
theorem Blk.c0 {x0:Value} (h:Blk w g t (x0::l).toArray):w.cell? ⟨g,0,none⟩=some x0:=h.cell 0
theorem Blk.c1 {x0:Value} (h:Blk w g t (x0::x1::l).toArray):w.cell? ⟨g,1,none⟩=some x1:=h.cell 1
theorem Blk.c2 {x0:Value} (h:Blk w g t (x0::x1::x2::l).toArray):w.cell? ⟨g,2,none⟩=some x2:=h.cell 2
theorem Blk.c3 {x0:Value} (h:Blk w g t (x0::x1::x2::x3::l).toArray):w.cell? ⟨g,3,none⟩=some x3:=h.cell 3
theorem Blk.c4 {x0:Value} (h:Blk w g t (x0::x1::x2::x3::x4::l).toArray):w.cell? ⟨g,4,none⟩=some x4:=h.cell 4
theorem Blk.c5 {x0:Value} (h:Blk w g t (x0::x1::x2::x3::x4::x5::l).toArray):w.cell? ⟨g,5,none⟩=some x5:=h.cell 5
theorem Blk.c6 {x0:Value} (h:Blk w g t (x0::x1::x2::x3::x4::x5::x6::l).toArray):w.cell? ⟨g,6,none⟩=some x6:=h.cell 6
theorem Blk.c7 {x0:Value} (h:Blk w g t (x0::x1::x2::x3::x4::x5::x6::x7::l).toArray):w.cell? ⟨g,7,none⟩=some x7:=h.cell 7
theorem Blk.c8 {x0:Value} (h:Blk w g t (x0::x1::x2::x3::x4::x5::x6::x7::x8::l).toArray):w.cell? ⟨g,8,none⟩=some x8:=h.cell 8
theorem Blk.c9 {x0 x9:Value} (h:Blk w g t (x0::x1::x2::x3::x4::x5::x6::x7::x8::x9::l).toArray):w.cell? ⟨g,9,none⟩=some x9:=h.cell 9

theorem Blk.frozen (h:Blk w g t cs) (i:Nat):w.frozen? ⟨g,i,none⟩=false:=by have a:w.heap[g]?=some (.cells cs t (0,0)):=h;simp [World.frozen?,a]
theorem Blk.new (w:World) (t:TypeId) (cs:Array Value):Blk (w.alloc (.cells cs t)) w.heap.size t cs:=heap_alloc_new w _
abbrev jA:=@Blk.new
theorem Blk.drew (h:Blk w g t cs):Blk w.drew g t cs:=h
theorem Blk.drewN (h:Blk w g t cs) (n:Nat):Blk (w.drewN n) g t cs:=h
theorem Blk.alloc (h:Blk w g t cs) (o:Obj):Blk (w.alloc o) g t cs:=(FM w o g h.lt).trans h
theorem Blk.put (h:Blk w g t cs) (i:Nat) (u:Value):Blk (w.setCell ⟨g,i,none⟩ u) g t (cs.setIfInBounds i u):=by have a:w.heap[g]?=some (.cells cs t (0,0)):=h;show (w.setCell ⟨g,i,none⟩ u).heap[g]?=_;simp [World.setCell,uK,a]
theorem Blk.far (h:Blk w g t cs) (hp:g≠p.block) (u:Value):Blk (w.setCell p u) g t cs:=(Below.heap_setCell w p u g hp).trans h
theorem Blk.upd (h:Blk w g t cs) (hu:Upd S w w') (hs:¬ S g):Blk w' g t cs:=(hu.block g h.lt hs).trans h
theorem Blk.same (h:Blk w g t cs) (hu:Same w w'):Blk w' g t cs:=h.upd hu fun f=>f
theorem Blk.ne_own {size:Nat} (h:Blk w g t cs) (ho:w.ownsRow j e size v n xs) (k:e≠t):v.ownBlock≠some g:=by
 rcases ho.2 with ⟨rfl,_⟩ | ⟨b,c,d,rfl,_,f,_⟩
 · simp [Value.ownBlock]
 intro i;obtain rfl:b=g:=by simpa [Value.ownBlock] using i
 have a:w.heap[b]?=some (.cells cs t (0,0)):=h;rw [f] at a;injection a with a
 injection a with _ ht
 exact k ht
abbrev CE:=@Blk.ne_own
end blk
structure Row (w:World) (F:Nat->Prop) (k:Nat) (A:Option Addr) (n c:Nat) (xs:List Value):Prop where
 len:xs.length=n*k
 le:n<=c
 max:c<=maxLen
 nil:A=none->c=0
 cell:∀ a,A=some a->a.spot=none/\a.block<w.heap.size/\F a.block/\∀ i u,xs[i]?=some u->w.cell? ⟨a.block,a.off+i,none⟩=some u
section row
variable {w w':World} {F F':Nat->Prop} {k n c:Nat} {A:Option Addr} {xs:List Value}
theorem Row.nil_ (w:World) (F:Nat->Prop) (k:Nat):Row w F k none 0 0 []:=⟨qS,lA _,oA _,fun _=>rfl,fun _ h=>by cases h⟩
abbrev PJ:=@Row.nil_
theorem Row.upd (h:Row w F k A n c xs) (hu:Upd S w w') (hs:∀ b,F b->¬ S b):Row w' F k A n c xs :=
 ⟨h.len,h.le,h.max,h.nil,fun a f=>by obtain ⟨g,d,e,j⟩:=h.cell a f;exact ⟨g,RF d hu.size,e,fun i u l=>(hu.cell (p:=⟨a.block,a.off+i,Option.none⟩) d (hs _ e)).trans (j i u l)⟩⟩
abbrev SL:=@Row.upd
theorem Row.same (h:Row w F k A n c xs) (hu:Same w w'):Row w' F k A n c xs:=h.upd hu qf
theorem Row.mono (h:Row w F k A n c xs) (hf:∀ b,b<w.heap.size->F b->F' b):Row w F' k A n c xs :=
 ⟨h.len,h.le,h.max,h.nil,fun a e=>by obtain ⟨f,d,g,i⟩:=h.cell a e;exact ⟨f,d,hf _ d g,i⟩⟩
abbrev TL:=@Row.mono
theorem Row.at_ (h:Row w F 1 A n c xs) (hi:i<n):∃ b o u,A=some ⟨b,o,Option.none⟩/\b<w.heap.size/\F b/\xs[i]?=some u/\w.cell? ⟨b,o+i,Option.none⟩=some u:=by
 have d:i<xs.length:=qt h.len;cases hA:A with
 | none=>have:=h.nil hA;have:=h.le;omega
 | some a =>
   obtain ⟨e,f,g,j⟩:=h.cell a hA;obtain ⟨b,o,s⟩:=a;subst e;exact ⟨b,o,xs[i],rfl,f,g,FA d,j i _ (FA d)⟩
theorem Row.atK (h:Row w F k A n c xs) (hi:i<n):∃ b o,A=some ⟨b,o,Option.none⟩/\b<w.heap.size/\F b/\∀ j,j<k->∃ u,xs[i*k+j]?=some u/\w.cell? ⟨b,o+(i*k+j),Option.none⟩=some u:=by
 cases hA:A with
 | none=>have:=h.nil hA;have:=h.le;omega
 | some a =>
   obtain ⟨f,g,l,m⟩:=h.cell a hA;obtain ⟨b,o,s⟩:=a;subst f;refine ⟨b,o,rfl,g,l,fun j p=>?_⟩;have d:i*k+j<xs.length:=by rw [h.len];have e:(i+1)*k<=n*k:=gG k hi;rw [BG] at e;omega
   exact ⟨xs[i*k+j],FA d,m _ _ (FA d)⟩
theorem Row.of_own (h:w.ownsRow B e k (.slice A n c) n xs):Row w (fun b=>A=some ⟨b,0,Option.none⟩/\B<=b) k A n c xs:=by
 rcases h.2 with ⟨f,o⟩ | ⟨g,p,q,f,r,s,j,t,y,z⟩
 · injection f with h1 h2 h3
   subst h1;subst h3;subst o;exact ⟨h.1,lA _,oA _,fun _=>rfl,fun a l=>by cases l⟩
 injection f with h1 h2 h3
 subst h1;subst h3;refine ⟨h.1,j,t,fun v=>by (cases v),fun a l=>?_⟩;cases l;refine ⟨rfl,(sC.1 s).1,⟨rfl,r⟩,fun i u x=>?_⟩;have m:=h.cells (g:=g) rfl i u x;have d:(⟨g,0,Option.none⟩:Addr).add i=⟨g,0+i,Option.none⟩:=by unfold Addr.add;split <;> simp_all
 rwa [d] at m
abbrev xF:=@Row.of_own
theorem Row.cut (h:Row w F k A n c xs) (hj:j<=m) (hm:m<=n):
 Row w F k (if c=j then A else A.map (·.add (j*k))) (m-j) (c-j) ((xs.drop (j*k)).take ((m-j)*k)):=by
 have v:=h.le;have r:m*k<=n*k:=gG k hm;have x:(m-j)*k=m*k-j*k:=Nat.sub_mul m j k;refine ⟨?_,qO,qt h.max,fun g=>?_,fun a e=>?_⟩
 · rw [RB,QA,h.len];omega
 · split at g
   · omega
   cases hA:A with
   | none=>have:=h.nil hA;omega
   | some a=>rw [hA] at g;cases g
 split at e
 · rename_i z;obtain ⟨l,p,q,t⟩:=h.cell a e;refine ⟨l,p,q,fun i u d=>?_⟩;have y:(m-j)*k=0:=by have:m-j=0:=qO;rw [this];simp
   rw [y] at d;simp at d
 cases hA:A with
 | none=>rw [hA] at e;cases e
 | some a0 =>
   rw [hA] at e;obtain ⟨l,p,q,t⟩:=h.cell a0 hA;obtain ⟨b,o,s⟩:=a0;subst l;have f:(⟨b,o,Option.none⟩:Addr).add (j*k)=⟨b,o+j*k,Option.none⟩:=by unfold Addr.add;split <;> simp_all
   simp only [VC,SE,f] at e;subst e;refine ⟨rfl,p,q,fun i u d=>?_⟩;rw [lL] at d;split at d
   · rw [GM] at d;have:=t _ _ d;simpa [vK] using this
   cases d
structure WRow (w:World) (F:Nat->Prop) (k:Nat) (A:Option Addr) (n c:Nat) (xs:List Value):Prop where
 len:xs.length=n*k
 le:n<=c
 max:c<=maxLen
 nil:A=none->c=0
 row:0<n->Row w F k A n c xs
theorem Row.weak (h:Row w F k A n c xs):WRow w F k A n c xs:=⟨h.len,h.le,h.max,h.nil,fun _=>h⟩
theorem WRow.upd (h:WRow w F k A n c xs) (hu:Upd S w w') (hs:∀ b,F b->¬ S b):WRow w' F k A n c xs:=⟨h.len,h.le,h.max,h.nil,fun a=>(h.row a).upd hu hs⟩
theorem WRow.same (h:WRow w F k A n c xs) (hu:Same w w'):WRow w' F k A n c xs:=h.upd hu qf
abbrev aJ:=@WRow.same
theorem WRow.mono (h:WRow w F k A n c xs) (hf:∀ b,b<w.heap.size->F b->F' b):WRow w F' k A n c xs:=⟨h.len,h.le,h.max,h.nil,fun a=>(h.row a).mono hf⟩
theorem WRow.at_ (h:WRow w F 1 A n c xs) (hi:i<n):∃ b o u,A=some ⟨b,o,Option.none⟩/\b<w.heap.size/\F b/\xs[i]?=some u/\w.cell? ⟨b,o+i,Option.none⟩=some u:=(h.row qO).at_ hi
end row
abbrev u8v (x:UInt8):Value:=.int .u8 (x.toNat:Int)
def pA (w:World) (F:Nat->Prop) (A:Option Addr) (n c:Nat) (bs:List UInt8):Prop:=Row w F 1 A n c (bs.map u8v)
section bytes
variable {w w':World} {F F':Nat->Prop} {n c:Nat} {A:Option Addr} {bs:List UInt8}
theorem pA.len (h:pA w F A n c bs):bs.length=n:=by have:=Row.len h;simpa using this
abbrev ZG:=@pA.len
theorem pA.nil_ (w:World) (F:Nat->Prop):pA w F Option.none 0 0 []:=PJ w F 1
abbrev DN:=@pA.nil_
theorem pA.upd (h:pA w F A n c bs) (hu:Upd S w w') (hs:∀ b,F b->¬ S b):pA w' F A n c bs:=SL h hu hs
theorem pA.same (h:pA w F A n c bs) (hu:Same w w'):pA w' F A n c bs:=Row.same h hu
theorem pA.mono (h:pA w F A n c bs) (hf:∀ b,b<w.heap.size->F b->F' b):pA w F' A n c bs:=TL h hf
theorem pA.at_ (h:pA w F A n c bs) (hi:i<n):∃ b o,A=some ⟨b,o,Option.none⟩/\b<w.heap.size/\F b/\w.cell? ⟨b,o+i,Option.none⟩=some (.int .u8 ((bs[i]'(by rw [h.len];exact hi)).toNat:Int)):=by
 obtain ⟨b,o,u,e,f,g,a,j⟩:=Row.at_ h hi;refine ⟨b,o,e,f,g,?_⟩;have d:i<bs.length:=by rw [h.len];exact hi
 rw [j];rw [MA,FA d] at a;simpa using a.symm
theorem pA.cut (h:pA w F A n c bs) (hj:j<=m) (hm:m<=n):pA w F (if c=j then A else A.map (·.add j)) (m-j) (c-j) ((bs.drop j).take (m-j)):=by have:=Row.cut h hj hm;simpa [pA,List.map_take,List.map_drop] using this
theorem pA.rest (h:pA w F A n c bs) (hj:j<=n):pA w F (if c=j then A else A.map (·.add j)) (n-j) (c-j) (bs.drop j):=by have:=h.cut hj (lA n);rwa [cB (by rw [QA,h.len];exact lA _)] at this
theorem pA.head (h:pA w F A n c bs) (hm:m<=n):pA w F A m c (bs.take m):=by
 have:=h.cut (oA m) hm;simp only [TF,BH] at this;split at this
 · exact this
 cases A with
 | none=>simpa using this
 | some a=>simpa [Addr.add] using this
end bytes
theorem rS (bs:List UInt8):∀ u∈bs.map u8v,u.oneCell'=true:=by intro u a;obtain ⟨_,_,rfl⟩:=fC.1 a;rfl
theorem GK (b o j:Nat):(⟨b,o,none⟩:Addr).add j=⟨b,o+j,none⟩:=by unfold Addr.add;split <;> simp_all
theorem sS {b bytes:Nat} (h:c<b) (hb:(b+1000)*bytes<=211106232532992):Builtin.nextslicecap b c*bytes<=281474976710656:=by refine growslice_fits_wide h ?_;have a:(4*(b+b / 4+192))*bytes<=(5*(b+1000))*bytes:=gG _ qO;rw [Nat.mul_assoc,Nat.mul_assoc] at a;omega
structure Grew (w:World) (base:Nat) (e:TypeId) (k:Nat) (v:Value) (n:Nat) (xs:List Value) (v':Value) (w':World):Prop where
 own:w'.ownsRow base e k v' n xs
 upd:Upd (fun b=>v.ownBlock=some b) w w'
 block:v'.ownBlock=v.ownBlock\/∃ g,v'.ownBlock=some g/\w.heap.size<=g
section
variable {P:Program}
theorem mV (w:World) (t tx ty:TypeId) (R:Nat) (e:TypeId) (i:TypeInfo) (z:Value) (ht:P.underlying t=some (.slice e)) (hi:P.info? e=some i) (hz:i.zero=some z)
 (V:z.cells.size=i.size) (v:Value) (n:Nat) (xs:List Value) (S:w.ownsRow R e i.size v n xs)
 (x:Value) (m:Nat) (N:List Value) (O:Src P i.size tx x m N w)
 (T:n+m<=maxLen) (U:(n+m+1000)*i.bytes<=211106232532992) (W:R<=w.heap.size):
 ∃ v' w',(Builtin.append_ #[t,tx] ty #[v,x]).run P w=.ok v' w'/\Grew w R e i.size v (n+m) (xs++N) v' w':=by
 have A:n+m<=9223372036854775807:=by simp only [maxLen] at T;omega
 have a:(xs++N).length=(n+m)*i.size:=by rw [kA,S.1,O.newsLen,CO]
 have f:∀ (h:Nat),(w.drew.alloc (.cells ((xs++N).toArray++Builtin.zeroCells z.cells (grownCap w (n+m) h e-(n+m))) e)).ownsRow R e i.size
  (.slice (some ⟨w.heap.size,0,none⟩) (n+m) (grownCap w (n+m) h e)) (n+m) (xs++N):=by
  intro h;have B:=grownCap_ge w (n+m) h e;have l:=grownCap_le_maxLen w (n+m) h e T;refine ⟨a,.inr ⟨w.heap.size,_,_,rfl,W,heap_alloc_new w.drew _,B,l,?_,?_⟩⟩
  · rw [Array.size_append,size_zeroCells,V,GF,a,<-CO];congr 1;omega
  rw [iR,<-a];exact List.take_left
 rcases S.2 with ⟨rfl,rfl⟩ | ⟨g,d,k,rfl,C,E,I,l,D,p⟩
 · have F:xs=[]:=CG (by simpa using S.1);subst F;by_cases G:m=0
   · subst G;have H:N=[]:=CG (by simpa using O.newsLen);subst H;refine ⟨.slice none 0 0,w,?_,⟨iC w R e i.size,eA _ _,.inl rfl⟩⟩;rcases O.kind with ⟨L,y⟩ | y <;> simp [Builtin.append_,sF ht,sF y,sizeOf,typeInfo,hi,O.len,O.cells]
   have q:=run_append_grow_src (P:=P) w t tx ty e i z ht hi hz none 0 0 [] (by simpa using run_firstCells_none w.drew i.size 0 0 0) x m N O qO qO (sS qO U);exact ⟨_,_,q,⟨f 0,(eA _ w).drew.alloc _,.inr ⟨w.heap.size,rfl,lA _⟩⟩⟩
 by_cases c:n+m<=d
 · have r:n*i.size+N.length<=k.size:=by rw [O.newsLen,D,<-CO];exact gG _ c
   have s:=run_storeCells_at P g (n*i.size) e N 0 k w E (by simpa using r) O.one;simp only [IF] at s;have q:(Builtin.append_ #[t,tx] ty #[.slice (some ⟨g,0,none⟩) n d,x]).run P w=.ok (.slice (some ⟨g,0,none⟩) (n+m) d) (w.setRow g (k.toList.take (n*i.size)++N++k.toList.drop (n*i.size+N.length)).toArray):=by rcases O.kind with ⟨L,y⟩ | y <;> simp [Builtin.append_,sF ht,sF y,sizeOf,typeInfo,hi,O.len,c,O.cells,Addr.add_lit,s]
   refine ⟨_,_,q,⟨⟨a,.inr ⟨g,d,_,rfl,C,setRow_heap w g k _ e _ E,c,l,?_,?_⟩⟩,⟨rfl,rfl,rfl,qS,fun b _ M=>setRow_other w g b _ (fun e=>M (by simp [Value.ownBlock,e]))⟩,.inl rfl⟩⟩
   · simp only [GF,kA,RB,QA,UF];omega
   rw [p,<-a];exact List.take_left
 have o:∀ j u,xs[j]?=some u->w.drew.cell? ((⟨g,0,none⟩:Addr).add j)=some u:=S.cells (g:=g) rfl;have q:=run_append_grow_src (P:=P) w t tx ty e i z ht hi hz (some ⟨g,0,none⟩) n d xs (run_firstCells_some w.drew i.size n ⟨g,0,none⟩ n d xs S.1 o) x m N O qO qO (sS qO U);exact ⟨_,_,q,⟨f d,(eA _ w).drew.alloc _,.inr ⟨w.heap.size,rfl,lA _⟩⟩⟩
theorem GD {tx:TypeId} (ht:P.underlying tx=some (.slice e)) {p:List Value} (h:Row w F k A m c p) (q:∀ u∈p,u.oneCell'=true):
 Src P k tx (.slice A m c) m p w:=by
 cases hA:A with
 | none =>
   have n:=h.nil hA;have f:=h.le;obtain rfl:m=0:=qO;obtain rfl:c=0:=qO;have g:p=[]:=CG (by simpa using h.len);subst g;exact Src.ofNil w ht 0
 | some a =>
   obtain ⟨i,_,_,d⟩:=h.cell a hA;obtain ⟨b,o,s⟩:=a;subst i;exact Src.ofSlice w ht ⟨b,o,none⟩ m c p h.len (fun j u l=>by rw [GK];exact d j u l) q
theorem oV (s x:Operand) (t tx:TypeId)
 (ho:o.op=.call { callee:=.builtin .append,args:=#[s,x],argTypes:=#[t,tx] })
 (l:Nat) (e:TypeId) (k bytes:Nat) (z:Value) (ht:P.underlying t=some (.slice e)) (hi:(P.info? e).map (fun i=>(i.zero,i.size,i.bytes))=some (some z,k,bytes))
 (q:z.cells.size=k)
 (v:Value) (n:Nat) (xs:List Value) (hs:a.eval s=v) (r:w.ownsRow l e k v n xs)
 {p:List Value} (hx:a.eval x=xv) (u:Src P k tx xv m p w)
 (y:n+m<=maxLen) (A:(n+m+1000)*bytes<=211106232532992) (B:l<=w.heap.size)
 (h:∀ v' w',Grew w l e k v (n+m) (xs++p) v' w'->K (a.put o.dst v') w'):o.wp P a w K Q:=by
 obtain ⟨i,b,d,f,c⟩:=info_parts hi;clear hi;subst f;subst c;obtain ⟨v',w',g,j⟩:=mV (P:=P) w t tx o.type l e i z ht b d q v n xs r xv m p u y A B;unfold Oper.wp execOp;simp only [ho,resolve,invoke,builtin,Sem.run_bind,Sem.run_pure,Result.andThen_ok,List.map_toArray,CB,TG,hs,hx,g];exact h v' w' j
theorem XD {f:Array Oper} {rest:List Oper} (j:o.guard=none) (s x:Operand) (t tx:TypeId)
 (ho:o.op=.call { callee:=.builtin .append,args:=#[s,x],argTypes:=#[t,tx] })
 (d:Nat) (e:TypeId) (k bytes:Nat) (z:Value) (ht:P.underlying t=some (.slice e)) (hi:(P.info? e).map (fun i=>(i.zero,i.size,i.bytes))=some (some z,k,bytes))
 (l:z.cells.size=k)
 (v:Value) (n:Nat) (xs:List Value) (hs:a.eval s=v) (p:w.ownsRow d e k v n xs)
 {g:List Value} (hx:a.eval x=xv) (q:Src P k tx xv m g w)
 (r:n+m<=maxLen) (u:(n+m+1000)*bytes<=211106232532992) (y:d<=w.heap.size)
 (h:∀ v' w',Grew w d e k v (n+m) (xs++g) v' w'->wpList P f Q rest (a.put o.dst v') w'):wpList P f Q (o::rest) a w :=
 wpList_plain j fun _ b=>oV s x t tx ho d e k bytes z ht hi l v n xs hs p hx q r u y fun v' w' c=>b _ _ (h v' w' c)
theorem IK {d:Array Oper} {E:Prop} (g:o.guard=none) (s x:Operand) (t tx:TypeId)
 (ho:o.op=.call { callee:=.builtin .append,args:=#[s,x],argTypes:=#[t,tx] })
 (c:Nat) (e:TypeId) (k bytes:Nat) (z:Value) (ht:P.underlying t=some (.slice e)) (hi:(P.info? e).map (fun i=>(i.zero,i.size,i.bytes))=some (some z,k,bytes))
 (j:z.cells.size=k)
 (v:Value) (n:Nat) (xs:List Value) (hs:a.eval s=v) (l:w.ownsRow c e k v n xs)
 {f:List Value} (hx:a.eval x=xv) (p:Src P k tx xv m f w)
 (q:n+m<=maxLen) (r:(n+m+1000)*bytes<=211106232532992) (u:c<=w.heap.size)
 (h:∀ v' w',Grew w c e k v (n+m) (xs++f) v' w'->K (a.put o.dst v') w'):
 if Region.wanted o (yielded d a.tmps)=true then Oper.wp P o a w K Q else E:=by
 have b:Region.wanted o (yielded d a.tmps)=true:=by simp [Region.wanted,g]
 rw [gA b];exact oV s x t tx ho c e k bytes z ht hi j v n xs hs l hx p q r u h
end
theorem Row.of_blk (h:Blk w g t cs) (hs:cs.size=n*k) (hn:n<=c) (hc:c<=maxLen):Row w (fun b=>b=g) k (some ⟨g,0,none⟩) n c cs.toList :=
 ⟨by simpa using hs,hn,hc,fun d=>by (cases d),fun a e=>by cases e;exact ⟨rfl,h.lt,rfl,fun i u f=>by rw [h.cell];simpa using f⟩⟩
abbrev XF:=@Row.of_blk
theorem Row.one (w:World) (t:TypeId) (u:Value):Row (w.alloc (.cells #[u] t)) (fun b=>b=w.heap.size) 1 (some ⟨w.heap.size,0,none⟩) 1 1 [u] :=
 XF (jA w t #[u]) rfl (lA _) (by simp [maxLen])
abbrev tI:=@Row.one
theorem Row.drew (h:Row w F k A n c xs):Row w.drew F k A n c xs:=⟨h.len,h.le,h.max,h.nil,h.cell⟩
section
variable {w w':World} {base:Nat} {e:TypeId} {k:Nat} {v:Value} {n:Nat} {xs:List Value} {v':Value}
theorem GA (h:w.ownsRow base e k v n xs) (hu:Upd S w w') (hs:∀ g,v.ownBlock=some g->¬ S g):w'.ownsRow base e k v n xs:=by
 refine ⟨h.1,?_⟩;rcases h.2 with f | ⟨g,a,b,c,i,d,r⟩
 · exact .inl f
 exact .inr ⟨g,a,b,c,i,(hu.block g (sC.1 d).1 (hs g (by rw [c];rfl))).trans d,r⟩
theorem mA (h:w.ownsRow base e k v n xs) (hu:Same w w'):w'.ownsRow base e k v n xs:=GA h hu qf
theorem DE (h:w.ownsRow base e k v n xs):∃ A m c,v=.slice A m c:=by
 rcases h.2 with ⟨a,f⟩ | ⟨g,b,d,a,_⟩
 · exact ⟨none,0,0,a⟩
 exact ⟨_,_,_,a⟩
theorem WA (h:w.ownsRow base e k v n xs):∃ A c,v=.slice A n c:=by
 rcases h.2 with ⟨a,b⟩ | ⟨g,d,f,a,_⟩
 · exact ⟨none,0,by rw [a,b]⟩
 exact ⟨_,_,a⟩
theorem RA {base':Nat} (h:w.ownsRow base e k v n xs) (hb:base'<=base):w.ownsRow base' e k v n xs:=by
 refine ⟨h.1,?_⟩;rcases h.2 with c | ⟨g,a,b,d,f,r⟩
 · exact .inl c
 exact .inr ⟨g,a,b,d,qO,r⟩
theorem Grew.size (h:Grew w base e k v n xs v' w'):w.heap.size<=w'.heap.size:=h.upd.size
theorem Grew.blk (h:Grew w base e k v n xs v' w') (hb:Blk w g t cs) (a:v.ownBlock≠some g):Blk w' g t cs:=hb.upd h.upd fun e=>a e
theorem Grew.refl (h:w.ownsRow base e k v n xs):Grew w base e k v n xs v w:=⟨h,eA _ _,.inl rfl⟩
theorem Grew.alloc (h:Grew w base e k v n xs v' w') (o:Obj):Grew w base e k v n xs v' (w'.alloc o):=⟨h.own.alloc o,h.upd.alloc o,h.block⟩
theorem Grew.trans {v1:Value} {j:List Value} (h:Grew w base e k v n1 j v1 w1) (h':Grew w1 base e k v1 n xs v' w'):Grew w base e k v n xs v' w':=by
 refine ⟨h'.own,h.upd.trans h'.upd fun b i c=>?_,?_⟩
 · rcases h.block with d | ⟨g,f,a⟩
   · rw [<- d];exact c
   rw [f] at c;have:=eB c;omega
 rcases h'.block with d | ⟨g,f,a⟩
 · rw [d];exact h.block
 exact .inr ⟨g,f,tA h.size a⟩
end
theorem aH {wr wa:World} {h n0:Nat} {v':Value} (kb:Blk wr g t cs) (m:wr.ownsRow h e k v n0 l) (j:e≠t)
 (hu:Same wr wa) (hg:Grew wa h e k v n xs v' w1):
 Blk (w1.setCell ⟨g,i,none⟩ v') g t (cs.setIfInBounds i v')/\(w1.setCell ⟨g,i,none⟩ v').ownsRow h e k v' n xs/\Upd (fun b=>b=g\/v.ownBlock=some b) wr (w1.setCell ⟨g,i,none⟩ v'):=by
 have c:=hg.blk (kb.same hu) (kb.ne_own m j);refine ⟨c.put i v',GA hg.own ((eA (fun b=>b=g) w1).put1 v') fun b f a=>c.ne_own hg.own j (a ▸ f),?_⟩;have d:Upd (fun b=>b=g\/v.ownBlock=some b) wr wa:=hu.mono qe;exact FK (d.trans (hg.upd.mono (S':=fun b=>b=g\/v.ownBlock=some b) fun _ _ a=>.inr a) fun _ _ a=>a) (.inl rfl) v'
abbrev OwnB (w:World) (B:Nat) (v:Value) (bs:List UInt8):Prop:=w.ownsRow B 5 1 v bs.length (bs.map u8v)
abbrev pV (w:World) (B:Nat) (v:Value) (bs:List UInt8) (v':Value) (w':World):Prop:=Grew w B 5 1 v bs.length (bs.map u8v) v' w'
theorem tS (h:OwnB w B (.slice A m c) bs):pA w (fun b=>A=some ⟨b,0,none⟩/\B<=b) A m c bs:=by
 obtain ⟨d,e,a⟩:=WA h;injection a with h1 h2 h3
 subst h1;subst h2;subst h3;exact xF h
def MD (n:Int):Bool:=n==1 || n==2 || n==4 || n==8
theorem uS (n:Int) (w:World):Calls Tryz.prog 157 #[.int .i64 n] w fun e w'=>e=.returned (.bool (MD n))/\w=w':=by
 by_cases a:n=1
 · subst a;go_enter IM,LM;go_wp2;go_ret;exact ⟨rfl,rfl⟩
 by_cases b:n=2
 · subst b;go_enter IM,LM;go_wp2;go_ret;exact ⟨rfl,rfl⟩
 by_cases c:n=4
 · subst c;go_enter IM,LM;go_wp2;go_ret;exact ⟨rfl,rfl⟩
 by_cases d:n=8
 · subst d;go_enter IM,LM;go_wp2;go_ret;exact ⟨rfl,rfl⟩
 have e:MD n=false:=by simp [MD,a,b,c,d]
 go_enter IM,LM;go_wp2;go_ret;exact ⟨by simp [e],rfl⟩
theorem Zvd (bs:List UInt8) (c:UInt8):be (bs++[c])=be bs*256+c.toNat:=by simp [be]
theorem pG (bs:List UInt8):be bs<256 ^ bs.length:=by
 suffices h:∀ (l:List UInt8) (n k:Nat),n<256 ^ k->l.foldl (fun n c=>n*256+c.toNat) n<256 ^ (k+l.length) from by have:=h bs 0 0 qS;simpa [be] using this
 intro l
 induction l with
 | nil=>intro n k h;simpa using h
 | cons c l ih =>
   intro n k h;rw [mL,BA,show k+(l.length+1)=(k+1)+l.length from qO];refine ih _ _ ?_;rw [Nat.pow_succ];have:=c.toNat_lt;omega
theorem vS (bs:List UInt8) (k:Nat) (h:k<bs.length):bs.take (k+1)=bs.take k++[bs[k]]:=AJ h
theorem Zve (x c:Nat) (hc:c<256) (h:x*256+c<=18446744073709551615):
 bits BinOp.or IntKind.u64 (IntKind.u64.wrap ((x:Int)*256)) (IntKind.u64.wrap (c:Int))=((x*256+c:Nat):Int):=by
 have b:IntKind.u64.wrap ((x:Int)*256)=((x*256:Nat):Int):=by rw [IntWalk.u64_in _ ⟨qO,qO⟩];omega
 have d:IntKind.u64.wrap (c:Int)=(c:Int):=IntWalk.u64_in _ ⟨qO,qO⟩;rw [b,d];rw [u64_or_nat (x*256) c (show x*256<18446744073709551616 from qO) (show c<18446744073709551616 from qO)];have e:c<2 ^ 8:=hc;have a:=Nat.two_pow_add_eq_or_of_lt e x;rw [show 2 ^ 8*x=x*256 from qO] at a;rw [a]
theorem ZnN (w:World) (hb:pA w F A n c bs) (h8:n<=8):
 Calls Tryz.prog 193 #[.slice A n c] w fun e w'=>e=.returned (.int .u64 (be bs:Int))/\w=w':=by
 have f:=qH hb.len;go_enter Tryz.func193,Tryz.ntmps193;go_wp2
 go_loop [2,7] (fun v i=>∃ k:Nat,k<=n/\i=.int .i64 k/\v=.int .u64 (be (bs.take k):Int)) (fun _ i=>n-(intOf i).toNat)
 case atStart=>exact ⟨0,oA _,rfl,rfl⟩
 obtain ⟨k,q,rfl,rfl⟩:=hrel;by_cases a:k<n
 · obtain ⟨b,o,rfl,l,_,r⟩:=hb.at_ a;have d:k<bs.length:=by rw [f.out];exact a
   go_wp2
   go_round
   case rel =>
    refine ⟨k+1,qO,qN,?_⟩;have g:=pG (bs.take k);have h:(bs.take k).length=k:=qP;rw [h] at g;have m:256 ^ k<=256 ^ 7:=wK qO qO;have p:=(bs[k]'d).toNat_lt;rw [vS bs k d,Zvd,Zve _ _ qO qO]
   case measure=>simp [intOf];omega
 have j:k=n:=qO;go_wp2;go_ret;refine ⟨?_,rfl⟩;rw [cB (by rw [f.out];omega)];simp
theorem uI:(Tryz.prog.info? 5).map (fun i=>(i.zero,i.size,i.bytes))=some (some (.int .u8 0),1,1):=qK
theorem ZkT (w:World) (a:Option Addr) (n c:Nat):(binOp .eql 39 (.slice a n c) (.slice none 0 0)).run Tryz.prog w=.ok (.bool a.isNone) w :=
 dI (P:=Tryz.prog) w 39 5 a n c 0 0 yD
theorem JK (w:World) (hb:pA w F A n c bs) (hn:n<=140737488355328):
 Calls Tryz.prog 106 #[.slice A n c] w fun e w'=>∃ v',e=.returned v'/\OwnB w' w.heap.size v' bs/\Same w w':=by
 have h:=qH hb.len;have i:=ZkT;cases A with
 | none =>
   have j:=hb.nil rfl;have k:=Row.le hb;obtain rfl:n=0:=qO;obtain rfl:c=0:=qO;have f:bs=[]:=CG hb.len;subst f;clear j;go_enter Tryz.func106,Tryz.ntmps106;go_wp2;go_ret;exact ⟨_,rfl,iC _ _ _ _,eA _ _⟩
 | some a =>
   have g:n<=maxLen:=by have:=Row.le hb;have:=Row.max hb;omega
   go_enter Tryz.func106,Tryz.ntmps106;go_wp2_with (at_builtin;go_must (refine XD rfl (.tmp 5) (.tmp 6) _ _ rfl w.heap.size _ _ _ _ yD uI rfl _ 0 [] rfl (NI w #[] 0 (lA _) (oA _) rfl) rfl (GD yD (Row.same hb ((eA _ w).alloc _)) (rS bs)) qO qO qS ?_);intro v' w' d);go_ret;refine ⟨v',rfl,?_,?_⟩
   · have:=d.own;unfold OwnB;rw [h.out];simpa using this
   exact ((eA _ w).alloc _).trans d.upd fun b hb l=>by have:=eB l;simp only at this;omega
def DC (k:Int):Int:=if 4<k then k-4 else k
theorem LP (n:Int) (w:World) (h0 : -9223372036854775808<=n) (h1:n<=9223372036854775807):
 Calls Tryz.prog 189 #[.int .i64 n] w fun e w'=>e=.returned (.int .i64 (DC n))/\w=w':=by
 unfold DC;by_cases h:4<n
 · go_enter Tryz.func189,Tryz.ntmps189;go_wp2;go_ret;exact ⟨rfl,rfl⟩
 go_enter Tryz.func189,Tryz.ntmps189;go_wp2;go_ret;exact ⟨rfl,rfl⟩
theorem qV (n:Int):IntKind.u64.wrap n=(u64 n:Int):=by rw [jR];unfold u64;omega
theorem rV (n:Int):u64 n<18446744073709551616:=by unfold u64;omega
theorem Zvf (n:Int):oC 3 n=if bits BinOp.and IntKind.u64 (IntKind.u64.wrap n / 4503599627370496) 2047=2047/\¬ IntKind.u64.wrap (IntKind.u64.wrap n*4096)=0/\(IntKind.u64.wrap n != 9221120237041090560)=true then 43 else 0:=by
 rw [qV n];have c:=rV n;have d:((u64 n:Int) / 4503599627370496)=((u64 n / 4503599627370496:Nat):Int):=qO;have e:bits BinOp.and IntKind.u64 ((u64 n:Int) / 4503599627370496) 2047=((u64 n / 4503599627370496 % 2048:Nat):Int):=by rw [d];have h:=u64_and_nat (u64 n / 4503599627370496) 2047 qO qD;rw [show ((2047:Nat):Int)=2047 from rfl] at h;rw [h];have a:=Nat.and_two_pow_sub_one_eq_mod (u64 n / 4503599627370496) 11;rw [show 2 ^ 11-1=2047 from rfl,show 2 ^ 11=2048 from rfl] at a;rw [a]
 have f:IntKind.u64.wrap ((u64 n:Int)*4096)=((u64 n % 4503599627370496*4096:Nat):Int):=by rw [jR];omega
 rw [e,f];unfold oC nanB;generalize u64 n=U at *;simp only [kB,jE,qC,ne_eq];by_cases b:U / 4503599627370496 % 2048=2047
 · by_cases a:U % 4503599627370496=0
   · simp [b,a]
   by_cases g:U=9221120237041090560
   · rw [aA qO,aA qO,aA qO]
   rw [aA qO,gA ⟨trivial,⟨b,a⟩,g⟩,gA ⟨qO,qO,qO⟩]
 rw [aA qO,aA (fun h=>b h.2.1.1),aA (fun h=>b qO)]
theorem MP (k n:Int) (w:World) (h0:1<=k) (h1:k<=8):
 Calls Tryz.prog 185 #[.int .i64 k,.int .i64 n] w fun e w'=>e=.returned (.int .i64 (oC (DC k) n))/\w=w':=by
 have f:=LP k;generalize DC k=K at f ⊢;have b:=qH f;clear f;by_cases g:K=1
 · subst g;go_enter Tryz.func185,Tryz.ntmps185;go_wp2_with fail;refine (b.out _ qO qO).mono ?_;rintro e w' ⟨rfl,rfl⟩;go_wp2
   all_goals
    go_ret;refine ⟨?_,rfl⟩;clear b
   · rename_i h;simp [oC,h]
   · rename_i _ h;simp only [qC] at h;simp [oC,h.1,h.2]
   rename_i _ h;simp only [kR] at h;rcases h with h | h <;> simp [oC,h]
 by_cases c:K=3
 · subst c;go_enter Tryz.func185,Tryz.ntmps185;go_wp2_with fail;refine (b.out _ qO qO).mono ?_;rintro e w' ⟨rfl,rfl⟩;go_wp2
   all_goals
    go_ret;refine ⟨?_,rfl⟩;rw [Zvf];clear b
   · rename_i h1 d;rw [aA (fun h=>h.2.1 d)];rfl
   · rename_i h1 d a;rw [gA ⟨h1,d,a.2⟩];rfl
   · rename_i h1 d a;rw [aA (fun h=>by rcases a with a | a;exact absurd a (by simpa using d);rw [h.2.2] at a;cases a)];rfl
   rename_i h1;rw [aA (fun h=>h1 h.1)];rfl
 have i:oC K n=0:=by simp [oC,g,c]
 rw [i];clear i;go_enter Tryz.func185,Tryz.ntmps185;go_wp2_with fail;refine (b.out _ qO qO).mono ?_;rintro e w' ⟨rfl,rfl⟩;go_wp2;go_ret;exact ⟨rfl,rfl⟩
structure pD (w:World) (F:Nat->Prop) (A1:Option Addr) (n1 c1:Nat) (A2:Option Addr) (n2 c2:Nat) (g:GVal):Prop where
 nums:WRow w F 1 A1 n1 c1 (g.nums.map (Value.int .i64))
 texts:WRow w F 1 A2 n2 c2 (g.texts.map Value.string)
 kind : -9223372036854775808<=g.kind/\g.kind<=9223372036854775807
 num : -9223372036854775808<=g.num/\g.num<=9223372036854775807
 range:∀ n∈g.nums,-9223372036854775808<=n/\n<=9223372036854775807
section
variable {w w':World} {F F':Nat->Prop} {A1 A2:Option Addr} {n1 c1 n2 c2:Nat} {g:GVal}
theorem pD.upd (h:pD w F A1 n1 c1 A2 n2 c2 g) (hu:Upd S w w') (hs:∀ b,F b->¬ S b):pD w' F A1 n1 c1 A2 n2 c2 g :=
 ⟨h.nums.upd hu hs,h.texts.upd hu hs,h.kind,h.num,h.range⟩
theorem pD.same (h:pD w F A1 n1 c1 A2 n2 c2 g) (hu:Same w w'):pD w' F A1 n1 c1 A2 n2 c2 g:=h.upd hu qf
theorem pD.mono (h:pD w F A1 n1 c1 A2 n2 c2 g) (hf:∀ b,b<w.heap.size->F b->F' b):pD w F' A1 n1 c1 A2 n2 c2 g :=
 ⟨h.nums.mono hf,h.texts.mono hf,h.kind,h.num,h.range⟩
theorem pD.len1 (h:pD w F A1 n1 c1 A2 n2 c2 g):g.nums.length=n1:=by have:=h.nums.len;simpa using this
theorem pD.len2 (h:pD w F A1 n1 c1 A2 n2 c2 g):g.texts.length=n2:=by have:=h.texts.len;simpa using this
end
abbrev GVal.val (g:GVal) (A1:Option Addr) (n1 c1:Nat) (A2:Option Addr) (n2 c2:Nat):Value :=
 .agg #[.int .i64 g.kind,.int .i64 g.num,.string g.text,.slice A1 n1 c1,.slice A2 n2 c2]
theorem EN (s:ByteArray):(s.size != 0)=!s.toList.isEmpty:=by
 rw [BJ];have:s.data.toList.length=s.size:=by rw [UF];rfl
 rw [<- this];cases s.data.toList <;> simp
theorem kD {a b:Bool} (h:a=b):Ending.returned (.bool a)=.returned (.bool b):=by rw [h]
theorem bJ {k:IntKind} {a b:Int} (h:a=b):Ending.returned (.int k a)=.returned (.int k b):=by rw [h]
def badB (kind:Int) (num:Int) (text n1 n2:Nat):Bool :=
 (num != 0 && decide (3<kind)) || (text != 0 && kind != 4) || (n1 != 0 && (decide (kind<5) || kind==8)) || (n2 != 0 && kind != 8)
theorem ZnO {A1 A2:Option Addr} {c1 n2 c2:Nat} {kind num:Int} {text:ByteArray} (w:World) (h0:1<=kind) (h1:kind<=8):
 Calls Tryz.prog 182 #[.agg #[.int .i64 kind,.int .i64 num,.string text,.slice A1 n1 c1,.slice A2 n2 c2]] w fun e w' =>
  e=.returned (.bool (badB kind num text.size n1 n2))/\Same w w':=by
 have b:=LP kind;by_cases c:kind=8
 · subst c;rw [show DC 8=4 from rfl] at b;have a:=qH b;clear b;go_enter DO,EO;go_wp2_with fail;refine (a.out _ qO qO).mono ?_;rintro e w' ⟨rfl,rfl⟩;go_wp2
   all_goals
    go_ret;refine ⟨kD ?_,(eA _ _).alloc _⟩;clear a;unfold badB;rw [EN];simp [*]
 by_cases d:kind=4
 · subst d;rw [show DC 4=4 from rfl] at b;have a:=qH b;clear b c;go_enter DO,EO;go_wp2_with fail;refine (a.out _ qO qO).mono ?_;rintro e w' ⟨rfl,rfl⟩;go_wp2
   all_goals
    go_ret;refine ⟨kD ?_,(eA _ _).alloc _⟩;clear a;unfold badB;rw [EN];simp [*]
 have f:(DC kind==4)=false:=by unfold DC;split <;> simp <;> omega
 generalize DC kind=K at b f;have a:=qH b;clear b;by_cases i:4<kind
 · have g:¬ kind<5:=qO;have h:3<kind:=qO;go_enter DO,EO;go_wp2_with fail;refine (a.out _ qO qO).mono ?_;rintro e w' ⟨rfl,rfl⟩;go_wp2
   all_goals
    go_ret;refine ⟨kD ?_,(eA _ _).alloc _⟩;clear a;unfold badB;rw [EN];simp [*]
 have g:kind<5:=qO;have h:¬ 3<kind:=qO;go_enter DO,EO;go_wp2_with fail;refine (a.out _ qO qO).mono ?_;rintro e w' ⟨rfl,rfl⟩;go_wp2
 all_goals
  go_ret;refine ⟨kD ?_,(eA _ _).alloc _⟩;clear a;unfold badB;rw [EN];simp [*]
def cJ (w:World) (B:Nat) (v:Value) (g:GVal):Prop :=
 ∃ v1 v2,v=.agg #[.int .i64 g.kind,.int .i64 g.num,.string g.text,v1,v2] /\
  w.ownsRow B 2 1 v1 g.nums.length (g.nums.map (Value.int .i64))/\w.ownsRow B 9 1 v2 g.texts.length (g.texts.map Value.string)
theorem NP (l:List UInt8) (k:Nat) (hk:k<=8):be (l.take k)<18446744073709551616:=by have h:=pG (l.take k);have a:256 ^ (l.take k).length<=256 ^ 8:=wK qO (by rw [RB];omega);have b:256 ^ 8=18446744073709551616:=qD;omega
theorem OP (n:Nat) (h:n<18446744073709551616): -9223372036854775808<=i64 n/\i64 n<=9223372036854775807:=by unfold i64;split <;> omega
theorem wS {k:Int} {l:List UInt8} {n:Int} (h:pNum k l=.ok (n,r)):r.length<=l.length:=by
 unfold pNum at h;simp only at h;generalize (if k=1 then 1 else 8)=W at h;split at h
 · cases h
 split at h
 · cases h
 injection h with h
 injection h with _ h
 rw [<- h,QA];omega
theorem xS {l:List UInt8} {s:ByteArray} (h:jD l=.ok (s,r)):r.length<=l.length:=by
 unfold jD at h;split at h
 · cases h
 split at h
 · cases h
 split at h
 · cases h
 injection h with h
 injection h with _ h
 rw [<- h,QA,QA];omega
theorem ZnP {k:Int} {l:List UInt8} {g:GVal} (h:oG k l=.ok (g,r)):g.kind=k/\g.num=0/\g.text=⟨#[]⟩:=by
 unfold oG at h;split at h
 · cases h
 split at h
 · cases h
 split at h
 · split at h
   · cases h
   injection h with h
   injection h with h _
   subst h;exact ⟨rfl,rfl,rfl⟩
 split at h
 · cases h
 injection h with h
 injection h with h _
 subst h;exact ⟨rfl,rfl,rfl⟩
theorem sV {α:Type} {p:List UInt8->Except Int (α×List UInt8)} (hp:∀ l x r,p l=.ok (x,r)->r.length<=l.length):∀ (n:Nat) (l:List UInt8) (xs:List α) (r:List UInt8),wC p n l=.ok (xs,r)->r.length<=l.length:=by
 intro n
 induction n with
 | zero =>
   intro l xs r h;simp only [wC] at h;injection h with h
   injection h with _ h
   rw [h];exact lA _
 | succ n ih =>
   intro l xs r h;simp only [wC] at h;split at h
   · cases h
   rename_i x c a;split at h
   · cases h
   rename_i d e b;injection h with h
   injection h with _ h
   subst h;exact tA (ih _ _ _ b) (hp _ _ _ a)
theorem tV {l:List UInt8} {g:GVal} (h:pVal l=.ok (g,r)):r.length<=l.length:=by
 unfold pVal at h;split at h
 · cases h
 rename_i c i;have f:i.length<=(c::i).length:=qS;split at h
 · cases h
 split at h
 · unfold oG at h;split at h
   · cases h
   rename_i k j;have b:j.length<=(c::k::j).length:=qP;split at h
   · cases h
   split at h
   · split at h
     · cases h
     rename_i m d a;injection h with h
     injection h with _ h
     subst h;exact tA (sV (fun _ _ _ e=>xS e) _ _ _ _ a) b
   split at h
   · cases h
   rename_i m d a;injection h with h
   injection h with _ h
   subst h;exact tA (sV (fun _ _ _ e=>wS e) _ _ _ _ a) b
 split at h
 · split at h
   · cases h
   rename_i t d a;injection h with h
   injection h with _ h
   subst h;exact tA (xS a) f
 split at h
 · cases h
 rename_i t d a;injection h with h
 injection h with _ h
 subst h;exact tA (wS a) f
theorem FN {l:List UInt8} {e:Int} (h:pVal l=.error e):decP l=(IP,0,e):=by unfold decP;rw [h]
theorem GN {l:List UInt8} {g:GVal} (h:pVal l=.ok (g,r)):decP l=(g,l.length-r.length,0):=by unfold decP;rw [h]
section
variable {w w0:World} {g:Nat} {t:TypeId} {a0 a1 a2 a3 a4:Value}
theorem Blk.five (h:Blk w g t #[a0,a1,a2,a3,a4]):w.cell? ⟨g,0,none⟩=some a0/\w.cell? ⟨g,1,none⟩=some a1/\w.cell? ⟨g,2,none⟩=some a2/\w.cell? ⟨g,3,none⟩=some a3/\w.cell? ⟨g,4,none⟩=some a4 :=
 ⟨h.cell 0,h.cell 1,h.cell 2,h.cell 3,h.cell 4⟩
theorem Blk.five_free (h:Blk w g t #[a0,a1,a2,a3,a4]):w.frozen? ⟨g,0,none⟩=false/\w.frozen? ⟨g,1,none⟩=false/\w.frozen? ⟨g,2,none⟩=false/\w.frozen? ⟨g,3,none⟩=false/\w.frozen? ⟨g,4,none⟩=false :=
 ⟨h.frozen 0,h.frozen 1,h.frozen 2,h.frozen 3,h.frozen 4⟩
abbrev put5 (w:World) (g:Nat) (u0 u1 u2 u3 u4:Value):World :=
 ((((w.setCell ⟨g,0,none⟩ u0).setCell ⟨g,1,none⟩ u1).setCell ⟨g,2,none⟩ u2).setCell ⟨g,3,none⟩ u3).setCell ⟨g,4,none⟩ u4
theorem Blk.put5 (h:Blk w g t #[a0,a1,a2,a3,a4]) (u0 u1 u2 u3 u4:Value):Blk (put5 w g u0 u1 u2 u3 u4) g t #[u0,u1,u2,u3,u4] :=
 ((((h.put 0 u0).put 1 u1).put 2 u2).put 3 u3).put 4 u4
theorem Upd.put5 (h:Upd (fun b=>b=g) w0 w) (u0 u1 u2 u3 u4:Value):Upd (fun b=>b=g) w0 (put5 w g u0 u1 u2 u3 u4) :=
 ((((h.put1 u0).put1 u1).put1 u2).put1 u3).put1 u4
end
def decD (n:Nat) (P:GVal×Nat×Int):GVal×Int:=if P.2.2=0/\P.2.1<n then (IP,11) else (P.1,P.2.2)
structure GVal.Fits (g:GVal):Prop where
 kind : -9223372036854775808<=g.kind/\g.kind<=9223372036854775807
 num : -9223372036854775808<=g.num/\g.num<=9223372036854775807
 range:∀ n∈g.nums,-9223372036854775808<=n/\n<=9223372036854775807
end
end Go.Proofs.YtmkjfhnlnhceiaaGreatDoor
