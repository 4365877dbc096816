/- Texts that the claim leans on: walks and plain laws, function by function. -/
import Derived.WalkKit
import Derived.WalkSpells
import Derived.Laws.Rows
import Derived.Deep.Draws
import Derived.Deep.AppendLies
import Derived.Laws.AppendOwnNone
import Derived.Deep.AppendSrc
import Derived.Deep.DeepAppendWide
set_option maxRecDepth 100000
set_option maxHeartbeats 16000000
namespace Go.Proofs.YtmkjfhnlnhceiaaGreatDoor
abbrev Yab:=@_root_.if_neg
abbrev Yac:=@_root_.if_pos
abbrev Yae:=@_root_.Nat.le_refl
abbrev Yaf:=@_root_.List.length_append
abbrev Yag:=@_root_.List.length_map
abbrev Yah:=@_root_.Nat.zero_le
abbrev Yaj:=@_root_.Nat.le_trans
abbrev Yak:=@_root_.List.append_assoc
abbrev Yal:=@_root_.List.setIfInBounds_toArray
abbrev Yam:=@_root_.List.set_cons_zero
abbrev Yao:=@_root_.List.length_cons
abbrev Yap:=@_root_.List.set_cons_succ
abbrev Yaq:=@_root_.List.getElem?_eq_some_iff
abbrev Yar:=@_root_.List.getElem?_eq_getElem
abbrev Yas:=@_root_.List.length_drop
abbrev Yat:=@_root_.List.mem_cons
abbrev Yau:=@_root_.List.getElem?_map
abbrev Yav:=@_root_.Go.World.size_alloc
abbrev Yaw:=@_root_.List.getElem_cons_succ
abbrev Yax:=@_root_.Option.some.inj
abbrev Yay:=@_root_.Bool.and_eq_true
abbrev Yaz:=@_root_.List.getElem_cons_zero
abbrev YaA:=@_root_.List.getElem_toArray
abbrev YaB:=@_root_.List.take_of_length_le
abbrev YaC:=@_root_.congrArg
abbrev YaE:=@_root_.List.cons_append
abbrev YaF:=@_root_.List.map_cons
abbrev YaG:=@_root_.List.map_append
abbrev YaH:=@_root_.List.mem_singleton
abbrev YaJ:=@_root_.List.length_take
abbrev YaK:=@_root_.List.nil_append
abbrev YaM:=@_root_.decide_eq_false
abbrev YaN:=@_root_.Int.toNat_natCast
abbrev YaO:=@_root_.Go.callsIn_wide
abbrev YaQ:=@_root_.Go.World.ownsRow_nil
abbrev YaR:=@_root_.List.mem_append
abbrev YaS:=@_root_.List.length_nil
abbrev YaV:=@_root_.decide_eq_true
abbrev YaW:=@_root_.List.getElem?_cons_zero
abbrev YaX:=@_root_.Array.getElem?_eq_some_iff
abbrev Yba:=@_root_.List.mem_map
abbrev Ybc:=@_root_.decide_eq_true_eq
abbrev Ybd:=@_root_.List.getElem?_cons_succ
abbrev Ybe:=@_root_.List.mem_of_getElem?
abbrev Ybf:=@_root_.List.map_map
abbrev Ybh:=@_root_.bne_iff_ne
abbrev Ybj:=@_root_.List.getElem?_toArray
abbrev Ybk:=@_root_.List.length_replicate
abbrev Ybl:=@_root_.List.append_nil
abbrev Ybm:=@_root_.List.drop_drop
abbrev Ybn:=@_root_.beq_eq_false_iff_ne
abbrev Ybo:=@_root_.List.take_add_one
abbrev Ybq:=@_root_.Go.Oper.semAt_some
abbrev Ybs:=@_root_.List.flatMap_cons
abbrev Ybt:=@_root_.List.drop_of_length_le
abbrev Ybu:=@_root_.List.mem_map_of_mem
abbrev Ybw:=@_root_.Option.map_some
abbrev Yby:=@_root_.List.mem_flatMap
abbrev YbB:=@_root_.Go.bodyPost_ret
abbrev YbC:=@_root_.Nat.sub_self
abbrev YbE:=@_root_.beq_iff_eq
abbrev YbF:=@_root_.List.drop_eq_getElem_cons
abbrev YbG:=@_root_.List.nodup_cons
abbrev YbJ:=@_root_.Nat.zero_add
abbrev YbK:=@_root_.List.pairwise_cons
abbrev YbL:=@_root_.Go.rounds_succ
abbrev YbN:=@_root_.Bool.false_and
abbrev YbO:=@_root_.Go.IntWalk.i64_in
abbrev YbP:=@_root_.Bool.true_and
abbrev YbQ:=@_root_.Go.IntKind.wrap_i64
abbrev YbR:=@_root_.Go.run_underlying
abbrev YbS:=@_root_.List.flatMap_append
abbrev YbT:=@_root_.List.take_append_drop
abbrev YbV:=@_root_.List.size_toArray
abbrev YbW:=@_root_.Nat.add_zero
abbrev YbX:=@_root_.Decidable.not_not
abbrev YbY:=@_root_.Ne.symm
abbrev YbZ:=@_root_.Array.getD_eq_getD_getElem?
abbrev Ycd:=@_root_.Nat.lt_of_lt_of_le
abbrev Yce:=@_root_.Option.some.injEq
abbrev Ycf:=@_root_.Array.length_toList
abbrev Ycg:=@_root_.List.length_set
abbrev Ych:=@_root_.or_false
abbrev Ycj:=@_root_.List.drop_zero
abbrev Yck:=@_root_.List.any_eq_true
abbrev Ycl:=@_root_.Go.StepsIn.trans
abbrev Ycm:=@_root_.List.mem_range
abbrev Ycn:=@_root_.Nat.succ_mul
abbrev Yco:=@_root_.List.eq_nil_of_length_eq_zero
abbrev Ycp:=@_root_.Go.results_none
abbrev Ycq:=@_root_.List.map_congr_left
abbrev Ycr:=@_root_.List.getElem?_set_self
abbrev Ycs:=@_root_.List.length_singleton
abbrev Ycy:=@_root_.Nat.mul_le_mul_right
abbrev Ycz:=@_root_.List.replicate_succ
abbrev YcA:=@_root_.List.getElem?_append_right
abbrev YcB:=@_root_.List.not_mem_nil
abbrev YcC:=@_root_.Go.RowKit.run_makeMap
abbrev YcD:=@_root_.if_true
abbrev YcF:=@_root_.Nat.sub_zero
abbrev YcG:=@_root_.List.map_nil
abbrev YcH:=@_root_.Bool.or_eq_true
abbrev YcI:=@_root_.List.length_eq_zero_iff
abbrev YcJ:=@_root_.Option.map_eq_some_iff
abbrev YcK:=@_root_.List.all_eq_true
abbrev YcL:=@_root_.Nat.lt_irrefl
abbrev YcR:=@_root_.Go.Lib.run_eql_slice_nil
abbrev YcS:=@_root_.Bool.and_false
abbrev YcT:=@_root_.Go.wpIn_wide
abbrev YcU:=@_root_.List.set_append_right
abbrev YcV:=@_root_.List.getElem?_set_ne
abbrev YcW:=@_root_.true_and
abbrev YcX:=@_root_.List.filter_append
abbrev YcY:=@_root_.List.cons.inj
abbrev YcZ:=@_root_.List.mem_cons_of_mem
abbrev Yda:=@_root_.Array.replicate_succ
abbrev Ydb:=@_root_.Array.replicate_zero
abbrev Ydc:=@_root_.List.push_toArray
abbrev Ydd:=@_root_.List.append_toArray
abbrev Yde:=@_root_.Option.getD_some
abbrev Ydk:=@_root_.Nat.mod_eq_of_lt
abbrev Ydl:=@_root_.List.getElem?_append_left
abbrev Ydm:=@_root_.Prod.mk.injEq
abbrev Ydn:=@_root_.Nat.not_lt_zero
abbrev Ydo:=@_root_.List.pairwise_map
abbrev Ydp:=@_root_.List.getElem?_eq_none
abbrev Ydq:=@_root_.List.prefix_append
abbrev Ydr:=@_root_.List.sum_cons
abbrev Yds:=@_root_.Go.stepR_block
abbrev Ydz:=@_root_.Go.ByteArray.toList_eq
abbrev YdA:=@_root_.List.getElem_mem
abbrev YdB:=@_root_.Go.fenced_wide
abbrev YdC:=@_root_.Array.size_setIfInBounds
abbrev YdD:=@_root_.Nat.min_eq_left
abbrev YdE:=@_root_.List.mem_filter
abbrev YdF:=@_root_.beq_self_eq_true
abbrev YdG:=@_root_.List.cons_ne_nil
abbrev YdO:=@_root_.Array.getElem?_modify
abbrev YdP:=@_root_.Nat.add_assoc
abbrev YdQ:=@_root_.List.take_succ_eq_append_getElem
abbrev YdR:=@_root_.Nat.pow_le_pow_right
abbrev YdS:=@_root_.Go.World.ownsRow_made
abbrev YdT:=@_root_.Nat.mod_one
abbrev YdU:=@_root_.List.nodup_append
abbrev YdV:=@_root_.Bool.true_eq_false
abbrev YdW:=@_root_.List.filter_cons
abbrev YdX:=@_root_.Go.RowKit.Below.refl
abbrev Yeh:=@_root_.List.getElem?_take
abbrev Yei:=@_root_.List.foldl_cons
abbrev Yej:=@_root_.Int.eq_ofNat_of_zero_le
abbrev Yek:=@_root_.List.any_eq_false
abbrev Yel:=@_root_.UInt8.toNat_inj
abbrev Yem:=@_root_.Option.toList_some
abbrev Yen:=@_root_.Array.getElem?_toList
abbrev Yeo:=@_root_.Go.stepR_seq
abbrev Yep:=@_root_.List.mem_replicate
abbrev Yeq:=@_root_.Nat.mul_one
abbrev Yer:=@_root_.List.count_append
abbrev Yes:=@_root_.List.map_id
abbrev Yet:=@_root_.List.headD_cons
abbrev Yeu:=@_root_.Nat.add_sub_cancel_left
abbrev Yev:=@_root_.Array.getElem?_eq_getElem
abbrev Yew:=@_root_.List.Perm.refl
abbrev Yex:=@_root_.List.nodup_nil
abbrev Yey:=@_root_.List.mem_cons_self
abbrev Yez:=@_root_.List.length_filter_le
abbrev YeA:=@_root_.List.length_range
abbrev YeB:=@_root_.of_decide_eq_true
abbrev YeL:=@_root_.Go.RowKit.Below.heap_alloc
abbrev YeM:=@_root_.List.getElem?_drop
abbrev YeN:=@_root_.List.take_succ_cons
abbrev YeO:=@_root_.Nat.mul_comm
abbrev YeP:=@_root_.Nat.add_comm
abbrev YeQ:=@_root_.BitVec.getLsbD_ushiftRight
abbrev YeR:=@_root_.Go.fenced_calm
abbrev YeS:=@_root_.List.findIdx?_cons
abbrev YeT:=@_root_.List.pairwise_iff_getElem
abbrev YeU:=@_root_.List.getElem_of_mem
abbrev YeV:=@_root_.List.set_set
abbrev YeW:=@_root_.Nat.le_succ
abbrev YeX:=@_root_.List.map_set
abbrev YeY:=@_root_.List.mem_or_eq_of_mem_set
abbrev YeZ:=@_root_.List.flatMap_map
abbrev Yfa:=@_root_.List.getElem?_replicate
abbrev Yfb:=@_root_.Option.getD_none
abbrev Yfc:=@_root_.Except.ok.injEq
abbrev Yfd:=@_root_.List.IsPrefix.trans
abbrev Yfg:=@_root_.Nat.add_mul
abbrev Yfh:=@_root_.List.mem_of_mem_take
abbrev Yfi:=@_root_.Nat.div_eq_of_lt
abbrev Yfj:=@_root_.List.flatMap_nil
abbrev Yfk:=@_root_.Array.toList_setIfInBounds
abbrev Yfl:=@_root_.Go.WideAt.sameKey_self
abbrev Yfm:=@_root_.Go.MapKept.run_getObj_map
abbrev Yfn:=@_root_.Go.WideMaps.keyOf_string_mk
abbrev Yfo:=@_root_.List.count_le_length
abbrev Yfp:=@_root_.List.count_pos_iff
abbrev Yfq:=@_root_.List.drop_append
abbrev Yfr:=@_root_.List.append_cancel_left
abbrev Yfs:=@_root_.List.filterMap_cons
abbrev Yft:=@_root_.List.nodup_iff_count
abbrev Yfu:=@_root_.List.pairwise_append
abbrev Yfv:=@_root_.List.filter_eq_nil_iff
abbrev Yfw:=@_root_.List.take_append
abbrev Yfx:=@_root_.List.filter_congr
abbrev Yfy:=@_root_.Nat.lt_or_ge
abbrev Yfz:=@_root_.List.tail_cons
abbrev YfA:=@_root_.List.map_replicate
abbrev YfB:=@_root_.Int.le_refl
abbrev YfC:=@_root_.Go.World.size_drew
abbrev YfD:=@_root_.Option.isNone_none
abbrev YfE:=@_root_.List.getElem?_range
abbrev YfG:=@_root_.Array.toList_append
abbrev YfH:=@_root_.Go.IntKind.wrap_u64
abbrev YfI:=@_root_.bne_eq_false_iff_eq
abbrev YfJ:=@_root_.List.any_append
abbrev YfK:=@_root_.Array.toList_inj
abbrev YfL:=@_root_.List.map_singleton
abbrev YfM:=@_root_.List.take_append_of_le_length
abbrev YfN:=@_root_.Bool.or_eq_false_iff
abbrev YfO:=@_root_.BitVec.getLsbD_and
abbrev YfP:=@_root_.BitVec.getLsbD_not
abbrev YfQ:=@_root_.BitVec.shiftRight_add
abbrev YfR:=@_root_.List.all_append
abbrev YfS:=@_root_.Nat.eq_of_mul_eq_mul_right
abbrev YfT:=@_root_.Go.ComesIn.of_steps
abbrev YfU:=@_root_.Go.World.ownsMap_made
abbrev YfV:=@_root_.Go.Maps.sameKey_ne
abbrev YfW:=@_root_.Go.MapKept.run_setObj_map
abbrev YfX:=@_root_.Go.ChangeMaps.heap_setBlock_same
abbrev YfY:=@_root_.Array.getElem_push_lt
abbrev YfZ:=@_root_.List.eq_of_mem_replicate
abbrev Yga:=@_root_.List.replicate_zero
abbrev Ygb:=@_root_.List.count_eq_zero
abbrev Ygc:=@_root_.List.drop_succ_cons
abbrev Ygd:=@_root_.List.takeWhile_cons
abbrev Yge:=@_root_.Int.sub_add_cancel
abbrev Ygf:=@_root_.List.mem_erase_of_ne
abbrev Ygg:=@_root_.List.append_of_mem
abbrev Ygh:=@_root_.List.filter_cons_of_pos
abbrev Ygi:=@_root_.List.sum_append
abbrev Ygj:=@_root_.List.getElem_take
abbrev Ygk:=@_root_.List.filter_map
abbrev Ygl:=@_root_.List.mem_append_left
abbrev Ygm:=@_root_.List.mem_append_right
abbrev Ygn:=@_root_.Int.natCast_add
abbrev Ygo:=@_root_.Option.isSome_none
abbrev Ygp:=@_root_.List.ext_getElem?
abbrev Ygq:=@_root_.List.nodup_range
abbrev Ygr:=@_root_.List.set_getElem_self
abbrev Ygs:=@_root_.List.filter_eq_self
abbrev Ygt:=@_root_.Option.isNone_some
abbrev Ygu:=@_root_.Bool.not_eq_true
abbrev Ygv:=@_root_.List.mem_iff_getElem
abbrev Ygw:=@_root_.Array.eq_empty_of_size_eq_zero
abbrev Ygx:=@_root_.List.count_eq_zero_of_not_mem
abbrev Ygy:=@_root_.List.set_eq_take_append_cons_drop
abbrev Ygz:=@_root_.List.prefix_append_right_inj
theorem qH {p:Prop} (h:p):RowKit.Hid p:=h
theorem qO {p:Prop} (h:p:=by omega):p:=h
theorem qD {p:Prop} (h:p:=by decide):p:=h
theorem qA {p:Prop} (h:p:=by assumption):p:=h
theorem qw {x y:Int} (h:-9223372036854775808<=x/\x<=9223372036854775807:=by omega) (k:x=y:=by omega):IntKind.i64.wrap x=y:=by rw [YbQ];omega
theorem qh {q p:Prop} (h:RowKit.Hid q) (k:q->p:=by intro;omega):p:=k h
theorem qt {q p:Prop} (h:q) (k:q->p:=by intro;omega):p:=k h
section
structure GVal where
 kind:Int
 num:Int
 text:ByteArray
 nums:List Int
 texts:List ByteArray
def u64 (n:Int):Nat:=(n % 18446744073709551616).toNat
def nanB (n:Int):Bool:=u64 n / 4503599627370496 % 2048==2047 && u64 n % 4503599627370496 != 0 && u64 n != 9221120237041090560
def ZaM (k n:Int):Int:=if k=1/\n≠0/\n≠1 then 42 else if k=3/\nanB n=true then 43 else 0
def ZcV (g:GVal):Bool :=
 (g.num != 0 && decide (3<g.kind)) || (g.text.size != 0 && g.kind != 4) || (g.nums.length != 0 && (decide (g.kind<5) || g.kind==8)) || (g.texts.length != 0 && g.kind != 8)
def ZbH (k:Int):List Int->Int
 | []=>0
 | n::l=>if ZaM k n≠0 then ZaM k n else ZbH k l
def chk (g:GVal):Int :=
 if g.kind<1\/8<g.kind then 40
 else if ZcV g=true then 41
 else if 40<g.nums.length\/40<g.texts.length then 45
 else if 1000<g.text.size\/g.texts.any (fun s=>decide (1000<s.size))=true then 44
 else if g.kind<4 then ZaM g.kind g.num
 else ZbH (g.kind-4) g.nums
def beb:Nat->Nat->List UInt8
 | 0,_=>[]
 | k+1,n=>UInt8.ofNat (n / 256 ^ k)::beb k n
def Zbw (k n:Int):List UInt8:=if k=1 then beb 1 (u64 n) else beb 8 (u64 n)
def Zbs (s:ByteArray):List UInt8:=beb 2 s.size++s.data.toList
def Zcu (g:GVal):List UInt8 :=
 if g.kind<4 then Zbw g.kind g.num
 else if g.kind=4 then Zbs g.text
 else beb 1 (g.nums.length+g.texts.length)++(g.nums.flatMap (Zbw (g.kind-4))++g.texts.flatMap Zbs)
def enc (g:GVal):List UInt8:=if chk g=0 then beb 1 g.kind.toNat++Zcu g else []
def be (bs:List UInt8):Nat:=bs.foldl (fun n c=>n*256+c.toNat) 0
def i64 (n:Nat):Int:=if n<9223372036854775808 then n else (n:Int)-18446744073709551616
def pNum (k:Int) (l:List UInt8):Except Int (Int×List UInt8) :=
 let width:=if k=1 then 1 else 8
 if l.length<width then .error 10
 else if ZaM k (i64 (be (l.take width)))≠0 then .error (ZaM k (i64 (be (l.take width))))
 else .ok (i64 (be (l.take width)),l.drop width)
def Zci (l:List UInt8):Except Int (ByteArray×List UInt8) :=
 if l.length<2 then .error 10
 else if 1000<be (l.take 2) then .error 44
 else if (l.drop 2).length<be (l.take 2) then .error 10
 else .ok (⟨((l.drop 2).take (be (l.take 2))).toArray⟩,(l.drop 2).drop (be (l.take 2)))
def ZbI {α:Type} (p:List UInt8->Except Int (α×List UInt8)):Nat->List UInt8->Except Int (List α×List UInt8)
 | 0,l=>.ok ([],l)
 | n+1,l=>match p l with
   | .error e=>.error e
   | .ok (x,r)=>match ZbI p n r with
     | .error e=>.error e
     | .ok (xs,r')=>.ok (x::xs,r')
def Zgb (k:Int) (l:List UInt8):Except Int (GVal×List UInt8) :=
 match l with
 | []=>.error 10
 | c::l =>
   if 40<c.toNat then .error 45
   else if k=8 then match ZbI Zci c.toNat l with
    | .error e=>.error e
    | .ok (xs,r)=>.ok (⟨k,0,⟨#[]⟩,[],xs⟩,r)
   else match ZbI (pNum (k-4)) c.toNat l with
    | .error e=>.error e
    | .ok (xs,r)=>.ok (⟨k,0,⟨#[]⟩,xs,[]⟩,r)
def pVal (l:List UInt8):Except Int (GVal×List UInt8) :=
 match l with
 | []=>.error 10
 | c::l =>
   if c.toNat<1\/8<c.toNat then .error 40
   else if 4<c.toNat then Zgb c.toNat l
   else if c.toNat=4 then match Zci l with
    | .error e=>.error e
    | .ok (s,r)=>.ok (⟨4,0,s,[],[]⟩,r)
   else match pNum c.toNat l with
    | .error e=>.error e
    | .ok (n,r)=>.ok (⟨c.toNat,n,⟨#[]⟩,[],[]⟩,r)
def ZsE:GVal:=⟨0,0,⟨#[]⟩,[],[]⟩
def decP (l:List UInt8):GVal×Nat×Int :=
 match pVal l with
 | .error e=>(ZsE,0,e)
 | .ok (g,r)=>(g,l.length-r.length,0)
end
section
open Go.RowKit
structure Upd (S:Nat->Prop) (w w':World):Prop where
 os:w'.os=w.os
 tape:w'.tape=w.tape
 output:w'.output=w.output
 size:w.heap.size<=w'.heap.size
 block:∀ k,k<w.heap.size->¬ S k->w'.heap[k]?=w.heap[k]?
abbrev Same (w w':World):Prop:=Upd (fun _=>False) w w'
section upd
variable {S S':Nat->Prop} {w w1 w':World}
theorem Upd.refl (S:Nat->Prop) (w:World):Upd S w w:=⟨rfl,rfl,rfl,Yae _,fun _ _ _=>rfl⟩
abbrev Yaa:=@Upd.refl
theorem Upd.mono (h:Upd S w w') (hs:∀ k,k<w.heap.size->S k->S' k):Upd S' w w' :=
 ⟨h.os,h.tape,h.output,h.size,fun k a b=>h.block k a (fun c=>b (hs k a c))⟩
abbrev Ydf:=@Upd.mono
theorem Upd.trans (h:Upd S w w1) (h':Upd S' w1 w') (hs:∀ k,k<w.heap.size->S' k->S k):Upd S w w' :=
 ⟨h'.os.trans h.os,h'.tape.trans h.tape,h'.output.trans h.output,Yaj h.size h'.size,
  fun k a b=>(h'.block k (Ycd a h.size) (fun c=>b (hs k a c))).trans (h.block k a b)⟩
theorem Upd.same (h:Upd S w w1) (h':Same w1 w'):Upd S w w':=h.trans h' fun _ _ f=>f.elim
theorem Upd.drew (h:Upd S w w'):Upd S w w'.drew:=⟨h.os,h.tape,h.output,h.size,h.block⟩
theorem Upd.drewN (h:Upd S w w') (n:Nat):Upd S w (w'.drewN n):=⟨h.os,h.tape,h.output,h.size,h.block⟩
theorem Upd.alloc (h:Upd S w w') (o:Obj):Upd S w (w'.alloc o) :=
 ⟨h.os,h.tape,h.output,Yaj h.size (by simp),fun k a b=>(YeL w' o k (Ycd a h.size)).trans (h.block k a b)⟩
abbrev Ydt:=@Upd.alloc
theorem Upd.setCell (h:Upd S w w') {p:Addr} (hp:S p.block\/w.heap.size<=p.block) (u:Value):Upd S w (w'.setCell p u) :=
 ⟨h.os,h.tape,h.output,by simpa [World.setCell] using h.size,fun k b a=>(Below.heap_setCell w' p u k (by
  rintro rfl;rcases hp with hp | hp
  · exact a hp
  omega)).trans (h.block k b a)⟩
theorem Upd.put {r i:Nat} (h:Upd S w w') (hr:S r) (u:Value):Upd S w (w'.setCell ⟨r,i,none⟩ u):=h.setCell (p:=⟨r,i,none⟩) (.inl hr) u
abbrev YdH:=@Upd.put
theorem Upd.put1 {r i:Nat} {w w':World} (h:Upd (fun b=>b=r) w w') (u:Value):Upd (fun b=>b=r) w (w'.setCell ⟨r,i,none⟩ u):=h.put rfl u
theorem Upd.putNew {r i:Nat} (h:Upd S w w') (hr:w.heap.size<=r) (u:Value):Upd S w (w'.setCell ⟨r,i,none⟩ u):=h.setCell (p:=⟨r,i,none⟩) (.inr hr) u
abbrev YaY:=@Upd.putNew
theorem Upd.grown (h:Upd S w w1) {row:Option Nat} (g:w1.grownBy w' row) (hr:∀ k,row=some k->S k\/w.heap.size<=k):Upd S w w' :=
 ⟨g.os.trans h.os,g.tape.trans h.tape,g.output.trans h.output,Yaj h.size g.size,
  fun k a b=>(g.block k (Ycd a h.size) (fun e=>by
   rcases hr k e.symm with c | c
   · exact b c
   omega)).trans (h.block k a b)⟩
theorem Upd.cell (h:Upd S w w') {p:Addr} (hp:p.block<w.heap.size) (hs:¬ S p.block):w'.cell? p=w.cell? p:=World.cell?_of_block (w:=w) (h.block _ hp hs)
theorem Upd.frozen (h:Upd S w w') {p:Addr} (hp:p.block<w.heap.size) (hs:¬ S p.block):w'.frozen? p=w.frozen? p:=World.frozen?_of_block (w:=w) (h.block _ hp hs)
theorem Upd.below {B:Nat} (h:Upd S w w') (hB:B<=w.heap.size) (hs:∀ k,k<B->¬ S k):Below B w w' :=
 ⟨h.os,h.tape,h.output,h.size,fun k a=>h.block k qO (hs k a)⟩
theorem Same.below (h:Same w w'):Below w.heap.size w w':=Upd.below h (Yae _) fun _ _ f=>f
theorem Same.of_below (h:Below w.heap.size w w'):Same w w':=⟨h.os,h.tape,h.output,h.size,fun k a _=>h.block k a⟩
abbrev Yfe:=@Same.of_below
end upd
def Blk (w:World) (g:Nat) (t:TypeId) (cs:Array Value):Prop:=w.heap[g]?=some (.cells cs t (0,0))
section blk
variable {w w':World} {g:Nat} {t:TypeId} {cs:Array Value}
theorem Blk.lt (h:Blk w g t cs):g<w.heap.size:=(YaX.1 h).1
theorem Blk.cell (h:Blk w g t cs) (i:Nat):w.cell? ⟨g,i,none⟩=cs[i]?:=cell_of_row w g i cs t (0,0) h
theorem Blk.c0 {x0:Value} {l:List Value} (h:Blk w g t (x0::l).toArray):w.cell? ⟨g,0,none⟩=some x0:=h.cell 0
theorem Blk.c1 {x0 x1:Value} {l:List Value} (h:Blk w g t (x0::x1::l).toArray):w.cell? ⟨g,1,none⟩=some x1:=h.cell 1
theorem Blk.c2 {x0 x1 x2:Value} {l:List Value} (h:Blk w g t (x0::x1::x2::l).toArray):w.cell? ⟨g,2,none⟩=some x2:=h.cell 2
theorem Blk.c3 {x0 x1 x2 x3:Value} {l:List Value} (h:Blk w g t (x0::x1::x2::x3::l).toArray):w.cell? ⟨g,3,none⟩=some x3:=h.cell 3
theorem Blk.c4 {x0 x1 x2 x3 x4:Value} {l:List Value} (h:Blk w g t (x0::x1::x2::x3::x4::l).toArray):w.cell? ⟨g,4,none⟩=some x4:=h.cell 4
theorem Blk.c5 {x0 x1 x2 x3 x4 x5:Value} {l:List Value} (h:Blk w g t (x0::x1::x2::x3::x4::x5::l).toArray):w.cell? ⟨g,5,none⟩=some x5:=h.cell 5
theorem Blk.c6 {x0 x1 x2 x3 x4 x5 x6:Value} {l:List Value} (h:Blk w g t (x0::x1::x2::x3::x4::x5::x6::l).toArray):w.cell? ⟨g,6,none⟩=some x6:=h.cell 6
theorem Blk.c7 {x0 x1 x2 x3 x4 x5 x6 x7:Value} {l:List Value} (h:Blk w g t (x0::x1::x2::x3::x4::x5::x6::x7::l).toArray):w.cell? ⟨g,7,none⟩=some x7:=h.cell 7
theorem Blk.c8 {x0 x1 x2 x3 x4 x5 x6 x7 x8:Value} {l:List Value} (h:Blk w g t (x0::x1::x2::x3::x4::x5::x6::x7::x8::l).toArray):w.cell? ⟨g,8,none⟩=some x8:=h.cell 8
theorem Blk.c9 {x0 x1 x2 x3 x4 x5 x6 x7 x8 x9:Value} {l:List Value} (h:Blk w g t (x0::x1::x2::x3::x4::x5::x6::x7::x8::x9::l).toArray):w.cell? ⟨g,9,none⟩=some x9:=h.cell 9

theorem Blk.frozen (h:Blk w g t cs) (i:Nat):w.frozen? ⟨g,i,none⟩=false:=by have a:w.heap[g]?=some (.cells cs t (0,0)):=h;simp [World.frozen?,a]
theorem Blk.new (w:World) (t:TypeId) (cs:Array Value):Blk (w.alloc (.cells cs t)) w.heap.size t cs:=heap_alloc_new w _
abbrev Yad:=@Blk.new
theorem Blk.drew (h:Blk w g t cs):Blk w.drew g t cs:=h
theorem Blk.drewN (h:Blk w g t cs) (n:Nat):Blk (w.drewN n) g t cs:=h
theorem Blk.alloc (h:Blk w g t cs) (o:Obj):Blk (w.alloc o) g t cs:=(YeL w o g h.lt).trans h
theorem Blk.put (h:Blk w g t cs) (i:Nat) (u:Value):Blk (w.setCell ⟨g,i,none⟩ u) g t (cs.setIfInBounds i u):=by have a:w.heap[g]?=some (.cells cs t (0,0)):=h;show (w.setCell ⟨g,i,none⟩ u).heap[g]?=_;simp [World.setCell,YdO,a]
theorem Blk.far (h:Blk w g t cs) {p:Addr} (hp:g≠p.block) (u:Value):Blk (w.setCell p u) g t cs:=(Below.heap_setCell w p u g hp).trans h
theorem Blk.upd {S:Nat->Prop} (h:Blk w g t cs) (hu:Upd S w w') (hs:¬ S g):Blk w' g t cs:=(hu.block g h.lt hs).trans h
theorem Blk.same (h:Blk w g t cs) (hu:Same w w'):Blk w' g t cs:=h.upd hu fun f=>f
theorem Blk.ne_own {base:Nat} {e:TypeId} {size n:Nat} {v:Value} {xs:List Value} (h:Blk w g t cs) (ho:w.ownsRow base e size v n xs) (hne:e≠t):v.ownBlock≠some g:=by
 rcases ho.2 with ⟨rfl,_⟩ | ⟨b,c,d,rfl,_,f,_⟩
 · simp [Value.ownBlock]
 intro i;obtain rfl:b=g:=by simpa [Value.ownBlock] using i
 have a:w.heap[b]?=some (.cells cs t (0,0)):=h;rw [f] at a;injection a with a
 injection a with _ ht
 exact hne ht
abbrev YbH:=@Blk.ne_own
end blk
structure Row (w:World) (F:Nat->Prop) (k:Nat) (A:Option Addr) (n c:Nat) (xs:List Value):Prop where
 len:xs.length=n*k
 le:n<=c
 max:c<=maxLen
 nil:A=none->c=0
 cell:∀ a,A=some a->a.spot=none/\a.block<w.heap.size/\F a.block/\∀ i u,xs[i]?=some u->w.cell? ⟨a.block,a.off+i,none⟩=some u
section row
variable {w w':World} {F F':Nat->Prop} {k n c:Nat} {A:Option Addr} {xs:List Value}
theorem Row.nil_ (w:World) (F:Nat->Prop) (k:Nat):Row w F k none 0 0 []:=⟨by simp,Yae _,Yah _,fun _=>rfl,fun _ h=>by cases h⟩
abbrev YdY:=@Row.nil_
theorem Row.upd {S:Nat->Prop} (h:Row w F k A n c xs) (hu:Upd S w w') (hs:∀ b,F b->¬ S b):Row w' F k A n c xs :=
 ⟨h.len,h.le,h.max,h.nil,fun a f=>by obtain ⟨g,d,e,j⟩:=h.cell a f;exact ⟨g,Ycd d hu.size,e,fun i u l=>(hu.cell (p:=⟨a.block,a.off+i,Option.none⟩) d (hs _ e)).trans (j i u l)⟩⟩
abbrev YdZ:=@Row.upd
theorem Row.same (h:Row w F k A n c xs) (hu:Same w w'):Row w' F k A n c xs:=h.upd hu fun _ _ f=>f
theorem Row.mono (h:Row w F k A n c xs) (hf:∀ b,b<w.heap.size->F b->F' b):Row w F' k A n c xs :=
 ⟨h.len,h.le,h.max,h.nil,fun a e=>by obtain ⟨f,d,g,i⟩:=h.cell a e;exact ⟨f,d,hf _ d g,i⟩⟩
abbrev Yea:=@Row.mono
theorem Row.at_ (h:Row w F 1 A n c xs) {i:Nat} (hi:i<n):∃ b o u,A=some ⟨b,o,Option.none⟩/\b<w.heap.size/\F b/\xs[i]?=some u/\w.cell? ⟨b,o+i,Option.none⟩=some u:=by
 have d:i<xs.length:=qt h.len;cases hA:A with
 | none=>have:=h.nil hA;have:=h.le;omega
 | some a =>
   obtain ⟨e,f,g,j⟩:=h.cell a hA;obtain ⟨b,o,s⟩:=a;subst e;exact ⟨b,o,xs[i],rfl,f,g,Yar d,j i _ (Yar d)⟩
theorem Row.atK (h:Row w F k A n c xs) {i:Nat} (hi:i<n):∃ b o,A=some ⟨b,o,Option.none⟩/\b<w.heap.size/\F b/\∀ j,j<k->∃ u,xs[i*k+j]?=some u/\w.cell? ⟨b,o+(i*k+j),Option.none⟩=some u:=by
 cases hA:A with
 | none=>have:=h.nil hA;have:=h.le;omega
 | some a =>
   obtain ⟨f,g,l,m⟩:=h.cell a hA;obtain ⟨b,o,s⟩:=a;subst f;refine ⟨b,o,rfl,g,l,fun j p=>?_⟩;have d:i*k+j<xs.length:=by rw [h.len];have e:(i+1)*k<=n*k:=Ycy k hi;rw [Ycn] at e;omega
   exact ⟨xs[i*k+j],Yar d,m _ _ (Yar d)⟩
theorem Row.of_own {base:Nat} {e:TypeId} (h:w.ownsRow base e k (.slice A n c) n xs):Row w (fun b=>A=some ⟨b,0,Option.none⟩/\base<=b) k A n c xs:=by
 rcases h.2 with ⟨f,o⟩ | ⟨g,p,q,f,r,s,j,t,y,z⟩
 · injection f with h1 h2 h3
   subst h1;subst h3;subst o;exact ⟨h.1,Yae _,Yah _,fun _=>rfl,fun a l=>by cases l⟩
 injection f with h1 h2 h3
 subst h1;subst h3;refine ⟨h.1,j,t,fun v=>by (cases v),fun a l=>?_⟩;cases l;refine ⟨rfl,(YaX.1 s).1,⟨rfl,r⟩,fun i u x=>?_⟩;have m:=h.cells (g:=g) rfl i u x;have d:(⟨g,0,Option.none⟩:Addr).add i=⟨g,0+i,Option.none⟩:=by unfold Addr.add;split <;> simp_all
 rwa [d] at m
abbrev Yca:=@Row.of_own
theorem Row.cut (h:Row w F k A n c xs) {j m:Nat} (hj:j<=m) (hm:m<=n) :
 Row w F k (if c=j then A else A.map (·.add (j*k))) (m-j) (c-j) ((xs.drop (j*k)).take ((m-j)*k)):=by
 have v:=h.le;have r:m*k<=n*k:=Ycy k hm;have x:(m-j)*k=m*k-j*k:=Nat.sub_mul m j k;refine ⟨?_,qO,qt h.max,fun g=>?_,fun a e=>?_⟩
 · rw [YaJ,Yas,h.len];omega
 · split at g
   · omega
   cases hA:A with
   | none=>have:=h.nil hA;omega
   | some a=>rw [hA] at g;cases g
 split at e
 · rename_i z;obtain ⟨l,p,q,t⟩:=h.cell a e;refine ⟨l,p,q,fun i u d=>?_⟩;have y:(m-j)*k=0:=by have:m-j=0:=qO;rw [this];simp
   rw [y] at d;simp at d
 cases hA:A with
 | none=>rw [hA] at e;cases e
 | some a0 =>
   rw [hA] at e;obtain ⟨l,p,q,t⟩:=h.cell a0 hA;obtain ⟨b,o,s⟩:=a0;subst l;have f:(⟨b,o,Option.none⟩:Addr).add (j*k)=⟨b,o+j*k,Option.none⟩:=by unfold Addr.add;split <;> simp_all
   simp only [Ybw,Yce,f] at e;subst e;refine ⟨rfl,p,q,fun i u d=>?_⟩;rw [Yeh] at d;split at d
   · rw [YeM] at d;have:=t _ _ d;simpa [YdP] using this
   cases d
structure WRow (w:World) (F:Nat->Prop) (k:Nat) (A:Option Addr) (n c:Nat) (xs:List Value):Prop where
 len:xs.length=n*k
 le:n<=c
 max:c<=maxLen
 nil:A=none->c=0
 row:0<n->Row w F k A n c xs
theorem Row.weak (h:Row w F k A n c xs):WRow w F k A n c xs:=⟨h.len,h.le,h.max,h.nil,fun _=>h⟩
theorem WRow.upd {S:Nat->Prop} (h:WRow w F k A n c xs) (hu:Upd S w w') (hs:∀ b,F b->¬ S b):WRow w' F k A n c xs:=⟨h.len,h.le,h.max,h.nil,fun a=>(h.row a).upd hu hs⟩
theorem WRow.same (h:WRow w F k A n c xs) (hu:Same w w'):WRow w' F k A n c xs:=h.upd hu fun _ _ f=>f
abbrev Ydg:=@WRow.same
theorem WRow.mono (h:WRow w F k A n c xs) (hf:∀ b,b<w.heap.size->F b->F' b):WRow w F' k A n c xs:=⟨h.len,h.le,h.max,h.nil,fun a=>(h.row a).mono hf⟩
theorem WRow.at_ (h:WRow w F 1 A n c xs) {i:Nat} (hi:i<n):∃ b o u,A=some ⟨b,o,Option.none⟩/\b<w.heap.size/\F b/\xs[i]?=some u/\w.cell? ⟨b,o+i,Option.none⟩=some u:=(h.row qO).at_ hi
end row
abbrev u8v (x:UInt8):Value:=.int .u8 (x.toNat:Int)
def Zag (w:World) (F:Nat->Prop) (A:Option Addr) (n c:Nat) (bs:List UInt8):Prop:=Row w F 1 A n c (bs.map u8v)
section bytes
variable {w w':World} {F F':Nat->Prop} {n c:Nat} {A:Option Addr} {bs:List UInt8}
theorem Zag.len (h:Zag w F A n c bs):bs.length=n:=by have:=Row.len h;simpa using this
abbrev Yct:=@Zag.len
theorem Zag.nil_ (w:World) (F:Nat->Prop):Zag w F Option.none 0 0 []:=YdY w F 1
abbrev YeC:=@Zag.nil_
theorem Zag.upd {S:Nat->Prop} (h:Zag w F A n c bs) (hu:Upd S w w') (hs:∀ b,F b->¬ S b):Zag w' F A n c bs:=YdZ h hu hs
theorem Zag.same (h:Zag w F A n c bs) (hu:Same w w'):Zag w' F A n c bs:=Row.same h hu
theorem Zag.mono (h:Zag w F A n c bs) (hf:∀ b,b<w.heap.size->F b->F' b):Zag w F' A n c bs:=Yea h hf
theorem Zag.at_ (h:Zag w F A n c bs) {i:Nat} (hi:i<n):∃ b o,A=some ⟨b,o,Option.none⟩/\b<w.heap.size/\F b/\w.cell? ⟨b,o+i,Option.none⟩=some (.int .u8 ((bs[i]'(by rw [h.len];exact hi)).toNat:Int)):=by
 obtain ⟨b,o,u,e,f,g,a,j⟩:=Row.at_ h hi;refine ⟨b,o,e,f,g,?_⟩;have d:i<bs.length:=by rw [h.len];exact hi
 rw [j];rw [Yau,Yar d] at a;simpa using a.symm
theorem Zag.cut (h:Zag w F A n c bs) {j m:Nat} (hj:j<=m) (hm:m<=n):Zag w F (if c=j then A else A.map (·.add j)) (m-j) (c-j) ((bs.drop j).take (m-j)):=by have:=Row.cut h hj hm;simpa [Zag,List.map_take,List.map_drop] using this
theorem Zag.rest (h:Zag w F A n c bs) {j:Nat} (hj:j<=n):Zag w F (if c=j then A else A.map (·.add j)) (n-j) (c-j) (bs.drop j):=by have:=h.cut hj (Yae n);rwa [YaB (by rw [Yas,h.len];exact Yae _)] at this
theorem Zag.head (h:Zag w F A n c bs) {m:Nat} (hm:m<=n):Zag w F A m c (bs.take m):=by
 have:=h.cut (Yah m) hm;simp only [Ycj,YcF] at this;split at this
 · exact this
 cases A with
 | none=>simpa using this
 | some a=>simpa [Addr.add] using this
end bytes
theorem ZgX (bs:List UInt8):∀ u∈bs.map u8v,u.oneCell'=true:=by intro u a;obtain ⟨_,_,rfl⟩:=Yba.1 a;rfl
theorem Zfl (b o j:Nat):(⟨b,o,none⟩:Addr).add j=⟨b,o+j,none⟩:=by unfold Addr.add;split <;> simp_all
theorem ZkB {need old bytes:Nat} (h:old<need) (hb:(need+1000)*bytes<=211106232532992):Builtin.nextslicecap need old*bytes<=281474976710656:=by refine growslice_fits_wide h ?_;have a:(4*(need+need / 4+192))*bytes<=(5*(need+1000))*bytes:=Ycy _ qO;rw [Nat.mul_assoc,Nat.mul_assoc] at a;omega
structure Grew (w:World) (base:Nat) (e:TypeId) (k:Nat) (v:Value) (n:Nat) (xs:List Value) (v':Value) (w':World):Prop where
 own:w'.ownsRow base e k v' n xs
 upd:Upd (fun b=>v.ownBlock=some b) w w'
 block:v'.ownBlock=v.ownBlock\/∃ g,v'.ownBlock=some g/\w.heap.size<=g
section
variable {P:Program}
theorem Ziq (w:World) (t tx ty:TypeId) (base:Nat) (e:TypeId) (i:TypeInfo) (z:Value) (ht:P.underlying t=some (.slice e)) (hi:P.info? e=some i) (hz:i.zero=some z)
 (hzs:z.cells.size=i.size) (v:Value) (n:Nat) (xs:List Value) (hown:w.ownsRow base e i.size v n xs)
 (x:Value) (m:Nat) (news:List Value) (hsrc:Src P i.size tx x m news w)
 (h63:n+m<=maxLen) (hbytes:(n+m+1000)*i.bytes<=211106232532992) (hbase:base<=w.heap.size) :
 ∃ v' w',(Builtin.append_ #[t,tx] ty #[v,x]).run P w=.ok v' w'/\Grew w base e i.size v (n+m) (xs++news) v' w':=by
 have A:n+m<=9223372036854775807:=by simp only [maxLen] at h63;omega
 have a:(xs++news).length=(n+m)*i.size:=by rw [Yaf,hown.1,hsrc.newsLen,Yfg]
 have f:∀ (h:Nat),(w.drew.alloc (.cells ((xs++news).toArray++Builtin.zeroCells z.cells (grownCap w (n+m) h e-(n+m))) e)).ownsRow base e i.size
  (.slice (some ⟨w.heap.size,0,none⟩) (n+m) (grownCap w (n+m) h e)) (n+m) (xs++news):=by
  intro h;have B:=grownCap_ge w (n+m) h e;have l:=grownCap_le_maxLen w (n+m) h e h63;refine ⟨a,.inr ⟨w.heap.size,_,_,rfl,hbase,heap_alloc_new w.drew _,B,l,?_,?_⟩⟩
  · rw [Array.size_append,size_zeroCells,hzs,YbV,a,<-Yfg];congr 1;omega
  rw [YfG,<-a];exact List.take_left
 rcases hown.2 with ⟨rfl,rfl⟩ | ⟨g,d,k,rfl,C,E,I,l,D,p⟩
 · have F:xs=[]:=Yco (by simpa using hown.1);subst F;by_cases G:m=0
   · subst G;have H:news=[]:=Yco (by simpa using hsrc.newsLen);subst H;refine ⟨.slice none 0 0,w,?_,⟨YaQ w base e i.size,Yaa _ _,.inl rfl⟩⟩;rcases hsrc.kind with ⟨L,y⟩ | y <;> simp [Builtin.append_,YbR ht,YbR y,sizeOf,typeInfo,hi,hsrc.len,hsrc.cells]
   have q:=run_append_grow_src (P:=P) w t tx ty e i z ht hi hz none 0 0 [] (by simpa using run_firstCells_none w.drew i.size 0 0 0) x m news hsrc qO qO (ZkB qO hbytes);exact ⟨_,_,q,⟨f 0,(Yaa _ w).drew.alloc _,.inr ⟨w.heap.size,rfl,Yae _⟩⟩⟩
 by_cases c:n+m<=d
 · have r:n*i.size+news.length<=k.size:=by rw [hsrc.newsLen,D,<-Yfg];exact Ycy _ c
   have s:=run_storeCells_at P g (n*i.size) e news 0 k w E (by simpa using r) hsrc.one;simp only [YbW] at s;have q:(Builtin.append_ #[t,tx] ty #[.slice (some ⟨g,0,none⟩) n d,x]).run P w=.ok (.slice (some ⟨g,0,none⟩) (n+m) d) (w.setRow g (k.toList.take (n*i.size)++news++k.toList.drop (n*i.size+news.length)).toArray):=by rcases hsrc.kind with ⟨L,y⟩ | y <;> simp [Builtin.append_,YbR ht,YbR y,sizeOf,typeInfo,hi,hsrc.len,c,hsrc.cells,Addr.add_lit,s]
   refine ⟨_,_,q,⟨⟨a,.inr ⟨g,d,_,rfl,C,setRow_heap w g k _ e _ E,c,l,?_,?_⟩⟩,⟨rfl,rfl,rfl,by simp,fun b _ M=>setRow_other w g b _ (fun e=>M (by simp [Value.ownBlock,e]))⟩,.inl rfl⟩⟩
   · simp only [YbV,Yaf,YaJ,Yas,Ycf];omega
   rw [p,<-a];exact List.take_left
 have o:∀ j u,xs[j]?=some u->w.drew.cell? ((⟨g,0,none⟩:Addr).add j)=some u:=hown.cells (g:=g) rfl;have q:=run_append_grow_src (P:=P) w t tx ty e i z ht hi hz (some ⟨g,0,none⟩) n d xs (run_firstCells_some w.drew i.size n ⟨g,0,none⟩ n d xs hown.1 o) x m news hsrc qO qO (ZkB qO hbytes);exact ⟨_,_,q,⟨f d,(Yaa _ w).drew.alloc _,.inr ⟨w.heap.size,rfl,Yae _⟩⟩⟩
theorem Zbg {w:World} {F:Nat->Prop} {k:Nat} {tx e:TypeId} (ht:P.underlying tx=some (.slice e)) {A:Option Addr} {m c:Nat} {news:List Value} (h:Row w F k A m c news) (hone:∀ u∈news,u.oneCell'=true) :
 Src P k tx (.slice A m c) m news w:=by
 cases hA:A with
 | none =>
   have n:=h.nil hA;have f:=h.le;obtain rfl:m=0:=qO;obtain rfl:c=0:=qO;have g:news=[]:=Yco (by simpa using h.len);subst g;exact Src.ofNil w ht 0
 | some a =>
   obtain ⟨i,_,_,d⟩:=h.cell a hA;obtain ⟨b,o,s⟩:=a;subst i;exact Src.ofSlice w ht ⟨b,o,none⟩ m c news h.len (fun j u l=>by rw [Zfl];exact d j u l) hone
theorem ZtS {w:World} {o:Oper} {a:Act} {K:Act->World->Prop} {Q:Exit->Act->World->Prop} (s x:Operand) (t tx:TypeId)
 (ho:o.op=.call { callee:=.builtin .append,args:=#[s,x],argTypes:=#[t,tx] })
 (base:Nat) (e:TypeId) (k bytes:Nat) (z:Value) (ht:P.underlying t=some (.slice e)) (hi:(P.info? e).map (fun i=>(i.zero,i.size,i.bytes))=some (some z,k,bytes))
 (hzs:z.cells.size=k)
 (v:Value) (n:Nat) (xs:List Value) (hs:a.eval s=v) (hown:w.ownsRow base e k v n xs)
 {xv:Value} {m:Nat} {news:List Value} (hx:a.eval x=xv) (hsrc:Src P k tx xv m news w)
 (h63:n+m<=maxLen) (hbytes:(n+m+1000)*bytes<=211106232532992) (hbase:base<=w.heap.size)
 (h:∀ v' w',Grew w base e k v (n+m) (xs++news) v' w'->K (a.put o.dst v') w'):o.wp P a w K Q:=by
 obtain ⟨i,b,d,f,c⟩:=info_parts hi;clear hi;subst f;subst c;obtain ⟨v',w',g,j⟩:=Ziq (P:=P) w t tx o.type base e i z ht b d hzs v n xs hown xv m news hsrc h63 hbytes hbase;unfold Oper.wp execOp;simp only [ho,resolve,invoke,builtin,Sem.run_bind,Sem.run_pure,Result.andThen_ok,List.map_toArray,YaF,YcG,hs,hx,g];exact h v' w' j
theorem Zat {w:World} {ops:Array Oper} {rest:List Oper} {o:Oper} {a:Act} {Q:Exit->Act->World->Prop} (hgd:o.guard=none) (s x:Operand) (t tx:TypeId)
 (ho:o.op=.call { callee:=.builtin .append,args:=#[s,x],argTypes:=#[t,tx] })
 (base:Nat) (e:TypeId) (k bytes:Nat) (z:Value) (ht:P.underlying t=some (.slice e)) (hi:(P.info? e).map (fun i=>(i.zero,i.size,i.bytes))=some (some z,k,bytes))
 (hzs:z.cells.size=k)
 (v:Value) (n:Nat) (xs:List Value) (hs:a.eval s=v) (hown:w.ownsRow base e k v n xs)
 {xv:Value} {m:Nat} {news:List Value} (hx:a.eval x=xv) (hsrc:Src P k tx xv m news w)
 (h63:n+m<=maxLen) (hbytes:(n+m+1000)*bytes<=211106232532992) (hbase:base<=w.heap.size)
 (h:∀ v' w',Grew w base e k v (n+m) (xs++news) v' w'->wpList P ops Q rest (a.put o.dst v') w'):wpList P ops Q (o::rest) a w :=
 wpList_plain hgd fun _ b=>ZtS s x t tx ho base e k bytes z ht hi hzs v n xs hs hown hx hsrc h63 hbytes hbase fun v' w' c=>b _ _ (h v' w' c)
theorem Zfm {w:World} {ops:Array Oper} {o:Oper} {a:Act} {K:Act->World->Prop} {Q:Exit->Act->World->Prop} {E:Prop} (hgd:o.guard=none) (s x:Operand) (t tx:TypeId)
 (ho:o.op=.call { callee:=.builtin .append,args:=#[s,x],argTypes:=#[t,tx] })
 (base:Nat) (e:TypeId) (k bytes:Nat) (z:Value) (ht:P.underlying t=some (.slice e)) (hi:(P.info? e).map (fun i=>(i.zero,i.size,i.bytes))=some (some z,k,bytes))
 (hzs:z.cells.size=k)
 (v:Value) (n:Nat) (xs:List Value) (hs:a.eval s=v) (hown:w.ownsRow base e k v n xs)
 {xv:Value} {m:Nat} {news:List Value} (hx:a.eval x=xv) (hsrc:Src P k tx xv m news w)
 (h63:n+m<=maxLen) (hbytes:(n+m+1000)*bytes<=211106232532992) (hbase:base<=w.heap.size)
 (h:∀ v' w',Grew w base e k v (n+m) (xs++news) v' w'->K (a.put o.dst v') w') :
 if Region.wanted o (yielded ops a.tmps)=true then Oper.wp P o a w K Q else E:=by
 have b:Region.wanted o (yielded ops a.tmps)=true:=by simp [Region.wanted,hgd]
 rw [Yac b];exact ZtS s x t tx ho base e k bytes z ht hi hzs v n xs hs hown hx hsrc h63 hbytes hbase h
end
theorem Row.of_blk {w:World} {g:Nat} {t:TypeId} {cs:Array Value} {k n c:Nat} (h:Blk w g t cs) (hs:cs.size=n*k) (hn:n<=c) (hc:c<=maxLen):Row w (fun b=>b=g) k (some ⟨g,0,none⟩) n c cs.toList :=
 ⟨by simpa using hs,hn,hc,fun d=>by (cases d),fun a e=>by cases e;exact ⟨rfl,h.lt,rfl,fun i u f=>by rw [h.cell];simpa using f⟩⟩
abbrev Ycb:=@Row.of_blk
theorem Row.one (w:World) (t:TypeId) (u:Value):Row (w.alloc (.cells #[u] t)) (fun b=>b=w.heap.size) 1 (some ⟨w.heap.size,0,none⟩) 1 1 [u] :=
 Ycb (Yad w t #[u]) rfl (Yae _) (by simp [maxLen])
abbrev Ydh:=@Row.one
theorem Row.drew {w:World} {F:Nat->Prop} {k n c:Nat} {A:Option Addr} {xs:List Value} (h:Row w F k A n c xs):Row w.drew F k A n c xs:=⟨h.len,h.le,h.max,h.nil,h.cell⟩
section
variable {w w':World} {base:Nat} {e:TypeId} {k:Nat} {v:Value} {n:Nat} {xs:List Value} {v':Value}
theorem Zae {S:Nat->Prop} (h:w.ownsRow base e k v n xs) (hu:Upd S w w') (hs:∀ g,v.ownBlock=some g->¬ S g):w'.ownsRow base e k v n xs:=by
 refine ⟨h.1,?_⟩;rcases h.2 with f | ⟨g,a,b,c,i,d,r⟩
 · exact .inl f
 exact .inr ⟨g,a,b,c,i,(hu.block g (YaX.1 d).1 (hs g (by rw [c];rfl))).trans d,r⟩
theorem Zaa (h:w.ownsRow base e k v n xs) (hu:Same w w'):w'.ownsRow base e k v n xs:=Zae h hu fun _ _ f=>f
theorem ZaI (h:w.ownsRow base e k v n xs):∃ A m c,v=.slice A m c:=by
 rcases h.2 with ⟨a,f⟩ | ⟨g,b,d,a,_⟩
 · exact ⟨none,0,0,a⟩
 exact ⟨_,_,_,a⟩
theorem Zad (h:w.ownsRow base e k v n xs):∃ A c,v=.slice A n c:=by
 rcases h.2 with ⟨a,b⟩ | ⟨g,d,f,a,_⟩
 · exact ⟨none,0,by rw [a,b]⟩
 exact ⟨_,_,a⟩
theorem Zac {base':Nat} (h:w.ownsRow base e k v n xs) (hb:base'<=base):w.ownsRow base' e k v n xs:=by
 refine ⟨h.1,?_⟩;rcases h.2 with c | ⟨g,a,b,d,f,r⟩
 · exact .inl c
 exact .inr ⟨g,a,b,d,qO,r⟩
theorem Grew.size (h:Grew w base e k v n xs v' w'):w.heap.size<=w'.heap.size:=h.upd.size
theorem Grew.blk {g:Nat} {t:TypeId} {cs:Array Value} (h:Grew w base e k v n xs v' w') (hb:Blk w g t cs) (hne:v.ownBlock≠some g):Blk w' g t cs:=hb.upd h.upd fun e=>hne e
theorem Grew.refl (h:w.ownsRow base e k v n xs):Grew w base e k v n xs v w:=⟨h,Yaa _ _,.inl rfl⟩
theorem Grew.alloc (h:Grew w base e k v n xs v' w') (o:Obj):Grew w base e k v n xs v' (w'.alloc o):=⟨h.own.alloc o,h.upd.alloc o,h.block⟩
theorem Grew.trans {w1:World} {v1:Value} {n1:Nat} {xs1:List Value} (h:Grew w base e k v n1 xs1 v1 w1) (h':Grew w1 base e k v1 n xs v' w'):Grew w base e k v n xs v' w':=by
 refine ⟨h'.own,h.upd.trans h'.upd fun b i c=>?_,?_⟩
 · rcases h.block with d | ⟨g,f,a⟩
   · rw [<- d];exact c
   rw [f] at c;have:=Yax c;omega
 rcases h'.block with d | ⟨g,f,a⟩
 · rw [d];exact h.block
 exact .inr ⟨g,f,Yaj h.size a⟩
end
theorem ZbC {wr wa w1:World} {g i:Nat} {t e:TypeId} {cs:Array Value} {base k n0 n:Nat} {v v':Value} {xs0 xs:List Value} (kb:Blk wr g t cs) (hown:wr.ownsRow base e k v n0 xs0) (hne:e≠t)
 (hu:Same wr wa) (hg:Grew wa base e k v n xs v' w1) :
 Blk (w1.setCell ⟨g,i,none⟩ v') g t (cs.setIfInBounds i v')/\(w1.setCell ⟨g,i,none⟩ v').ownsRow base e k v' n xs/\Upd (fun b=>b=g\/v.ownBlock=some b) wr (w1.setCell ⟨g,i,none⟩ v'):=by
 have c:=hg.blk (kb.same hu) (kb.ne_own hown hne);refine ⟨c.put i v',Zae hg.own ((Yaa (fun b=>b=g) w1).put1 v') fun b h a=>c.ne_own hg.own hne (a ▸ h),?_⟩;have d:Upd (fun b=>b=g\/v.ownBlock=some b) wr wa:=hu.mono fun _ _ f=>f.elim;exact YdH (d.trans (hg.upd.mono (S':=fun b=>b=g\/v.ownBlock=some b) fun _ _ a=>.inr a) fun _ _ a=>a) (.inl rfl) v'
end
end Go.Proofs.YtmkjfhnlnhceiaaGreatDoor
