/- Texts that the claim leans on: walks and plain laws, function by function. -/
import Derived.WalkKit
import Derived.WalkSpells
import Derived.Laws.Rows
import Derived.Deep.Draws
import Derived.Deep.AppendLies
import Derived.Laws.AppendOwnNone
import Derived.Deep.AppendSrc
import Derived.Deep.DeepAppendWide
import Derived.RangeFuncNested
import Derived.RangeFuncBound
import Derived.RangeFuncCalls
import Derived.RangeFuncLeaves
import Derived.RangeFuncBox
set_option maxRecDepth 100000
set_option maxHeartbeats 16000000
namespace Go.Proofs.YtkopcinhbjimiaaGreatDoor
theorem qH {p:Prop} (h:p):RowKit.Hid p:=h
open Go.RowKit
structure Upd (S:Nat->Prop) (w w':World):Prop where
 os:w'.os=w.os
 tape:w'.tape=w.tape
 output:w'.output=w.output
 size:w.heap.size<=w'.heap.size
 block:∀ k,k<w.heap.size->¬ S k->w'.heap[k]?=w.heap[k]?
abbrev Same (w w':World):Prop:=Upd (fun _=>False) w w'
section upd
variable {S S':Nat->Prop} {w w1 w':World}
theorem Upd.refl (S:Nat->Prop) (w:World):Upd S w w:=⟨rfl,rfl,rfl,Nat.le_refl _,fun _ _ _=>rfl⟩
theorem Upd.mono (h:Upd S w w') (hs:∀ k,k<w.heap.size->S k->S' k):Upd S' w w' :=
 ⟨h.os,h.tape,h.output,h.size,fun k hk hn=>h.block k hk (fun hh=>hn (hs k hk hh))⟩
theorem Upd.trans (h:Upd S w w1) (h':Upd S' w1 w') (hs:∀ k,k<w.heap.size->S' k->S k):Upd S w w' :=
 ⟨h'.os.trans h.os,h'.tape.trans h.tape,h'.output.trans h.output,Nat.le_trans h.size h'.size,
  fun k hk hn=>(h'.block k (Nat.lt_of_lt_of_le hk h.size) (fun hh=>hn (hs k hk hh))).trans (h.block k hk hn)⟩
theorem Upd.same (h:Upd S w w1) (h':Same w1 w'):Upd S w w':=h.trans h' fun _ _ f=>f.elim
theorem Upd.drew (h:Upd S w w'):Upd S w w'.drew:=⟨h.os,h.tape,h.output,h.size,h.block⟩
theorem Upd.drewN (h:Upd S w w') (n:Nat):Upd S w (w'.drewN n):=⟨h.os,h.tape,h.output,h.size,h.block⟩
theorem Upd.alloc (h:Upd S w w') (o:Obj):Upd S w (w'.alloc o) :=
 ⟨h.os,h.tape,h.output,Nat.le_trans h.size (by simp),fun k hk hn=>(Below.heap_alloc w' o k (Nat.lt_of_lt_of_le hk h.size)).trans (h.block k hk hn)⟩
theorem Upd.setCell (h:Upd S w w') {p:Addr} (hp:S p.block\/w.heap.size<=p.block) (u:Value):Upd S w (w'.setCell p u) :=
 ⟨h.os,h.tape,h.output,by simpa [World.setCell] using h.size,fun k hk hn=>(Below.heap_setCell w' p u k (by
  rintro rfl
  rcases hp with hp | hp
  · exact hn hp
  omega)).trans (h.block k hk hn)⟩
theorem Upd.put {r i:Nat} (h:Upd S w w') (hr:S r) (u:Value):Upd S w (w'.setCell ⟨r,i,none⟩ u):=h.setCell (p:=⟨r,i,none⟩) (.inl hr) u
theorem Upd.put1 {r i:Nat} {w w':World} (h:Upd (fun b=>b=r) w w') (u:Value):Upd (fun b=>b=r) w (w'.setCell ⟨r,i,none⟩ u):=h.put rfl u
theorem Upd.putNew {r i:Nat} (h:Upd S w w') (hr:w.heap.size<=r) (u:Value):Upd S w (w'.setCell ⟨r,i,none⟩ u):=h.setCell (p:=⟨r,i,none⟩) (.inr hr) u
theorem Upd.grown (h:Upd S w w1) {row:Option Nat} (g:w1.grownBy w' row) (hr:∀ k,row=some k->S k\/w.heap.size<=k):Upd S w w' :=
 ⟨g.os.trans h.os,g.tape.trans h.tape,g.output.trans h.output,Nat.le_trans h.size g.size,
  fun k hk hn=>(g.block k (Nat.lt_of_lt_of_le hk h.size) (fun e=>by
   rcases hr k e.symm with hh | hh
   · exact hn hh
   omega)).trans (h.block k hk hn)⟩
theorem Upd.cell (h:Upd S w w') {p:Addr} (hp:p.block<w.heap.size) (hs:¬ S p.block):w'.cell? p=w.cell? p:=World.cell?_of_block (w:=w) (h.block _ hp hs)
theorem Upd.frozen (h:Upd S w w') {p:Addr} (hp:p.block<w.heap.size) (hs:¬ S p.block):w'.frozen? p=w.frozen? p:=World.frozen?_of_block (w:=w) (h.block _ hp hs)
theorem Upd.below {B:Nat} (h:Upd S w w') (hB:B<=w.heap.size) (hs:∀ k,k<B->¬ S k):Below B w w' :=
 ⟨h.os,h.tape,h.output,h.size,fun k hk=>h.block k (by omega) (hs k hk)⟩
theorem Same.below (h:Same w w'):Below w.heap.size w w':=Upd.below h (Nat.le_refl _) fun _ _ f=>f
theorem Same.of_below (h:Below w.heap.size w w'):Same w w':=⟨h.os,h.tape,h.output,h.size,fun k hk _=>h.block k hk⟩
end upd
def Blk (w:World) (g:Nat) (t:TypeId) (cs:Array Value):Prop:=w.heap[g]?=some (.cells cs t (0,0))
section blk
variable {w w':World} {g:Nat} {t:TypeId} {cs:Array Value}
theorem Blk.lt (h:Blk w g t cs):g<w.heap.size:=(Array.getElem?_eq_some_iff.1 h).1
theorem Blk.cell (h:Blk w g t cs) (i:Nat):w.cell? ⟨g,i,none⟩=cs[i]?:=cell_of_row w g i cs t (0,0) h
theorem Blk.frozen (h:Blk w g t cs) (i:Nat):w.frozen? ⟨g,i,none⟩=false:=by
 have h':w.heap[g]?=some (.cells cs t (0,0)):=h
 simp [World.frozen?,h']
theorem Blk.new (w:World) (t:TypeId) (cs:Array Value):Blk (w.alloc (.cells cs t)) w.heap.size t cs:=heap_alloc_new w _
theorem Blk.drew (h:Blk w g t cs):Blk w.drew g t cs:=h
theorem Blk.alloc (h:Blk w g t cs) (o:Obj):Blk (w.alloc o) g t cs:=(Below.heap_alloc w o g h.lt).trans h
theorem Blk.put (h:Blk w g t cs) (i:Nat) (u:Value):Blk (w.setCell ⟨g,i,none⟩ u) g t (cs.setIfInBounds i u):=by
 have h':w.heap[g]?=some (.cells cs t (0,0)):=h
 show (w.setCell ⟨g,i,none⟩ u).heap[g]?=_
 simp [World.setCell,Array.getElem?_modify,h']
theorem Blk.far (h:Blk w g t cs) {p:Addr} (hp:g≠p.block) (u:Value):Blk (w.setCell p u) g t cs:=(Below.heap_setCell w p u g hp).trans h
theorem Blk.upd {S:Nat->Prop} (h:Blk w g t cs) (hu:Upd S w w') (hs:¬ S g):Blk w' g t cs:=(hu.block g h.lt hs).trans h
theorem Blk.same (h:Blk w g t cs) (hu:Same w w'):Blk w' g t cs:=h.upd hu fun f=>f
theorem Blk.ne_own {base:Nat} {e:TypeId} {size n:Nat} {v:Value} {xs:List Value} (h:Blk w g t cs) (ho:w.ownsRow base e size v n xs) (hne:e≠t):v.ownBlock≠some g:=by
 rcases ho.2 with ⟨rfl,_⟩ | ⟨g',cap,cur,rfl,_,hh,_⟩
 · simp [Value.ownBlock]
 intro he
 obtain rfl:g'=g:=by simpa [Value.ownBlock] using he
 have h':w.heap[g']?=some (.cells cs t (0,0)):=h
 rw [hh] at h'
 injection h' with h'
 injection h' with _ ht
 exact hne ht
end blk
structure Row (w:World) (F:Nat->Prop) (k:Nat) (A:Option Addr) (n c:Nat) (xs:List Value):Prop where
 len:xs.length=n*k
 le:n<=c
 max:c<=maxLen
 nil:A=none->c=0
 cell:∀ a,A=some a->a.spot=none/\a.block<w.heap.size/\F a.block/\∀ i u,xs[i]?=some u->w.cell? ⟨a.block,a.off+i,none⟩=some u
section row
variable {w w':World} {F F':Nat->Prop} {k n c:Nat} {A:Option Addr} {xs:List Value}
theorem Row.nil_ (w:World) (F:Nat->Prop) (k:Nat):Row w F k none 0 0 []:=⟨by simp,Nat.le_refl _,Nat.zero_le _,fun _=>rfl,fun _ h=>by cases h⟩
theorem Row.upd {S:Nat->Prop} (h:Row w F k A n c xs) (hu:Upd S w w') (hs:∀ b,F b->¬ S b):Row w' F k A n c xs :=
 ⟨h.len,h.le,h.max,h.nil,fun a ha=>by
  obtain ⟨h1,h2,h3,h4⟩:=h.cell a ha
  exact ⟨h1,Nat.lt_of_lt_of_le h2 hu.size,h3,fun i u hi=>(hu.cell (p:=⟨a.block,a.off+i,Option.none⟩) h2 (hs _ h3)).trans (h4 i u hi)⟩⟩
theorem Row.same (h:Row w F k A n c xs) (hu:Same w w'):Row w' F k A n c xs:=h.upd hu fun _ _ f=>f
theorem Row.mono (h:Row w F k A n c xs) (hf:∀ b,b<w.heap.size->F b->F' b):Row w F' k A n c xs :=
 ⟨h.len,h.le,h.max,h.nil,fun a ha=>by
  obtain ⟨h1,h2,h3,h4⟩:=h.cell a ha
  exact ⟨h1,h2,hf _ h2 h3,h4⟩⟩
theorem Row.at_ (h:Row w F 1 A n c xs) {i:Nat} (hi:i<n):∃ b o u,A=some ⟨b,o,Option.none⟩/\b<w.heap.size/\F b/\xs[i]?=some u/\w.cell? ⟨b,o+i,Option.none⟩=some u:=by
 have hl:i<xs.length:=by have:=h.len;omega
 cases hA:A with
 | none=>have:=h.nil hA;have:=h.le;omega
 | some a =>
   obtain ⟨h1,h2,h3,h4⟩:=h.cell a hA
   obtain ⟨b,o,s⟩:=a
   subst h1
   exact ⟨b,o,xs[i],rfl,h2,h3,List.getElem?_eq_getElem hl,h4 i _ (List.getElem?_eq_getElem hl)⟩
theorem Row.atK (h:Row w F k A n c xs) {i:Nat} (hi:i<n):∃ b o,A=some ⟨b,o,Option.none⟩/\b<w.heap.size/\F b/\∀ j,j<k->∃ u,xs[i*k+j]?=some u/\w.cell? ⟨b,o+(i*k+j),Option.none⟩=some u:=by
 cases hA:A with
 | none=>have:=h.nil hA;have:=h.le;omega
 | some a =>
   obtain ⟨h1,h2,h3,h4⟩:=h.cell a hA
   obtain ⟨b,o,s⟩:=a
   subst h1
   refine ⟨b,o,rfl,h2,h3,fun j hj=>?_⟩
   have hl:i*k+j<xs.length:=by
    rw [h.len]
    have h5:(i+1)*k<=n*k:=Nat.mul_le_mul_right k hi
    rw [Nat.succ_mul] at h5
    omega
   exact ⟨xs[i*k+j],List.getElem?_eq_getElem hl,h4 _ _ (List.getElem?_eq_getElem hl)⟩
theorem Row.of_own {base:Nat} {e:TypeId} (h:w.ownsRow base e k (.slice A n c) n xs):Row w (fun b=>A=some ⟨b,0,Option.none⟩/\base<=b) k A n c xs:=by
 rcases h.2 with ⟨hv,hn⟩ | ⟨g,cap,cur,hv,hb,hg,hle,hm,hs,ht⟩
 · injection hv with h1 h2 h3
   subst h1;subst h3;subst hn
   exact ⟨h.1,Nat.le_refl _,Nat.zero_le _,fun _=>rfl,fun a ha=>by cases ha⟩
 injection hv with h1 h2 h3
 subst h1;subst h3
 refine ⟨h.1,hle,hm,fun hh=>by (cases hh),fun a ha=>?_⟩
 cases ha
 refine ⟨rfl,(Array.getElem?_eq_some_iff.1 hg).1,⟨rfl,hb⟩,fun i u hi=>?_⟩
 have hc:=h.cells (g:=g) rfl i u hi
 have hadd:(⟨g,0,Option.none⟩:Addr).add i=⟨g,0+i,Option.none⟩:=by
  unfold Addr.add;split <;> simp_all
 rwa [hadd] at hc
theorem Row.cut (h:Row w F k A n c xs) {j m:Nat} (hj:j<=m) (hm:m<=n) :
 Row w F k (if c=j then A else A.map (·.add (j*k))) (m-j) (c-j) ((xs.drop (j*k)).take ((m-j)*k)):=by
 have hle:=h.le
 have hmul:m*k<=n*k:=Nat.mul_le_mul_right k hm
 have hmj:(m-j)*k=m*k-j*k:=Nat.sub_mul m j k
 refine ⟨?_,by omega,by have:=h.max;omega,fun hn=>?_,fun a ha=>?_⟩
 · rw [List.length_take,List.length_drop,h.len]
   omega
 · split at hn
   · omega
   cases hA:A with
   | none=>have:=h.nil hA;omega
   | some a=>rw [hA] at hn;cases hn
 split at ha
 · rename_i hc
   obtain ⟨h1,h2,h3,h4⟩:=h.cell a ha
   refine ⟨h1,h2,h3,fun i u hi=>?_⟩
   have hz:(m-j)*k=0:=by
    have:m-j=0:=by omega
    rw [this];simp
   rw [hz] at hi
   simp at hi
 cases hA:A with
 | none=>rw [hA] at ha;cases ha
 | some a0 =>
   rw [hA] at ha
   obtain ⟨h1,h2,h3,h4⟩:=h.cell a0 hA
   obtain ⟨b,o,s⟩:=a0
   subst h1
   have hadd:(⟨b,o,Option.none⟩:Addr).add (j*k)=⟨b,o+j*k,Option.none⟩:=by
    unfold Addr.add;split <;> simp_all
   simp only [Option.map_some,Option.some.injEq,hadd] at ha
   subst ha
   refine ⟨rfl,h2,h3,fun i u hi=>?_⟩
   rw [List.getElem?_take] at hi
   split at hi
   · rw [List.getElem?_drop] at hi
     have:=h4 _ _ hi
     simpa [Nat.add_assoc] using this
   cases hi
structure WRow (w:World) (F:Nat->Prop) (k:Nat) (A:Option Addr) (n c:Nat) (xs:List Value):Prop where
 len:xs.length=n*k
 le:n<=c
 max:c<=maxLen
 nil:A=none->c=0
 row:0<n->Row w F k A n c xs
theorem Row.weak (h:Row w F k A n c xs):WRow w F k A n c xs:=⟨h.len,h.le,h.max,h.nil,fun _=>h⟩
theorem WRow.upd {S:Nat->Prop} (h:WRow w F k A n c xs) (hu:Upd S w w') (hs:∀ b,F b->¬ S b):WRow w' F k A n c xs:=⟨h.len,h.le,h.max,h.nil,fun h0=>(h.row h0).upd hu hs⟩
theorem WRow.same (h:WRow w F k A n c xs) (hu:Same w w'):WRow w' F k A n c xs:=h.upd hu fun _ _ f=>f
theorem WRow.mono (h:WRow w F k A n c xs) (hf:∀ b,b<w.heap.size->F b->F' b):WRow w F' k A n c xs:=⟨h.len,h.le,h.max,h.nil,fun h0=>(h.row h0).mono hf⟩
theorem WRow.at_ (h:WRow w F 1 A n c xs) {i:Nat} (hi:i<n):∃ b o u,A=some ⟨b,o,Option.none⟩/\b<w.heap.size/\F b/\xs[i]?=some u/\w.cell? ⟨b,o+i,Option.none⟩=some u:=(h.row (by omega)).at_ hi
end row
abbrev u8v (x:UInt8):Value:=.int .u8 (x.toNat:Int)
def Bytes (w:World) (F:Nat->Prop) (A:Option Addr) (n c:Nat) (bs:List UInt8):Prop:=Row w F 1 A n c (bs.map u8v)
section bytes
variable {w w':World} {F F':Nat->Prop} {n c:Nat} {A:Option Addr} {bs:List UInt8}
theorem Bytes.len (h:Bytes w F A n c bs):bs.length=n:=by have:=Row.len h;simpa using this
theorem Bytes.nil_ (w:World) (F:Nat->Prop):Bytes w F Option.none 0 0 []:=Row.nil_ w F 1
theorem Bytes.upd {S:Nat->Prop} (h:Bytes w F A n c bs) (hu:Upd S w w') (hs:∀ b,F b->¬ S b):Bytes w' F A n c bs:=Row.upd h hu hs
theorem Bytes.same (h:Bytes w F A n c bs) (hu:Same w w'):Bytes w' F A n c bs:=Row.same h hu
theorem Bytes.mono (h:Bytes w F A n c bs) (hf:∀ b,b<w.heap.size->F b->F' b):Bytes w F' A n c bs:=Row.mono h hf
theorem Bytes.at_ (h:Bytes w F A n c bs) {i:Nat} (hi:i<n):∃ b o,A=some ⟨b,o,Option.none⟩/\b<w.heap.size/\F b/\w.cell? ⟨b,o+i,Option.none⟩=some (.int .u8 ((bs[i]'(by rw [h.len];exact hi)).toNat:Int)):=by
 obtain ⟨b,o,u,h1,h2,h3,h4,h5⟩:=Row.at_ h hi
 refine ⟨b,o,h1,h2,h3,?_⟩
 have hl:i<bs.length:=by rw [h.len];exact hi
 rw [h5]
 rw [List.getElem?_map,List.getElem?_eq_getElem hl] at h4
 simpa using h4.symm
theorem Bytes.cut (h:Bytes w F A n c bs) {j m:Nat} (hj:j<=m) (hm:m<=n):Bytes w F (if c=j then A else A.map (·.add j)) (m-j) (c-j) ((bs.drop j).take (m-j)):=by
 have:=Row.cut h hj hm
 simpa [Bytes,List.map_take,List.map_drop] using this
theorem Bytes.rest (h:Bytes w F A n c bs) {j:Nat} (hj:j<=n):Bytes w F (if c=j then A else A.map (·.add j)) (n-j) (c-j) (bs.drop j):=by
 have:=h.cut hj (Nat.le_refl n)
 rwa [List.take_of_length_le (by rw [List.length_drop,h.len];exact Nat.le_refl _)] at this
theorem Bytes.head (h:Bytes w F A n c bs) {m:Nat} (hm:m<=n):Bytes w F A m c (bs.take m):=by
 have:=h.cut (Nat.zero_le m) hm
 simp only [List.drop_zero,Nat.sub_zero] at this
 split at this
 · exact this
 cases A with
 | none=>simpa using this
 | some a=>simpa [Addr.add] using this
end bytes
theorem ZcC (bs:List UInt8):∀ u∈bs.map u8v,u.oneCell'=true:=by
 intro u hu
 obtain ⟨_,_,rfl⟩:=List.mem_map.1 hu
 rfl
theorem Zcm (b o j:Nat):(⟨b,o,none⟩:Addr).add j=⟨b,o+j,none⟩:=by
 unfold Addr.add;split <;> simp_all
theorem ZfY {need old bytes:Nat} (h:old<need) (hb:(need+1000)*bytes<=211106232532992):Builtin.nextslicecap need old*bytes<=281474976710656:=by
 refine growslice_fits_wide h ?_
 have h1:(4*(need+need / 4+192))*bytes<=(5*(need+1000))*bytes:=Nat.mul_le_mul_right _ (by omega)
 rw [Nat.mul_assoc,Nat.mul_assoc] at h1
 omega
structure Grew (w:World) (base:Nat) (e:TypeId) (k:Nat) (v:Value) (n:Nat) (xs:List Value) (v':Value) (w':World):Prop where
 own:w'.ownsRow base e k v' n xs
 upd:Upd (fun b=>v.ownBlock=some b) w w'
 block:v'.ownBlock=v.ownBlock\/∃ g,v'.ownBlock=some g/\w.heap.size<=g
section
variable {P:Program}
theorem Zgh (w:World) (t tx ty:TypeId) (base:Nat) (e:TypeId) (i:TypeInfo) (z:Value) (ht:P.underlying t=some (.slice e)) (hi:P.info? e=some i) (hz:i.zero=some z)
 (hzs:z.cells.size=i.size) (v:Value) (n:Nat) (xs:List Value) (hown:w.ownsRow base e i.size v n xs)
 (x:Value) (m:Nat) (news:List Value) (hsrc:Src P i.size tx x m news w)
 (h63:n+m<=maxLen) (hbytes:(n+m+1000)*i.bytes<=211106232532992) (hbase:base<=w.heap.size) :
 ∃ v' w',(Builtin.append_ #[t,tx] ty #[v,x]).run P w=.ok v' w'/\Grew w base e i.size v (n+m) (xs++news) v' w':=by
 have hsmall:n+m<=9223372036854775807:=by simp only [maxLen] at h63;omega
 have hlen:(xs++news).length=(n+m)*i.size:=by rw [List.length_append,hown.1,hsrc.newsLen,Nat.add_mul]
 have fresh:∀ (old:Nat),(w.drew.alloc (.cells ((xs++news).toArray++Builtin.zeroCells z.cells (grownCap w (n+m) old e-(n+m))) e)).ownsRow base e i.size
  (.slice (some ⟨w.heap.size,0,none⟩) (n+m) (grownCap w (n+m) old e)) (n+m) (xs++news):=by
  intro old
  have hge:=grownCap_ge w (n+m) old e
  have hcm:=grownCap_le_maxLen w (n+m) old e h63
  refine ⟨hlen,.inr ⟨w.heap.size,_,_,rfl,hbase,heap_alloc_new w.drew _,hge,hcm,?_,?_⟩⟩
  · rw [Array.size_append,size_zeroCells,hzs,List.size_toArray,hlen,<-Nat.add_mul]
    congr 1
    omega
  rw [Array.toList_append,<-hlen]
  exact List.take_left
 rcases hown.2 with ⟨rfl,rfl⟩ | ⟨g,cap,cur,rfl,hbg,hg,hnc,hcm,hcs,htake⟩
 · have hx:xs=[]:=List.eq_nil_of_length_eq_zero (by simpa using hown.1)
   subst hx
   by_cases hm:m=0
   · subst hm
     have hn:news=[]:=List.eq_nil_of_length_eq_zero (by simpa using hsrc.newsLen)
     subst hn
     refine ⟨.slice none 0 0,w,?_,⟨World.ownsRow_nil w base e i.size,Upd.refl _ _,.inl rfl⟩⟩
     rcases hsrc.kind with ⟨e',hk⟩ | hk <;> simp [Builtin.append_,run_underlying ht,run_underlying hk,sizeOf,typeInfo,hi,hsrc.len,hsrc.cells]
   have hr:=run_append_grow_src (P:=P) w t tx ty e i z ht hi hz none 0 0 [] (by simpa using run_firstCells_none w.drew i.size 0 0 0) x m news hsrc (by omega) (by omega) (ZfY (by omega) hbytes)
   exact ⟨_,_,hr,⟨fresh 0,(Upd.refl _ w).drew.alloc _,.inr ⟨w.heap.size,rfl,Nat.le_refl _⟩⟩⟩
 by_cases hroom:n+m<=cap
 · have hfit:n*i.size+news.length<=cur.size:=by rw [hsrc.newsLen,hcs,<-Nat.add_mul];exact Nat.mul_le_mul_right _ hroom
   have hst:=run_storeCells_at P g (n*i.size) e news 0 cur w hg (by simpa using hfit) hsrc.one
   simp only [Nat.add_zero] at hst
   have hr:(Builtin.append_ #[t,tx] ty #[.slice (some ⟨g,0,none⟩) n cap,x]).run P w=.ok (.slice (some ⟨g,0,none⟩) (n+m) cap) (w.setRow g (cur.toList.take (n*i.size)++news++cur.toList.drop (n*i.size+news.length)).toArray):=by
    rcases hsrc.kind with ⟨e',hk⟩ | hk <;> simp [Builtin.append_,run_underlying ht,run_underlying hk,sizeOf,typeInfo,hi,hsrc.len,hroom,hsrc.cells,Addr.add_lit,hst]
   refine ⟨_,_,hr,⟨⟨hlen,.inr ⟨g,cap,_,rfl,hbg,setRow_heap w g cur _ e _ hg,hroom,hcm,?_,?_⟩⟩,⟨rfl,rfl,rfl,by simp,fun b _ hb=>setRow_other w g b _ (fun e=>hb (by simp [Value.ownBlock,e]))⟩,.inl rfl⟩⟩
   · simp only [List.size_toArray,List.length_append,List.length_take,List.length_drop,Array.length_toList]
     omega
   rw [htake,<-hlen]
   exact List.take_left
 have holds:∀ j u,xs[j]?=some u->w.drew.cell? ((⟨g,0,none⟩:Addr).add j)=some u:=hown.cells (g:=g) rfl
 have hr:=run_append_grow_src (P:=P) w t tx ty e i z ht hi hz (some ⟨g,0,none⟩) n cap xs (run_firstCells_some w.drew i.size n ⟨g,0,none⟩ n cap xs hown.1 holds) x m news hsrc (by omega) (by omega) (ZfY (by omega) hbytes)
 exact ⟨_,_,hr,⟨fresh cap,(Upd.refl _ w).drew.alloc _,.inr ⟨w.heap.size,rfl,Nat.le_refl _⟩⟩⟩
theorem Zal {w:World} {F:Nat->Prop} {k:Nat} {tx e:TypeId} (ht:P.underlying tx=some (.slice e)) {A:Option Addr} {m c:Nat} {news:List Value} (h:Row w F k A m c news) (hone:∀ u∈news,u.oneCell'=true) :
 Src P k tx (.slice A m c) m news w:=by
 cases hA:A with
 | none =>
   have hc:=h.nil hA
   have hle:=h.le
   obtain rfl:m=0:=by omega
   obtain rfl:c=0:=by omega
   have hn:news=[]:=List.eq_nil_of_length_eq_zero (by simpa using h.len)
   subst hn
   exact Src.ofNil w ht 0
 | some a =>
   obtain ⟨hs,_,_,hcell⟩:=h.cell a hA
   obtain ⟨b,o,s⟩:=a
   subst hs
   exact Src.ofSlice w ht ⟨b,o,none⟩ m c news h.len (fun j u hu=>by rw [Zcm];exact hcell j u hu) hone
theorem ZmG {w:World} {o:Oper} {a:Act} {K:Act->World->Prop} {Q:Exit->Act->World->Prop} (s x:Operand) (t tx:TypeId)
 (ho:o.op=.call { callee:=.builtin .append,args:=#[s,x],argTypes:=#[t,tx] })
 (base:Nat) (e:TypeId) (k bytes:Nat) (z:Value) (ht:P.underlying t=some (.slice e)) (hi:(P.info? e).map (fun i=>(i.zero,i.size,i.bytes))=some (some z,k,bytes))
 (hzs:z.cells.size=k)
 (v:Value) (n:Nat) (xs:List Value) (hs:a.eval s=v) (hown:w.ownsRow base e k v n xs)
 {xv:Value} {m:Nat} {news:List Value} (hx:a.eval x=xv) (hsrc:Src P k tx xv m news w)
 (h63:n+m<=maxLen) (hbytes:(n+m+1000)*bytes<=211106232532992) (hbase:base<=w.heap.size)
 (h:∀ v' w',Grew w base e k v (n+m) (xs++news) v' w'->K (a.put o.dst v') w'):o.wp P a w K Q:=by
 obtain ⟨i,hi',hz,hk,hby⟩:=info_parts hi
 clear hi
 subst hk
 subst hby
 obtain ⟨v',w',hr,h2⟩:=Zgh (P:=P) w t tx o.type base e i z ht hi' hz hzs v n xs hown xv m news hsrc h63 hbytes hbase
 unfold Oper.wp execOp
 simp only [ho,resolve,invoke,builtin,Sem.run_bind,Sem.run_pure,Result.andThen_ok,List.map_toArray,List.map_cons,List.map_nil,hs,hx,hr]
 exact h v' w' h2
theorem Zag {w:World} {ops:Array Oper} {rest:List Oper} {o:Oper} {a:Act} {Q:Exit->Act->World->Prop} (hgd:o.guard=none) (s x:Operand) (t tx:TypeId)
 (ho:o.op=.call { callee:=.builtin .append,args:=#[s,x],argTypes:=#[t,tx] })
 (base:Nat) (e:TypeId) (k bytes:Nat) (z:Value) (ht:P.underlying t=some (.slice e)) (hi:(P.info? e).map (fun i=>(i.zero,i.size,i.bytes))=some (some z,k,bytes))
 (hzs:z.cells.size=k)
 (v:Value) (n:Nat) (xs:List Value) (hs:a.eval s=v) (hown:w.ownsRow base e k v n xs)
 {xv:Value} {m:Nat} {news:List Value} (hx:a.eval x=xv) (hsrc:Src P k tx xv m news w)
 (h63:n+m<=maxLen) (hbytes:(n+m+1000)*bytes<=211106232532992) (hbase:base<=w.heap.size)
 (h:∀ v' w',Grew w base e k v (n+m) (xs++news) v' w'->wpList P ops Q rest (a.put o.dst v') w'):wpList P ops Q (o::rest) a w :=
 wpList_plain hgd fun _ hK=>ZmG s x t tx ho base e k bytes z ht hi hzs v n xs hs hown hx hsrc h63 hbytes hbase fun v' w' h'=>hK _ _ (h v' w' h')
theorem ZbP {w:World} {ops:Array Oper} {o:Oper} {a:Act} {K:Act->World->Prop} {Q:Exit->Act->World->Prop} {E:Prop} (hgd:o.guard=none) (s x:Operand) (t tx:TypeId)
 (ho:o.op=.call { callee:=.builtin .append,args:=#[s,x],argTypes:=#[t,tx] })
 (base:Nat) (e:TypeId) (k bytes:Nat) (z:Value) (ht:P.underlying t=some (.slice e)) (hi:(P.info? e).map (fun i=>(i.zero,i.size,i.bytes))=some (some z,k,bytes))
 (hzs:z.cells.size=k)
 (v:Value) (n:Nat) (xs:List Value) (hs:a.eval s=v) (hown:w.ownsRow base e k v n xs)
 {xv:Value} {m:Nat} {news:List Value} (hx:a.eval x=xv) (hsrc:Src P k tx xv m news w)
 (h63:n+m<=maxLen) (hbytes:(n+m+1000)*bytes<=211106232532992) (hbase:base<=w.heap.size)
 (h:∀ v' w',Grew w base e k v (n+m) (xs++news) v' w'->K (a.put o.dst v') w') :
 if Region.wanted o (yielded ops a.tmps)=true then Oper.wp P o a w K Q else E:=by
 have hw:Region.wanted o (yielded ops a.tmps)=true:=by simp [Region.wanted,hgd]
 rw [if_pos hw]
 exact ZmG s x t tx ho base e k bytes z ht hi hzs v n xs hs hown hx hsrc h63 hbytes hbase h
end
theorem Row.of_blk {w:World} {g:Nat} {t:TypeId} {cs:Array Value} {k n c:Nat} (h:Blk w g t cs) (hs:cs.size=n*k) (hn:n<=c) (hc:c<=maxLen):Row w (fun b=>b=g) k (some ⟨g,0,none⟩) n c cs.toList :=
 ⟨by simpa using hs,hn,hc,fun hh=>by (cases hh),fun a ha=>by
  cases ha
  exact ⟨rfl,h.lt,rfl,fun i u hi=>by rw [h.cell];simpa using hi⟩⟩
theorem Row.one (w:World) (t:TypeId) (u:Value):Row (w.alloc (.cells #[u] t)) (fun b=>b=w.heap.size) 1 (some ⟨w.heap.size,0,none⟩) 1 1 [u] :=
 Row.of_blk (Blk.new w t #[u]) rfl (Nat.le_refl _) (by simp [maxLen])
theorem Row.drew {w:World} {F:Nat->Prop} {k n c:Nat} {A:Option Addr} {xs:List Value} (h:Row w F k A n c xs):Row w.drew F k A n c xs:=⟨h.len,h.le,h.max,h.nil,h.cell⟩
section
variable {w w':World} {base:Nat} {e:TypeId} {k:Nat} {v:Value} {n:Nat} {xs:List Value} {v':Value}
theorem Zam {S:Nat->Prop} (h:w.ownsRow base e k v n xs) (hu:Upd S w w') (hs:∀ g,v.ownBlock=some g->¬ S g):w'.ownsRow base e k v n xs:=by
 refine ⟨h.1,?_⟩
 rcases h.2 with hh | ⟨g,cap,cur,hv,hb,hg,r⟩
 · exact .inl hh
 exact .inr ⟨g,cap,cur,hv,hb,(hu.block g (Array.getElem?_eq_some_iff.1 hg).1 (hs g (by rw [hv];rfl))).trans hg,r⟩
theorem Zaa (h:w.ownsRow base e k v n xs) (hu:Same w w'):w'.ownsRow base e k v n xs:=Zam h hu fun _ _ f=>f
theorem Zav (h:w.ownsRow base e k v n xs):∃ A m c,v=.slice A m c:=by
 rcases h.2 with ⟨hv,hn⟩ | ⟨g,cap,cur,hv,_⟩
 · exact ⟨none,0,0,hv⟩
 exact ⟨_,_,_,hv⟩
theorem Zac (h:w.ownsRow base e k v n xs):∃ A c,v=.slice A n c:=by
 rcases h.2 with ⟨hv,hn⟩ | ⟨g,cap,cur,hv,_⟩
 · exact ⟨none,0,by rw [hv,hn]⟩
 exact ⟨_,_,hv⟩
theorem Zad {base':Nat} (h:w.ownsRow base e k v n xs) (hb:base'<=base):w.ownsRow base' e k v n xs:=by
 refine ⟨h.1,?_⟩
 rcases h.2 with hh | ⟨g,cap,cur,hv,hg,r⟩
 · exact .inl hh
 exact .inr ⟨g,cap,cur,hv,by omega,r⟩
theorem Grew.size (h:Grew w base e k v n xs v' w'):w.heap.size<=w'.heap.size:=h.upd.size
theorem Grew.blk {g:Nat} {t:TypeId} {cs:Array Value} (h:Grew w base e k v n xs v' w') (hb:Blk w g t cs) (hne:v.ownBlock≠some g):Blk w' g t cs:=hb.upd h.upd fun e=>hne e
theorem Grew.refl (h:w.ownsRow base e k v n xs):Grew w base e k v n xs v w:=⟨h,Upd.refl _ _,.inl rfl⟩
theorem Grew.alloc (h:Grew w base e k v n xs v' w') (o:Obj):Grew w base e k v n xs v' (w'.alloc o):=⟨h.own.alloc o,h.upd.alloc o,h.block⟩
theorem Grew.trans {w1:World} {v1:Value} {n1:Nat} {xs1:List Value} (h:Grew w base e k v n1 xs1 v1 w1) (h':Grew w1 base e k v1 n xs v' w'):Grew w base e k v n xs v' w':=by
 refine ⟨h'.own,h.upd.trans h'.upd fun b hb hv=>?_,?_⟩
 · rcases h.block with hh | ⟨g,hg,hle⟩
   · rw [<- hh];exact hv
   rw [hg] at hv
   have:=Option.some.inj hv
   omega
 rcases h'.block with hh | ⟨g,hg,hle⟩
 · rw [hh];exact h.block
 exact .inr ⟨g,hg,Nat.le_trans h.size hle⟩
end
theorem Zco {wr wa w1:World} {g i:Nat} {t e:TypeId} {cs:Array Value} {base k n0 n:Nat} {v v':Value} {xs0 xs:List Value} (kb:Blk wr g t cs) (hown:wr.ownsRow base e k v n0 xs0) (hne:e≠t)
 (hu:Same wr wa) (hg:Grew wa base e k v n xs v' w1) :
 Blk (w1.setCell ⟨g,i,none⟩ v') g t (cs.setIfInBounds i v')/\(w1.setCell ⟨g,i,none⟩ v').ownsRow base e k v' n xs/\Upd (fun b=>b=g\/v.ownBlock=some b) wr (w1.setCell ⟨g,i,none⟩ v'):=by
 have h1:=hg.blk (kb.same hu) (kb.ne_own hown hne)
 refine ⟨h1.put i v',Zam hg.own ((Upd.refl (fun b=>b=g) w1).put1 v') fun b hb hh=>h1.ne_own hg.own hne (hh ▸ hb),?_⟩
 have h2:Upd (fun b=>b=g\/v.ownBlock=some b) wr wa:=hu.mono fun _ _ f=>f.elim
 exact Upd.put (h2.trans (hg.upd.mono (S':=fun b=>b=g\/v.ownBlock=some b) fun _ _ hh=>.inr hh) fun _ _ hh=>hh) (.inl rfl) v'
theorem ZlX {w:World} {base base' k k' n n':Nat} {e e':TypeId} {v v':Value} {xs xs':List Value} (h:w.ownsRow base e k v n xs) (h':w.ownsRow base' e' k' v' n' xs') (hne:e≠e'):∀ g,v.ownBlock=some g->v'.ownBlock≠some g:=by
 intro g hg hg'
 rcases h.2 with ⟨rfl,_⟩ | ⟨b,cap,cur,rfl,_,hh,_⟩
 · simp [Value.ownBlock] at hg
 rcases h'.2 with ⟨rfl,_⟩ | ⟨b',cap',cur',rfl,_,hh',_⟩
 · simp [Value.ownBlock] at hg'
 obtain rfl:b=g:=by simpa [Value.ownBlock] using hg
 obtain rfl:b'=b:=by simpa [Value.ownBlock] using hg'
 rw [hh] at hh'
 injection hh' with hh'
 injection hh' with _ ht
 exact hne ht
def ZaD (T:TypeId->Prop) (B:Nat) (W:World) (k:Nat):Prop:=B<=k/\∃ o,W.heap[k]?=some o/\(o.isCells=false\/∃ cs t fr,o=.cells cs t fr/\T t)
def AbR {β:Type} (T:TypeId->Prop) (B:Nat) (J:β->World->Prop):Prop:=∀ s W W',J s W->Upd (ZaD T B W) W W'->J s W'
theorem ZaD.mono {T T':TypeId->Prop} {B B':Nat} {W:World} {k:Nat} (h:ZaD T B W k) (hB:B'<=B) (hT:∀ t,T t->T' t):ZaD T' B' W k:=by
 obtain ⟨h1,o,h2,h3⟩:=h
 exact ⟨by omega,o,h2,h3.imp id fun ⟨cs,t,fr,h4,h5⟩=>⟨cs,t,fr,h4,hT _ h5⟩⟩
theorem ZaD.nc {T:TypeId->Prop} {B:Nat} {W:World} {k:Nat} {o:Obj} (h:W.heap[k]?=some o) (ho:o.isCells=false) (hB:B<=k):ZaD T B W k:=⟨hB,o,h,.inl ho⟩
theorem ZaD.trans {T:TypeId->Prop} {B:Nat} {A W C:World} (h:Upd (ZaD T B A) A W) (k:Upd (ZaD T B W) W C):Upd (ZaD T B A) A C :=
 ⟨k.os.trans h.os,k.tape.trans h.tape,k.output.trans h.output,Nat.le_trans h.size k.size,fun b hb hn=>by
  have h1:=h.block b hb hn
  refine (k.block b (Nat.lt_of_lt_of_le hb h.size) fun hs=>hn ?_).trans h1
  obtain ⟨h2,o,h3,h4⟩:=hs
  exact ⟨h2,o,by rw [<- h1];exact h3,h4⟩⟩
def SeqR {α:Type} (T:TypeId->Prop) (F:Fence) (n:Nat) (P:Program) (g:Nat) (lb:Array Value) (encs:α->Array Value) (Kp:α->World->World->Prop) (R:List α->α->World->Prop) (S Sp:List α->Prop) (w:World):Prop :=
 ∀ (l:Nat) (J Jx:List α->World->Prop) (W:World),Below w.heap.size w W->AbR T W.heap.size J->AbR T W.heap.size Jx ->
  (∀ pre x W1,J pre W1->R pre x W1->YieldAt F (n-1) P l (encs x) W1 fun e W'=>KeepsFrom W.heap.size W1 W' /\
    ((e=.returned (.bool true)/\J (pre++[x]) W'/\Kp x W1 W')\/(e=.returned (.bool false)/\Jx (pre++[x]) W'))) ->
  J [] W ->
  CallsIn F n P g (#[.func (.yield l) #[] #[]]++lb) W fun e W'=>(∃ v,e=.returned v)/\((∃ xs,S xs/\J xs W')\/(∃ pre,Sp pre/\Jx pre W'))
variable {F:Fence} {n:Nat} {P:Program}
theorem Zcs {α:Type} {T:TypeId->Prop} {g:Operand} {ps:Array Tmp} {assign body:Code} {Q:Exit->Act->World->Prop} {a:Act} {w:World}
 (hro:F.round=none) (h1:1<=n) {gf:Nat} {lb:Array Value} (hg:a.eval g=.func (.func gf) #[] lb) (hFg:F.fn gf) (eg:∀ args w,(callFunc gf args).run P w=.ok (.enter gf args) w)
 {encs:α->Array Value} {Kp:α->World->World->Prop} {R:List α->α->World->Prop} {S Sp:List α->Prop} {w0:World} (hseq:SeqR T F (n-1) P gf lb encs Kp R S Sp w0)
 (hKt:∀ {x:α} {A B C:World},Kp x A B->Kp x B C->Kp x A C) (hKb:∀ (x:α) (W:World) (l:Nat) (o o':Obj),w.heap.size<=l->W.heap[l]?=some o->o.isCells=false->Kp x W (W.putObj l o'))
 (hb0:Below w0.heap.size w0 w) (hps:∀ x,(encs x).size=ps.size)
 (I:List α->World->Prop) (Ix:Code->List α->World->Prop) (hI:AbR T w.heap.size I) (hIx:∀ c,AbR T w.heap.size (Ix c)) (h0:I [] w)
 (Ax:List α->α->Act->World->Prop) (hAx:∀ (pre:List α) (x:α) (a':Act) (W:World) (l:Nat) (o o':Obj),w.heap.size<=l->W.heap[l]?=some o->o.isCells=false->Ax pre x a' W->Ax pre x a' (W.putObj l o'))
 (hassign:∀ (l:Nat) (pre:List α) (x:α) (W:World) (K:Act->World->Prop),I pre W->R pre x W->(∀ a' W',KeepsFrom w.heap.size W W'->Kp x W W'->I pre W'->Ax pre x a' W'->K a' W') ->
   assign.wpIn (F.inRound l) (n-1-1) P (Exit.then K (fun _ _ _=>False)) { tmps:=(ps.zip (encs x)).foldl (fun t (p,v)=>t.setIfInBounds p v) a.tmps,defers:=[] } W)
 (hbody:∀ (l:Nat) (pre:List α) (x:α) (a':Act) (W:World),w.heap.size<=l->(∃ r,W.heap[l]?=some (.loop r))->I pre W->Ax pre x a' W->body.wpIn (F.inRound l) (n-1-1) P (ownPostG w.heap.size (Kp x) I Ix (pre++[x]) W) a' W)
 (hdone:∀ (D:Nat) (xs:List α) (W:World),w.heap.size<=D->S xs->I xs W->W.heap[D]?=some (.deferred (some []))->Q .normal { a with defers:={ target:=.collected D,args:=#[] }::a.defers } W)
 (hstop:∀ (D:Nat) (c:Code) (pre:List α) (W:World),w.heap.size<=D->Sp pre->Ix c pre W->W.heap[D]?=some (.deferred (some []))->c.wpIn F n P Q { a with defers:={ target:=.collected D,args:=#[] }::a.defers } W) :
 (Code.rangeFunc g ps assign body).wpIn F n P Q a w:=by
 refine wpIn_rangeFunc fun fn hfn=>?_
 rw [hro]
 obtain ⟨rec,hrec⟩:∃ rec:LoopState->Option Code->Loop,rec=fun st pe=>{ state:=st,pending:=pe,fn,tmps:=a.tmps,params:=ps,assign,body,defers:=w.heap.size }:=⟨_,rfl⟩
 obtain ⟨m,hm⟩:∃ m,w.heap.size=m:=⟨_,rfl⟩
 obtain ⟨W1,hW1⟩:∃ W1,(w.alloc (.deferred (some []))).alloc (.loop (rec .ready none))=W1:=⟨_,rfl⟩
 have hsz:W1.heap.size=m+2:=by rw [<- hW1,World.size_alloc,World.size_alloc,hm]
 have hu1:Upd (fun _=>False) w W1:=by rw [<- hW1];exact ((Upd.refl _ w).alloc _).alloc _
 have hL1:W1.heap[m+1]?=some (.loop (rec .ready none)):=by
  have h2:=World.alloc_heap_new (w.alloc (.deferred (some []))) (.loop (rec .ready none))
  rwa [World.size_alloc,hW1,hm] at h2
 have hK1:W1.heap[m]?=some (.deferred (some [])):=by
  rw [<- hW1,<-hm]
  exact (Below.heap_alloc _ _ _ (by simp)).trans (World.alloc_heap_new w _)
 have hI1:I [] W1:=hI _ _ _ h0 (hu1.mono fun _ _ f=>f.elim)
 have hb1:Below w0.heap.size w0 W1:=hb0.trans ((Same.below hu1).mono hb0.size)
 refine ⟨m+1,[{ target:=.collected m,args:=#[] }],W1,{ target:=.fn (.func gf) lb,args:=#[.func (.yield (m+1)) #[] #[]] },W1,gf,
  #[.func (.yield (m+1)) #[] #[]]++lb,W1,?_,?_,?_,?_,fun _=>h1,?_⟩
 · rw [<- hW1,hrec,<-hm];exact run_enterLoop_outer _ _ _ _ _
 · simp only [resolve,hg]
   simp [go_sem]
 · intro f' hf'
   simp [Target.leads] at hf'
   subst hf'
   exact hFg
 · simp [invoke,go_sem,eg]
 rw [hm] at hI hIx hKb hAx hassign hbody hdone hstop
 have up:∀ {A B:World},Upd (ZaD T W1.heap.size A) A B->Upd (ZaD T m A) A B:=fun hu=>hu.mono fun k _ h=>h.mono (by omega) fun _ h=>h
 have keep:∀ {A B:World} {k:Nat} {o:Obj},Upd (ZaD T W1.heap.size A) A B->k<m+2->A.heap[k]?=some o->B.heap[k]?=some o:=fun hu hk ho =>
  (hu.block _ (Array.getElem?_eq_some_iff.1 ho).1 fun h=>by have:=h.1;omega).trans ho
 refine (hseq (m+1) (fun pre W=>I pre W/\W.heap[m+1]?=some (.loop (rec .ready none))/\W.heap[m]?=some (.deferred (some [])))
  (fun pre W=>∃ c,Ix c pre W/\W.heap[m+1]?=some (.loop (rec .done (some c)))/\W.heap[m]?=some (.deferred (some []))) W1 hb1
  (fun s A B hs hu=>⟨hI s A B hs.1 (up hu),keep hu (by omega) hs.2.1,keep hu (by omega) hs.2.2⟩)
  (fun s A B ⟨c,hc,hl,hk⟩ hu=>⟨c,hIx c s A B hc (up hu),keep hu (by omega) hl,keep hu (by omega) hk⟩)
  ?_ ⟨hI1,hL1,hK1⟩).mono ?_
 · rintro pre x W ⟨hi,hl,hk⟩ hr
   have hy:=run_yield (P:=P) (args:=encs x) hl (by rw [hrec];exact hps x)
   rw [hrec] at hy
   refine ⟨fn,_,assign,body,hy,roundIn_of_wpIn hfn (hassign _ pre x W _ hi hr ?_)⟩
   clear hy
   have pt:∀ {V:World} {o:Obj} (o':Obj),V.heap[m+1]?=some o->o.isCells=false->Upd (ZaD T m V) V (V.putObj (m+1) o'):=fun o' hV hc =>
    (Upd.refl _ _).grown (grownBy_putObj' _ (m+1) o') fun k e=>by cases e;exact .inl (ZaD.nc hV hc (by omega))
   have kp:∀ {V:World} (o':Obj),KeepsFrom (m+2) V (V.putObj (m+1) o'):=fun {V} o'=>⟨(grownBy_putObj' V (m+1) o').size,fun k o hk ho _=>(World.putObj_heap_other (by omega)).trans ho⟩
   have km:∀ {A B:World},KeepsFrom m A B->KeepsFrom (m+2) A B:=fun h=>⟨h.size,fun k o hk=>h.same k o (by omega)⟩
   intro a' Wa hkfa hkpa hia hax
   replace hl:=hkfa.same _ _ (by omega) hl rfl
   replace hk:=hkfa.same _ _ (Nat.le_refl _) hk rfl
   clear hi hr
   have hlt:m+1<Wa.heap.size:=(Array.getElem?_eq_some_iff.1 hl).1
   refine ⟨_,run_beginRound hl (by rw [hrec]),?_⟩
   have hl2:(Wa.putObj (m+1) (.loop { rec .ready none with state:=.busy })).heap[m+1]?=some (.loop { rec .ready none with state:=.busy }):=World.putObj_heap_same hlt
   have hk2:(Wa.putObj (m+1) (.loop { rec .ready none with state:=.busy })).heap[m]?=some (.deferred (some [])):=(World.putObj_heap_other (by omega)).trans hk
   refine wpIn_mono (hbody _ pre x a' _ (by omega) ⟨_,hl2⟩ (hI _ _ _ hia (pt _ hl rfl)) (hAx _ _ _ _ _ _ _ (by omega) hl rfl hax)) ?_
   have hw2:=hKb x Wa (m+1) _ (.loop { rec .ready none with state:=.busy }) (by omega) hl rfl
   have fin:∀ (jump:Option Code) (W3:World),KeepsFrom m (Wa.putObj (m+1) (.loop { rec .ready none with state:=.busy })) W3 ->
    (Instr.endRound (m+1) jump).run P W3=.ok (.bool jump.isNone) (W3.putObj (m+1) (.loop (rec (if jump.isNone then .ready else .done) jump))) /\
    W3.heap[m+1]?=some (.loop { rec .ready none with state:=.busy }) /\
    (W3.putObj (m+1) (.loop (rec (if jump.isNone then .ready else .done) jump))).heap[m+1]?=some (.loop (rec (if jump.isNone then .ready else .done) jump)) /\
    (W3.putObj (m+1) (.loop (rec (if jump.isNone then .ready else .done) jump))).heap[m]?=some (.deferred (some [])):=fun jump W3 hk3=>by
    have hl3:=hk3.same _ _ (by omega) hl2 rfl
    have h4:=run_endRound (P:=P) jump hl3
    rw [hrec] at h4 hl3 ⊢
    exact ⟨h4,hl3,World.putObj_heap_same (Array.getElem?_eq_some_iff.1 hl3).1,(World.putObj_heap_other (by omega)).trans (hk3.same _ _ (Nat.le_refl _) hk2 rfl)⟩
   have out:∀ (c:Code) (W3:World),KeepsFrom m (Wa.putObj (m+1) (.loop { rec .ready none with state:=.busy })) W3->Ix c (pre++[x]) W3 ->
    ∃ v W4,(Instr.endRound (m+1) (some c)).run P W3=.ok v W4/\KeepsFrom W1.heap.size W W4/\((Ending.returned v=.returned (.bool true)/\(I (pre++[x]) W4/\W4.heap[m+1]?=some (.loop (rec .ready none))/\W4.heap[m]?=some (.deferred (some [])))/\Kp x W W4) \/
     (Ending.returned v=.returned (.bool false)/\∃ c,Ix c (pre++[x]) W4/\W4.heap[m+1]?=some (.loop (rec .done (some c)))/\W4.heap[m]?=some (.deferred (some [])))):=fun c W3 hk3 hi3=>by
    obtain ⟨hr3,hl3,hl4,hk4⟩:=fin (some c) W3 hk3
    exact ⟨_,_,hr3,by rw [hsz];exact (((km hkfa).trans (kp _)).trans (km hk3)).trans (kp _),.inr ⟨rfl,c,hIx c _ _ _ hi3 (pt _ hl3 rfl),hl4,hk4⟩⟩
   rintro e a3 W3 hp
   cases e with
   | normal =>
     obtain ⟨hk3,hkp3,hi3⟩:=hp
     obtain ⟨hr3,hl3,hl4,hk4⟩:=fin none W3 hk3
     exact ⟨_,_,hr3,by rw [hsz];exact (((km hkfa).trans (kp _)).trans (km hk3)).trans (kp _),.inl ⟨rfl,⟨hI _ _ _ hi3 (pt _ hl3 rfl),hl4,hk4⟩,hKt hkpa (hKt (hKt hw2 hkp3) (hKb x _ _ _ _ (by omega) hl3 rfl))⟩⟩
   | ret=>exact out .ret W3 hp.1 hp.2
   | exit id=>exact out (.exit id) W3 hp.1 hp.2
   | goto t=>exact out (.goto t) W3 hp.1 hp.2
   | panic ch=>exact hp.elim
   | outgrown=>exact hp.elim
 have pt:∀ {V:World} {o:Obj} (o':Obj),V.heap[m+1]?=some o->o.isCells=false->Upd (ZaD T m V) V (V.putObj (m+1) o'):=fun o' hV hc =>
  (Upd.refl _ _).grown (grownBy_putObj' _ (m+1) o') fun k e=>by cases e;exact .inl (ZaD.nc hV hc (by omega))
 rintro e W2 ⟨⟨v,rfl⟩,(⟨xs,hS,hi,hl,hk⟩ | ⟨pre,hSp,c,hi,hl,hk⟩)⟩
 · exact ⟨none,_,by have h3:=run_endLoop (P:=P) hl (by rw [hrec];simp);rw [hrec] at h3;exact h3,hdone _ xs _ (Nat.le_refl _) hS (hI _ _ _ hi (pt _ hl rfl)) ((World.putObj_heap_other (by omega)).trans hk)⟩
 exact ⟨some c,_,by have h3:=run_endLoop (P:=P) hl (by rw [hrec];simp);rw [hrec] at h3;exact h3,hstop _ c pre _ (Nat.le_refl _) hSp (hIx c _ _ _ hi (pt _ hl rfl)) ((World.putObj_heap_other (by omega)).trans hk)⟩
end Go.Proofs.YtkopcinhbjimiaaGreatDoor
namespace Go.Proofs.YtkopcinhbjimiaaGreatDoor
structure GVal where
 kind:Int
 num:Int
 text:ByteArray
 nums:List Int
 texts:List ByteArray
def u64 (n:Int):Nat:=(n % 18446744073709551616).toNat
def nanB (n:Int):Bool:=u64 n / 4503599627370496 % 2048==2047 && u64 n % 4503599627370496 != 0 && u64 n != 9221120237041090560
def Zat (k n:Int):Int:=if k=1/\n≠0/\n≠1 then 42 else if k=3/\nanB n=true then 43 else 0
def ZbE (g:GVal):Bool :=
 (g.num != 0 && decide (3<g.kind)) || (g.text.size != 0 && g.kind != 4) || (g.nums.length != 0 && (decide (g.kind<5) || g.kind==8)) || (g.texts.length != 0 && g.kind != 8)
def ZaJ (k:Int):List Int->Int
 | []=>0
 | n::l=>if Zat k n≠0 then Zat k n else ZaJ k l
def chk (g:GVal):Int :=
 if g.kind<1\/8<g.kind then 40
 else if ZbE g=true then 41
 else if 40<g.nums.length\/40<g.texts.length then 45
 else if 1000<g.text.size\/g.texts.any (fun s=>decide (1000<s.size))=true then 44
 else if g.kind<4 then Zat g.kind g.num
 else ZaJ (g.kind-4) g.nums
def beb:Nat->Nat->List UInt8
 | 0,_=>[]
 | k+1,n=>UInt8.ofNat (n / 256 ^ k)::beb k n
def ZaK (k n:Int):List UInt8:=if k=1 then beb 1 (u64 n) else beb 8 (u64 n)
def ZaL (s:ByteArray):List UInt8:=beb 2 s.size++s.data.toList
def Zbz (g:GVal):List UInt8 :=
 if g.kind<4 then ZaK g.kind g.num
 else if g.kind=4 then ZaL g.text
 else beb 1 (g.nums.length+g.texts.length)++(g.nums.flatMap (ZaK (g.kind-4))++g.texts.flatMap ZaL)
def enc (g:GVal):List UInt8:=if chk g=0 then beb 1 g.kind.toNat++Zbz g else []
def be (bs:List UInt8):Nat:=bs.foldl (fun n c=>n*256+c.toNat) 0
def i64 (n:Nat):Int:=if n<9223372036854775808 then n else (n:Int)-18446744073709551616
def pNum (k:Int) (l:List UInt8):Except Int (Int×List UInt8) :=
 let width:=if k=1 then 1 else 8
 if l.length<width then .error 10
 else if Zat k (i64 (be (l.take width)))≠0 then .error (Zat k (i64 (be (l.take width))))
 else .ok (i64 (be (l.take width)),l.drop width)
def ZbW (l:List UInt8):Except Int (ByteArray×List UInt8) :=
 if l.length<2 then .error 10
 else if 1000<be (l.take 2) then .error 44
 else if (l.drop 2).length<be (l.take 2) then .error 10
 else .ok (⟨((l.drop 2).take (be (l.take 2))).toArray⟩,(l.drop 2).drop (be (l.take 2)))
def Zbu {α:Type} (p:List UInt8->Except Int (α×List UInt8)):Nat->List UInt8->Except Int (List α×List UInt8)
 | 0,l=>.ok ([],l)
 | n+1,l=>match p l with
   | .error e=>.error e
   | .ok (x,r)=>match Zbu p n r with
     | .error e=>.error e
     | .ok (xs,r')=>.ok (x::xs,r')
def Zeu (k:Int) (l:List UInt8):Except Int (GVal×List UInt8) :=
 match l with
 | []=>.error 10
 | c::l =>
   if 40<c.toNat then .error 45
   else if k=8 then match Zbu ZbW c.toNat l with
    | .error e=>.error e
    | .ok (xs,r)=>.ok (⟨k,0,⟨#[]⟩,[],xs⟩,r)
   else match Zbu (pNum (k-4)) c.toNat l with
    | .error e=>.error e
    | .ok (xs,r)=>.ok (⟨k,0,⟨#[]⟩,xs,[]⟩,r)
def pVal (l:List UInt8):Except Int (GVal×List UInt8) :=
 match l with
 | []=>.error 10
 | c::l =>
   if c.toNat<1\/8<c.toNat then .error 40
   else if 4<c.toNat then Zeu c.toNat l
   else if c.toNat=4 then match ZbW l with
    | .error e=>.error e
    | .ok (s,r)=>.ok (⟨4,0,s,[],[]⟩,r)
   else match pNum c.toNat l with
    | .error e=>.error e
    | .ok (n,r)=>.ok (⟨c.toNat,n,⟨#[]⟩,[],[]⟩,r)
def Zof:GVal:=⟨0,0,⟨#[]⟩,[],[]⟩
def decP (l:List UInt8):GVal×Nat×Int :=
 match pVal l with
 | .error e=>(Zof,0,e)
 | .ok (g,r)=>(g,l.length-r.length,0)
end Go.Proofs.YtkopcinhbjimiaaGreatDoor
