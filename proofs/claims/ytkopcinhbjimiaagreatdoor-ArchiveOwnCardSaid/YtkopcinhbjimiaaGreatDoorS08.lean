/- Texts that the claim leans on: walks and plain laws, function by function. -/
import Derived.Laws.DeepBits32
import Derived.Deep.CutRange
import Derived.Test.YtkopcinhbjimiaaGreatDoorS07
set_option maxRecDepth 100000
set_option maxHeartbeats 16000000
namespace Go.Proofs.YtkopcinhbjimiaaGreatDoor
open Go.RowKit
def Off (w:World) (B:Nat) (e:TypeId) (k:Nat) (v:Value) (n:Nat) (xs:List Value):Prop :=
 xs.length=n*k/\((v=.slice none 0 0/\n=0)\/∃ g o cap cur,v=.slice (some ⟨g,o,none⟩) n cap/\B<=g/\Blk w g e cur/\n<=cap/\cap<=maxLen/\o+cap*k<=cur.size/\(cur.toList.drop o).take (n*k)=xs)
section
variable {w w':World} {B k n:Nat} {e:TypeId} {v:Value} {xs:List Value}
theorem Off.nil_ (w:World) (B:Nat) (e:TypeId) (k:Nat):Off w B e k (.slice none 0 0) 0 []:=⟨by simp,.inl ⟨rfl,rfl⟩⟩
theorem Off.lt (h:Off w B e k v n xs):∀ g,v.ownBlock=some g->B<=g/\g<w.heap.size:=by
 intro g hg
 rcases h.2 with ⟨rfl,_⟩ | ⟨b,o,cap,cur,rfl,h1,h2,_⟩
 · cases hg
 injection hg with hg
 subst hg
 exact ⟨h1,h2.lt⟩
theorem Off.upd {S:Nat->Prop} (h:Off w B e k v n xs) (hu:Upd S w w') (hs:∀ g,v.ownBlock=some g->¬ S g):Off w' B e k v n xs:=by
 refine ⟨h.1,?_⟩
 rcases h.2 with h0 | ⟨b,o,cap,cur,rfl,h1,h2,h3⟩
 · exact .inl h0
 exact .inr ⟨b,o,cap,cur,rfl,h1,h2.upd hu (hs _ rfl),h3⟩
theorem Off.same (h:Off w B e k v n xs) (hu:Same w w'):Off w' B e k v n xs:=h.upd hu fun _ _ f=>f
theorem Off.of (h:w.ownsRow B e k v n xs):Off w B e k v n xs:=by
 refine ⟨h.1,?_⟩
 rcases h.2 with h0 | ⟨g,cap,cur,rfl,h1,h2,h3,h4,h5,h6⟩
 · exact .inl h0
 exact .inr ⟨g,0,cap,cur,rfl,h1,h2,h3,h4,by omega,by simpa using h6⟩
theorem Off.form (h:Off w B e k v n xs):∃ A c,v=.slice A n c:=by
 rcases h.2 with ⟨rfl,rfl⟩ | ⟨b,o,cap,cur,rfl,_⟩
 · exact ⟨_,_,rfl⟩
 exact ⟨_,_,rfl⟩
theorem Off.row {A:Option Addr} {c:Nat} (h:Off w B e k (.slice A n c) n xs):Row w (fun b=>B<=b/\(Value.slice A n c).ownBlock=some b) k A n c xs:=by
 rcases h.2 with ⟨h1,h2⟩ | ⟨b,o,cap,cur,h1,h2,h3,h4,h5,h6,h7⟩
 · injection h1 with h1 h3 h4
   subst h1 h3 h4
   have hx:xs=[]:=List.eq_nil_of_length_eq_zero (by simpa using h.1)
   subst hx
   exact Row.nil_ _ _ _
 injection h1 with h1 _ h8
 subst h1 h8
 refine ⟨h.1,h4,h5,(by rintro ⟨⟩),?_⟩
 rintro a ha
 injection ha with ha
 subst ha
 refine ⟨rfl,h3.lt,⟨h2,rfl⟩,fun i u hu=>?_⟩
 rw [h3.cell]
 have hi:i<n*k:=by
  have:=(List.getElem?_eq_some_iff.1 hu).1
  rw [h.1] at this
  exact this
 rw [<- h7,List.getElem?_take_of_lt hi,List.getElem?_drop,Array.getElem?_toList] at hu
 exact hu
theorem Off.drop_ {A:Option Addr} {c:Nat} (h:Off w B e k (.slice A n c) n xs) {j:Nat} (hj:j<=n):Off w B e k (.slice (if c=j then A else A.map (·.add (j*k))) (n-j) (c-j)) (n-j) (xs.drop (j*k)):=by
 have hl:(xs.drop (j*k)).length=(n-j)*k:=by rw [List.length_drop,h.1,Nat.sub_mul]
 refine ⟨hl,?_⟩
 rcases h.2 with ⟨h1,h2⟩ | ⟨b,o,cap,cur,h1,h2,h3,h4,h5,h6,h7⟩
 · injection h1 with h1 h3 h4
   subst h1 h3 h4
   obtain rfl:j=0:=by omega
   exact .inl ⟨by simp,rfl⟩
 injection h1 with h1 _ h8
 subst h1 h8
 by_cases hc:c=j
 · rw [if_pos hc]
   obtain rfl:n=j:=by omega
   refine .inr ⟨b,o,c-n,cur,rfl,h2,h3,by omega,by omega,?_,?_⟩
   · have:(c-n)*k=0:=by rw [hc,Nat.sub_self,Nat.zero_mul]
     omega
   rw [Nat.sub_self,Nat.zero_mul,List.take_zero]
   rw [Nat.sub_self,Nat.zero_mul] at hl
   exact (List.eq_nil_of_length_eq_zero hl).symm
 rw [if_neg hc,Option.map_some,Zcm]
 have hjk:j*k<=c*k:=Nat.mul_le_mul_right _ (by omega)
 refine .inr ⟨b,o+j*k,c-j,cur,rfl,h2,h3,by omega,by omega,?_,?_⟩
 · rw [Nat.sub_mul]
   omega
 rw [<- h7,List.drop_take,List.drop_drop,Nat.sub_mul]
end
structure Zop (w:World) (B:Nat) (e:TypeId) (k:Nat) (v:Value) (n:Nat) (xs:List Value) (v':Value) (w':World):Prop where
 own:Off w' B e k v' n xs
 upd:Upd (fun b=>v.ownBlock=some b) w w'
 block:v'.ownBlock=v.ownBlock\/∃ g,v'.ownBlock=some g/\w.heap.size<=g
section
variable {P:Program}
theorem ZjY (w:World) (t tx ty:TypeId) (base:Nat) (e:TypeId) (i:TypeInfo) (z:Value) (ht:P.underlying t=some (.slice e)) (hi:P.info? e=some i) (hz:i.zero=some z)
 (hzs:z.cells.size=i.size) (v:Value) (n:Nat) (xs:List Value) (hown:Off w base e i.size v n xs)
 (x:Value) (m:Nat) (news:List Value) (hsrc:Src P i.size tx x m news w)
 (h63:n+m<=maxLen) (hbytes:(n+m+1000)*i.bytes<=211106232532992) (hbase:base<=w.heap.size) :
 ∃ v' w',(Builtin.append_ #[t,tx] ty #[v,x]).run P w=.ok v' w'/\Zop w base e i.size v (n+m) (xs++news) v' w':=by
 have hsmall:n+m<=9223372036854775807:=by simp only [maxLen] at h63;omega
 have hlen:(xs++news).length=(n+m)*i.size:=by rw [List.length_append,hown.1,hsrc.newsLen,Nat.add_mul]
 have fresh:∀ (old:Nat),Off (w.drew.alloc (.cells ((xs++news).toArray++Builtin.zeroCells z.cells (grownCap w (n+m) old e-(n+m))) e)) base e i.size
  (.slice (some ⟨w.heap.size,0,none⟩) (n+m) (grownCap w (n+m) old e)) (n+m) (xs++news):=by
  intro old
  have hge:=grownCap_ge w (n+m) old e
  have hcm:=grownCap_le_maxLen w (n+m) old e h63
  refine Off.of ⟨hlen,.inr ⟨w.heap.size,_,_,rfl,hbase,heap_alloc_new w.drew _,hge,hcm,?_,?_⟩⟩
  · rw [Array.size_append,size_zeroCells,hzs,List.size_toArray,hlen,<-Nat.add_mul]
    congr 1
    omega
  rw [Array.toList_append,<-hlen]
  exact List.take_left
 rcases hown.2 with ⟨rfl,rfl⟩ | ⟨g,off,cap,cur,rfl,hbg,hg,hnc,hcm,hcs,htake⟩
 · have hx:xs=[]:=List.eq_nil_of_length_eq_zero (by simpa using hown.1)
   subst hx
   by_cases hm:m=0
   · subst hm
     have hn:news=[]:=List.eq_nil_of_length_eq_zero (by simpa using hsrc.newsLen)
     subst hn
     refine ⟨.slice none 0 0,w,?_,⟨Off.nil_ w base e i.size,Upd.refl _ _,.inl rfl⟩⟩
     rcases hsrc.kind with ⟨e',hk⟩ | hk <;> simp [Builtin.append_,run_underlying ht,run_underlying hk,sizeOf,typeInfo,hi,hsrc.len,hsrc.cells]
   have hr:=run_append_grow_src (P:=P) w t tx ty e i z ht hi hz none 0 0 [] (by simpa using run_firstCells_none w.drew i.size 0 0 0) x m news hsrc (by omega) (by omega) (ZfY (by omega) hbytes)
   exact ⟨_,_,hr,⟨fresh 0,(Upd.refl _ w).drew.alloc _,.inr ⟨w.heap.size,rfl,Nat.le_refl _⟩⟩⟩
 by_cases hroom:n+m<=cap
 · have hfit:off+n*i.size+news.length<=cur.size:=by
    rw [hsrc.newsLen,Nat.add_assoc,<-Nat.add_mul]
    have:=Nat.mul_le_mul_right i.size hroom
    omega
   have hst:=run_storeCells_at P g (off+n*i.size) e news 0 cur w hg (by simpa using hfit) hsrc.one
   simp only [Nat.add_zero] at hst
   have hr:(Builtin.append_ #[t,tx] ty #[.slice (some ⟨g,off,none⟩) n cap,x]).run P w=.ok (.slice (some ⟨g,off,none⟩) (n+m) cap) (w.setRow g (cur.toList.take (off+n*i.size)++news++cur.toList.drop (off+n*i.size+news.length)).toArray):=by
    rcases hsrc.kind with ⟨e',hk⟩ | hk <;> simp [Builtin.append_,run_underlying ht,run_underlying hk,sizeOf,typeInfo,hi,hsrc.len,hroom,hsrc.cells,Addr.add_lit,hst]
   refine ⟨_,_,hr,⟨⟨hlen,.inr ⟨g,off,cap,_,rfl,hbg,setRow_heap w g cur _ e _ hg,hroom,hcm,?_,?_⟩⟩,⟨rfl,rfl,rfl,by simp,fun b _ hb=>setRow_other w g b _ (fun e=>hb (by simp [Value.ownBlock,e]))⟩,.inl rfl⟩⟩
   · simp only [List.size_toArray,List.length_append,List.length_take,List.length_drop,Array.length_toList]
     omega
   have h1:off<=(cur.toList.take (off+n*i.size)).length:=by
    rw [List.length_take,Array.length_toList]
    omega
   have h2:(cur.toList.take (off+n*i.size)).drop off=xs:=by
    rw [List.drop_take,<-htake]
    congr 1
    omega
   rw [List.append_assoc,List.drop_append_of_le_length h1,h2,<-List.append_assoc,<-hlen]
   exact List.take_left
 have holds:∀ j u,xs[j]?=some u->w.drew.cell? ((⟨g,off,none⟩:Addr).add j)=some u:=fun j u hu=>by
  have hrw:=Off.row (A:=some ⟨g,off,none⟩) (c:=cap) hown
  rw [Zcm]
  exact (hrw.cell _ rfl).2.2.2 j u hu
 have hr:=run_append_grow_src (P:=P) w t tx ty e i z ht hi hz (some ⟨g,off,none⟩) n cap xs (run_firstCells_some w.drew i.size n ⟨g,off,none⟩ n cap xs hown.1 holds) x m news hsrc (by omega) (by omega) (ZfY (by omega) hbytes)
 exact ⟨_,_,hr,⟨fresh cap,(Upd.refl _ w).drew.alloc _,.inr ⟨w.heap.size,rfl,Nat.le_refl _⟩⟩⟩
theorem ZmU {w:World} {o:Oper} {a:Act} {K:Act->World->Prop} {Q:Exit->Act->World->Prop} (s x:Operand) (t tx:TypeId)
 (ho:o.op=.call { callee:=.builtin .append,args:=#[s,x],argTypes:=#[t,tx] })
 (base:Nat) (e:TypeId) (k bytes:Nat) (z:Value) (ht:P.underlying t=some (.slice e)) (hi:(P.info? e).map (fun i=>(i.zero,i.size,i.bytes))=some (some z,k,bytes))
 (hzs:z.cells.size=k)
 (v:Value) (n:Nat) (xs:List Value) (hs:a.eval s=v) (hown:Off w base e k v n xs)
 {xv:Value} {m:Nat} {news:List Value} (hx:a.eval x=xv) (hsrc:Src P k tx xv m news w)
 (h63:n+m<=maxLen) (hbytes:(n+m+1000)*bytes<=211106232532992) (hbase:base<=w.heap.size)
 (h:∀ v' w',Zop w base e k v (n+m) (xs++news) v' w'->K (a.put o.dst v') w'):o.wp P a w K Q:=by
 obtain ⟨i,hi',hz,hk,hby⟩:=info_parts hi
 clear hi
 subst hk
 subst hby
 obtain ⟨v',w',hr,h2⟩:=ZjY (P:=P) w t tx o.type base e i z ht hi' hz hzs v n xs hown xv m news hsrc h63 hbytes hbase
 unfold Oper.wp execOp
 simp only [ho,resolve,invoke,builtin,Sem.run_bind,Sem.run_pure,Result.andThen_ok,List.map_toArray,List.map_cons,List.map_nil,hs,hx,hr]
 exact h v' w' h2
theorem ZjZ {w:World} {ops:Array Oper} {rest:List Oper} {o:Oper} {a:Act} {Q:Exit->Act->World->Prop} (hgd:o.guard=none) (s x:Operand) (t tx:TypeId)
 (ho:o.op=.call { callee:=.builtin .append,args:=#[s,x],argTypes:=#[t,tx] })
 (base:Nat) (e:TypeId) (k bytes:Nat) (z:Value) (ht:P.underlying t=some (.slice e)) (hi:(P.info? e).map (fun i=>(i.zero,i.size,i.bytes))=some (some z,k,bytes))
 (hzs:z.cells.size=k)
 (v:Value) (n:Nat) (xs:List Value) (hs:a.eval s=v) (hown:Off w base e k v n xs)
 {xv:Value} {m:Nat} {news:List Value} (hx:a.eval x=xv) (hsrc:Src P k tx xv m news w)
 (h63:n+m<=maxLen) (hbytes:(n+m+1000)*bytes<=211106232532992) (hbase:base<=w.heap.size)
 (h:∀ v' w',Zop w base e k v (n+m) (xs++news) v' w'->wpList P ops Q rest (a.put o.dst v') w'):wpList P ops Q (o::rest) a w :=
 wpList_plain hgd fun _ hK=>ZmU s x t tx ho base e k bytes z ht hi hzs v n xs hs hown hx hsrc h63 hbytes hbase fun v' w' h'=>hK _ _ (h v' w' h')
theorem ZmV {w:World} {ops:Array Oper} {o:Oper} {a:Act} {K:Act->World->Prop} {Q:Exit->Act->World->Prop} {E:Prop} (hgd:o.guard=none) (s x:Operand) (t tx:TypeId)
 (ho:o.op=.call { callee:=.builtin .append,args:=#[s,x],argTypes:=#[t,tx] })
 (base:Nat) (e:TypeId) (k bytes:Nat) (z:Value) (ht:P.underlying t=some (.slice e)) (hi:(P.info? e).map (fun i=>(i.zero,i.size,i.bytes))=some (some z,k,bytes))
 (hzs:z.cells.size=k)
 (v:Value) (n:Nat) (xs:List Value) (hs:a.eval s=v) (hown:Off w base e k v n xs)
 {xv:Value} {m:Nat} {news:List Value} (hx:a.eval x=xv) (hsrc:Src P k tx xv m news w)
 (h63:n+m<=maxLen) (hbytes:(n+m+1000)*bytes<=211106232532992) (hbase:base<=w.heap.size)
 (h:∀ v' w',Zop w base e k v (n+m) (xs++news) v' w'->K (a.put o.dst v') w') :
 if Region.wanted o (yielded ops a.tmps)=true then Oper.wp P o a w K Q else E:=by
 have hw:Region.wanted o (yielded ops a.tmps)=true:=by simp [Region.wanted,hgd]
 rw [if_pos hw]
 exact ZmU s x t tx ho base e k bytes z ht hi hzs v n xs hs hown hx hsrc h63 hbytes hbase h
end
end Go.Proofs.YtkopcinhbjimiaaGreatDoor
namespace Go.Proofs.YtkopcinhbjimiaaGreatDoor
abbrev ZcO:BitVec 32:=0xedb88320#32
def bst (c:BitVec 32):BitVec 32:=(c >>> 1) ^^^ (if c.getLsbD 0 then ZcO else 0#32)
def crcB (c:BitVec 32) (x:UInt8):BitVec 32:=bst (bst (bst (bst (bst (bst (bst (bst (c ^^^ x.toBitVec.setWidth 32))))))))
def crcU (c:BitVec 32) (bs:List UInt8):BitVec 32:=bs.foldl crcB c
def crcS (bs:List UInt8):BitVec 32 := ~~~ (crcU (~~~ 0#32) bs)
theorem ZmW (a b:BitVec 32):bst (a ^^^ b)=bst a ^^^ bst b:=by
 unfold bst
 rw [BitVec.ushiftRight_xor_distrib,BitVec.getLsbD_xor]
 cases a.getLsbD 0 <;> cases b.getLsbD 0 <;> simp [BitVec.xor_assoc]
 · rw [BitVec.xor_comm (b >>> 1)]
 rw [BitVec.xor_comm ZcO,BitVec.xor_assoc,BitVec.xor_self,BitVec.xor_zero]
theorem bst_top (c:BitVec 32):(bst c).getLsbD 31=c.getLsbD 0:=by
 unfold bst
 rw [BitVec.getLsbD_xor,BitVec.getLsbD_ushiftRight,BitVec.getLsbD_of_ge c (1+31) (by omega)]
 cases h:c.getLsbD 0
 · simp
 simp [ZcO]
theorem Zib (c:BitVec 32) (a b:List UInt8):crcU c (a++b)=crcU (crcU c a) b:=by simp [crcU]
def crcT:Array (BitVec 32):=#[0x00000000#32,0x1db71064#32,0x3b6e20c8#32,0x26d930ac#32,0x76dc4190#32,0x6b6b51f4#32,0x4db26158#32,0x5005713c#32,0xedb88320#32,0xf00f9344#32,0xd6d6a3e8#32,0xcb61b38c#32,0x9b64c2b0#32,0x86d3d2d4#32,0xa00ae278#32,0xbdbdf21c#32]
theorem Zoq:∀ k:Fin 16,crcT[k.val]?=some (bst (bst (bst (bst (BitVec.ofNat 32 k.val))))):=by decide
theorem Zgc {c:BitVec 32} (h:c.getLsbD 0=false):bst c=c >>> 1:=by
 unfold bst
 rw [h]
 simp
theorem bst4 (c:BitVec 32):bst (bst (bst (bst c)))=bst (bst (bst (bst (c &&& 15#32)))) ^^^ (c >>> 4):=by
 have hc:c=(c &&& 15#32) ^^^ (c &&& ~~~15#32):=by
  refine BitVec.eq_of_getLsbD_eq fun i hi=>?_
  simp only [BitVec.getLsbD_xor,BitVec.getLsbD_and,BitVec.getLsbD_not]
  cases c.getLsbD i <;> cases (15#32).getLsbD i <;> simp [hi]
 have hd:bst (bst (bst (bst (c &&& ~~~15#32))))=c >>> 4:=by
  have key:∀ j,j<4->(c &&& ~~~15#32).getLsbD j=false:=by
   intro j hj
   rw [BitVec.getLsbD_and,BitVec.getLsbD_not]
   have:(15#32).getLsbD j=true:=by
    rcases (by omega:j=0\/j=1\/j=2\/j=3) with rfl | rfl | rfl | rfl <;> decide
   rw [this];simp
  generalize hm:c &&& ~~~15#32=m at key
  rw [Zgc (key 0 (by omega))]
  rw [Zgc (c:=m >>> 1) (by rw [BitVec.getLsbD_ushiftRight];exact key 1 (by omega)),<-BitVec.shiftRight_add]
  rw [Zgc (c:=m >>> (1+1)) (by rw [BitVec.getLsbD_ushiftRight];exact key 2 (by omega)),<-BitVec.shiftRight_add]
  rw [Zgc (c:=m >>> (1+1+1)) (by rw [BitVec.getLsbD_ushiftRight];exact key 3 (by omega)),<-BitVec.shiftRight_add]
  rw [<- hm]
  refine BitVec.eq_of_getLsbD_eq fun i hi=>?_
  rw [BitVec.getLsbD_ushiftRight,BitVec.getLsbD_ushiftRight,BitVec.getLsbD_and,BitVec.getLsbD_not]
  by_cases h32:4+i<32
  · have:(15#32).getLsbD (4+i)=false:=by
     rw [BitVec.getLsbD_ofNat]
     have:Nat.testBit 15 (4+i)=false:=Nat.testBit_lt_two_pow (Nat.lt_of_lt_of_le (by decide:15<2 ^ 4) (Nat.pow_le_pow_right (by omega) (by omega)))
     rw [this];simp
    rw [this]
    simp [h32]
  rw [BitVec.getLsbD_of_ge c _ (by omega)];simp
 conv=>lhs;rw [hc]
 simp only [ZmW]
 rw [hd]
theorem ZmX (c:BitVec 32):∃ t,crcT[(c &&& 15#32).toNat]?=some t/\t ^^^ (c >>> 4)=bst (bst (bst (bst c)))/\(c &&& 15#32).toNat<16:=by
 have h16:(c &&& 15#32).toNat<16:=by
  rw [BitVec.toNat_and]
  exact Nat.lt_of_le_of_lt Nat.and_le_right (by decide)
 have h:=Zoq ⟨_,h16⟩
 refine ⟨_,h,?_,h16⟩
 rw [BitVec.ofNat_toNat,BitVec.setWidth_eq]
 exact (bst4 c).symm
abbrev crcD:BitVec 32:=0x04c11db7#32
def dst (r:BitVec 32) (bit:Bool):BitVec 32:=(r <<< 1) ^^^ (if r.getLsbD 31 != bit then crcD else 0#32)
def Zcj (v:BitVec 32):BitVec 32:=v.reverse
theorem ZcA (v:BitVec 32) (i:Nat) (h:i<32):(Zcj v).getLsbD i=v.getLsbD (31-i):=by
 unfold Zcj
 rw [BitVec.getLsbD_reverse,BitVec.getMsbD_eq_getLsbD]
 simp [h]
theorem ZmY (v:BitVec 32):Zcj (Zcj v)=v:=by
 refine BitVec.eq_of_getLsbD_eq fun i hi=>?_
 rw [ZcA _ _ hi,ZcA _ _ (by omega),show 31-(31-i)=i by omega]
theorem Zor (a b:BitVec 32):Zcj (a ^^^ b)=Zcj a ^^^ Zcj b:=by
 refine BitVec.eq_of_getLsbD_eq fun i hi=>?_
 rw [ZcA _ _ hi,BitVec.getLsbD_xor,BitVec.getLsbD_xor,ZcA _ _ hi,ZcA _ _ hi]
theorem Zos (r:BitVec 32):Zcj (r <<< 1)=Zcj r >>> 1:=by
 refine BitVec.eq_of_getLsbD_eq fun i hi=>?_
 rw [ZcA _ _ hi,BitVec.getLsbD_ushiftRight,BitVec.getLsbD_shiftLeft]
 by_cases h:i=31
 · subst h
   rw [BitVec.getLsbD_of_ge (Zcj r) (1+31) (by omega)]
   simp
 rw [ZcA r (1+i) (by omega),show 31-(1+i)=31-i-1 by omega]
 rw [decide_eq_true (show 31-i<32 by omega),decide_eq_false (show ¬ 31-i<1 by omega)]
 rfl
theorem Zqj:Zcj crcD=ZcO:=by decide +kernel
theorem ZmZ:Zcj 0#32=0#32:=by decide +kernel
theorem Zot (r:BitVec 32) (bit:Bool):Zcj (dst r bit)=(Zcj r >>> 1) ^^^ (if (Zcj r).getLsbD 0 != bit then ZcO else 0#32):=by
 unfold dst
 rw [Zor,Zos,ZcA _ 0 (by omega)]
 cases h:(r.getLsbD 31 != bit)
 · simp [ZmZ]
 simp [Zqj]
def Zfb (r:BitVec 32) (x:UInt8) (n:Nat):Nat->BitVec 32
 | 0=>r
 | k+1=>dst (Zfb r x n k) (x.toBitVec.getLsbD k)
def bstN:Nat->BitVec 32->BitVec 32
 | 0,c=>c
 | k+1,c=>bst (bstN k c)
theorem Zhw (r:BitVec 32) (x:UInt8) (n:Nat):∀ k,k<=8->Zcj (Zfb r x n k) ^^^ ((x.toBitVec.setWidth 32) >>> k)=bstN k (Zcj r ^^^ x.toBitVec.setWidth 32)
 | 0,_=>by simp [Zfb,bstN]
 | k+1,hk=>by
   have ih:=Zhw r x n k (by omega)
   simp only [Zfb,bstN]
   rw [<- ih,Zot,ZmW]
   generalize Zcj (Zfb r x n k)=c
   have h0:((x.toBitVec.setWidth 32) >>> k).getLsbD 0=x.toBitVec.getLsbD k:=by
    rw [BitVec.getLsbD_ushiftRight,BitVec.getLsbD_setWidth]
    simp [show k<32 by omega]
   unfold bst
   rw [h0,BitVec.shiftRight_add]
   generalize (x.toBitVec.setWidth 32) >>> k=y
   cases c.getLsbD 0 <;> cases x.toBitVec.getLsbD k <;> simp
   · rw [BitVec.xor_assoc,BitVec.xor_comm ZcO]
   rw [BitVec.xor_comm (y >>> 1) ZcO,BitVec.xor_assoc (c >>> 1) ZcO,<-BitVec.xor_assoc ZcO ZcO,BitVec.xor_self,BitVec.zero_xor]
theorem Zme (r:BitVec 32) (x:UInt8):Zcj (Zfb r x 0 8)=crcB (Zcj r) x:=by
 have h:=Zhw r x 0 8 (Nat.le_refl _)
 have hz:(x.toBitVec.setWidth 32) >>> 8=0#32:=by
  refine BitVec.eq_of_getLsbD_eq fun i hi=>?_
  rw [BitVec.getLsbD_ushiftRight,BitVec.getLsbD_setWidth,BitVec.getLsbD_of_ge x.toBitVec (8+i) (by omega)]
  simp
 rw [hz,BitVec.xor_zero] at h
 rw [h]
 rfl
end Go.Proofs.YtkopcinhbjimiaaGreatDoor
namespace Go.Proofs.YtkopcinhbjimiaaGreatDoor
open Go.RowKit
def Nib (w:World):Prop:=1<w.heap.size/\∀ (i:Nat) (t:BitVec 32),crcT[i]?=some t->w.cell? ⟨1,i,none⟩=some (.int .u32 (t.toNat:Int))
theorem Nib.upd {w w':World} {S:Nat->Prop} (h:Nib w) (hu:Upd S w w') (hs:¬ S 1):Nib w' :=
 ⟨Nat.lt_of_lt_of_le h.1 hu.size,fun i t ht=>(hu.cell (p:=⟨1,i,none⟩) h.1 hs).trans (h.2 i t ht)⟩
theorem Nib.same {w w':World} (h:Nib w) (hu:Same w w'):Nib w':=h.upd hu fun f=>f
theorem Zhx (a:BitVec 32):BitVec.ofInt 32 (a.toNat:Int)=a:=by rw [BitVec.ofInt_natCast,BitVec.ofNat_toNat,BitVec.setWidth_eq]
theorem Zic (a:BitVec 32):IntKind.u32.wrap (a.toNat:Int)=(a.toNat:Int):=IntWalk.u32_in _ ⟨by omega,by have:=a.isLt;omega⟩
theorem Zfc (a b:BitVec 32):bits .xor .u32 (a.toNat:Int) (b.toNat:Int)=((a ^^^ b).toNat:Int):=by
 show IntKind.u32.wrap ((BitVec.ofInt 32 (a.toNat:Int) ^^^ BitVec.ofInt 32 (b.toNat:Int)).toNat:Int)=_
 rw [Zhx,Zhx,Zic]
theorem Zka (a b:BitVec 32):bits .and .u32 (a.toNat:Int) (b.toNat:Int)=((a &&& b).toNat:Int):=by
 show IntKind.u32.wrap ((BitVec.ofInt 32 (a.toNat:Int) &&& BitVec.ofInt 32 (b.toNat:Int)).toNat:Int)=_
 rw [Zhx,Zhx,Zic]
theorem Zna (a:BitVec 32):bits BinOp.xor IntKind.u32 IntKind.u32.max (a.toNat:Int)=((~~~ a).toNat:Int):=by
 have h:=Zfc (~~~ 0#32) a
 have e:(((~~~ 0#32:BitVec 32).toNat:Nat):Int)=IntKind.u32.max:=by decide
 rw [e] at h
 rw [h]
 congr 2
theorem Zou (a:BitVec 32):(a.toNat:Int) / 16=((a >>> 4).toNat:Int):=by
 rw [BitVec.toNat_ushiftRight,Nat.shiftRight_eq_div_pow]
 rfl
theorem Zqk (x:UInt8):IntKind.u32.wrap (x.toNat:Int)=(((x.toBitVec.setWidth 32).toNat:Nat):Int):=by
 rw [BitVec.toNat_setWidth,Nat.mod_eq_of_lt (by have:=x.toNat_lt;have e:x.toBitVec.toNat=x.toNat:=rfl;omega)]
 exact IntWalk.u32_in _ ⟨by omega,by have:=x.toNat_lt;omega⟩
theorem ZiS {w:World} (hN:Nib w) (c:BitVec 32):∃ (i:Nat) (t s c':BitVec 32),bits BinOp.and IntKind.u32 (c.toNat:Int) 15=(i:Int)/\(i:Int)<16/\w.cell? ⟨1,i,none⟩=some (.int .u32 (t.toNat:Int))/\(c.toNat:Int) / 16=(s.toNat:Int)/\bits BinOp.xor IntKind.u32 (t.toNat:Int) (s.toNat:Int)=(c'.toNat:Int)/\c'=bst (bst (bst (bst c))):=by
 obtain ⟨t,h1,h2,h3⟩:=ZmX c
 exact ⟨_,t,c >>> 4,_,Zka c 15#32,by omega,hN.2 _ _ h1,Zou c,Zfc _ _,h2⟩
theorem Zea {F:Nat->Prop} {A:Option Addr} {n c:Nat} {bs:List UInt8} (w:World) (hb:Bytes w F A n c bs) (hN:Nib w) (s r:BitVec 32) (hr : ~~~ crcU (~~~ s) bs=r) :
 Calls Tryz.prog 73 #[.int .u32 (s.toNat:Int),.slice A n c] w fun e w'=>e=.returned (.int .u32 (r.toNat:Int))/\w=w':=by
 have HR:=qH hr
 clear hr
 have HL:=qH hb.len
 have HB:=qH hb
 have HN:=qH hN
 clear hb hN
 go_enter Tryz.func73,Tryz.ntmps73
 go_wp2_with fail
 rw [show bits BinOp.xor IntKind.u32 IntKind.u32.max (s.toNat:Int)=((~~~ s).toNat:Int) from Zna s]
 generalize ~~~ s=c0 at HR ⊢
 go_loop [5,12] (fun v i=>∃ k:Nat,k<=n/\i=.int .i64 k/\v=.int .u32 ((crcU c0 (bs.take k)).toNat:Int)) (fun _ i=>n-(intOf i).toNat)
 case atStart=>exact ⟨0,Nat.zero_le _,rfl,rfl⟩
 obtain ⟨k,hk,rfl,rfl⟩:=hrel
 by_cases hlt:k<n
 · obtain ⟨b,o,rfl,hbl,_,hc⟩:=HB.out.at_ hlt
   have hkl:k<bs.length:=by rw [HL.out];exact hlt
   obtain ⟨x,hx⟩:∃ x,bs[k]=x:=⟨_,rfl⟩
   rw [hx] at hc
   obtain ⟨cc,hcc⟩:∃ cc,crcU c0 (bs.take k)=cc:=⟨_,rfl⟩
   rw [hcc]
   have HX:=qH hx
   have HCC:=qH hcc
   clear hx hcc
   have hk1:(0:Int)<=(k:Int):=by omega
   have hk2:(k:Int)<(n:Int):=by omega
   have hw1:IntKind.i64.wrap ((k:Int)+1)=(k:Int)+1:=by rw [IntKind.wrap_i64];have:=Row.max HB.out;have:=Row.le HB.out;unfold maxLen at *;omega
   obtain ⟨xe,hxe⟩:∃ xe,xe=x.toBitVec.setWidth 32:=⟨_,rfl⟩
   have e0:(x.toNat:Int) % 4294967296=(xe.toNat:Int):=by
    have:=Zqk x
    rw [IntKind.wrap_u32] at this
    rw [hxe]
    exact this
   obtain ⟨c1,hc1⟩:∃ c1,cc ^^^ xe=c1:=⟨_,rfl⟩
   have e1:bits BinOp.xor IntKind.u32 (cc.toNat:Int) (xe.toNat:Int)=(c1.toNat:Int):=by rw [<- hc1];exact Zfc _ _
   obtain ⟨i1,t1,s1,c2,a1,a2,a3,a4,a5,h2⟩:=ZiS HN.out c1
   obtain ⟨i2,t2,s2,c3,b1,b2,b3,b4,b5,h3⟩:=ZiS HN.out c2
   have a6:(0:Int)<=(i1:Int):=by omega
   have b6:(0:Int)<=(i2:Int):=by omega
   have HC3:Hid (crcU c0 (bs.take (k+1))=c3):=qH (by
    rw [Zev bs k hkl,Zib,HCC.out,HX.out,h3,h2,<-hc1,hxe]
    rfl)
   clear hxe hc1 h2 h3
   go_wp2
   go_round
   case rel=>exact ⟨k+1,by omega,by go_num,by rw [HC3.out]⟩
   case measure=>simp [intOf];omega
 have hkn:k=n:=by omega
 rw [List.take_of_length_le (by rw [HL.out];omega)]
 have hn:=Zna (crcU c0 bs)
 rw [HR.out] at hn
 generalize crcU c0 bs=cc at hn ⊢
 go_wp2
 go_ret
 exact ⟨rfl,rfl⟩
theorem Zei {F:Nat->Prop} {A:Option Addr} {n c:Nat} {bs:List UInt8} (w:World) (hb:Bytes w F A n c bs) (hN:Nib w) :
 Calls Tryz.prog 80 #[.slice A n c] w fun e w'=>e=.returned (.int .u32 ((crcS bs).toNat:Int))/\w=w':=by
 go_enter Tryz.func80,Tryz.ntmps80
 go_wp2_with fail
 refine (Zea w hb hN 0#32 (crcS bs) rfl).mono ?_
 rintro e w' ⟨rfl,rfl⟩
 go_wp2
 go_ret
 exact ⟨rfl,rfl⟩
def Dig (w:World) (d:Nat) (all:List UInt8):Prop:=Blk w d 121 #[.int .u32 ((crcS all).toNat:Int),.int .i64 (all.length:Int)]
theorem Zgx (w:World):Calls Tryz.prog 37 #[] w fun e w'=>∃ d,e=.returned (.pointer (some ⟨d,0,none⟩))/\Dig w' d []/\d=w.heap.size/\Same w w':=by
 go_enter Tryz.func37,Tryz.ntmps37
 go_wp2
 go_ret
 exact ⟨_,rfl,Blk.new w _ _,rfl,(Upd.refl _ w).alloc _⟩
theorem ZaU {F:Nat->Prop} {A:Option Addr} {n c d:Nat} {bs all:List UInt8} (w:World) (hd:Dig w d all) (hb:Bytes w F A n c bs) (hN:Nib w) (hl:all.length+n<=9223372036854775807) :
 Calls Tryz.prog 38 #[.pointer (some ⟨d,0,none⟩),.slice A n c] w fun e w'=>e=.returned (.tuple #[])/\Dig w' d (all++bs)/\Upd (fun b=>b=d) w w':=by
 have HL:=qH hb.len
 have h0:w.cell? ⟨d,0,none⟩=some (.int .u32 ((crcS all).toNat:Int)):=Blk.cell hd 0
 have h1:w.cell? ⟨d,1,none⟩=some (.int .i64 (all.length:Int)):=Blk.cell hd 1
 have f0:=Blk.frozen hd 0
 have f1:=Blk.frozen hd 1
 have HD:=qH hd
 have hw:IntKind.i64.wrap ((all.length:Int)+(n:Int))=(all.length:Int)+(n:Int):=by rw [IntKind.wrap_i64];omega
 have hnn : ~~~ crcU (~~~ (crcS all)) bs=crcS (all++bs):=by unfold crcS;rw [Zib,BitVec.not_not]
 have HNN:=qH hnn
 clear hnn hd
 go_enter Tryz.func38,Tryz.ntmps38
 go_wp2_with fail
 refine (Zea w hb hN _ _ HNN.out).mono ?_
 rintro e w' ⟨rfl,rfl⟩
 go_wp2
 go_end0
 refine ⟨rfl,?_,((Upd.refl (fun b=>b=d) w).put1 _).put1 _⟩
 have h9:=(Blk.put HD.out 0 (.int .u32 ((crcS (all++bs)).toNat:Int))).put 1 (.int .i64 ((all.length:Int)+(n:Int)))
 have e9:(((all++bs).length:Nat):Int)=(all.length:Int)+(n:Int):=by rw [List.length_append,HL.out];omega
 unfold Dig
 rw [e9]
 exact h9
theorem Zej {d:Nat} {all:List UInt8} (w:World) (hd:Dig w d all):Calls Tryz.prog 42 #[.pointer (some ⟨d,0,none⟩)] w fun e w'=>e=.returned (.int .u32 ((crcS all).toNat:Int))/\w=w':=by
 have h0:w.cell? ⟨d,0,none⟩=some (.int .u32 ((crcS all).toNat:Int)):=Blk.cell hd 0
 go_enter Tryz.func42,Tryz.ntmps42
 go_wp2
 go_ret
 exact ⟨rfl,rfl⟩
def trnX (v:BitVec 32):Nat->BitVec 32
 | 0=>0#32
 | k+1=>(trnX v k <<< 1) ||| ((v >>> k) &&& 1#32)
theorem Zlh (v:BitVec 32):∀ (k j:Nat),k<=32->j<32->(trnX v k).getLsbD j=(decide (j<k) && v.getLsbD (k-1-j))
 | 0,j,_,hj=>by simp [trnX]
 | k+1,j,hk,hj=>by
   unfold trnX
   rw [BitVec.getLsbD_or,BitVec.getLsbD_shiftLeft,BitVec.getLsbD_and,BitVec.getLsbD_ushiftRight]
   by_cases h0:j=0
   · subst h0
     have e:(1#32).getLsbD 0=true:=by decide
     rw [e]
     simp
   have e:(1#32).getLsbD j=false:=by
    rw [BitVec.getLsbD_ofNat]
    have:Nat.testBit 1 j=false:=Nat.testBit_lt_two_pow (Nat.lt_of_lt_of_le (by decide:1<2 ^ 1) (Nat.pow_le_pow_right (by omega) (by omega)))
    rw [this];simp
   rw [e,Zlh v k (j-1) (by omega) (by omega)]
   by_cases hjk:j<k+1
   · rw [decide_eq_true hjk,decide_eq_true (show j-1<k by omega),decide_eq_true hj,decide_eq_false (show ¬ j<1 by omega),show k+1-1-j=k-1-(j-1) by omega]
     simp
   rw [decide_eq_false hjk,decide_eq_false (show ¬ j-1<k by omega)]
   simp
theorem Zov (v:BitVec 32):trnX v 32=Zcj v:=by
 refine BitVec.eq_of_getLsbD_eq fun i hi=>?_
 rw [Zlh v 32 i (by omega) hi,ZcA v i hi,decide_eq_true hi]
 rfl
theorem Zli (a:BitVec 32):((a.toNat:Int)*2) % 4294967296=((a <<< 1).toNat:Int):=by
 rw [BitVec.toNat_shiftLeft,Nat.shiftLeft_eq]
 omega
theorem Zql (a b:BitVec 32):bits .or .u32 (a.toNat:Int) (b.toNat:Int)=((a ||| b).toNat:Int):=by
 show IntKind.u32.wrap ((BitVec.ofInt 32 (a.toNat:Int) ||| BitVec.ofInt 32 (b.toNat:Int)).toNat:Int)=_
 rw [Zhx,Zhx,Zic]
theorem Zow (a:BitVec 32):(a.toNat:Int) / 2=((a >>> 1).toNat:Int):=by
 rw [BitVec.toNat_ushiftRight,Nat.shiftRight_eq_div_pow]
 rfl
theorem Zgy (w:World) (v:BitVec 32):Calls Tryz.prog 158 #[.int .u32 (v.toNat:Int)] w fun e w'=>e=.returned (.int .u32 ((Zcj v).toNat:Int))/\w=w':=by
 have HT:=qH (Zov v)
 generalize Zcj v=tv at HT ⊢
 go_enter Tryz.func158,Tryz.ntmps158
 go_wp2_with fail
 go_loop [0,3,4] (fun s0 s3 s4=>∃ (k:Nat) (a x:BitVec 32),k<=32/\s4=.int .i64 k/\s0=.int .u32 (a.toNat:Int)/\s3=.int .u32 (x.toNat:Int)/\Hid (a=v >>> k/\x=trnX v k)) (fun _ _ i=>32-(intOf i).toNat)
 case atStart=>exact ⟨0,v,0#32,by omega,rfl,rfl,rfl,qH ⟨by simp,rfl⟩⟩
 obtain ⟨k,a,x,hk,rfl,rfl,rfl,HK⟩:=hrel
 by_cases hlt:k<32
 · obtain ⟨a',ha'⟩:∃ a',a >>> 1=a':=⟨_,rfl⟩
   obtain ⟨a1,ha1⟩:∃ a1,a &&& 1#32=a1:=⟨_,rfl⟩
   obtain ⟨x1,hx1⟩:∃ x1,x <<< 1=x1:=⟨_,rfl⟩
   obtain ⟨x',hx'⟩:∃ x',x1 ||| a1=x':=⟨_,rfl⟩
   have e1:(a.toNat:Int) / (2:Int)=(a'.toNat:Int):=by rw [<- ha'];exact Zow a
   have e2:((x.toNat:Int)*(2:Int)) % (4294967296:Int)=(x1.toNat:Int):=by rw [<- hx1];exact Zli x
   have e3:bits BinOp.and IntKind.u32 (a.toNat:Int) 1=(a1.toNat:Int):=by rw [<- ha1];exact Zka a 1#32
   have e4:bits BinOp.or IntKind.u32 (x1.toNat:Int) (a1.toNat:Int)=(x'.toNat:Int):=by rw [<- hx'];exact Zql x1 a1
   have HK1:Hid (a'=v >>> (k+1)/\x'=trnX v (k+1)):=qH (by
    obtain ⟨h1,h2⟩:=HK.out
    exact ⟨by rw [<- ha',h1,BitVec.shiftRight_add],by rw [<- hx',<-hx1,<-ha1,h1,h2];rfl⟩)
   clear ha' ha1 hx1 hx'
   go_wp2
   go_round
   case rel=>exact ⟨k+1,a',x',by omega,by go_num,rfl,rfl,HK1⟩
   case measure=>simp [intOf];omega
 obtain rfl:k=32:=by omega
 go_wp2
 go_ret
 exact ⟨by rw [HK.2,HT.out];rfl,rfl⟩
theorem Zqm (x:UInt8) (k:Nat):bits BinOp.and IntKind.u32 (((x.toNat >>> k:Nat):Int) % 4294967296) 1=if x.toBitVec.getLsbD k then 1 else 0:=by
 have hx:=x.toNat_lt
 have h1:x.toNat >>> k<256:=Nat.lt_of_le_of_lt (by rw [Nat.shiftRight_eq_div_pow];exact Nat.div_le_self _ _) hx
 have e:(((x.toNat >>> k:Nat):Int) % 4294967296)=(((BitVec.ofNat 32 (x.toNat >>> k)).toNat:Nat):Int):=by
  rw [BitVec.toNat_ofNat]
  omega
 rw [e,show (1:Int)=((1#32).toNat:Int) from rfl,Zka]
 have h2:(BitVec.ofNat 32 (x.toNat >>> k) &&& 1#32)=if x.toBitVec.getLsbD k then 1#32 else 0#32:=by
  refine BitVec.eq_of_getLsbD_eq fun i hi=>?_
  rw [BitVec.getLsbD_and,BitVec.getLsbD_ofNat]
  have ht:x.toBitVec.getLsbD k=x.toNat.testBit k:=rfl
  rw [ht]
  by_cases h0:i=0
  · subst h0
    rw [Nat.testBit_shiftRight]
    cases x.toNat.testBit k <;> simp
  have e:(1#32).getLsbD i=false:=by
   rw [BitVec.getLsbD_ofNat]
   have:Nat.testBit 1 i=false:=Nat.testBit_lt_two_pow (Nat.lt_of_lt_of_le (by decide:1<2 ^ 1) (Nat.pow_le_pow_right (by omega) (by omega)))
   rw [this];simp
  rw [e]
  cases x.toNat.testBit k <;> simp [e]
 rw [h2]
 cases x.toBitVec.getLsbD k <;> rfl
theorem Zpr (x:UInt8) (k:Nat):bits BinOp.and IntKind.u32 ((x.toNat:Int) / (2:Int) ^ k % (4294967296:Int)) 1=if x.toBitVec.getLsbD k then 1 else 0:=by
 have h:=Zqm x k
 have e:((x.toNat >>> k:Nat):Int)=(x.toNat:Int) / (2:Int) ^ k:=by
  rw [Nat.shiftRight_eq_div_pow,Int.natCast_ediv,Int.natCast_pow]
  rfl
 rw [e] at h
 exact h
theorem Zps (r:BitVec 32):(r.toNat:Int) / 2147483648=if r.getLsbD 31 then 1 else 0:=by
 have h:r.getLsbD 31=decide (2147483648<=r.toNat):=by
  have:=BitVec.msb_eq_decide r
  rw [BitVec.msb_eq_getLsbD_last] at this
  exact this
 rw [h]
 have hr:=r.isLt
 by_cases h2:2147483648<=r.toNat
 · rw [decide_eq_true h2]
   simp only [if_true]
   omega
 rw [decide_eq_false h2]
 simp only [Bool.false_eq_true,if_false]
 omega
theorem Zgz {F:Nat->Prop} {A:Option Addr} {n c:Nat} {bs:List UInt8} (w:World) (hb:Bytes w F A n c bs) (r:BitVec 32) (hr : ~~~ crcU (~~~ 0#32) bs=r) :
 Calls Tryz.prog 122 #[.int .u32 0,.slice A n c] w fun e w'=>e=.returned (.int .u32 (r.toNat:Int))/\w=w':=by
 have HR:=qH hr
 have HL:=qH hb.len
 have HB:=qH hb
 have hnm:n<=9223372036854775807:=by have:=Row.max hb;have:=Row.le hb;unfold maxLen at *;omega
 clear hb hr
 obtain ⟨f,hf⟩:∃ f:BitVec 32,f = ~~~ 0#32:=⟨_,rfl⟩
 have e1:bits BinOp.xor IntKind.u32 0 4294967295=(f.toNat:Int):=by rw [hf];exact Zfc 0#32 (~~~ 0#32)
 have HF:=qH hf
 clear hf
 obtain ⟨t0,ht0⟩:∃ t0,Zcj f=t0:=⟨_,rfl⟩
 have HT0:=qH ht0
 go_enter Tryz.func122,Tryz.ntmps122
 go_wp2_with fail
 refine (Zgy w f).mono ?_
 rintro e w' ⟨rfl,rfl⟩
 rw [ht0]
 clear ht0 e1
 go_wp2_with fail
 go_loop [5,6] (fun s5 s6=>∃ (k:Nat) (q:BitVec 32),k<=n/\s6=.int .i64 k/\s5=.int .u32 (q.toNat:Int)/\Hid (Zcj q=crcU f (bs.take k))) (fun _ i=>n-(intOf i).toNat)
 case atStart=>exact ⟨0,t0,Nat.zero_le _,rfl,rfl,qH (by rw [<- HT0.out,ZmY];rfl)⟩
 obtain ⟨k,q,hk,rfl,rfl,HQ⟩:=hrel
 by_cases hlt:k<n
 · obtain ⟨b,o,rfl,hbl,_,hc⟩:=HB.out.at_ hlt
   have hkl:k<bs.length:=by rw [HL.out];exact hlt
   obtain ⟨x,hx⟩:∃ x,bs[k]=x:=⟨_,rfl⟩
   rw [hx] at hc
   have HX:=qH hx
   clear hx
   have hk1:(0:Int)<=(k:Int):=by omega
   have hk2:(k:Int)<(n:Int):=by omega
   go_wp2_with fail
   go_loop [5,7] (fun s5 s7=>∃ (j:Nat) (p:BitVec 32),j<=8/\s7=.int .i64 j/\s5=.int .u32 (p.toNat:Int)/\Hid (p=Zfb q x 0 j)) (fun _ i=>8-(intOf i).toNat)
   case atStart=>exact ⟨0,q,Nat.zero_le _,rfl,rfl,qH rfl⟩
   obtain ⟨j,p,hj,rfl,rfl,HP⟩:=hrel
   by_cases hj8:j<8
   · obtain ⟨p1,hp1⟩:∃ p1,p <<< 1=p1:=⟨_,rfl⟩
     obtain ⟨p2,hp2⟩:∃ p2,p1 ^^^ crcD=p2:=⟨_,rfl⟩
     obtain ⟨tp,htp⟩:∃ tp,p.getLsbD 31=tp:=⟨_,rfl⟩
     obtain ⟨bt,hbt⟩:∃ bt,x.toBitVec.getLsbD j=bt:=⟨_,rfl⟩
     have e5:=Zpr x j
     have e6:=Zps p
     rw [hbt] at e5
     rw [htp] at e6
     have e7:((p.toNat:Int)*(2:Int)) % (4294967296:Int)=(p1.toNat:Int):=by rw [<- hp1];exact Zli p
     have e8:bits BinOp.xor IntKind.u32 (p1.toNat:Int) 79764919=(p2.toNat:Int):=by rw [<- hp2];exact Zfc p1 crcD
     have HS:Hid (Zfb q x 0 (j+1)=p1 ^^^ (if tp != bt then crcD else 0#32)):=qH (by
      have h1:=HP.out
      simp only [Zfb,dst]
      rw [<- h1,htp,hbt,hp1])
     have HP2:=qH hp2
     have e7':tp=false->(p.toNat:Int)*(2:Int)=(p1.toNat:Int):=fun h=>by rw [h] at e6;simp only [Bool.false_eq_true,if_false] at e6;omega
     clear hp1 hp2 htp hbt
     cases tp <;> cases bt
     · have e7:=e7
       have HS':Hid (p1=Zfb q x 0 (j+1)):=qH (by rw [HS.out];simp)
       simp only [Bool.false_eq_true,if_false] at e5 e6
       clear HS
       have e7:=e7' rfl
       go_wp2
       go_round
       case rel=>exact ⟨j+1,p1,by omega,by go_num,by first | rfl | rw [e7],HS'⟩
       case measure=>simp [intOf];omega
     · have HS':Hid (p2=Zfb q x 0 (j+1)):=qH (by rw [HS.out,<-HP2.out];simp)
       simp only [Bool.false_eq_true,if_false,if_true] at e5 e6
       clear HS
       have e7:=e7' rfl
       go_wp2
       go_round
       case rel=>exact ⟨j+1,p2,by omega,by go_num,by first | rfl | rw [e7],HS'⟩
       case measure=>simp [intOf];omega
     · have HS':Hid (p2=Zfb q x 0 (j+1)):=qH (by rw [HS.out,<-HP2.out];simp)
       simp only [Bool.false_eq_true,if_false,if_true] at e5 e6
       clear HS e7'
       go_wp2
       go_round
       case rel=>exact ⟨j+1,p2,by omega,by go_num,by first | rfl | rw [e7],HS'⟩
       case measure=>simp [intOf];omega
     have e7:=e7
     have HS':Hid (p1=Zfb q x 0 (j+1)):=qH (by rw [HS.out];simp)
     simp only [if_true] at e5 e6
     clear HS e7'
     go_wp2
     go_round
     case rel=>exact ⟨j+1,p1,by omega,by go_num,by first | rfl | rw [e7],HS'⟩
     case measure=>simp [intOf];omega
   obtain rfl:j=8:=by omega
   have HQ1:Hid (Zcj p=crcU f (bs.take (k+1))):=qH (by
    rw [HP.out,Zme,HQ.out,Zev bs k hkl,Zib,HX.out]
    rfl)
   go_wp2
   go_round
   case rel=>exact ⟨k+1,p,by omega,by go_num,rfl,HQ1⟩
   case measure=>simp [intOf];omega
 obtain rfl:k=n:=by omega
 have h1:=HQ.out
 rw [List.take_of_length_le (by rw [HL.out];omega)] at h1
 have h2:=HR.out
 rw [<- HF.out,<-h1] at h2
 obtain ⟨tq,htq⟩:∃ tq,Zcj q=tq:=⟨_,rfl⟩
 have HTQ:=qH htq
 rw [htq] at h2
 have e9:bits BinOp.xor IntKind.u32 (tq.toNat:Int) 4294967295=(r.toNat:Int):=by
  rw [<- h2]
  have h3:=Zfc tq (~~~ 0#32)
  have h4:tq ^^^ ~~~ 0#32 = ~~~ tq:=by rw [BitVec.xor_comm];rfl
  rw [h4] at h3
  exact h3
 clear h1 h2 htq
 go_wp2_with fail
 refine (Zgy w q).mono ?_
 rintro e w' ⟨rfl,rfl⟩
 rw [HTQ.out]
 go_wp2
 go_ret
 exact ⟨rfl,rfl⟩
theorem Zfz {F:Nat->Prop} {A:Option Addr} {n c:Nat} {bs:List UInt8} (w:World) (hb:Bytes w F A n c bs) :
 Calls Tryz.prog 86 #[.slice A n c] w fun e w'=>e=.returned (.int .u32 ((crcS bs).toNat:Int))/\w=w':=by
 go_enter Tryz.func86,Tryz.ntmps86
 go_wp2_with fail
 refine (Zgz w hb (crcS bs) rfl).mono ?_
 rintro e w' ⟨rfl,rfl⟩
 go_wp2
 go_ret
 exact ⟨rfl,rfl⟩
end Go.Proofs.YtkopcinhbjimiaaGreatDoor
namespace Go.Proofs.YtkopcinhbjimiaaGreatDoor
structure GFr where
 type:Nat
 data:List UInt8
def Zcu (t:Nat) (d:List UInt8):List UInt8:=beb 1 t++(beb 4 d.length++d)
def Zai (t:Nat) (d:List UInt8):List UInt8:=Zcu t d++beb 4 (crcS (Zcu t d)).toNat
def oneP (l:List UInt8):Except Int (Option (GFr×List UInt8)) :=
 if l.length<5 then .ok none
 else if 1048576<be ((l.drop 1).take 4) then .error 1
 else if l.length<be ((l.drop 1).take 4)+9 then .ok none
 else if be ((l.drop (be ((l.drop 1).take 4)+5)).take 4)≠(crcS (l.take (be ((l.drop 1).take 4)+5))).toNat then .error 91
 else .ok (some (⟨be (l.take 1),(l.drop 5).take (be ((l.drop 1).take 4))⟩,l.drop (be ((l.drop 1).take 4)+9)))
theorem Zkb {l:List UInt8} {f:GFr} {r:List UInt8} (h:oneP l=.ok (some (f,r))):r.length+9<=l.length:=by
 unfold oneP at h
 split at h
 · cases h
 split at h
 · cases h
 split at h
 · cases h
 split at h
 · cases h
 injection h with h
 injection h with h
 injection h with h1 h2
 rw [<- h2,List.length_drop]
 omega
def Zae (l:List UInt8):List GFr×List UInt8×Int :=
 match h:oneP l with
 | .error e=>([],l,e)
 | .ok none=>([],l,0)
 | .ok (some (f,r)) =>
   have:r.length<l.length:=by have:=Zkb h;omega
   ((f::(Zae r).1),(Zae r).2)
termination_by l.length
theorem Zdh {l:List UInt8} {e:Int} (h:oneP l=.error e):Zae l=([],l,e):=by
 rw [Zae]
 split
 · rename_i h';rw [h] at h';injection h' with h';rw [h']
 · rename_i h';rw [h] at h';cases h'
 rename_i h';rw [h] at h';cases h'
theorem ZbS {l:List UInt8} (h:oneP l=.ok none):Zae l=([],l,0):=by
 rw [Zae]
 split
 · rename_i h';rw [h] at h';cases h'
 · rfl
 rename_i h';rw [h] at h';cases h'
theorem Zbk {l r:List UInt8} {f:GFr} (h:oneP l=.ok (some (f,r))):Zae l=(f::(Zae r).1,(Zae r).2):=by
 rw [Zae]
 split
 · rename_i h';rw [h] at h';cases h'
 · rename_i h';rw [h] at h';cases h'
 rename_i h'
 rw [h] at h'
 injection h' with h'
 injection h' with h'
 injection h' with h1 h2
 subst h1 h2
 rfl
def Zap (s:ByteArray):List UInt8:=beb 1 s.size++s.data.toList
def Zbj (p:GPr):List UInt8:=Zap p.key++(beb 2 (enc p.val).length++enc p.val)
def ZbD (ps:List GPr):List UInt8:=beb 1 ps.length++ps.flatMap Zbj
def Zbr (x:ZaO):List UInt8:=beb 4 (u64 x.id)++(beb 1 x.labels.length++(x.labels.flatMap Zap++ZbD x.props))
def Zbx (x:GRel):List UInt8:=beb 4 (u64 x.id)++(beb 4 (u64 x.src)++(beb 4 (u64 x.dst)++(Zap x.type++ZbD x.props)))
def ZaY (n r w:Nat) (all:List UInt8):List UInt8:=beb 4 n++(beb 4 r++(beb 4 w++beb 4 (crcS all).toNat))
def Zas:List UInt8:=[83,65,84,67,72,69,76,49]
def decA (l:List UInt8):GVal×Int:=decD l.length (decP l)
def RS.name (s:RS):ByteArray×RS:=(⟨((s.num 1).2.take ((s.num 1).1:Int) true).1.toArray⟩,((s.num 1).2.take ((s.num 1).1:Int) true).2)
def RS.names:Nat->RS->List ByteArray×RS
 | 0,s=>([],s)
 | k+1,s=>(s.name.1::(RS.names k s.name.2).1,(RS.names k s.name.2).2)
def RS.raw2 (s:RS):List UInt8×RS:=(s.num 2).2.take ((s.num 2).1:Int) true
def RS.prs:Nat->RS->Option (List GPr)×RS
 | 0,s=>(some [],s)
 | k+1,s =>
   if (decA s.name.2.raw2.1).2≠0 then (none,s.name.2.raw2.2)
   else ((RS.prs k s.name.2.raw2.2).1.map (⟨s.name.1,(decA s.name.2.raw2.1).1⟩::·),(RS.prs k s.name.2.raw2.2).2)
def RS.props (s:RS):Option (List GPr) :=
 if (RS.prs (s.num 1).1 (s.num 1).2).2.err=0/\(RS.prs (s.num 1).1 (s.num 1).2).2.left=[] then (RS.prs (s.num 1).1 (s.num 1).2).1 else none
def pNd (l:List UInt8):Option ZaO :=
 let s1:=RS.num ⟨l,0⟩ 4
 let s2:=s1.2.num 1
 let s3:=RS.names s2.1 s2.2
 s3.2.props.map fun ps=>⟨s1.1,s3.1,ps⟩
def pRl (l:List UInt8):Option GRel :=
 let s1:=RS.num ⟨l,0⟩ 4
 let s2:=s1.2.num 4
 let s3:=s2.2.num 4
 let s4:=s3.2.name
 s4.2.props.map fun ps=>⟨s1.1,s4.1,s2.1,s3.1,ps⟩
structure PSt where
 state:Nat
 g:Zak
 all:List UInt8
def psW (ps:List GPr):Nat:=(ps.map fun p=>(enc p.val).length).sum
def Zak.wt (g:Zak):Nat:=psW (g.nodes.flatMap ZaO.props)+psW (g.rels.flatMap GRel.props)
def Zby (s:PSt) (f:GFr):Except Int PSt :=
 if s.state=3 then .error 11
 else if s.state=0/\f.type=1 then
  if f.data=[0,1] then .ok ⟨1,s.g,s.all++Zai f.type f.data⟩ else .error 8
 else if s.state=1/\f.type=2 then
  match pNd f.data with
  | none=>.error 201
  | some n=>.ok ⟨1,⟨s.g.nodes++[n],s.g.rels⟩,s.all++Zai f.type f.data⟩
 else if s.state≠0/\f.type=3 then
  match pRl f.data with
  | none=>.error 201
  | some r=>.ok ⟨2,⟨s.g.nodes,s.g.rels++[r]⟩,s.all++Zai f.type f.data⟩
 else if s.state≠0/\f.type=4 then
  if f.data=ZaY s.g.nodes.length s.g.rels.length s.g.wt s.all then .ok ⟨3,s.g,s.all++Zai f.type f.data⟩ else .error 202
 else .error 200
def ZaI:List GFr->PSt->Except Int PSt
 | [],s=>.ok s
 | f::fs,s=>match Zby s f with
   | .error e=>.error e
   | .ok s'=>ZaI fs s'
def noG:Zak:=⟨[],[]⟩
def fedP (b:List UInt8):Except Int PSt :=
 if 16777216<b.length then .error 1
 else if b.length<8 then .ok ⟨0,noG,b⟩
 else if b.take 8≠Zas then .error 90
 else match ZaI (Zae (b.drop 8)).1 ⟨0,noG,Zas⟩ with
  | .error e=>.error e
  | .ok s =>
    if s.state=3 then (if (Zae (b.drop 8)).2.1≠[] then .error 11 else .ok s)
    else if (Zae (b.drop 8)).2.2≠0 then .error (Zae (b.drop 8)).2.2 else .ok s
end Go.Proofs.YtkopcinhbjimiaaGreatDoor
namespace Go.Proofs.YtkopcinhbjimiaaGreatDoor
open Go.RowKit
theorem Znb {w:World} {F:Nat->Prop} {B r:Nat} {A:Option Addr} {n c:Nat} {bs xs:List UInt8} (h:Wtr w B r bs) (hx:Bytes w F A n c xs) (hl:bs.length+n<=140737488355328) :
 Calls Tryz.prog 79 #[.pointer (some ⟨r,0,none⟩),.slice A n c] w fun e w'=>e=.returned (.tuple #[])/\Wtr w' B r (bs++xs)/\Upd (fun b=>B<=b) w w':=by
 obtain ⟨hB,v,hb,ho⟩:=h
 have hlt:=hb.lt
 have hne:v.ownBlock≠some r:=hb.ne_own ho (by decide)
 have h0:=hb.cell 0
 simp only [List.getElem?_toArray,List.getElem?_cons_zero] at h0
 have HL:=qH hx.len
 go_enter Tryz.func79,Tryz.ntmps79
 go_wp2_with (at_builtin;go_must (refine Zag rfl (.tmp 8) (.tmp 9) _ _ rfl B _ _ _ _ Tryz.underlying28 ZaR rfl v _ _ rfl ho rfl (Zal Tryz.underlying28 hx (ZcC xs)) (by unfold maxLen;omega) (by omega) (by omega) ?_);intro v' w1 hg;obtain ⟨A',m',c',rfl⟩:=Zav hg.own;have f1:w1.frozen? ⟨r,0,none⟩=false:=(hg.blk hb hne).frozen 0;have h1:w1.cell? ⟨r,0,none⟩=some v:=(hg.blk hb hne).cell 0)
 go_end0
 have hb1:=hg.blk hb hne
 have hne':(Value.slice A' m' c').ownBlock≠some r:=hb1.ne_own hg.own (by decide)
 refine ⟨rfl,⟨hB,_,hb1.put 0 _,?_⟩,(hg.upd.mono fun b _ hv=>(ho.lt b hv).1).put hB _⟩
 have h2:=Zam hg.own ((Upd.refl (fun b=>b=r) w1).put1 (i:=0) (.slice A' m' c')) fun g hgg hgr=>hne' (hgr ▸ hgg)
 unfold OwnB
 rw [List.length_append,HL.out,List.map_append]
 exact h2
theorem Zpt (A:Option Addr) (n c at_ width:Nat) (w:World) (hw:Zao width=true) (h:at_+width<=n) (hn:n<=9223372036854775807) :
 Calls Tryz.prog 185 #[.slice A n c,.int .i64 at_,.int .i64 width] w fun e w'=>e=.returned (.int .i64 0)/\w=w':=by
 have HW:=qH hw
 clear hw
 go_enter Tryz.func185,Tryz.ntmps185
 go_wp2_with fail
 refine (Zcp _ _).mono ?_
 rintro e w' ⟨rfl,rfl⟩
 rw [HW.out]
 go_wp2
 go_ret
 exact ⟨rfl,rfl⟩
theorem Zqd (A:Option Addr) (n c at_ width:Nat) (w:World) (hw:Zao width=true) (h:n<at_+width) (hn:n<=9223372036854775807) (ha:at_<=9223372036854775807) :
 Calls Tryz.prog 185 #[.slice A n c,.int .i64 at_,.int .i64 width] w fun e w'=>e=.returned (.int .i64 10)/\w=w':=by
 have hw8:width<=8:=by
  simp only [Zao,Bool.or_eq_true,beq_iff_eq] at hw
  omega
 have HW:=qH hw
 clear hw
 go_enter Tryz.func185,Tryz.ntmps185
 go_wp2_with fail
 refine (Zcp _ _).mono ?_
 rintro e w' ⟨rfl,rfl⟩
 rw [HW.out]
 go_wp2
 go_ret
 exact ⟨rfl,rfl⟩
theorem Zlj {F:Nat->Prop} {A:Option Addr} {n c:Nat} {bs:List UInt8} (w:World) (hb:Bytes w F A n c bs) (at_ width:Nat) (hw:Zao width=true) (h:at_+width<=n) {N:Nat} (hN:be ((bs.drop at_).take width)=N) :
 Calls Tryz.prog 161 #[.slice A n c,.int .i64 at_,.int .i64 width] w fun e w'=>e=.returned (.tuple #[.int .u64 N,.int .i64 0])/\w=w':=by
 have hmx:=Row.max hb
 have hle:=Row.le hb
 unfold maxLen at hmx
 have hn:n<=9223372036854775807:=by omega
 have hw8:1<=width/\width<=8:=by
  simp only [Zao,Bool.or_eq_true,beq_iff_eq] at hw
  omega
 obtain ⟨b,o,_,rfl,_,_,_,_⟩:=Row.at_ hb (i:=at_) (by omega)
 have HN:=qH hN
 have HB:=qH hb
 have HW:=qH hw
 clear hN hb hw
 go_enter Tryz.func161,Tryz.ntmps161
 go_wp2_with fail
 refine (Zpt _ _ _ _ _ _ HW.out h hn).mono ?_
 rintro e w' ⟨rfl,rfl⟩
 go_wp2_with fail
 have hc:=HB.out.cut (j:=at_) (m:=at_+width) (by omega) h
 rw [if_neg (by omega),Option.map_some,Zcm,Nat.add_sub_cancel_left] at hc
 refine (Zgi _ hc (by omega)).mono ?_
 rintro e w' ⟨rfl,rfl⟩
 rw [HN.out]
 go_wp2
 go_ret2
 exact ⟨rfl,rfl⟩
end Go.Proofs.YtkopcinhbjimiaaGreatDoor
