/- Texts that the claim leans on: walks and plain laws, function by function. -/
import Derived.Deep.RegionHeld3
import Derived.Sort.Walk0
import Derived.Test.YtkopcinhbjimiaaGreatDoorS08
set_option maxRecDepth 100000
set_option maxHeartbeats 16000000
namespace Go.Proofs.YtkopcinhbjimiaaGreatDoor
theorem ZoB {g:GVal} (h:chk g=0) (hf:g.Fits):decA (enc g)=(g,0):=Zoo h hf
theorem ZiV {l:List UInt8} (h:(decA l).2=0):chk (decA l).1=0/\(decA l).1.Fits/\enc (decA l).1=l:=ZmT (Prod.ext rfl h)
section rs
variable {s:RS} {t l:List UInt8}
theorem RS.num_enc {k n:Nat} (hk:Zao k=true) (hn:n<256 ^ k):RS.num ⟨beb k n++t,0⟩ k=(n,⟨t,0⟩):=by
 have hl:=Zab k n
 rw [RS.num_ok hk (by rw [List.length_append,hl];omega),List.take_append_of_le_length (by omega),List.take_of_length_le (by omega),ZdZ,Nat.mod_eq_of_lt hn,List.drop_append_of_le_length (by omega),List.drop_of_length_le (by omega),List.nil_append]
theorem RS.take_enc {n:Nat} (h:l.length=n):RS.take ⟨l++t,0⟩ n true=(l,⟨t,0⟩):=by
 rw [RS.take_ok (by rw [List.length_append];omega),List.take_append_of_le_length (by omega),List.take_of_length_le (by omega),List.drop_append_of_le_length (by omega),List.drop_of_length_le (by omega),List.nil_append]
theorem RS.take_back {n:Nat} (h:(s.take n true).2.err=0):s.err=0/\s.left=(s.take n true).1++(s.take n true).2.left/\(s.take n true).1.length=n:=by
 by_cases he:s.err=0
 · obtain ⟨left,err⟩:=s
   obtain rfl:err=0:=he
   by_cases hl:n<=left.length
   · rw [RS.take_ok hl]
     exact ⟨rfl,(List.take_append_drop n left).symm,by simp only [List.length_take];omega⟩
   rw [RS.take_short (by omega)] at h
   cases h
 rw [RS.take_err he] at h
 exact absurd h he
theorem RS.num_back {k:Nat} (hk:Zao k=true) (h:(s.num k).2.err=0):s.err=0/\s.left=beb k (s.num k).1++(s.num k).2.left/\(s.num k).1<256 ^ k:=by
 have e2:(s.num k).2=(s.take k true).2:=by unfold RS.num;rw [hk]
 have e1:(s.num k).1=be (s.take k true).1:=by unfold RS.num;rw [hk]
 rw [e2] at h ⊢
 obtain ⟨h1,h2,h3⟩:=RS.take_back h
 have hb:=Zeg (s.take k true).1
 rw [h3] at hb
 rw [e1]
 exact ⟨h1,by rw [Zgt h3 (Nat.mod_eq_of_lt hb)];exact h2,hb⟩
theorem RS.num1_back (h:(s.num 1).2.err=0):s.err=0/\s.left=beb 1 (s.num 1).1++(s.num 1).2.left/\(s.num 1).1<256:=RS.num_back (k:=1) (by decide) h
theorem RS.num2_back (h:(s.num 2).2.err=0):s.err=0/\s.left=beb 2 (s.num 2).1++(s.num 2).2.left/\(s.num 2).1<65536:=RS.num_back (k:=2) (by decide) h
theorem RS.num4_back (h:(s.num 4).2.err=0):s.err=0/\s.left=beb 4 (s.num 4).1++(s.num 4).2.left/\(s.num 4).1<4294967296:=RS.num_back (k:=4) (by decide) h
theorem RS.num1_enc {n:Nat} (hn:n<256):RS.num ⟨beb 1 n++t,0⟩ 1=(n,⟨t,0⟩):=RS.num_enc (k:=1) (by decide) hn
theorem RS.num2_enc {n:Nat} (hn:n<65536):RS.num ⟨beb 2 n++t,0⟩ 2=(n,⟨t,0⟩):=RS.num_enc (k:=2) (by decide) hn
theorem RS.num4_enc {n:Nat} (hn:n<4294967296):RS.num ⟨beb 4 n++t,0⟩ 4=(n,⟨t,0⟩):=RS.num_enc (k:=4) (by decide) hn
theorem RS.name_enc {x:ByteArray} (hx:x.size<=255):RS.name ⟨Zap x++t,0⟩=(x,⟨t,0⟩):=by
 have e:Zap x++t=beb 1 x.size++(x.data.toList++t):=by unfold Zap;rw [List.append_assoc]
 unfold RS.name
 have h1:=RS.num1_enc (t:=x.data.toList++t) (n:=x.size) (by omega)
 rw [e]
 rw [h1]
 simp only
 rw [RS.take_enc (Zbd x)]
theorem RS.name_back (h:s.name.2.err=0):s.err=0/\s.left=Zap s.name.1++s.name.2.left/\s.name.1.size<=255:=by
 have h':((s.num 1).2.take ((s.num 1).1:Nat) true).2.err=0:=h
 obtain ⟨h1,h2,h3⟩:=RS.take_back h'
 obtain ⟨h4,h5,h6⟩:=RS.num1_back h1
 have hz:s.name.1.size=(s.num 1).1:=h3
 refine ⟨h4,?_,by rw [hz];omega⟩
 unfold Zap
 rw [hz,h5,List.append_assoc]
 congr 1
theorem RS.names_enc:∀ (ls:List ByteArray),(∀ x∈ls,x.size<=255)->RS.names ls.length ⟨ls.flatMap Zap++t,0⟩=(ls,⟨t,0⟩)
 | [],_=>rfl
 | x::ls,h=>by
   have h1:=RS.name_enc (t:=ls.flatMap Zap++t) (h x (by simp))
   have h2:=RS.names_enc ls fun y hy=>h y (by simp [hy])
   simp only [List.length_cons,RS.names,List.flatMap_cons,List.append_assoc]
   rw [h1]
   simp only
   rw [h2]
theorem RS.names_back:∀ (k:Nat) (s:RS),(RS.names k s).2.err=0->s.err=0/\s.left=(RS.names k s).1.flatMap Zap++(RS.names k s).2.left/\(RS.names k s).1.length=k/\∀ x∈(RS.names k s).1,x.size<=255
 | 0,s,h=>⟨h,by simp [RS.names],rfl,by simp [RS.names]⟩
 | k+1,s,h=>by
   obtain ⟨h1,h2,h3,h4⟩:=RS.names_back k s.name.2 h
   obtain ⟨h5,h6,h7⟩:=RS.name_back h1
   refine ⟨h5,?_,by simp [RS.names,h3],?_⟩
   · rw [h6,h2]
     simp [RS.names]
   intro x hx
   simp only [RS.names,List.mem_cons] at hx
   rcases hx with rfl | hx
   · exact h7
   exact h4 x hx
def GPr.Wr (p:GPr):Prop:=p.key.size<=255/\chk p.val=0/\p.val.Fits/\(enc p.val).length<=65535
theorem RS.raw2_enc (h:l.length<=65535):RS.raw2 ⟨beb 2 l.length++(l++t),0⟩=(l,⟨t,0⟩):=by
 unfold RS.raw2
 have h1:=RS.num2_enc (t:=l++t) (n:=l.length) (by omega)
 rw [h1]
 simp only
 rw [RS.take_enc rfl]
theorem RS.raw2_back (h:s.raw2.2.err=0):s.err=0/\s.left=beb 2 s.raw2.1.length++(s.raw2.1++s.raw2.2.left)/\s.raw2.1.length<=65535:=by
 have h':((s.num 2).2.take ((s.num 2).1:Nat) true).2.err=0:=h
 obtain ⟨h1,h2,h3⟩:=RS.take_back h'
 obtain ⟨h4,h5,h6⟩:=RS.num2_back h1
 have hz:s.raw2.1.length=(s.num 2).1:=h3
 refine ⟨h4,?_,by rw [hz];omega⟩
 rw [hz,h5]
 congr 1
theorem RS.prs_enc:∀ (ps:List GPr),(∀ p∈ps,p.Wr)->RS.prs ps.length ⟨ps.flatMap Zbj++t,0⟩=(some ps,⟨t,0⟩)
 | [],_=>rfl
 | p::ps,h=>by
   obtain ⟨a,b,c,d⟩:=h p (by simp)
   have h1:=RS.name_enc (t:=beb 2 (enc p.val).length++(enc p.val++(ps.flatMap Zbj++t))) a
   have h2:=RS.raw2_enc (t:=ps.flatMap Zbj++t) d
   have h3:=RS.prs_enc ps fun y hy=>h y (by simp [hy])
   have h4:=ZoB b c
   simp only [List.length_cons,RS.prs,List.flatMap_cons,List.append_assoc,Zbj]
   rw [h1]
   simp only
   rw [h2]
   simp only
   rw [h4,if_neg (by simp)]
   rw [show (List.flatMap Zbj ps)=ps.flatMap Zbj from rfl] at h3
   rw [h3]
   rfl
theorem RS.prs_back:∀ (k:Nat) (s:RS) (ps:List GPr),(RS.prs k s).1=some ps->(RS.prs k s).2.err=0->s.err=0/\s.left=ps.flatMap Zbj++(RS.prs k s).2.left/\ps.length=k/\∀ p∈ps,p.Wr
 | 0,s,ps,h,he=>by
   simp only [RS.prs,Option.some.injEq] at h he ⊢
   subst h
   exact ⟨he,rfl,rfl,by simp⟩
 | k+1,s,ps,h,he=>by
   simp only [RS.prs] at h he ⊢
   by_cases hd:(decA s.name.2.raw2.1).2≠0
   · rw [if_pos hd] at h;cases h
   rw [if_neg hd] at h he ⊢
   simp only at h he ⊢
   obtain ⟨ps',hp,rfl⟩:=Option.map_eq_some_iff.1 h
   obtain ⟨h1,h2,h3,h4⟩:=RS.prs_back k _ ps' hp he
   obtain ⟨h5,h6,h7⟩:=RS.raw2_back h1
   obtain ⟨h8,h9,h10⟩:=RS.name_back h5
   obtain ⟨d1,d2,d3⟩:=ZiV (Decidable.not_not.1 hd)
   refine ⟨h8,?_,by simp [h3],?_⟩
   · rw [h9,h6,h2]
     simp only [List.flatMap_cons,Zbj,d3,List.append_assoc]
   intro p hp'
   rcases List.mem_cons.1 hp' with rfl | hp'
   · exact ⟨h10,d1,d2,by simp only [d3];exact h7⟩
   exact h4 p hp'
theorem RS.props_enc {ps:List GPr} (hn:ps.length<=255) (h:∀ p∈ps,p.Wr):RS.props ⟨ZbD ps,0⟩=some ps:=by
 have h1:=RS.num1_enc (t:=ps.flatMap Zbj) (n:=ps.length) (by omega)
 have h2:=RS.prs_enc (t:=[]) ps h
 rw [List.append_nil] at h2
 unfold RS.props ZbD
 rw [h1]
 simp only
 rw [h2]
 simp
theorem RS.props_back {ps:List GPr} (h:s.props=some ps):s.err=0/\s.left=ZbD ps/\ps.length<=255/\∀ p∈ps,p.Wr:=by
 unfold RS.props at h
 split at h
 · rename_i hc
   obtain ⟨h1,h2,h3,h4⟩:=RS.prs_back _ _ _ h hc.1
   obtain ⟨h5,h6,h7⟩:=RS.num1_back h1
   have h2':(s.num 1).2.left=ps.flatMap Zbj:=by
    have:=h2
    rw [hc.2,List.append_nil] at this
    exact this
   refine ⟨h5,?_,by rw [h3];omega,h4⟩
   unfold ZbD
   rw [h6,h2',h3]
 cases h
end rs
def Id32 (n:Int):Prop:=0<=n/\n<4294967296
theorem ZeD {n:Int} (h:Id32 n):u64 n<4294967296/\((u64 n:Nat):Int)=n:=by
 unfold Id32 at h
 unfold u64
 refine ⟨?_,?_⟩
 · omega
 omega
theorem Zid {n:Nat} (h:n<18446744073709551616):u64 (n:Int)=n:=by unfold u64;omega
structure ZaO.Wr (x:ZaO):Prop where
 id:Id32 x.id
 n:x.labels.length<=255
 lab:∀ l∈x.labels,l.size<=255
 np:x.props.length<=255
 pr:∀ p∈x.props,p.Wr
structure GRel.Wr (x:GRel):Prop where
 id:Id32 x.id
 src:Id32 x.src
 dst:Id32 x.dst
 type:x.type.size<=255
 np:x.props.length<=255
 pr:∀ p∈x.props,p.Wr
theorem Zpw {x:ZaO} (h:x.Wr):pNd (Zbr x)=some x:=by
 obtain ⟨i1,i2⟩:=ZeD h.id
 have h1:=RS.num4_enc (t:=beb 1 x.labels.length++(x.labels.flatMap Zap++ZbD x.props)) (n:=u64 x.id) i1
 have h2:=RS.num1_enc (t:=x.labels.flatMap Zap++ZbD x.props) (n:=x.labels.length) (by have:=h.n;omega)
 have h3:=RS.names_enc (t:=ZbD x.props) x.labels h.lab
 have h4:=RS.props_enc h.np h.pr
 unfold pNd Zbr
 rw [h1]
 simp only
 rw [h2]
 simp only
 rw [h3]
 simp only
 rw [h4,i2]
 rfl
theorem ZoC {l:List UInt8} {x:ZaO} (h:pNd l=some x):Zbr x=l/\x.Wr:=by
 unfold pNd at h
 obtain ⟨ps,hp,rfl⟩:=Option.map_eq_some_iff.1 h
 obtain ⟨a1,a2,a3,a4⟩:=RS.props_back hp
 obtain ⟨b1,b2,b3,b4⟩:=RS.names_back _ _ a1
 obtain ⟨c1,c2,c3⟩:=RS.num1_back b1
 obtain ⟨d1,d2,d3⟩:=RS.num4_back c1
 refine ⟨?_,⟨⟨Int.natCast_nonneg _,by simp only;omega⟩,by simp only;rw [b3];omega,b4,a3,a4⟩⟩
 unfold Zbr
 simp only at d2 ⊢
 rw [Zid (by exact Nat.lt_trans d3 (by decide)),b3]
 refine Eq.trans ?_ d2.symm
 congr 1
 refine Eq.trans ?_ c2.symm
 congr 1
 rw [b2,a2]
theorem Zpx {x:GRel} (h:x.Wr):pRl (Zbx x)=some x:=by
 obtain ⟨i1,i2⟩:=ZeD h.id
 obtain ⟨j1,j2⟩:=ZeD h.src
 obtain ⟨k1,k2⟩:=ZeD h.dst
 have h1:=RS.num4_enc (t:=beb 4 (u64 x.src)++(beb 4 (u64 x.dst)++(Zap x.type++ZbD x.props))) (n:=u64 x.id) i1
 have h2:=RS.num4_enc (t:=beb 4 (u64 x.dst)++(Zap x.type++ZbD x.props)) (n:=u64 x.src) j1
 have h3:=RS.num4_enc (t:=Zap x.type++ZbD x.props) (n:=u64 x.dst) k1
 have h4:=RS.name_enc (t:=ZbD x.props) h.type
 have h5:=RS.props_enc h.np h.pr
 unfold pRl Zbx
 rw [h1]
 simp only
 rw [h2]
 simp only
 rw [h3]
 simp only
 rw [h4]
 simp only
 rw [h5,i2,j2,k2]
 rfl
theorem ZoD {l:List UInt8} {x:GRel} (h:pRl l=some x):Zbx x=l/\x.Wr:=by
 unfold pRl at h
 obtain ⟨ps,hp,rfl⟩:=Option.map_eq_some_iff.1 h
 obtain ⟨a1,a2,a3,a4⟩:=RS.props_back hp
 obtain ⟨b1,b2,b3⟩:=RS.name_back a1
 obtain ⟨c1,c2,c3⟩:=RS.num4_back b1
 obtain ⟨d1,d2,d3⟩:=RS.num4_back c1
 obtain ⟨f1,f2,f3⟩:=RS.num4_back d1
 refine ⟨?_,⟨⟨Int.natCast_nonneg _,by simp only;omega⟩,⟨Int.natCast_nonneg _,by simp only;omega⟩,⟨Int.natCast_nonneg _,by simp only;omega⟩,b3,a3,a4⟩⟩
 unfold Zbx
 simp only at f2 ⊢
 rw [Zid (by exact Nat.lt_trans f3 (by decide)),Zid (by exact Nat.lt_trans d3 (by decide)),Zid (by exact Nat.lt_trans c3 (by decide))]
 refine Eq.trans ?_ f2.symm
 congr 1
 refine Eq.trans ?_ d2.symm
 congr 1
 refine Eq.trans ?_ c2.symm
 congr 1
 rw [b2,a2]
end Go.Proofs.YtkopcinhbjimiaaGreatDoor
namespace Go.Proofs.YtkopcinhbjimiaaGreatDoor
open Go.RowKit
structure FR where
 type:Nat
 data:List UInt8
 A:Option Addr
 n:Nat
 c:Nat
def FR.cells (x:FR):List Value:=[.int .i64 (x.type:Int),.slice x.A x.n x.c]
def FR.dat (x:FR):GFr:=⟨x.type,x.data⟩
theorem FR.two (x:FR):x.cells.length=2:=rfl
theorem FR.one (x:FR):∀ u∈x.cells,u.oneCell'=true:=by
 intro u hu
 simp only [FR.cells,List.mem_cons,List.not_mem_nil,or_false] at hu
 rcases hu with rfl | rfl <;> rfl
structure ZcQ (w:World) (B:Nat) (x:FR):Prop where
 row:w.ownsRow B 5 1 (.slice x.A x.n x.c) x.n (x.data.map u8v)
 ty:x.type<=255
 len:x.data.length=x.n
 max:x.n<=1048576
section
variable {w w':World} {B B':Nat} {v:Value} {fs:List FR} {x:FR}
theorem ZcQ.same (h:ZcQ w B x) (hu:Same w w'):ZcQ w' B x:=⟨Zaa h.row hu,h.ty,h.len,h.max⟩
theorem ZcQ.upd {S:Nat->Prop} (h:ZcQ w B x) (hu:Upd S w w') (hs:∀ g,(Value.slice x.A x.n x.c).ownBlock=some g->¬ S g):ZcQ w' B x:=⟨Zam h.row hu hs,h.ty,h.len,h.max⟩
theorem ZcQ.type {S:Nat->Prop} {e':TypeId} (h:ZcQ w B x) (hu:Upd S w w') (hS:∀ g,g<w.heap.size->S g->OfT w e' g) (hne:5≠e'):ZcQ w' B x:=⟨ZaT h.row hu hS hne,h.ty,h.len,h.max⟩
end
theorem Zmf:(Tryz.prog.info? 84).map (fun i=>(i.zero,i.size,i.bytes))=some (some (.agg #[.int .i64 0,.slice none 0 0]),2,32):=by kernel_rfl
theorem Row.fr (w:World) (x:FR):Row (w.alloc (.cells x.cells.toArray 84)) (fun b=>b=w.heap.size) 2 (some ⟨w.heap.size,0,none⟩) 1 1 x.cells :=
 Row.of_blk (Blk.new w _ x.cells.toArray) rfl (Nat.le_refl _) (by simp [maxLen])
theorem Zmg {l:List UInt8} {N:Nat} (hN:be ((l.drop 1).take 4)=N) (h:N+9<=l.length):Zcu (be (l.take 1)) ((l.drop 5).take N)=l.take (N+5):=by
 have hl1:(l.take 1).length=1:=by rw [List.length_take];omega
 have hl4:((l.drop 1).take 4).length=4:=by rw [List.length_take,List.length_drop];omega
 have hlN:((l.drop 5).take N).length=N:=by rw [List.length_take,List.length_drop];omega
 have b1:=Zeg (l.take 1)
 have b4:=Zeg ((l.drop 1).take 4)
 rw [hl1] at b1
 rw [hl4,hN] at b4
 unfold Zcu
 rw [hlN,Zgt hl1 (Nat.mod_eq_of_lt b1),Zgt hl4 (by rw [hN];exact Nat.mod_eq_of_lt b4)]
 have e1:l.take 1++((l.drop 1).take 4++(l.drop 5).take N)=l.take (N+5):=by
  rw [show N+5=1+(4+N) by omega,List.take_add,List.take_add,List.drop_drop]
 exact e1
theorem ZoE {l:List UInt8} {N:Nat} (hN:be ((l.drop 1).take 4)=N) (h:N+9<=l.length):Zai (be (l.take 1)) ((l.drop 5).take N)=l.take (N+9)↔be ((l.drop (N+5)).take 4)=(crcS (l.take (N+5))).toNat:=by
 have hl4:((l.drop (N+5)).take 4).length=4:=by rw [List.length_take,List.length_drop];omega
 have hlt:=(crcS (l.take (N+5))).isLt
 have ea:l.take (N+9)=l.take (N+5)++(l.drop (N+5)).take 4:=by rw [show N+9=(N+5)+4 by omega];exact List.take_add
 unfold Zai
 rw [Zmg hN h,ea]
 constructor
 · intro e
   have e2:=List.append_cancel_left e
   rw [<- e2,ZdZ]
   exact Nat.mod_eq_of_lt (by omega)
 intro e
 congr 1
 exact Zgt hl4 (by rw [e];exact Nat.mod_eq_of_lt (by omega))
theorem Zng {l:List UInt8} {N:Nat} (hN:be ((l.drop 1).take 4)=N) (h1:N<=1048576) (h:N+9<=l.length) (he:be ((l.drop (N+5)).take 4)=(crcS (l.take (N+5))).toNat):oneP l=.ok (some (⟨be (l.take 1),(l.drop 5).take N⟩,l.drop (N+9))):=by
 unfold oneP
 rw [hN,if_neg (by omega),if_neg (by omega),if_neg (by omega),if_neg (by simp [he])]
end Go.Proofs.YtkopcinhbjimiaaGreatDoor
namespace Go.Proofs.YtkopcinhbjimiaaGreatDoor
theorem ZeE {l r:List UInt8} {f:GFr} (h:oneP l=.ok (some (f,r))):Zai f.type f.data=l.take (f.data.length+9)/\r=l.drop (f.data.length+9)/\f.data.length+9<=l.length/\f.type<=255/\f.data.length<=1048576:=by
 unfold oneP at h
 split at h
 · cases h
 split at h
 · cases h
 split at h
 · cases h
 split at h
 · cases h
 rename_i g1 g2 g3 g4
 injection h with h
 injection h with h
 injection h with h1 h2
 have hl:f.data.length=be ((l.drop 1).take 4):=by
  rw [<- h1]
  simp only [List.length_take,List.length_drop] at *
  omega
 have ht:f.type<=255:=by
  rw [<- h1]
  have:=Zeg (l.take 1)
  have h1':(l.take 1).length<=1:=List.length_take_le _ _
  have h2':256 ^ (l.take 1).length<=256 ^ 1:=Nat.pow_le_pow_right (by omega) h1'
  simp only
  omega
 refine ⟨?_,by rw [hl];exact h2.symm,by omega,ht,by omega⟩
 rw [hl,<-(ZoE rfl (by omega)).2 (Decidable.not_not.1 g4),<-h1]
theorem Zge {t:Nat} {d r:List UInt8} (ht:t<=255) (hd:d.length<=1048576):oneP (Zai t d++r)=.ok (some (⟨t,d⟩,r)):=by
 have hH:Zcu t d=beb 1 t++(beb 4 d.length++d):=rfl
 have l1:=Zab 1 t
 have l4:=Zab 4 d.length
 have lS:=Zab 4 (crcS (Zcu t d)).toNat
 have hHl:(Zcu t d).length=d.length+5:=by rw [hH];simp only [List.length_append,l1,l4];omega
 have hl:(Zai t d++r).length=d.length+9+r.length:=by unfold Zai;simp only [List.length_append,hHl,lS]
 have hlist:Zai t d++r=beb 1 t++(beb 4 d.length++(d++(beb 4 (crcS (Zcu t d)).toNat++r))):=by unfold Zai;rw [hH];simp only [List.append_assoc]
 have hN:be (((Zai t d++r).drop 1).take 4)=d.length:=by
  rw [hlist,List.drop_append_of_le_length (by omega),List.drop_of_length_le (by omega),List.nil_append,List.take_append_of_le_length (by omega),List.take_of_length_le (by omega),ZdZ]
  exact Nat.mod_eq_of_lt (by omega)
 have hT:be ((Zai t d++r).take 1)=t:=by
  rw [hlist,List.take_append_of_le_length (by omega),List.take_of_length_le (by omega),ZdZ]
  exact Nat.mod_eq_of_lt (by omega)
 have hD:((Zai t d++r).drop 5).take d.length=d:=by
  rw [hlist,<-List.append_assoc,List.drop_append_of_le_length (by simp only [List.length_append,l1,l4];omega),List.drop_of_length_le (by simp only [List.length_append,l1,l4];omega),List.nil_append,List.take_append_of_le_length (Nat.le_refl _),List.take_length]
 have hR:(Zai t d++r).drop (d.length+9)=r:=by
  have hp:(Zai t d).length=d.length+9:=by unfold Zai;simp only [List.length_append,hHl,lS]
  rw [<- hp,List.drop_left]
 have hS:be (((Zai t d++r).drop (d.length+5)).take 4)=(crcS ((Zai t d++r).take (d.length+5))).toNat:=by
  have e:Zai t d++r=Zcu t d++(beb 4 (crcS (Zcu t d)).toNat++r):=by unfold Zai;rw [List.append_assoc]
  rw [e,<-hHl,List.drop_left,List.take_left,List.take_append_of_le_length (by omega),List.take_of_length_le (by omega),ZdZ]
  have:=(crcS (Zcu t d)).isLt
  exact Nat.mod_eq_of_lt (by omega)
 rw [Zng hN hd (by omega) hS,hT,hD,hR]
theorem ZbR:Zae []=([],[],0):=ZbS rfl
theorem Zdb:Zas.length=8:=rfl
theorem ZaE (t:Nat) (d:List UInt8):(Zai t d).length=d.length+9:=by
 unfold Zai Zcu
 simp only [List.length_append,Zab]
 omega
theorem ZbH (n r w:Nat) (all:List UInt8):(ZaY n r w all).length=16:=by
 unfold ZaY
 simp only [List.length_append,Zab]
theorem Zbn (s:ByteArray):(Zap s).length=1+s.size:=by
 unfold Zap
 rw [List.length_append,Zab,Zbd]
theorem Zll (p:GPr) (l:List GPr):psW (p::l)=(enc p.val).length+psW l:=by simp [psW]
theorem Zdc (l m:List GPr):psW (l++m)=psW l+psW m:=by simp [psW]
structure Lin {κ:Type} (lt:κ->κ->Prop):Prop where
 irr:∀ a,¬ lt a a
 tr:∀ {a b c},lt a b->lt b c->lt a c
 tot:∀ a b,lt a b\/a=b\/lt b a
section
variable {α κ:Type} {lt:κ->κ->Prop} {key:α->κ}
theorem Lin.asym (L:Lin lt) {a b:κ} (h:lt a b):¬ lt b a:=fun h'=>L.irr _ (L.tr h h')
theorem Lin.le_tr (L:Lin lt) {a b c:κ} (h:¬ lt b a) (h':¬ lt c b):¬ lt c a:=fun hc=>by
 rcases L.tot a b with hab | rfl | hba
 · exact h' (L.tr hc hab)
 · exact h' hc
 exact h hba
theorem Lin.lt_le (L:Lin lt) {a b c:κ} (h:lt a b) (h':¬ lt c b):lt a c:=by
 rcases L.tot b c with hbc | rfl | hcb
 · exact L.tr h hbc
 · exact h
 exact absurd hcb h'
theorem Lin.le_lt (L:Lin lt) {a b c:κ} (h:¬ lt b a) (h':lt b c):lt a c:=by
 rcases L.tot a b with hab | rfl | hba
 · exact L.tr hab h'
 · exact h'
 exact absurd hba h
def Zaj (lt:κ->κ->Prop) (key:α->κ) (l:List α):Prop:=l.Pairwise fun a b=>¬ lt (key b) (key a)
theorem Zaj.of_app {u v:List α} (h:Zaj lt key (u++v)):Zaj lt key u/\Zaj lt key v/\∀ x∈u,∀ y∈v,¬ lt (key y) (key x):=List.pairwise_append.1 h
theorem Zaj.app {u v:List α} (h1:Zaj lt key u) (h2:Zaj lt key v) (h3:∀ x∈u,∀ y∈v,¬ lt (key y) (key x)):Zaj lt key (u++v):=List.pairwise_append.2 ⟨h1,h2,h3⟩
theorem Zaj.nil:Zaj lt key ([]:List α):=List.Pairwise.nil
theorem Zaj.one (x:α):Zaj lt key [x]:=List.pairwise_singleton _ _
theorem Zaj.ins {P1 P2:List α} {x:α} (hs:Zaj lt key (P1++P2)) (h1:∀ y∈P1,¬ lt (key x) (key y)) (h2:∀ y∈P2,¬ lt (key y) (key x)):Zaj lt key (P1++x::P2):=by
 obtain ⟨a,b,c⟩:=hs.of_app
 refine a.app (List.pairwise_cons.2 ⟨h2,b⟩) fun y hy z hz=>?_
 rcases List.mem_cons.1 hz with rfl | hz
 · exact h1 y hy
 exact c y hy z hz
theorem Zaj.last_le {P:List α} {y:α} (L:Lin lt) (hs:Zaj lt key (P++[y])):∀ z∈P++[y],¬ lt (key y) (key z):=by
 intro z hz
 rcases List.mem_append.1 hz with hz | hz
 · exact hs.of_app.2.2 z hz y (by simp)
 obtain rfl:z=y:=by simpa using hz
 exact L.irr _
theorem Zaj.cut_lt {v:List α} {i:Nat} {x:κ} (L:Lin lt) (hs:Zaj lt key v) (hi:i<=v.length) (h1:∀ y,0<i->v[i-1]?=some y->lt (key y) x) (h2:∀ y,v[i]?=some y->¬ lt (key y) x) :
 (∀ y∈v.take i,lt (key y) x)/\∀ y∈v.drop i,¬ lt (key y) x:=by
 constructor
 · intro y hy
   obtain ⟨j,hj,rfl⟩:=List.getElem_of_mem hy
   have hj':j<i/\j<v.length:=by rw [List.length_take] at hj;omega
   rw [List.getElem_take]
   have h3:=h1 (v[i-1]'(by omega)) (by omega) (List.getElem?_eq_getElem (by omega))
   by_cases he:j=i-1
   · subst he;exact h3
   exact L.le_lt (List.pairwise_iff_getElem.1 hs j (i-1) (by omega) (by omega) (by omega)) h3
 intro y hy
 obtain ⟨j,hj,rfl⟩:=List.getElem_of_mem hy
 have hj':i+j<v.length:=by rw [List.length_drop] at hj;omega
 rw [List.getElem_drop]
 have h3:=h2 (v[i]'(by omega)) (List.getElem?_eq_getElem (by omega))
 by_cases he:j=0
 · subst he;exact h3
 exact L.le_tr h3 (List.pairwise_iff_getElem.1 hs i (i+j) (by omega) (by omega) (by omega))
theorem Zaj.cut_le {v:List α} {i:Nat} {x:κ} (L:Lin lt) (hs:Zaj lt key v) (hi:i<=v.length) (h1:∀ y,0<i->v[i-1]?=some y->¬ lt x (key y)) (h2:∀ y,v[i]?=some y->lt x (key y)) :
 (∀ y∈v.take i,¬ lt x (key y))/\∀ y∈v.drop i,lt x (key y):=by
 constructor
 · intro y hy
   obtain ⟨j,hj,rfl⟩:=List.getElem_of_mem hy
   have hj':j<i/\j<v.length:=by rw [List.length_take] at hj;omega
   rw [List.getElem_take]
   have h3:=h1 (v[i-1]'(by omega)) (by omega) (List.getElem?_eq_getElem (by omega))
   by_cases he:j=i-1
   · subst he;exact h3
   exact L.le_tr (List.pairwise_iff_getElem.1 hs j (i-1) (by omega) (by omega) (by omega)) h3
 intro y hy
 obtain ⟨j,hj,rfl⟩:=List.getElem_of_mem hy
 have hj':i+j<v.length:=by rw [List.length_drop] at hj;omega
 rw [List.getElem_drop]
 have h3:=h2 (v[i]'(by omega)) (List.getElem?_eq_getElem (by omega))
 by_cases he:j=0
 · subst he;exact h3
 exact L.lt_le h3 (List.pairwise_iff_getElem.1 hs i (i+j) (by omega) (by omega) (by omega))
variable [DecidableEq κ]
def Zah (key:α->κ) (l m:List α):Prop:=∀ k:κ,(l.filter fun x=>decide (key x=k))=m.filter fun x=>decide (key x=k)
theorem Zah.refl (l:List α):Zah key l l:=fun _=>rfl
theorem Zah.symm {l m:List α} (h:Zah key l m):Zah key m l:=fun k=>(h k).symm
theorem Zah.trans {l m n:List α} (h:Zah key l m) (h':Zah key m n):Zah key l n:=fun k=>(h k).trans (h' k)
theorem Zah.app {l m l' m':List α} (h:Zah key l m) (h':Zah key l' m'):Zah key (l++l') (m++m'):=fun k=>by
 rw [List.filter_append,List.filter_append,h k,h' k]
theorem Zah.mem {l m:List α} (h:Zah key l m) {x:α} (hx:x∈l):x∈m:=by
 have h1:x∈l.filter fun y=>decide (key y=key x):=List.mem_filter.2 ⟨hx,by simp⟩
 rw [h] at h1
 exact (List.mem_filter.1 h1).1
theorem Zah.swap {u v:List α} (h:∀ x∈u,∀ y∈v,key x≠key y):Zah key (u++v) (v++u):=fun k=>by
 rw [List.filter_append,List.filter_append]
 by_cases hk:∃ x∈u,key x=k
 · obtain ⟨x,hx,rfl⟩:=hk
   have h2:(v.filter fun y=>decide (key y=key x))=[]:=List.filter_eq_nil_iff.2 fun y hy=>by
    have:=h x hx y hy
    simp only [decide_eq_true_eq]
    exact fun e=>this e.symm
   rw [h2,List.append_nil,List.nil_append]
 have h2:(u.filter fun y=>decide (key y=k))=[]:=List.filter_eq_nil_iff.2 fun y hy=>by
  simp only [decide_eq_true_eq]
  exact fun e=>hk ⟨y,hy,e⟩
 rw [h2,List.append_nil,List.nil_append]
theorem Zah.uncons {x:α} {l m:List α} (h:Zah key (x::l) m):∃ m1 m2,m=m1++x::m2/\(∀ y∈m1,key y≠key x)/\Zah key l (m1++m2):=by
 have h1:=h (key x)
 rw [List.filter_cons_of_pos (by simp)] at h1
 obtain ⟨m1,m2,rfl,h2,_,_⟩:=List.filter_eq_cons_iff.1 h1.symm
 have h3:∀ y∈m1,key y≠key x:=fun y hy e=>h2 y hy (by simpa using e)
 refine ⟨m1,m2,rfl,h3,fun k=>?_⟩
 have h4:=(Zah.swap (key:=key) (u:=m1) (v:=[x]) fun y hy z hz=>by
  obtain rfl:z=x:=by simpa using hz
  exact h3 y hy).app (Zah.refl m2)
 rw [List.append_assoc,List.append_assoc] at h4
 have h5:=(h.trans h4) k
 simp only [List.cons_append,List.nil_append] at h5
 by_cases hk:key x=k
 · rw [List.filter_cons_of_pos (by simpa using hk),List.filter_cons_of_pos (by simpa using hk)] at h5
   exact (List.cons.inj h5).2
 rw [List.filter_cons_of_neg (by simpa using hk),List.filter_cons_of_neg (by simpa using hk)] at h5
 exact h5
theorem Zah.perm:∀ {l m:List α},Zah key l m->l.Perm m
 | [],m,h=>by
   cases m with
   | nil=>exact List.Perm.refl _
   | cons y m=>have:=h.symm.mem (x:=y) (by simp);simp at this
 | x::l,m,h=>by
   obtain ⟨m1,m2,rfl,_,h2⟩:=h.uncons
   exact (List.Perm.cons x h2.perm).trans List.perm_middle.symm
theorem Zah.length {l m:List α} (h:Zah key l m):l.length=m.length:=h.perm.length_eq
theorem Zaj.unique (L:Lin lt):∀ {l m:List α},Zaj lt key l->Zaj lt key m->Zah key l m->l=m
 | [],m,_,_,h=>by
   have:=h.length
   simp only [List.length_nil] at this
   exact (List.length_eq_zero_iff.1 this.symm).symm
 | x::l,m,hl,hm,h=>by
   obtain ⟨m1,m2,rfl,h1,h2⟩:=h.uncons
   have hx:=List.pairwise_cons.1 hl
   cases m1 with
   | nil=>exact congrArg _ (Zaj.unique L hx.2 (List.pairwise_cons.1 hm).2 h2)
   | cons y m1 =>
     exfalso
     have h3:=h1 y (by simp)
     have hy:y∈l:=h2.symm.mem (by simp)
     have h4:=hx.1 y hy
     have h5:=(List.pairwise_cons.1 hm).1 x (by simp)
     rcases L.tot (key x) (key y) with h | h | h
     · exact h5 h
     · exact h3 h.symm
     exact h4 h
theorem Zfd {u1 u2 v1 v2 w1 w2:List α} (L:Lin lt) (hu:Zaj lt key (u1++u2)) (hv:Zaj lt key (v1++v2)) (h1:∀ x∈u1,∀ y∈v2,¬ lt (key y) (key x)) (h2:∀ x∈u2,∀ y∈v1,lt (key y) (key x))
 (s1:Zaj lt key w1) (m1:Zah key w1 (u1++v1)) (s2:Zaj lt key w2) (m2:Zah key w2 (u2++v2)):Zaj lt key (w1++w2)/\Zah key (w1++w2) ((u1++u2)++(v1++v2)):=by
 obtain ⟨_,_,hu3⟩:=hu.of_app
 obtain ⟨_,_,hv3⟩:=hv.of_app
 constructor
 · refine s1.app s2 fun x hx y hy=>?_
   rcases List.mem_append.1 (m1.mem hx) with hx | hx <;> rcases List.mem_append.1 (m2.mem hy) with hy | hy
   · exact hu3 x hx y hy
   · exact h1 x hx y hy
   · exact L.asym (h2 y hy x hx)
   exact hv3 x hx y hy
 refine (m1.app m2).trans ?_
 have h4:Zah key (v1++u2) (u2++v1):=Zah.swap fun x hx y hy e=>by
  have:=h2 y hy x hx
  rw [e] at this
  exact L.irr _ this
 have h5:=(((Zah.refl u1).app h4).app (Zah.refl v2))
 simpa only [List.append_assoc] using h5
theorem Zah.back (L:Lin lt) (P1 P2:List α) (x:α) (h:∀ y∈P2,lt (key x) (key y)):Zah key (P1++x::P2) (P1++P2++[x]):=by
 have h1:Zah key ([x]++P2) (P2++[x]):=Zah.swap fun z hz y hy e=>by
  obtain rfl:z=x:=by simpa using hz
  have:=h y hy
  rw [e] at this
  exact L.irr _ this
 have h2:=(Zah.refl P1).app h1
 simpa only [List.append_assoc,List.cons_append,List.nil_append] using h2
theorem Zah.forth (L:Lin lt) (P1 P2:List α) (x:α) (h:∀ y∈P1,lt (key y) (key x)):Zah key (P1++x::P2) (x::(P1++P2)):=by
 have h1:Zah key (P1++[x]) ([x]++P1):=Zah.swap fun y hy z hz e=>by
  obtain rfl:z=x:=by simpa using hz
  have:=h y hy
  rw [e] at this
  exact L.irr _ this
 have h2:=h1.app (Zah.refl P2)
 simpa only [List.append_assoc,List.cons_append,List.nil_append] using h2
end
theorem ZaC:Lin (fun a b:Int=>a<b):=⟨fun _=>by omega,fun h h'=>by omega,fun _ _=>by omega⟩
def ltS (a b:ByteArray):Prop:=a.data.toList<b.data.toList
theorem ZiW {x y:ByteArray} (h:x.data.toList=y.data.toList):x=y:=by
 cases x;cases y
 simp only at h
 congr 1
 exact Array.toList_inj.1 h
theorem Zay:Lin ltS:=⟨fun a=>List.lt_irrefl _,fun h h'=>List.lt_trans h h',fun a b=>by
 unfold ltS
 rcases Classical.em (a.data.toList<b.data.toList) with h | h
 · exact .inl h
 rcases Classical.em (b.data.toList<a.data.toList) with h' | h'
 · exact .inr (.inr h')
 exact .inr (.inl (ZiW (List.le_antisymm (List.not_lt.1 h') (List.not_lt.1 h))))⟩
theorem ZoF (a b:ByteArray):Op.bytesLess a.toList b.toList=true↔ltS a b:=by
 rw [Go.Proofs.bytesLess_eq,decide_eq_true_eq,ByteArray.toList_eq,ByteArray.toList_eq]
 exact Iff.rfl
theorem ZgB (a b:ByteArray):(a.toList==b.toList)=true↔a=b:=by
 rw [beq_iff_eq,ByteArray.toList_eq,ByteArray.toList_eq]
 exact ⟨ZiW,fun h=>by rw [h]⟩
theorem Zke (a b:ByteArray):(Op.bytesLess a.toList b.toList || a.toList==b.toList)=true↔¬ ltS b a:=by
 rw [Bool.or_eq_true,ZoF,ZgB]
 constructor
 · rintro (h | rfl)
   · exact Zay.asym h
   exact Zay.irr _
 intro h
 rcases Zay.tot a b with h1 | h1 | h1
 · exact .inl h1
 · exact .inr h1
 exact absurd h1 h
structure Srt (l m:List ByteArray):Prop where
 sorted:m.Pairwise ltS
 mem:∀ x,x∈m↔x∈l
structure MInv (a b:List ByteArray) (i j:Nat) (out:List ByteArray):Prop where
 sorted:out.Pairwise ltS
 mem:∀ x,x∈out↔x∈a.take i\/x∈b.take j
 le:∀ x∈out,∀ y,y∈a.drop i\/y∈b.drop j->¬ ltS y x
structure Pick (a b:List ByteArray) (i j:Nat) (x:ByteArray) (i' j':Nat):Prop where
 least:∀ y,y∈a.drop i\/y∈b.drop j->¬ ltS y x
 take:∀ y,(y∈a.take i'\/y∈b.take j')↔((y∈a.take i\/y∈b.take j)\/y=x)
 sub:∀ y,y∈a.drop i'\/y∈b.drop j'->y∈a.drop i\/y∈b.drop j
 here:x∈a.drop i\/x∈b.drop j
theorem MInv.start (a b:List ByteArray):MInv a b 0 0 []:=⟨List.Pairwise.nil,by simp,by simp⟩
theorem Zlm {a:List ByteArray} (h:a.Pairwise ltS) {i:Nat} {x:ByteArray} (hx:a[i]?=some x):∀ y∈a.drop i,¬ ltS y x:=by
 intro y hy
 obtain ⟨hi,rfl⟩:=List.getElem?_eq_some_iff.1 hx
 rw [List.drop_eq_getElem_cons hi] at hy
 have h1:(a.drop i).Pairwise ltS:=h.sublist (List.drop_sublist _ _)
 rw [List.drop_eq_getElem_cons hi] at h1
 rcases List.mem_cons.1 hy with rfl | hy
 · exact Zay.irr _
 exact Zay.asym ((List.pairwise_cons.1 h1).1 y hy)
theorem Zie {a:List ByteArray} {i:Nat} {x:ByteArray} (hx:a[i]?=some x) (y:ByteArray):y∈a.take (i+1)↔y∈a.take i\/y=x:=by
 rw [List.take_add_one,hx]
 simp
theorem Zif {a:List ByteArray} {i:Nat} (y:ByteArray) (h:y∈a.drop (i+1)):y∈a.drop i:=by
 rw [<- List.drop_drop] at h
 exact List.mem_of_mem_drop h
theorem Zkf {a:List ByteArray} {i:Nat} {x:ByteArray} (hx:a[i]?=some x):x∈a.drop i:=by
 obtain ⟨hi,rfl⟩:=List.getElem?_eq_some_iff.1 hx
 rw [List.drop_eq_getElem_cons hi]
 exact List.mem_cons_self ..
theorem Pick.left {a b:List ByteArray} {i j:Nat} {x:ByteArray} (ha:a.Pairwise ltS) (hb:b.Pairwise ltS) (hx:a[i]?=some x) (h:∀ y,b[j]?=some y->¬ ltS y x):Pick a b i j x (i+1) j:=by
 refine ⟨fun y hy=>?_,fun y=>?_,fun y hy=>?_,.inl (Zkf hx)⟩
 · rcases hy with hy | hy
   · exact Zlm ha hx y hy
   cases hb':b[j]? with
   | none =>
     rw [List.drop_of_length_le (List.getElem?_eq_none_iff.1 hb')] at hy
     cases hy
   | some z=>exact Zay.le_tr (h z hb') (Zlm hb hb' y hy)
 · rw [Zie hx]
   constructor
   · rintro ((h | h) | h)
     · exact .inl (.inl h)
     · exact .inr h
     exact .inl (.inr h)
   rintro ((h | h) | h)
   · exact .inl (.inl h)
   · exact .inr h
   exact .inl (.inr h)
 exact hy.imp (Zif y) id
theorem Pick.right {a b:List ByteArray} {i j:Nat} {x:ByteArray} (ha:a.Pairwise ltS) (hb:b.Pairwise ltS) (hx:b[j]?=some x) (h:∀ y,a[i]?=some y->¬ ltS y x):Pick a b i j x i (j+1):=by
 have h1:=Pick.left hb ha hx h
 exact ⟨fun y hy=>h1.least y hy.symm,fun y=>by rw [or_comm,h1.take,or_comm (a:=y∈b.take j)],fun y hy=>(h1.sub y hy.symm).symm,h1.here.symm⟩
theorem MInv.skip {a b:List ByteArray} {i j i' j':Nat} {x:ByteArray} {out:List ByteArray} (h:MInv a b i j out) (hp:Pick a b i j x i' j') (hx:x∈out):MInv a b i' j' out :=
 ⟨h.sorted,fun y=>by
  rw [hp.take,<-h.mem]
  exact ⟨.inl,fun hh=>by rcases hh with hh | rfl;· exact hh
                         exact hx⟩,fun y hy z hz=>h.le y hy z (hp.sub z hz)⟩
theorem MInv.snoc {a b:List ByteArray} {i j i' j':Nat} {x:ByteArray} {out:List ByteArray} (h:MInv a b i j out) (hp:Pick a b i j x i' j') (hx:x ∉ out):MInv a b i' j' (out++[x]):=by
 refine ⟨List.pairwise_append.2 ⟨h.sorted,List.pairwise_singleton _ _,fun y hy z hz=>?_⟩,fun y=>?_,fun y hy z hz=>?_⟩
 · obtain rfl:z=x:=by simpa using hz
   have h1:=h.le y hy z hp.here
   rcases Zay.tot y z with h2 | h2 | h2
   · exact h2
   · exact absurd (h2 ▸ hy) hx
   exact absurd h2 h1
 · rw [hp.take,<-h.mem]
   simp
 rcases List.mem_append.1 hy with hy | hy
 · exact h.le y hy z (hp.sub z hz)
 obtain rfl:y=x:=by simpa using hy
 exact hp.least z (hp.sub z hz)
theorem MInv.fresh {a b:List ByteArray} {i j i' j':Nat} {x y:ByteArray} {out:List ByteArray} (h:MInv a b i j (out++[y])) (hp:Pick a b i j x i' j') (hne:x≠y):x ∉ out++[y]:=by
 intro hx
 rcases List.mem_append.1 hx with hx | hx
 · have h1:=(List.pairwise_append.1 h.sorted).2.2 x hx y (by simp)
   exact h.le y (by simp) x hp.here h1
 exact hne (by simpa using hx)
theorem MInv.done {a b la lb:List ByteArray} {i j:Nat} {out:List ByteArray} (h:MInv a b i j out) (hi:a.length<=i) (hj:b.length<=j) (ha:Srt la a) (hb:Srt lb b):Srt (la++lb) out :=
 ⟨h.sorted,fun x=>by rw [h.mem,List.take_of_length_le hi,List.take_of_length_le hj,ha.mem,hb.mem,List.mem_append]⟩
end Go.Proofs.YtkopcinhbjimiaaGreatDoor
namespace Go.Proofs.YtkopcinhbjimiaaGreatDoor
open Go.RowKit
def Zek (c:UInt8):Bool:=(decide (97<=c.toNat) && decide (c.toNat<=122)) || (decide (65<=c.toNat) && decide (c.toNat<=90)) || (decide (48<=c.toNat) && decide (c.toNat<=57)) || decide (c.toNat=95)
def ZeF (c:UInt8):Bool:=decide (48<=c.toNat) && decide (c.toNat<=57)
def ZoG:List UInt8->Bool
 | []=>false
 | c::_=>!ZeF c
def ZfU (l:List UInt8):Bool:=decide (l.length<=40) && ZoG l && l.all Zek
def ZaZ (s:ByteArray):Bool:=ZfU s.data.toList
theorem ZaW (s:ByteArray):s.data.toList.length=s.size:=by rw [Array.length_toList];rfl
theorem ZeG (s:ByteArray) {k:Nat} (h:k<s.size):s.data.toList[k]'(by rw [ZaW];exact h)=s[k]:=by
 rw [Array.getElem_toList];rfl
theorem ZgC (s:ByteArray):s.toList=[]↔s.size=0:=by
 rw [ByteArray.toList_eq,<-ZaW,List.length_eq_zero_iff]
theorem ZgD {s:ByteArray} (h:0<s.size):ZoG s.data.toList=!ZeF s[0]:=by
 have h1:0<s.data.toList.length:=by rw [ZaW];exact h
 have h2:s.data.toList[0]'h1=s[0]:=ZeG s h
 cases hl:s.data.toList with
 | nil=>rw [hl] at h1;simp at h1
 | cons c l=>simp only [hl,List.getElem_cons_zero] at h2;simp only [ZoG];rw [h2]
theorem Zln {l:List UInt8} {k:Nat} (h:k<l.length):(l.take (k+1)).all Zek=((l.take k).all Zek && Zek l[k]):=by
 rw [List.take_add_one,List.getElem?_eq_getElem h,Option.toList_some,List.all_append]
 simp
theorem ZiX {l:List UInt8} {k:Nat} (h:k<l.length) (hc:Zek l[k]=false):l.all Zek=false:=by
 rw [List.all_eq_false]
 exact ⟨l[k],List.getElem_mem h,by rw [hc];simp⟩
theorem ZiY {c:UInt8} (h:(97<=c.toNat/\c.toNat<=122)\/(65<=c.toNat/\c.toNat<=90)\/(48<=c.toNat/\c.toNat<=57)\/c.toNat=95):Zek c=true:=by
 unfold Zek
 simp only [Bool.or_eq_true,Bool.and_eq_true,decide_eq_true_eq]
 omega
theorem Zlo {c:UInt8} (h:¬ ((97<=c.toNat/\c.toNat<=122)\/(65<=c.toNat/\c.toNat<=90)\/(48<=c.toNat/\c.toNat<=57)\/c.toNat=95)):Zek c=false:=by
 rw [Bool.eq_false_iff]
 intro h2
 unfold Zek at h2
 simp only [Bool.or_eq_true,Bool.and_eq_true,decide_eq_true_eq] at h2
 omega
theorem Zbo (s:ByteArray) (w:World):Calls Tryz.prog 100 #[.string s] w fun e w'=>e=.returned (.bool (ZaZ s))/\w=w':=by
 have HE:=qH (ZgC s)
 by_cases h0:s.size=0
 · have he:s.toList=[]:=(ZgC s).2 h0
   have HG:=qH (show ZaZ s=false from by
    unfold ZaZ ZfU
    have:s.data.toList=[]:=List.length_eq_zero_iff.1 (by rw [ZaW];exact h0)
    rw [this];rfl)
   go_enter Tryz.func100,Tryz.ntmps100
   go_wp2
   all_goals first
    | (go_ret;exact ⟨by rw [HG.out];rfl,rfl⟩)
    | (exfalso;simp_all)
 have hp:0<s.size:=by omega
 have he:¬ s.toList=[]:=fun h=>h0 ((ZgC s).1 h)
 have he2:s.toList.isEmpty=false:=by simpa using he
 by_cases h40:40<s.size
 · have HG:=qH (show ZaZ s=false from by
    unfold ZaZ ZfU
    rw [ZaW,decide_eq_false (by omega)];rfl)
   go_enter Tryz.func100,Tryz.ntmps100
   go_wp2
   go_ret
   exact ⟨by rw [HG.out];rfl,rfl⟩
 have HH:=qH (ZgD hp)
 have hge:¬ (s.size:Int)<=0:=by omega
 have h40i:¬ (40:Int)<s.size:=by omega
 by_cases hd:48<=s[0].toNat/\s[0].toNat<=57
 · obtain ⟨d1,d2⟩:=hd
   have HG:=qH (show ZaZ s=false from by
    unfold ZaZ ZfU
    rw [HH.out]
    simp [ZeF,d1,d2])
   go_enter Tryz.func100,Tryz.ntmps100
   go_wp2
   all_goals first
    | (go_ret;exact ⟨by rw [HG.out];rfl,rfl⟩)
    | (exfalso;simp_all;done)
    | (exfalso;omega)
 have HD:=qH (show ZoG s.data.toList=true from by
  rw [HH.out]
  simp only [ZeF]
  by_cases d1:48<=s[0].toNat
  · rw [decide_eq_true d1,decide_eq_false (by omega)];rfl
  rw [decide_eq_false d1];rfl)
 go_enter Tryz.func100,Tryz.ntmps100
 go_upto_region 1 with fail
 go_cut [21] from 5 to 21 (fun s21 wx=>s21=.bool false/\wx=w)
 case first =>
  go_wp2
  all_goals go_meet
  all_goals first
   | exact ⟨rfl,rfl⟩
   | (exfalso;omega)
   | (refine ⟨?_,rfl⟩;congr 1;simp_all;omega)
 obtain ⟨rfl,rfl⟩:=hcut
 go_wp2_with fail
 clear he he2 hd
 go_loopg [24] s.size (fun gh ix wr=>∃ k:Nat,s.size-k=gh/\k<=s.size/\ix=.int .i64 k/\wr=wc/\Hid ((s.data.toList.take k).all Zek=true))
 case atStart=>exact ⟨0,rfl,Nat.zero_le _,rfl,rfl,qH rfl⟩
 obtain ⟨k,rfl,hk,rfl,rfl,KA⟩:=hrel
 by_cases hlt:k<s.size
 · have hkl:k<s.data.toList.length:=by rw [ZaW];exact hlt
   have HAll:=qH (Zln hkl)
   have HFal:=qH (fun h=>ZiX hkl h)
   have HGet:=qH (ZeG s hlt)
   go_wp2
   all_goals first
    | (go_roundg (s.size-(k+1))
       case measure=>omega
       refine ⟨k+1,rfl,by omega,by go_num,rfl,qH ?_⟩
       rw [HAll.out,KA.out,HGet.out,ZiY (by first | omega | (simp only [beq_iff_eq] at *;omega))]
       rfl)
    | (have HF:=qH (show ZaZ s=false from by
        have h1:=HFal.out (by rw [HGet.out];exact Zlo (by first | omega | (simp only [beq_eq_false_iff_ne,ne_eq] at *;omega)))
        unfold ZaZ ZfU
        rw [h1,Bool.and_false])
       go_ret
       exact ⟨by rw [HF.out];rfl,rfl⟩)
 have hks:k=s.size:=by omega
 have HG:=qH (show ZaZ s=true from by
  unfold ZaZ ZfU
  have h1:=KA.out
  rw [List.take_of_length_le (by rw [ZaW];omega)] at h1
  rw [HD.out,h1,ZaW,decide_eq_true (by omega)]
  rfl)
 go_wp2
 go_ret
 exact ⟨by rw [HG.out];rfl,rfl⟩
end Go.Proofs.YtkopcinhbjimiaaGreatDoor
