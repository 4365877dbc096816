/- Texts that the claim leans on: walks and plain laws, function by function. -/
import Derived.Test.YtkopcinhbjimiaaGreatDoorQ10
set_option maxRecDepth 100000
set_option maxHeartbeats 16000000
namespace Go.Proofs.YtkopcinhbjimiaaGreatDoor
theorem ZoG {g:GVal} (h:chk g=0) (hf:g.Fits):decA (enc g)=(g,0):=Zos h hf
theorem ZeK {l:List UInt8} (h:(decA l).2=0):chk (decA l).1=0/\(decA l).1.Fits/\enc (decA l).1=l:=ZmW (Prod.ext rfl h)
section rs
variable {s:RS} {t l:List UInt8}
theorem RS.num_enc {k n:Nat} (hk:Zam k=true) (hn:n<256 ^ k):RS.num ⟨beb k n++t,0⟩ k=(n,⟨t,0⟩):=by
 have hl:=Zac k n
 rw [RS.num_ok hk (by rw [List.length_append,hl];omega),List.take_append_of_le_length (by omega),List.take_of_length_le (by omega),Zej,Nat.mod_eq_of_lt hn,List.drop_append_of_le_length (by omega),List.drop_of_length_le (by omega),List.nil_append]
theorem RS.take_enc {n:Nat} (h:l.length=n):RS.take ⟨l++t,0⟩ n true=(l,⟨t,0⟩):=by
 rw [RS.take_ok (by rw [List.length_append];omega),List.take_append_of_le_length (by omega),List.take_of_length_le (by omega),List.drop_append_of_le_length (by omega),List.drop_of_length_le (by omega),List.nil_append]
theorem RS.take_back {n:Nat} (h:(s.take n true).2.err=0):s.err=0/\s.left=(s.take n true).1++(s.take n true).2.left/\(s.take n true).1.length=n:=by
 by_cases he:s.err=0
 · obtain ⟨left,err⟩:=s
   obtain rfl:err=0:=he
   by_cases hl:n<=left.length
   · rw [RS.take_ok hl]
     exact ⟨rfl,(List.take_append_drop n left).symm,by simp only [List.length_take];omega⟩
   rw [RS.take_short (by omega)] at h
   cases h
 rw [RS.take_err he] at h
 exact absurd h he
theorem RS.num_back {k:Nat} (hk:Zam k=true) (h:(s.num k).2.err=0):s.err=0/\s.left=beb k (s.num k).1++(s.num k).2.left/\(s.num k).1<256 ^ k:=by
 have e2:(s.num k).2=(s.take k true).2:=by unfold RS.num;rw [hk]
 have e1:(s.num k).1=be (s.take k true).1:=by unfold RS.num;rw [hk]
 rw [e2] at h ⊢
 obtain ⟨h1,h2,h3⟩:=RS.take_back h
 have hb:=Zdp (s.take k true).1
 rw [h3] at hb
 rw [e1]
 exact ⟨h1,by rw [ZgA h3 (Nat.mod_eq_of_lt hb)];exact h2,hb⟩
theorem RS.num1_back (h:(s.num 1).2.err=0):s.err=0/\s.left=beb 1 (s.num 1).1++(s.num 1).2.left/\(s.num 1).1<256:=RS.num_back (k:=1) (by decide) h
theorem RS.num2_back (h:(s.num 2).2.err=0):s.err=0/\s.left=beb 2 (s.num 2).1++(s.num 2).2.left/\(s.num 2).1<65536:=RS.num_back (k:=2) (by decide) h
theorem RS.num4_back (h:(s.num 4).2.err=0):s.err=0/\s.left=beb 4 (s.num 4).1++(s.num 4).2.left/\(s.num 4).1<4294967296:=RS.num_back (k:=4) (by decide) h
theorem RS.num1_enc {n:Nat} (hn:n<256):RS.num ⟨beb 1 n++t,0⟩ 1=(n,⟨t,0⟩):=RS.num_enc (k:=1) (by decide) hn
theorem RS.num2_enc {n:Nat} (hn:n<65536):RS.num ⟨beb 2 n++t,0⟩ 2=(n,⟨t,0⟩):=RS.num_enc (k:=2) (by decide) hn
theorem RS.num4_enc {n:Nat} (hn:n<4294967296):RS.num ⟨beb 4 n++t,0⟩ 4=(n,⟨t,0⟩):=RS.num_enc (k:=4) (by decide) hn
theorem RS.name_enc {x:ByteArray} (hx:x.size<=255):RS.name ⟨ZaA x++t,0⟩=(x,⟨t,0⟩):=by
 have e:ZaA x++t=beb 1 x.size++(x.data.toList++t):=by unfold ZaA;rw [List.append_assoc]
 unfold RS.name
 have h1:=RS.num1_enc (t:=x.data.toList++t) (n:=x.size) (by omega)
 rw [e]
 rw [h1]
 simp only
 rw [RS.take_enc (Zbr x)]
theorem RS.name_back (h:s.name.2.err=0):s.err=0/\s.left=ZaA s.name.1++s.name.2.left/\s.name.1.size<=255:=by
 have h':((s.num 1).2.take ((s.num 1).1:Nat) true).2.err=0:=h
 obtain ⟨h1,h2,h3⟩:=RS.take_back h'
 obtain ⟨h4,h5,h6⟩:=RS.num1_back h1
 have hz:s.name.1.size=(s.num 1).1:=h3
 refine ⟨h4,?_,by rw [hz];omega⟩
 unfold ZaA
 rw [hz,h5,List.append_assoc]
 congr 1
theorem RS.names_enc:∀ (ls:List ByteArray),(∀ x∈ls,x.size<=255)->RS.names ls.length ⟨ls.flatMap ZaA++t,0⟩=(ls,⟨t,0⟩)
 | [],_=>rfl
 | x::ls,h=>by
   have h1:=RS.name_enc (t:=ls.flatMap ZaA++t) (h x (by simp))
   have h2:=RS.names_enc ls fun y hy=>h y (by simp [hy])
   simp only [List.length_cons,RS.names,List.flatMap_cons,List.append_assoc]
   rw [h1]
   simp only
   rw [h2]
theorem RS.names_back:∀ (k:Nat) (s:RS),(RS.names k s).2.err=0->s.err=0/\s.left=(RS.names k s).1.flatMap ZaA++(RS.names k s).2.left/\(RS.names k s).1.length=k/\∀ x∈(RS.names k s).1,x.size<=255
 | 0,s,h=>⟨h,by simp [RS.names],rfl,by simp [RS.names]⟩
 | k+1,s,h=>by
   obtain ⟨h1,h2,h3,h4⟩:=RS.names_back k s.name.2 h
   obtain ⟨h5,h6,h7⟩:=RS.name_back h1
   refine ⟨h5,?_,by simp [RS.names,h3],?_⟩
   · rw [h6,h2]
     simp [RS.names]
   intro x hx
   simp only [RS.names,List.mem_cons] at hx
   rcases hx with rfl | hx
   · exact h7
   exact h4 x hx
def GPr.Wr (p:GPr):Prop:=p.key.size<=255/\chk p.val=0/\p.val.Fits/\(enc p.val).length<=65535
theorem RS.raw2_enc (h:l.length<=65535):RS.raw2 ⟨beb 2 l.length++(l++t),0⟩=(l,⟨t,0⟩):=by
 unfold RS.raw2
 have h1:=RS.num2_enc (t:=l++t) (n:=l.length) (by omega)
 rw [h1]
 simp only
 rw [RS.take_enc rfl]
theorem RS.raw2_back (h:s.raw2.2.err=0):s.err=0/\s.left=beb 2 s.raw2.1.length++(s.raw2.1++s.raw2.2.left)/\s.raw2.1.length<=65535:=by
 have h':((s.num 2).2.take ((s.num 2).1:Nat) true).2.err=0:=h
 obtain ⟨h1,h2,h3⟩:=RS.take_back h'
 obtain ⟨h4,h5,h6⟩:=RS.num2_back h1
 have hz:s.raw2.1.length=(s.num 2).1:=h3
 refine ⟨h4,?_,by rw [hz];omega⟩
 rw [hz,h5]
 congr 1
theorem RS.prs_enc:∀ (ps:List GPr),(∀ p∈ps,p.Wr)->RS.prs ps.length ⟨ps.flatMap ZbT++t,0⟩=(some ps,⟨t,0⟩)
 | [],_=>rfl
 | p::ps,h=>by
   obtain ⟨a,b,c,d⟩:=h p (by simp)
   have h1:=RS.name_enc (t:=beb 2 (enc p.val).length++(enc p.val++(ps.flatMap ZbT++t))) a
   have h2:=RS.raw2_enc (t:=ps.flatMap ZbT++t) d
   have h3:=RS.prs_enc ps fun y hy=>h y (by simp [hy])
   have h4:=ZoG b c
   simp only [List.length_cons,RS.prs,List.flatMap_cons,List.append_assoc,ZbT]
   rw [h1]
   simp only
   rw [h2]
   simp only
   rw [h4,if_neg (by simp)]
   rw [show (List.flatMap ZbT ps)=ps.flatMap ZbT from rfl] at h3
   rw [h3]
   rfl
theorem RS.prs_back:∀ (k:Nat) (s:RS) (ps:List GPr),(RS.prs k s).1=some ps->(RS.prs k s).2.err=0->s.err=0/\s.left=ps.flatMap ZbT++(RS.prs k s).2.left/\ps.length=k/\∀ p∈ps,p.Wr
 | 0,s,ps,h,he=>by
   simp only [RS.prs,Option.some.injEq] at h he ⊢
   subst h
   exact ⟨he,rfl,rfl,by simp⟩
 | k+1,s,ps,h,he=>by
   simp only [RS.prs] at h he ⊢
   by_cases hd:(decA s.name.2.raw2.1).2≠0
   · rw [if_pos hd] at h;cases h
   rw [if_neg hd] at h he ⊢
   simp only at h he ⊢
   obtain ⟨ps',hp,rfl⟩:=Option.map_eq_some_iff.1 h
   obtain ⟨h1,h2,h3,h4⟩:=RS.prs_back k _ ps' hp he
   obtain ⟨h5,h6,h7⟩:=RS.raw2_back h1
   obtain ⟨h8,h9,h10⟩:=RS.name_back h5
   obtain ⟨d1,d2,d3⟩:=ZeK (Decidable.not_not.1 hd)
   refine ⟨h8,?_,by simp [h3],?_⟩
   · rw [h9,h6,h2]
     simp only [List.flatMap_cons,ZbT,d3,List.append_assoc]
   intro p hp'
   rcases List.mem_cons.1 hp' with rfl | hp'
   · exact ⟨h10,d1,d2,by simp only [d3];exact h7⟩
   exact h4 p hp'
theorem RS.props_enc {ps:List GPr} (hn:ps.length<=255) (h:∀ p∈ps,p.Wr):RS.props ⟨Zcl ps,0⟩=some ps:=by
 have h1:=RS.num1_enc (t:=ps.flatMap ZbT) (n:=ps.length) (by omega)
 have h2:=RS.prs_enc (t:=[]) ps h
 rw [List.append_nil] at h2
 unfold RS.props Zcl
 rw [h1]
 simp only
 rw [h2]
 simp
theorem RS.props_back {ps:List GPr} (h:s.props=some ps):s.err=0/\s.left=Zcl ps/\ps.length<=255/\∀ p∈ps,p.Wr:=by
 unfold RS.props at h
 split at h
 · rename_i hc
   obtain ⟨h1,h2,h3,h4⟩:=RS.prs_back _ _ _ h hc.1
   obtain ⟨h5,h6,h7⟩:=RS.num1_back h1
   have h2':(s.num 1).2.left=ps.flatMap ZbT:=by
    have:=h2
    rw [hc.2,List.append_nil] at this
    exact this
   refine ⟨h5,?_,by rw [h3];omega,h4⟩
   unfold Zcl
   rw [h6,h2',h3]
 cases h
end rs
def Id32 (n:Int):Prop:=0<=n/\n<4294967296
theorem ZeL {n:Int} (h:Id32 n):u64 n<4294967296/\((u64 n:Nat):Int)=n:=by
 unfold Id32 at h
 unfold u64
 refine ⟨?_,?_⟩
 · omega
 omega
theorem Zij {n:Nat} (h:n<18446744073709551616):u64 (n:Int)=n:=by unfold u64;omega
structure ZaP.Wr (x:ZaP):Prop where
 id:Id32 x.id
 n:x.labels.length<=255
 lab:∀ l∈x.labels,l.size<=255
 np:x.props.length<=255
 pr:∀ p∈x.props,p.Wr
structure GRel.Wr (x:GRel):Prop where
 id:Id32 x.id
 src:Id32 x.src
 dst:Id32 x.dst
 type:x.type.size<=255
 np:x.props.length<=255
 pr:∀ p∈x.props,p.Wr
theorem ZpF {x:ZaP} (h:x.Wr):pNd (Zca x)=some x:=by
 obtain ⟨i1,i2⟩:=ZeL h.id
 have h1:=RS.num4_enc (t:=beb 1 x.labels.length++(x.labels.flatMap ZaA++Zcl x.props)) (n:=u64 x.id) i1
 have h2:=RS.num1_enc (t:=x.labels.flatMap ZaA++Zcl x.props) (n:=x.labels.length) (by have:=h.n;omega)
 have h3:=RS.names_enc (t:=Zcl x.props) x.labels h.lab
 have h4:=RS.props_enc h.np h.pr
 unfold pNd Zca
 rw [h1]
 simp only
 rw [h2]
 simp only
 rw [h3]
 simp only
 rw [h4,i2]
 rfl
theorem ZoH {l:List UInt8} {x:ZaP} (h:pNd l=some x):Zca x=l/\x.Wr:=by
 unfold pNd at h
 obtain ⟨ps,hp,rfl⟩:=Option.map_eq_some_iff.1 h
 obtain ⟨a1,a2,a3,a4⟩:=RS.props_back hp
 obtain ⟨b1,b2,b3,b4⟩:=RS.names_back _ _ a1
 obtain ⟨c1,c2,c3⟩:=RS.num1_back b1
 obtain ⟨d1,d2,d3⟩:=RS.num4_back c1
 refine ⟨?_,⟨⟨Int.natCast_nonneg _,by simp only;omega⟩,by simp only;rw [b3];omega,b4,a3,a4⟩⟩
 unfold Zca
 simp only at d2 ⊢
 rw [Zij (by exact Nat.lt_trans d3 (by decide)),b3]
 refine Eq.trans ?_ d2.symm
 congr 1
 refine Eq.trans ?_ c2.symm
 congr 1
 rw [b2,a2]
theorem ZpG {x:GRel} (h:x.Wr):pRl (Zcb x)=some x:=by
 obtain ⟨i1,i2⟩:=ZeL h.id
 obtain ⟨j1,j2⟩:=ZeL h.src
 obtain ⟨k1,k2⟩:=ZeL h.dst
 have h1:=RS.num4_enc (t:=beb 4 (u64 x.src)++(beb 4 (u64 x.dst)++(ZaA x.type++Zcl x.props))) (n:=u64 x.id) i1
 have h2:=RS.num4_enc (t:=beb 4 (u64 x.dst)++(ZaA x.type++Zcl x.props)) (n:=u64 x.src) j1
 have h3:=RS.num4_enc (t:=ZaA x.type++Zcl x.props) (n:=u64 x.dst) k1
 have h4:=RS.name_enc (t:=Zcl x.props) h.type
 have h5:=RS.props_enc h.np h.pr
 unfold pRl Zcb
 rw [h1]
 simp only
 rw [h2]
 simp only
 rw [h3]
 simp only
 rw [h4]
 simp only
 rw [h5,i2,j2,k2]
 rfl
theorem ZoI {l:List UInt8} {x:GRel} (h:pRl l=some x):Zcb x=l/\x.Wr:=by
 unfold pRl at h
 obtain ⟨ps,hp,rfl⟩:=Option.map_eq_some_iff.1 h
 obtain ⟨a1,a2,a3,a4⟩:=RS.props_back hp
 obtain ⟨b1,b2,b3⟩:=RS.name_back a1
 obtain ⟨c1,c2,c3⟩:=RS.num4_back b1
 obtain ⟨d1,d2,d3⟩:=RS.num4_back c1
 obtain ⟨f1,f2,f3⟩:=RS.num4_back d1
 refine ⟨?_,⟨⟨Int.natCast_nonneg _,by simp only;omega⟩,⟨Int.natCast_nonneg _,by simp only;omega⟩,⟨Int.natCast_nonneg _,by simp only;omega⟩,b3,a3,a4⟩⟩
 unfold Zcb
 simp only at f2 ⊢
 rw [Zij (by exact Nat.lt_trans f3 (by decide)),Zij (by exact Nat.lt_trans d3 (by decide)),Zij (by exact Nat.lt_trans c3 (by decide))]
 refine Eq.trans ?_ f2.symm
 congr 1
 refine Eq.trans ?_ d2.symm
 congr 1
 refine Eq.trans ?_ c2.symm
 congr 1
 rw [b2,a2]
end Go.Proofs.YtkopcinhbjimiaaGreatDoor
namespace Go.Proofs.YtkopcinhbjimiaaGreatDoor
open Go.RowKit
structure FR where
 type:Nat
 data:List UInt8
 A:Option Addr
 n:Nat
 c:Nat
def FR.cells (x:FR):List Value:=[.int .i64 (x.type:Int),.slice x.A x.n x.c]
def FR.dat (x:FR):GFr:=⟨x.type,x.data⟩
theorem FR.two (x:FR):x.cells.length=2:=rfl
theorem FR.one (x:FR):∀ u∈x.cells,u.oneCell'=true:=by
 intro u hu
 simp only [FR.cells,List.mem_cons,List.not_mem_nil,or_false] at hu
 rcases hu with rfl | rfl <;> rfl
structure Zcm (w:World) (B:Nat) (x:FR):Prop where
 row:w.ownsRow B 5 1 (.slice x.A x.n x.c) x.n (x.data.map u8v)
 ty:x.type<=255
 len:x.data.length=x.n
 max:x.n<=1048576
structure Zef (w:World) (B:Nat) (v:Value) (fs:List FR):Prop where
 row:w.ownsRow B 84 2 v fs.length (fs.flatMap FR.cells)
 each:∀ x∈fs,Zcm w B x
section
variable {w w':World} {B B':Nat} {v:Value} {fs:List FR} {x:FR}
theorem Zcm.same (h:Zcm w B x) (hu:Same w w'):Zcm w' B x:=⟨Zaa h.row hu,h.ty,h.len,h.max⟩
theorem Zcm.upd {S:Nat->Prop} (h:Zcm w B x) (hu:Upd S w w') (hs:∀ g,(Value.slice x.A x.n x.c).ownBlock=some g->¬ S g):Zcm w' B x:=⟨Zai h.row hu hs,h.ty,h.len,h.max⟩
theorem Zcm.type {S:Nat->Prop} {e':TypeId} (h:Zcm w B x) (hu:Upd S w w') (hS:∀ g,g<w.heap.size->S g->OfT w e' g) (hne:5≠e'):Zcm w' B x:=⟨ZaY h.row hu hS hne,h.ty,h.len,h.max⟩
theorem Zcm.bytes (h:Zcm w B x):Bytes w (fun b=>B<=b/\b<w.heap.size) x.A x.n x.c x.data:=(Row.of_own h.row).mono fun _ hb hh=>⟨hh.2,hb⟩
theorem Zef.same (h:Zef w B v fs) (hu:Same w w'):Zef w' B v fs:=⟨Zaa h.row hu,fun x hx=>(h.each x hx).same hu⟩
theorem Zef.snoc {v':Value} (h:Zef w B v fs) (hg:Grew w B 84 2 v (fs.length+1) (fs.flatMap FR.cells++x.cells) v' w') (hx:Zcm w B x):Zef w' B v' (fs++[x]):=by
 have hS:∀ g,g<w.heap.size->v.ownBlock=some g->OfT w 84 g:=fun g _ hg=>Zap h.row hg
 refine ⟨?_,fun y hy=>?_⟩
 · rw [List.length_append,List.flatMap_append]
   simpa using hg.own
 rcases List.mem_append.1 hy with hy | hy
 · exact (h.each y hy).type hg.upd hS (by decide)
 obtain rfl:y=x:=by simpa using hy
 exact hx.type hg.upd hS (by decide)
end
theorem ZhE:(Tryz.prog.info? 84).map (fun i=>(i.zero,i.size,i.bytes))=some (some (.agg #[.int .i64 0,.slice none 0 0]),2,32):=by kernel_rfl
theorem Row.fr (w:World) (x:FR):Row (w.alloc (.cells x.cells.toArray 84)) (fun b=>b=w.heap.size) 2 (some ⟨w.heap.size,0,none⟩) 1 1 x.cells :=
 Row.of_blk (Blk.new w _ x.cells.toArray) rfl (Nat.le_refl _) (by simp [maxLen])
theorem Zmn {l:List UInt8} {N:Nat} (hN:be ((l.drop 1).take 4)=N) (h:N+9<=l.length):Zck (be (l.take 1)) ((l.drop 5).take N)=l.take (N+5):=by
 have hl1:(l.take 1).length=1:=by rw [List.length_take];omega
 have hl4:((l.drop 1).take 4).length=4:=by rw [List.length_take,List.length_drop];omega
 have hlN:((l.drop 5).take N).length=N:=by rw [List.length_take,List.length_drop];omega
 have b1:=Zdp (l.take 1)
 have b4:=Zdp ((l.drop 1).take 4)
 rw [hl1] at b1
 rw [hl4,hN] at b4
 unfold Zck
 rw [hlN,ZgA hl1 (Nat.mod_eq_of_lt b1),ZgA hl4 (by rw [hN];exact Nat.mod_eq_of_lt b4)]
 have e1:l.take 1++((l.drop 1).take 4++(l.drop 5).take N)=l.take (N+5):=by
  rw [show N+5=1+(4+N) by omega,List.take_add,List.take_add,List.drop_drop]
 exact e1
theorem Zlw {l:List UInt8} {N:Nat} (hN:be ((l.drop 1).take 4)=N) (h:N+9<=l.length):Zal (be (l.take 1)) ((l.drop 5).take N)=l.take (N+9)↔be ((l.drop (N+5)).take 4)=(crcS (l.take (N+5))).toNat:=by
 have hl4:((l.drop (N+5)).take 4).length=4:=by rw [List.length_take,List.length_drop];omega
 have hlt:=(crcS (l.take (N+5))).isLt
 have ea:l.take (N+9)=l.take (N+5)++(l.drop (N+5)).take 4:=by rw [show N+9=(N+5)+4 by omega];exact List.take_add
 unfold Zal
 rw [Zmn hN h,ea]
 constructor
 · intro e
   have e2:=List.append_cancel_left e
   rw [<- e2,Zej]
   exact Nat.mod_eq_of_lt (by omega)
 intro e
 congr 1
 exact ZgA hl4 (by rw [e];exact Nat.mod_eq_of_lt (by omega))
theorem Zjb {l:List UInt8} {N:Nat} (hN:be ((l.drop 1).take 4)=N) (h1:N<=1048576) (h:N+9<=l.length) (he:be ((l.drop (N+5)).take 4)=(crcS (l.take (N+5))).toNat):oneP l=.ok (some (⟨be (l.take 1),(l.drop 5).take N⟩,l.drop (N+9))):=by
 unfold oneP
 rw [hN,if_neg (by omega),if_neg (by omega),if_neg (by omega),if_neg (by simp [he])]
theorem ZpH {l:List UInt8} {N:Nat} (hN:be ((l.drop 1).take 4)=N) (h1:N<=1048576) (h:N+9<=l.length) (he:be ((l.drop (N+5)).take 4)≠(crcS (l.take (N+5))).toNat):oneP l=.error 91:=by
 unfold oneP
 rw [hN,if_neg (by omega),if_neg (by omega),if_neg (by omega),if_pos he]
theorem ZhF {l:List UInt8} {N:Nat} (hN:be ((l.drop 1).take 4)=N) (h:l.length<5\/(N<=1048576/\l.length<N+9)):oneP l=.ok none:=by
 unfold oneP
 rw [hN]
 rcases h with h | ⟨h1,h2⟩
 · rw [if_pos h]
 by_cases h5:l.length<5
 · rw [if_pos h5]
 rw [if_neg h5,if_neg (by omega),if_pos h2]
theorem Znh {l:List UInt8} {N:Nat} (hN:be ((l.drop 1).take 4)=N) (h5:5<=l.length) (h:1048576<N):oneP l=.error 1:=by
 unfold oneP
 rw [hN,if_neg (by omega),if_pos h]
theorem Bytes.sub {w:World} {F:Nat->Prop} {b o n c:Nat} {bs:List UInt8} (h:Bytes w F (some ⟨b,o,none⟩) n c bs) {j k:Nat} (hk:j+k<=n) (h0:j<n):Bytes w F (some ⟨b,o+j,none⟩) k (c-j) ((bs.drop j).take k):=by
 have h1:=h.cut (j:=j) (m:=j+k) (by omega) hk
 rw [if_neg (by have:=Row.le h;omega),Option.map_some,ZbB,Nat.add_sub_cancel_left] at h1
 exact h1
theorem ZoJ (xs ys:List UInt8) {r:Bool} (hr:decide (xs=ys)=r):((⟨xs.toArray⟩:ByteArray).toList==(⟨ys.toArray⟩:ByteArray).toList)=r:=by
 rw [<- hr,Bool.eq_iff_iff,beq_iff_eq,Zcw,decide_eq_true_eq]
 constructor
 · intro h
   injection h with h
   exact Array.mk.inj h
 rintro rfl;rfl
theorem keepB {w1 wx:World} {b o:Nat} {x:Value} (h1:Hid (w1.cell? ⟨b,o,none⟩=some x)) (hlt:b<w1.heap.size) (hs:Same w1 wx):Same w1 wx/\wx.cell? ⟨b,o,none⟩=some x :=
 ⟨hs,(hs.cell (p:=⟨b,o,none⟩) hlt fun f=>f).trans h1.out⟩
theorem Zni {more:List UInt8} {F:Nat->Prop} {A:Option Addr} {m c:Nat} (w0 w:World) (hs:Same w0 w) (hm:Bytes w0 F A m c more) (hl:m<=140737488355328) :
 Calls Tryz.prog 124 #[.slice A m c] w fun e w'=>∃ A' c',e=.returned (.slice A' m c')/\Hid (OwnB w' w.heap.size (.slice A' m c') more)/\Same w w'/\Same w0 w' :=
 (Zkj w (hm.same hs) hl).mono fun _ _ ⟨A',c',h1,h2,h3⟩=>⟨A',c',h1,h2,h3,hs.same h3⟩
theorem ZfO {F:Nat->Prop} {A:Option Addr} {n c:Nat} {bs:List UInt8} (w:World) (hb:Bytes w F A n c bs) (hn:n<=16777216) :
 Calls Tryz.prog 88 #[.slice A n c] w fun e w'=>∃ (A':Option Addr) (c':Nat) (fs:List FR) (at_:Nat) (er:Int),e=.returned (.tuple #[.slice A' fs.length c',.int .i64 (at_:Int),.int .i64 er])/\Hid (Zef w' w.heap.size (.slice A' fs.length c') fs)/\Hid (Zab bs=(fs.map FR.dat,bs.drop at_,er)/\at_<=n)/\Same w w':=by
 have HY:=qH (hb.mono (F':=fun b=>b<w.heap.size) fun b h _=>h)
 have HL:=qH hb.len
 have hle:=Row.le hb
 have hmx:=Row.max hb
 unfold maxLen at hmx
 clear hb
 go_enter Tryz.func88,Tryz.ntmps88
 go_wp2_with fail
 generalize hW:w.alloc (.cells #[] 84)=w1
 have hs1:Same w w1:=by rw [<- hW];exact (Upd.refl _ w).alloc _
 have ho1:Zef w1 w.heap.size (.slice (some ⟨w.heap.size,0,none⟩) 0 0) []:=⟨by rw [<- hW];exact World.ownsRow_made w #[] 0 (Nat.le_refl _) (Nat.zero_le _) rfl,by simp⟩
 have HO1:=qH ho1
 have HS1:=qH hs1
 clear hW ho1 hs1
 go_loopg [5,6] n (fun gh s5 s6 wr=>∃ (at_:Nat) (Ao:Option Addr) (co kf:Nat) (fs:List FR),n-at_=gh/\at_<=n/\kf*9<=at_/\s5=.slice Ao kf co/\s6=.int .i64 at_/\Hid (fs.length=kf)/\Hid (Zef wr w.heap.size (.slice Ao kf co) fs)/\Hid (Zab bs=(fs.map FR.dat++(Zab (bs.drop at_)).1,(Zab (bs.drop at_)).2))/\Hid (Same w wr))
 case atStart=>exact ⟨0,_,_,0,[],rfl,Nat.zero_le _,Nat.zero_le _,rfl,rfl,qH rfl,HO1,qH rfl,HS1⟩
 obtain ⟨at_,Ao,co,kf,fs,rfl,hat,hkf,rfl,rfl,KF,KO,KP,KS⟩:=hrel
 have hLd:(bs.drop at_).length=n-at_:=by rw [List.length_drop,HL.out]
 have HLD:=qH hLd
 clear hLd
 have hw1:IntKind.i64.wrap ((n:Int)-(at_:Int))=(n:Int)-(at_:Int):=by rw [IntKind.wrap_i64];omega
 have a0:(0:Int)<=(at_:Int):=by omega
 have a1:(at_:Int)<=(n:Int):=by omega
 by_cases h5:n<at_+5
 · have H1:=qH (ZaN (ZhF (l:=bs.drop at_) rfl (.inl (by rw [HLD.out];omega))))
   go_wp2
   go_ret3
   exact ⟨Ao,co,fs,at_,0,by rw [KF.out];rfl,qH (by rw [KF.out];exact KO.out),qH ⟨by rw [KP.out,H1.out,List.append_nil],hat⟩,KS.out⟩
 obtain ⟨b,o,rfl,-,hbl,hc0⟩:=(HY.out.same KS.out).at_ (i:=at_) (by omega)
 obtain ⟨N,hNN⟩:∃ N,be (((bs.drop at_).drop 1).take 4)=N:=⟨_,rfl⟩
 have HNN:=qH hNN
 clear hNN
 have b5:(at_:Int)+5<=(n:Int):=by omega
 have b6:(at_:Int)+5<=(c:Int):=by omega
 have hw2:IntKind.i64.wrap ((at_:Int)+1)=(at_:Int)+1:=by rw [IntKind.wrap_i64];omega
 have hw3:IntKind.i64.wrap ((at_:Int)+5)=(at_:Int)+5:=by rw [IntKind.wrap_i64];omega
 have HC4:=qH ((HY.out.same KS.out).sub (j:=at_+1) (k:=4) (by omega) (by omega))
 go_wp2_with fail
 refine (Zgg wr HC4.out (by omega)).mono ?_
 rintro e w' ⟨rfl,rfl⟩
 rw [show be ((bs.drop (at_+1)).take 4)=N by rw [<- HNN.out,List.drop_drop]]
 have hN32:N<4294967296:=by
  have h1:=Zdp (((bs.drop at_).drop 1).take 4)
  rw [HNN.out] at h1
  have h4:256 ^ (((bs.drop at_).drop 1).take 4).length<=256 ^ 4:=Nat.pow_le_pow_right (by omega) (List.length_take_le _ _)
  omega
 by_cases hbig:1048576<N
 · have H1:=qH (Zbs (Znh (l:=bs.drop at_) HNN.out (by rw [HLD.out];omega) hbig))
   go_wp2
   go_ret3
   exact ⟨Ao,co,fs,at_,1,by rw [KF.out];rfl,qH (by rw [KF.out];exact KO.out),qH ⟨by rw [KP.out,H1.out,List.append_nil],hat⟩,KS.out⟩
 have hw4:IntKind.i64.wrap ((N:Int)+9)=(N:Int)+9:=by rw [IntKind.wrap_i64];omega
 have hwN:IntKind.i64.wrap (N:Int)=(N:Int):=by rw [IntKind.wrap_i64];omega
 by_cases hsh:n<at_+(N+9)
 · have H1:=qH (ZaN (ZhF (l:=bs.drop at_) HNN.out (.inr ⟨by omega,by rw [HLD.out];omega⟩)))
   go_wp2
   go_ret3
   exact ⟨Ao,co,fs,at_,0,by rw [KF.out];rfl,qH (by rw [KF.out];exact KO.out),qH ⟨by rw [KP.out,H1.out,List.append_nil],hat⟩,KS.out⟩
 obtain ⟨x,hx⟩:∃ x,bs[at_]'(by have:=HL.out;omega)=x:=⟨_,rfl⟩
 rw [hx] at hc0
 have HX:=qH (show be ((bs.drop at_).take 1)=x.toNat by
  rw [List.drop_eq_getElem_cons (by have:=HL.out;omega),hx]
  simp [be])
 have HCD:=qH ((HY.out.same KS.out).sub (j:=at_+5) (k:=N) (by omega) (by omega))
 have HCA:=qH ((HY.out.same KS.out).sub (j:=at_) (k:=N+9) (by omega) (by omega))
 clear hx
 have b7:(at_:Int)+5+(N:Int)<=(n:Int):=by omega
 have b8:(at_:Int)+5+(N:Int)<=(c:Int):=by omega
 have hw5:IntKind.i64.wrap ((at_:Int)+5+(N:Int))=(at_:Int)+5+(N:Int):=by rw [IntKind.wrap_i64];omega
 have hwx:IntKind.i64.wrap (x.toNat:Int)=(x.toNat:Int):=by rw [IntKind.wrap_i64];have:=x.toNat_lt;omega
 go_upto_region 10 with fail
 have HC0:=qH hc0
 have HC0b:=qH (show b<wr.heap.size from Nat.lt_of_lt_of_le hbl KS.out.size)
 obtain ⟨wo,rfl⟩:∃ wo:World,wo=wr:=⟨_,rfl⟩
 have h00:Same wo wo.drew:=(Upd.refl _ wo).drew
 go_cut [9] from 40 to 54 (fun s9 wx=>∃ (g:Nat) (A':Option Addr) (c':Nat),s9=.pointer (some ⟨g,0,none⟩)/\Hid (Blk wx g 84 #[.int .i64 (x.toNat:Int),.slice A' N c'])/\Hid (OwnB wx wo.heap.size (.slice A' N c') ((bs.drop (at_+5)).take N))/\Hid (Same wo wx)/\wo.heap.size<=g)
 case first =>
  have hob:b<wo.heap.size:=HC0b.out
  have hn1:(at_:Int)<(n:Int):=by omega
  have k5:(at_:Int)+5<=(at_:Int)+5+(N:Int):=by omega
  have k6:(0:Int)<=(N:Int):=by omega
  have k7:(0:Int)<=(at_:Int)+5:=by omega
  have t1:((at_:Int)+5).toNat=at_+5:=by omega
  have t2:((at_:Int)+5+(N:Int)).toNat=at_+5+N:=by omega
  have t3:¬ c=at_+5:=by omega
  have t4:at_+5+N-(at_+5)=N:=by omega
  go_region_held3 (fun wx=>Same wo wx/\wx.cell? ⟨b,o+at_,none⟩=some (.int .u8 (x.toNat:Int))) (exact keepB HC0 hob (by repeat first | assumption | exact Upd.refl _ _ | refine Upd.drew ?_ | refine Upd.alloc ?_ _ | refine Upd.putNew ?_ (by omega) _)) (first
   | (go_at_call 124;with_reducible refine (Zni wo _ (by repeat first | assumption | exact Upd.refl _ _ | refine Upd.drew ?_ | refine Upd.alloc ?_ _ | refine Upd.putNew ?_ (by omega) _) HCD.out (by omega)).mono ?_;rintro e w2 ⟨A2,c2,rfl,HO,hs2,hsa2⟩;have hz2:=hsa2.size;(try (have qb:Blk w2 wo.heap.size 84 _:=Blk.same (by first | exact Blk.new _ _ _ | exact (Blk.new _ _ _).drew) hs2;have qb0:=qb.cell 0;have qb1:=qb.cell 1;have qb2:=qb.frozen 0;have qb3:=qb.frozen 1))))
  all_goals go_wp2
  all_goals go_meet
  all_goals have hOb:=Zae (base':=wo.heap.size) HO.out (by first | exact Nat.le_refl _ | omega | (simp;done) | (simp;omega))
  all_goals refine ⟨_,A2,c2,rfl,qH ?_,qH ?_,qH ?_,?_⟩
  all_goals first
   | with_reducible exact Blk.new _ _ _
   | exact (qb.put 0 _).put 1 _
   | exact hOb.alloc _
   | exact ZiY hOb qb
   | exact hsa2.alloc _
   | exact (hsa2.putNew (Nat.le_refl _) _).putNew (Nat.le_refl _) _
   | exact Nat.le_refl _
   | omega
 obtain ⟨g,A',c',rfl,KB,KD,KW,hg⟩:=hcut
 obtain ⟨w3,rfl⟩:∃ w3:World,w3=wc:=⟨_,rfl⟩
 obtain ⟨D,hD⟩:∃ D,(bs.drop (at_+5)).take N=D:=⟨_,rfl⟩
 have HD:=qH hD
 have hDl:D.length=N:=by rw [<- hD,List.length_take,List.length_drop,HL.out];omega
 have HDL:=qH hDl
 have KD3:Hid (OwnB w3 wo.heap.size (.slice A' N c') D):=qH (by rw [<- hD];exact KD.out)
 have p0:=KB.out.cell 0
 have p1:=KB.out.cell 1
 have hx8:=x.toNat_lt
 clear hD hDl KD h00 hc0
 go_wp2_with fail
 refine (Zkk w3 x.toNat (by omega) (ZaB HDL.out KD3.out) (by omega)).mono ?_
 rintro e w4 ⟨v4,rfl,HO4,hs4⟩
 have HP4:=qH (show (Zal x.toNat D).length=N+9 by unfold Zal Zck;rw [List.length_append,List.length_append,List.length_append,Zac,Zac,Zac,HDL.out];omega)
 obtain ⟨A4,c4,rfl⟩:=Zad HO4.out
 have SA:=qH ((KS.out.same KW.out).same hs4)
 clear p0 p1
 have hw6:IntKind.i64.wrap ((at_:Int)+(N:Int))=(at_:Int)+(N:Int):=by rw [IntKind.wrap_i64];omega
 have hw7:IntKind.i64.wrap ((at_:Int)+(N:Int)+9)=(at_:Int)+(N:Int)+9:=by rw [IntKind.wrap_i64];omega
 have t5:((at_:Int)+(N:Int)+9).toNat=at_+(N+9):=by omega
 have t6:at_+(N+9)-at_=N+9:=by omega
 have t7:¬ c=at_:=by omega
 have t8:(at_:Int)<=(at_:Int)+(N:Int)+9:=by omega
 have t9:(at_:Int)+(N:Int)+9<=(c:Int):=by omega
 have HPI:=qH (show Zal x.toNat D=(bs.drop at_).take (N+9)↔be (((bs.drop at_).drop (N+5)).take 4)=(crcS ((bs.drop at_).take (N+5))).toNat by
  rw [<- HX.out,<-HD.out,show bs.drop (at_+5)=(bs.drop at_).drop 5 by rw [List.drop_drop]]
  exact Zlw HNN.out (by rw [HLD.out];omega))
 obtain ⟨r,hr⟩:∃ r,decide (Zal x.toNat D=(bs.drop at_).take (N+9))=r:=⟨_,rfl⟩
 have hsb:=ZoJ _ _ hr
 have HRR:=qH hr
 clear hr
 have HCV:Hid (∀ wx,Same w4 wx->(convert 28 9 (.slice A4 (Zal x.toNat D).length c4)).run Tryz.prog wx=.ok (.string ⟨(Zal x.toNat D).toArray⟩) wx/\(convert 28 9 (.slice (some ⟨b,o+at_,none⟩) (N+9) (c-at_))).run Tryz.prog wx=.ok (.string ⟨((bs.drop at_).take (N+9)).toArray⟩) wx):=qH fun wx hs=>⟨Zay ((ZaM HO4.out).same hs),Zay (HCA.out.same ((KW.out.same hs4).same hs))⟩
 generalize (⟨(Zal x.toNat D).toArray⟩:ByteArray)=XS at HCV hsb
 generalize (⟨((bs.drop at_).take (N+9)).toArray⟩:ByteArray)=XY at HCV hsb
 have h40:Same w4 w4.drew:=(Upd.refl _ w4).drew
 go_upto_region 12 with fail
 go_region_held3 (fun wx=>Same w4 wx/\(convert 28 9 (.slice A4 (Zal x.toNat D).length c4)).run Tryz.prog wx=.ok (.string XS) wx/\(convert 28 9 (.slice (some ⟨b,o+at_,none⟩) (N+9) (c-at_))).run Tryz.prog wx=.ok (.string XY) wx) (exact ⟨by assumption,HCV.out _ (by assumption)⟩) (fail)
 have S5:=qH (KW.out.same (hs4.same h40))
 have HF5:=qH ((KO.out.same S5.out))
 have HB5:=qH (KB.out.same (hs4.same h40))
 have HD5:=qH (Zaa KD3.out (hs4.same h40))
 have SA5:=qH (SA.out.same h40)
 clear HCV h40 hs4 HO4 KD3 KB KW SA
 generalize w4.drew=w5 at *
 cases r with
 | false =>
   have hne:=of_decide_eq_false HRR.out
   have H1:=qH (Zbs (ZpH (l:=bs.drop at_) HNN.out (by omega) (by rw [HLD.out];omega) (fun e=>hne (HPI.2 e))))
   clear hne
   go_wp2
   go_ret3
   exact ⟨Ao,co,fs,at_,91,by rw [KF.out];rfl,qH (by rw [KF.out];exact HF5.out),qH ⟨by rw [KP.out,H1.out,List.append_nil],hat⟩,SA5.out⟩
 | true =>
   have heq:=of_decide_eq_true HRR.out
   have H1:=qH (ZaG (Zjb (l:=bs.drop at_) HNN.out (by omega) (by rw [HLD.out];omega) (HPI.1 heq)))
   have q0:=HB5.out.cell 0
   have q1:=HB5.out.cell 1
   have hzw:=SA5.out.size
   have hz5:=S5.out.size
   have hzo:w.heap.size<=wo.heap.size:=KS.out.size
   have HFR:Hid (Zcm w5 w.heap.size ⟨x.toNat,D,A',N,c'⟩):=qH ⟨by have h1:=Zae (base':=w.heap.size) HD5.out hzo;unfold OwnB at h1;rw [HDL.out] at h1;exact h1,by simp only;omega,HDL.out,by simp only;omega⟩
   have hsa:=(Upd.refl (fun _=>False) w5).alloc (.cells (FR.cells (⟨x.toNat,D,A',N,c'⟩:FR)).toArray 84)
   have HFa:=qH (HF5.out.same hsa)
   have HRa:=qH (HFR.out.same hsa)
   have HUa:=qH (SA5.out.same hsa)
   have hrow:(w5.alloc (.cells (FR.cells ⟨x.toNat,D,A',N,c'⟩).toArray 84)).ownsRow w.heap.size 84 2 (.slice Ao kf co) kf (fs.flatMap FR.cells):=by have h1:=HFa.out.row;rw [KF.out] at h1;exact h1
   have HROW:=qH hrow
   clear heq hsa hrow
   go_upto_region 15 with (at_builtin;go_must (refine Zaf rfl (.tmp 73) (.tmp 75) _ _ rfl w.heap.size 84 2 32 _ Tryz.underlying134 ZhE rfl (.slice Ao kf co) kf _ rfl HROW.out rfl (Zan Tryz.underlying134 (Row.fr w5 ⟨x.toNat,D,A',N,c'⟩) (FR.one _)) (by unfold maxLen;omega) (by omega) (by simp;omega) ?_);intro v9 w9 hg;have HG:=qH hg;clear hg)
   obtain ⟨A9,c9,rfl⟩:=Zad HG.out.own
   have HFn:=qH (HFa.out.snoc (x:=⟨x.toNat,D,A',N,c'⟩) (by rw [KF.out];exact HG.out) HRa.out)
   have HUn:=qH (HUa.out.trans HG.out.upd fun b hb hh=>by have:=(HROW.out.lt b hh).1;omega)
   have HPn:Hid (Zab bs=((fs++[(⟨x.toNat,D,A',N,c'⟩:FR)]).map FR.dat++(Zab (bs.drop (at_+(N+9)))).1,(Zab (bs.drop (at_+(N+9)))).2)):=qH (by
    have e9:(bs.drop at_).drop (N+9)=bs.drop (at_+(N+9)):=List.drop_drop
    rw [KP.out,H1.out,e9]
    simp only [List.map_append,List.map_cons,List.map_nil,List.append_assoc,List.cons_append,List.nil_append,FR.dat]
    rw [<- HX.out,<-HD.out,show bs.drop (at_+5)=(bs.drop at_).drop 5 by rw [List.drop_drop]])
   have hw8:IntKind.i64.wrap ((at_:Int)+((N:Int)+9))=(at_:Int)+((N:Int)+9):=by rw [IntKind.wrap_i64];omega
   go_wp2
   go_roundg (n-(at_+(N+9)))
   case measure=>omega
   case rel=>exact ⟨at_+(N+9),A9,c9,kf+1,fs++[⟨x.toNat,D,A',N,c'⟩],rfl,by omega,by omega,rfl,by go_num,qH (by simp [KF.out]),HFn,HPn,HUn⟩
end Go.Proofs.YtkopcinhbjimiaaGreatDoor
namespace Go.Proofs.YtkopcinhbjimiaaGreatDoor
theorem ZdA {l r:List UInt8} {f:GFr} (h:oneP l=.ok (some (f,r))):Zal f.type f.data=l.take (f.data.length+9)/\r=l.drop (f.data.length+9)/\f.data.length+9<=l.length/\f.type<=255/\f.data.length<=1048576:=by
 unfold oneP at h
 split at h
 · cases h
 split at h
 · cases h
 split at h
 · cases h
 split at h
 · cases h
 rename_i g1 g2 g3 g4
 injection h with h
 injection h with h
 injection h with h1 h2
 have hl:f.data.length=be ((l.drop 1).take 4):=by
  rw [<- h1]
  simp only [List.length_take,List.length_drop] at *
  omega
 have ht:f.type<=255:=by
  rw [<- h1]
  have:=Zdp (l.take 1)
  have h1':(l.take 1).length<=1:=List.length_take_le _ _
  have h2':256 ^ (l.take 1).length<=256 ^ 1:=Nat.pow_le_pow_right (by omega) h1'
  simp only
  omega
 refine ⟨?_,by rw [hl];exact h2.symm,by omega,ht,by omega⟩
 rw [hl,<-(Zlw rfl (by omega)).2 (Decidable.not_not.1 g4),<-h1]
theorem Zgj {t:Nat} {d r:List UInt8} (ht:t<=255) (hd:d.length<=1048576):oneP (Zal t d++r)=.ok (some (⟨t,d⟩,r)):=by
 have hH:Zck t d=beb 1 t++(beb 4 d.length++d):=rfl
 have l1:=Zac 1 t
 have l4:=Zac 4 d.length
 have lS:=Zac 4 (crcS (Zck t d)).toNat
 have hHl:(Zck t d).length=d.length+5:=by rw [hH];simp only [List.length_append,l1,l4];omega
 have hl:(Zal t d++r).length=d.length+9+r.length:=by unfold Zal;simp only [List.length_append,hHl,lS]
 have hlist:Zal t d++r=beb 1 t++(beb 4 d.length++(d++(beb 4 (crcS (Zck t d)).toNat++r))):=by unfold Zal;rw [hH];simp only [List.append_assoc]
 have hN:be (((Zal t d++r).drop 1).take 4)=d.length:=by
  rw [hlist,List.drop_append_of_le_length (by omega),List.drop_of_length_le (by omega),List.nil_append,List.take_append_of_le_length (by omega),List.take_of_length_le (by omega),Zej]
  exact Nat.mod_eq_of_lt (by omega)
 have hT:be ((Zal t d++r).take 1)=t:=by
  rw [hlist,List.take_append_of_le_length (by omega),List.take_of_length_le (by omega),Zej]
  exact Nat.mod_eq_of_lt (by omega)
 have hD:((Zal t d++r).drop 5).take d.length=d:=by
  rw [hlist,<-List.append_assoc,List.drop_append_of_le_length (by simp only [List.length_append,l1,l4];omega),List.drop_of_length_le (by simp only [List.length_append,l1,l4];omega),List.nil_append,List.take_append_of_le_length (Nat.le_refl _),List.take_length]
 have hR:(Zal t d++r).drop (d.length+9)=r:=by
  have hp:(Zal t d).length=d.length+9:=by unfold Zal;simp only [List.length_append,hHl,lS]
  rw [<- hp,List.drop_left]
 have hS:be (((Zal t d++r).drop (d.length+5)).take 4)=(crcS ((Zal t d++r).take (d.length+5))).toNat:=by
  have e:Zal t d++r=Zck t d++(beb 4 (crcS (Zck t d)).toNat++r):=by unfold Zal;rw [List.append_assoc]
  rw [e,<-hHl,List.drop_left,List.take_left,List.take_append_of_le_length (by omega),List.take_of_length_le (by omega),Zej]
  have:=(crcS (Zck t d)).isLt
  exact Nat.mod_eq_of_lt (by omega)
 rw [Zjb hN hd (by omega) hS,hT,hD,hR]
def Zdl (b:List UInt8) (e:Int):List GFr->Bool->Zak->Nat->Except Int Zak
 | [],_,_,_=>.error (if e≠0 then e else 10)
 | f::fs,first,g,at_ =>
   if (first=true/\f.type≠1)\/(first=false/\(f.type<2\/4<f.type))\/(f.type=2/\0<g.rels.length) then .error 200
   else if f.type=1 then (if f.data=[0,1] then Zdl b e fs false g (at_+(f.data.length+9)) else .error 8)
   else if f.type=2 then
    match pNd f.data with
    | none=>.error 201
    | some n=>Zdl b e fs false ⟨g.nodes++[n],g.rels⟩ (at_+(f.data.length+9))
   else if f.type=3 then
    match pRl f.data with
    | none=>.error 201
    | some r=>Zdl b e fs false ⟨g.nodes,g.rels++[r]⟩ (at_+(f.data.length+9))
   else if f.data=ZaS g.nodes.length g.rels.length g.wt (b.take at_) then (if at_+(f.data.length+9)<b.length then .error 11 else .ok g)
   else .error 202
def Zbo (b:List UInt8):Except Int Zak :=
 if b.length<8 then .error 10
 else if b.take 8≠Zau then .error 90
 else Zdl b (Zab (b.drop 8)).2.2 (Zab (b.drop 8)).1 true noG 8
def endP (rest:List UInt8) (e:Int):Except Int PSt->Except Int Zak
 | .error x=>.error x
 | .ok s=>if s.state=3 then (if rest≠[] then .error 11 else .ok s.g) else .error (if e≠0 then e else 10)
theorem Zjc {l:List UInt8} (h1:(Zab l).1=[]) (h2:(Zab l).2.1=[]):l=[]:=by
 cases hx:oneP l with
 | error e=>rw [Zbs hx] at h2;exact h2
 | ok o =>
   cases o with
   | none=>rw [ZaN hx] at h2;exact h2
   | some p=>rw [ZaG (f:=p.1) (r:=p.2) hx] at h1;cases h1
theorem Zbf:Zab []=([],[],0):=ZaN rfl
theorem Zkl {s:PSt} (h:s.state=3) (f:GFr):Zav s f=.error 11:=by unfold Zav;rw [if_pos h]
theorem Znj (b:List UInt8) (n:Nat):∀ (at_:Nat),b.length-at_<=n->at_<=b.length->∀ (st:Nat) (g:Zak),(st=0/\g.rels=[]\/st=1/\g.rels=[]\/st=2/\0<g.rels.length) ->
 Zdl b (Zab (b.drop at_)).2.2 (Zab (b.drop at_)).1 (st==0) g at_=endP (Zab (b.drop at_)).2.1 (Zab (b.drop at_)).2.2 (Zat (Zab (b.drop at_)).1 ⟨st,g,b.take at_⟩):=by
 induction n with
 | zero =>
   intro at_ h1 h2 st g hst
   have hd:b.drop at_=[]:=List.drop_of_length_le (by omega)
   have hs3:¬ st=3:=by rcases hst with h | h | h <;> omega
   rw [hd,Zbf]
   simp [Zdl,Zat,endP,hs3]
 | succ n ih =>
   intro at_ h1 h2 st g hst
   have hs3:¬ st=3:=by rcases hst with h | h | h <;> omega
   cases hx:oneP (b.drop at_) with
   | error e =>
     rw [Zbs hx]
     simp only [Zdl,Zat,endP]
     rw [if_neg hs3]
   | ok o =>
     cases o with
     | none =>
       rw [ZaN hx]
       simp only [Zdl,Zat,endP]
       rw [if_neg hs3]
     | some p =>
       obtain ⟨f,r⟩:=p
       obtain ⟨hp,hr,hl,-,-⟩:=ZdA hx
       have hal:at_+(f.data.length+9)<=b.length:=by rw [List.length_drop] at hl;omega
       have hr':r=b.drop (at_+(f.data.length+9)):=by rw [hr,List.drop_drop]
       have hall:b.take at_++Zal f.type f.data=b.take (at_+(f.data.length+9)):=by rw [hp];exact List.take_add.symm
       have IH:=ih (at_+(f.data.length+9)) (by omega) hal
       rw [ZaG hx]
       rw [<- hr'] at IH
       simp only [Zdl,Zat]
       by_cases h0:st=0
       · obtain rfl:=h0
         have hg:g.rels=[]:=by rcases hst with h | h | h <;> first | exact h.2 | omega
         by_cases ht:f.type=1
         · have IH1:=IH 1 g (.inr (.inl ⟨rfl,hg⟩))
           rw [if_neg (by simp [ht]),if_pos ht]
           by_cases hd:f.data=[0,1]
           · have e1:Zav ⟨0,g,b.take at_⟩ f=.ok ⟨1,g,b.take (at_+(f.data.length+9))⟩:=by
              unfold Zav
              rw [if_neg (by simp),if_pos ⟨rfl,ht⟩,if_pos hd]
              simp only
              rw [hall]
             rw [if_pos hd,e1]
             exact IH1
           have e1:Zav ⟨0,g,b.take at_⟩ f=.error 8:=by
            unfold Zav
            rw [if_neg (by simp),if_pos ⟨rfl,ht⟩,if_neg hd]
           rw [if_neg hd,e1]
           rfl
         have e1:Zav ⟨0,g,b.take at_⟩ f=.error 200:=by
          unfold Zav
          simp [ht]
         rw [if_pos (.inl ⟨rfl,ht⟩),e1]
         rfl
       have hfst:(st==0)=false:=by simpa using h0
       rw [hfst]
       by_cases hbad:f.type<2\/4<f.type
       · have e1:Zav ⟨st,g,b.take at_⟩ f=.error 200:=by
          unfold Zav
          rw [if_neg hs3,if_neg (by simp [h0]),if_neg (by omega),if_neg (by omega),if_neg (by omega)]
         rw [if_pos (.inr (.inl ⟨rfl,hbad⟩)),e1]
         rfl
       have ht:f.type=2\/f.type=3\/f.type=4:=by omega
       rcases ht with ht | ht | ht
       · by_cases hg:0<g.rels.length
         · have hs2:¬ st=1:=by
            rcases hst with h | h | h
            · omega
            · rw [h.2] at hg;simp at hg
            omega
           have e1:Zav ⟨st,g,b.take at_⟩ f=.error 200:=by
            unfold Zav
            rw [if_neg hs3,if_neg (by simp [h0]),if_neg (by simp [hs2]),if_neg (by omega),if_neg (by omega)]
           rw [if_pos (.inr (.inr ⟨ht,hg⟩)),e1]
           rfl
         have hs1:st=1:=by rcases hst with h | h | h <;> first | omega | exact h.1
         have hgr:g.rels=[]:=List.length_eq_zero_iff.1 (by omega)
         rw [if_neg (by simp [ht,hgr]),if_neg (by omega),if_pos ht]
         cases hn:pNd f.data with
         | none =>
           have e1:Zav ⟨st,g,b.take at_⟩ f=.error 201:=by
            unfold Zav
            rw [if_neg hs3,if_neg (by simp [h0]),if_pos ⟨hs1,ht⟩,hn]
           rw [e1]
           rfl
         | some x =>
           have e1:Zav ⟨st,g,b.take at_⟩ f=.ok ⟨1,⟨g.nodes++[x],g.rels⟩,b.take (at_+(f.data.length+9))⟩:=by
            unfold Zav
            rw [if_neg hs3,if_neg (by simp [h0]),if_pos ⟨hs1,ht⟩,hn]
            simp only
            rw [hall]
           rw [e1]
           exact IH 1 ⟨g.nodes++[x],g.rels⟩ (.inr (.inl ⟨rfl,hgr⟩))
       · rw [if_neg (by simp [ht]),if_neg (by omega),if_neg (by omega),if_pos ht]
         cases hn:pRl f.data with
         | none =>
           have e1:Zav ⟨st,g,b.take at_⟩ f=.error 201:=by
            unfold Zav
            rw [if_neg hs3,if_neg (by simp [h0]),if_neg (by omega),if_pos ⟨h0,ht⟩,hn]
           rw [e1]
           rfl
         | some x =>
           have e1:Zav ⟨st,g,b.take at_⟩ f=.ok ⟨2,⟨g.nodes,g.rels++[x]⟩,b.take (at_+(f.data.length+9))⟩:=by
            unfold Zav
            rw [if_neg hs3,if_neg (by simp [h0]),if_neg (by omega),if_pos ⟨h0,ht⟩,hn]
            simp only
            rw [hall]
           rw [e1]
           exact IH 2 ⟨g.nodes,g.rels++[x]⟩ (.inr (.inr ⟨rfl,by simp⟩))
       rw [if_neg (by simp [ht]),if_neg (by omega),if_neg (by omega),if_neg (by omega)]
       by_cases htr:f.data=ZaS g.nodes.length g.rels.length g.wt (b.take at_)
       · have e1:Zav ⟨st,g,b.take at_⟩ f=.ok ⟨3,g,b.take (at_+(f.data.length+9))⟩:=by
          unfold Zav
          rw [if_neg hs3,if_neg (by simp [h0]),if_neg (by omega),if_neg (by omega),if_pos ⟨h0,ht⟩,if_pos htr]
          simp only
          rw [hall]
         rw [if_pos htr,e1]
         simp only
         by_cases hend:at_+(f.data.length+9)<b.length
         · rw [if_pos hend]
           cases hfr:(Zab r).1 with
           | nil =>
             simp only [Zat,endP]
             rw [if_pos trivial,if_pos]
             intro hr2
             have h3:=Zjc hfr hr2
             have h4:=congrArg List.length hr'
             rw [h3,List.length_drop] at h4
             simp at h4
             omega
           | cons f' fs' =>
             simp only [Zat]
             rw [Zkl rfl]
             rfl
         rw [if_neg hend]
         have h3:r=[]:=by rw [hr'];exact List.drop_of_length_le (by omega)
         rw [h3,Zbf]
         simp [Zat,endP]
       have e1:Zav ⟨st,g,b.take at_⟩ f=.error 202:=by
        unfold Zav
        rw [if_neg hs3,if_neg (by simp [h0]),if_neg (by omega),if_neg (by omega),if_pos ⟨h0,ht⟩,if_neg htr]
       rw [if_neg htr,e1]
       rfl
def Zkm:Except Int PSt->Except Int Zak
 | .error x=>.error x
 | .ok s=>if s.state=3 then .ok s.g else .error 10
theorem ZcT:Zau.length=8:=rfl
theorem ZgJ {b:List UInt8} (h:b.length<=16777216):Zbo b=Zkm (fedP b):=by
 unfold Zbo fedP
 rw [if_neg (show ¬ 16777216<b.length by omega)]
 by_cases h8:b.length<8
 · rw [if_pos h8,if_pos h8]
   rfl
 rw [if_neg h8,if_neg h8]
 by_cases hm:b.take 8≠Zau
 · rw [if_pos hm,if_pos hm]
   rfl
 rw [if_neg hm,if_neg hm]
 have hm':b.take 8=Zau:=Decidable.not_not.1 hm
 have h1:=Znj b b.length 8 (by omega) (by omega) 0 noG (.inl ⟨rfl,rfl⟩)
 rw [hm'] at h1
 refine h1.trans ?_
 cases hx:Zat (Zab (b.drop 8)).1 ⟨0,noG,Zau⟩ with
 | error x=>rfl
 | ok s =>
   simp only [endP]
   by_cases h3:s.state=3
   · rw [if_pos h3,if_pos h3]
     by_cases hr:(Zab (b.drop 8)).2.1≠[]
     · rw [if_pos hr,if_pos hr]
       rfl
     rw [if_neg hr,if_neg hr]
     simp only [Zkm]
     rw [if_pos h3]
   rw [if_neg h3,if_neg h3]
   by_cases he:(Zab (b.drop 8)).2.2≠0
   · rw [if_pos he,if_pos he]
     rfl
   rw [if_neg he,if_neg he]
   simp only [Zkm]
   rw [if_neg h3]
theorem ZaT (t:Nat) (d:List UInt8):(Zal t d).length=d.length+9:=by
 unfold Zal Zck
 simp only [List.length_append,Zac]
 omega
theorem ZbQ (n r w:Nat) (all:List UInt8):(ZaS n r w all).length=16:=by
 unfold ZaS
 simp only [List.length_append,Zac]
theorem Zcg (s:ByteArray):(ZaA s).length=1+s.size:=by
 unfold ZaA
 rw [List.length_append,Zac,Zbr]
theorem Zlx (p:GPr) (l:List GPr):psW (p::l)=(enc p.val).length+psW l:=by simp [psW]
theorem ZcU (l m:List GPr):psW (l++m)=psW l+psW m:=by simp [psW]
end Go.Proofs.YtkopcinhbjimiaaGreatDoor
