/- Texts that the claim leans on: walks and plain laws, function by function. -/
import Derived.Test.YtkopcinhbjimiaaGreatDoorK09
import Derived.Test.YtkopcinhbjimiaaGreatDoorK02
import Derived.Laws.DeepBits32
import Derived.Deep.DeepCutAuto
import Derived.Deep.CutRange
import Derived.Test.YtkopcinhbjimiaaGreatDoorK08
import Derived.Test.YtkopcinhbjimiaaGreatDoorK03
import Derived.Test.YtkopcinhbjimiaaGreatDoorK06
import Derived.Test.YtkopcinhbjimiaaGreatDoorK04
import Derived.Deep.RegionHeld3
import Derived.Test.YtkopcinhbjimiaaGreatDoorK07
import Derived.Test.YtkopcinhbjimiaaGreatDoorK01
set_option maxRecDepth 100000
set_option maxHeartbeats 16000000
namespace Go.Proofs.YtkopcinhbjimiaaGreatDoor
open Go.RowKit
def Nib (w:World):Prop:=1<w.heap.size/\∀ (i:Nat) (t:BitVec 32),crcT[i]?=some t->w.cell? ⟨1,i,none⟩=some (.int .u32 (t.toNat:Int))
theorem Nib.upd {w w':World} {S:Nat->Prop} (h:Nib w) (hu:Upd S w w') (hs:¬ S 1):Nib w' :=
 ⟨Nat.lt_of_lt_of_le h.1 hu.size,fun i t ht=>(hu.cell (p:=⟨1,i,none⟩) h.1 hs).trans (h.2 i t ht)⟩
theorem Nib.same {w w':World} (h:Nib w) (hu:Same w w'):Nib w':=h.upd hu fun f=>f
theorem u32_bv (a:BitVec 32):BitVec.ofInt 32 (a.toNat:Int)=a:=by rw [BitVec.ofInt_natCast,BitVec.ofNat_toNat,BitVec.setWidth_eq]
theorem u32_wrap (a:BitVec 32):IntKind.u32.wrap (a.toNat:Int)=(a.toNat:Int):=IntWalk.u32_in _ ⟨by omega,by have:=a.isLt;omega⟩
theorem u32_xor (a b:BitVec 32):bits .xor .u32 (a.toNat:Int) (b.toNat:Int)=((a ^^^ b).toNat:Int):=by
 show IntKind.u32.wrap ((BitVec.ofInt 32 (a.toNat:Int) ^^^ BitVec.ofInt 32 (b.toNat:Int)).toNat:Int)=_
 rw [u32_bv,u32_bv,u32_wrap]
theorem u32_and (a b:BitVec 32):bits .and .u32 (a.toNat:Int) (b.toNat:Int)=((a &&& b).toNat:Int):=by
 show IntKind.u32.wrap ((BitVec.ofInt 32 (a.toNat:Int) &&& BitVec.ofInt 32 (b.toNat:Int)).toNat:Int)=_
 rw [u32_bv,u32_bv,u32_wrap]
theorem u32_not (a:BitVec 32):bits BinOp.xor IntKind.u32 IntKind.u32.max (a.toNat:Int)=((~~~ a).toNat:Int):=by
 have h:=u32_xor (~~~ 0#32) a
 have e:(((~~~ 0#32:BitVec 32).toNat:Nat):Int)=IntKind.u32.max:=by decide
 rw [e] at h
 rw [h]
 congr 2
theorem u32_shr4 (a:BitVec 32):(a.toNat:Int) / 16=((a >>> 4).toNat:Int):=by
 rw [BitVec.toNat_ushiftRight,Nat.shiftRight_eq_div_pow]
 rfl
theorem u8_u32 (x:UInt8):IntKind.u32.wrap (x.toNat:Int)=(((x.toBitVec.setWidth 32).toNat:Nat):Int):=by
 rw [BitVec.toNat_setWidth,Nat.mod_eq_of_lt (by have:=x.toNat_lt;have e:x.toBitVec.toNat=x.toNat:=rfl;omega)]
 exact IntWalk.u32_in _ ⟨by omega,by have:=x.toNat_lt;omega⟩
theorem half_step {w:World} (hN:Nib w) (c:BitVec 32):∃ (i:Nat) (t s c':BitVec 32),bits BinOp.and IntKind.u32 (c.toNat:Int) 15=(i:Int)/\(i:Int)<16/\w.cell? ⟨1,i,none⟩=some (.int .u32 (t.toNat:Int))/\(c.toNat:Int) / 16=(s.toNat:Int)/\bits BinOp.xor IntKind.u32 (t.toNat:Int) (s.toNat:Int)=(c'.toNat:Int)/\c'=bst (bst (bst (bst c))):=by
 obtain ⟨t,h1,h2,h3⟩:=crcT_step c
 exact ⟨_,t,c >>> 4,_,u32_and c 15#32,by omega,hN.2 _ _ h1,u32_shr4 c,u32_xor _ _,h2⟩
theorem crcUpdate_spec {F:Nat->Prop} {A:Option Addr} {n c:Nat} {bs:List UInt8} (w:World) (hb:Bytes w F A n c bs) (hN:Nib w) (s r:BitVec 32) (hr : ~~~ crcU (~~~ s) bs=r) :
 Calls Tryz.prog 73 #[.int .u32 (s.toNat:Int),.slice A n c] w fun e w'=>e=.returned (.int .u32 (r.toNat:Int))/\w=w':=by
 have HR:=qH hr
 clear hr
 have HL:=qH hb.len
 have HB:=qH hb
 have HN:=qH hN
 clear hb hN
 go_enter Tryz.func73,Tryz.ntmps73
 go_wp2_with fail
 rw [show bits BinOp.xor IntKind.u32 IntKind.u32.max (s.toNat:Int)=((~~~ s).toNat:Int) from u32_not s]
 generalize ~~~ s=c0 at HR ⊢
 go_loop [5,12] (fun v i=>∃ k:Nat,k<=n/\i=.int .i64 k/\v=.int .u32 ((crcU c0 (bs.take k)).toNat:Int)) (fun _ i=>n-(intOf i).toNat)
 case atStart=>exact ⟨0,Nat.zero_le _,rfl,rfl⟩
 obtain ⟨k,hk,rfl,rfl⟩:=hrel
 by_cases hlt:k<n
 · obtain ⟨b,o,rfl,hbl,_,hc⟩:=HB.out.at_ hlt
   have hkl:k<bs.length:=by rw [HL.out];exact hlt
   obtain ⟨x,hx⟩:∃ x,bs[k]=x:=⟨_,rfl⟩
   rw [hx] at hc
   obtain ⟨cc,hcc⟩:∃ cc,crcU c0 (bs.take k)=cc:=⟨_,rfl⟩
   rw [hcc]
   have HX:=qH hx
   have HCC:=qH hcc
   clear hx hcc
   have hk1:(0:Int)<=(k:Int):=by omega
   have hk2:(k:Int)<(n:Int):=by omega
   have hw1:IntKind.i64.wrap ((k:Int)+1)=(k:Int)+1:=by rw [IntKind.wrap_i64];have:=Row.max HB.out;have:=Row.le HB.out;unfold maxLen at *;omega
   obtain ⟨xe,hxe⟩:∃ xe,xe=x.toBitVec.setWidth 32:=⟨_,rfl⟩
   have e0:(x.toNat:Int) % 4294967296=(xe.toNat:Int):=by
    have:=u8_u32 x
    rw [IntKind.wrap_u32] at this
    rw [hxe]
    exact this
   obtain ⟨c1,hc1⟩:∃ c1,cc ^^^ xe=c1:=⟨_,rfl⟩
   have e1:bits BinOp.xor IntKind.u32 (cc.toNat:Int) (xe.toNat:Int)=(c1.toNat:Int):=by rw [<- hc1];exact u32_xor _ _
   obtain ⟨i1,t1,s1,c2,a1,a2,a3,a4,a5,h2⟩:=half_step HN.out c1
   obtain ⟨i2,t2,s2,c3,b1,b2,b3,b4,b5,h3⟩:=half_step HN.out c2
   have a6:(0:Int)<=(i1:Int):=by omega
   have b6:(0:Int)<=(i2:Int):=by omega
   have HC3:Hid (crcU c0 (bs.take (k+1))=c3):=qH (by
    rw [take_snoc bs k hkl,crcU_app,HCC.out,HX.out,h3,h2,<-hc1,hxe]
    rfl)
   clear hxe hc1 h2 h3
   go_wp2
   go_round
   case rel=>exact ⟨k+1,by omega,by go_num,by rw [HC3.out]⟩
   case measure=>simp [intOf];omega
 have hkn:k=n:=by omega
 rw [List.take_of_length_le (by rw [HL.out];omega)]
 have hn:=u32_not (crcU c0 bs)
 rw [HR.out] at hn
 generalize crcU c0 bs=cc at hn ⊢
 go_wp2
 go_ret
 exact ⟨rfl,rfl⟩
theorem crcSum_spec {F:Nat->Prop} {A:Option Addr} {n c:Nat} {bs:List UInt8} (w:World) (hb:Bytes w F A n c bs) (hN:Nib w) :
 Calls Tryz.prog 80 #[.slice A n c] w fun e w'=>e=.returned (.int .u32 ((crcS bs).toNat:Int))/\w=w':=by
 go_enter Tryz.func80,Tryz.ntmps80
 go_wp2_with fail
 refine (crcUpdate_spec w hb hN 0#32 (crcS bs) rfl).mono ?_
 rintro e w' ⟨rfl,rfl⟩
 go_wp2
 go_ret
 exact ⟨rfl,rfl⟩
def Dig (w:World) (d:Nat) (all:List UInt8):Prop:=Blk w d 121 #[.int .u32 ((crcS all).toNat:Int),.int .i64 (all.length:Int)]
theorem crcNew_spec (w:World):Calls Tryz.prog 37 #[] w fun e w'=>∃ d,e=.returned (.pointer (some ⟨d,0,none⟩))/\Dig w' d []/\d=w.heap.size/\Same w w':=by
 go_enter Tryz.func37,Tryz.ntmps37
 go_wp2
 go_ret
 exact ⟨_,rfl,Blk.new w _ _,rfl,(Upd.refl _ w).alloc _⟩
theorem digWrite_spec {F:Nat->Prop} {A:Option Addr} {n c d:Nat} {bs all:List UInt8} (w:World) (hd:Dig w d all) (hb:Bytes w F A n c bs) (hN:Nib w) (hl:all.length+n<=9223372036854775807) :
 Calls Tryz.prog 38 #[.pointer (some ⟨d,0,none⟩),.slice A n c] w fun e w'=>e=.returned (.tuple #[])/\Dig w' d (all++bs)/\Upd (fun b=>b=d) w w':=by
 have HL:=qH hb.len
 have h0:w.cell? ⟨d,0,none⟩=some (.int .u32 ((crcS all).toNat:Int)):=Blk.cell hd 0
 have h1:w.cell? ⟨d,1,none⟩=some (.int .i64 (all.length:Int)):=Blk.cell hd 1
 have f0:=Blk.frozen hd 0
 have f1:=Blk.frozen hd 1
 have HD:=qH hd
 have hw:IntKind.i64.wrap ((all.length:Int)+(n:Int))=(all.length:Int)+(n:Int):=by rw [IntKind.wrap_i64];omega
 have hnn : ~~~ crcU (~~~ (crcS all)) bs=crcS (all++bs):=by unfold crcS;rw [crcU_app,BitVec.not_not]
 have HNN:=qH hnn
 clear hnn hd
 go_enter Tryz.func38,Tryz.ntmps38
 go_wp2_with fail
 refine (crcUpdate_spec w hb hN _ _ HNN.out).mono ?_
 rintro e w' ⟨rfl,rfl⟩
 go_wp2
 go_end0
 refine ⟨rfl,?_,((Upd.refl (fun b=>b=d) w).put1 _).put1 _⟩
 have h9:=(Blk.put HD.out 0 (.int .u32 ((crcS (all++bs)).toNat:Int))).put 1 (.int .i64 ((all.length:Int)+(n:Int)))
 have e9:(((all++bs).length:Nat):Int)=(all.length:Int)+(n:Int):=by rw [List.length_append,HL.out];omega
 unfold Dig
 rw [e9]
 exact h9
theorem digSum_spec {d:Nat} {all:List UInt8} (w:World) (hd:Dig w d all):Calls Tryz.prog 42 #[.pointer (some ⟨d,0,none⟩)] w fun e w'=>e=.returned (.int .u32 ((crcS all).toNat:Int))/\w=w':=by
 have h0:w.cell? ⟨d,0,none⟩=some (.int .u32 ((crcS all).toNat:Int)):=Blk.cell hd 0
 go_enter Tryz.func42,Tryz.ntmps42
 go_wp2
 go_ret
 exact ⟨rfl,rfl⟩
end Go.Proofs.YtkopcinhbjimiaaGreatDoor
namespace Go.Proofs.YtkopcinhbjimiaaGreatDoor
structure GFr where
 type:Nat
 data:List UInt8
def packH (t:Nat) (d:List UInt8):List UInt8:=beb 1 t++(beb 4 d.length++d)
def packP (t:Nat) (d:List UInt8):List UInt8:=packH t d++beb 4 (crcS (packH t d)).toNat
def oneP (l:List UInt8):Except Int (Option (GFr×List UInt8)) :=
 if l.length<5 then .ok none
 else if 1048576<be ((l.drop 1).take 4) then .error 1
 else if l.length<be ((l.drop 1).take 4)+9 then .ok none
 else if be ((l.drop (be ((l.drop 1).take 4)+5)).take 4)≠(crcS (l.take (be ((l.drop 1).take 4)+5))).toNat then .error 91
 else .ok (some (⟨be (l.take 1),(l.drop 5).take (be ((l.drop 1).take 4))⟩,l.drop (be ((l.drop 1).take 4)+9)))
theorem oneP_lt {l:List UInt8} {f:GFr} {r:List UInt8} (h:oneP l=.ok (some (f,r))):r.length+9<=l.length:=by
 unfold oneP at h
 split at h
 · cases h
 split at h
 · cases h
 split at h
 · cases h
 split at h
 · cases h
 injection h with h
 injection h with h
 injection h with h1 h2
 rw [<- h2,List.length_drop]
 omega
def framesP (l:List UInt8):List GFr×List UInt8×Int :=
 match h:oneP l with
 | .error e=>([],l,e)
 | .ok none=>([],l,0)
 | .ok (some (f,r)) =>
   have:r.length<l.length:=by have:=oneP_lt h;omega
   ((f::(framesP r).1),(framesP r).2)
termination_by l.length
theorem framesP_err {l:List UInt8} {e:Int} (h:oneP l=.error e):framesP l=([],l,e):=by
 rw [framesP]
 split
 · rename_i h';rw [h] at h';injection h' with h';rw [h']
 · rename_i h';rw [h] at h';cases h'
 rename_i h';rw [h] at h';cases h'
theorem framesP_none {l:List UInt8} (h:oneP l=.ok none):framesP l=([],l,0):=by
 rw [framesP]
 split
 · rename_i h';rw [h] at h';cases h'
 · rfl
 rename_i h';rw [h] at h';cases h'
theorem framesP_some {l r:List UInt8} {f:GFr} (h:oneP l=.ok (some (f,r))):framesP l=(f::(framesP r).1,(framesP r).2):=by
 rw [framesP]
 split
 · rename_i h';rw [h] at h';cases h'
 · rename_i h';rw [h] at h';cases h'
 rename_i h'
 rw [h] at h'
 injection h' with h'
 injection h' with h'
 injection h' with h1 h2
 subst h1 h2
 rfl
def encName (s:ByteArray):List UInt8:=beb 1 s.size++s.data.toList
def encPr (p:GPr):List UInt8:=encName p.key++(beb 2 (enc p.val).length++enc p.val)
def encPs (ps:List GPr):List UInt8:=beb 1 ps.length++ps.flatMap encPr
def encNd (x:GNode):List UInt8:=beb 4 (u64 x.id)++(beb 1 x.labels.length++(x.labels.flatMap encName++encPs x.props))
def encRl (x:GRel):List UInt8:=beb 4 (u64 x.id)++(beb 4 (u64 x.src)++(beb 4 (u64 x.dst)++(encName x.type++encPs x.props)))
def trailP (n r w:Nat) (all:List UInt8):List UInt8:=beb 4 n++(beb 4 r++(beb 4 w++beb 4 (crcS all).toNat))
def magicP:List UInt8:=[83,65,84,67,72,69,76,49]
def decA (l:List UInt8):GVal×Int:=decD l.length (decP l)
def RS.name (s:RS):ByteArray×RS:=(⟨((s.num 1).2.take ((s.num 1).1:Int) true).1.toArray⟩,((s.num 1).2.take ((s.num 1).1:Int) true).2)
def RS.names:Nat->RS->List ByteArray×RS
 | 0,s=>([],s)
 | k+1,s=>(s.name.1::(RS.names k s.name.2).1,(RS.names k s.name.2).2)
def RS.raw2 (s:RS):List UInt8×RS:=(s.num 2).2.take ((s.num 2).1:Int) true
def RS.prs:Nat->RS->Option (List GPr)×RS
 | 0,s=>(some [],s)
 | k+1,s =>
   if (decA s.name.2.raw2.1).2≠0 then (none,s.name.2.raw2.2)
   else ((RS.prs k s.name.2.raw2.2).1.map (⟨s.name.1,(decA s.name.2.raw2.1).1⟩::·),(RS.prs k s.name.2.raw2.2).2)
def RS.props (s:RS):Option (List GPr) :=
 if (RS.prs (s.num 1).1 (s.num 1).2).2.err=0/\(RS.prs (s.num 1).1 (s.num 1).2).2.left=[] then (RS.prs (s.num 1).1 (s.num 1).2).1 else none
def pNd (l:List UInt8):Option GNode :=
 let s1:=RS.num ⟨l,0⟩ 4
 let s2:=s1.2.num 1
 let s3:=RS.names s2.1 s2.2
 s3.2.props.map fun ps=>⟨s1.1,s3.1,ps⟩
def pRl (l:List UInt8):Option GRel :=
 let s1:=RS.num ⟨l,0⟩ 4
 let s2:=s1.2.num 4
 let s3:=s2.2.num 4
 let s4:=s3.2.name
 s4.2.props.map fun ps=>⟨s1.1,s4.1,s2.1,s3.1,ps⟩
structure PSt where
 state:Nat
 g:GGraph
 all:List UInt8
def psW (ps:List GPr):Nat:=(ps.map fun p=>(enc p.val).length).sum
def GGraph.wt (g:GGraph):Nat:=psW (g.nodes.flatMap GNode.props)+psW (g.rels.flatMap GRel.props)
def takeP (s:PSt) (f:GFr):Except Int PSt :=
 if s.state=3 then .error 11
 else if s.state=0/\f.type=1 then
  if f.data=[0,1] then .ok ⟨1,s.g,s.all++packP f.type f.data⟩ else .error 8
 else if s.state=1/\f.type=2 then
  match pNd f.data with
  | none=>.error 201
  | some n=>.ok ⟨1,⟨s.g.nodes++[n],s.g.rels⟩,s.all++packP f.type f.data⟩
 else if s.state≠0/\f.type=3 then
  match pRl f.data with
  | none=>.error 201
  | some r=>.ok ⟨2,⟨s.g.nodes,s.g.rels++[r]⟩,s.all++packP f.type f.data⟩
 else if s.state≠0/\f.type=4 then
  if f.data=trailP s.g.nodes.length s.g.rels.length s.g.wt s.all then .ok ⟨3,s.g,s.all++packP f.type f.data⟩ else .error 202
 else .error 200
def takesP:List GFr->PSt->Except Int PSt
 | [],s=>.ok s
 | f::fs,s=>match takeP s f with
   | .error e=>.error e
   | .ok s'=>takesP fs s'
def noG:GGraph:=⟨[],[]⟩
def fedP (b:List UInt8):Except Int PSt :=
 if 16777216<b.length then .error 1
 else if b.length<8 then .ok ⟨0,noG,b⟩
 else if b.take 8≠magicP then .error 90
 else match takesP (framesP (b.drop 8)).1 ⟨0,noG,magicP⟩ with
  | .error e=>.error e
  | .ok s =>
    if s.state=3 then (if (framesP (b.drop 8)).2.1≠[] then .error 11 else .ok s)
    else if (framesP (b.drop 8)).2.2≠0 then .error (framesP (b.drop 8)).2.2 else .ok s
end Go.Proofs.YtkopcinhbjimiaaGreatDoor
namespace Go.Proofs.YtkopcinhbjimiaaGreatDoor
open Go.RowKit
theorem wraw_spec {w:World} {F:Nat->Prop} {B r:Nat} {A:Option Addr} {n c:Nat} {bs xs:List UInt8} (h:Wtr w B r bs) (hx:Bytes w F A n c xs) (hl:bs.length+n<=140737488355328) :
 Calls Tryz.prog 79 #[.pointer (some ⟨r,0,none⟩),.slice A n c] w fun e w'=>e=.returned (.tuple #[])/\Wtr w' B r (bs++xs)/\Upd (fun b=>B<=b) w w':=by
 obtain ⟨hB,v,hb,ho⟩:=h
 have hlt:=hb.lt
 have hne:v.ownBlock≠some r:=hb.ne_own ho (by decide)
 have h0:=hb.cell 0
 simp only [List.getElem?_toArray,List.getElem?_cons_zero] at h0
 have HL:=qH hx.len
 go_enter Tryz.func79,Tryz.ntmps79
 go_wp2_with (at_builtin;go_must (refine wpList_app rfl (.tmp 8) (.tmp 9) _ _ rfl B _ _ _ _ Tryz.underlying28 info_u8 rfl v _ _ rfl ho rfl (src_row Tryz.underlying28 hx (u8_oneCell xs)) (by unfold maxLen;omega) (by omega) (by omega) ?_);intro v' w1 hg;obtain ⟨A',m',c',rfl⟩:=own_slice hg.own;have f1:w1.frozen? ⟨r,0,none⟩=false:=(hg.blk hb hne).frozen 0;have h1:w1.cell? ⟨r,0,none⟩=some v:=(hg.blk hb hne).cell 0)
 go_end0
 have hb1:=hg.blk hb hne
 have hne':(Value.slice A' m' c').ownBlock≠some r:=hb1.ne_own hg.own (by decide)
 refine ⟨rfl,⟨hB,_,hb1.put 0 _,?_⟩,(hg.upd.mono fun b _ hv=>(ho.lt b hv).1).put hB _⟩
 have h2:=own_upd hg.own ((Upd.refl (fun b=>b=r) w1).put1 (i:=0) (.slice A' m' c')) fun g hgg hgr=>hne' (hgr ▸ hgg)
 unfold OwnB
 rw [List.length_append,HL.out,List.map_append]
 exact h2
theorem room_ok (A:Option Addr) (n c at_ width:Nat) (w:World) (hw:isWidthB width=true) (h:at_+width<=n) (hn:n<=9223372036854775807) :
 Calls Tryz.prog 185 #[.slice A n c,.int .i64 at_,.int .i64 width] w fun e w'=>e=.returned (.int .i64 0)/\w=w':=by
 have HW:=qH hw
 clear hw
 go_enter Tryz.func185,Tryz.ntmps185
 go_wp2_with fail
 refine (isWidth_spec _ _).mono ?_
 rintro e w' ⟨rfl,rfl⟩
 rw [HW.out]
 go_wp2
 go_ret
 exact ⟨rfl,rfl⟩
theorem get_ok {F:Nat->Prop} {A:Option Addr} {n c:Nat} {bs:List UInt8} (w:World) (hb:Bytes w F A n c bs) (at_ width:Nat) (hw:isWidthB width=true) (h:at_+width<=n) {N:Nat} (hN:be ((bs.drop at_).take width)=N) :
 Calls Tryz.prog 161 #[.slice A n c,.int .i64 at_,.int .i64 width] w fun e w'=>e=.returned (.tuple #[.int .u64 N,.int .i64 0])/\w=w':=by
 have hmx:=Row.max hb
 have hle:=Row.le hb
 unfold maxLen at hmx
 have hn:n<=9223372036854775807:=by omega
 have hw8:1<=width/\width<=8:=by
  simp only [isWidthB,Bool.or_eq_true,beq_iff_eq] at hw
  omega
 obtain ⟨b,o,_,rfl,_,_,_,_⟩:=Row.at_ hb (i:=at_) (by omega)
 have HN:=qH hN
 have HB:=qH hb
 have HW:=qH hw
 clear hN hb hw
 go_enter Tryz.func161,Tryz.ntmps161
 go_wp2_with fail
 refine (room_ok _ _ _ _ _ _ HW.out h hn).mono ?_
 rintro e w' ⟨rfl,rfl⟩
 go_wp2_with fail
 have hc:=HB.out.cut (j:=at_) (m:=at_+width) (by omega) h
 rw [if_neg (by omega),Option.map_some,addr_add,Nat.add_sub_cancel_left] at hc
 refine (number_spec _ hc (by omega)).mono ?_
 rintro e w' ⟨rfl,rfl⟩
 rw [HN.out]
 go_wp2
 go_ret2
 exact ⟨rfl,rfl⟩
theorem packF_spec {F:Nat->Prop} {A:Option Addr} {n c:Nat} {bs:List UInt8} (w:World) (t:Nat) (ht:t<=255) (hb:Bytes w F A n c bs) (hn:n<=1048576) (hN:Nib w) :
 Calls Tryz.prog 40 #[.agg #[.int .i64 (t:Int),.slice A n c]] w fun e w'=>∃ v,e=.returned (.tuple #[v,.int .i64 0])/\Hid (OwnB w' w.heap.size v (packP t bs))/\Same w w':=by
 have hs1:=(Upd.refl (fun _=>False) w).alloc (.cells #[.int .i64 (t:Int),.slice A n c] 84)
 have HB1:=qH (Blk.new w 84 #[.int .i64 (t:Int),.slice A n c])
 have HL:=qH hb.len
 have HY:=qH ((hb.mono (F':=fun b=>b<w.heap.size) fun b h _=>h).same hs1)
 have HN:=qH (hN.same hs1)
 have HS1:=qH hs1
 have HZ:=qH (show w.heap.size<(w.alloc (.cells #[.int .i64 (t:Int),.slice A n c] 84)).heap.size by rw [World.size_alloc];omega)
 have ht0:(0:Int)<=(t:Int):=by omega
 have ht1:(t:Int)<=255:=by omega
 obtain ⟨P1,hP1⟩:∃ P1,P1=([]++beb 1 t)++beb 4 n:=⟨_,rfl⟩
 obtain ⟨P2,hP2⟩:∃ P2,P2=P1++bs:=⟨_,rfl⟩
 obtain ⟨S,hS⟩:∃ S,S=crcS P2:=⟨_,rfl⟩
 have hl2:P2.length=n+5:=by rw [hP2,hP1];simp [beb_len,hb.len];omega
 have HL2:=qH hl2
 have HP:Hid (packP t bs=P2++beb 4 S.toNat):=qH (by
  have e:packH t bs=P2:=by rw [hP2,hP1];unfold packH;rw [hb.len];simp
  unfold packP
  rw [e,hS])
 have HPS:=qH (And.intro hP1 (And.intro hP2 hS))
 have HSL:=qH (show S.toNat<4294967296 from S.isLt)
 generalize packP t bs=out at HP ⊢
 have hN1:=hN.1
 clear hb hN hs1 hP1 hP2 hS hl2
 go_enter Tryz.func40,Tryz.ntmps40
 go_upto_region 5 with fail
 generalize w.alloc (.cells #[.int .i64 (t:Int),.slice A n c] 84)=w1 at *
 go_wp2_with fail
 refine (newWriter_spec w1).mono ?_
 rintro e w2 ⟨r,rfl,HW2,hs2⟩
 have HW2:=qH HW2
 have c0:w2.cell? ⟨w.heap.size,0,none⟩=some (.int .i64 (t:Int)):=(HB1.out.same hs2).cell 0
 have HU:=qH (hs2.mono (S':=fun b=>w1.heap.size<=b) fun _ _ f=>f.elim)
 clear hs2
 go_wp2_with fail
 refine (wnum_nat HW2.out 1 t (by decide) (by simp)).mono ?_
 rintro e w3 ⟨rfl,HW3,hu3⟩
 have HW3:=qH HW3
 have HU3:=qH (HU.out.trans hu3 fun _ _ h=>h)
 clear hu3 c0 HU HW2
 have c1:w3.cell? ⟨w.heap.size,1,none⟩=some (.slice A n c):=(HB1.out.upd HU3.out (by have:=HZ.out;omega)).cell 1
 go_wp2_with fail
 refine (wnum_nat HW3.out 4 n (by decide) (by simp [beb_len])).mono ?_
 rintro e w4 ⟨rfl,HW4,hu4⟩
 have HW4:=qH (show Wtr w4 w1.heap.size r P1 by rw [HPS.out.1];exact HW4)
 have HU4:=qH (HU3.out.trans hu4 fun _ _ h=>h)
 clear hu4 c1 HU3 HW3
 have c1:w4.cell? ⟨w.heap.size,1,none⟩=some (.slice A n c):=(HB1.out.upd HU4.out (by have:=HZ.out;omega)).cell 1
 have HL1:=qH (show P1.length=5 by rw [HPS.out.1];simp [beb_len])
 go_wp2_with fail
 refine (wraw_spec HW4.out (HY.out.upd HU4.out fun b h1 h2=>by have:=HZ.out;omega) (by rw [HL1.out];omega)).mono ?_
 rintro e w5 ⟨rfl,HW5,hu5⟩
 have HW5:=qH (show Wtr w5 w1.heap.size r P2 by rw [HPS.out.2.1];exact HW5)
 have HU5:=qH (HU4.out.trans hu5 fun _ _ h=>h)
 clear hu5 c1 HU4 HW4
 go_wp2_with fail
 refine (wbytes_spec HW5.out (by rw [HL2.out];omega)).mono ?_
 rintro e w6 ⟨v6,rfl,HO6,hs6⟩
 obtain ⟨A6,c6,rfl⟩:=own_form HO6
 have hBy:=own_bytes HO6
 have HBy:=qH hBy
 clear hBy
 have HO6:=qH HO6
 have HW6:=qH (HW5.out.same hs6)
 have HU6:=qH (HU5.out.same hs6)
 have HN6:=qH (HN.out.upd HU6.out (by have:=hN1;have:=HZ.out;omega))
 clear hs6 HW5 HU5
 go_wp2_with fail
 refine (crcSum_spec w6 HBy.out HN6.out).mono ?_
 rintro e w6' ⟨rfl,rfl⟩
 rw [<- HPS.out.2.2]
 have hsl:=HSL.out
 go_wp2_with fail
 refine (wnum_nat HW6.out 4 S.toNat (by decide) (by rw [HL2.out];omega)).mono ?_
 rintro e w7 ⟨rfl,HW7,hu7⟩
 have HW7:=qH HW7
 have HU7:=qH (HU6.out.trans hu7 fun _ _ h=>h)
 clear hu7 HW6 HU6 hsl
 go_wp2_with fail
 refine (wbytes_spec HW7.out (by rw [List.length_append,HL2.out,beb_len];omega)).mono ?_
 rintro e w8 ⟨v8,rfl,HO8,hs8⟩
 go_wp2
 go_ret2
 refine ⟨v8,rfl,qH ?_,?_⟩
 · rw [HP.out]
   exact own_base HO8 (by have:=HU7.out.size;have:=HZ.out;omega)
 exact HS1.out.trans (HU7.out.same hs8) fun b hb hh=>by have:=HZ.out;omega
def OneNo (er:Int) (w:World) (e:Ending) (w':World):Prop:=e=.returned (.tuple #[.agg #[.int .i64 0,.slice none 0 0],.int .i64 0,.int .i64 er])/\Same w w'
theorem one_end {tmps:Array Value} {wE w:World} {a0 a1 v0 v1 v3 v4:Value} {R:Ending->World->Prop} (h2:tmps.getD 2 undef=.pointer (some ⟨w.heap.size,0,none⟩)) (h3:tmps.getD 3 undef=v3) (h4:tmps.getD 4 undef=v4) (hb:Blk wE w.heap.size 84 #[a0,a1])
 (hR:R (.returned (.tuple #[.agg #[v0,v1],v3,v4])) ((wE.setCell ⟨w.heap.size,0,none⟩ v0).setCell ⟨w.heap.size,1,none⟩ v1)) :
 bodyPost Tryz.prog Tryz.f128 R Exit.ret { tmps:=tmps,defers:=[] } ((wE.setCell ⟨w.heap.size,0,none⟩ v0).setCell ⟨w.heap.size,1,none⟩ v1):=by
 have hb2:=(hb.put 0 v0).put 1 v1
 have c0:=hb2.cell 0
 have c1:=hb2.cell 1
 generalize (wE.setCell ⟨w.heap.size,0,none⟩ v0).setCell ⟨w.heap.size,1,none⟩ v1=W at *
 refine bodyPost_ret (v:=.tuple #[.agg #[v0,v1],v3,v4]) ?_ rfl hR
 simp only [Array.getD_eq_getD_getElem?] at h2 h3 h4
 simp [results,Tryz.results128,go_sem,h2,h3,h4,c0,c1]
theorem same_put2 {w wE:World} (h:Same w wE) (a b:Value):Same w ((wE.setCell ⟨w.heap.size,0,none⟩ a).setCell ⟨w.heap.size,1,none⟩ b) :=
 (h.putNew (r:=w.heap.size) (i:=0) (Nat.le_refl _) a).putNew (r:=w.heap.size) (i:=1) (Nat.le_refl _) b
theorem one_cut0 {A:Option Addr} {n c:Nat} (w:World) (h:n<5) :
 Calls Tryz.prog 128 #[.slice A n c] w (OneNo 0 w):=by
 have hs:=(Upd.refl (fun _=>False) w).alloc (.cells #[.int .i64 0,.slice none 0 0] 84)
 have HB0:=qH (Blk.new w 84 #[.int .i64 0,.slice none 0 0])
 have HS:=qH hs
 clear hs
 have hn5:(n:Int)<5:=by omega
 go_enter Tryz.func128,Tryz.ntmps128
 go_upto_region 1 with fail
 generalize w.alloc (.cells #[.int .i64 0,.slice none 0 0] 84)=w1 at *
 have q0:=HB0.out.cell 0
 have q1:=HB0.out.cell 1
 have f0:=HB0.out.frozen 0
 have f1:=HB0.out.frozen 1
 go_wp2
 exact one_end rfl rfl rfl HB0.out ⟨rfl,same_put2 HS.out _ _⟩
theorem one_no {F:Nat->Prop} {A:Option Addr} {n c:Nat} {bs:List UInt8} (w:World) (hb:Bytes w F A n c bs) (hn:n<=140737488355328) (hN:Nib w) (h5:5<=n) {N:Nat} (hNN:be ((bs.drop 1).take 4)=N) {er:Int}
 (h:(1048576<N/\er=1)\/(N<=1048576/\n<N+9/\er=0)\/(N<=1048576/\N+9<=n/\be ((bs.drop (N+5)).take 4)≠(crcS (bs.take (N+5))).toNat/\er=91)) :
 Calls Tryz.prog 128 #[.slice A n c] w (OneNo er w):=by
 have hs:=(Upd.refl (fun _=>False) w).alloc (.cells #[.int .i64 0,.slice none 0 0] 84)
 have HB0:=qH (Blk.new w 84 #[.int .i64 0,.slice none 0 0])
 have HY:=qH (hb.same hs)
 have HN:=qH (hN.same hs)
 have HS:=qH hs
 have HNN:=qH hNN
 have hN32:N<4294967296:=by
  have:=be_lt ((bs.drop 1).take 4)
  rw [hNN] at this
  have h4:((bs.drop 1).take 4).length<=4:=List.length_take_le _ _
  have h5:256 ^ ((bs.drop 1).take 4).length<=256 ^ 4:=Nat.pow_le_pow_right (by omega) h4
  omega
 have hL:=hb.len
 have HL:=qH hL
 have hrow:=Row.le hb
 obtain ⟨b,o,rfl,-,-,-⟩:=hb.at_ (i:=0) (by omega)
 clear hb hN hs hNN hL
 have hn5:¬ (n:Int)<5:=by omega
 go_enter Tryz.func128,Tryz.ntmps128
 go_upto_region 1 with fail
 generalize w.alloc (.cells #[.int .i64 0,.slice none 0 0] 84)=w1 at *
 go_wp2_with fail
 refine (get_ok w1 HY.out 1 4 (by decide) (by omega) HNN.out).mono ?_
 rintro e w' ⟨rfl,rfl⟩
 have q0:=HB0.out.cell 0
 have q1:=HB0.out.cell 1
 have f0:=HB0.out.frozen 0
 have f1:=HB0.out.frozen 1
 rcases h with ⟨h1,rfl⟩ | ⟨h1,h2,rfl⟩ | ⟨h1,h2,h3,rfl⟩
 · go_wp2
   exact one_end rfl rfl rfl HB0.out ⟨rfl,same_put2 HS.out _ _⟩
 · have hw1:IntKind.i64.wrap (5+(N:Int))=5+(N:Int):=by rw [IntKind.wrap_i64];omega
   go_wp2
   exact one_end rfl rfl rfl HB0.out ⟨rfl,same_put2 HS.out _ _⟩
 have H3:=qH h3
 have hlt:be ((bs.drop (N+5)).take 4)<4294967296:=by
  have:=be_lt ((bs.drop (N+5)).take 4)
  have h5:256 ^ ((bs.drop (N+5)).take 4).length<=256 ^ 4:=Nat.pow_le_pow_right (by omega) (List.length_take_le _ _)
  omega
 obtain ⟨M,hM⟩:∃ M,be ((bs.drop (N+5)).take 4)=M:=⟨_,rfl⟩
 obtain ⟨S,hS⟩:∃ S,crcS (bs.take (N+5))=S:=⟨_,rfl⟩
 rw [hM] at hlt h3
 rw [hS] at h3
 have HM:=qH hM
 have HCS:=qH hS
 obtain ⟨E,hE⟩:∃ E,E=N+5:=⟨_,rfl⟩
 have hE1:(5:Int)+(N:Int)=(E:Int):=by omega
 have hE2:E+4<=n:=by omega
 have HE:=qH hE
 have hne:((M:Int) != (S.toNat:Int))=true:=by
  rw [bne_iff_ne]
  intro e
  exact h3 (by omega)
 have hS32:S.toNat<4294967296:=S.isLt
 clear hM hS h3 hE
 go_wp2_with fail
 refine (get_ok w1 HY.out E 4 (by decide) hE2 (N:=M) (by rw [HE.out];exact HM.out)).mono ?_
 rintro e w' ⟨rfl,rfl⟩
 go_wp2_with fail
 have hcut:=HY.out.head (m:=E) (by omega)
 rw [HE.out] at hcut
 have HC:=qH hcut
 clear hcut
 refine (crcSum_spec w1 (by rw [HE.out];exact HC.out) HN.out).mono ?_
 rintro e w' ⟨rfl,rfl⟩
 rw [HCS.out]
 go_wp2
 exact one_end rfl rfl rfl HB0.out ⟨rfl,same_put2 HS.out _ _⟩
def OneYes (f:GFr) (w:World) (e:Ending) (w':World):Prop :=
 ∃ A c,e=.returned (.tuple #[.agg #[.int .i64 (f.type:Int),.slice A f.data.length c],.int .i64 ((f.data.length+9:Nat):Int),.int .i64 0])/\OwnB w' w.heap.size (.slice A f.data.length c) f.data/\Same w w'
theorem own_put2b {w:World} {B g:Nat} {v a b:Value} {bs:List UInt8} {cs:Array Value} (h:OwnB w B v bs) (hb:Blk w g 84 cs):OwnB ((w.setCell ⟨g,0,none⟩ a).setCell ⟨g,1,none⟩ b) B v bs :=
 own_type h (((Upd.refl (fun x=>x=g) w).put1 a).put1 b) (fun x _ hx=>by rw [hx];exact ⟨_,hb⟩) (by decide)
theorem clone_on {F:Nat->Prop} {A:Option Addr} {n c:Nat} {bs:List UInt8} (w0 w:World) (hs:Same w0 w) (hb:Bytes w0 F A n c bs) (hn:n<=140737488355328) :
 Calls Tryz.prog 119 #[.slice A n c] w fun e w'=>∃ A' c',e=.returned (.slice A' n c')/\Hid (OwnB w' w.heap.size (.slice A' n c') bs)/\Same w w'/\Same w0 w' :=
 (clone_spec w (hb.same hs) hn).mono fun _ _ ⟨v,h1,h2,h3⟩=>by
   obtain ⟨A',c',rfl⟩:=own_form h2
   rw [hb.len] at h1 h2
   exact ⟨A',c',h1,qH h2,h3,hs.same h3⟩
theorem keepO2 {w2:World} {b o g:Nat} {x u u':Value} (h:w2.cell? ⟨b,o,none⟩=some x) (hne:b≠g) (hlt:b<w2.heap.size):((w2.setCell ⟨g,0,none⟩ u).setCell ⟨g,1,none⟩ u').cell? ⟨b,o,none⟩=some x :=
 ((((Upd.refl (fun k=>k=g) w2).put1 (i:=0) u).put1 (i:=1) u').cell (p:=⟨b,o,none⟩) hlt hne).trans h
theorem one_yes {F:Nat->Prop} {A:Option Addr} {n c:Nat} {bs:List UInt8} (w:World) (hb:Bytes w F A n c bs) (hn:n<=140737488355328) (hN:Nib w) {f:GFr} {r:List UInt8} (h:oneP bs=.ok (some (f,r))) :
 Calls Tryz.prog 128 #[.slice A n c] w (OneYes f w):=by
 obtain ⟨N,hNN⟩:∃ N,be ((bs.drop 1).take 4)=N:=⟨_,rfl⟩
 have hL:=hb.len
 unfold oneP at h
 rw [hNN] at h
 split at h
 · cases h
 split at h
 · cases h
 split at h
 · cases h
 split at h
 · cases h
 rename_i g1 g2 g3 g4
 injection h with h
 injection h with h
 injection h with h _
 have g4:=Decidable.not_not.1 g4
 rw [hL] at g1 g3
 obtain ⟨b,o,hA,hbl,-,hc0⟩:=hb.at_ (i:=0) (by omega)
 obtain ⟨x,hx⟩:∃ x,bs[0]'(by omega)=x:=⟨_,rfl⟩
 rw [hx] at hc0
 have hft:f.type=x.toNat:=by
  rw [<- h]
  have e:bs.take 1=[x]:=by
   rw [<- hx]
   cases bs with
   | nil=>simp at hL;omega
   | cons y l=>simp
  simp only [e]
  simp [be]
 have hfd:f.data=(bs.drop 5).take N:=by rw [<- h]
 have hfl:f.data.length=N:=by rw [hfd,List.length_take,List.length_drop,hL];omega
 have hs:=(Upd.refl (fun _=>False) w).alloc (.cells #[.int .i64 0,.slice none 0 0] 84)
 have hc1:w.cell? ⟨b,o,none⟩=some (.int .u8 (x.toNat:Int)):=hc0
 have HC1:=qH ((hs.cell (p:=⟨b,o,none⟩) hbl fun f=>f).trans hc1)
 have HB0:=qH (Blk.new w 84 #[.int .i64 0,.slice none 0 0])
 have HY:=qH (hb.same hs)
 have HN:=qH (hN.same hs)
 have HS:=qH hs
 have HNN:=qH hNN
 have HL:=qH hL
 have hrow:=Row.le hb
 have hmx:=Row.max hb
 subst hA
 obtain ⟨S,hS⟩:∃ S,crcS (bs.take (N+5))=S:=⟨_,rfl⟩
 rw [hS] at g4
 have HCS:=qH hS
 have HM:=qH g4
 obtain ⟨E,hE⟩:∃ E,E=N+5:=⟨_,rfl⟩
 have hE1:(5:Int)+(N:Int)=(E:Int):=by omega
 have hE2:E+4<=n:=by omega
 have hE3:5<=E:=by omega
 have HE:=qH hE
 have hS32:S.toNat<4294967296:=S.isLt
 have HFT:=qH hft
 have HFL:=qH hfl
 have HFD:=qH hfd
 unfold maxLen at hmx
 clear hb hN hs hNN hL h hS g4 hE hft hfl hfd hx hc0 hc1
 have hn5:¬ (n:Int)<5:=by omega
 go_enter Tryz.func128,Tryz.ntmps128
 go_upto_region 1 with fail
 generalize w.alloc (.cells #[.int .i64 0,.slice none 0 0] 84)=w1 at *
 have hN1:¬ 1048576<(N:Int):=by omega
 go_wp2_with fail
 refine (get_ok w1 HY.out 1 4 (by decide) (by omega) HNN.out).mono ?_
 rintro e w' ⟨rfl,rfl⟩
 go_wp2_with fail
 refine (get_ok w1 HY.out E 4 (by decide) hE2 (N:=S.toNat) (by rw [HE.out];exact HM.out)).mono ?_
 rintro e w' ⟨rfl,rfl⟩
 have hcut:=HY.out.head (m:=E) (by omega)
 have HC:=qH hcut
 clear hcut
 go_wp2_with fail
 refine (crcSum_spec w1 HC.out HN.out).mono ?_
 rintro e w' ⟨rfl,rfl⟩
 rw [HE.out,HCS.out]
 have c0:=HC1.out
 have hc5:¬ c=5:=by omega
 have hc5':(5:Int)<=(E:Int):=by omega
 have hc6:(E:Int)<=(c:Int):=by omega
 have hw4:IntKind.i64.wrap ((N:Int)+5+4)=((N+9:Nat):Int):=by rw [IntKind.wrap_i64];omega
 have hcut:=HY.out.cut (j:=5) (m:=N+5) (by omega) (by omega)
 rw [if_neg hc5,Option.map_some,addr_add,Nat.add_sub_cancel] at hcut
 have HCT:=qH hcut
 have hsz:=HS.out.size
 have hk5:(5:Int)<=(N:Int)+5:=by omega
 have hk6:(N:Int)+5<=(c:Int):=by omega
 have hk7:0<n:=by omega
 clear hcut
 go_upto_region 12 with fail
 have h00:Same w1 w1.drew:=(Upd.refl _ w1).drew
 have hwx:IntKind.i64.wrap (x.toNat:Int)=(x.toNat:Int):=by rw [IntKind.wrap_i64];have:=x.toNat_lt;omega
 have hblt:b<w1.heap.size:=by omega
 have cd:w1.drew.cell? ⟨b,o,none⟩=some (.int .u8 (x.toNat:Int)):=c0
 go_region_held3 (fun wx=>wx.cell? ⟨b,o,none⟩=some (.int .u8 (x.toNat:Int))) (first | exact cd | exact c2 | exact keepO2 c2 (by omega) (by omega)) (first
  | (go_at_call 119;refine (clone_on w1 _ h00 HCT.out (by omega)).mono ?_;rintro e w2 ⟨A2,c2',rfl,HO,hs2,hsa2⟩;have hz2:=hsa2.size;have c2:w2.cell? ⟨b,o,none⟩=some (.int .u8 (x.toNat:Int)):=(hsa2.cell (p:=⟨b,o,none⟩) hblt fun f=>f).trans c0;have q0:=(HB0.out.same hsa2).cell 0;have q1:=(HB0.out.same hsa2).cell 1;have f0:=(HB0.out.same hsa2).frozen 0;have f1:=(HB0.out.same hsa2).frozen 1))
 all_goals go_wp2
 all_goals refine one_end rfl rfl rfl (HB0.out.same hsa2) ?_
 all_goals refine ⟨A2,c2',?_,?_,?_⟩
 all_goals first
  | exact same_put2 (HS.out.same hsa2) _ _
  | (rw [HFT.out,HFL.out];rfl)
  | (have h9:=own_base (base':=w.heap.size) HO.out hsz;rw [<- HFD.out,<-HFL.out] at h9;exact own_put2b h9 (HB0.out.same hsa2))
theorem one_none {F:Nat->Prop} {A:Option Addr} {n c:Nat} {bs:List UInt8} (w:World) (hb:Bytes w F A n c bs) (hn:n<=140737488355328) (hN:Nib w) (h:oneP bs=.ok none) :
 Calls Tryz.prog 128 #[.slice A n c] w (OneNo 0 w):=by
 have hL:=hb.len
 unfold oneP at h
 split at h
 · exact one_cut0 w (by omega)
 split at h
 · cases h
 split at h
 · exact one_no w hb hn hN (by omega) rfl (.inr (.inl ⟨by omega,by omega,rfl⟩))
 split at h
 · cases h
 injection h with h
 cases h
theorem one_err {F:Nat->Prop} {A:Option Addr} {n c:Nat} {bs:List UInt8} (w:World) (hb:Bytes w F A n c bs) (hn:n<=140737488355328) (hN:Nib w) {er:Int} (h:oneP bs=.error er) :
 Calls Tryz.prog 128 #[.slice A n c] w (OneNo er w):=by
 have hL:=hb.len
 unfold oneP at h
 split at h
 · cases h
 split at h
 · injection h with h
   exact one_no w hb hn hN (by omega) rfl (.inl ⟨by omega,h.symm⟩)
 split at h
 · cases h
 split at h
 · rename_i h4
   injection h with h
   exact one_no w hb hn hN (by omega) rfl (.inr (.inr ⟨by omega,by omega,h4,h.symm⟩))
 cases h
theorem oneP_ne {bs:List UInt8} {er:Int} (h:oneP bs=.error er):er=1\/er=91:=by
 unfold oneP at h
 split at h
 · cases h
 split at h
 · injection h with h;exact .inl h.symm
 split at h
 · cases h
 split at h
 · injection h with h;exact .inr h.symm
 cases h
theorem own_bytes_n {w:World} {B n c:Nat} {A:Option Addr} {bs:List UInt8} (_:bs.length=n) (h:OwnB w B (.slice A n c) bs):Bytes w (fun b=>A=some ⟨b,0,none⟩/\B<=b) A n c bs:=own_bytes h
end Go.Proofs.YtkopcinhbjimiaaGreatDoor
