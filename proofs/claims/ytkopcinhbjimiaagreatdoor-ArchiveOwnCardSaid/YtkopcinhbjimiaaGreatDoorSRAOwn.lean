/- Texts that the claim leans on: walks and plain laws, function by function. -/
import Derived.Test.YtkopcinhbjimiaaGreatDoorTie
import Derived.Test.YtkopcinhbjimiaaGreatDoorCards
import Derived.SevenTiedAt
import Derived.Test.YtkopcinhbjimiaaGreatDoorS34
import Derived.Test.YtkopcinhbjimiaaGreatDoorS35
set_option maxRecDepth 100000
set_option maxHeartbeats 16000000
namespace Go.Proofs.YtkopcinhbjimiaaGreatDoor
open Go.RowKit
theorem WrB.upd {S:Nat->Prop} {w w':World} {B n c:Nat} {A:Option Addr} (h:WrB w B A n c) (hu:Upd S w w') (hs:∀ g,A=some ⟨g,0,none⟩->¬ S g):WrB w' B A n c:=by
 refine ⟨h.le,h.max,?_⟩
 rcases h.cell with h0 | ⟨g,rfl,hb,hg,hc⟩
 · exact .inl h0
 have e:=hu.block g hg (hs g rfl)
 refine .inr ⟨g,rfl,hb,Nat.lt_of_lt_of_le hg hu.size,fun j hj=>?_⟩
 rw [World.cell?_of_block (a:=⟨g,j,none⟩) e,World.frozen?_of_block (a:=⟨g,j,none⟩) e]
 exact hc j hj
theorem Zqb {w:World} {g j:Nat} (h:(w.cell? ⟨g,j,none⟩).isSome=true):g<w.heap.size:=by
 have e:∃ o,w.heap[g]?=some o:=by
  unfold World.cell? at h
  cases hx:w.heap[g]? with
  | none=>simp [hx] at h
  | some o=>exact ⟨o,rfl⟩
 obtain ⟨o,e⟩:=e
 exact (Array.getElem?_eq_some_iff.1 e).1
theorem WrB.fresh {B:Nat} {w:World} {v:Value} {l:List UInt8} (h:Lib.FreshBytes B w v l) (h0:0<l.length):∃ A c,v=.slice A l.length c/\Bytes w (fun b=>B<=b) A l.length c l/\WrB w B A l.length c:=by
 obtain ⟨A,c,e,hb⟩:=ZgY h h0
 obtain ⟨g,cap,zs,e',hB,hle,hmx,_,_,_,hc,hf⟩:=h
 rw [e] at e'
 injection e' with e1 _ e2
 subst e1 e2
 refine ⟨_,_,e,hb,hle,hmx,.inr ⟨g,rfl,hB,?_,fun j hj=>⟨by rw [hc j hj];rfl,hf j hj⟩⟩⟩
 exact Zqb (j:=0) (by rw [hc 0 (by omega)];rfl)
theorem WrB.wr {G:Zak} {w w':World} {v:Value} (h1:(chkP G).1≠0->v=.slice none 0 0) (h2:(chkP G).1=0->Lib.FreshBytes w.heap.size w' v (arcP G)) :
 ∃ A n c,v=.slice A n c/\Bytes w' (fun b=>w.heap.size<=b) A n c (pcsP G).flatten/\WrB w' w.heap.size A n c:=by
 by_cases h0:(chkP G).1=0
 · have hl:0<(arcP G).length:=by
    rw [ZaN,List.length_append,Zcr]
    omega
   obtain ⟨A,c,e,hb,hw⟩:=WrB.fresh (h2 h0) hl
   rw [ZkW h0]
   exact ⟨A,_,c,e,hb,hw⟩
 rw [Zod h0,h1 h0]
 exact ⟨none,0,0,rfl,Bytes.nil_ _ _,Nat.le_refl _,Nat.zero_le _,.inl ⟨rfl,rfl⟩⟩
theorem ZfR {S:Nat->Prop} {w w':World} {g:Nat} (hg:S g):∀ (vs:List Value) (o:Nat) {w':World},Upd S w w'->Upd S w (w'.setCells g o vs)
 | [],_,_,h=>h
 | v::r,o,_,h=>ZfR (w':=w') hg r (o+1) (h.put hg v)
theorem Zpe {P:Program} (w:World) (t tx ty e:TypeId) (i:TypeInfo) (z:Value) (ht:P.underlying t=some (.slice e)) (hi:P.info? e=some i) (hz:i.zero=some z) (hs:i.size=1) (hb:i.bytes=1)
 {B n c:Nat} {A:Option Addr} (h:WrB w B A n c) (hn:n<=140737488350000) (b:Addr) (m c':Nat) (news:List Value) (hl:news.length=m) (hm0:0<m) (hm:m<=100) (hnews:∀ j v,news[j]?=some v->w.cell? (b.add j)=some v) (h1:∀ u∈news,u.oneCell'=true) (hx:t=tx) :
 ∃ v' w',(Builtin.append_ #[t,tx] ty #[.slice A n c,.slice (some b) m c']).run P w=.ok v' w'/\Upd (fun k=>A=some ⟨k,0,none⟩) w w':=by
 subst hx
 have hle:=h.le
 rcases h.cell with ⟨rfl,rfl⟩ | ⟨g,rfl,hB,hg,hc⟩
 · obtain rfl:n=0:=by omega
   exact ⟨_,_,run_append_nil w t ty e i z ht hi hz b m c' news (by rw [hl,hs,Nat.mul_one]) hnews hm0 (by omega) (by rw [hb];omega),((Upd.refl _ w).drew).alloc _⟩
 by_cases hr:n+m<=c
 · have hf:=run_firstCells_some (P:=P) w i.size m b m c' news (by rw [hl,hs,Nat.mul_one]) hnews
   have hst:=run_storeCells_cells (P:=P) g n news 0 w (fun j hj=>(hc _ (by omega)).1) (fun j hj=>(hc _ (by omega)).2) h1
   simp only [Nat.add_zero] at hst
   refine ⟨.slice (some ⟨g,0,none⟩) (n+m) c,w.setCells g n news,?_,ZfR (S:=fun k=>(some (⟨g,0,none⟩:Addr))=some ⟨k,0,none⟩) (w':=w) rfl _ _ (Upd.refl _ w)⟩
   rw [hs] at hf
   simp [Builtin.append_,run_underlying ht,sizeOf,typeInfo,hi,Builtin.lenOf,hr,hf,Addr.add_lit,hs,hst]
 have holds:∀ j,j<n->∃ v,w.cell? ((⟨g,0,none⟩:Addr).add j)=some v:=fun j hj=>by
  rw [Addr.add_lit,Nat.zero_add]
  exact Option.isSome_iff_exists.1 (hc j (by omega)).1
 obtain ⟨olds,ho1,ho2⟩:∃ olds:List Value,olds.length=n/\∀ j v,olds[j]?=some v->w.cell? ((⟨g,0,none⟩:Addr).add j)=some v:=by
  refine ⟨(List.range n).map fun j=>(w.cell? ((⟨g,0,none⟩:Addr).add j)).getD (.bool false),by simp,fun j v hj=>?_⟩
  simp only [List.getElem?_map] at hj
  by_cases hjn:j<n
  · obtain ⟨u,hu⟩:=holds j hjn
    rw [List.getElem?_range hjn] at hj
    simp only [Option.map_some,hu,Option.getD_some,Option.some.injEq] at hj
    rw [hu,hj]
  rw [List.getElem?_eq_none (by simpa using hjn)] at hj
  cases hj
 exact ⟨_,_,run_append_grow w t ty e i z ht hi hz ⟨g,0,none⟩ n c olds (by rw [ho1,hs,Nat.mul_one]) ho2 b m c' news (by rw [hl,hs,Nat.mul_one]) hnews (by omega) (by omega) (by
  rw [hb]
  have:=nextslicecap_le (need:=n+m) (old:=c) (by omega)
  omega),((Upd.refl _ w).drew).alloc _⟩
theorem ZkX {P:Program} {w:World} {ops:Array Oper} {rest:List Oper} {o:Oper} {a:Act} {Q:Exit->Act->World->Prop} (hgd:o.guard=none) (s x:Operand) (t tx:TypeId)
 (ho:o.op=.call { callee:=.builtin .append,args:=#[s,x],argTypes:=#[t,tx] })
 (e:TypeId) (z:Value) (ht:P.underlying t=some (.slice e)) (hi:(P.info? e).map (fun i=>(i.zero,i.size,i.bytes))=some (some z,1,1))
 {B n c:Nat} {A:Option Addr} (hs:a.eval s=.slice A n c) (h:WrB w B A n c) (hn:n<=140737488350000) {b:Addr} {m c':Nat} {news:List Value} (hxe:a.eval x=.slice (some b) m c') (hl:news.length=m) (hm0:0<m) (hm:m<=100)
 (hnews:∀ j v,news[j]?=some v->w.cell? (b.add j)=some v) (h1:∀ u∈news,u.oneCell'=true) (hx:t=tx)
 (hK:∀ v' w',Upd (fun k=>A=some ⟨k,0,none⟩) w w'->wpList P ops Q rest (a.put o.dst v') w'):wpList P ops Q (o::rest) a w :=
 wpList_plain hgd fun _ hR=>by
  obtain ⟨i,hi',hz,hk,hby⟩:=info_parts hi
  obtain ⟨v',w',hr,h2⟩:=Zpe (P:=P) w t tx o.type e i z ht hi' hz hk hby h hn b m c' news hl hm0 hm hnews h1 hx
  unfold Oper.wp execOp
  simp only [ho,resolve,invoke,builtin,Sem.run_bind,Sem.run_pure,Result.andThen_ok,List.map_toArray,List.map_cons,List.map_nil,hs,hxe,hr]
  exact hR _ _ (hK v' w' h2)
theorem AOk.low {S:Nat->Prop} {w w':World} {B r fr d:Nat} {vf v1 v2:Value} {gr:GR} {fed:Nat} {b:List UInt8} {s:PSt} (h:AOk w B r fr d vf v1 v2 gr fed b s) (hu:Upd S w w') (hS:∀ g,S g->g<B):AOk w' B r fr d vf v1 v2 gr fed b s:=by
 have lo:∀ {g:Nat},B<=g->¬ S g:=fun h hs=>by have:=hS _ hs;omega
 exact ⟨⟨h.ard.br,h.ard.bd,h.ard.blk.upd hu (lo h.ard.br),h.ard.fin.upd hu (lo h.ard.fin.base) (fun k hk=>lo (Off.lt h.ard.fin.orest k hk).1) (fun k hk=>lo (Off.lt h.ard.fin.oready k hk).1) (by simp),Blk.upd h.ard.dig hu (lo h.ard.bd),
  Zam h.ard.fst hu (fun g hg=>lo (h.ard.fst.lt g hg).1),h.ard.own.low hu hS,h.ard.ne⟩,h.dat,h.ok⟩
theorem RShp.cells {w:World} {B C nb i:Nat} {rs:List RL} {x:RL} (h:RShp w B C rs (some ⟨nb,0,none⟩)) (hx:rs[i]?=some x):w.cell? ⟨nb,i*5+4,none⟩=some (.slice x.AP x.nP x.cP):=by
 obtain ⟨nb',cs,e,_,_,hb,_,e1⟩:=h.row i x hx
 injection e with e
 injection e with e
 subst e
 exact (hb.cell _).trans e1
end Go.Proofs.YtkopcinhbjimiaaGreatDoor
namespace Go.Proofs.YtkopcinhbjimiaaGreatDoor
open Go.ChangeShapes Go.WideShapes Go.ChangeAt Go.RowKit
theorem Zqc {G:Zak} (h:(chkP G).1=0->Zce G):(pcsP G).flatten.length<=2900025:=by
 by_cases h0:(chkP G).1=0
 · rw [ZkW h0,ZaN,List.length_append,Zcr]
   have h1:=(h h0).arc_len
   rw [ZaN,List.length_append,Zcr] at h1
   omega
 rw [Zod h0]
 exact Nat.zero_le _
theorem Zhd {F:Nat->Prop} (w:World) (hN:Nib w) {g:GR} (h:RdG w F g) (hz:ZbJ g) :
 Calls Tryz.prog 11 #[g.agg] w fun e w'=>e=.returned (.bool true)/\Same w w':=by
 have s1:=(Upd.refl (fun _=>False) w).alloc (.cells #[.slice g.AN g.nN g.cN,.slice g.AR g.nR g.cR] 26)
 have HB1:=qH (Blk.new w 26 #[.slice g.AN g.nN g.cN,.slice g.AR g.nR g.cR])
 have HS1:=qH s1
 have HRG:=qH (h.same s1)
 have HZ:=qH hz
 have HN:=qH (hN.same s1)
 obtain ⟨G,hG⟩:∃ G,g.dat=G:=⟨_,rfl⟩
 have HG:=qH hG
 have HRt:=qH fun (h0:(chkP G).1=0)=>(Zck h0 (hG ▸ Zfq h)).1
 clear h hz s1 hN hG
 obtain ⟨ns,AN,nN,cN,rs,AR,nR,cR⟩:=g
 simp only at HB1 HS1 HRG
 go_enter Tryz.func11,Tryz.ntmps11
 go_upto_region 1 with fail
 generalize w.alloc (.cells #[.slice AN nN cN,.slice AR nR cR] 26)=w1 at *
 generalize hg0:w.heap.size=g0 at *
 go_wp2_with fail
 refine (ZfO w1 HN.out).mono ?_
 rintro e w2 ⟨rfl,hs2⟩
 have HS2:=qH hs2
 have HB2:=qH (HB1.out.same hs2)
 have c0:w2.cell? ⟨g0,0,none⟩=some (.slice AN nN cN):=HB2.out.cell 0
 have c1:w2.cell? ⟨g0,1,none⟩=some (.slice AR nR cR):=HB2.out.cell 1
 clear hs2
 obtain ⟨Q,hQ⟩:∃ Q,(pcsP G).flatten=Q:=⟨_,rfl⟩
 have HQ:=qH hQ
 have HQL:Hid (Q.length<=2900025):=qH (hQ ▸ Zqc HRt.out)
 clear hQ
 go_wp2_with fail
 refine (ZkV w2 ⟨ns,AN,nN,cN,rs,AR,nR,cR⟩ (HRG.out.same HS2.out) HZ.out).mono ?_
 rintro e w3 ⟨v3,rfl,hO3,hs3⟩
 rw [HG.out,HQ.out] at hO3
 rw [HG.out]
 obtain ⟨A3,c3,rfl⟩:=Zac hO3
 have HO3:=qH ((Zau rfl hO3).mono (F':=fun b=>b<w3.heap.size) fun b hb _=>hb)
 have HS3:=qH (HS2.out.trans hs3 fun _ _ f=>f)
 have HB3:=qH (HB2.out.same hs3)
 clear c0 c1 hs3 hO3
 have c0:w3.cell? ⟨g0,0,none⟩=some (.slice AN nN cN):=HB3.out.cell 0
 have c1:w3.cell? ⟨g0,1,none⟩=some (.slice AR nR cR):=HB3.out.cell 1
 go_wp2_with fail
 refine (Zff w3 ⟨ns,AN,nN,cN,rs,AR,nR,cR⟩ (HRG.out.same HS3.out) HZ.out).mono ?_
 rintro e w4 ⟨⟨ns1,AN1,nN1,cN1,rs1,AR1,nR1,cR1⟩,rfl,HD1,HOa,hs4⟩
 have HS34:=qH hs4
 have HS4:=qH (HS3.out.trans hs4 fun _ _ f=>f)
 have HZ1:=qH (ZdV HRG.out HOa.out.rd HZ.out HD1.out)
 clear c0 c1 hs4
 go_wp2_with fail
 refine (Zeq w4 ⟨ns1,AN1,nN1,cN1,rs1,AR1,nR1,cR1⟩ HOa.out.rd HZ1.out (HN.out.same HS4.out)).mono ?_
 rintro e w5 ⟨v5,rfl,hs5,h51,h52⟩
 rw [HD1.out,HG.out] at h51 h52 ⊢
 obtain ⟨A5,n5,c5,rfl,hb5,hW5⟩:=WrB.wr h51 h52
 rw [HQ.out] at hb5
 have HN5:Hid (n5<=2900025):=qH (by have:=hb5.len;have:=HQL.out;omega)
 have HW5:=qH hW5
 have HL5:Hid (∀ g,A5=some ⟨g,0,none⟩->w4.heap.size<=g/\g<w5.heap.size):=qH fun g hg=>by
  rcases hW5.cell with h0 | ⟨g',e,h1,h2,_⟩
  · rw [hg] at h0;cases h0.1
  rw [hg] at e;injection e with e;injection e with e;subst e;exact ⟨h1,h2⟩
 have HS35:=qH (HS34.out.trans hs5 fun _ _ f=>f)
 have HS5:=qH (HS4.out.trans hs5 fun _ _ f=>f)
 have HB5:=qH (HB3.out.same HS35.out)
 clear h51 h52 hb5 hW5 hs5 HOa
 have c0:w5.cell? ⟨g0,0,none⟩=some (.slice AN nN cN):=HB5.out.cell 0
 have c1:w5.cell? ⟨g0,1,none⟩=some (.slice AR nR cR):=HB5.out.cell 1
 go_wp2_with fail
 refine (Zff w5 ⟨ns,AN,nN,cN,rs,AR,nR,cR⟩ (HRG.out.same HS5.out) HZ.out).mono ?_
 rintro e w6 ⟨⟨ns2,AN2,nN2,cN2,rs2,AR2,nR2,cR2⟩,rfl,HD2,HOb,hs6⟩
 have HS56:=qH hs6
 have HS6:=qH (HS5.out.trans hs6 fun _ _ f=>f)
 have HZ2:=qH (ZdV HRG.out HOb.out.rd HZ.out HD2.out)
 clear c0 c1 hs6
 go_wp2_with fail
 refine (Zeq w6 ⟨ns2,AN2,nN2,cN2,rs2,AR2,nR2,cR2⟩ HOb.out.rd HZ2.out (HN.out.same HS6.out)).mono ?_
 rintro e w7 ⟨v7,rfl,hs7,h71,h72⟩
 rw [HD2.out,HG.out] at h71 h72 ⊢
 obtain ⟨A7,n7,c7,rfl,hb7,hW7⟩:=WrB.wr h71 h72
 rw [HQ.out] at hb7
 have HS57:=qH (HS56.out.trans hs7 fun _ _ f=>f)
 have HS7:=qH (HS6.out.trans hs7 fun _ _ f=>f)
 have HW5:=qH (HW5.out.upd HS57.out fun _ _ f=>f)
 have HO3:=qH (HO3.out.same (HS35.out.trans HS57.out fun _ _ f=>f))
 have HB7:=qH hb7
 have HW7:=qH hW7
 have HBx:=qH (HB5.out.same HS57.out)
 have HM6:Hid (w1.heap.size<=w6.heap.size):=qH HS6.out.size
 have HM:Hid (g0<w4.heap.size/\w1.heap.size<=w4.heap.size/\w3.heap.size<=w4.heap.size/\w5.heap.size<=w6.heap.size):=qH ⟨by have:=HB3.out.lt;have:=HS34.out.size;omega,HS4.out.size,HS34.out.size,HS56.out.size⟩
 have HN7:Hid (n7<=2900025):=qH (by have:=hb7.len;have:=HQL.out;omega)
 have HL5:Hid (∀ g,A5=some ⟨g,0,none⟩->w4.heap.size<=g/\g<w6.heap.size):=qH fun g hg=>by have:=HL5.out g hg;have:=HM.out;omega
 clear h71 h72 hb7 hW7 hs7 HOb HB5 HB3 HB2 HS56 HS57 HS35 HS34 HS6 HS5 HS4 HS3
 have hn5:=HN5.out
 go_wp2_with fail
 go_loopg [9,42] n5 (fun gh s9 s42 wx=>∃ k:Nat,n5-k=gh/\k<=n5/\s42=.int .i64 (k:Int)/\Hid (Upd (fun b=>A5=some ⟨b,0,none⟩) w7 wx)/\Hid (WrB wx w4.heap.size A5 n5 c5))
 case atStart=>exact ⟨0,rfl,Nat.zero_le _,rfl,qH (Upd.refl _ _),HW5⟩
 obtain ⟨k,rfl,hk,rfl,LU,LB⟩:=hrel
 by_cases hkt:k<n5
 case pos =>
  have l1:(k:Int)<(n5:Int):=by omega
  have hle:=LB.out.le
  obtain ⟨gI,rfl,_,_,hcell⟩:∃ g,A5=some ⟨g,0,none⟩/\w4.heap.size<=g/\g<wr.heap.size/\∀ j,j<c5->(wr.cell? ⟨g,j,none⟩).isSome=true/\wr.frozen? ⟨g,j,none⟩=false:=by
   rcases LB.out.cell with h0 | h0
   · have:=h0.2;omega
   exact h0
  obtain ⟨v,hck⟩:=Option.isSome_iff_exists.1 (hcell k (by omega)).1
  have hfk:=(hcell k (by omega)).2
  have LU2:Hid (Upd (fun b=>(some (⟨gI,0,none⟩:Addr))=some ⟨b,0,none⟩) w7 (wr.setCell ⟨gI,k,none⟩ (.int .u8 238))):=qH (LU.out.put rfl _)
  have LB2:=qH (LB.out.put (k:=k) (.int .u8 238))
  clear hcell
  go_wp2_with fail
  go_roundg (n5-(k+1))
  case measure=>omega
  case rel=>exact ⟨k+1,rfl,by omega,by go_num,LU2,LB2⟩
 obtain rfl:k=n5:=by omega
 have ln:¬ (k:Int)<(k:Int):=by omega
 clear hkt hk
 go_upto_region 11 with fail
 have HU:Hid (Upd (fun b=>w4.heap.size<=b/\b<w6.heap.size) w7 wr):=qH (LU.out.mono fun b _ e=>HL5.out b e)
 have LB1:=qH (LB.out.upd ((Upd.refl (fun _=>False) wr).alloc (.cells #[.int .u8 238,.int .u8 238,.int .u8 238] 5)) fun _ _ f=>f)
 have news1:∀ (j:Nat) (v:Value),[Value.int .u8 238,.int .u8 238,.int .u8 238][j]?=some v->(wr.alloc (.cells #[.int .u8 238,.int .u8 238,.int .u8 238] 5)).cell? ((⟨wr.heap.size,0,none⟩:Addr).add j)=some v:=fun j v hj=>by
  rw [Addr.add_lit,Nat.zero_add]
  exact ((Blk.new wr 5 #[.int .u8 238,.int .u8 238,.int .u8 238]).cell j).trans (by simpa using hj)
 go_upto_region 12 with (at_builtin;go_must (refine ZkX rfl (.tmp 49) (.tmp 50) _ _ rfl 5 _ Tryz.underlying28 ZaR rfl LB1.out (by omega) rfl rfl (by decide) (by decide) news1 (by simp [Value.oneCell']) rfl ?_);intro v9 w9 hu9;have HU9:=qH ((HU.out.alloc (.cells #[.int .u8 238,.int .u8 238,.int .u8 238] 5)).trans hu9 fun b _ e=>HL5.out b e);clear hu9)
 clear LB1 news1
 have HB9:=qH (HB7.out.upd HU9.out fun b hb hs=>by have:=hs.2;omega)
 have HL7:Hid (∀ g,A7=some ⟨g,0,none⟩->w6.heap.size<=g/\g<w7.heap.size):=qH fun g hg=>by
  rcases HW7.out.cell with h0 | ⟨g',e,h1,h2,_⟩
  · rw [hg] at h0;cases h0.1
  rw [hg] at e;injection e with e;injection e with e;subst e;exact ⟨h1,h2⟩
 have HW9:=qH (HW7.out.upd HU9.out fun g hg hs=>by have:=(HL7.out g hg).1;have:=hs.2;omega)
 have HO9:=qH (HO3.out.upd HU9.out fun b hb hs=>by have:=HM.out;have:=hs.1;omega)
 have HS9:Hid (Same w1 w9):=qH (HS7.out.trans HU9.out fun b hb hs=>by have:=HM.out;have:=hs.1;omega)
 have HBy:=qH (HBx.out.upd HU9.out fun hs=>by have:=HM.out;have:=hs.1;omega)
 have HSM:=qH (Zhc w9 HB9.out HO9.out (decide_eq_true rfl))
 have HZ79:=qH HU9.out.size
 clear HU LU LB HW7 HB7 HO3 HS7 HBx HU9 HW5
 go_wp2_with fail
 refine HSM.out.mono ?_
 rintro e wq ⟨rfl,rfl⟩
 clear HSM HO9
 by_cases h0:(chkP G).1=0
 case neg =>
  have nz:((chkP G).1 != 0)=true:=by rw [bne_iff_ne];exact h0
  generalize (chkP G).1=er at *
  go_wp2
  go_ret
  exact ⟨rfl,HS1.out.trans HS9.out fun _ _ f=>f⟩
 rw [h0]
 have HC:=qH h0
 have HRd:=qH (HRt.out h0)
 clear h0 HRt
 go_wp2_with fail
 refine (Zer w9).mono ?_
 rintro e w10 ⟨r,fr,d,rfl,hA,hs10⟩
 have HA10:=qH hA
 have HS10:=qH hs10
 clear hA hs10
 have HB10:=qH ((HB9.out.mono (F':=fun b=>b<w9.heap.size) fun b hb _=>hb).same HS10.out)
 have HNB:Hid (1<w9.heap.size):=qH (by have h1:=HN.1;have:=HS9.out.size;omega)
 go_wp2_with fail
 refine (ZdI w10 (b:=[]) HA10.out HB10.out (fun g hg hf=>by have:=HA10.out.ge hf;omega) ((HN.out.same HS9.out).same HS10.out) HNB.out).mono ?_
 rintro e w11 ⟨hu11,hres⟩
 have hfd:fedP ([]++Q)=.ok ⟨3,G,arcP G⟩:=by rw [List.nil_append,<-HQ.out,ZkW HC.out];exact ZlK HRd.out
 rcases hres with ⟨er,_,_,_,_,_,_,_,_,he,_⟩ | ⟨s',vf,v1,v2,gr,rfl,hA11,_⟩
 · rw [hfd] at he;cases he
 obtain rfl:s'=⟨3,G,arcP G⟩:=by have:=hA11.ok;rw [hfd] at this;injection this with this;exact this.symm
 have HA11:=qH hA11
 have HS11:Hid (Same w9 w11):=qH (HS10.out.trans hu11 fun b hb hs=>by have:=HA10.out.ge hs;omega)
 have HW11:=qH (HW9.out.upd HS11.out fun _ _ f=>f)
 have HL9:Hid (∀ g,A7=some ⟨g,0,none⟩->w6.heap.size<=g/\g<w9.heap.size):=qH fun g hg=>by have:=HL7.out g hg;have:=HZ79.out;omega
 have HS91:Hid (Same w1 w11):=qH (HS9.out.trans HS11.out fun _ _ f=>f)
 have HBz:=qH (HBy.out.same HS11.out)
 have hM1:w1.heap.size<=w6.heap.size:=HM6.out
 clear hA11 hu11 hfd HB10 HA10 HS10 HW9 HB9 HL7 HZ79 HBy HS11 HNB
 have hn7:=HN7.out
 go_wp2_with fail
 go_loopg [11,66] n7 (fun gh s11 s66 wx=>∃ k:Nat,n7-k=gh/\k<=n7/\s66=.int .i64 (k:Int)/\Hid (Upd (fun b=>A7=some ⟨b,0,none⟩) w11 wx)/\Hid (WrB wx w6.heap.size A7 n7 c7))
 case atStart=>exact ⟨0,rfl,Nat.zero_le _,rfl,qH (Upd.refl _ _),HW11⟩
 obtain ⟨k,rfl,hk,rfl,LU,LB⟩:=hrel
 by_cases hkt:k<n7
 case pos =>
  have l1:(k:Int)<(n7:Int):=by omega
  have hle:=LB.out.le
  obtain ⟨gI,rfl,_,_,hcell⟩:∃ g,A7=some ⟨g,0,none⟩/\w6.heap.size<=g/\g<wr.heap.size/\∀ j,j<c7->(wr.cell? ⟨g,j,none⟩).isSome=true/\wr.frozen? ⟨g,j,none⟩=false:=by
   rcases LB.out.cell with h0 | h0
   · have:=h0.2;omega
   exact h0
  obtain ⟨v,hck⟩:=Option.isSome_iff_exists.1 (hcell k (by omega)).1
  have hfk:=(hcell k (by omega)).2
  have LU2:Hid (Upd (fun b=>(some (⟨gI,0,none⟩:Addr))=some ⟨b,0,none⟩) w11 (wr.setCell ⟨gI,k,none⟩ (.int .u8 221))):=qH (LU.out.put rfl _)
  have LB2:=qH (LB.out.put (k:=k) (.int .u8 221))
  clear hcell
  go_wp2_with fail
  go_roundg (n7-(k+1))
  case measure=>omega
  case rel=>exact ⟨k+1,rfl,by omega,by go_num,LU2,LB2⟩
 obtain rfl:k=n7:=by omega
 have ln:¬ (k:Int)<(k:Int):=by omega
 have HA12:=qH (HA11.out.low LU.out fun g hg=>(HL9.out g hg).2)
 have HS12:Hid (Same w1 wr):=qH (HS91.out.trans LU.out fun b hb hs=>by have:=(HL9.out b hs).1;omega)
 have HBw:=qH (HBz.out.upd LU.out fun hs=>by have:=(HL9.out _ hs).1;have:=HB1.out.lt;omega)
 clear HA11 HS91 HBz LU LB HW11 HL9 HL5 hkt hk
 generalize wr=w12 at *
 have hans:ansP ⟨3,G,arcP G⟩=(0,G):=by
  unfold ansP
  rw [if_neg (by simp),if_neg (by simpa using HC.out)]
 have HAn:=qH hans
 clear hans
 go_wp2_with fail
 refine (Zdn w12 HA12.out).mono ?_
 rw [HAn.out]
 rintro e w13 ⟨⟨nsx,ANx,nNx,cNx,rsx,ARx,nRx,cRx⟩,rfl,hDx,hOx,hs13⟩
 simp only at hDx ⊢
 have sA:=(Upd.refl (fun _=>False) w13).alloc (.cells #[.slice ANx nNx cNx,.slice ARx nRx cRx] 26)
 have HBg:=Blk.new w13 26 #[.slice ANx nNx cNx,.slice ARx nRx cRx]
 have HMk:Hid (MkI (w13.alloc (.cells #[.slice ANx nNx cNx,.slice ARx nRx cRx] 26)) w12.heap.size w13.heap.size ⟨nsx,ANx,nNx,cNx,rsx,ARx,nRx,cRx⟩ (w13.alloc (.cells #[.slice ANx nNx cNx,.slice ARx nRx cRx] 26))):=qH ⟨hOx.shp.upd sA fun _ _ _ f=>f,Upd.refl _ _⟩
 have HS14:=qH (hs13.trans sA fun _ _ f=>f)
 have HLn:=qH (show nsx.length=nNx from hOx.rd.nodes.len)
 have HLr:=qH (show rsx.length=nRx from hOx.rd.rels.len)
 have HBox:=qH (fun wx (hu:Upd (fun b=>w12.heap.size<=b/\b<w13.heap.size) (w13.alloc (.cells #[.slice ANx nNx cNx,.slice ARx nRx cRx] 26)) wx)=>(show wx.cell? ⟨w13.heap.size,0,none⟩=some (.slice ANx nNx cNx)/\wx.cell? ⟨w13.heap.size,1,none⟩=some (.slice ARx nRx cRx) from ⟨(HBg.upd hu fun hs=>by have:=hs.2;omega).cell 0,(HBg.upd hu fun hs=>by have:=hs.2;omega).cell 1⟩))
 have hZx:=ZdV HRG.out hOx.rd HZ.out (hDx.trans HG.out.symm)
 have hnNx:nNx*56<=140737488351232:=hZx.nN
 have hnRx:nRx*64<=140737488351232:=hZx.nR
 have HZx:=qH (show (∀ x∈nsx,x.Sized)/\(∀ x∈rsx,x.Sized) from ⟨hZx.ns,hZx.rs⟩)
 clear hDx hOx hs13 sA HBg hZx
 go_upto_region 26 with fail
 generalize w13.alloc (.cells #[.slice ANx nNx cNx,.slice ARx nRx cRx] 26)=w14 at *
 generalize w13.heap.size=C at *
 generalize hBB:w12.heap.size=B at *
 have d0:=(HBox.out w14 (Upd.refl _ _)).1
 go_wp2_with fail
 clear d0
 go_loopg [14,81] nNx (fun gh s14 s81 wx=>∃ i:Nat,nNx-i=gh/\i<=nNx/\s81=.int .i64 (i:Int)/\Hid (MkI w14 B C ⟨nsx,ANx,nNx,cNx,rsx,ARx,nRx,cRx⟩ wx))
 case atStart=>exact ⟨0,rfl,Nat.zero_le _,rfl,HMk⟩
 obtain ⟨i,rfl,hi,rfl,KM⟩:=hrel
 by_cases hlt:i<nNx
 case pos =>
  have l1:(i:Int)<(nNx:Int):=by omega
  obtain ⟨x,hx⟩:∃ x,nsx[i]?=some x:=⟨_,List.getElem?_eq_getElem (by have:=HLn.out;omega)⟩
  obtain ⟨xi,xl,AL,nL,cL,xp,AP,nP,cP⟩:=x
  obtain ⟨nb,cs,rfl,hb1,hb2,hbk,hsz,_,_⟩:=KM.out.shp.nodes.row i _ hx
  obtain ⟨u,hu⟩:∃ u,cs[i*3]?=some u:=⟨_,Array.getElem?_eq_getElem (by omega)⟩
  have p0:wr.cell? ⟨nb,i*3,none⟩=some u:=(hbk.cell _).trans hu
  have f0:=hbk.frozen (i*3)
  obtain ⟨d0,d1⟩:=HBox.out wr KM.out.upd
  have hne:C≠nb:=by omega
  have KM2:=qH (KM.out.put hbk hb1 hb2 ⟨fun _=>by omega,fun e=>absurd e (by decide)⟩ (.int .i64 (-1)) (j:=i*3))
  have HX:=qH hx
  have hnL:nL*16<=140737488351232:=(HZx.1 _ (List.mem_of_getElem? hx)).nL
  have hnP:nP*96<=140737488351232:=(HZx.1 _ (List.mem_of_getElem? hx)).pro.n
  clear hx hbk hu hsz
  obtain ⟨e0,e1⟩:=HBox.out _ KM2.out.upd
  obtain ⟨q1,q2⟩:=KM2.out.shp.nodes.cells HX.out
  simp only at q1 q2
  go_wp2_with fail
  clear p0 f0 d0 d1 e0 e1 q1 q2
  generalize wr.setCell ⟨nb,i*3,none⟩ (.int .i64 (-1))=wA at *
  go_loopg [15,96] nL (fun gh s15 s96 wx=>∃ k:Nat,nL-k=gh/\k<=nL/\s96=.int .i64 (k:Int)/\Hid (MkI w14 B C ⟨nsx,some ⟨nb,0,none⟩,nNx,cNx,rsx,ARx,nRx,cRx⟩ wx))
  case atStart=>exact ⟨0,rfl,Nat.zero_le _,rfl,KM2⟩
  obtain ⟨k,rfl,hk,rfl,LM⟩:=hrel
  obtain ⟨d0,d1⟩:=HBox.out _ LM.out.upd
  obtain ⟨q1,q2⟩:=LM.out.shp.nodes.cells HX.out
  simp only at q1 q2
  by_cases hkt:k<nL
  case pos =>
   have l2:(k:Int)<(nL:Int):=by omega
   obtain ⟨h,cs,hAL,hb3,hb4,hbk,hsz⟩:=LM.out.shp.nodes.labs _ (List.mem_of_getElem? HX.out) k hkt
   simp only at hAL
   subst hAL
   obtain ⟨u,hu⟩:∃ u,cs[k]?=some u:=⟨_,Array.getElem?_eq_getElem (by omega)⟩
   have p0:wr.cell? ⟨h,k,none⟩=some u:=(hbk.cell _).trans hu
   have f0:=hbk.frozen k
   have LM2:=qH (LM.out.put hbk hb3 hb4 ⟨fun e=>absurd e (by decide),fun e=>absurd e (by decide)⟩ (.string ⟨#[42]⟩) (j:=k))
   clear hbk hu hsz
   go_wp2_with fail
   go_roundg (nL-(k+1))
   case measure=>omega
   case rel=>exact ⟨k+1,rfl,by omega,by go_num,LM2⟩
  obtain rfl:k=nL:=by omega
  have l2:¬ (k:Int)<(k:Int):=by omega
  generalize wr=wB at *
  go_wp2_with fail
  clear d0 d1 q1 q2
  go_loopg [16,115] nP (fun gh s16 s115 wx=>∃ k:Nat,nP-k=gh/\k<=nP/\s115=.int .i64 (k:Int)/\Hid (MkI w14 B C ⟨nsx,some ⟨nb,0,none⟩,nNx,cNx,rsx,ARx,nRx,cRx⟩ wx))
  case atStart=>exact ⟨0,rfl,Nat.zero_le _,rfl,LM⟩
  obtain ⟨q,rfl,hq,rfl,PM⟩:=hrel
  obtain ⟨d0,d1⟩:=HBox.out _ PM.out.upd
  obtain ⟨q1,q2⟩:=PM.out.shp.nodes.cells HX.out
  simp only at q1 q2
  by_cases hqt:q<nP
  case pos =>
   have l3:(q:Int)<(nP:Int):=by omega
   obtain ⟨h,cs,hAP,hb3,hb4,hbk,hsz⟩:=PM.out.shp.nodes.props _ (List.mem_of_getElem? HX.out) q hqt
   simp only at hAP
   subst hAP
   obtain ⟨u,hu⟩:∃ u,cs[q*6]?=some u:=⟨_,Array.getElem?_eq_getElem (by omega)⟩
   have p0:wr.cell? ⟨h,q*6,none⟩=some u:=(hbk.cell _).trans hu
   have f0:=hbk.frozen (q*6)
   have PM2:=qH (PM.out.put hbk hb3 hb4 ⟨fun e=>absurd e (by decide),fun e=>absurd e (by decide)⟩ (.string ⟨#[42]⟩) (j:=q*6))
   clear hbk hu hsz
   go_wp2_with fail
   go_roundg (nP-(q+1))
   case measure=>omega
   case rel=>exact ⟨q+1,rfl,by omega,by go_num,PM2⟩
  obtain rfl:q=nP:=by omega
  have l3:¬ (q:Int)<(q:Int):=by omega
  generalize wr=wC at *
  go_wp2_with fail
  go_roundg (nNx-(i+1))
  case measure=>omega
  case rel=>exact ⟨i+1,rfl,by omega,by go_num,PM⟩
 obtain rfl:i=nNx:=by omega
 have l1:¬ (i:Int)<(i:Int):=by omega
 obtain ⟨d0,d1⟩:=HBox.out wr KM.out.upd
 generalize wr=wD at *
 generalize i=nNx at *
 go_wp2_with fail
 clear d0 d1
 go_loopg [17,132] nRx (fun gh s17 s132 wx=>∃ i:Nat,nRx-i=gh/\i<=nRx/\s132=.int .i64 (i:Int)/\Hid (MkI w14 B C ⟨nsx,ANx,nNx,cNx,rsx,ARx,nRx,cRx⟩ wx))
 case atStart=>exact ⟨0,rfl,Nat.zero_le _,rfl,KM⟩
 obtain ⟨i,rfl,hi,rfl,KR⟩:=hrel
 by_cases hlt:i<nRx
 case pos =>
  have l2:(i:Int)<(nRx:Int):=by omega
  obtain ⟨x,hx⟩:∃ x,rsx[i]?=some x:=⟨_,List.getElem?_eq_getElem (by have:=HLr.out;omega)⟩
  obtain ⟨xi,xt,xs,xd,xp,AP,nP,cP⟩:=x
  obtain ⟨nb,cs,rfl,hb1,hb2,hbk,hsz,_⟩:=KR.out.shp.rels.row i _ hx
  obtain ⟨u,hu⟩:∃ u,cs[i*5+1]?=some u:=⟨_,Array.getElem?_eq_getElem (by omega)⟩
  have p0:wr.cell? ⟨nb,i*5+1,none⟩=some u:=(hbk.cell _).trans hu
  have f0:=hbk.frozen (i*5+1)
  obtain ⟨d0,d1⟩:=HBox.out wr KR.out.upd
  have hne:C≠nb:=by omega
  have KR2:=qH (KR.out.put hbk hb1 hb2 ⟨fun e=>absurd e (by decide),fun _=>by omega⟩ (.string ⟨#[42]⟩) (j:=i*5+1))
  have HX:=qH hx
  have hnP:nP*96<=140737488351232:=(HZx.2 _ (List.mem_of_getElem? hx)).pro.n
  clear hx hbk hu hsz
  obtain ⟨e0,e1⟩:=HBox.out _ KR2.out.upd
  have q1:=KR2.out.shp.rels.cells HX.out
  simp only at q1
  go_wp2_with fail
  clear p0 f0 d0 d1 e0 e1 q1
  generalize wr.setCell ⟨nb,i*5+1,none⟩ (.string ⟨#[42]⟩)=wA at *
  go_loopg [18,147] nP (fun gh s18 s147 wx=>∃ k:Nat,nP-k=gh/\k<=nP/\s147=.int .i64 (k:Int)/\Hid (MkI w14 B C ⟨nsx,ANx,nNx,cNx,rsx,some ⟨nb,0,none⟩,nRx,cRx⟩ wx))
  case atStart=>exact ⟨0,rfl,Nat.zero_le _,rfl,KR2⟩
  obtain ⟨q,rfl,hq,rfl,PM⟩:=hrel
  obtain ⟨d0,d1⟩:=HBox.out _ PM.out.upd
  have q1:=PM.out.shp.rels.cells HX.out
  simp only at q1
  by_cases hqt:q<nP
  case pos =>
   have l3:(q:Int)<(nP:Int):=by omega
   obtain ⟨h,cs,hAP,hb3,hb4,hbk,hsz⟩:=PM.out.shp.rels.props _ (List.mem_of_getElem? HX.out) q hqt
   simp only at hAP
   subst hAP
   obtain ⟨u,hu⟩:∃ u,cs[q*6]?=some u:=⟨_,Array.getElem?_eq_getElem (by omega)⟩
   have p0:wr.cell? ⟨h,q*6,none⟩=some u:=(hbk.cell _).trans hu
   have f0:=hbk.frozen (q*6)
   have PM2:=qH (PM.out.put hbk hb3 hb4 ⟨fun e=>absurd e (by decide),fun e=>absurd e (by decide)⟩ (.string ⟨#[42]⟩) (j:=q*6))
   clear hbk hu hsz
   go_wp2_with fail
   go_roundg (nP-(q+1))
   case measure=>omega
   case rel=>exact ⟨q+1,rfl,by omega,by go_num,PM2⟩
  obtain rfl:q=nP:=by omega
  have l3:¬ (q:Int)<(q:Int):=by omega
  generalize wr=wC at *
  go_wp2_with fail
  go_roundg (nRx-(i+1))
  case measure=>omega
  case rel=>exact ⟨i+1,rfl,by omega,by go_num,PM⟩
 obtain rfl:i=nRx:=by omega
 have l2:¬ (i:Int)<(i:Int):=by omega
 generalize wr=wE at *
 have HSE:Hid (Same w12 wE):=qH (HS14.out.trans KR.out.upd fun b hb hs=>by have:=hs.1;omega)
 have HAE:=qH (HA12.out.same HSE.out)
 have HSw:Hid (Same w1 wE):=qH (HS12.out.trans HSE.out fun _ _ f=>f)
 have HBe:=qH (HBw.out.same HSE.out)
 clear KM KR HBox HMk HBw HS12 HSE HS14 HA12
 go_wp2_with fail
 refine (Zdn wE HAE.out).mono ?_
 rw [HAn.out]
 rintro e wF ⟨⟨ns',AN',nN',cN',rs',AR',nR',cR'⟩,rfl,hDy,hOy,hsF⟩
 simp only at hDy ⊢
 have sA:=(Upd.refl (fun _=>False) wF).alloc (.cells #[.slice AN' nN' cN',.slice AR' nR' cR'] 26)
 have HB8:=qH (Blk.new wF 26 #[.slice AN' nN' cN',.slice AR' nR' cR'])
 have HO8:=qH (hOy.same sA)
 have hsG:=hsF.trans sA fun _ _ f=>f
 have HSG:=qH (HSw.out.trans hsG fun _ _ f=>f)
 have HBf:=qH (HBe.out.same hsG)
 have HDy:=qH hDy
 clear hDy hOy hsF sA hsG
 go_upto_region 52 with fail
 generalize wF.alloc (.cells #[.slice AN' nN' cN',.slice AR' nR' cR'] 26)=wG at *
 generalize wF.heap.size=gG at *
 have d0:wG.cell? ⟨gG,0,none⟩=some (.slice AN' nN' cN'):=HB8.out.cell 0
 have d1:wG.cell? ⟨gG,1,none⟩=some (.slice AR' nR' cR'):=HB8.out.cell 1
 have e0:wG.cell? ⟨g0,0,none⟩=some (.slice AN nN cN):=HBf.out.cell 0
 have e1:wG.cell? ⟨g0,1,none⟩=some (.slice AR nR cR):=HBf.out.cell 1
 have HSS:=qH (ZkU wG ⟨ns',AN',nN',cN',rs',AR',nR',cR'⟩ ⟨ns,AN,nN,cN,rs,AR,nR,cR⟩ HO8.out.rd (HRG.out.same HSG.out) ((Zoc _ _).2 (HDy.out.trans HG.out.symm)))
 go_wp2_with fail
 refine HSS.out.mono ?_
 rintro x wz ⟨rfl,hsz⟩
 go_wp2
 go_ret
 exact ⟨rfl,HS1.out.trans (HSG.out.trans hsz fun _ _ f=>f) fun _ _ f=>f⟩
theorem Zfs (os:Os) (started:os.Started) (H:Type) (enc:TypeId×Value->H) :
 ReturnsInHanded {} Tryz.checked os 11 .any (fun w args=>(Rows.archiveOwnSpec.pre enc Tryz.prog Tryz.f11 [] false w args/\laidMetH Tryz.prog ZjN w)/\sizedMet enc Tryz.prog Tryz.f11 (OpenSpec.ofChange Rows.archiveOwnSpec) false w args)
  (Rows.archiveOwnSpec.post enc Tryz.prog Tryz.f11 false true false false):=by
 refine returnsInHanded_of_change_and (C:=Tryz.checked) (X:=fun w _=>laidMetH Tryz.prog ZjN w) (fun _ _ _ hh h=>h.of_heap hh) Zpi started (by kernel_rfl) Tryz.func11
  (ChangeSpec.witness_shaped (enc:=enc) (C:=Tryz.checked) (os:=os) (X:=fun w _=>laidMetH Tryz.prog ZjN w) false (World.doorLaid Tryz.prog 400 os) #[.agg #[.slice none 0 0,.slice none 0 0]] 8 rfl (World.shaped_of_RefB (by kernel_rfl) (by kernel_rfl)) (by kernel_rfl) (by kernel_rfl) (by kernel_rfl) (ZlR os _)) ?_
 intro W base args ds gs before hval hW _ hsz hL _
 obtain ⟨p,hA⟩:=Zhz (P:=Tryz.prog) (ts:=[26]) (by rw [Tryz.params11]) hW
 obtain ⟨v0,d0,rfl,rfl,h0⟩:=trodAll_one hA
 obtain ⟨g0,rfl,hr0,z0⟩:=ZhF (hval 0 26 v0 (by rw [Tryz.params11];rfl) rfl) h0 (ZhC hsz (j:=0) (by rw [Tryz.params11];rfl) rfl)
 refine (Zhd W (Zhb hL) hr0 z0).mono ?_
 rintro e W' ⟨rfl,hs⟩
 exact ⟨_,rfl,Zlq Znk (ts:=[26]) (by rw [Tryz.params11]) (tb:=4) (by kernel_rfl) Tryz.underlying4 (by kernel_rfl) rfl (by rintro rfl;exact ⟨rfl,rfl,rfl⟩) hW hs.below⟩
theorem Zhe:Rows.ArchiveOwnSaid :=
 OpenClaim.holds_of_wide 11 Tryz.f11 rfl rfl rfl rfl rfl rfl rfl ⟨rfl,rfl,rfl,rfl,rfl⟩ rfl rfl rfl rfl rfl (by kernel_rfl) Tryz.func11 (by kernel_rfl)
  (of_decide_eq_true (by kernel_rfl)) (by unfold Func.isWrapper;first | (rw [if_pos (by decide +kernel)];kernel_rfl) | (rw [if_neg (by decide +kernel)];exact ⟨rfl,rfl⟩))
  (fun os started H enc _=>Zfs os started H enc)
theorem archiveOwn_holds:Rows.ArchiveOwnCardSaid :=
 Claim7.holds_tied_plain_at .later [] [.data] true (true, "4982e14d7e6b816143ef947475410f28ce78841f78923bc3c4f68e82710c8bf7") false
  Zhe (fun _ h=>by cases h) (by kernel_rfl) (fun _ h=>by cases h) archiveOwn_row_tie rfl ⟨rfl,rfl⟩ (by kernel_rfl) rfl
  (fun f fn hf hfn=>by
    obtain rfl:f=11:=Option.some.inj ((show Tryz.prog.funcNamed "satchel/satchellaw20.ArchiveOwn" = some 11 by kernel_rfl).symm.trans hf) |>.symm
    obtain rfl:fn=Tryz.f11:=(Option.some.inj (Tryz.func11.symm.trans hfn)).symm
    exact ⟨by kernel_rfl,fun j t ht=>by
     rw [Tryz.params11] at ht
     have hm:t∈[26]:=by simpa using Array.mem_of_getElem? ht
     have hall:([26].all fun u=>!Tryz.prog.wantsStandIn u)=true:=by kernel_rfl
     exact (show Tryz.prog.wantsStandIn t=false by simpa using List.all_eq_true.1 hall t hm)⟩)
  (by kernel_rfl)
end Go.Proofs.YtkopcinhbjimiaaGreatDoor
