/- Texts that the claim leans on: walks and plain laws, function by function. -/
import Derived.Test.YtmkjfhnlnhceiaaGreatDoorN30
set_option maxRecDepth 100000
set_option maxHeartbeats 16000000
namespace Go.Proofs.YtmkjfhnlnhceiaaGreatDoor
section
open Go.RowKit
def ApF (f1:Nat) (v1:Value) (f2:Nat) (v2:Value):Prop:=f1≠f2/\∀ g,v1.ownBlock=some g->v2.ownBlock≠some g
theorem ApF.symm {f1 f2:Nat} {v1 v2:Value} (h:ApF f1 v1 f2 v2):ApF f2 v2 f1 v1:=⟨fun e=>h.1 e.symm,fun g a b=>h.2 g b a⟩
section
variable {w w':World} {B f1 k1 s1 z1 low1 f2 k2 s2 z2 low2:Nat} {v1 v2 v2':Value} {l1 l2:List BS}
theorem PF.apart (h1:PF w B f1 k1 s1 z1 v1 l1 low1) (h2:PF w B f2 k2 s2 z2 v2 l2 low2) (ha:ApF f1 v1 f2 v2) (hu:Upd (Foot f2 v2) w w'):PF w' B f1 k1 s1 z1 v1 l1 low1 :=
 ⟨h1.base,h1.blk.upd hu fun h=>h.elim (fun e=>ha.1 e) fun e=>h1.blk.ne_own h2.own.row qD e,
  ⟨Zae h1.own.row hu fun g a h=>h.elim (fun e=>h2.blk.ne_own h1.own.row qD (e ▸ a)) fun e=>ha.2 g a e,
   fun x b=>(h1.own.each x b).foot h2.blk h2.own.row hu⟩,h1.size,h1.recs,h1.len,h1.low⟩
theorem PT.apart {t m cnt:Nat} {nv:Value} {ns:List ByteArray} (h1:PT w B t f1 m k1 s1 cnt low1 v1 nv l1 ns) (h2:PF w B f2 k2 s2 z2 v2 l2 low2) (ha:ApF f1 v1 f2 v2) (hu:Upd (Foot f2 v2) w w'):PT w' B t f1 m k1 s1 cnt low1 v1 nv l1 ns :=
 ⟨h1.base,h1.blk.upd hu (h2.nofoot h1.blk qD qD),h1.file.apart h2 ha hu,Zae h1.row hu (h2.nofoot_own h1.row),h1.map.upd hu (h2.nofoot_map h1.map),h1.mB,h1.len,h1.texts⟩
theorem ApF.new (ha:ApF f1 v1 f2 v2) (h1:PF w B f1 k1 s1 z1 v1 l1 low1) (hn:NewB w v2 v2'):ApF f1 v1 f2 v2' :=
 ⟨ha.1,fun g a=>by
  rcases hn with e | ⟨c,e,d⟩
  · rw [e];exact ha.2 g a
  rw [e];intro h;obtain ⟨f,b⟩:=Zaf h1.own.row a;have:=b.lt;cases h;omega⟩
end
structure BuP where
 t:Nat->Nat
 f:Nat->Nat
 m:Nat->Nat
 nv:Nat->Value
 v:Nat->Value
 l:Nat->List BS
 low:Nat->Nat
def kdB:Nat->Nat:=fun i=>if i<6 then i+1 else 8
def zdB:Nat->Nat:=fun i=>if i<3 then 42 else if i=3 then 17 else if i=4 then 31 else if i=5 then 20 else 32
def BuP.put (q:BuP) (j:Nat) (v:Value) (l:List BS) (low:Nat):BuP :=
 { q with v:=fun i=>if i=j then v else q.v i,l:=fun i=>if i=j then l else q.l i,low:=fun i=>if i=j then low else q.low i }
structure BuM (w:World) (B:Nat) (q:BuP) (ns:Nat->List ByteArray):Prop where
 tb:∀ i,i<3->PT w B (q.t i) (q.f i) (q.m i) (kdB i) 1 (ns i).length (q.low i) (q.v i) (q.nv i) (q.l i) (ns i)
 fl:∀ i,i<7->PF w B (q.f i) (kdB i) 1 (zdB i) (q.v i) (q.l i) (q.low i)
 ap:∀ i j,i<7->j<7->i≠j->ApF (q.f i) (q.v i) (q.f j) (q.v j)
theorem BuM.same {w w':World} {B:Nat} {q:BuP} {ns:Nat->List ByteArray} (h:BuM w B q ns) (hs:Same w w'):BuM w' B q ns :=
 ⟨fun i a=>(h.tb i a).same hs,fun i a=>(h.fl i a).same hs,h.ap⟩
theorem BuM.put {w w':World} {B:Nat} {q:BuP} {ns:Nat->List ByteArray} (h:BuM w B q ns) {j:Nat} (h3:3<=j) (h7:j<7) {v':Value} {l':List BS} {low':Nat} (hp:PF w' B (q.f j) (kdB j) 1 (zdB j) v' l' low') (hu:Upd (Foot (q.f j) (q.v j)) w w') (hn:NewB w (q.v j) v') :
 BuM w' B (q.put j v' l' low') ns where
 tb i hi:=by have a:i≠j:=qO;simp only [BuP.put,Yab a];exact (h.tb i hi).apart (h.fl j h7) (h.ap i j qO h7 a) hu
 fl i hi:=by
  by_cases a:i=j
  · subst a;simp only [BuP.put,YcD];exact hp
  simp only [BuP.put,Yab a];exact (h.fl i hi).apart (h.fl j h7) (h.ap i j hi h7 a) hu
 ap i i' hi hi' a:=by
  simp only [BuP.put];by_cases b:i=j
  · subst b;rw [Yac rfl,Yab (fun e=>a e.symm)];exact ((h.ap i' i hi' h7 (fun e=>a e.symm)).new (h.fl i' hi') hn).symm
  rw [Yab b];by_cases c:i'=j
  · subst c;rw [Yac rfl];exact (h.ap i i' hi h7 a).new (h.fl i hi) hn
  rw [Yab c];exact h.ap i i' hi hi' a
def BuS (q:BuP) (b:Nat):Prop:=∃ j,3<=j/\j<7/\Foot (q.f j) (q.v j) b
theorem BuM.far {w:World} {B:Nat} {q:BuP} {ns:Nat->List ByteArray} (h:BuM w B q ns) {g:Nat} {e:TypeId} {cs:Array Value} (hb:Blk w g e cs) (h1:e≠171) (h2:39≠e):¬ BuS q g:=by rintro ⟨j,_,a,b⟩;exact (h.fl j a).nofoot hb h1 h2 b
theorem PF.ge {w:World} {B f k vs z low:Nat} {v:Value} {l:List BS} (h:PF w B f k vs z v l low) {b:Nat} (hf:Foot f v b):B<=b/\b<w.heap.size:=by
 rcases hf with e | e
 · exact e ▸ ⟨h.base,h.blk.lt⟩
 rcases h.own.row.2 with ⟨a,_⟩ | ⟨g,c,d,a,i,m,_⟩
 · rw [a] at e;simp [Value.ownBlock] at e
 obtain ⟨n,j⟩:=Zaf h.own.row e;rw [a] at e;simp [Value.ownBlock] at e;exact ⟨e ▸ i,j.lt⟩
theorem BuM.ge {w:World} {B:Nat} {q:BuP} {ns:Nat->List ByteArray} (h:BuM w B q ns) {b:Nat} (hb:BuS q b):B<=b/\b<w.heap.size:=by obtain ⟨j,_,a,c⟩:=hb;exact (h.fl j a).ge c
structure BuN (w:World) (q:BuP) (w':World) (q':BuP):Prop where
 f:q'.f=q.f
 t:q'.t=q.t
 nw:∀ j,NewB w (q.v j) (q'.v j)
 up:Upd (BuS q) w w'
theorem BuN.refl (w:World) (q:BuP):BuN w q w q:=⟨rfl,rfl,fun _=>.inl rfl,(Yaa (fun _=>False) w).mono fun _ _ f=>f.elim⟩
abbrev YeK:=@BuN.refl
theorem BuN.trans {w w1 w2:World} {q q1 q2:BuP} (h:BuN w q w1 q1) (k:BuN w1 q1 w2 q2):BuN w q w2 q2 :=
 ⟨k.f.trans h.f,k.t.trans h.t,fun j=>(h.nw j).trans h.up.size (k.nw j),h.up.trans k.up fun b l i=>by
  obtain ⟨j,c,d,e | e⟩:=i
  · exact ⟨j,c,d,.inl (by rw [e,h.f])⟩
  rcases h.nw j with a | ⟨g,a,m⟩
  · exact ⟨j,c,d,.inr (a ▸ e)⟩
  rw [a] at e;cases e;omega⟩
theorem BuN.same {w w1 w2:World} {q q1:BuP} (h:BuN w q w1 q1) (hs:Same w1 w2):BuN w q w2 q1:=⟨h.f,h.t,h.nw,h.up.same hs⟩
theorem BuN.put {w w':World} {q:BuP} {j:Nat} (h3:3<=j) (h7:j<7) {v':Value} {l':List BS} {low':Nat} (hu:Upd (Foot (q.f j) (q.v j)) w w') (hn:NewB w (q.v j) v'):BuN w q w' (q.put j v' l' low') :=
 ⟨rfl,rfl,fun i=>by
  simp only [BuP.put];split
  · rename_i e;exact e ▸ hn
  exact .inl rfl,hu.mono fun b _ a=>⟨j,h3,h7,a⟩⟩
theorem BuN.new {w w1 w2:World} {q q1:BuP} {g:Nat} (h:BuN w q w1 q1) (hu:Upd (fun k=>k=g) w1 w2) (hg:w.heap.size<=g):BuN w q w2 q1:=⟨h.f,h.t,h.nw,h.up.trans hu fun k a e=>qO⟩
structure Oth (e:TypeId):Prop where
 a:e≠171
 b:39≠e
 c:5≠e
 d:e≠167
 e:9≠e
theorem PF.turn {w w':World} {B f k vs z low g:Nat} {v:Value} {l:List BS} {e:TypeId} {cs:Array Value} (h:PF w B f k vs z v l low) (hb:Blk w g e cs) (he:Oth e) (hu:Upd (fun k=>k=g) w w'):PF w' B f k vs z v l low :=
 ⟨h.base,h.blk.upd hu fun d=>hb.ne h.blk he.a d.symm,h.own.type hu (fun _ _ d=>d ▸ ⟨_,hb⟩) he.c he.b,h.size,h.recs,h.len,h.low⟩
theorem PT.turn {w w':World} {B t f m k vs cnt low g:Nat} {v nv:Value} {l:List BS} {ns:List ByteArray} {e:TypeId} {cs:Array Value} (h:PT w B t f m k vs cnt low v nv l ns) (hb:Blk w g e cs) (he:Oth e) (hu:Upd (fun k=>k=g) w w'):PT w' B t f m k vs cnt low v nv l ns :=
 ⟨h.base,h.blk.upd hu fun a=>hb.ne h.blk he.d a.symm,h.file.turn hb he hu,Zae h.row hu fun k b a=>hb.ne_own h.row he.e (a ▸ b),h.map.upd hu fun a=>h.map.ne hb a,h.mB,h.len,h.texts⟩
theorem BuM.turn {w w':World} {B g:Nat} {q:BuP} {ns:Nat->List ByteArray} {e:TypeId} {cs:Array Value} (h:BuM w B q ns) (hb:Blk w g e cs) (he:Oth e) (hu:Upd (fun k=>k=g) w w'):BuM w' B q ns :=
 ⟨fun i a=>(h.tb i a).turn hb he hu,fun i a=>(h.fl i a).turn hb he hu,h.ap⟩
structure BuA (w:World) (B:Nat) (q:BuP) (ns:Nat->List ByteArray) (j:Nat) (R:List (Option (List UInt8))) (w':World) (q':BuP):Prop where
 m:BuM w' B q' ns
 n:BuN w q w' q'
 at_:(q'.l j).map BS.rc=R
 oth:∀ i,i≠j->q'.l i=q.l i
theorem BuA.of {w w':World} {B:Nat} {q:BuP} {ns:Nat->List ByteArray} (h:BuM w B q ns) {j:Nat} (h3:3<=j) (h7:j<7) {v':Value} {l':List BS} {low':Nat} (hp:PF w' B (q.f j) (kdB j) 1 (zdB j) v' l' low') (hu:Upd (Foot (q.f j) (q.v j)) w w') (hn:NewB w (q.v j) v') :
 BuA w B q ns j (l'.map BS.rc) w' (q.put j v' l' low') :=
 ⟨h.put h3 h7 hp hu hn,BuN.put h3 h7 hu hn,by simp only [BuP.put,YcD],fun i a=>by simp only [BuP.put,Yab a]⟩
theorem Zhv {B:Nat} {q:BuP} {ns:Nat->List ByteArray} {F:Nat->Prop} {A:Option Addr} {n c j:Nat} {d:List UInt8} (w:World) (h:BuM w B q ns) (hB:B<=w.heap.size) (h3:3<=j) (h7:j<7) (hd:Zag w F A n c d) (hdl:d.length+1=zdB j) (id:Nat) (hid:id<65536) :
 Calls Tryz.prog 59 #[.pointer (some ⟨q.f j,0,none⟩),.int .i64 (id:Int),.slice A n c] w fun e w'=>e=.returned (.int .i64 0) /\
  ∃ q',BuA w B q ns j (putAt ((q.l j).map BS.rc) id d) w' q' :=
 (ZfW w (h.fl j h7) hB hd hdl id hid).mono fun e w' ⟨a,x,o,b,g,i,k,m⟩=>⟨a,_,by have:=BuA.of h h3 h7 i k m;rw [Ztj _ _ _ g,b] at this;exact this⟩
theorem ZmC {B:Nat} {q:BuP} {ns:Nat->List ByteArray} {A:Option Addr} {n c:Nat} {data:List UInt8} (w:World) (h:BuM w B q ns) (hB:B<=w.heap.size) (hall:∀ x∈q.l 6,x.A≠none) (hd:Zag w (TyB w 0) A n c data) (hn:n<=140737488355328) :
 Calls Tryz.prog 101 #[.pointer (some ⟨q.f 6,0,none⟩),.slice A n c] w fun e w'=>∃ er,e=.returned (.tuple #[.int .i64 (Zbz ((q.l 6).map BS.rc) data).2,.int .i64 er]) /\
  ∃ q',BuA w B q ns 6 (Zbz ((q.l 6).map BS.rc) data).1 w' q'/\∀ x∈q'.l 6,x.A≠none :=
 (Zoh w (h.fl 6 qD) hB hall hd hn).mono fun e w' ⟨er,m,b,d⟩=>⟨er,b,by obtain ⟨p,r,a,g,i,_,j,k,hn⟩:=d.ex;refine ⟨_,j ▸ BuA.of h qD qD g k hn,fun x o=>i x ?_⟩;simpa only [BuP.put,YcD] using o⟩
attribute [local go_sem] Ybq
def isRd (o:Oper):Bool:=match o.op with
 | .call c=>match c.callee with
   | .value _=>false
   | _=>true
 | .alloc _=>false
 | .mapUpdate ..=>false
 | .makeSlice ..=>false
 | .buildSlice ..=>false
 | .store ..=>false
 | _=>true
theorem ESt.tkR {P:Program} {md:Region.Mode} {ops:Array Oper} {Q:Exit->Act->World->Prop} {S:World->Prop} {n:Nat} (i:Nat) {oi:Oper} {v:Value} {f:Nat} {listed:Array Bool} {a:Act} {w:World} (hi:ops[i]?=some oi) (_:isRd oi=true) (hy:YieldsIf P ops S oi v a) (hS:S w)
 (h:ESt P md ops Q S n f (listed.setIfInBounds i true) (a.put oi.dst v) w) (hok:Region.okE md ops n=true:=by decide +kernel)
 (hf:(decide (i<n) && Region.free md ops listed i && (Region.ready md ops listed).contains i)=true:=by decide +kernel) (hQ:∀ c a w,Q (.panic c) (a.put oi.dst v) w->Q (.panic c) a w:=by exact fun _ _ _ h=>h) :
 ESt P md ops Q S n (f+1) listed a w:=ESt.take hok hi hf hQ hy hS h
abbrev Ybp:=@ESt.tkR
structure Bx (p:Prop):Prop where
 out:p
theorem tkY {p:Prop} (h:p:=by
 intro wx hSw
 repeat (have:=hSw.1;replace hSw:=hSw.2)
 go_simp
 try with_reducible rfl):p:=h
theorem ZbE {R p:Prop} (k:R) (h:Bx R->p:=by
 intro k
 repeat
  first
   | (refine Ybp 0 (v:=?_) rfl rfl (Or.inl ⟨by rfl,?_⟩) (by assumption) ?_;rotate_left;(exact tkY))
   | (refine Ybp 1 (v:=?_) rfl rfl (Or.inl ⟨by rfl,?_⟩) (by assumption) ?_;rotate_left;(exact tkY))
   | (refine Ybp 2 (v:=?_) rfl rfl (Or.inl ⟨by rfl,?_⟩) (by assumption) ?_;rotate_left;(exact tkY))
   | (refine Ybp 3 (v:=?_) rfl rfl (Or.inl ⟨by rfl,?_⟩) (by assumption) ?_;rotate_left;(exact tkY))
   | (refine Ybp 4 (v:=?_) rfl rfl (Or.inl ⟨by rfl,?_⟩) (by assumption) ?_;rotate_left;(exact tkY))
   | (refine Ybp 5 (v:=?_) rfl rfl (Or.inl ⟨by rfl,?_⟩) (by assumption) ?_;rotate_left;(exact tkY))
   | (refine Ybp 6 (v:=?_) rfl rfl (Or.inl ⟨by rfl,?_⟩) (by assumption) ?_;rotate_left;(exact tkY))
   | (refine Ybp 7 (v:=?_) rfl rfl (Or.inl ⟨by rfl,?_⟩) (by assumption) ?_;rotate_left;(exact tkY))
   | (refine Ybp 8 (v:=?_) rfl rfl (Or.inl ⟨by rfl,?_⟩) (by assumption) ?_;rotate_left;(exact tkY))
   | (refine Ybp 9 (v:=?_) rfl rfl (Or.inl ⟨by rfl,?_⟩) (by assumption) ?_;rotate_left;(exact tkY))
   | (refine Ybp 10 (v:=?_) rfl rfl (Or.inl ⟨by rfl,?_⟩) (by assumption) ?_;rotate_left;(exact tkY))
   | (refine Ybp 11 (v:=?_) rfl rfl (Or.inl ⟨by rfl,?_⟩) (by assumption) ?_;rotate_left;(exact tkY))
   | (refine Ybp 12 (v:=?_) rfl rfl (Or.inl ⟨by rfl,?_⟩) (by assumption) ?_;rotate_left;(exact tkY))
   | (refine Ybp 13 (v:=?_) rfl rfl (Or.inl ⟨by rfl,?_⟩) (by assumption) ?_;rotate_left;(exact tkY))
   | (refine Ybp 14 (v:=?_) rfl rfl (Or.inl ⟨by rfl,?_⟩) (by assumption) ?_;rotate_left;(exact tkY))
   | (refine Ybp 15 (v:=?_) rfl rfl (Or.inl ⟨by rfl,?_⟩) (by assumption) ?_;rotate_left;(exact tkY))
   | (refine Ybp 16 (v:=?_) rfl rfl (Or.inl ⟨by rfl,?_⟩) (by assumption) ?_;rotate_left;(exact tkY))
   | (refine Ybp 17 (v:=?_) rfl rfl (Or.inl ⟨by rfl,?_⟩) (by assumption) ?_;rotate_left;(exact tkY))
   | (refine Ybp 18 (v:=?_) rfl rfl (Or.inl ⟨by rfl,?_⟩) (by assumption) ?_;rotate_left;(exact tkY))
   | (refine Ybp 19 (v:=?_) rfl rfl (Or.inl ⟨by rfl,?_⟩) (by assumption) ?_;rotate_left;(exact tkY))
   | (refine Ybp 20 (v:=?_) rfl rfl (Or.inl ⟨by rfl,?_⟩) (by assumption) ?_;rotate_left;(exact tkY))
   | (refine Ybp 21 (v:=?_) rfl rfl (Or.inl ⟨by rfl,?_⟩) (by assumption) ?_;rotate_left;(exact tkY))
   | (refine Ybp 22 (v:=?_) rfl rfl (Or.inl ⟨by rfl,?_⟩) (by assumption) ?_;rotate_left;(exact tkY))
   | (refine Ybp 23 (v:=?_) rfl rfl (Or.inl ⟨by rfl,?_⟩) (by assumption) ?_;rotate_left;(exact tkY))
   | (refine Ybp 24 (v:=?_) rfl rfl (Or.inl ⟨by rfl,?_⟩) (by assumption) ?_;rotate_left;(exact tkY))
   | (refine Ybp 25 (v:=?_) rfl rfl (Or.inl ⟨by rfl,?_⟩) (by assumption) ?_;rotate_left;(exact tkY))
   | (refine Ybp 26 (v:=?_) rfl rfl (Or.inl ⟨by rfl,?_⟩) (by assumption) ?_;rotate_left;(exact tkY))
   | (refine Ybp 27 (v:=?_) rfl rfl (Or.inl ⟨by rfl,?_⟩) (by assumption) ?_;rotate_left;(exact tkY))
  simp only [Act.put,Yal,YaA,Yaz,Yaw,Yam,Yap]
 exact k.out):p:=h ⟨k⟩
end
section
open Go.RowKit
structure CW (w:World) (B c r:Nat) (v:Value) (bs:List UInt8):Prop where
 cod:Blk w c 237 #[.pointer (some ⟨r,0,none⟩),.pointer none,.bool false]
 wtr:WtrV w B r v bs
structure CWon (w:World) (B c r:Nat) (v:Value) (bs:List UInt8) (w':World):Prop where
 ex:∃ v',CW w' B c r v' bs/\(v'.ownBlock=v.ownBlock\/∃ g,v'.ownBlock=some g/\w.heap.size<=g)
 upd:Upd (fun b=>b=c\/b=r\/v.ownBlock=some b) w w'
theorem CWon.blk {w w':World} {B c r g:Nat} {v:Value} {bs0 bs:List UInt8} {t:TypeId} {cs:Array Value} (h0:CW w B c r v bs0) (h:CWon w B c r v bs w') (hb:Blk w g t cs) (h1:t≠237/\t≠244/\5≠t):Blk w' g t cs :=
 hb.upd h.upd (by
  rintro (e | e | e)
  · exact hb.ne h0.cod h1.1 e
  · exact hb.ne h0.wtr.2.1 h1.2.1 e
  exact hb.ne_own h0.wtr.2.2 h1.2.2 e)
theorem CWon.trans {w w1 w2:World} {B c r:Nat} {v v1:Value} {bs1 bs2:List UInt8} (h:CWon w B c r v bs1 w1) (hv:v1.ownBlock=v.ownBlock\/∃ g,v1.ownBlock=some g/\w.heap.size<=g) (k:CWon w1 B c r v1 bs2 w2):CWon w B c r v bs2 w2:=by
 refine ⟨?_,h.upd.trans k.upd fun b j=>?_⟩
 · obtain ⟨f,i,a⟩:=k.ex;refine ⟨f,i,?_⟩;rcases a with a | ⟨g,a,d⟩
   · rw [a];exact hv
   exact .inr ⟨g,a,Yaj h.upd.size d⟩
 rintro (e | e | e)
 · exact .inl e
 · exact .inr (.inl e)
 rcases hv with hv | ⟨g,a,d⟩
 · exact .inr (.inr (hv ▸ e))
 rw [a] at e;cases e;omega
theorem Zfg {w:World} {B c r:Nat} {v:Value} {bs:List UInt8} (h:CW w B c r v bs) (width:Nat) (hw:ZaK width=true) (hl:bs.length<=1000) {t:TypeId} {pb po:Nat} {cs:Array Value} {n:Int}
 (hp:Blk w pb t cs) (hpo:cs[po]?=some (.int .i64 n)) (ht:t≠237/\t≠244/\5≠t) (low most:Int) (add:Nat) (hadd:add<=1) (hin:low<=n/\n<most/\most<=65536/\0<=n+add) :
 Calls Tryz.prog 169 #[.pointer (some ⟨c,0,none⟩),.int .i64 width,.pointer (some ⟨pb,po,none⟩),.int .i64 low,.int .i64 most,.int .i64 add] w fun e w'=>e=.returned (.tuple #[]) /\
  CWon w B c r v (bs++beb width (n+add).toNat) w':=by
 have l:pb≠c:=hp.ne h.cod ht.1;have I:=h.cod.c1;have L:=h.cod.c2;have M:=h.cod.frozen 2;have N:w.cell? ⟨pb,po,none⟩=some (.int .i64 n):=by rw [hp.cell];exact hpo
 have O:¬ n<low:=qO;have P:¬ most<=n:=qO;have m:Upd (fun b=>b=c) w (w.setCell ⟨c,2,none⟩ (.bool false)):=(Yaa _ w).put1 _;have u:CW (w.setCell ⟨c,2,none⟩ (.bool false)) B c r v bs:=⟨h.cod.put 2 _,h.wtr.upd m (fun e=>by have x:=h.cod.ne h.wtr.2.1 qD;exact x e.symm) fun b F e=>h.cod.ne_own h.wtr.2.2 qD (e ▸ F)⟩
 have a:=qH u;have y:=qH m;have E:=qH (hp.far (p:=⟨c,2,none⟩) l (.bool false));have o:=qH hpo;have R:=qH ht;have S:IntKind.i64.wrap (n+(add:Int))=n+add:=YbO _ ⟨qO,qO⟩;have T:IntKind.u64.wrap (n+(add:Int))=n+add:=IntWalk.u64_in _ ⟨qO,qO⟩;clear h hp hpo m u;go_enter Tryz.func169,Tryz.ntmps169;go_upto_region 4 with fail;generalize w.setCell ⟨c,2,none⟩ (.bool false)=q at *;have k:Same q q.drew:=(Yaa _ q).drew;refine Zaj 11 (fun s=>s.cell? ⟨c,0,none⟩=some (.pointer (some ⟨r,0,none⟩))/\s.cell? ⟨pb,po,none⟩=some (.int .i64 n)) (by kernel_rfl) ⟨(a.cod.same k).cell 0,by rw [(E.same k).cell];exact o⟩ (fun d=>?_)
 repeat
  first
   | refine Yan (v:=?_) 0 rfl ?_ ?_
   | refine Yan (v:=?_) 1 rfl ?_ ?_
   | refine Yan (v:=?_) 2 rfl ?_ ?_
   | refine Yan (v:=?_) 3 rfl ?_ ?_
   | refine Yan (v:=?_) 4 rfl ?_ ?_
   | refine Yan (v:=?_) 5 rfl ?_ ?_
   | refine Yan (v:=?_) 6 rfl ?_ ?_
   | refine Yan (v:=?_) 7 rfl ?_ ?_
   | refine Yan (v:=?_) 8 rfl ?_ ?_
   | refine Yan (v:=?_) 9 rfl ?_ ?_
   | refine Yan (v:=?_) 10 rfl ?_ ?_
  rotate_left
  · intro s i;have U:=i.1;have x:=i.2;go_simp;try with_reducible rfl
  simp only [Act.put,Yal]
 refine YcO (by decide +kernel) (by decide +kernel) rfl (fun K A=>?_) _;go_simp;refine (Zum (a.wtr.same k) (width:Int) (n+add) hw qO qO).mono ?_;rintro e V ⟨rfl,C⟩;have z:=qH C;clear C;go_wp2_with fail;refine A.out _ _ ?_;clear A K d;go_wp2;go_end0;obtain ⟨G,D,j⟩:=z.ex;have u5:=(k.mono (S':=fun b=>b=r\/v.ownBlock=some b) fun _ _ f=>f.elim).trans z.upd fun _ _ h=>h;refine ⟨rfl,⟨⟨G,⟨a.cod.upd u5 (by
  rintro (e | e)
  · exact a.cod.ne a.wtr.2.1 qD e
  exact a.cod.ne_own a.wtr.2.2 qD e),by rw [YaN] at D;exact D⟩,?_⟩,?_⟩⟩
 · rcases j with j | ⟨g,j,H⟩
   · exact .inl j
   exact .inr ⟨g,j,Yaj y.size H⟩
 exact (y.mono (S':=fun b=>b=c\/b=r\/v.ownBlock=some b) fun _ _ h=>.inl h).trans u5 fun b _ h=>.inr h
def putCs (w:World) (g:Nat):Nat->List Value->World
 | _,[]=>w
 | i,u::us=>putCs (w.setCell ⟨g,i,none⟩ u) g (i+1) us
theorem Blk.putAt {w:World} {g:Nat} {t:TypeId}:∀ (us:List Value) (pre:List Value) (cs:Array Value),Blk w g t cs->cs.toList.take pre.length=pre->pre.length<=cs.size->cs.size=pre.length+us.length->Blk (putCs w g pre.length us) g t (pre++us).toArray
 | [],pre,cs,h,hp,_,hs=>by
   have e:cs=(pre++[]).toArray:=by apply Array.ext';simp only [YaS,YbW] at hs;rw [YaB (by rw [Ycf];omega)] at hp;simpa using hp
   rw [<- e];exact h
 | u::us,pre,cs,h,hp,hl,hs=>by
   rw [Yao] at hs;have a:(pre++[u]).length=pre.length+1:=by simp
   have b:=Blk.putAt us (pre++[u]) (cs.setIfInBounds pre.length u) (h.put pre.length u) (by rw [a,Yfk,List.take_set,Ybo,hp,Yar (l:=cs.toList) (i:=pre.length) (by have:cs.toList.length=cs.size:=Ycf;omega),Yem];rw [YcU _ _ (Yae _),YbC];rfl) (by rw [a,YdC];omega) (by rw [a,YdC];omega)
   rw [a,Yak] at b;exact b
theorem Blk.putCs {w:World} {g:Nat} {t:TypeId} {cs:Array Value} (h:Blk w g t cs) (us:List Value) (hs:cs.size=us.length):Blk (putCs w g 0 us) g t us.toArray :=
 Blk.putAt us [] cs h rfl (Yah _) (by rw [hs];simp)
theorem Upd.putCs (w:World) (g:Nat) (us:List Value):Upd (fun b=>b=g) w (putCs w g 0 us):=by
 have c:∀ (us:List Value) (i:Nat) (a w:World),Upd (fun b=>b=g) a w->Upd (fun b=>b=g) a (Go.Proofs.YtmkjfhnlnhceiaaGreatDoor.putCs w g i us):=by
  intro us
  induction us with
  | nil=>intro i a w h;exact h
  | cons u us ih=>intro i a w h;exact ih (i+1) a _ (h.put1 u)
 exact c us 0 w w (Yaa _ w)
abbrev Ycx:=@Upd.putCs
theorem ZhT {tmps:Array Value} {w:World} {g:Nat} {cs:Array Value} {ee:Int} {R:Ending->World->Prop} {u0 u1 u2:Value} (h2:tmps.getD 8 undef=.pointer (some ⟨g,0,none⟩)) (h3:tmps.getD 9 undef=.int .i64 ee)
 (hb:Blk w g 115 cs) (hsz:cs.size=3) (hR:R (.returned (.tuple #[.agg #[u0,u1,u2],.int .i64 ee])) (putCs w g 0 [u0,u1,u2])) :
 bodyPost Tryz.prog Tryz.f123 R Exit.ret ⟨tmps,[]⟩ (putCs w g 0 [u0,u1,u2]):=by
 have h:=hb.putCs [u0,u1,u2] hsz;generalize putCs w g 0 [u0,u1,u2]=W at *;have a:=h.cell 0;have b:=h.cell 1;have c:=h.cell 2;simp only [Ybj,YaW,Ybd] at a b c;refine YbB (v:=.tuple #[.agg #[u0,u1,u2],.int .i64 ee]) ?_ rfl hR;simp only [YbZ] at h2 h3;simp [results,Tryz.results123,go_sem,h2,h3,a,b,c]
theorem Zjo {tmps:Array Value} {w:World} {g:Nat} {cs:Array Value} {ee:Int} {R:Ending->World->Prop} {u0 u1 u2:Value} (h2:tmps.getD 2 undef=.pointer (some ⟨g,0,none⟩)) (h3:tmps.getD 3 undef=.int .i64 ee)
 (hb:Blk w g 115 cs) (hsz:cs.size=3) (hR:R (.returned (.tuple #[.agg #[u0,u1,u2],.int .i64 ee])) (putCs w g 0 [u0,u1,u2])) :
 bodyPost Tryz.prog Tryz.f72 R Exit.ret ⟨tmps,[]⟩ (putCs w g 0 [u0,u1,u2]):=by
 have h:=hb.putCs [u0,u1,u2] hsz;generalize putCs w g 0 [u0,u1,u2]=W at *;have a:=h.cell 0;have b:=h.cell 1;have c:=h.cell 2;simp only [Ybj,YaW,Ybd] at a b c;refine YbB (v:=.tuple #[.agg #[u0,u1,u2],.int .i64 ee]) ?_ rfl hR;simp only [YbZ] at h2 h3;simp [results,Tryz.results72,go_sem,h2,h3,a,b,c]
theorem Zlj {F:Nat->Prop} {A:Option Addr} {n c:Nat} {bs:List UInt8} (w:World) (hb:Zag w F A n c bs) (hl:bs.length=16) :
 Calls Tryz.prog 123 #[.slice A n c,.int .i64 16,.agg #[.int .i64 0,.int .i64 0,.slice none 0 0],.func (.func 104) #[] #[]] w fun e w'=>Same w w' /\
  ((getN bs=none/\e=.returned (.tuple #[.agg #[.int .i64 0,.int .i64 0,.slice none 0 0],.int .i64 41])) \/
   ∃ x A1 n1 c1,getN bs=some x/\e=.returned (.tuple #[.agg (x.cellsV (.slice A1 n1 c1)),.int .i64 0])/\w'.ownsRow w.heap.size 3 1 (.slice A1 n1 c1) x.labels.length (x.labels.map (Value.int .i64))):=by
 have R:n=16:=qt hb.len;subst R;have u:=(((Yaa (fun _=>False) w).alloc (.cells #[.int .i64 0,.int .i64 0,.slice none 0 0] 115)).alloc (.cells #[.int .i64 0,.int .i64 0,.slice none 0 0] 115)).alloc (.cells #[.int .i64 0,.int .i64 0,.slice none 0 0] 115);have H:=qH u;have S:=qH (hb.same u);have T:=qH hl;clear hb u hl;go_enter Tryz.func123,Tryz.ntmps123;go_wp2_with fail;have v:=qH ((((Yad w 115 #[.int .i64 0,.int .i64 0,.slice none 0 0]).alloc (.cells #[.int .i64 0,.int .i64 0,.slice none 0 0] 115)).alloc (.cells #[.int .i64 0,.int .i64 0,.slice none 0 0] 115)));have y:=(Yad (w.alloc (.cells #[.int .i64 0,.int .i64 0,.slice none 0 0] 115)) 115 #[.int .i64 0,.int .i64 0,.slice none 0 0]).alloc (.cells #[.int .i64 0,.int .i64 0,.slice none 0 0] 115);have k:=Yad ((w.alloc (.cells #[.int .i64 0,.int .i64 0,.slice none 0 0] 115)).alloc (.cells #[.int .i64 0,.int .i64 0,.slice none 0 0] 115)) 115 #[.int .i64 0,.int .i64 0,.slice none 0 0];simp only [Yav] at y k;have B:=qH y;have i:=qH k;clear y k;generalize hz:w.heap.size=z at *;generalize ((w.alloc (.cells #[.int .i64 0,.int .i64 0,.slice none 0 0] 115)).alloc (.cells #[.int .i64 0,.int .i64 0,.slice none 0 0] 115)).alloc (.cells #[.int .i64 0,.int .i64 0,.slice none 0 0] 115)=t at *;refine (ZbG S qO).mono ?_;rintro e d ⟨r,rfl,hr,D,m⟩;have o:=m.alloc (.cells #[.pointer none,.pointer (some ⟨r,0,none⟩),.bool false] 237);have U:=D.lt;have V:t.heap.size<=d.heap.size:=m.size;have p:=i.lt;have I:Rdr (d.alloc (.cells #[.pointer none,.pointer (some ⟨r,0,none⟩),.bool false] 237)) (fun b=>(t.heap.size<=b/\b≠r)/\b<d.heap.size) r ⟨bs,0⟩:=by obtain ⟨A1,n1,c1,h1,h2⟩:=D;exact ⟨A1,n1,c1,h1.alloc _,(Zag.mono h2 fun b hb h=>⟨h,hb⟩).same ((Yaa _ d).alloc _)⟩
 have W:=qH (show CR (d.alloc (.cells #[.pointer none,.pointer (some ⟨r,0,none⟩),.bool false] 237)) (fun b=>(t.heap.size<=b/\b≠r)/\b<d.heap.size) d.heap.size r bs false from ⟨Yad d _ _,I,fun h=>h.1.2 rfl,fun h=>YcL _ h.2⟩);have L:=qH o;have v:=qH (v.same o);have B:=qH (B.same o);have i:=qH (i.same o);have l:Hid (z+1≠d.heap.size/\z+1≠r/\z+2≠d.heap.size/\z+2≠r/\z≠d.heap.size/\z≠r/\z<=r/\z<=d.heap.size):=qH qO;have M:=qH (show z+2<t.heap.size from p);have X:(d.alloc (.cells #[.pointer none,.pointer (some ⟨r,0,none⟩),.bool false] 237)).heap.size=d.heap.size+1:=Yav _ _;clear I D m o;go_upto_region 5 with fail;generalize a0:d.heap.size=z1 at *;generalize d.alloc (.cells #[.pointer none,.pointer (some ⟨r,0,none⟩),.bool false] 237)=w2 at *;go_wp2_with fail;refine (Ztt W (by rw [T.out]) v.out (fun h=>by have:=h.1.1;have:=M.out;omega) (fun b hb h=>qt h.2)).mono ?_;rintro e E ⟨rfl,G,⟨A1,n1,c1,O⟩,u3⟩;have C3:=qH G.cod;have Y:=qH O;have N:Hid (Upd (fun b=>z<=b) w E):=qH (((H.trans L fun _ _ f=>f).mono (S':=fun b=>z<=b) fun _ _ f=>f.elim).trans u3 fun b _ h=>qh l);have a:=qH (B.upd u3 (qh l));have g:=qH (i.upd u3 (qh l));have q:=G.cod.c2;have j:=qH L.size;clear G O u3;cases hg:getN bs with
 | none =>
   rw [hg] at q;simp only [YfD] at q;have Z:=g.cell 0;have e0:=a.frozen 0;have r0:=a.cell 0;have d1:=g.cell 1;have e1:=a.frozen 1;have r1:=a.cell 1;have d2:=g.cell 2;have e2:=a.frozen 2;have r2:=a.cell 2;go_wp2;have s:=Ycx E (z+1) [.int .i64 0,.int .i64 0,.slice none 0 0];refine ZhT rfl rfl a rfl ?_;exact ⟨(N.trans s fun b _ h=>qO).mono fun b hb h=>qO,.inl ⟨hg,rfl⟩⟩
 | some x =>
   rw [hg] at q;simp only [Ygt] at q;obtain ⟨b4,P⟩:=Y.out x hg;have C:=qH b4;have Z:=C.c0;have e0:=a.frozen 0;have r0:=a.cell 0;have d1:=C.c1;have e1:=a.frozen 1;have r1:=a.cell 1;have d2:=C.c2;have e2:=a.frozen 2;have r2:=a.cell 2;go_wp2;have s:=Ycx E (z+1) [.int .i64 x.rel,.int .i64 x.prop,.slice A1 n1 c1];refine ZhT rfl rfl a rfl ?_;exact ⟨(N.trans s fun b _ h=>qO).mono fun b hb h=>qO,.inr ⟨x,A1,n1,c1,hg,rfl,Zae (Zac P (by have:=j.out;have:=H.size;omega)) s fun b hb hh=>by have:=(P.lt b hb).1;have:=M.out;have:=j.out;omega⟩⟩
theorem ZmD {F:Nat->Prop} {A:Option Addr} {n c:Nat} {bs:List UInt8} (w:World) (hb:Zag w F A n c bs) (hl:bs.length=16) :
 Calls Tryz.prog 72 #[.slice A n c] w fun e w'=>Same w w' /\
  ((getN bs=none/\e=.returned (.tuple #[.agg #[.int .i64 0,.int .i64 0,.slice none 0 0],.int .i64 41])) \/
   ∃ x A1 n1 c1,getN bs=some x/\e=.returned (.tuple #[.agg (x.cellsV (.slice A1 n1 c1)),.int .i64 0])/\w'.ownsRow w.heap.size 3 1 (.slice A1 n1 c1) x.labels.length (x.labels.map (Value.int .i64))):=by
 have i:=(Yaa (fun _=>False) w).alloc (.cells #[.int .i64 0,.int .i64 0,.slice none 0 0] 115);have o:=qH i;have p:=qH (Zlj _ (hb.same i) hl);have q:=qH (Yad w 115 #[.int .i64 0,.int .i64 0,.slice none 0 0]);have r:(w.alloc (.cells #[.int .i64 0,.int .i64 0,.slice none 0 0] 115)).heap.size=w.heap.size+1:=Yav _ _;clear hb i;go_enter Tryz.func72,Tryz.ntmps72;go_wp2_with fail;refine p.mono ?_;generalize w.alloc (.cells #[.int .i64 0,.int .i64 0,.slice none 0 0] 115)=B at *;rintro e l ⟨d,h⟩;have a:=qH (q.same d);have k:=qH (o.trans d fun _ _ f=>f);clear d;have s:=a.frozen 0;have t:=a.cell 0;have u:=a.frozen 1;have v:=a.cell 1;have y:=a.frozen 2;have z:=a.cell 2;rcases h with ⟨j,rfl⟩ | ⟨x,A1,n1,c1,j,rfl,m⟩
 · go_wp2;have g:=Ycx l w.heap.size [.int .i64 0,.int .i64 0,.slice none 0 0];refine Zjo rfl rfl a rfl ?_;exact ⟨((Ydf (S':=fun b=>b=w.heap.size) k fun _ _ f=>f.elim).trans g fun _ _ h=>h).mono fun b hb h=>qO,.inl ⟨j,rfl⟩⟩
 unfold N1.cellsV;go_wp2;have g:=Ycx l w.heap.size [.int .i64 x.rel,.int .i64 x.prop,.slice A1 n1 c1];refine Zjo rfl rfl a rfl ?_;exact ⟨((Ydf (S':=fun b=>b=w.heap.size) k fun _ _ f=>f.elim).trans g fun _ _ h=>h).mono fun b hb h=>qO,.inr ⟨x,A1,n1,c1,j,rfl,Zae (Zac m qO) g fun b hb C=>by have:=(m.lt b hb).1;omega⟩⟩
section
variable {w:World} {B c r g po:Nat} {v:Value} {bs:List UInt8} {t:TypeId} {cs:Array Value} {n:Int}
theorem Zdl (h:CW w B c r v bs) (hl:bs.length<=1000) (hp:Blk w g t cs) (hpo:cs[po]?=some (.int .i64 n)) (ht:t≠237/\t≠244/\5≠t) (most:Int) (hm:most<=65536) (hin:inP n (-1) most=true) :
 Calls Tryz.prog 152 #[.pointer (some ⟨c,0,none⟩),.pointer (some ⟨g,po,none⟩),.int .i64 most] w fun e w'=>e=.returned (.tuple #[])/\CWon w B c r v (bs++ptrB n) w':=by
 have a:=Zai.1 hin;have d:=qH (Zfg h 4 rfl hl hp hpo ht (-1) most 1 (Yae _) ⟨a.1,a.2,hm,qO⟩);clear h hp hpo ht hl a hin;go_enter Tryz.func152,Tryz.ntmps152;go_wp2_with fail;refine d.mono ?_;rintro e i ⟨rfl,b⟩;have f:=qH b;clear b;go_wp2;go_end0;exact ⟨rfl,f⟩
theorem ZrR (h:CW w B c r v bs) (hl:bs.length<=1000) (hp:Blk w g t cs) (hpo:cs[po]?=some (.int .i64 n)) (ht:t≠237/\t≠244/\5≠t) (hin:inP n 0 200=true) :
 Calls Tryz.prog 155 #[.pointer (some ⟨c,0,none⟩),.pointer (some ⟨g,po,none⟩)] w fun e w'=>e=.returned (.tuple #[])/\CWon w B c r v (bs++beb 2 n.toNat) w':=by
 have a:=Zai.1 hin;have b:=qH (Zfg h 2 rfl hl hp hpo ht 0 200 0 qO ⟨a.1,a.2,qO,qO⟩);rw [show n+((0:Nat):Int)=n by omega] at b;clear h hp hpo ht hl a hin;go_enter Tryz.func155,Tryz.ntmps155;go_wp2_with fail;refine b.mono ?_;rintro e i ⟨rfl,d⟩;have f:=qH d;clear d;go_wp2;go_end0;exact ⟨rfl,f⟩
end
theorem relT:124≠237/\124≠244/\5≠124:=qD
theorem Ztx {w:World} {B c r g:Nat} {v:Value} {bs:List UInt8} {x:R1} (h:CW w B c r v bs) (hl:bs.length<=500) (hp:Blk w g 124 x.cells) (h1:inP x.link.src 0 1024=true) (h2:inP x.link.dst 0 1024=true) :
 Calls Tryz.prog 154 #[.pointer (some ⟨c,0,none⟩),.pointer (some ⟨g,0,none⟩)] w fun e w'=>e=.returned (.tuple #[])/\CWon w B c r v (bs++(beb 4 x.link.src.toNat++beb 4 x.link.dst.toNat)) w':=by
 have d:=Zai.1 h1;have f:=Zai.1 h2;have i:=qH h;have j:=qH hp;clear h hp h1 h2;go_enter Tryz.func154,Tryz.ntmps154;go_wp2_with fail;refine (Zfg i 4 rfl qO j.out (po:=1) (n:=x.link.src) rfl relT 0 1024 0 qO ⟨d.1,d.2,qO,qO⟩).mono ?_;rintro e q ⟨rfl,a⟩;rw [show x.link.src+((0:Nat):Int)=x.link.src by omega] at a;obtain ⟨s,k,l⟩:=a.ex;have m:=qH a;have o:=qH k;have N1:=qH l;have P1:=qH (a.blk i j relT);clear a k l;go_wp2_with fail;refine (Zfg o 4 rfl (by simp only [Yaf,Zab];omega) P1.out (po:=2) (n:=x.link.dst) rfl relT 0 1024 0 qO ⟨f.1,f.2,qO,qO⟩).mono ?_;rintro e t ⟨rfl,b⟩;rw [show x.link.dst+((0:Nat):Int)=x.link.dst by omega] at b;have p:=qH b;clear b;go_wp2;go_end0;exact ⟨rfl,by rw [<- Yak];exact m.trans N1 p⟩
theorem Zqf {w:World} {B c r g:Nat} {v:Value} {bs:List UInt8} {x:R1} (h:CW w B c r v bs) (hl:bs.length<=500) (hp:Blk w g 124 x.cells) (h1:inP x.link.sprev (-1) 2048=true) (h2:inP x.link.snext (-1) 2048=true) (h3:inP x.link.dprev (-1) 2048=true) (h4:inP x.link.dnext (-1) 2048=true) :
 Calls Tryz.prog 156 #[.pointer (some ⟨c,0,none⟩),.pointer (some ⟨g,0,none⟩)] w fun e w'=>e=.returned (.tuple #[])/\CWon w B c r v (bs++(ptrB x.link.sprev++(ptrB x.link.snext++(ptrB x.link.dprev++ptrB x.link.dnext)))) w':=by
 have d:=qH h;have G:=qH hp;have y:=qH (And.intro h1 (And.intro h2 (And.intro h3 h4)));clear h hp h1 h2 h3 h4;go_enter Tryz.func156,Tryz.ntmps156;have H:=((Yaa (fun _=>False) w).alloc (.cells #[.pointer (some ⟨g,3,none⟩),.pointer (some ⟨g,5,none⟩),.pointer (some ⟨g,4,none⟩),.pointer (some ⟨g,6,none⟩)] 176)).drew;have i:Hid (Blk (w.alloc (.cells #[.pointer (some ⟨g,3,none⟩),.pointer (some ⟨g,5,none⟩),.pointer (some ⟨g,4,none⟩),.pointer (some ⟨g,6,none⟩)] 176)).drew w.heap.size 176 #[.pointer (some ⟨g,3,none⟩),.pointer (some ⟨g,5,none⟩),.pointer (some ⟨g,4,none⟩),.pointer (some ⟨g,6,none⟩)]):=qH (Yad w _ _);have b:=qH H;clear H;go_upto_region 0 with fail;go_region;generalize World.drew (w.alloc (.cells #[.pointer (some ⟨g,3,none⟩),.pointer (some ⟨g,5,none⟩),.pointer (some ⟨g,4,none⟩),.pointer (some ⟨g,6,none⟩)] 176))=S at *;generalize w.heap.size=z at *;have A:176≠237/\176≠244/\5≠176:=qD;have I:=qH (show CWon w B c r v bs S from ⟨⟨v,⟨d.cod.same b.out,d.wtr.same b.out⟩,.inl rfl⟩,b.mono fun _ _ f=>f.elim⟩);have C:=qH (show CW S B c r v bs from ⟨d.cod.same b.out,d.wtr.same b.out⟩);have L:=qH (G.same b);clear d G b;go_wp2_with fail;refine wp_loop_rounds 5 ?_;have t0:=i.c0;rw [YbL];go_wp2_with fail;refine (Zdl C (by first | omega | (simp only [Yaf,ZaC];omega)) L (n:=x.link.sprev) rfl relT 2048 qO y.1).mono ?_;rintro e w1 ⟨rfl,s⟩;obtain ⟨T,U,V⟩:=s.ex;have j:=qH (s.blk C i A);have P1:=qH (s.blk C L relT);have M:=qH (I.trans (.inl rfl) s);have k:Hid (T.ownBlock=v.ownBlock\/∃ g,T.ownBlock=some g/\w.heap.size<=g):=qH (by
  rcases V with n | ⟨g,n,m⟩
  · rw [n];exact .inl rfl
  exact .inr ⟨g,n,Yaj I.upd.size m⟩)
 have D:=qH U;clear s U V t0;go_wp2_with fail;have t1:=j.c1;rw [YbL];go_wp2_with fail;refine (Zdl D (by first | omega | (simp only [Yaf,ZaC];omega)) P1 (n:=x.link.snext) rfl relT 2048 qO y.2.1).mono ?_;rintro e w2 ⟨rfl,t⟩;obtain ⟨W,X,Y⟩:=t.ex;have l:=qH (t.blk D j A);have N:=qH (t.blk D P1 relT);have O:=qH (M.trans k t);have o:Hid (W.ownBlock=v.ownBlock\/∃ g,W.ownBlock=some g/\w.heap.size<=g):=qH (by
  rcases Y with n | ⟨g,n,m⟩
  · rw [n];exact k
  exact .inr ⟨g,n,Yaj M.upd.size m⟩)
 have E:=qH X;clear t X Y t1;go_wp2_with fail;have t2:=l.c2;rw [YbL];go_wp2_with fail;refine (Zdl E (by first | omega | (simp only [Yaf,ZaC];omega)) N (n:=x.link.dprev) rfl relT 2048 qO y.2.2.1).mono ?_;rintro e w3 ⟨rfl,u⟩;obtain ⟨Z,c3,n3⟩:=u.ex;have p:=qH (u.blk E l A);have P:=qH (u.blk E N relT);have R:=qH (O.trans o u);have q:Hid (Z.ownBlock=v.ownBlock\/∃ g,Z.ownBlock=some g/\w.heap.size<=g):=qH (by
  rcases n3 with n | ⟨g,n,m⟩
  · rw [n];exact o
  exact .inr ⟨g,n,Yaj O.upd.size m⟩)
 have F:=qH c3;clear u c3 n3 t2;go_wp2_with fail;have t3:=p.c3;rw [YbL];go_wp2_with fail;refine (Zdl F (by first | omega | (simp only [Yaf,ZaC];omega)) P (n:=x.link.dnext) rfl relT 2048 qO y.2.2.2).mono ?_;rintro e w4 ⟨rfl,a⟩;obtain ⟨v4,c4,n4⟩:=a.ex;have a0:=qH (a.blk F p A);have P4:=qH (a.blk F P relT);have K4:=qH (R.trans q a);have a1:Hid (v4.ownBlock=v.ownBlock\/∃ g,v4.ownBlock=some g/\w.heap.size<=g):=qH (by
  rcases n4 with n | ⟨g,n,m⟩
  · rw [n];exact q
  exact .inr ⟨g,n,Yaj R.upd.size m⟩)
 have C4:=qH c4;clear a c4 n4 t3;go_wp2_with fail;rw [YbL];go_wp2;go_end0;have a:=K4.out;simp only [Yak] at a;exact ⟨rfl,a⟩
theorem ZuJ {w:World} {B c r g:Nat} {v:Value} {x:R1} (h:CW w B c r v []) (hp:Blk w g 124 x.cells) (hx:Zdw x=true) :
 Calls Tryz.prog 108 #[.pointer (some ⟨c,0,none⟩),.pointer (some ⟨g,0,none⟩)] w fun e w'=>e=.returned (.tuple #[])/\CWon w B c r v (relB x) w':=by
 unfold Zdw ZfL at hx;simp only [Yay] at hx;obtain ⟨⟨p,q,s,t,u,y⟩,z,A⟩:=hx;have a:=qH (And.intro p (And.intro q (And.intro s (And.intro t (And.intro u (And.intro y (And.intro z A)))))));have i:=qH h;have j:=qH hp;clear h hp p q s t u y z A;go_enter Tryz.func108,Tryz.ntmps108;go_wp2_with fail;refine (Ztx i (by simp) j.out a.1 a.2.1).mono ?_;rintro e U ⟨rfl,b⟩;obtain ⟨V,C,D⟩:=b.ex;have P1:=qH (b.blk i j relT);have L:=qH b;have N1:=qH D;have l:=qH C;clear b C D;go_wp2_with fail;refine (ZrR (po:=7) l (by simp only [Yaf,YaS,Zab];omega) P1.out (n:=x.type) rfl relT a.2.2.2.2.2.2.1).mono ?_;rintro e W ⟨rfl,d⟩;obtain ⟨X,E,F⟩:=d.ex;have m:=qH (d.blk l P1 relT);have M:=qH d;have N:=qH F;have o:=qH E;clear d E F;go_wp2_with fail;refine (Zqf o (by simp only [Yaf,YaS,Zab];omega) m.out a.2.2.1 a.2.2.2.1 a.2.2.2.2.1 a.2.2.2.2.2.1).mono ?_;rintro e Y ⟨rfl,f⟩;obtain ⟨Z,G,H⟩:=f.ex;have O:=qH (f.blk o m relT);have P:=qH f;have R:=qH H;have S:=qH G;clear f G H;go_wp2_with fail;refine (Zdl (po:=8) S (by simp only [Yaf,YaS,Zab,ZaC];omega) O.out (n:=x.prop) rfl relT 65536 qO a.2.2.2.2.2.2.2).mono ?_;rintro e w4 ⟨rfl,I⟩;have T:=qH I;clear I;go_wp2;go_end0;have k:=L.trans N1.out (M.trans N (P.trans R T));simp only [YaK,Yak] at k;exact ⟨rfl,k⟩
end
end Go.Proofs.YtmkjfhnlnhceiaaGreatDoor
