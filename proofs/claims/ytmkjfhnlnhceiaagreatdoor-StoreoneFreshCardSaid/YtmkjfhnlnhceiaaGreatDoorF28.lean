/- Lemmas: walks and plain laws. -/
import Derived.Test.YtmkjfhnlnhceiaaGreatDoorF26
set_option maxRecDepth 100000
set_option maxHeartbeats 16000000
namespace Go.Proofs.YtmkjfhnlnhceiaaGreatDoor
variable {k i t f m low j B g n c:Nat} {nv v:Value} {s:ByteArray} {cs:Array Value} {w:World} {d:List UInt8}
section
open Go.RowKit
def BuP.setT (q:BuP) (k t f m:Nat) (nv v:Value) (l:List BS) (low:Nat):BuP :=
 ⟨fun i=>if i=k then t else q.t i,fun i=>if i=k then f else q.f i,fun i=>if i=k then m else q.m i,fun i=>if i=k then nv else q.nv i,fun i=>if i=k then v else q.v i,fun i=>if i=k then l else q.l i,fun i=>if i=k then low else q.low i⟩
def BuP.p (q:BuP) (i:Nat):Nat:=if i<3 then q.t i else q.f i
def ptrK (q:BuP) (k i:Nat):Value:=if i<k then .pointer (some ⟨q.p i,0,none⟩) else .pointer none
def QE (q:BuP) (k:Nat):Array Value:=#[ptrK q k 0,ptrK q k 1,ptrK q k 2,ptrK q k 3,ptrK q k 4,ptrK q k 5,ptrK q k 6,.slice none 0 0,.map none]
theorem ZsQ (q:BuP) (hk:k<7):(QE q k)[k]?=some (.pointer none):=by
 have e:∀ i,ptrK q i i=.pointer none:=fun i=>aA (JH i);obtain rfl | rfl | rfl | rfl | rfl | rfl | rfl:k=0\/k=1\/k=2\/k=3\/k=4\/k=5\/k=6:=qO
 all_goals first | exact tB some (e 0) | exact tB some (e 1) | exact tB some (e 2) | exact tB some (e 3) | exact tB some (e 4) | exact tB some (e 5) | exact tB some (e 6)
theorem Zrb (q:BuP) (u:Value) (hk:k<7):((QE q k).setIfInBounds k u)[k]?=some u:=by rw [Array.getElem?_setIfInBounds,gA rfl,gA (show k<(QE q k).size from (show k<9 by omega))]
theorem ZsR {q q':BuP} (h:∀ i,i<k->q'.p i=q.p i) (hi:i≠k):ptrK q k i=ptrK q' (k+1) i:=by
 unfold ptrK;by_cases a:i<k
 · rw [gA a,gA qO,h i a]
 rw [aA a,aA qO]
theorem Zrc {q q':BuP} (hk:k<7) (h:∀ i,i<k->q'.p i=q.p i):(QE q k).setIfInBounds k (.pointer (some ⟨q'.p k,0,none⟩))=QE q' (k+1):=by
 have e:.pointer (some ⟨q'.p k,0,none⟩)=ptrK q' (k+1) k:=(gA (Nat.lt_succ_self k)).symm;rw [e];have f:=fun i (a:i≠k)=>ZsR (q:=q) h a;obtain rfl | rfl | rfl | rfl | rfl | rfl | rfl:k=0\/k=1\/k=2\/k=3\/k=4\/k=5\/k=6:=qO
 · unfold QE;rw [f 1 qD,f 2 qD,f 3 qD,f 4 qD,f 5 qD,f 6 qD];rfl
 · unfold QE;rw [f 0 qD,f 2 qD,f 3 qD,f 4 qD,f 5 qD,f 6 qD];rfl
 · unfold QE;rw [f 0 qD,f 1 qD,f 3 qD,f 4 qD,f 5 qD,f 6 qD];rfl
 · unfold QE;rw [f 0 qD,f 1 qD,f 2 qD,f 4 qD,f 5 qD,f 6 qD];rfl
 · unfold QE;rw [f 0 qD,f 1 qD,f 2 qD,f 3 qD,f 5 qD,f 6 qD];rfl
 · unfold QE;rw [f 0 qD,f 1 qD,f 2 qD,f 3 qD,f 4 qD,f 6 qD];rfl
 unfold QE;rw [f 0 qD,f 1 qD,f 2 qD,f 3 qD,f 4 qD,f 5 qD];rfl
structure BldS (w wr:World) (B b:Nat) (q:BuP) (ns:Nat->List ByteArray) (k:Nat):Prop where
 up:Upd (fun x=>x=b) w wr
 blk:Blk wr b 73 (QE q k)
 tb:∀ i,i<3->i<k->PT wr B (q.t i) (q.f i) (q.m i) (kdB i) 1 (ns i).length (q.low i) (q.v i) (q.nv i) (q.l i) (ns i)
 rc:∀ i,i<3->i<k->(q.l i).map BS.rc=(ns i).map fun s=>some (tokD s)
 fl:∀ i,i<7->i<k->PF wr B (q.f i) (kdB i) 1 (zdB i) (q.v i) (q.l i) (q.low i)
 nil:∀ i,3<=i->i<k->q.l i=[]
 ap:∀ i j,i<k->j<k->i≠j->ApF (q.f i) (q.v i) (q.f j) (q.v j)
section
variable {w wr wx wy:World} {B b H k:Nat} {q:BuP} {ns:Nat->List ByteArray}
theorem BldS.bum (h:BldS w wr B b q ns 7):BuM wr B q ns:=⟨fun i a=>h.tb i a qO,fun i a=>h.fl i a a,h.ap⟩
theorem wO:Oth 73:=⟨qD,qD,qD,qD,qD⟩
theorem BldS.add (h:BldS w wr B b q ns k) (hk:k<7) (hB:B<=wr.heap.size) {l:List BS} (hu:Upd (fun x=>x=b\/wr.heap.size<=x) wr wx)
 (I:Blk wx b 73 ((QE q k).setIfInBounds k (.pointer (some ⟨if k<3 then t else f,0,none⟩)))) (hf:PF wx wr.heap.size f (kdB k) 1 (zdB k) v l low)
 (ht:k<3->PT wx wr.heap.size t f m (kdB k) 1 (ns k).length low v nv l (ns k)/\l.map BS.rc=(ns k).map fun s=>some (tokD s)) (hn:3<=k->l=[]):BldS w wx B b (q.setT k t f m nv v l low) ns (k+1):=by
 have d:Upd (fun x=>x=b) wr wx:=hu.mono fun x A C=>C.elim id fun e=>absurd A qO;have o:∀ {i},i<k->∀ g,(g=q.f i\/(q.v i).ownBlock=some g)->g<wr.heap.size:=fun {i} a g z=>by
  have u:=h.fl i qO a;rcases z with rfl | e
  · exact u.blk.lt
  obtain ⟨G,D⟩:=LA u.own.row e;exact D.lt
 have r:∀ {i},i<k->ApF (q.f i) (q.v i) f v:=fun {i} a=>⟨fun e=>by have:=o a _ (.inl rfl);have:=hf.base;omega,fun g z e=>by have u:=o a g (.inr z);have F:=(hf.own.row.lt g e).1;omega⟩
 refine ⟨h.up.trans d qf,?_,fun i c a=>?_,fun i c a=>?_,fun i E a=>?_,fun i c a=>?_,fun i j a H n=>?_⟩
 · have e:(if k<3 then t else f)=(q.setT k t f m nv v l low).p k:=by unfold BuP.p BuP.setT;simp only [lG]
   rw [e] at I;rwa [Zrc hk fun i a=>by unfold BuP.p BuP.setT;simp only [aA (Nat.ne_of_lt a)]] at I
 · by_cases e:i=k
   · subst e;simp only [BuP.setT,lG];exact (ht c).1.lower hB
   simp only [BuP.setT,aA e];exact (h.tb i c qO).turn h.blk wO d
 · by_cases e:i=k
   · subst e;simp only [BuP.setT,lG];exact (ht c).2
   simp only [BuP.setT,aA e];exact h.rc i c qO
 · by_cases e:i=k
   · subst e;simp only [BuP.setT,lG];exact hf.lower hB
   simp only [BuP.setT,aA e];exact (h.fl i E qO).turn h.blk wO d
 · by_cases e:i=k
   · subst e;simp only [BuP.setT,lG];exact hn c
   simp only [BuP.setT,aA e];exact h.nil i c qO
 simp only [BuP.setT];by_cases e:i=k
 · subst e;rw [gA rfl,gA rfl,aA (fun e=>n e.symm),aA (fun e=>n e.symm)];exact (r qO).symm
 rw [aA e,aA e];by_cases y:j=k
 · subst y;rw [gA rfl,gA rfl];exact r qO
 rw [aA y,aA y];exact h.ap i j qO qO n
theorem BldS.new (h:BldS w wr B b q ns k) (h3:3<=k) (hk:k<7) (hB:B<=wr.heap.size) (hf:PF wx wr.heap.size f (kdB k) 1 (zdB k) (.slice none 0 0) [] 0) (hs:Same wr wx):
 BldS w (wx.setCell ⟨b,k,none⟩ (.pointer (some ⟨f,0,none⟩))) B b (q.setT k 0 f 0 undef (.slice none 0 0) [] 0) ns (k+1):=by
 have a:=h.blk.same hs;have c:=(eA (fun x=>x=b) wx).put1 (i:=k) (.pointer (some ⟨f,0,none⟩));refine h.add hk hB (((hs.mono qe).trans c fun _ _ e=>.inl e)) ?_ (hf.turn a wO c) (fun h=>absurd h qO) fun _=>rfl;rw [aA (show ¬ k<3 by omega)];exact a.put k _
theorem Zuy {l:List ByteArray} (hn:l.Nodup) (hs:l[j]?=some s):s ∉ l.take j:=fun d=>by
 have a:(l.take j++l.drop j).Nodup:=by rw [tF];exact hn
 obtain ⟨b,e⟩:=IA.1 hs;have c:s∈l.drop j:=by rw [kE b,e];simp
 exact (zK.1 a).2.2 s d s c rfl
structure InI (wr wx:World) (b t f m k:Nat) (cs:Array Value) (nm:List ByteArray) (vN:Value) (j:Nat):Prop where
 up:Upd (fun x=>x=b\/wr.heap.size<=x) wr wx
 blk:Blk wx b 73 cs
 row:wx.ownsRow wr.heap.size 9 1 vN nm.length (nm.map Value.string)
 ex:∃ low v nv l,PT wx wr.heap.size t f m (kdB k) 1 (nm.take j).length low v nv l (nm.take j)/\(∀ x∈l,x.A≠none)/\l.map BS.rc=(nm.take j).map (fun s=>some (tokD s))/\∀ g,vN.ownBlock=some g->¬ II t f m v nv g
theorem InI.next {w:Nat} {nm:List ByteArray} {vN v' nv':Value} {l l':List BS} (h:InI wr wx b t f m k cs nm vN j) (hb:b<wr.heap.size) (hs:nm[j]?=some s) (u:PT wx wr.heap.size t f m (kdB k) 1 (nm.take j).length low v nv l (nm.take j))
 (z:l.map BS.rc=(nm.take j).map (fun s=>some (tokD s))) (y:∀ g,vN.ownBlock=some g->¬ II t f m v nv g) (hp:PT wy wr.heap.size t f m (kdB k) 1 ((nm.take j).length+1) w v' nv' l' (nm.take j++[s])) (ha:∀ x∈l',x.A≠none) (hr:l'.map BS.rc=l.map BS.rc++[some (tokD s)])
 (hu:Upd (II t f m v nv) wx wy) (hn:NewB wx v v') (B:NewB wx nv nv'):InI wr wy b t f m k cs nm vN (j+1):=by
 have i:∀ g,II t f m v nv g->wr.heap.size<=g:=fun g c=>by
  rcases c with rfl | rfl | rfl | e | e
  · exact u.base
  · exact u.file.base
  · exact u.mB
  · exact (u.file.own.row.lt g e).1
  exact (u.row.lt g e).1
 have n:nm.take (j+1)=nm.take j++[s]:=by rw [eD,hs];rfl
 refine ⟨h.up.trans hu fun g _ c=>.inr (i g c),h.blk.upd hu fun c=>by have:=i _ c;omega,GA h.row hu y,w,v',nv',l',?_,ha,?_,fun g c p=>?_⟩
 · rw [n,kA];exact hp
 · rw [n,hr,z,DB];rfl
 have o:g<wx.heap.size:=(h.row.lt g c).2;have a:=y g c;rcases p with e | e | e | e | e
 · exact a (.inl e)
 · exact a (.inr (.inl e))
 · exact a (.inr (.inr (.inl e)))
 · rcases hn with d | ⟨q,d,r⟩
   · exact a (.inr (.inr (.inr (.inl (d ▸ e)))))
   rw [d] at e;cases e;omega
 rcases B with d | ⟨q,d,r⟩
 · exact a (.inr (.inr (.inr (.inr (d ▸ e)))))
 rw [d] at e;cases e;omega
end
theorem Row.lk (w:World) (x:L1):Row (w.alloc (.cells x.cells.toArray 109)) (fun b=>b=w.heap.size) 7 (some ⟨w.heap.size,0,none⟩) 1 1 x.cells :=
 XF (jA w _ x.cells.toArray) rfl (lA _) (by simp [maxLen])
structure ChI (w7 wr:World) (b:Nat) (q:BuP) (vC vH:Value) (L:List L1):Prop where
 up:Upd (fun x=>x=b\/w7.heap.size<=x) w7 wr
 blk:Blk wr b 73 (q.cells vC vH)
 row:wr.ownsRow w7.heap.size 109 7 vC L.length (L.flatMap L1.cells)
def vM (w:World) (g p:Nat) (y:L1):World:=((((((w.setCell ⟨g,p,none⟩ (.bool y.live)).setCell ⟨g,p+1,none⟩ (.int .i64 y.src)).setCell ⟨g,p+2,none⟩ (.int .i64 y.dst)).setCell ⟨g,p+3,none⟩ (.int .i64 y.sprev)).setCell ⟨g,p+4,none⟩ (.int .i64 y.dprev)).setCell ⟨g,p+5,none⟩ (.int .i64 y.snext)).setCell ⟨g,p+6,none⟩ (.int .i64 y.dnext)
theorem mZ (w:World) (g p:Nat) (y:L1):Upd (fun k=>k=g) w (vM w g p y):=(((((((eA (fun k=>k=g) w).put1 _).put1 _).put1 _).put1 _).put1 _).put1 _).put1 _
theorem dL {M:List L1} {x y:L1} {u:Value} {p:Nat} (h:w.ownsRow B 109 7 (.slice (some ⟨g,0,none⟩) n c) n ((M.set i x).flatMap L1.cells)) (hi:i<M.length) (hj:j<7) (hp:p=i*7+j) (hy:y.cells=x.cells.set j u):
 (w.setCell ⟨g,p,none⟩ u).ownsRow B 109 7 (.slice (some ⟨g,0,none⟩) n c) n ((M.set i y).flatMap L1.cells):=by
 have a:=(ZK h (i:=i) (x:=x) (by rw [FG hi]) hj hy).2.2;rw [YM] at a;exact hp ▸ a
theorem Zuz {M:List L1} {x:L1} (y:L1) (h:w.ownsRow B 109 7 (.slice (some ⟨g,0,none⟩) n c) n (M.flatMap L1.cells)) (hx:M[i]?=some x):(vM w g (i*7) y).ownsRow B 109 7 (.slice (some ⟨g,0,none⟩) n c) n ((M.set i y).flatMap L1.cells):=by
 have a:=(IA.1 hx).1;have b:w.ownsRow B 109 7 (.slice (some ⟨g,0,none⟩) n c) n ((M.set i x).flatMap L1.cells):=by rw [show M.set i x=M by rw [<- (IA.1 hx).2];exact kS a];exact h
 have d:=dL (y:={ x with live:=y.live }) (j:=0) (p:=i*7) b a qD rfl rfl;have e:=dL (y:={ x with live:=y.live,src:=y.src }) (j:=1) (p:=i*7+1) d a qD rfl rfl;have f:=dL (y:={ x with live:=y.live,src:=y.src,dst:=y.dst }) (j:=2) (p:=i*7+2) e a qD rfl rfl;have k:=dL (y:={ x with live:=y.live,src:=y.src,dst:=y.dst,sprev:=y.sprev }) (j:=3) (p:=i*7+3) f a qD rfl rfl;have l:=dL (y:={ x with live:=y.live,src:=y.src,dst:=y.dst,sprev:=y.sprev,dprev:=y.dprev }) (j:=4) (p:=i*7+4) k a qD rfl rfl;have m:=dL (y:={ x with live:=y.live,src:=y.src,dst:=y.dst,sprev:=y.sprev,dprev:=y.dprev,snext:=y.snext }) (j:=5) (p:=i*7+5) l a qD rfl rfl;exact dL (y:=y) (j:=6) (p:=i*7+6) m a qD rfl rfl
section
variable {w7 wr wa wx w1:World} {B b c cnt hm i:Nat} {q:BuP} {vC vH v':Value} {L L':List L1} {ns:Nat->List ByteArray} {x:L1} {f:Int->Option Value}
theorem ChI.same (h:ChI w7 wr b q vC vH L) (hs:Same wr wx):ChI w7 wx b q vC vH L:=⟨h.up.same hs,h.blk.same hs,mA h.row hs⟩
theorem ChI.bum (h:ChI w7 wr b q vC vH L) (hM:BuM w7 B q ns) (hb:Blk w7 b 73 cs):BuM wr B q ns :=
 hM.turn hb wO (h.up.mono fun x a c=>c.elim id fun e=>absurd a qO)
theorem ChI.app (h:ChI w7 wr b q vC vH L) (hs:Same wr wa) (hg:Grew wa w7.heap.size 109 7 vC (L.length+1) (L.flatMap L1.cells++dC.cells) v' w1):ChI w7 (w1.setCell ⟨b,7,none⟩ v') b q v' vH (L++[dC]):=by obtain ⟨a,c,d⟩:=aH (i:=7) h.blk h.row qD hs hg;refine ⟨h.up.trans d fun x _ f=>f.imp id fun e=>(h.row.lt x e).1,a,?_⟩;rw [kA,jF];simpa using c
theorem ChI.put (h:ChI w7 wr b q (.slice (some ⟨g,0,none⟩) L.length c) vH L) (hx:L[i]?=some x) (y:L1):ChI w7 (vM wr g (i*7) y) b q (.slice (some ⟨g,0,none⟩) (L.set i y).length c) vH (L.set i y):=by
 refine ⟨h.up.trans (mZ _ _ _ _) fun k _ e=>.inr (e ▸ (h.row.lt g rfl).1),?_,?_⟩
 · rw [VF];exact h.blk.upd (mZ _ _ _ _) fun e=>h.blk.ne_own h.row qD (by rw [e];rfl)
 have:=Zuz y h.row hx;rwa [VF]
theorem ChI.map (h:ChI w7 wr b q vC vH L) (hM:MpI wr hm cnt f) (hl:w7.heap.size<=hm) (hu:Upd (fun k=>k=hm) wr wx):ChI w7 wx b q vC vH L :=
 ⟨h.up.trans hu fun k _ e=>.inr (e ▸ hl),h.blk.upd hu fun e=>hM.ne h.blk e.symm,GA h.row hu fun g a e=>by obtain ⟨d,c⟩:=LA h.row a;exact hM.ne c e.symm⟩
theorem ChI.thr (h:ChI w7 wr b q vC vH L) (hs:Same wr wa) (hr:wa.ownsRow wr.heap.size 109 7 v' L'.length (L'.flatMap L1.cells)):ChI w7 (wa.setCell ⟨b,7,none⟩ v') b q v' vH L':=by have a:=h.blk.same hs;refine ⟨(h.up.same hs).trans ((eA (fun k=>k=b) wa).put1 v') fun k _ e=>.inl e,a.put 7 v',GA (RA hr h.up.size) ((eA (fun k=>k=b) wa).put1 v') fun g c e=>a.ne_own hr qD (e ▸ c)⟩
theorem ChI.head (h:ChI w7 wr b q vC (.map none) L):ChI w7 ((wr.alloc (.map #[] 0)).setCell ⟨b,8,none⟩ (.map (some wr.heap.size))) b q vC (.map (some wr.heap.size)) L:=by have a:=h.same ((iA wr).alloc (.map #[] 0));refine ⟨a.up.trans ((eA (fun k=>k=b) _).put1 _) fun k _ e=>.inl e,a.blk.put 8 _,GA a.row ((eA (fun k=>k=b) _).put1 _) fun g c e=>a.blk.ne_own a.row qD (e ▸ c)⟩
end
theorem ZuA {L:List L1} {y:L1} (h:L.length<=i):(L++List.replicate (i+1-L.length) dC).set i y=(L++List.replicate (i-L.length) dC)++[y]:=by rw [show i+1-L.length=(i-L.length)+1 by omega,List.replicate_succ',<-vA];rw [List.set_append,aA (by rw [kA,aD];omega)];rw [kA,aD,show i-(L.length+(i-L.length))=0 by omega];rfl
theorem Zre {ns:List NA} {n:NA} {Lc L:List L1} {hs:List Int} (hx:ns[i]?=some n) (h:tD (ns.drop i) Lc=(L,hs.drop i)):
 hs[i]?=some (dE (OB Lc n.id))/\tD (ns.drop (i+1)) (if OB Lc n.id=[] then Lc else pC n.id (-1) (OB Lc n.id) Lc)=(L,hs.drop (i+1)):=by
 obtain ⟨a,f⟩:=IA.1 hx;have b:=kE a;rw [f] at b;rw [b,tD] at h;simp only [QI] at h;have c:=h.2;have d:(hs.drop i)[0]?=some (dE (OB Lc n.id)):=by rw [<- c];rfl
 rw [GM,IF] at d;refine ⟨d,Prod.ext h.1 ?_⟩;have e:=tB List.tail c;rw [xP,List.tail_drop] at e;exact e
end
section
theorem sU:∀ (k:Nat) (first:Bool) (i j:Nat) (a:List UInt8),(eC k first i a).length=(eC k true j a).length
 | 0,_,_,_,_=>rfl
 | k+1,first,i,j,a=>by
   rw [eC,eC];split
   · rfl
   rw [BA,BA,sU k false (i+1) 0,sU k false (j+1) 0]
theorem nZ:∀ (k:Nat) (first:Bool) (i:Nat) (a:List UInt8),25*(eC k first i a).length<=25+a.length
 | 0,_,_,_=>by simp [eC]
 | k+1,first,i,a=>by
   rw [eC];split
   · simp
   have:=nZ k false (i+1) (a.drop 25);rw [QA] at this;rw [BA];omega
def nBlk (d:List UInt8):Nat:=(eC d.length true 0 d).length
theorem zH (d:List UInt8) (i:Nat):(eC d.length true i d).length=nBlk d:=sU _ _ _ _ _
theorem SQ (d:List UInt8):0<nBlk d:=TY _ _ _ _
theorem ZvQ (d:List UInt8):25*nBlk d<=25+d.length:=nZ _ _ _ _
def dB:Nat->List (List UInt8)->List (List UInt8)
 | _,[]=>[]
 | o,d::ds=>eC d.length true o d++dB (o+nBlk d) ds
def nD:Nat->List (List UInt8)->List (Nat×List UInt8)
 | _,[]=>[]
 | o,d::ds=>(o,d)::nD (o+nBlk d) ds
theorem oZ:∀ (a b:List (List UInt8)) (o:Nat),dB o (a++b)=dB o a++dB (o+(dB o a).length) b
 | [],b,o=>by simp [dB]
 | d::a,b,o=>by rw [EB,dB,dB,oZ a b,vA,kA,zH,vK]
theorem TQ:∀ (a b:List (List UInt8)) (o:Nat),nD o (a++b)=nD o a++nD (o+(dB o a).length) b
 | [],b,o=>by simp [dB,nD]
 | d::a,b,o=>by rw [EB,nD,nD,TQ a b,EB,dB,kA,zH,vK]
section
variable {f:YA} {all:List (List UInt8)}
theorem tU (hf:f.recs=all.map some) (i:Nat):f.at_ i=all[i]?:=by unfold YA.at_;rw [hf,MA];cases all[i]? <;> rfl
theorem uU:∀ (n:Nat) (u:List Nat) (i:Nat) (l:List Nat),mD f n u i=.ok l->∀ x∈l,∃ d,f.at_ x=some d/\IC f d=true/\(JB d=1->x=i/\u=[])/\(u=[]->x=i->JB d=1)
 | 0,_,_,_,h=>by cases h
 | n+1,u,i,l,h=>by
   rw [mD] at h;by_cases p:i∈u
   · rw [gA p] at h;cases h
   rw [aA p] at h;cases hd:f.at_ i with
   | none=>rw [hd] at h;cases h
   | some d =>
     rw [hd] at h;simp only at h;by_cases m:(JB d=1)≠(u=[])\/IC f d=false
     · rw [gA m] at h;cases h
     rw [aA m] at h;have b:(JB d=1)=(u=[]):=uF.1 fun a=>m (.inl a);have o:IC f d=true:=by simpa using fun a=>m (.inr a)
     have q:∃ g,f.at_ i=some g/\IC f g=true/\(JB g=1->i=i/\u=[])/\(u=[]->i=i->JB g=1):=⟨d,hd,o,fun a=>⟨rfl,b ▸ a⟩,fun a _=>b ▸ a⟩
     cases hn:yC d with
     | none =>
       rw [hn] at h;simp only [uN] at h;subst h;intro x c;rw [QB] at c;subst c;exact q
     | some j =>
       rw [hn] at h;simp only at h;cases hr:mD f n (i::u) j with
       | error e=>rw [hr] at h;cases h
       | ok l' =>
         rw [hr] at h;simp only [uN] at h;subst h;intro x c;rcases TA.1 c with rfl | c
         · exact q
         obtain ⟨g,k,r,s,_⟩:=uU n (i::u) j l' hr x c;refine ⟨g,k,r,fun a=>(NJ _ _ (s a).2).elim,fun a t=>?_⟩;subst t;rw [hd] at k;injection k with k
         subst k;exact b ▸ a
variable {sg:List (List UInt8)}
theorem pZ (hf:f.recs=all.map some) (hl:all.length<=65536):∀ (sg:List (List UInt8)) (o:Nat) (i:List (List UInt8)),all=i++dB o sg->i.length=o->∀ p∈nD o sg,
 mD f (f.recs.length+1) [] p.1=.ok (List.range' p.1 (nBlk p.2))/\(List.range' p.1 (nBlk p.2)).flatMap (fun j=>match f.at_ j with | some d=>AF d | none=>[])=p.2
 | [],_,_,_,_,p,b=>by cases b
 | d::ds,o,i,he,ho,p,b=>by
   rw [dB] at he;have a:=tB List.length he;rw [kA,kA,zH] at a;have e:f.recs.length=all.length:=by rw [hf,nA]
   rcases TA.1 b with rfl | b
   · have h:=ZoK (f:=f) d.length true o d [] (f.recs.length+1) qO (fun j g c=>by rw [tU hf,he,WG qO,ho,IL,PI (IA.1 c).1];exact c) (by rw [zH];omega) (fun _ h=>by cases h) qS (fun h=>by cases h) (by rw [zH];omega)
     rw [zH] at h;exact h
   exact pZ hf hl ds (o+nBlk d) (i++eC d.length true o d) (by rw [he,vA]) (by rw [kA,zH,ho]) p b
theorem vU:∀ (sg:List (List UInt8)) (o:Nat),(nD o sg).flatMap (fun p=>List.range' p.1 (nBlk p.2))=List.range' o (dB o sg).length
 | [],_=>rfl
 | d::ds,o=>by rw [nD,iD,vU ds,dB,kA,zH];exact List.range'_append_1
theorem wU:∀ (sg:List (List UInt8)) (o:Nat),∀ p∈nD o sg,o<=p.1/\p.1<o+(dB o sg).length
 | [],_,p,a=>by cases a
 | d::ds,o,p,a=>by
   rw [dB,kA,zH];have b:=SQ d;rcases TA.1 a with rfl | a
   · simp only;omega
   have:=wU ds _ p a;omega
structure SegF (f:YA) (sg:List (List UInt8)):Prop where
 recs:f.recs=(dB 0 sg).map some
 size:f.size=32
 len:(dB 0 sg).length<=65536
theorem SegF.chain (h:SegF f sg) {p:Nat×List UInt8} (hp:p∈nD 0 sg):mD f (f.recs.length+1) [] p.1=.ok (List.range' p.1 (nBlk p.2))/\(List.range' p.1 (nBlk p.2)).flatMap (fun j=>match f.at_ j with | some d=>AF d | none=>[])=p.2 :=
 pZ h.recs h.len sg 0 [] rfl rfl p hp
theorem SegF.used (h:SegF f sg) (hi:i<(dB 0 sg).length):f.used i=true:=EI.2 ⟨(dB 0 sg)[i],by rw [tU h.recs,FA hi]⟩
theorem SegF.load (h:SegF f sg) {p:Nat×List UInt8} (hp:p∈nD 0 sg):WH f (p.1:Int)=.ok p.2:=by have c:=wU sg 0 p hp;obtain ⟨a,b⟩:=h.chain hp;unfold WH;rw [aA (by rw [h.size];simp),aA (by rw [XB,h.used qO];simp only [AK,WF];omega),XB,a];exact tB Except.ok b
theorem SegF.nlen (h:SegF f sg):f.recs.length=(dB 0 sg).length:=by rw [h.recs,nA]
theorem SegF.mem (_h:SegF f sg) {x:Nat} (hx:x<(dB 0 sg).length):∃ p∈nD 0 sg,x∈List.range' p.1 (nBlk p.2):=by
 have a:x∈List.range' 0 (dB 0 sg).length:=by rw [List.mem_range'_1];omega
 rw [<- vU] at a;exact ED.1 a
theorem SegF.sound (h:SegF f sg):AllS f:=fun i d b=>by
 have c:i<(dB 0 sg).length:=by rw [tU h.recs] at b;exact (IA.1 b).1
 obtain ⟨p,e,g⟩:=h.mem c;obtain ⟨k,a,j,_⟩:=uU _ _ _ _ (h.chain e).1 i g;rw [b] at a;injection a with a
 exact a ▸ j
theorem SegF.usedE (h:SegF f sg):rD f=List.range (dB 0 sg).length:=by show (List.range f.recs.length).filter f.used=_;rw [h.nlen];exact lS.2 fun x a=>h.used (vF.1 a)
theorem qZ (hS:∀ p∈nD 0 all,isS f p.1=true/\∀ x∈List.range' (p.1+1) (nBlk p.2-1),isS f x=false):∀ (sg:List (List UInt8)) (o:Nat),(∀ p∈nD o sg,p∈nD 0 all)->(List.range' o (dB o sg).length).filter (isS f)=(nD o sg).map Prod.fst
 | [],_,_=>rfl
 | d::ds,o,hm=>by
   have a:=hS (o,d) (hm _ (by simp [nD]));have c:=SQ d;have ih:=qZ hS ds (o+nBlk d) fun p c=>hm p (by rw [nD];exact IH _ c);rw [dB,nD,CB,kA,zH,<-List.range'_append_1,kI,ih];obtain ⟨m,b⟩:∃ m,nBlk d=m+1:=⟨nBlk d-1,qO⟩
   rw [b] at a ⊢;rw [List.range'_succ,BK,gA a.1,pP.2 fun x e=>by simp [a.2 x e]];rfl
theorem SegF.startE (h:SegF f sg):uE f=(nD 0 sg).map Prod.fst:=by
 show (rD f).filter (isS f)=_;rw [h.usedE,List.range_eq_range'];refine qZ (all:=sg) (fun p a=>?_) sg 0 fun p a=>a;have c:=uU _ _ _ _ (h.chain a).1;have k:=SQ p.2;refine ⟨?_,fun x e=>?_⟩
 · obtain ⟨d,b,_,_,g⟩:=c p.1 (List.mem_range'_1.2 ⟨lA _,qO⟩);unfold isS;rw [b];simp [g rfl rfl]
 rw [List.mem_range'_1] at e;obtain ⟨d,b,_,i,_⟩:=c x (List.mem_range'_1.2 ⟨qO,qO⟩);unfold isS;rw [b];simp only [WC,ne_eq];exact fun j=>by have:=(i j).1;omega
theorem SegF.check (h:SegF f sg):tH f=0:=by
 have b:=h.sound;have g:∀ p∈nD 0 sg,aC (bnx f) f.recs.length p.1=List.range' p.1 (nBlk p.2):=fun p a =>
  ((cU b _ [] p.1 _ (h.used (by have:=wU sg 0 p a;omega))).1 (h.chain a).1).2.1.symm
 have i:allL (bnx f) (uE f) f.recs.length=List.range (dB 0 sg).length:=by rw [h.startE,List.range_eq_range',<-vU];unfold allL;rw [jN];rw [List.flatMap_def,List.flatMap_def,kG fun p a=>g p a]
 have k:=(ZqL b).2 ⟨fun s j=>by rw [h.startE] at j;obtain ⟨p,a,rfl⟩:=fC.1 j;rw [g p a];exact (h.chain a).1,by rw [i];exact iS,fun c e=>by rw [i,<-h.usedE];exact e⟩
 unfold tH;rw [aA (by rw [h.size];simp),aA,gA k];rw [oS,uL];intro x l;cases hd:f.at_ x with
 | none=>simp
 | some d=>simp [b x d hd]
end
section
variable {l:List ByteArray}
theorem xO (h:s∈l):∃ i:Nat,jB l s=(i:Int)/\l[i]?=some s:=by
 unfold jB;cases hf:l.findIdx? (fun t=>decide (t=s)) with
 | none =>
   have:=List.findIdx?_eq_none_iff.1 hf s h;simp at this
 | some i =>
   obtain ⟨a,b,_⟩:=List.findIdx?_eq_some_iff_getElem.1 hf;exact ⟨i,rfl,by rw [FA a,MJ b]⟩
theorem pK (h:s∈l):FB l (jB l s)=s:=by obtain ⟨i,a,b⟩:=xO h;unfold FB;rw [a,aA qO,XB,b]
theorem ZuB {t:ByteArray} (hs:s∈l) (ht:t∈l) (e:jB l s=jB l t):s=t:=by rw [<- pK hs,e,pK ht]
theorem UQ (h:s∈l) (hl:l.length<=200):inP (jB l s) 0 200=true:=by obtain ⟨i,a,b⟩:=xO h;have:=(IA.1 b).1;rw [NB,a];omega
theorem ZvR (hl:l.Pairwise ltS) {t:ByteArray} (hs:s∈l) (ht:t∈l) (h:ltS s t):jB l s<jB l t:=by
 obtain ⟨i,k,c⟩:=xO hs;obtain ⟨j,m,b⟩:=xO ht;obtain ⟨d,e⟩:=IA.1 c;obtain ⟨f,g⟩:=IA.1 b;rcases Nat.lt_trichotomy i j with a | a | a
 · omega
 · subst a;rw [c] at b;injection b with b
   subst b;exact absurd h (QD.irr _)
 have:=WM.1 hl j i f d a;rw [e,g] at this;exact absurd (QD.tr h this) (QD.irr _)
theorem rZ:∀ (l:List Int) (last:Int),(∀ x∈l,last<x/\inP x 0 200=true)->l.Pairwise (fun a b=>a<b)->NG last l=true
 | [],_,_,_=>rfl
 | x::l,last,h,hp=>by rw [TE] at hp;have c:=h x qS;simp only [NG,kB,NC];exact ⟨c.2,c.1,rZ l x (fun y d=>⟨hp.1 y d,(h y (by simp [d])).2⟩) hp.2⟩
theorem sZ {ls:List ByteArray} (hl:l.Pairwise ltS) (hn:l.length<=200) (hm:∀ s∈ls,s∈l) (hs:ls.Pairwise ltS) (h8:ls.length<=8):OG (ls.map (jB l))=true:=by
 unfold OG;rw [kB];refine ⟨by simpa using h8,rZ _ _ (fun x c=>?_) ?_⟩
 · obtain ⟨s,a,rfl⟩:=fC.1 c;have b:=UQ (hm s a) hn;exact ⟨by have:=(NB.1 b).1;omega,b⟩
 rw [SI];exact hs.imp_of_mem fun d e h=>ZvR hl (hm _ d) (hm _ e) h
end
theorem yO {e:List UInt8->Int}:∀ {l:List (Option (List UInt8))},sD e l=0↔∀ d,some d∈l->e d=0
 | []=>by simp [sD]
 | none::l=>by rw [sD,yO];simp
 | some d::l=>by
   rw [sD];by_cases h:e d=0
   · rw [aA (by simp [h]),yO];simp [h]
   rw [gA h];exact ⟨fun a=>absurd a h,fun a=>absurd (a d qS) h⟩
def segR (sg:List (List UInt8)):List (Option (List UInt8)):=(dB 0 sg).map some
theorem ZuC (sg:List (List UInt8)):(segR sg).length=(dB 0 sg).length:=nA _
theorem tZ (sg:List (List UInt8)) (d:List UInt8):dB 0 (sg++[d])=dB 0 sg++eC d.length true (dB 0 sg).length d:=by rw [oZ];simp [dB]
theorem uZ (sg:List (List UInt8)) (d:List UInt8):(dB 0 (sg++[d])).length=(dB 0 sg).length+nBlk d:=by rw [tZ,kA,zH]
theorem ZoR {sg:List (List UInt8)} (h:(dB 0 sg).length+nBlk d<=65536):iF (segR sg) d=(segR (sg++[d]),((dB 0 sg).length:Int)):=by unfold iF;rw [ZuC,zH,aA qO];unfold segR;rw [tZ,DB]
theorem ZvS {sg sgF:List (List UInt8)} (h:(sg++[d]) <+: sgF):((dB 0 sg).length,d)∈nD 0 sgF:=by obtain ⟨t,rfl⟩:=h;rw [TQ,TQ];simp [nD]
structure Met (n:Nat) (sg:List (List UInt8)) (mp mb:List Nat):Prop where
 len:mp.length=n
 lt:∀ x∈mp,x<n
 blt:∀ x∈mb,x<(dB 0 sg).length
 all:∀ q∈nD 0 sg,q.1∈mb
structure PsOk (keys:List ByteArray) (ps:List GPr):Prop where
 each:∀ p∈ps,p.key∈keys/\chk p.val=0/\p.val.Fits
 nodup:(ps.map GPr.key).Nodup
theorem PsOk.tail {keys:List ByteArray} {p:GPr} {ps:List GPr} (h:PsOk keys (p::ps)):PsOk keys ps:=⟨fun q a=>h.each q (by simp [a]),(lE.1 (by simpa using h.nodup)).2⟩
theorem ZwR {f:YA} {P:List (Option (List UInt8))} {t:List (Option (List UInt8))} (h:(P++some d::t) <+: f.recs):f.at_ P.length=some d:=by obtain ⟨u,a⟩:=h;unfold YA.at_;rw [<- a,vA,WG (lA _),SD];rfl
theorem ZsT {v:GVal} (h:chk v=0) (hk:v.kind<4):v=⟨v.kind,v.num,noText,[],[]⟩:=by
 cases FS h with
 | num=>rfl
 | text=>simp at hk
 | nums=>simp only at hk;omega
 | texts=>simp at hk
def eL (keys:List ByteArray) (P:List (Option (List UInt8))):Prop:=∀ x∈P,∃ d,x=some d/\d.length=19/\∃ y,getP d=some y/\FB keys y.key≠noText
theorem ZsU (s:St1) (k:Nat) (had:List Int) (last:Int) (mp mb:List Nat):MB s k had last (-1) mp mb=.ok ([],mp,mb):=by cases k <;> (rw [MB];exact gA rfl)
section
variable {keys:List ByteArray}
theorem vZ (a0:keys.length<=200) (a1:noText ∉ keys) {first:Nat} (a2:first+n<=65536):∀ (ps:List GPr) (i:Nat) (P:List (Option (List UInt8))) (sg:List (List UInt8)),P.length=first+i->n=i+ps.length->PsOk keys ps ->
 25*(dB 0 sg).length+(25*ps.length+psW ps)<=1638400 ->
 ∃ P2 sg2,xG keys first n i ps P (segR sg)=(P++P2,segR (sg++sg2))/\P2.length=ps.length/\25*(dB 0 (sg++sg2)).length<=25*(dB 0 sg).length+(25*ps.length+psW ps) /\
  eL keys P2 /\
  (∀ (s:St1) (sgF:List (List UInt8)),s.keys=keys->SegF s.blobs sgF->(P++P2) <+: s.props.recs->(sg++sg2) <+: sgF->∀ k had mp mb,ps.length<=k->(∀ p∈ps,jB keys p.key ∉ had)->Met P.length sg mp mb ->
    ∃ mp' mb',MB s k had (if 0<i then ((first+i-1:Nat):Int) else -1) (if ps=[] then -1 else ((first+i:Nat):Int)) mp mb=.ok (ps,mp',mb')/\Met (P.length+ps.length) (sg++sg2) mp' mb')
 | [],i,P,sg,hP,hn,hps,hr=>⟨[],[],by simp [xG],rfl,by rw [ZC];exact Nat.le_add_right _ _,by simp [eL],fun _ _ _ _ _ _ k had mp mb _ _ h=>⟨mp,mb,by rw [gA rfl,ZsU],by simpa using h⟩⟩
 | p::ps,i,P,sg,hP,hn,hps,hr=>by
   obtain ⟨v,D,S⟩:=hps.each p qS;rw [VT,BA] at hr;rw [BA] at hn;have hz:=QJ D;obtain ⟨a,b,Y,Z,w⟩:∃ (a:List (List UInt8)) (b:Int),(if 3<p.val.kind then iF (segR sg) (enc p.val) else (segR sg,-1))=(segR (sg++a),b) /\
    25*(dB 0 (sg++a)).length<=25*(dB 0 sg).length+(25+(enc p.val).length) /\
    ((p.val.kind<4/\a=[]/\b = -1)\/(¬ p.val.kind<4/\a=[enc p.val]/\b=((dB 0 sg).length:Int))):=by
    by_cases f:p.val.kind<4
    · exact ⟨[],-1,by rw [aA qO,ZC],by rw [ZC];omega,.inl ⟨f,rfl,rfl⟩⟩
    have E:=ZvQ (enc p.val);exact ⟨[enc p.val],_,by rw [gA qO,ZoR qO],by rw [uZ];omega,.inr ⟨f,rfl,rfl⟩⟩
   obtain ⟨x,j⟩:∃ x:P1,x=⟨jB keys p.key,p.val.kind,if 3<p.val.kind then 0 else p.val.num,b,if 0<i then ((first+i-1:Nat):Int) else -1,if i+1<n then ((first+i+1:Nat):Int) else -1⟩:=⟨_,rfl⟩
   have F:TD x=true:=by
    rw [j];unfold TD;simp only [kB];refine ⟨UQ v a0,NB.2 qO,?_,NB.2 (by split <;> omega),NB.2 (by split <;> omega)⟩;rcases w with ⟨f,_,rfl⟩ | ⟨f,_,rfl⟩
    · rw [gA f];rfl
    rw [aA f,gA qO,kB];exact ⟨rfl,NB.2 qO⟩
   have r:getP (FC x)=some x:=Zwv F fun E=>by rw [j] at E ⊢;simp only at E ⊢;rw [aA qO];exact S.num
   obtain ⟨P2,sg2,e1,e2,e3,e4,M⟩:=vZ a0 a1 a2 ps (i+1) (P++[some (FC x)]) (sg++a) (by rw [kA,hP];rfl) qO hps.tail qO;refine ⟨some (FC x)::P2,a++sg2,?_,by rw [BA,BA,e2],?_,?_,?_⟩
   · rw [xG];rw [Y];simp only;rw [<- j,e1,vA,vA];rfl
   · rw [VT,BA,<-vA];omega
   · intro y g;rcases TA.1 g with rfl | g
     · refine ⟨_,rfl,jT x,x,r,?_⟩;rw [j,pK v];exact fun e=>a1 (e ▸ v)
     exact e4 y g
   intro s sgF z T A o k had mp mb B l h;rw [BA] at B;obtain ⟨k,rfl⟩:∃ m,k=m+1:=⟨k-1,qO⟩
   have G:s.props.at_ P.length=some (FC x):=ZwR A;rw [<- vA] at o;have t:x.key=jB keys p.key:=by rw [j]
   have H:x.prev=if 0<i then ((first+i-1:Nat):Int) else -1:=by rw [j]
   have I:x.next=if i+1<n then ((first+i+1:Nat):Int) else -1:=by rw [j]
   have L:=lE.1 (by simpa using hps.nodup:(p.key::ps.map GPr.key).Nodup);have u:∃ d,val1 s x mb=.ok (p.val,d)/\(∀ y∈d,y<(dB 0 (sg++a)).length)/\∀ q∈nD 0 (sg++a),q.1∈d:=by
    rcases w with ⟨f,rfl,rfl⟩ | ⟨f,rfl,rfl⟩
    · refine ⟨mb,?_,by rw [ZC];exact h.blt,by rw [ZC];exact h.all⟩;have W:=ZsT D f;unfold val1;rw [j];simp only;rw [gA f,aA (show ¬ 3<p.val.kind by omega),<-W,D];simp
    have c:=ZvS (BN (VI _ _) o);refine ⟨(dB 0 sg).length::mb,?_,fun y g=>?_,fun q c=>?_⟩
    · unfold val1;rw [j];simp only;rw [aA f,T.load c];simp only;rw [ZtS D S];simp only;rw [aA (fun C=>absurd (h.blt _ C) (by rw [XB];omega)),aA qS,aA qS,XB]
    · rw [uZ];have:=SQ (enc p.val);rcases TA.1 g with rfl | g
      · omega
      have:=h.blt y g;omega
    rw [TQ] at c;rcases YB.1 c with c | c
    · exact IH _ (h.all q c)
    simp only [nD,QB] at c;subst c;simp
   obtain ⟨d,N,O,R⟩:=u;obtain ⟨mp',mb',U,V⟩:=M s sgF z T (by rw [vA];exact A) o k (jB keys p.key::had) (P.length::mp) d qO (fun q c=>by
    rw [TA,not_or];refine ⟨fun e=>L.1 ?_,l q (by simp [c])⟩;rw [<- ZuB (hps.each q (by simp [c])).1 v e];exact fD c) ⟨by rw [BA,h.len,kA];rfl,fun y g=>by
    rw [kA,GG];rcases TA.1 g with rfl | g
    · omega
    have:=h.lt y g;omega,O,R⟩
   refine ⟨mp',mb',?_,?_⟩
   · rw [aA (NJ _ _)];have M:tJ s had (if 0<i then ((first+i-1:Nat):Int) else -1) ((first+i:Nat):Int) mp mb=.ok (x,p.val,d):=by unfold tJ;rw [aA qO,XB,show s.props.at_ (first+i)=_ from hP ▸ G];simp only;rw [r];simp only;rw [aA (by rw [H];rintro (C | C);exact absurd (h.lt _ C) qO;exact C rfl),aA (by rw [t];exact l p qS),N]
     rw [MB,aA qO,M];simp only;rw [XB,<-hP];have X:x.next=if ps=[] then -1 else ((first+(i+1):Nat):Int):=by
      rw [I];cases ps with
      | nil=>rw [aA (by simp at hn;omega),gA rfl]
      | cons q ps=>rw [gA (by simp at hn;omega),aA (NJ _ _)];rfl
     rw [gA qO] at U;rw [X,t,show ((P.length:Nat):Int)=((first+(i+1)-1:Nat):Int) by omega,U];simp only;rw [z,pK v]
   rw [BA,<-vA,NM ps.length 1,<-vK];rw [kA] at V;exact V
end
end
end Go.Proofs.YtmkjfhnlnhceiaaGreatDoor
