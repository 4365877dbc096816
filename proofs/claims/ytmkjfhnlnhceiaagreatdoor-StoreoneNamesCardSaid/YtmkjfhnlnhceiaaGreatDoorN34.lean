/- Texts that the claim leans on: walks and plain laws, function by function. -/
import Derived.Test.YtmkjfhnlnhceiaaGreatDoorN26
import Derived.Test.YtmkjfhnlnhceiaaGreatDoorN33
set_option maxRecDepth 100000
set_option maxHeartbeats 16000000
namespace Go.Proofs.YtmkjfhnlnhceiaaGreatDoor
section
open Go.RowKit
attribute [local go_sem] Ybq
def BuP.bs (q:BuP):Bs1:=⟨(q.l 3).map BS.rc,(q.l 4).map BS.rc,(q.l 5).map BS.rc,(q.l 6).map BS.rc⟩
theorem BuM.farM {w:World} {B g n:Nat} {k:TypeId} {q:BuP} {ns:Nat->List ByteArray} {f:Lit->Option Value} (h:BuM w B q ns) (hm:MpK w k g n f):¬ BuS q g:=by
 rintro ⟨j,_,a,e | e⟩
 · exact hm.ne (h.fl j a).blk e
 obtain ⟨c,b⟩:=Zaf (h.fl j a).own.row e;exact hm.ne b rfl
theorem BuM.farO {w:World} {B B' k n:Nat} {e:TypeId} {q:BuP} {ns:Nat->List ByteArray} {v:Value} {xs:List Value} (h:BuM w B q ns) (ho:w.ownsRow B' e k v n xs) (h1:e≠171) (h2:39≠e):∀ g,v.ownBlock=some g->¬ BuS q g:=fun g a=>by obtain ⟨c,b⟩:=Zaf ho a;exact h.far b h1 h2
structure FiI (w:World) (B:Nat) (q:BuP) (ns:Nat->List ByteArray) (wr:World) (qr:BuP):Prop where
 m:BuM wr B qr ns
 n:BuN w q wr qr
 all:∀ x∈qr.l 6,x.A≠none
 tabs:∀ i,i<3->qr.l i=q.l i
section
variable {w wr wx wy wz:World} {B i K:Nat} {q qr qx qy qz:BuP} {ns:Nat->List ByteArray} {ps:List PR}
theorem FiI.same (h:FiI w B q ns wr qr) (hs:Same wr wx):FiI w B q ns wx qr:=⟨h.m.same hs,h.n.same hs,h.all,h.tabs⟩
theorem FiI.lay (h:FiI w B q ns wr qr) (k:LayI wr B qr ns ps ps.length wx qx):FiI w B q ns wx qx:=⟨k.m,h.n.trans k.n,k.all,fun i a=>(k.oth i qO qO).trans (h.tabs i a)⟩
theorem FiI.turn (h:FiI w B q ns wr qr) {g:Nat} {e:TypeId} {cs:Array Value} (hb:Blk wr g e cs) (he:Oth e) (hg:w.heap.size<=g) (hu:Upd (fun k=>k=g) wr wx):FiI w B q ns wx qr:=⟨h.m.turn hb he hu,h.n.new hu hg,h.all,h.tabs⟩
theorem FiI.put (h:FiI w B q ns wr qr) {j:Nat} {R:Recs} (hj:3<=j/\j≠6) (k:BuA wr B qr ns j R wx qx):FiI w B q ns wx qx:=⟨k.m,h.n.trans k.n,by rw [k.oth 6 hj.2.symm];exact h.all,fun i a=>(k.oth i qO).trans (h.tabs i a)⟩
theorem FiI.cells (h:FiI w B q ns wr qr) (c7 c8:Value):q.cells c7 c8=qr.cells c7 c8:=by unfold BuP.cells;rw [h.n.f,h.n.t]
theorem LayI.lay (h:LayI w B q ns ps ps.length wr qr):layP (ns 2) (ps.map PR.dat) q.bs.props q.bs.blobs=((qr.bs.props,qr.bs.blobs),if ps=[] then -1 else ((q.l 5).length:Int)):=by
 have a:=h.go;rw [YaB (Yae _)] at a;have e:(if ps.map PR.dat=[] then (-1:Int) else (((q.l 5).map BS.rc).length:Int))=if ps=[] then -1 else ((q.l 5).length:Int):=by
  rw [Yag];cases ps with
  | nil=>rfl
  | cons p ps=>rw [Yab (YdG _ _),YaF,Yab (YdG _ _)]
 show (ZgJ (ns 2) ((q.l 5).map BS.rc).length (ps.map PR.dat).length 0 (ps.map PR.dat) ((q.l 5).map BS.rc) ((q.l 6).map BS.rc),if ps.map PR.dat=[] then (-1:Int) else (((q.l 5).map BS.rc).length:Int))=_;rw [e,Yag,Yag,a];rfl
structure NdOk (ns:Nat->List ByteArray) (f:Int->Option Value) (x:ND) (hd:Int):Prop where
 head:f x.id=some (.int .i64 hd)
 id:0<=x.id/\x.id<65536
 props:∀ p∈x.props,ZrT (ns 2) p
 labs:∀ t∈x.labels,∃ i:Nat,idsF (ns 0) t=some (.int .i64 (i:Int))/\ZaL (ns 0) t=i/\t.size<=40
 nlab:x.labels.length<=8
 ok:∀ f:Int,-1<=f->f<65536->ZbT ⟨hd,f,x.labels.map (ZaL (ns 0))⟩=true
structure RlOk (ns:Nat->List ByteArray) (L:List L1) (x:RL):Prop where
 id:0<=x.id/\x.id<65536
 props:∀ p∈x.props,ZrT (ns 2) p
 type:∃ i:Nat,idsF (ns 1) x.type=some (.int .i64 (i:Int))/\ZaL (ns 1) x.type=i/\x.type.size<=40
 ok:∃ l,L[x.id.toNat]?=some l/\∀ f:Int,-1<=f->f<65536->Zdw ⟨l,ZaL (ns 1) x.type,f⟩=true
theorem Zqk {x:ND} {hd:Int} (k:LayI wr B qr ns x.props x.props.length wx qx)
 (a:BuA wy B qx ns 3 (putAt ((qx.l 3).map BS.rc) x.id.toNat (ZcZ ⟨hd,if x.props=[] then -1 else ((qr.l 5).length:Int),x.labels.map (ZaL (ns 0))⟩)) wz qz) (zs:List (Zaw×Int)) :
 ZgK (ns 0) (ns 2) ((x.dat,hd)::zs) qr.bs=ZgK (ns 0) (ns 2) zs qz.bs:=by
 rw [ZgK,show layP (ns 2) x.dat.props qr.bs.props qr.bs.blobs=_ from k.lay];congr 1;unfold BuP.bs;rw [a.at_,a.oth 4 qD,a.oth 5 qD,a.oth 6 qD,k.oth 3 qD qD,k.oth 4 qD qD];rfl
theorem Zql {x:RL} {l:L1} {L:List L1} (hl:L[x.id.toNat]?=some l) (k:LayI wr B qr ns x.props x.props.length wx qx)
 (a:BuA wy B qx ns 4 (putAt ((qx.l 4).map BS.rc) x.id.toNat (relB ⟨l,ZaL (ns 1) x.type,if x.props=[] then -1 else ((qr.l 5).length:Int)⟩)) wz qz) (rs:List GRel) :
 ZgL (ns 1) (ns 2) L (x.dat::rs) qr.bs=ZgL (ns 1) (ns 2) L rs qz.bs:=by
 rw [ZgL,show layP (ns 2) x.dat.props qr.bs.props qr.bs.blobs=_ from k.lay,show L[x.dat.id.toNat]?=some l from hl];congr 1;unfold BuP.bs;rw [a.at_,a.oth 3 qD,a.oth 5 qD,a.oth 6 qD,k.oth 3 qD qD,k.oth 4 qD qD];rfl
structure FiN (w:World) (B:Nat) (q:BuP) (ns:Nat->List ByteArray) (zs:List (ND×Int)) (T:Bs1) (K i:Nat) (wr:World) (qr:BuP):Prop where
 f:FiI w B q ns wr qr
 go:ZgK (ns 0) (ns 2) ((zs.drop i).map fun x=>(x.1.dat,x.2)) qr.bs=T
 cnt:(qr.l 5).length+((zs.drop i).map fun x=>x.1.props.length).sum=K
theorem FiN.next {wv:World} {zs:List (ND×Int)} {T:Bs1} {x:ND} {hd:Int} (h:FiN w B q ns zs T K i wr qr) (hx:zs[i]?=some (x,hd)) (k:LayI wv B qr ns x.props x.props.length wx qx) (hf:FiI w B q ns wz qz)
 (a:BuA wy B qx ns 3 (putAt ((qx.l 3).map BS.rc) x.id.toNat (ZcZ ⟨hd,if x.props=[] then -1 else ((qr.l 5).length:Int),x.labels.map (ZaL (ns 0))⟩)) wz qz):FiN w B q ns zs T K (i+1) wz qz:=by
 obtain ⟨c,f⟩:=Yaq.1 hx;have hd:=YbF c;rw [f] at hd;have b:=h.go;have d:=h.cnt;rw [hd,YaF] at b d;rw [Zqk k a] at b;refine ⟨hf,b,?_⟩;have e:=k.len (Yae _);rw [a.oth 5 qD,e];simp only [Ydr] at d;omega
theorem FiN.room {zs:List (ND×Int)} {T:Bs1} {x:ND} {hd:Int} (h:FiN w B q ns zs T K i wr qr) (hx:zs[i]?=some (x,hd)):(qr.l 5).length+x.props.length<=K:=by obtain ⟨a,c⟩:=Yaq.1 hx;have hd:=YbF a;rw [c] at hd;have b:=h.cnt;rw [hd,YaF] at b;simp only [Ydr] at b;omega
structure FiR (w:World) (B:Nat) (q:BuP) (ns:Nat->List ByteArray) (L:List L1) (rs:List RL) (T:Bs1) (K i:Nat) (wr:World) (qr:BuP):Prop where
 f:FiI w B q ns wr qr
 go:ZgL (ns 1) (ns 2) L ((rs.drop i).map RL.dat) qr.bs=T
 cnt:(qr.l 5).length+((rs.drop i).map fun x=>x.props.length).sum=K
theorem FiR.next {wv:World} {L:List L1} {rs:List RL} {T:Bs1} {x:RL} {l:L1} (h:FiR w B q ns L rs T K i wr qr) (hx:rs[i]?=some x) (hl:L[x.id.toNat]?=some l) (k:LayI wv B qr ns x.props x.props.length wx qx) (hf:FiI w B q ns wz qz)
 (a:BuA wy B qx ns 4 (putAt ((qx.l 4).map BS.rc) x.id.toNat (relB ⟨l,ZaL (ns 1) x.type,if x.props=[] then -1 else ((qr.l 5).length:Int)⟩)) wz qz):FiR w B q ns L rs T K (i+1) wz qz:=by
 obtain ⟨c,g⟩:=Yaq.1 hx;have d:=YbF c;rw [g] at d;have b:=h.go;have e:=h.cnt;rw [d,YaF] at b e;rw [Zql hl k a] at b;refine ⟨hf,b,?_⟩;have f:=k.len (Yae _);rw [a.oth 5 qD,f];simp only [Ydr] at e;omega
theorem FiR.room {L:List L1} {rs:List RL} {T:Bs1} {x:RL} (h:FiR w B q ns L rs T K i wr qr) (hx:rs[i]?=some x):(qr.l 5).length+x.props.length<=K:=by obtain ⟨a,d⟩:=Yaq.1 hx;have b:=YbF a;rw [d] at b;have c:=h.cnt;rw [b,YaF] at c;simp only [Ydr] at c;omega
end
structure LbI (wE wr:World) (rb:Nat) (c0 c1:Value) (xs:List Int) (k:Nat) (A:Option Addr) (c:Nat):Prop where
 up:Upd (fun b=>b=rb) wE wr
 blk:Blk wr rb 115 #[c0,c1,.slice A k c]
 row:wr.ownsRow wE.heap.size 3 1 (.slice A k c) k ((xs.take k).map (Value.int .i64))
theorem LbI.snoc {wE wr wa w9:World} {rb k c c9:Nat} {c0 c1:Value} {xs:List Int} {A A9:Option Addr} {y:Int} (h:LbI wE wr rb c0 c1 xs k A c) (hs:Same wr wa)
 (hg:Grew wa wE.heap.size 3 1 (.slice A k c) (k+1) ((xs.take k).map (Value.int .i64)++[.int .i64 y]) (.slice A9 (k+1) c9) w9) (hn:xs[k]?=some y):LbI wE (w9.setCell ⟨rb,2,none⟩ (.slice A9 (k+1) c9)) rb c0 c1 xs (k+1) A9 c9:=by
 obtain ⟨a,d,f⟩:=ZbC (i:=2) h.blk h.row qD hs hg;refine ⟨h.up.trans f fun b g e=>?_,a,?_⟩
 · rcases e with e | e
   · exact e
   have:=(h.row.lt b e).1;omega
 rw [Ybo,hn,YaG];exact d
theorem ZrV:Oth 115:=⟨qD,qD,qD,qD,qD⟩
theorem ZrW {w1 wz wE:World} {B rb xb:Nat} {q qx:BuP} {ns:Nat->List ByteArray} {c0 c1:Value} {cs:Array Value} (h:FiI w1 B q ns wz qx) (hb:Blk wz rb 115 #[.int .i64 0,.int .i64 0,.slice none 0 0]) (hr:w1.heap.size<=rb) (hx:Blk wz xb 56 cs)
 (he:((wz.setCell ⟨rb,0,none⟩ c0).setCell ⟨rb,1,none⟩ c1).setCell ⟨rb,2,none⟩ (.slice none 0 0)=wE):FiI w1 B q ns wE qx/\Blk wE rb 115 #[c0,c1,.slice none 0 0]/\Blk wE xb 56 cs:=by
 have a:Upd (fun k=>k=rb) wz wE:=by rw [<- he];exact (((Yaa (fun k=>k=rb) wz).put1 _).put1 _).put1 _
 refine ⟨h.turn hb ZrV hr a,?_,hx.upd a (hx.ne hb qD)⟩;rw [<- he];exact ((hb.put 0 c0).put 1 c1).put 2 (.slice none 0 0)
structure FiK (wr:World) (B b hm nC cnt:Nat) (AC:Option Addr) (cC:Nat) (L:List L1) (f:Int->Option Value) (q:BuP) (g:GR):Prop where
 blk:Blk wr b 73 (q.cells (.slice AC nC cC) (.map (some hm)))
 map:MpI wr hm cnt f
 ch:wr.ownsRow B 109 7 (.slice AC nC cC) nC (L.flatMap L1.cells)
 gr:RdG wr (fun b=>b<B) g
section
variable {w wr wx:World} {B b hm nC cnt cC:Nat} {AC:Option Addr} {L:List L1} {f:Int->Option Value} {q qr:BuP} {ns:Nat->List ByteArray} {g:GR}
theorem FiK.mv (h:FiK w B b hm nC cnt AC cC L f q g) (hM:BuM w B q ns) (hu:Upd (BuS q) w wr):FiK wr B b hm nC cnt AC cC L f q g :=
 ⟨h.blk.upd hu (hM.far h.blk qD qD),MpK.upd h.map hu (hM.farM h.map),Zae h.ch hu (hM.farO h.ch qD qD),h.gr.upd hu fun k c a=>by have:=(hM.ge a).1;omega⟩
theorem FiK.same (h:FiK w B b hm nC cnt AC cC L f q g) (hs:Same w wx):FiK wx B b hm nC cnt AC cC L f q g:=⟨h.blk.same hs,MpK.same h.map hs,Zaa h.ch hs,h.gr.same hs⟩
end
theorem Zoj (w:World) {B b hm nC cnt cC:Nat} {AC:Option Addr} {L:List L1} {f:Int->Option Value} {q:BuP} {ns:Nat->List ByteArray} {g:GR} {zs:List (ND×Int)} (h:BuM w B q ns) (hB:B<=w.heap.size) (hk:FiK w B b hm nC cnt AC cC L f q g)
 (hall:∀ x∈q.l 6,x.A≠none) (hz:zs.map Prod.fst=g.ns) (hN:∀ x∈zs,NdOk ns f x.1 x.2) (hR:∀ x∈g.rs,RlOk ns L x) (hK:(q.l 5).length+(zs.map fun x=>x.1.props.length).sum+(g.rs.map fun x=>x.props.length).sum<=65536) :
 Calls Tryz.prog 27 #[.pointer (some ⟨b,0,none⟩),g.agg] w fun e w'=>e=.returned (.tuple #[]) /\
  ∃ q',FiI w B q ns w' q'/\q'.bs=ZgL (ns 1) (ns 2) L (g.rs.map RL.dat) (ZgK (ns 0) (ns 2) (zs.map fun x=>(x.1.dat,x.2)) q.bs):=by
 obtain ⟨OR,ca⟩:∃ OR:Ending->World->Prop,(fun e w'=>e=.returned (.tuple #[])/\∃ q',FiI w B q ns w' q'/\q'.bs=ZgL (ns 1) (ns 2) L (g.rs.map RL.dat) (ZgK (ns 0) (ns 2) (zs.map fun x=>(x.1.dat,x.2)) q.bs))=OR:=⟨_,rfl⟩
 rw [ca];have cj:=qH ca;clear ca;obtain ⟨dq,AN,nN,cN,ao,AR,nR,cR⟩:=g;simp only at hz hR hK cj;have HM:=qH h;have HB:=qH hB;have HK:=qH hk;have bh:=qH hall;have HZ:=qH hz;have HN:=qH hN;have HR:=qH hR;have HC:=qH hK;have d3:=qH hk.gr.nodes.len;have d4:=qH hk.gr.rels.len;have dm:nN<=9223372036854775807:=by have s:=hk.gr.nodes.row.max;have h2:=hk.gr.nodes.row.le;unfold maxLen at s;simp only at s h2;omega
 have dn:nR<=9223372036854775807:=by have s:=hk.gr.rels.row.max;have h2:=hk.gr.rels.row.le;unfold maxLen at s;simp only at s h2;omega
 obtain ⟨T,hT⟩:∃ T,ZgK (ns 0) (ns 2) (zs.map fun x=>(x.1.dat,x.2)) q.bs=T:=⟨_,rfl⟩
 have HT:=qH hT;clear h hB hk hall hz hN hR hK hT;unfold GR.agg;simp only;go_enter Tryz.func27,Tryz.ntmps27;go_upto_region 2 with fail;have ck:=Yad w 26 #[.slice AN nN cN,.slice AR nR cR];have bl:=(Yaa (fun _=>False) w).alloc (.cells #[.slice AN nN cN,.slice AR nR cR] 26);have b3:Hid (B<=(w.alloc (.cells #[.slice AN nN cN,.slice AR nR cR] 26)).heap.size):=qH (Yaj HB bl.size);generalize w.alloc (.cells #[.slice AN nN cN,.slice AR nR cR] 26)=w1 at *;generalize w.heap.size=gB at *;have bm:=qH ck;have bn:=qH bl;clear ck bl;have ai:=qH (HM.same bn);have ap:=qH (HK.same bn);have d5:Hid (∀ k,k<B->¬ BuS q k):=qH fun k hk hs=>by have:=(ai.ge hs).1;omega
 obtain ⟨K1,cb⟩:∃ K1,(q.l 5).length+(zs.map fun x=>x.1.props.length).sum=K1:=⟨_,rfl⟩
 have aq:Hid (K1+(ao.map fun x=>x.props.length).sum<=65536):=qH (by rw [<- cb];exact HC);have cl:Hid (FiN w1 B q ns zs T K1 0 w1 q):=qH ⟨⟨ai,YeK _ _,bh,fun _ _=>rfl⟩,HT,cb⟩;have g0:=bm.c0;clear HC HM HK HB bh cb;go_wp2_with fail;clear g0;go_loopg [22] nN (fun g dh wr=>∃ i:Nat,nN-i=g/\i<=nN/\dh=.int .i64 (i:Int)/\Hid (∃ Z,FiN w1 B q ns zs T K1 i wr Z))
 case atStart=>exact ⟨0,rfl,Yah _,rfl,qH ⟨q,cl⟩⟩
 obtain ⟨i,rfl,hi,rfl,HI⟩:=hrel;by_cases ar:i<nN
 · obtain ⟨Z,P⟩:=HI.out;have hk:=ap.mv ai.out P.f.n.up;obtain ⟨bA,o,x,rfl,cc,_,hx,a7,p0,p1,p2⟩:=hk.gr.nodes.at_ (i:=i) ar;obtain ⟨⟨x',hd⟩,bd,di⟩:∃ y:ND×Int,zs[i]?=some y/\y.1=x:=by rw [<- HZ.out,Yau] at hx;exact YcJ.1 hx
   obtain rfl:x'=x:=di;have b4:=HN.out _ (Ybe bd);simp only at b4;have HX:=qH bd;have a8:=qH b4;have a1:=qH (P.room bd);have aj:=qH P;have cm:=qH hk;have a9:=qH (hk.gr.nodes.pro x' a7);have cn:=qH (ap.gr.nodes.lab x' a7);have co:x'.labels.length=x'.nL:=by have h9:=(ap.gr.nodes.lab x' a7).len;simpa using h9
   have au:=qH co;have d6:x'.nL<=8:=qt b4.nlab;have j1:(i:Int)<(nN:Int):=qO;clear P hk cc hx a7 b4 bd HI co;obtain ⟨b1,z,AL,nL,cL,props,AP,nP,cP⟩:=x';obtain ⟨id,rfl⟩:∃ id:Nat,b1=(id:Int):=⟨b1.toNat,by have:=a8.id.1;simp only at this;omega⟩
   simp only at p0 p1 p2 a9 cn a1 au d6;have av:id<65536:=by have:=a8.id.2;simp only at this;omega
   go_upto_region 4 with fail;have aa:=Yad wr 56 #[.int .i64 id,.slice AL nL cL,.slice AP nP cP];have V:=(Yaa (fun _=>False) wr).alloc (.cells #[.int .i64 id,.slice AL nL cL,.slice AP nP cP] 56);have cp:w1.heap.size<=wr.heap.size:=aj.f.n.up.size;generalize wr.alloc (.cells #[.int .i64 id,.slice AL nL cL,.slice AP nP cP] 56)=O at *;generalize wr.heap.size=xb at *;have a2:=qH aa;have cq:=qH V;have d7:=qH cp;have C:=qH (aj.f.same V);have G:=qH (cm.same V);have E:Hid (¬ BuS Z b/\¬ BuS Z xb/\¬ BuS Z hm):=qH ⟨C.m.far G.blk qD qD,C.m.far aa qD qD,C.m.farM G.map⟩;have ak:Hid (∀ (S:Nat->Prop) d,Upd S O d->¬ S b->¬ S xb->¬ S hm->d.cell? ⟨b,8,none⟩=some (.map (some hm))/\d.cell? ⟨xb,0,none⟩=some (.int .i64 (id:Int))/\d.cell? ⟨xb,2,none⟩=some (.slice AP nP cP)/\(Instr.lookup 71 (.map (some hm)) (.int .i64 (id:Int)) false).run Tryz.prog d=.ok (.int .i64 hd) d):=qH fun S d hu s h2 h3 =>
    ⟨(G.blk.upd hu s).cell 8,(a2.upd hu h2).cell 0,(a2.upd hu h2).cell 2,by have h4:=((MpI.upd G.map hu h3).look Zbp (Zec d) (i:=(id:Int)) qO).2;rw [a8.head] at h4;exact h4⟩
   obtain ⟨F,a0⟩:∃ F:Int,(if props=[] then -1 else ((Z.l 5).length:Int))=F:=⟨_,rfl⟩
   have R : -1<=F/\F<65536:=by
    have h5:=(C.m.fl 5 qD).len;have h6:=a1.out;have h7:=aq.out;rw [<- a0];cases props with
    | nil=>rw [Yac rfl];omega
    | cons p ps=>rw [Yab (YdG _ _)];simp only [Yao] at h6;omega
   have b5:=qH R;have bo:=qH a0;have U:Hid (∀ d,Same O d->Calls Tryz.prog 55 #[.pointer (some ⟨b,0,none⟩),.slice AP nP cP] d fun e w'=>e=.returned (.int .i64 F)/\∃ qx,LayI d B Z ns props props.length w' qx):=qH fun d hs=>by have s:=Zkt d (c7:=.slice AC nC cC) (c8:=.map (some hm)) (C.m.same hs) (Yaj b3 (Yaj C.n.up.size hs.size)) (by rw [<- C.cells];exact G.blk.same hs) ((a9.same cq).same hs) C.all a8.props (Yaj a1 (qh aq));unfold LayR at s;rw [a0] at s;exact s
   clear aa V cp a0 R p0 p1 p2;refine Zaj 13 (fun d=>d.cell? ⟨b,8,none⟩=some (.map (some hm))/\d.cell? ⟨xb,0,none⟩=some (.int .i64 (id:Int))/\d.cell? ⟨xb,2,none⟩=some (.slice AP nP cP)/\(Instr.lookup 71 (.map (some hm)) (.int .i64 (id:Int)) false).run Tryz.prog d=.ok (.int .i64 hd) d) (by kernel_rfl) (ak.out _ _ (Yaa (fun _=>False) O).drew (fun f=>f) (fun f=>f) (fun f=>f)) (fun a=>?_);refine ZbE ?_;refine ESt.br2 10 12 rfl rfl (fun K hK=>?_) (fun K hK=>?_)
   focus
    go_simp;have b6:Same O O.drew:=(Yaa _ O).drew;refine (U.out _ b6).mono ?_;rintro e w3 ⟨rfl,qx,hL⟩;have a3:Upd (BuS Z) O w3:=(b6.mono fun _ _ f=>f.elim).trans hL.n.up fun _ _ e=>e;have bp:=(C.same b6).lay hL;refine hK _ _ (ak.out _ _ a3 E.1 E.2.1 E.2.2) (fun a=>?_);clear hK K;refine ZbE ?_;refine Ybv 12 rfl (fun K hK=>?_);go_simp;have r:=Yad w3 115 #[.int .i64 0,.int .i64 0,.slice none 0 0];have b7:=(Yaa (fun _=>False) w3).alloc (.cells #[.int .i64 0,.int .i64 0,.slice none 0 0] 115);have aw:=bp.same b7;have ax:=(a2.upd a3 E.2.1).same b7;have W:w1.heap.size<=w3.heap.size:=bp.n.up.size;refine hK _ _ (ak.out _ _ (a3.same b7) E.1 E.2.1 E.2.2) (fun a=>?_);clear hK K b6;generalize w3.alloc (.cells #[.int .i64 0,.int .i64 0,.slice none 0 0] 115)=wz at *;obtain ⟨rb,b2⟩:∃ rb,w3.heap.size=rb:=⟨_,rfl⟩
    rw [b2] at r W ⊢;clear bp b7 a3;have c0:=r.c0;have bq:=r.c1;have bt:=r.c2;have f0:=r.frozen 0;have f1:=r.frozen 1;have f2:=r.frozen 2;refine Ybi rfl (fun K hK=>?_);go_simp;refine hK.out _ _ ?_;clear hK K a c0 bq bt f0 f1 f2;obtain ⟨wE,ag⟩:∃ wE,(((wz.setCell ⟨rb,0,none⟩ (.int .i64 hd)).setCell ⟨rb,1,none⟩ (.int .i64 F)).setCell ⟨rb,2,none⟩ (.slice none 0 0))=wE:=⟨_,rfl⟩
    rw [ag];have a4:=qH (ZrW aw r W ax ag);have cr:=qH W;have cs:Hid (∃ X Y,LayI X B Z ns props props.length Y qx):=qH ⟨_,_,hL⟩;clear ag aw r W ax hL b2
   rotate_left
   focus
    go_simp;have bi:=Yad O 115 #[.int .i64 0,.int .i64 0,.slice none 0 0];have al:=((Yaa (fun _=>False) O).alloc (.cells #[.int .i64 0,.int .i64 0,.slice none 0 0] 115)).drew;have ah:=bi.same (Yaa (fun _=>False) _).drew;refine hK.out _ _ (ak.out _ _ al (fun f=>f) (fun f=>f) (fun f=>f)) (fun a=>?_);clear hK K bi;generalize (O.alloc (.cells #[.int .i64 0,.int .i64 0,.slice none 0 0] 115)).drew=wn at *;have W:w1.heap.size<=O.heap.size:=C.n.up.size;obtain ⟨rb,b2⟩:∃ rb,O.heap.size=rb:=⟨_,rfl⟩
    rw [b2] at ah W ⊢;refine Ybv 10 rfl (fun K hK=>?_);go_simp;refine (U.out _ al).mono ?_;rintro e wz ⟨rfl,qx,hL⟩;have a3:Upd (BuS Z) O wz:=(al.mono fun _ _ f=>f.elim).trans hL.n.up fun _ _ e=>e;have aw:=(C.same al).lay hL;have ax:=a2.upd a3 E.2.1;have r:=ah.upd hL.n.up ((C.same al).m.far ah qD qD);refine hK.out _ _ (ak.out _ _ a3 E.1 E.2.1 E.2.2) (fun a=>?_);clear hK K;refine ZbE ?_;clear ah a3 al;have c0:=r.c0;have bq:=r.c1;have bt:=r.c2;have f0:=r.frozen 0;have f1:=r.frozen 1;have f2:=r.frozen 2;refine Ybi rfl (fun K hK=>?_);go_simp;refine hK.out _ _ ?_;clear hK K a c0 bq bt f0 f1 f2;obtain ⟨wE,ag⟩:∃ wE,(((wz.setCell ⟨rb,0,none⟩ (.int .i64 hd)).setCell ⟨rb,1,none⟩ (.int .i64 F)).setCell ⟨rb,2,none⟩ (.slice none 0 0))=wE:=⟨_,rfl⟩
    rw [ag];have a4:=qH (ZrW aw r W ax ag);have cr:=qH W;have cs:Hid (∃ X Y,LayI X B Z ns props props.length Y qx):=qH ⟨_,_,hL⟩;clear ag aw r W ax hL b2
   rotate_left
   all_goals
    clear ak U E cq a2 d7 a1 a9 G C cm;have x1:=a4.2.2.c1;go_wp2_with fail;clear x1;generalize wr=wo at *;have ct:Hid (LbI wE wE rb (.int .i64 hd) (.int .i64 F) (z.map (ZaL (ns 0))) 0 none 0):=qH ⟨Yaa _ _,a4.2.1,YaQ _ _ _ _⟩;go_loopg [41] nL (fun gh dj wr=>∃ (k:Nat) (A:Option Addr) (c:Nat),nL-k=gh/\k<=nL/\dj=.int .i64 (k:Int)/\Hid (LbI wE wr rb (.int .i64 hd) (.int .i64 F) (z.map (ZaL (ns 0))) k A c))
    case atStart=>exact ⟨0,none,0,rfl,Yah _,rfl,ct⟩
    obtain ⟨k,A,c,rfl,dr,rfl,HJ⟩:=hrel;have ab:=a4.1.turn a4.2.1 ZrV cr.out HJ.up;have a5:=ap.mv ai.out ab.n.up;have bu:=a4.2.2.upd HJ.up (a4.2.2.ne a4.2.1 qD);by_cases cu:k<nL
    · obtain ⟨bL,oL,u,rfl,_,_,hu,hc⟩:=(cn.upd ab.n.up d5).at_ cu;rw [Yau] at hu;obtain ⟨tx,cd,rfl⟩:=YcJ.1 hu;obtain ⟨ii,e1,e2,e3⟩:=a8.labs tx (Ybe cd);have d8:Hid (Calls Tryz.prog 56 #[.pointer (some ⟨q.t 0,0,none⟩),.string tx] wr fun e w'=>e=.returned (.tuple #[.int .i64 (ii:Int),.bool true])/\wr=w'):=qH (by have s:=ZeT (ab.m.tb 0 qD) e3;rw [ab.n.t,e1] at s;exact s)
      have d9:Hid ((z.map (ZaL (ns 0)))[k]?=some (ii:Int)):=qH (by rw [Yau,cd,<-e2];rfl);have r0:=a5.blk.c0;have s2:=HJ.blk.c2;have dp:wE.heap.size<=wr.heap.size:=HJ.up.size;have j2:(k:Int)<(nL:Int):=qO;clear ab a5 bu hu cd e1 e2 e3;go_wp2_with fail;refine d8.mono ?_;rintro e wq ⟨rfl,rfl⟩;go_wp2_with (at_builtin;go_must (refine Zat rfl (.tmp 56) (.tmp 58) _ _ rfl wE.heap.size 3 1 8 _ Tryz.underlying110 ZcM rfl (.slice A k c) k _ rfl (HJ.row.alloc _) rfl (Zbg Tryz.underlying110 (Ydh _ _ _) (by simp [Value.oneCell'])) (by unfold maxLen;omega) qO (by simp;omega) ?_);intro v7 w7 bf;obtain ⟨A7,c7,rfl⟩:=Zad bf.own;have da:=qH bf;have bv:=bf.blk (HJ.blk.alloc _) (HJ.blk.ne_own HJ.row qD);have s7:w7.cell? ⟨rb,2,none⟩=some (.slice A k c):=bv.cell 2;have z7:w7.frozen? ⟨rb,2,none⟩=false:=bv.frozen 2;clear bf bv s2);go_roundg (nL-(k+1))
      case measure=>omega
      case rel=>exact ⟨k+1,A7,c7,rfl,qO,by go_num,qH (HJ.snoc ((Yaa _ wr).alloc _) da d9)⟩
    obtain rfl:k=nL:=qO;have s0:=HJ.blk.c0;have s1:=HJ.blk.c1;have s2:=HJ.blk.c2;have b8:=ZmF (x:=⟨hd,F,z.map (ZaL (ns 0))⟩) wr (by have s:=HJ.row;rw [YaB (by rw [Yag,au.out];exact Yae _)] at s;exact s) (a8.ok F b5.1 b5.2)
    have a6:(ZcZ ⟨hd,F,z.map (ZaL (ns 0))⟩).length=16:=ZiM (a8.ok F b5.1 b5.2);obtain ⟨D,hD⟩:∃ D,ZcZ ⟨hd,F,z.map (ZaL (ns 0))⟩=D:=⟨_,rfl⟩
    rw [hD] at b8 a6;simp only at b8;have cv:=qH b8;have HD:=qH hD;have db:=qH ab;have G:=qH a5;have dc:=qH bu;have j2:¬ (k:Int)<(k:Int):=qO;clear b8 hD ab a5 bu;go_wp2_with fail;refine cv.mono ?_;rintro e wa ⟨v,rfl,I,bg⟩;obtain ⟨A8,c8,rfl⟩:=Zad I;have H:=(db.same bg).same (Yaa (fun _=>False) wa).drew;have cw:=(G.same bg).same (Yaa (fun _=>False) wa).drew;have ay:=(dc.same bg).same (Yaa (fun _=>False) wa).drew;have ac:=Zhv wa.drew H.m (Yaj b3 H.n.up.size) (j:=3) qD qD (Zau.of (Zaa I (Yaa (fun _=>False) wa).drew) rfl) (by rw [a6];rfl) id av;rw [H.n.f] at ac;have bw:=qH ac;have ad:=qH H;have ae:=qH ay;have bx:=qH cw;generalize D.length=DL at *;clear a6 I bg H cw ay ac s0 s1 s2 cv;go_wp2_with fail;refine (ZbP wa).mono ?_;rintro e wb ⟨rfl,rfl⟩;go_upto_region 13 with fail;refine Zaj 9 (fun d=>d.cell? ⟨b,3,none⟩=some (.pointer (some ⟨q.f 3,0,none⟩))/\d.cell? ⟨xb,0,none⟩=some (.int .i64 (id:Int))) (by kernel_rfl) ⟨bx.blk.cell 3,ae.cell 0⟩ (fun a=>?_);refine ZbE ?_;refine Ybv 8 rfl (fun K hK=>?_);go_simp;refine bw.mono ?_;rintro e wd ⟨rfl,qz,hA⟩;refine hK.out _ _ ⟨(bx.blk.upd hA.n.up (ad.m.far bx.blk qD qD)).cell 3,(ae.upd hA.n.up (ad.m.far ae qD qD)).cell 0⟩ (fun a=>?_);clear hK K;refine Ybi rfl (fun K hK=>?_);go_simp;refine (ZbP wd).mono ?_;rintro e we ⟨rfl,rfl⟩;refine hK _ _ ?_;have HA:=qH hA;clear hK K a hA;go_wp2;go_roundg (nN-(i+1))
    case measure=>omega
    obtain ⟨X,Y,hL⟩:=cs.out;exact ⟨i+1,rfl,qO,by go_num,qH ⟨qz,aj.next HX hL (ad.put qD HA.out) (by have s:=HA.out;rw [<- HD.out,<-bo.out] at s;exact s)⟩⟩
 obtain rfl:i=nN:=qO;obtain ⟨qN,P⟩:=HI.out;have dd:zs.length=i:=by rw [<- d3.out,<-HZ.out,Yag]
 have am:=P.go;have bz:=P.cnt;rw [Ybt qO,YcG] at am bz;obtain ⟨T2,ce⟩:∃ T2,ZgL (ns 1) (ns 2) L (ao.map RL.dat) T=T2:=⟨_,rfl⟩
 have de:=qH ce;have cx:Hid (FiR w1 B q ns L ao T2 (K1+(ao.map fun x=>x.props.length).sum) 0 wr qN):=qH ⟨P.f,by rw [<- ce,<-am];rfl,by rw [<- bz];rfl⟩;have g1:wr.cell? ⟨gB,1,none⟩=some (.slice AR nR cR):=(bm.upd P.f.n.up (ai.far bm qD qD)).cell 1;have j1:¬ (i:Int)<(i:Int):=qO;obtain ⟨K2,d2⟩:∃ K2,K1+(ao.map fun x=>x.props.length).sum=K2:=⟨_,rfl⟩
 rw [d2] at cx aq;clear P dd am bz ce d2 cl HN HZ HI;go_wp2_with fail;clear g1 j1 ar;go_loopg [83] nR (fun g dk wr=>∃ i:Nat,nR-i=g/\i<=nR/\dk=.int .i64 (i:Int)/\Hid (∃ Z,FiR w1 B q ns L ao T2 K2 i wr Z))
 case atStart=>exact ⟨0,rfl,Yah _,rfl,qH ⟨qN,cx⟩⟩
 obtain ⟨i,rfl,hi,rfl,HI⟩:=hrel;by_cases ar:i<nR
 · obtain ⟨Z,P⟩:=HI.out;have hk:=ap.mv ai.out P.f.n.up;obtain ⟨bA,o,x,rfl,cc,_,hx,a7,p0,p1,p2,p3,p4⟩:=hk.gr.rels.at_ (i:=i) ar;have an:=HR.out x a7;have HX:=qH hx;have df:=qH an;have a1:=qH (P.room hx);have aj:=qH P;have a9:=qH (hk.gr.rels.pro x a7);have j1:(i:Int)<(nR:Int):=qO;clear cc hx a7 P HI;obtain ⟨l,hl,cf⟩:=an.ok;obtain ⟨ti,t1,t2,t3⟩:=an.type;obtain ⟨b1,M,cg,dst,props,AP,nP,cP⟩:=x;obtain ⟨id,rfl⟩:∃ id:Nat,b1=(id:Int):=⟨b1.toNat,by have:=an.id.1;simp only at this;omega⟩
   simp only at p0 p1 p2 p3 p4 a9 a1 hl cf t1 t2 t3;rw [YaN] at hl;have av:id<65536:=by have:=an.id.2;simp only at this;omega
   have dg:L.length=nC:=by have s:=hk.ch.1;rw [ZbY YbU] at s;omega
   have dl:id<nC:=by have:=(Yaq.1 hl).1;omega
   obtain ⟨gC,_,rfl,_⟩:=Zck hk.ch (i:=id*7) qO;go_upto_region 18 with fail;have aa:=Yad wr 60 #[.int .i64 (id:Int),.string M,.int .i64 cg,.int .i64 dst,.slice AP nP cP];have V:=(Yaa (fun _=>False) wr).alloc (.cells #[.int .i64 (id:Int),.string M,.int .i64 cg,.int .i64 dst,.slice AP nP cP] 60);generalize wr.alloc (.cells #[.int .i64 (id:Int),.string M,.int .i64 cg,.int .i64 dst,.slice AP nP cP] 60)=O at *;generalize wr.heap.size=xb at *;have b9:=aj.f.same V;have a5:=hk.same V;have HF:Hid (∀ d,Same O d->Calls Tryz.prog 56 #[.pointer (some ⟨q.t 1,0,none⟩),.string M] d fun e w'=>e=.returned (.tuple #[.int .i64 (ti:Int),.bool true])/\d=w'):=qH fun d hs=>by have s:=ZeT ((b9.m.tb 1 qD).same hs) t3;rw [b9.n.t,t1] at s;exact s
   have bj:=qH (a9.same V);have C:=qH b9;have G:=qH a5;have a2:=qH aa;have cy:=qH cf;have bk:=qH t2;have au:=qH hl;have r1:=a5.blk.c1;have x1:=aa.c1;clear b9 a5 aa V cf t1 t2 t3 an hk p0 p1 p2 p3 p4 hl dg a9;go_quiet (first | exact Calls.quiet_of_same ((HF.out _ (Yaa _ O)).mono fun e w' h=>⟨h.1,h.2.symm⟩) | exact Calls.quiet_of_same ((HF.out _ ((Yaa _ O).drewN _)).mono fun e w' h=>⟨h.1,h.2.symm⟩));have az:Same O (O.drewN nq):=(Yaa (fun _=>False) O).drewN nq;generalize O.drewN nq=w3 at *;clear r1 x1;go_upto_region 19 with fail;have N:=qH ((C.same az).same (Yaa (fun _=>False) w3).drew);have af:=qH ((G.same az).same (Yaa (fun _=>False) w3).drew);have ba:=qH ((a2.same az).same (Yaa (fun _=>False) w3).drew);have bb:Hid (∀ d,Upd (BuS Z) w3.drew d->d.cell? ⟨b,7,none⟩=some (.slice (some ⟨gC,0,none⟩) nC cC)/\d.cell? ⟨xb,0,none⟩=some (.int .i64 (id:Int))/\d.cell? ⟨xb,4,none⟩=some (.slice AP nP cP)/\d.cell? ⟨gC,id*7,none⟩=some (.bool l.live)/\d.cell? ⟨gC,id*7+1,none⟩=some (.int .i64 l.src)/\d.cell? ⟨gC,id*7+2,none⟩=some (.int .i64 l.dst)/\d.cell? ⟨gC,id*7+3,none⟩=some (.int .i64 l.sprev)/\d.cell? ⟨gC,id*7+4,none⟩=some (.int .i64 l.dprev)/\d.cell? ⟨gC,id*7+5,none⟩=some (.int .i64 l.snext)/\d.cell? ⟨gC,id*7+6,none⟩=some (.int .i64 l.dnext)):=qH fun d hu=>by have s:=(af.blk.upd hu (N.m.far af.blk qD qD)).cell 7;have h2:=ba.upd hu (N.m.far ba qD qD);obtain ⟨c0,c1,c2,c3,c4,c5,c6⟩:=(ZgF (Zae af.ch hu (N.m.farO af.ch qD qD)) au.out).1;exact ⟨s,h2.cell 0,h2.cell 4,c0,c1,c2,c3,c4,c5,c6⟩
   obtain ⟨F,a0⟩:∃ F:Int,(if props=[] then -1 else ((Z.l 5).length:Int))=F:=⟨_,rfl⟩
   have R : -1<=F/\F<65536:=by
    have h6:=a1.out;have h7:=aq.out;rw [<- a0];cases props with
    | nil=>rw [Yac rfl];omega
    | cons p ps=>rw [Yab (YdG _ _)];simp only [Yao] at h6;omega
   have bo:=qH a0;have U:Hid (Calls Tryz.prog 55 #[.pointer (some ⟨b,0,none⟩),.slice AP nP cP] w3.drew fun e w'=>e=.returned (.int .i64 F)/\∃ qx,LayI w3.drew B Z ns props props.length w' qx):=qH (by have s:=Zkt w3.drew (c7:=.slice (some ⟨gC,0,none⟩) nC cC) (c8:=.map (some hm)) N.m (Yaj b3 N.n.up.size) (by rw [<- N.cells];exact af.blk) ((bj.same az).same (Yaa (fun _=>False) w3).drew) N.all df.props (Yaj a1 aq);unfold LayR at s;rw [a0] at s;exact s)
   have cz:=qH (cy.out F R.1 R.2);clear a0 R az C G a2 HF bj cy;refine Zaj 19 (fun d=>d.cell? ⟨b,7,none⟩=some (.slice (some ⟨gC,0,none⟩) nC cC)/\d.cell? ⟨xb,0,none⟩=some (.int .i64 (id:Int))/\d.cell? ⟨xb,4,none⟩=some (.slice AP nP cP)/\d.cell? ⟨gC,id*7,none⟩=some (.bool l.live)/\d.cell? ⟨gC,id*7+1,none⟩=some (.int .i64 l.src)/\d.cell? ⟨gC,id*7+2,none⟩=some (.int .i64 l.dst)/\d.cell? ⟨gC,id*7+3,none⟩=some (.int .i64 l.sprev)/\d.cell? ⟨gC,id*7+4,none⟩=some (.int .i64 l.dprev)/\d.cell? ⟨gC,id*7+5,none⟩=some (.int .i64 l.snext)/\d.cell? ⟨gC,id*7+6,none⟩=some (.int .i64 l.dnext)) (by kernel_rfl) (bb.out _ (Yaa _ _)) (fun a=>?_);refine ZbE ?_;refine Ybv 12 rfl (fun K hK=>?_);go_simp;refine U.mono ?_;rintro e w4 ⟨rfl,qx,hL⟩;refine hK.out _ _ (bb.out _ hL.n.up) (fun a=>?_);clear hK K;refine ZbE ?_;refine Ybv 14 rfl (fun K hK=>?_);go_simp;have b0:=Zoi (x:=⟨l,ZaL (ns 1) M,F⟩) w4 cz.out;have a6:(relB ⟨l,ZaL (ns 1) M,F⟩).length=30:=ZkP _;rw [bk.out] at b0 a6;simp only at b0;obtain ⟨D,hD⟩:∃ D,relB ⟨l,(ti:Int),F⟩=D:=⟨_,rfl⟩
   rw [hD] at b0 a6;have HD:Hid (relB ⟨l,ZaL (ns 1) M,F⟩=D):=qH (by rw [bk.out,hD]);have d0:=qH a6;clear a6;refine b0.mono ?_;rintro e w5 ⟨v,rfl,I,ci⟩;obtain ⟨A8,c8,rfl⟩:=Zad I;have bc:=hL.n.up.same ci;refine hK.out _ _ (bb.out _ bc) (fun a=>?_);clear hK K b0 hD;refine ZbE ?_;refine Ybi rfl (fun K hK=>?_);go_simp;refine hK.out _ _ ?_;clear hK K a;have H:=((N.lay hL).same ci).same (Yaa (fun _=>False) w5).drew;have d1:=(af.blk.upd bc (N.m.far af.blk qD qD)).same (Yaa (fun _=>False) w5).drew;have ay:=(ba.upd bc (N.m.far ba qD qD)).same (Yaa (fun _=>False) w5).drew;have ac:=Zhv w5.drew H.m (Yaj b3 H.n.up.size) (j:=4) qD qD (Zau.of (Zaa I (Yaa (fun _=>False) w5).drew) rfl) (by rw [d0.out];rfl) id av;rw [H.n.f] at ac;have bw:=qH ac;have ad:=qH H;have ae:=qH ay;have c9:=qH d1;have HL:=qH hL;generalize D.length=DL at *;clear d0 I ci H d1 ay ac bc hL U bb cz;go_wp2_with fail;refine (ZbP w5).mono ?_;rintro e wb ⟨rfl,rfl⟩;go_upto_region 21 with fail;refine Zaj 9 (fun d=>d.cell? ⟨b,4,none⟩=some (.pointer (some ⟨q.f 4,0,none⟩))/\d.cell? ⟨xb,0,none⟩=some (.int .i64 (id:Int))) (by kernel_rfl) ⟨c9.cell 4,ae.cell 0⟩ (fun a=>?_);refine ZbE ?_;refine Ybv 8 rfl (fun K hK=>?_);go_simp;refine bw.mono ?_;rintro e wd ⟨rfl,qz,hA⟩;refine hK.out _ _ ⟨(c9.upd hA.n.up (ad.m.far c9 qD qD)).cell 4,(ae.upd hA.n.up (ad.m.far ae qD qD)).cell 0⟩ (fun a=>?_);clear hK K;refine Ybi rfl (fun K hK=>?_);go_simp;refine (ZbP wd).mono ?_;rintro e we ⟨rfl,rfl⟩;refine hK _ _ ?_;have HA:=qH hA;clear hK K a hA;go_wp2;go_roundg (nR-(i+1))
   case measure=>omega
   case rel=>exact ⟨i+1,rfl,qO,by go_num,qH ⟨qz,aj.next HX au HL (ad.put qD HA.out) (by have s:=HA.out;rw [<- HD.out,<-bo.out] at s;exact s)⟩⟩
 obtain rfl:i=nR:=qO;have j1:¬ (i:Int)<(i:Int):=qO;clear ar;go_wp2;go_end0;rw [<- cj.out];obtain ⟨Z,P⟩:=HI.out;have am:=P.go;rw [Ybt (qh d4),YcG] at am;refine ⟨rfl,Z,⟨P.f.m,((YeK w q).same bn).trans P.f.n,P.f.all,P.f.tabs⟩,?_⟩;rw [HT.out,de.out];exact am
end
section
open Go.RowKit
attribute [local go_sem] Ybq
theorem ZtA {w:World} {g:Nat} {cs:Array Value} (hb:Blk w g 5 cs) (n c:Nat):(convert 39 39 (.slice (some ⟨g,0,none⟩) n c)).run Tryz.prog w=.ok (.slice (some ⟨g,0,none⟩) n c) (w.freeze ⟨g,cs.size,none⟩ 1):=by
 have a:w.shape? g=some (5,cs.size):=by unfold World.shape?;rw [show w.heap[g]?=_ from hb]
 simp [convert,YbR Tryz.underlying39,YbR Tryz.underlying5,markStringish,a]
theorem Zqm {w:World} {g:Nat} {cs:Array Value} {t:TypeId} (hb:Blk w g t cs):(w.freeze ⟨g,cs.size,none⟩ 1).heap[g]?=some (.cells cs t (cs.size,cs.size+1))/\Upd (fun k=>k=g) w (w.freeze ⟨g,cs.size,none⟩ 1):=by
 have h:=hb;unfold Blk at h;unfold World.freeze;rw [Yab qD];constructor
 · show (w.heap.modify g _)[g]?=_;rw [YdO,Yac rfl,h];rfl
 refine ⟨rfl,rfl,rfl,by simp,fun k b a=>?_⟩;show (w.heap.modify g _)[k]?=_;rw [YdO,Yab (fun e=>a e.symm)]
section
variable {P:Program} {md:Region.Mode} {ops:Array Oper} {Q:Exit->Act->World->Prop} {S:World->Prop} {n:Nat}
theorem ESt.okd {f:Nat} {listed:Array Bool} {a:Act} {w:World} (h:Region.okE md ops n=true->ESt P md ops Q S n f listed a w) (hok:Region.okE md ops n=true:=by decide +kernel):ESt P md ops Q S n f listed a w:=h hok
theorem ESt.tkQ (i:Nat) {oi:Oper} {v:Value} {f:Nat} {listed:Array Bool} {a:Act} {w:World} (hok:Region.okE md ops n=true) (hi:ops[i]?=some oi) (hy:YieldsIf P ops S oi v a) (hS:S w)
 (h:ESt P md ops Q S n f (listed.setIfInBounds i true) (a.put oi.dst v) w)
 (hf:(decide (i<n) && Region.free md ops listed i && (Region.ready md ops listed).contains i)=true:=by decide +kernel) (hQ:∀ c a w,Q (.panic c) (a.put oi.dst v) w->Q (.panic c) a w:=by exact fun _ _ _ h=>h) :
 ESt P md ops Q S n (f+1) listed a w:=ESt.take hok hi hf hQ hy hS h
abbrev YaZ:=@ESt.tkQ
end
end
section
open Go.RowKit
attribute [local go_sem] Ybq
theorem ZmL {f:Zaz} (hz:0<f.size) (hk:f.Ok):(ZaS f).length=16+f.recs.length*f.size:=by obtain ⟨k,v,z,c⟩:=f;have a:=ZkG (size:=z) hz hk;have b:=Zgm ⟨k,v,z,c⟩;simp only [ZaS,Yaf,b,Zab,a];omega
theorem PF.few {w:World} {B f k vs z low:Nat} {v:Value} {l:List BS} (h:PF w B f k vs z v l low):(ZaS (filD k vs z l)).length<=16777216:=by
 have c:=h.size;have g:=h.len;have i:(filD k vs z l).Ok:=fun d m=>by
  obtain ⟨x,n,e⟩:=Yba.1 m;have b:x.A≠none:=fun b=>by unfold BS.rc at e;rw [b] at e;cases e
  have j:=h.recs x n b;rw [show d=x.data from by
   unfold BS.rc at e;cases hq:x.A with
   | none=>exact absurd hq b
   | some a=>rw [hq] at e;exact (Yax e).symm]
  exact j
 rw [ZmL (by show 0<z;omega) i];show 16+(l.map BS.rc).length*z<=_;rw [Yag];have:l.length*z<=65536*255:=Nat.mul_le_mul g c.2;omega
theorem ZmM:(Tryz.prog.info? 41).map (fun i=>(i.zero,i.size,i.bytes))=some (some (.agg #[.string ⟨#[]⟩,.slice none 0 0]),2,40):=by kernel_rfl
theorem Zqn (w:World):(Instr.makeSlice 29 (.int .i64 0) (.int .i64 8)).run Tryz.prog w=.ok (.slice (some ⟨w.heap.size,0,none⟩) 0 8) (w.alloc (.cells (madeCells #[.string ⟨#[]⟩,.slice none 0 0] 16) 41)):=by obtain ⟨i,c,a⟩:=YcJ.1 ZmM;simp only [Ydm] at a;obtain ⟨d,e,f⟩:=a;have b:=run_make (P:=Tryz.prog) w 29 41 i _ Tryz.underlying29 c d .i64 .i64 0 8 (YfB _) qO (by rw [f];omega) qO;rw [e] at b;exact b
theorem ZtB (w:World):(w.alloc (.cells (madeCells #[.string ⟨#[]⟩,.slice none 0 0] 16) 41)).ownsRow w.heap.size 41 2 (.slice (some ⟨w.heap.size,0,none⟩) 0 8) 0 [] :=
 ⟨rfl,.inr ⟨w.heap.size,8,_,rfl,Yae _,World.alloc_heap_new w _,Yah _,by unfold maxLen;omega,by simp [madeCells],rfl⟩⟩
theorem ZvG (l:List SF):∀ u∈l.flatMap SF.cells,u.oneCell'=true:=by intro u b;obtain ⟨x,_,a⟩:=Yby.1 b;simp only [SF.cells,Yat,YcB,Ych] at a;rcases a with rfl | rfl <;> rfl
theorem SF.two (x:SF):x.cells.length=2:=rfl
theorem Row.sf (w:World) (x:SF):Row (w.alloc (.cells x.cells.toArray 41)) (fun b=>b=w.heap.size) 2 (some ⟨w.heap.size,0,none⟩) 1 1 x.cells :=
 Ycb (Yad w _ x.cells.toArray) rfl (Yae _) (by simp [maxLen])
theorem ZrX (w:World) {A:Option Addr} {n c:Nat} (hn:n<=c) (hc:c<=maxLen):Calls Tryz.prog 64 #[.slice A n c] w fun e w'=>e=.returned (.slice A n n)/\w=w':=by go_enter Tryz.func64,Tryz.ntmps64;go_wp2;go_ret;exact ⟨rfl,rfl⟩
end
end Go.Proofs.YtmkjfhnlnhceiaaGreatDoor
