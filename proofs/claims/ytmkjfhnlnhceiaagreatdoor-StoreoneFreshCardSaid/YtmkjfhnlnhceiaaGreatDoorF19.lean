/- Lemmas: walks and plain laws. -/
import Derived.Deep.CutRange
import Derived.IntWalk
import Derived.BigRegion
import Derived.Test.YtmkjfhnlnhceiaaGreatDoorF15
import Derived.Test.YtmkjfhnlnhceiaaGreatDoorF17
set_option maxRecDepth 100000
set_option maxHeartbeats 16000000
namespace Go.Proofs.YtmkjfhnlnhceiaaGreatDoor
variable {l:List ByteArray} {F:Nat->Prop} {w:World} {bs:List UInt8} {k n B f vs j low i:Nat} {v:Value}
section
theorem CQ:∀ (p:Option Int) (i:Nat) (l:List NA),nE p i l=none->(l.map NA.id).Pairwise (fun a b=>a<b)/\∀ y∈l.map NA.id,∀ q,p=some q->q<y
 | _,_,[],_=>⟨qS,qS⟩
 | p,i,x::l,h=>by
   simp only [nE] at h;by_cases c:MG p x=0
   · rw [aA (by rw [c];simp)] at h;obtain ⟨m,k⟩:=CQ (some x.id) (i+1) l h;unfold MG at c;by_cases g:x.id<0\/1024<=x.id
     · rw [gA g] at c;cases c
     rw [aA g] at c;by_cases j:bF x.id p=true
     · rw [gA j] at c;cases c
     have d:∀ q,p=some q->q<x.id:=fun q f=>by subst f;simpa [bF] using j
     rw [CB];refine ⟨TE.2 ⟨fun y e=>k y e x.id rfl,m⟩,fun y e q f=>?_⟩;rcases TA.1 e with rfl | e
     · exact d q f
     have n:=k y e x.id rfl;have o:=d q f;omega
   rw [gA c] at h;cases h
theorem kY:∀ (b:Option Int) (i:Nat) (l:List NA) (x:Int×Nat),nE b i l=some x->x.1≠0
 | _,_,[],_,h=>by cases h
 | b,i,y::l,x,h=>by
   simp only [nE] at h;by_cases a:MG b y=0
   · rw [aA (by rw [a];simp)] at h;exact kY _ _ l x h
   rw [gA a] at h;injection h with h
   subst h;exact a
theorem lY (th:Int->Bool):∀ (b:Option Int) (i:Nat) (l:List GRel) (x:Int×Nat),JE th b i l=some x->x.1≠0
 | _,_,[],_,h=>by cases h
 | b,i,y::l,x,h=>by
   simp only [JE] at h;by_cases a:aG th b y=0
   · rw [aA (by rw [a];simp)] at h;exact lY th _ _ l x h
   rw [gA a] at h;injection h with h
   subst h;exact a
theorem ZoE {g:WB} {x:Int×Nat} (h:oE g=some x):x.1≠0:=by
 unfold oE at h;cases hn:nE none 0 g.nodes with
 | some y =>
   rw [hn] at h;injection h with h
   subst h;exact kY _ _ _ _ hn
 | none =>
   rw [hn] at h;obtain ⟨y,b,c⟩:=GH.1 h;subst c;have a:=lY _ _ _ _ y b;exact a
theorem ZqJ {g:WB} {tl:Int} {at_:Nat} (h:dK g tl=(0,at_)):oE g=none:=by
 unfold dK at h;cases hh:oE g with
 | none=>rfl
 | some x =>
   rw [hh] at h;have a:=ZoE hh;simp only at h;rw [h] at a;exact absurd rfl a
section
variable {α κ:Type} {lt:κ->κ->Prop} {key:α->κ}
theorem XA.of_lt (L:Lin lt) {l:List α} (h:(l.map key).Pairwise lt):XA lt key l/\(l.map key).Nodup:=by
 constructor
 · rw [SI] at h;exact h.imp fun h=>L.asym h
 exact h.imp fun {a b} h e=>by subst e;exact L.irr _ h
abbrev fK:=@XA.of_lt
end
theorem mY {p q:ByteArray} (h:leB p q=false):ltS q p:=Classical.byContradiction fun b=>by have a:=(Zvu p q).2 b;unfold leB at h;rw [h] at a;cases a
theorem nY:∀ (j:Option ByteArray) (l:List ByteArray),fH j l=0->l.Pairwise ltS/\∀ y∈l,∀ q,j=some q->ltS q y
 | _,[],_=>⟨List.Pairwise.nil,qS⟩
 | j,p::l,h=>by
   unfold fH at h;by_cases d:VB p=false
   · rw [gA d] at h;cases h
   rw [aA d] at h;by_cases c:qG p j=true
   · rw [gA c] at h;cases h
   rw [aA c] at h;obtain ⟨i,f⟩:=nY (some p) l h;have e:∀ q,j=some q->ltS q p:=fun q b=>by
    subst b;have g:leB p q=false:=by simpa [qG] using c
    exact mY g
   refine ⟨TE.2 ⟨fun y a=>f y a p rfl,i⟩,fun y a q b=>?_⟩;rcases TA.1 a with rfl | a
   · exact e q b
   exact QD.tr (e q b) (f y a p rfl)
theorem oY:∀ (k:Option ByteArray) (l:List GPr),LG k l=0->(l.map GPr.key).Pairwise ltS/\∀ y∈l.map GPr.key,∀ q,k=some q->ltS q y
 | _,[],_=>⟨List.Pairwise.nil,qS⟩
 | k,p::l,h=>by
   unfold LG at h;by_cases e:VB p.key=false
   · rw [gA e] at h;cases h
   rw [aA e] at h;by_cases c:qG p.key k=true
   · rw [gA c] at h;cases h
   rw [aA c] at h;by_cases d:chk p.val≠0
   · rw [gA d] at h;exact absurd h d
   rw [aA d] at h;obtain ⟨j,g⟩:=oY (some p.key) l h;have f:∀ q,k=some q->ltS q p.key:=fun q b=>by
    subst b;have i:leB p.key q=false:=by simpa [qG] using c
    exact mY i
   rw [CB];refine ⟨TE.2 ⟨fun y a=>g y a p.key rfl,j⟩,fun y a q b=>?_⟩;rcases TA.1 a with rfl | a
   · exact f q b
   exact QD.tr (f q b) (g y a p.key rfl)
theorem DQ {l:List GPr} (h:IE l=0):(l.map GPr.key).Pairwise ltS:=by
 unfold IE at h;by_cases a:16<l.length
 · rw [gA a] at h;cases h
 rw [aA a] at h;exact (oY _ _ h).1
theorem TT (h:mF l=0):l.Pairwise ltS:=by
 unfold mF at h;by_cases a:8<l.length
 · rw [gA a] at h;cases h
 rw [aA a] at h;exact (nY _ _ h).1
theorem ZmU {d:Option Int} {x:NA} (h:MG d x=0):bF x.id d=false/\mF x.labels=0/\IE x.props=0:=by
 unfold MG at h;by_cases c:x.id<0\/1024<=x.id
 · rw [gA c] at h;cases h
 rw [aA c] at h;by_cases b:bF x.id d=true
 · rw [gA b] at h;cases h
 rw [aA b] at h;by_cases a:mF x.labels≠0
 · rw [gA a] at h;exact absurd h a
 rw [aA a] at h;exact ⟨by simpa using b,by simpa using a,h⟩
theorem ZoF {th:Int->Bool} {e:Option Int} {x:GRel} (h:aG th e x=0):bF x.id e=false/\IE x.props=0:=by
 unfold aG at h;by_cases b:x.id<0\/2048<=x.id
 · rw [gA b] at h;cases h
 rw [aA b] at h;by_cases a:bF x.id e=true
 · rw [gA a] at h;cases h
 rw [aA a] at h;by_cases c:VB x.type=false
 · rw [gA c] at h;cases h
 rw [aA c] at h;by_cases d:th x.src=false\/th x.dst=false
 · rw [gA d] at h;cases h
 rw [aA d] at h;exact ⟨by simpa using a,h⟩
theorem pM:∀ (c:Option Int) (i:Nat) (l:List NA),nE c i l=none->∀ x∈l,mF x.labels=0/\IE x.props=0
 | _,_,[],_=>qS
 | c,i,y::l,h=>by
   simp only [nE] at h;by_cases a:MG c y=0
   · rw [aA (by rw [a];simp)] at h;intro x b;rcases TA.1 b with rfl | b
     · exact (ZmU a).2
     exact pM _ _ l h x b
   rw [gA a] at h;cases h
theorem rM (th:Int->Bool):∀ (r:Option Int) (i:Nat) (l:List GRel),JE th r i l=none->((l.map GRel.id).Pairwise (fun a b=>a<b)/\∀ y∈l.map GRel.id,∀ q,r=some q->q<y)/\∀ x∈l,IE x.props=0
 | _,_,[],_=>⟨⟨List.Pairwise.nil,qS⟩,qS⟩
 | r,i,y::l,h=>by
   simp only [JE] at h;by_cases c:aG th r y=0
   · rw [aA (by rw [c];simp)] at h;obtain ⟨j,k⟩:=ZoF c;obtain ⟨⟨m,g⟩,n⟩:=rM th _ _ l h;have f:∀ q,r=some q->q<y.id:=fun q d=>by subst d;simpa [bF] using j
     rw [CB];refine ⟨⟨TE.2 ⟨fun z c=>g z c y.id rfl,m⟩,fun z c q d=>?_⟩,fun x e=>?_⟩
     · rcases TA.1 c with rfl | c
       · exact f q d
       have o:=g z c y.id rfl;have p:=f q d;omega
     rcases TA.1 e with rfl | e
     · exact k
     exact n x e
   rw [gA c] at h;cases h
structure Mixed (g c:WB):Prop where
 can:tE c=tE g
 ids:(c.nodes.map NA.id).Nodup
 rids:(c.rels.map GRel.id).Nodup
 keys:∀ x∈c.nodes,(x.props.map GPr.key).Nodup
theorem pY {g:WB} (h:oE g=none):tE g=g/\Mixed g g:=by
 obtain ⟨k,p⟩:=eK h;have i:=(CQ _ _ _ k).1;have j:=pM _ _ _ k;obtain ⟨⟨l,_⟩,f⟩:=rM _ _ _ _ p;have m:g.nodes.map canN=g.nodes:=by
  conv=>rhs;rw [<- FL g.nodes]
  refine kG fun x c=>?_;obtain ⟨a,b⟩:=j x c;have n:nH x.labels=x.labels:=RK QD (fK (key:=fun y:ByteArray=>y) QD (by simpa using TT a)).1;have d:sE ltS GPr.key x.props=x.props:=RK QD (fK QD (DQ b)).1;simp only [canN,n,d,id]
 have o:g.rels.map canR=g.rels:=by
  conv=>rhs;rw [<- FL g.rels]
  refine kG fun x c=>?_;have d:sE ltS GPr.key x.props=x.props:=RK QD (fK QD (DQ (f x c))).1;simp only [canR,d,id]
 have e:tE g=g:=by unfold tE;rw [m,o,RK XJ (fK (key:=NA.id) XJ i).1,RK XJ (fK (key:=GRel.id) XJ l).1]
 exact ⟨e,rfl,(fK (key:=NA.id) XJ i).2,(fK (key:=GRel.id) XJ l).2,fun x c=>(fK QD (DQ (j x c).2)).2⟩
theorem UT (s:ByteArray):(kM s).length=1+s.size:=by unfold kM;rw [kA,rA,WL]
theorem VT (p:GPr) (l:List GPr):psW (p::l)=(enc p.val).length+psW l:=by simp [psW]
theorem WT (l m:List GPr):psW (l++m)=psW l+psW m:=by simp [psW]
structure qY (g:WB):Prop where
 nodes:∀ x∈g.nodes,x.Wr/\(jX x).length<=1022+psW x.props
 rels:∀ x∈g.rels,x.Wr/\(kX x).length<=742+psW x.props
 nN:g.nodes.length<=1024
 nR:g.rels.length<=2048
 wt:g.wt<=262144
structure mO (g:WB):Prop where
 nodes:∀ x∈g.nodes,∀ p∈x.props,p.val.Fits
 rels:∀ x∈g.rels,∀ p∈x.props,p.val.Fits
theorem XT {s:ByteArray} (h:VB s=true):s.size<=40:=by unfold VB OH at h;simp only [kB,NC] at h;have:=h.1.1;rw [eJ] at this;exact this
theorem sY:∀ (e:Option ByteArray) (l:List GPr),LG e l=0->∀ p∈l,p.key.size<=40/\chk p.val=0
 | _,[],_=>qS
 | e,q::l,h=>by
   simp only [LG] at h;by_cases b:VB q.key=false
   · rw [gA b] at h;cases h
   rw [aA b] at h;by_cases d:qG q.key e=true
   · rw [gA d] at h;cases h
   rw [aA d] at h;by_cases a:chk q.val≠0
   · rw [gA a] at h;exact absurd h a
   rw [aA a] at h;intro p c;rcases TA.1 c with rfl | c
   · exact ⟨XT (by simpa using b),uF.1 a⟩
   exact sY _ l h p c
theorem tY:∀ (d:Option ByteArray) (l:List ByteArray),fH d l=0->∀ p∈l,p.size<=40
 | _,[],_=>qS
 | d,q::l,h=>by
   simp only [fH] at h;by_cases a:VB q=false
   · rw [gA a] at h;cases h
   rw [aA a] at h;by_cases c:qG q d=true
   · rw [gA c] at h;cases h
   rw [aA c] at h;intro p b;rcases TA.1 b with rfl | b
   · exact XT (by simpa using a)
   exact tY _ l h p b
theorem ZvJ {g:GVal} (h:chk g=0):(enc g).length<=65535:=by
 unfold enc;rw [gA h];obtain ⟨_,_,_,d,e,f,a⟩:=QJ h;rw [kA,rA];unfold nG;split
 · have:=XL g.kind g.num;omega
 split
 · rw [KK];omega
 rw [kA,kA,rA];have b:=JN (g.kind-4) g.nums;have c:=LN g.texts a;omega
theorem uY:∀ (l:List ByteArray),(∀ x∈l,x.size<=40)->(l.flatMap kM).length<=41*l.length
 | [],_=>qS
 | x::l,h=>by have b:=uY l fun y a=>h y (by simp [a]);have c:=h x qS;rw [iD,kA,UT,BA];omega
theorem vY:∀ (l:List GPr),(∀ p∈l,p.key.size<=40)->(l.flatMap kQ).length<=43*l.length+psW l
 | [],_=>by simp [psW]
 | p::l,h=>by
   have b:=vY l fun y a=>h y (by simp [a]);have c:=h p qS;have e:(kQ p).length=1+p.key.size+(2+(enc p.val).length):=by unfold kQ;rw [kA,kA,UT,rA]
   rw [iD,kA,e,BA,VT];omega
theorem gK {l:List GPr} (h:IE l=0):l.length<=16/\∀ p∈l,p.key.size<=40/\chk p.val=0:=by
 unfold IE at h;by_cases a:16<l.length
 · rw [gA a] at h;cases h
 rw [aA a] at h;exact ⟨qO,sY _ _ h⟩
theorem ZvK (h:mF l=0):l.length<=8/\∀ p∈l,p.size<=40:=by
 unfold mF at h;by_cases a:8<l.length
 · rw [gA a] at h;cases h
 rw [aA a] at h;exact ⟨qO,tY _ _ h⟩
theorem wY {l:List GPr} (h:IE l=0) (hf:∀ p∈l,p.val.Fits):l.length<=255/\(∀ p∈l,p.Wr)/\(lQ l).length<=689+psW l:=by obtain ⟨d,b⟩:=gK h;refine ⟨qO,fun p a=>⟨by have:=(b p a).1;omega,(b p a).2,hf p a,ZvJ (b p a).2⟩,?_⟩;have c:=vY l fun p a=>(b p a).1;unfold lQ;rw [kA,rA];omega
theorem EQ (th:Int->Bool):∀ (j:Option Int) (i:Nat) (l:List GRel),JE th j i l=none->∀ x∈l,(0<=x.id/\x.id<2048)/\x.type.size<=40/\th x.src=true/\th x.dst=true
 | _,_,[],_=>qS
 | j,i,y::l,h=>by
   simp only [JE] at h;by_cases a:aG th j y=0
   · rw [aA (by rw [a];simp)] at h;have g:=EQ th _ _ l h;unfold aG at a;by_cases e:y.id<0\/2048<=y.id
     · rw [gA e] at a;cases a
     rw [aA e] at a;by_cases f:bF y.id j=true
     · rw [gA f] at a;cases a
     rw [aA f] at a;by_cases b:VB y.type=false
     · rw [gA b] at a;cases a
     rw [aA b] at a;by_cases c:th y.src=false\/th y.dst=false
     · rw [gA c] at a;cases a
     intro x d;rcases TA.1 d with rfl | d
     · exact ⟨qO,XT (by simpa using b),by simpa using fun h=>c (.inl h),by simpa using fun h=>c (.inr h)⟩
     exact g x d
   rw [gA a] at h;cases h
theorem Zum {g:WB} (h:oE g=none) (hw:g.wt<=262144) (hf:mO g):qY g:=by
 obtain ⟨o,p⟩:=eK h;obtain ⟨v,w⟩:=jO h;have r:=pM _ _ _ o;have f:=(WK _ _ _ o).2;have s:=(rM _ _ _ _ p).2;have j:=EQ _ _ _ _ p;refine ⟨fun x e=>?_,fun x e=>?_,v,w,hw⟩
 · obtain ⟨a,b⟩:=r x e;obtain ⟨c,d⟩:=ZvK a;obtain ⟨k,m,A⟩:=wY b (hf.nodes x e);obtain ⟨n,B⟩:=(f x e).1;refine ⟨⟨⟨n,qO⟩,qO,fun l C=>by have:=d l C;omega,k,m⟩,?_⟩;have G:=uY x.labels d;unfold jX;simp only [kA,rA];omega
 obtain ⟨k,m,A⟩:=wY (s x e) (hf.rels x e);obtain ⟨⟨n,B⟩,H,D,E⟩:=j x e;have i:∀ y,QH g y=true->0<=y/\y<1024:=fun y q=>by unfold QH at q;obtain ⟨z,F,rfl⟩:=fC.1 (MJ q);exact (f z F).1
 have t:=i _ D;have u:=i _ E;refine ⟨⟨⟨n,qO⟩,⟨t.1,qO⟩,⟨u.1,qO⟩,qO,k,m⟩,?_⟩;unfold kX;simp only [kA,rA,UT];omega
end
section
open Go.RowKit
theorem ZwM (g:GR):g.dat.wt=wsum (g.ns.flatMap ND.props)+wsum (g.rs.flatMap RL.props):=by
 have a:∀ l:List ND,psW ((l.map ND.dat).flatMap NA.props)=wsum (l.flatMap ND.props):=fun l=>by
  induction l with
  | nil=>rfl
  | cons x l ih =>
    rw [CB,iD,WT,ih,iD];unfold wsum;rw [DB,ZR];congr 1;unfold psW ND.dat;simp only [MC];rfl
 have b:∀ l:List RL,psW ((l.map RL.dat).flatMap GRel.props)=wsum (l.flatMap RL.props):=fun l=>by
  induction l with
  | nil=>rfl
  | cons x l ih =>
    rw [CB,iD,WT,ih,iD];unfold wsum;rw [DB,ZR];congr 1;unfold psW RL.dat;simp only [MC];rfl
 unfold WB.wt GR.dat;rw [a,b]
noncomputable def AB (g:WB):Int->List ByteArray:=Classical.choose (cY (SC g))
theorem NE (g:WB):∀ k,Srt (SC g k) (AB g k):=Classical.choose_spec (cY (SC g))
noncomputable def chkP (g:WB):Int×Nat:=dK g (cK (AB g 1).length (AB g 2).length (AB g 3).length g.wt)
theorem YT (w:World) (g:GR) (h:RdG w F g) (hz:RG g) {e:Int} {at_:Nat} (hE:chkP g.dat=(e,at_)):
 Calls Tryz.prog 16 #[g.agg] w fun x w'=>x=.returned (.tuple #[.int .i64 e,.int .i64 at_])/\Same w w' :=
 Zoz w g h hz.fit hz.texts (NE g.dat) (by rw [<- ZwM]) hE
theorem nO {g:WB} (h:(chkP g).1=0):oE g=none/\g.wt<=262144:=by
 have a:oE g=none:=ZqJ (g:=g) (tl:=cK (AB g 1).length (AB g 2).length (AB g 3).length g.wt) (at_:=(chkP g).2) (Prod.ext h rfl);refine ⟨a,?_⟩;unfold chkP dK at h;rw [a] at h;simp only at h;unfold cK at h;split at h
 · cases h
 split at h
 · cases h
 omega
theorem ZqK {g:WB} (h:(chkP g).1=0) (hf:mO g):qY g/\tE g=g:=by obtain ⟨a,b⟩:=nO h;exact ⟨Zum a b hf,(pY a).1⟩
theorem xY {g:GR} (h:RdG w F g):mO g.dat:=by
 have a:∀ (f:List PR) (A:Option Addr) (n c:Nat),RdPs w F A n c f->∀ p∈f.map PR.dat,p.val.Fits:=fun f A n c b p j=>by obtain ⟨x,d,rfl⟩:=fC.1 j;have e:=b.val x d;exact ⟨e.kind,e.num,e.range⟩
 refine ⟨fun x d p b=>?_,fun x d p b=>?_⟩
 · obtain ⟨y,i,rfl⟩:=fC.1 d;exact a _ _ _ _ (h.nodes.pro y i) p b
 obtain ⟨y,i,rfl⟩:=fC.1 d;exact a _ _ _ _ (h.rels.pro y i) p b
end
section
structure DD where
 name:ByteArray
 data:List UInt8
structure St1 where
 labels:List ByteArray
 types:List ByteArray
 keys:List ByteArray
 nodes:YA
 rels:YA
 props:YA
 blobs:YA
def VH:List ByteArray:=[⟨#[98,108,111,98,115]⟩,⟨#[107,101,121,115]⟩,⟨#[108,97,98,101,108,115]⟩,⟨#[109,101,116,97]⟩,⟨#[110,111,100,101,115]⟩,⟨#[112,114,111,112,115]⟩,⟨#[114,101,108,115]⟩,⟨#[116,121,112,101,115]⟩]
def sH:List UInt8:=[71,83,84,82,0]
def GC (fs:List DD) (i:Nat):List UInt8:=match fs[i]? with | some f=>f.data | none=>[]
def JB (d:List UInt8):Nat:=(d.headD 0).toNat
def VD (d:List UInt8):Nat:=((d.drop 1).headD 0).toNat
def yC (d:List UInt8):Option Nat:=if be ((d.drop 2).take 4)=0 then none else some (be ((d.drop 2).take 4)-1)
def YA.at_ (f:YA) (i:Nat):Option (List UInt8):=match f.recs[i]? with | some (some d)=>some d | _=>none
def IC (f:YA) (d:List UInt8):Bool :=
 decide (JB d<=1) && (decide (VD d<=25) && ((d.drop (6+VD d)).all (·==0) && match yC d with | none=>decide (JB d=1) || decide (0<VD d) | some j=>decide (VD d=25) && f.used j))
def bnx (f:YA) (i:Nat):Option Nat:=match f.at_ i with | some d=>yC d | none=>none
def rD (f:YA):List Nat:=(List.range f.recs.length).filter f.used
def uE (f:YA):List Nat:=(rD f).filter fun i=>match f.at_ i with | some d=>JB d==1 | none=>false
def tH (f:YA):Int :=
 if f.size≠32 then 4
 else if (rD f).any (fun i=>match f.at_ i with | some d=>!IC f d | none=>false)=true then 100
 else if (∀ c∈rD f,kH (bnx f) (uE f) (rD f) c<=1)/\(allL (bnx f) (uE f) f.recs.length).length=(rD f).length then 0 else 101
def mD (f:YA):Nat->List Nat->Nat->Except Int (List Nat)
 | 0,_,_=>.error 101
 | k+1,met,i=>if i∈met then .error 101 else match f.at_ i with
   | none=>.error 3
   | some d=>if (JB d=1)≠(met=[])\/IC f d=false then .error 100 else match yC d with
     | none=>.ok [i]
     | some j=>match mD f k (i::met) j with | .error e=>.error e | .ok l=>.ok (i::l)
def AF (d:List UInt8):List UInt8:=(d.drop 6).take (VD d)
def WH (f:YA) (i:Int):Except Int (List UInt8) :=
 if f.size≠32 then .error 4 else if i<0\/f.used i.toNat=false then .error 3 else match mD f (f.recs.length+1) [] i.toNat with
 | .error e=>.error e
 | .ok l=>.ok (l.flatMap fun j=>match f.at_ j with | some d=>AF d | none=>[])
def OE (b:List UInt8) (kind size:Nat):Except Int YA:=match wI b with
 | .error e=>.error e
 | .ok f=>if f.kind≠kind\/f.size≠size then .error 111 else if f.version≠1 then .error 8 else .ok f
def BF (fs:List DD):Except Int St1 :=
 if fs.map DD.name≠VH then .error 140
 else if (GC fs 3).length≠6\/(GC fs 3).take 5≠sH then .error 141
 else if (GC fs 3).drop 5≠[1] then .error 8
 else do
  let l<-tabP (GC fs 2) 1 1
  let t<-tabP (GC fs 7) 2 1
  let k<-tabP (GC fs 1) 3 1
  let n<-OE (GC fs 4) 4 17
  let r<-OE (GC fs 6) 5 31
  let p<-OE (GC fs 5) 6 20
  let b<-OE (GC fs 0) 8 32
  if tH b≠0 then .error (tH b)
  else if 1024<n.recs.length then .error 61
  else if 2048<r.recs.length then .error 62
  else .ok ⟨l,t,k,n,r,p,b⟩
def CF (s:St1) (d:List UInt8):Int:=match getN d with
 | none=>41
 | some x=>if x.labels.any (fun i=>decide (FB s.labels i=noText))=true then 110 else 0
def relE (s:St1) (d:List UInt8):Int:=match getR d with
 | none=>41
 | some x=>if VE s.nodes x.link.src=false\/VE s.nodes x.link.dst=false then 65 else if FB s.types x.type=noText then 110 else 0
def DF (s:St1) (d:List UInt8):Int:=match getP d with
 | none=>41
 | some x=>if FB s.keys x.key=noText then 110 else 0
def sD (e:List UInt8->Int):List (Option (List UInt8))->Int
 | []=>0
 | none::l=>sD e l
 | some d::l=>if e d≠0 then e d else sD e l
def dC:L1:=⟨false,0,0,0,0,0,0⟩
def uG (r:Option (List UInt8)):L1:=match r with | some d=>(match getR d with | some x=>x.link | none=>dC) | none=>dC
def dF (f:YA):List L1:=f.recs.map uG
def eG (L:List L1):Nat->List (Option (List UInt8))->Int
 | _,[]=>0
 | i,none::l=>eG L (i+1) l
 | i,some d::l=>match getN d with
   | none=>41
   | some x=>match QC L i (L.length+1) (-1) x.rel with
     | .error e=>e
     | .ok ids=>if ids.length≠(OB L i).length then 101 else eG L (i+1) l
def val1 (s:St1) (x:P1) (mb:List Nat):Except Int (GVal×List Nat) :=
 if x.kind<4 then (if chk ⟨x.kind,x.num,noText,[],[]⟩≠0 then .error (chk ⟨x.kind,x.num,noText,[],[]⟩) else .ok (⟨x.kind,x.num,noText,[],[]⟩,mb))
 else match WH s.blobs x.blob with
 | .error e=>.error e
 | .ok b=>if x.blob.toNat∈mb then .error 101 else if (decA b).2≠0 then .error (decA b).2 else if (decA b).1.kind≠x.kind then .error 40 else .ok ((decA b).1,x.blob.toNat::mb)
def tJ (s:St1) (had:List Int) (last i:Int) (mp mb:List Nat):Except Int (P1×GVal×List Nat) :=
 if i<0 then .error 3 else match s.props.at_ i.toNat with
 | none=>.error 3
 | some d=>match getP d with
   | none=>.error 41
   | some x=>if i.toNat∈mp\/x.prev≠last then .error 101 else if x.key∈had then .error 7 else match val1 s x mb with
     | .error e=>.error e
     | .ok (v,mb)=>.ok (x,v,mb)
def MB (s:St1):Nat->List Int->Int->Int->List Nat->List Nat->Except Int (List GPr×List Nat×List Nat)
 | 0,_,_,i,mp,mb=>if i = -1 then .ok ([],mp,mb) else .error 64
 | k+1,had,last,i,mp,mb=>if i = -1 then .ok ([],mp,mb) else match tJ s had last i mp mb with
   | .error e=>.error e
   | .ok (x,v,mb)=>match MB s k (x.key::had) i x.next (i.toNat::mp) mb with
     | .error e=>.error e
     | .ok (l,mp,mb)=>.ok (⟨FB s.keys x.key,v⟩::l,mp,mb)
def XH (labels:List ByteArray) (f:Int->List Nat->List Nat->Except Int (List GPr×List Nat×List Nat)):Nat->List (Option (List UInt8))->List Nat->List Nat->Except Int (List NA×List Nat×List Nat)
 | _,[],mp,mb=>.ok ([],mp,mb)
 | i,none::l,mp,mb=>XH labels f (i+1) l mp mb
 | i,some d::l,mp,mb=>match getN d with
   | none=>.error 41
   | some x=>match f x.prop mp mb with
     | .error e=>.error e
     | .ok (ps,mp,mb)=>match XH labels f (i+1) l mp mb with
       | .error e=>.error e
       | .ok (ns,mp,mb)=>.ok (⟨i,x.labels.map (FB labels),ps⟩::ns,mp,mb)
def YH (types:List ByteArray) (get:List UInt8->Option R1) (f:Int->List Nat->List Nat->Except Int (List GPr×List Nat×List Nat)):Nat->List (Option (List UInt8))->List Nat->List Nat->Except Int (List GRel×List Nat×List Nat)
 | _,[],mp,mb=>.ok ([],mp,mb)
 | i,none::l,mp,mb=>YH types get f (i+1) l mp mb
 | i,some d::l,mp,mb=>match get d with
   | none=>.error 41
   | some x=>match f x.prop mp mb with
     | .error e=>.error e
     | .ok (ps,mp,mb)=>match YH types get f (i+1) l mp mb with
       | .error e=>.error e
       | .ok (rs,mp,mb)=>.ok (⟨i,FB types x.type,x.link.src,x.link.dst,ps⟩::rs,mp,mb)
noncomputable def den1 (s:St1):Except Int WB :=
 if sD (CF s) s.nodes.recs≠0 then .error (sD (CF s) s.nodes.recs)
 else if sD (relE s) s.rels.recs≠0 then .error (sD (relE s) s.rels.recs)
 else if sD (DF s) s.props.recs≠0 then .error (sD (DF s) s.props.recs)
 else if eG (dF s.rels) 0 s.nodes.recs≠0 then .error (eG (dF s.rels) 0 s.nodes.recs)
 else match XH s.labels (MB s 16 [] (-1)) 0 s.nodes.recs [] [] with
 | .error e=>.error e
 | .ok (ns,mp,mb)=>match YH s.types getR (MB s 16 [] (-1)) 0 s.rels.recs mp mb with
   | .error e=>.error e
   | .ok (rs,mp,mb) =>
     if mp.length≠s.props.live then .error 142
     else if (uE s.blobs).any (fun i=>decide (i ∉ mb))=true then .error 142
     else if (chkP (tE ⟨ns,rs⟩)).1≠0 then .error (chkP (tE ⟨ns,rs⟩)).1 else .ok (tE ⟨ns,rs⟩)
noncomputable def eF (fs:List DD):Except Int WB:=match BF fs with
 | .error e=>.error e
 | .ok s=>den1 s
end
section
open Go.RowKit
theorem ZT:∀ {rs:List (Option (List UInt8))} {ns:List ByteArray} {er:Int},cH ns rs=.error er->er≠0
 | [],ns,er,h=>by cases h
 | none::rs,ns,er,h=>ZT (rs:=rs) h
 | some d::rs,ns,er,h=>by
   rw [cH] at h;split at h
   · cases h;decide
   split at h
   · cases h;decide
   exact ZT h
theorem Zun {er:Int} (h:tabP bs k 1=.error er):er≠0:=by
 unfold tabP at h;split at h
 · rename_i a;injection h with h
   subst h;exact MT a
 split at h
 · cases h;decide
 split at h
 · cases h;decide
 split at h
 · cases h;decide
 exact ZT h
def TblR (bs:List UInt8) (k:Nat) (w:World) (e:Ending) (w':World):Prop :=
 match tabP bs k 1 with
 | .error er=>e=cF er/\Same w w'
 | .ok ns=>∃ t f m cnt v nv l,e=.returned (.pointer (some ⟨t,0,none⟩))/\PT w' w.heap.size t f m k 1 cnt 0 v nv l ns/\Same w w'
def RcdR (bs:List UInt8) (k z:Nat) (w:World) (e:Ending) (w':World):Prop :=
 match OE bs k z with
 | .error er=>e=cF er/\Same w w'
 | .ok fl=>∃ f v l,e=.returned (.pointer (some ⟨f,0,none⟩))/\filD fl.kind fl.version fl.size l=fl/\fl.kind=k/\fl.version=1/\fl.size=z/\PF w' w.heap.size f k 1 z v l 0/\Same w w'
theorem aU {A:Option Addr} {c:Nat} (w:World) (hb:pA w F A n c bs) (hn:n<=140737488355328) (hN:Nib w) (k:Nat) (hk:1<=k/\k<=3):
 Calls Tryz.prog 67 #[.slice A n c,.int .i64 (k:Int)] w (TblR bs k w):=by
 have a:=qH (ZmN w hb hn hN k hk);clear hb hN hn;unfold TabR at a;unfold TblR;cases hT:tabP bs k 1 with
 | error er =>
   rw [hT] at a;have j:=qH (Zun hT);simp only;go_enter Tryz.func67,Tryz.ntmps67;go_wp2_with fail;refine a.mono ?_;rintro e g ⟨rfl,b⟩;have d:=qH b;clear b a;go_wp2_with fail;refine (UH g j).mono ?_;rintro e p ⟨rfl,rfl⟩;exact ⟨rfl,rfl,d⟩
 | ok ns =>
   rw [hT] at a;simp only;go_enter Tryz.func67,Tryz.ntmps67;go_wp2_with fail;refine a.mono ?_;rintro e g ⟨t,f,m,h,v,q,l,rfl,i,b⟩;have d:=qH b;have o:=qH i;clear b i a;go_wp2_with fail;refine (zF g).mono ?_;rintro e p ⟨rfl,rfl⟩;go_wp2;go_ret;exact ⟨t,f,m,h,v,q,l,rfl,o,d⟩
theorem FQ {A:Option Addr} {c:Nat} (w:World) (hb:pA w F A n c bs) (hn:n<=140737488355328) (hN:Nib w) (k z:Nat) (hk:k<1000/\z<1000):
 Calls Tryz.prog 68 #[.slice A n c,.int .i64 (k:Int),.int .i64 (z:Int)] w (RcdR bs k z w):=by
 have j:=qH (SX w hb hn hN);clear hb hN hn;unfold sJ at j;obtain ⟨H,q⟩:=qx (RcdR bs k z w);have a:=qH q;rw [q];clear q;unfold RcdR OE at a;cases hT:wI bs with
 | error er =>
   rw [hT] at j a;have t:=qH (MT hT);simp only at a;clear hT;go_enter Tryz.func68,Tryz.ntmps68;go_wp2_with fail;refine j.mono ?_;rintro e b ⟨rfl,u⟩;have s:=qH u;clear u j;go_wp2_with fail;refine (UH b t).mono ?_;rintro e g ⟨rfl,rfl⟩;refine ⟨rfl,?_⟩;rw [<- a.out];exact ⟨rfl,s⟩
 | ok fl =>
   obtain ⟨h,r,i,G⟩:=fl;rw [hT] at j a;simp only at a j;clear hT;go_enter Tryz.func68,Tryz.ntmps68;go_wp2_with fail;refine j.mono ?_;rintro e b ⟨f,v,l,rfl,x,E,u⟩;have B:=qH x;have s:=qH u;have y:=qH E;have C:=E.size;clear u E j x;go_wp2_with fail;refine (zF b).mono ?_;rintro e g ⟨rfl,rfl⟩;go_wp2_with fail;refine (rW b y).mono ?_;rintro e g ⟨rfl,rfl⟩;by_cases m:h=k
   case neg =>
    have d:¬ (h:Int)=(k:Int):=qO;have t:=qH (show (if h≠k\/i≠z then (.error 111:Except Int YA) else if r≠1 then .error 8 else .ok ⟨h,r,i,G⟩)=.error 111 from gA (.inl m));rw [t.out] at a;clear m;go_wp2_with fail;refine (gD b 111).mono ?_;rintro e g ⟨rfl,rfl⟩;refine ⟨rfl,?_⟩;rw [<- a.out];exact ⟨rfl,s⟩
   subst m;go_wp2_with fail;refine (SN b y).mono ?_;rintro e g ⟨rfl,rfl⟩;by_cases o:i=z
   case neg =>
    have d:¬ (i:Int)=(z:Int):=qO;have D:((i:Int)==(z:Int))=false:=WC.2 d;have t:=qH (show (if h≠h\/i≠z then (.error 111:Except Int YA) else if r≠1 then .error 8 else .ok ⟨h,r,i,G⟩)=.error 111 from gA (.inr o));rw [t.out] at a;clear o;go_wp2_with fail;refine (gD b 111).mono ?_;rintro e g ⟨rfl,rfl⟩;refine ⟨rfl,?_⟩;rw [<- a.out];exact ⟨rfl,s⟩
   subst o;rw [aA (show ¬ (h≠h\/i≠i) by simp)] at a;go_wp2_with fail;refine (lD b 111).mono ?_;rintro e g ⟨rfl,rfl⟩;go_wp2_with fail;refine (sW b y).mono ?_;rintro e g ⟨rfl,rfl⟩;by_cases p:r=1
   case neg =>
    have d:¬ (r:Int)=1:=qO;have D:((r:Int)==1)=false:=WC.2 d;rw [gA p] at a;clear p;go_wp2_with fail;refine (gD b 8).mono ?_;rintro e g ⟨rfl,rfl⟩;refine ⟨rfl,?_⟩;rw [<- a.out];exact ⟨rfl,s⟩
   subst p;rw [aA qS] at a;go_wp2_with fail;refine (lD b 8).mono ?_;rintro e g ⟨rfl,rfl⟩;go_wp2;refine (show H (.returned (.pointer (some ⟨f,0,none⟩))) b from ?_);rw [<- a.out];exact ⟨f,v,l,rfl,B,by first | rfl | trivial,by first | rfl | trivial,by first | rfl | trivial,y,s⟩
def iK (ns:List ByteArray) (i:Int) (e:Ending):Prop:=if FB ns i=noText then e=cF 110 else e=.returned (.string (FB ns i))
theorem sM {t m:Nat} {nv:Value} {l:List BS} {ns:List ByteArray} (h:PT w B t f m k vs j low v nv l ns) (i:Int):Calls Tryz.prog 73 #[.pointer (some ⟨t,0,none⟩),.int .i64 i] w fun e w'=>iK ns i e/\w=w':=by
 have c:=qH (ZmG h i);clear h;unfold iK;generalize FB ns i=s at *;by_cases a:s=noText
 · simp only [gA a];have b:(!decide (s=noText))=false:=by simp [a]
   rw [b] at c;clear a b;go_enter Tryz.func73,Tryz.ntmps73;go_wp2_with fail;refine c.mono ?_;rintro e d ⟨rfl,rfl⟩;go_wp2_with fail;refine (gD w 110).mono ?_;rintro e g ⟨rfl,rfl⟩;exact ⟨rfl,rfl,rfl⟩
 simp only [aA a];have b:(!decide (s=noText))=true:=by simp [a]
 rw [b] at c;clear a b;go_enter Tryz.func73,Tryz.ntmps73;go_wp2_with fail;refine c.mono ?_;rintro e d ⟨rfl,rfl⟩;go_wp2_with fail;refine (lD w 110).mono ?_;rintro e g ⟨rfl,rfl⟩;go_wp2;go_ret;exact ⟨rfl,rfl⟩
def tM:Value:=.agg (VH.map Value.string).toArray
theorem yY (w:World):Calls Tryz.prog 63 #[] w fun e w'=>e=.returned tM/\Same w w':=by go_enter Tryz.func63,Tryz.ntmps63;go_wp2_with fail;refine LD (v:=tM) ?_ rfl ⟨rfl,(iA w).alloc _⟩;simp [results,Tryz.results63,go_sem,tM,VH]
end
section
def isS (f:YA) (i:Nat):Bool:=match f.at_ i with | some d=>JB d==1 | none=>false
variable {f:YA}
theorem EI:f.used i=true↔∃ d,f.at_ i=some d:=by
 unfold YA.used YA.at_;cases f.recs[i]? with
 | none=>simp
 | some r=>cases r <;> simp
theorem uJ (h:f.used i=true):i<f.recs.length:=by
 unfold YA.used at h;split at h
 · rename_i d e;exact (IA.1 e).1
 cases h
theorem GQ:i∈rD f↔f.used i=true:=by unfold rD;rw [JJ,vF];exact ⟨fun h=>h.2,fun h=>⟨uJ h,h⟩⟩
theorem zY:(rD f).Nodup:=List.filter_sublist.nodup iS
theorem YK:i∈uE f↔f.used i=true/\isS f i=true:=by unfold uE;rw [JJ,GQ];rfl
theorem Zsu:(rD f).length<=f.recs.length:=by have:=oJ (zY (f:=f)) (U:=List.range f.recs.length) fun x a=>vF.2 (uJ (GQ.1 a));simpa using this
def AllS (f:YA):Prop:=∀ i d,f.at_ i=some d->IC f d=true
theorem bU (hs:AllS f) (h:bnx f i=some j):f.used j=true:=by
 unfold bnx at h;cases hd:f.at_ i with
 | none=>rw [hd] at h;cases h
 | some d =>
   rw [hd] at h;simp only at h;have a:=hs i d hd;unfold IC at a;rw [h] at a;simp only [kB] at a;exact a.2.2.2.2
theorem cU (hs:AllS f):∀ (k:Nat) (G:List Nat) (i:Nat) (l:List Nat),f.used i=true ->
 (mD f (k+1) G i=.ok l↔rE (bnx f) k i=true/\l=aC (bnx f) k i/\(∀ x∈l,x ∉ G)/\l.Nodup/\(isS f i=true↔G=[])/\∀ x∈l.tail,isS f x=false):=by
 intro k
 induction k with
 | zero =>
   intro G i l v;obtain ⟨d,m⟩:=EI.1 v;have o:isS f i=true↔JB d=1:=by unfold isS;rw [m];simp
   have r:bnx f i=yC d:=by unfold bnx;rw [m]
   rw [mD,m];simp only [rE,aC,r];by_cases b:i∈G
   · rw [gA b];constructor
     · intro h;cases h
     rintro ⟨_,rfl,h,_⟩;exact absurd b (h i qS)
   rw [aA b];simp only [hs i d m,AK,WF];by_cases c:(JB d=1)≠(G=[])
   · rw [gA c];constructor
     · intro h;cases h
     rintro ⟨_,_,_,_,h,_⟩;exact absurd (propext (o.symm.trans h)) c
   rw [aA c];have g:(JB d=1)=(G=[]):=uF.1 c;cases hn:yC d with
   | none =>
     simp only [uN,GP,jI];constructor
     · rintro rfl;exact ⟨rfl,by simpa using b,qS,by rw [o,g],qS⟩
     rintro ⟨rfl,_⟩;rfl
   | some j=>simp [mD]
 | succ k ih =>
   intro G i l v;obtain ⟨d,m⟩:=EI.1 v;have o:isS f i=true↔JB d=1:=by unfold isS;rw [m];simp
   have r:bnx f i=yC d:=by unfold bnx;rw [m]
   rw [mD,m];simp only;rw [rE,aC,r];by_cases b:i∈G
   · rw [gA b];constructor
     · intro h;cases h
     rintro ⟨_,rfl,h,_⟩;exact absurd b (h i qS)
   rw [aA b];simp only [hs i d m,AK,WF];by_cases c:(JB d=1)≠(G=[])
   · rw [gA c];constructor
     · intro h;cases h
     rintro ⟨_,_,_,_,h,_⟩;exact absurd (propext (o.symm.trans h)) c
   rw [aA c];have g:(JB d=1)=(G=[]):=uF.1 c;cases hn:yC d with
   | none =>
     simp only [uN,jI];constructor
     · rintro rfl;exact ⟨rfl,by simpa using b,qS,by rw [o,g],qS⟩
     rintro ⟨rfl,_⟩;rfl
   | some j =>
     have B:f.used j=true:=bU hs (r.trans hn);have:=ih (i::G) j;simp only;constructor
     · intro h;cases hr:mD f (k+1) (i::G) j with
       | error e=>rw [hr] at h;cases h
       | ok l' =>
         rw [hr] at h;simp only [uN] at h;subst h;obtain ⟨w,C,t,z,D,u⟩:=(this l' B).1 hr;refine ⟨w,by rw [C],fun x a=>?_,lE.2 ⟨fun F=>t i F qS,z⟩,by rw [o,g],fun x a=>?_⟩
         · rcases TA.1 a with rfl | a
           · exact b
           exact fun A=>t x a (by simp [A])
         simp only [xP] at a;cases l' with
         | nil=>cases a
         | cons y l' =>
           rcases TA.1 a with rfl | a
           · have E:x=j:=by
              have s:(x::l').head?=(aC (bnx f) k j).head?:=by rw [C]
              have p:(aC (bnx f) k j).head?=some j:=by cases k <;> simp [aC]
              rw [p] at s;simpa using s
             subst E;cases h9:isS f x with
             | false=>rfl
             | true=>exact absurd (D.1 h9) qS
           exact u x a
     rintro ⟨w,rfl,t,z,D,u⟩;have q:=lE.1 z;have s:=(this (aC (bnx f) k j) B).2 ⟨w,rfl,fun x a n=>?_,q.2,⟨fun p=>?_,fun p=>by cases p⟩,fun x a=>u x (List.mem_of_mem_tail a)⟩
     · rw [s]
     · rcases TA.1 n with rfl | n
       · exact q.1 a
       exact t x (by simp [a]) n
     have:=u j (ZrZ k j);rw [p] at this;cases this
theorem ZoG {nx:Nat->Option Nat} (h:rE nx k i=true):(aC nx k i).tail=(aC nx k i).filterMap nx:=by rw [<- jQ h,iQ,xP,<-iQ,jQ h]
theorem ZqL (hs:AllS f):((∀ c∈rD f,kH (bnx f) (uE f) (rD f) c<=1)/\(allL (bnx f) (uE f) f.recs.length).length=(rD f).length) ↔
 ((∀ s∈uE f,mD f (f.recs.length+1) [] s=.ok (aC (bnx f) f.recs.length s))/\(allL (bnx f) (uE f) f.recs.length).Nodup/\∀ c∈rD f,c∈allL (bnx f) (uE f) f.recs.length):=by
 have m:∀ s∈uE f,s∈rD f:=fun s h=>GQ.2 (YK.1 h).1;have n:∀ i∈rD f,∀ j,bnx f i=some j->j∈rD f:=fun i _ j h=>GQ.2 (bU hs h);rw [Zqn m n zY Zsu];constructor
 · rintro ⟨b,a,k⟩;refine ⟨fun s h=>?_,a,k⟩;refine (cU hs _ [] s _ (YK.1 h).1).2 ⟨b s h,rfl,fun _ _=>qS,?_,⟨fun _=>rfl,fun _=>(YK.1 h).2⟩,fun x l=>?_⟩
   · obtain ⟨u,v,e⟩:=XR h;rw [allL,e,jF,iD] at a;exact (zK.1 (zK.1 a).2.1).1
   cases hx2:isS f x with
   | false=>rfl
   | true =>
     rw [ZoG (b s h)] at l;obtain ⟨y,p,d⟩:=List.mem_filterMap.1 l;have g:x∈uE f:=YK.2 ⟨bU hs d,hx2⟩;have o:=(oT (nx:=bnx f) (uE f) f.recs.length).count_eq x;rw [rT b,EL] at o;have q:=kP.1 a x;have r:=YO.2 g;have t:0<((allL (bnx f) (uE f) f.recs.length).filterMap (bnx f)).count x:=YO.2 (List.mem_filterMap.2 ⟨y,ED.2 ⟨s,h,p⟩,d⟩);omega
 rintro ⟨b,a,k⟩;exact ⟨fun s h=>((cU hs _ [] s _ (YK.1 h).1).1 (b s h)).1,a,k⟩
end
section
open Go.RowKit
def gF (d:List UInt8):Int:=(be ((d.drop 2).take 4):Int)-1
theorem IQ {d:List UInt8}:gF d = -1↔yC d=none:=by
 unfold gF yC;by_cases h:be ((d.drop 2).take 4)=0
 · rw [gA h];simp [h]
 rw [aA h];simp;omega
theorem JQ {d:List UInt8} (h:yC d=some j):gF d=(j:Int):=by
 unfold yC at h;split at h
 · cases h
 injection h with h
 unfold gF;omega
theorem AY {d:List UInt8} (h:0<d.length):(d.headD 0).toNat=be (d.take 1):=by
 cases d with
 | nil=>simp at h
 | cons x t=>simp [be]
structure BV where
 d:List UInt8
 A:Option Addr
 c:Nat
def BV.cells (x:BV):List Value:=[.int .i64 (JB x.d:Int),.int .i64 (VD x.d:Int),.int .i64 (gF x.d),.slice x.A 25 x.c]
theorem Zsv {tmps:Array Value} {g:Nat} {R:Ending->World->Prop} {u0 u1 u2 u3:Value} (h2:tmps.getD 2 undef=.pointer (some ⟨g,0,none⟩)) (hb:Blk w g 203 #[u0,u1,u2,u3]) (hR:R (.returned (.agg #[u0,u1,u2,u3])) w):
 bodyPost Tryz.prog Tryz.f120 R Exit.ret ⟨tmps,[]⟩ w:=by
 have a:=hb.cell 0;have b:=hb.cell 1;have c:=hb.cell 2;have d:=hb.cell 3;simp only [YC,rC,LC] at a b c d;refine LD (v:=.agg #[u0,u1,u2,u3]) ?_ rfl hR;simp only [LF] at h2;simp [results,Tryz.results120,go_sem,h2,a,b,c,d]
theorem BY {A:Option Addr} {c:Nat} {d:List UInt8} (w:World) (hb:pA w F A n c d) (hl:d.length=31):Calls Tryz.prog 120 #[.slice A n c] w fun e w' =>
 ∃ A1 c1,e=.returned (.agg (BV.cells ⟨d,A1,c1⟩).toArray)/\pA w' (TyB w' 0) A1 25 c1 (d.drop 6)/\Same w w':=by
 have hn:n=31:=qt hb.len;subst hn;have V:=(iA w).alloc (.cells #[.int .i64 0,.int .i64 0,.int .i64 0,.slice none 0 0] 203);have HB:=qH (hb.same V);have a:=qH (jA w 203 #[.int .i64 0,.int .i64 0,.int .i64 0,.slice none 0 0]);have W:=qH V;have q:=qH hl;clear hb V hl;go_enter Tryz.func120,Tryz.ntmps120;go_wp2_with fail;generalize w.alloc (.cells #[.int .i64 0,.int .i64 0,.int .i64 0,.slice none 0 0] 203)=wA at *;generalize ac:w.heap.size=m at *;refine (gM HB qO).mono ?_;rintro e w1 ⟨r,rfl,hr,hR,u⟩;have U:Hid (¬ (wA.heap.size<=r/\r≠r)):=qH fun h=>h.2 rfl;have D:=qH hR;have X:=qH (W.trans u qf);have g:Hid (m≠r/\w.heap.size<=r):=qH (qt a.lt);have a:=qH (a.same u);clear hR u;go_wp2_with fail;refine (numN D U 1 qD (by rw [q.out];omega)).mono ?_;rintro e w2 ⟨s,rfl,N,a6,O,v⟩;have Y:=qH N;have k0:(0:Int)<=(s:Int)/\(s:Int)<=255:=qO;have Z:=qH (X.trans v fun b hb e=>qh g);have a:=qH (a.upd v fun e=>g.1 e);clear N v a6 D;go_wp2_with fail;refine (numN O U 1 qD (by rw [QA,q.out];omega)).mono ?_;rintro e w3 ⟨N1,rfl,P,a7,R,x⟩;have a0:=qH P;have k1:(0:Int)<=(N1:Int)/\(N1:Int)<=255:=qO;have a1:=qH (Z.trans x fun b hb e=>qh g);have a:=qH (a.upd x fun e=>g.1 e);clear P x a7 O;go_wp2_with fail;refine (numN R U 4 qD (by rw [QA,QA,q.out];omega)).mono ?_;rintro e y ⟨k,rfl,S,a8,z,B⟩;have a2:=qH S;have k2:(0:Int)<=(k:Int)/\(k:Int)<=4294967295:=qO;have t:=qH (a1.trans B fun b hb e=>qh g);have a:=qH (a.upd B fun e=>g.1 e);clear S B a8 R;have a9:IntKind.i64.wrap ((k:Int)-1)=(k:Int)-1:=kF _ ⟨qO,qO⟩;go_upto_region 3 with fail;have E:=jA y 203 #[.int .i64 (s:Int),.int .i64 (N1:Int),.int .i64 ((k:Int)-1),.slice none 0 0];have l:=(iA y).alloc (.cells #[.int .i64 (s:Int),.int .i64 (N1:Int),.int .i64 ((k:Int)-1),.slice none 0 0] 203);have aa:m<y.heap.size/\r<y.heap.size:=⟨a.lt,by obtain ⟨A',n',c',h1,_⟩:=z.out;exact h1.lt⟩
 have G:=qH (z.same l);have H:=qH (t.trans l qf);have I:=qH E;have a:=qH (a.same l);generalize y.alloc (.cells #[.int .i64 (s:Int),.int .i64 (N1:Int),.int .i64 ((k:Int)-1),.slice none 0 0] 203)=w5 at *;have ab:w.heap.size<=y.heap.size:=t.size;generalize ad:y.heap.size=C at *;clear E l z t;go_wp2_with fail;refine (rawN G U (by rw [QA,QA,QA,q.out];decide) 25 (by rw [QA,QA,QA,q.out];decide)).mono ?_;rintro e w6 ⟨A1,c1,rfl,T,_,o⟩;have L:C≠r/\C≠m:=qO;have j:=I.upd o L.1;have f:=a.upd o fun e=>g.1 e;have a3:=qH j;have M:=qH f;have a4:=qH (H.trans o fun b hb e=>qh g);have q0:=j.cell 0;have q1:=j.cell 1;have q2:=j.cell 2;have q3:=j.cell 3;have z3:=j.frozen 3;have p0:=f.cell 0;have p1:=f.cell 1;have p2:=f.cell 2;have p3:=f.cell 3;have y0:=f.frozen 0;have y1:=f.frozen 1;have y2:=f.frozen 2;have y3:=f.frozen 3;simp only [YC,rC,LC] at q0 q1 q2 q3 p0 p1 p2 p3;clear j f o G I H;go_wp2;have u1:=(eA (fun b=>b=C\/b=m) w6).put (r:=C) (i:=3) (.inl rfl) (.slice A1 25 c1);have hU:=FK (i:=3) (FK (i:=2) (FK (i:=1) (FK (i:=0) u1 (r:=m) (.inr rfl) (.int .i64 (s:Int))) (r:=m) (.inr rfl) (.int .i64 (N1:Int))) (r:=m) (.inr rfl) (.int .i64 ((k:Int)-1))) (r:=m) (.inr rfl) (.slice A1 25 c1);have hE:=((((M.far (p:=⟨C,3,none⟩) (fun e=>L.2 e.symm) (.slice A1 25 c1)).put 0 (.int .i64 (s:Int))).put 1 (.int .i64 (N1:Int))).put 2 (.int .i64 ((k:Int)-1))).put 3 (.slice A1 25 c1);refine Zsv rfl hE ?_;have a5:((d.drop 1).drop 1).drop 4=d.drop 6:=by rw [dD,dD]
 rw [a5,cB (by rw [QA,q.out];decide)] at T;refine ⟨A1,c1,?_,?_,a4.trans hU fun b hb e=>qO⟩
 · have e0:(JB d:Int)=s:=by unfold JB;rw [AY (by rw [q.out];omega),Y.out]
   have e1:(VD d:Int)=N1:=by unfold VD;rw [AY (by rw [QA,q.out];omega),a0.out]
   have e2:gF d=(k:Int)-1:=by unfold gF;rw [<- a2.out,dD]
   simp only [BV.cells,e0,e1,e2]
 have hs:∀ b,TyB w6 0 b->¬ (b=C\/b=m):=by
  rintro b hb (e | e)
  · exact absurd (hb.ne ⟨_,e ▸ a3.out⟩) qD
  exact absurd (hb.ne ⟨_,e ▸ M.out⟩) qD
 exact (SL T hU hs).mono fun b _ hb=>hb.upd hU (hs b hb)
theorem CY {A:Option Addr} {c z:Nat} {l:List BS} {d:List UInt8} (w:World) (hb:pA w F A 25 c (d.drop 6)) (hP:PF w B f k vs z v l low):
 Calls Tryz.prog 121 #[.agg (BV.cells ⟨d,A,c⟩).toArray,.pointer (some ⟨f,0,none⟩)] w fun e w'=>e=.returned (.bool (IC (filD k vs z l) d))/\Same w w':=by
 have O:=qH (@IQ d);have r:Hid (∀ j,yC d=some j->gF d=(j:Int)):=qH fun j h=>JQ h;have n:Hid (IC (filD k vs z l) d=(decide (JB d<=1) && (decide (VD d<=25) && ((d.drop (6+VD d)).all (·==0) && match yC d with | none=>decide (JB d=1) || decide (0<VD d) | some j=>decide (VD d=25) && (filD k vs z l).used j)))):=qH rfl;generalize IC (filD k vs z l) d=S at *;unfold BV.cells;simp only;generalize JB d=s at *;generalize VD d=u at *;generalize gF d=nx at *;have aa:25<=c:=Row.le hb;have X:=(iA w).alloc (.cells #[.int .i64 (s:Int),.int .i64 (u:Int),.int .i64 nx,.slice A 25 c] 203);have t:=qH (jA w 203 #[.int .i64 (s:Int),.int .i64 (u:Int),.int .i64 nx,.slice A 25 c]);have a:=qH X;have HB:=qH (hb.same X);have a0:=qH (hP.same X);obtain ⟨b,o,hA⟩:∃ b o,A=some ⟨b,o,none⟩:=by obtain ⟨b,o,hA,_⟩:=hb.at_ (i:=0) qO;exact ⟨b,o,hA⟩
 subst hA;clear hb hP X;by_cases h1:1<s
 · have HS:Hid (S=false):=qH (by rw [n.out,LB qO];rfl);have j1:¬ (s:Int)<=1:=qO;clear O r n;go_enter Tryz.func121,Tryz.ntmps121;go_wp2;go_ret;exact ⟨by rw [HS.out];rfl,a⟩
 have j1:(s:Int)<=1:=qO;by_cases h2:25<u
 · have HS:Hid (S=false):=qH (by rw [n.out,LB (show ¬ u<=25 by omega),cD,UG]);have j2:¬ (u:Int)<=25:=qO;clear O r n;go_enter Tryz.func121,Tryz.ntmps121;go_wp2;go_ret;exact ⟨by rw [HS.out];rfl,a⟩
 have j2:(u:Int)<=25:=qO;have C:Hid (S=((d.drop (6+u)).all (·==0) && match yC d with | none=>decide (s=1) || decide (0<u) | some j=>decide (u=25) && (filD k vs z l).used j)):=qH (by rw [n.out,kC qO,kC (show u<=25 by omega),zD,zD]);clear n;have hcut:=HB.rest (j:=u) qO;rw [dD] at hcut;have g:=qH hcut;obtain ⟨E,a6⟩:=qx (25-u);obtain ⟨G,p⟩:=qx (d.drop (6+u));rw [a6,p] at g;rw [p] at C;have H:Hid (G.length=E):=qH (ZG g);have a9:((25:Int)-(u:Int))=(E:Int):=qO;clear hcut p;generalize a5:w.alloc (.cells #[.int .i64 (s:Int),.int .i64 (u:Int),.int .i64 nx,.slice (some ⟨b,o,none⟩) 25 c] 203)=wA at *;by_cases P:u=c
 all_goals
  first | (subst P;rw [gA rfl,SD] at g) | (have R:¬ c=u:=fun h=>P h.symm;rw [aA R,VC,GK] at g)
  have q0:=t.cell 0;have q1:=t.cell 1;have q2:=t.cell 2;have q3:=t.cell 3;simp only [YC,rC,LC] at q0 q1 q2 q3;go_enter Tryz.func121,Tryz.ntmps121;go_upto_region 4 with fail;clear a5;go_loopg [23] E (fun gh a7 wr=>∃ i:Nat,E-i=gh/\i<=E/\a7=.int .i64 (i:Int)/\wr=wA/\Hid ((G.take i).all (·==0)=true))
  case atStart=>exact ⟨0,rfl,oA _,rfl,rfl,qH rfl⟩
  obtain ⟨i,rfl,hi,rfl,rfl,KA⟩:=hrel;by_cases T:i<E
  · obtain ⟨b',o',a8,_,_,hc⟩:=g.at_ T;cases a8;have j3:(i:Int)<(E:Int):=qO;have p:i<G.length:=by rw [H.out];exact T
    have HT:=qH (show (G.take (i+1)).all (·==0)=(G[i]==0) by rw [AJ p,zR,KA.out];simp)
    have HM:=qH (CJ p);generalize G[i]=x at *;by_cases Y:x=0
    · subst Y;have a1:Hid ((G.take (i+1)).all (·==0)=true):=qH (by rw [HT.out];rfl);have hc:wr.cell? _=some (.int .u8 0):=hc;clear HT;go_wp2;go_roundg (E-(i+1))
      case measure=>omega
      case rel=>exact ⟨i+1,rfl,qO,qN,rfl,a1⟩
    have h0:(x.toNat:Int)≠0:=fun h=>Y (vL.1 (by simpa using h));have ab:((x.toNat:Int) != 0)=true:=qC.2 h0;have q:Hid (S=false):=qH (by
     have Z:G.all (·==0)=false:=by
      cases hz:G.all (·==0) with
      | false=>rfl
      | true=>exact absurd (by simpa using EG.1 hz _ HM.out) Y
     rw [C.out,Z,cD])
    generalize x.toNat=xn at *;clear HT HM Y;go_wp2;go_ret;exact ⟨by rw [q.out];rfl,a⟩
  have a2:i=E:=qO;subst a2;have D:Hid (S=match yC d with | none=>decide (s=1) || decide (0<u) | some j=>decide (u=25) && (filD k vs z l).used j):=qH (by have Z:=KA.out;rw [cB (by first | rw [H.out];exact lA _ | rw [H];exact lA _)] at Z;rw [C.out,Z,zD])
  cases hbn:yC d with
  | none =>
    have I:=O.2 hbn;subst I;have m:Hid (S=(decide (s=1) || decide (0<u))):=qH (by rw [D.out,hbn]);clear O r D hbn C;by_cases e1:s=1
    · subst e1;have q:Hid (S=true):=qH (by rw [m.out];rfl)
      first
       | (exfalso;omega)
       | (go_wp2
          go_ret;exact ⟨by rw [q.out];rfl,a⟩)
    have ac:¬ (s:Int)=1:=qO;by_cases e2:0<u
    · have a3:(0:Int)<(u:Int):=qO;have q:Hid (S=true):=qH (by rw [m.out,kC e2,Bool.or_true])
      first
       | (exfalso;omega)
       | (go_wp2
          go_ret;exact ⟨by rw [q.out];rfl,a⟩)
    have a3:¬ (0:Int)<(u:Int):=qO;have q:Hid (S=false):=qH (by rw [m.out,LB e1,LB e2];rfl)
    first
     | (exfalso;omega)
     | (go_wp2
        go_ret;exact ⟨by rw [q.out];simp_all,a⟩)
  | some j =>
    have I:=r.out j hbn;have ad:¬ nx = -1:=qO;have m:Hid (S=(decide (u=25) && (filD k vs z l).used j)):=qH (by rw [D.out,hbn]);subst I;have HG:=qH (XS wr a0 (j:Int));have L:Hid (VE (filD k vs z l) (j:Int)=(filD k vs z l).used j):=qH (by unfold VE;rw [kC qO,zD,XB]);clear O r D hbn C;go_wp2_with fail;refine HG.mono ?_;rintro e w3 (⟨hu,rfl,rfl⟩ | ⟨y,v',hy,W,_,rfl,_,N⟩)
    · have q:Hid (S=false):=qH (by rw [m.out,<-L.out,hu,UG]);clear hu m L;by_cases e1:(u:Int)=25
      · first
         | (exfalso;omega)
         | (go_wp2
            go_ret;exact ⟨by rw [q.out];rfl,a⟩)
      first
       | (exfalso;omega)
       | (go_wp2
          go_ret;exact ⟨by rw [q.out];simp_all,a⟩)
    have U:(filD k vs z l).used j=true:=aM.2 ⟨y,by rw [XB] at hy;exact hy,W⟩;have q:Hid (S=decide (u=25)):=qH (by rw [m.out,U,Bool.and_true]);have V:=qH (a.trans N qf);have a4:=(t.same N).cell 1;simp only [YC,rC,LC] at a4;clear U hy W N m L;by_cases e1:(u:Int)=25
    · have M:Hid (S=true):=qH (by rw [q.out,kC qO])
      first
       | (exfalso;omega)
       | (go_wp2
          go_ret;exact ⟨by rw [M.out];rfl,V⟩)
    have M:Hid (S=false):=qH (by rw [q.out,LB qO])
    first
     | (exfalso;omega)
     | (go_wp2
        go_ret;exact ⟨by rw [M.out];simp_all,V⟩)
end
end Go.Proofs.YtmkjfhnlnhceiaaGreatDoor
