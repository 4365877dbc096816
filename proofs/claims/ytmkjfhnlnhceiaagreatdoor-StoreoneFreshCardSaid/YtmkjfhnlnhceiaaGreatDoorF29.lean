/- Lemmas: walks and plain laws. -/
import Derived.Test.YtmkjfhnlnhceiaaGreatDoorF27
import Derived.Test.YtmkjfhnlnhceiaaGreatDoorF28
set_option maxRecDepth 100000
set_option maxHeartbeats 16000000
namespace Go.Proofs.YtmkjfhnlnhceiaaGreatDoor
variable {i k n c:Nat} {labels types l:List ByteArray} {node head:Int} {F:Nat->Prop} {A:Option Addr} {v:List Int}
section
def recN (labels:List ByteArray):Nat->List (NA×Int×Int)->List (Option (List UInt8))
 | _,[]=>[]
 | i,(n,h,p)::l=>List.replicate (n.id.toNat-i) none++some (PD ⟨h,p,n.labels.map (jB labels)⟩)::recN labels (n.id.toNat+1) l
def recR (types:List ByteArray) (L:List L1):Nat->List (GRel×Int)->List (Option (List UInt8))
 | _,[]=>[]
 | i,(r,p)::l=>List.replicate (r.id.toNat-i) none++some (relB ⟨(L[r.id.toNat]?).getD dC,jB types r.type,p⟩)::recR types L (r.id.toNat+1) l
theorem wZ {rs:List (Option (List UInt8))} {d:List UInt8} (h:rs.length<=i):putAt rs i d=rs++(List.replicate (i-rs.length) none++[some d]):=by unfold putAt;rw [show i+1-rs.length=(i-rs.length)+1 by omega,List.replicate_succ',<-vA];rw [List.set_append,aA (by rw [kA,aD];omega)];rw [kA,aD,show i-(rs.length+(i-rs.length))=0 by omega,vA];rfl
def pF {α:Type} (id:α->Int) (i:Nat) (l:List α):Prop:=(∀ x∈l,(i:Int)<=id x)/\(l.map id).Pairwise (fun a b=>a<b)
theorem pF.tail {α:Type} {id:α->Int} {x:α} {l:List α} (h:pF id i (x::l)):pF id ((id x).toNat+1) l:=by obtain ⟨b,a⟩:=h;rw [CB,TE] at a;refine ⟨fun y c=>?_,a.2⟩;have d:=a.1 (id y) (fD c);have e:=b x qS;omega
theorem xU:∀ (l:List (NA×Int×Int)) (i:Nat) (d:List UInt8),some d∈recN labels i l->∃ x∈l,d=PD ⟨x.2.1,x.2.2,x.1.labels.map (jB labels)⟩
 | [],_,_,h=>by cases h
 | (n,hd,p)::l,i,d,h=>by
   rw [recN] at h;rcases YB.1 h with h | h
   · have:=(zL.1 h).2;cases this
   rcases TA.1 h with h | h
   · injection h with h
     exact ⟨(n,hd,p),qS,h⟩
   obtain ⟨x,a,e⟩:=xU l _ d h;exact ⟨x,by simp [a],e⟩
theorem yU {L:List L1}:∀ (l:List (GRel×Int)) (i:Nat) (d:List UInt8),some d∈recR types L i l->∃ x∈l,d=relB ⟨(L[x.1.id.toNat]?).getD dC,jB types x.1.type,x.2⟩
 | [],_,_,h=>by cases h
 | (n,p)::l,i,d,h=>by
   rw [recR] at h;rcases YB.1 h with h | h
   · have:=(zL.1 h).2;cases this
   rcases TA.1 h with h | h
   · injection h with h
     exact ⟨(n,p),qS,h⟩
   obtain ⟨x,a,e⟩:=yU l _ d h;exact ⟨x,by simp [a],e⟩
theorem xZ:∀ (l:List (NA×Int×Int)) (i:Nat),pF (fun x=>x.1.id) i l->∀ x∈l,∃ d,(recN labels i l)[x.1.id.toNat-i]?=some (some d)
 | [],_,_,x,a=>by cases a
 | (n,hd,p)::l,i,hr,x,a=>by
   have b:=hr.1 (n,hd,p) qS;simp only at b;rw [recN];rcases TA.1 a with rfl | a
   · rw [WG (by rw [aD];exact lA _),aD,SD];exact ⟨_,rfl⟩
   have c:=hr.tail.1 x a;simp only at c;obtain ⟨d,e⟩:=xZ l (n.id.toNat+1) hr.tail x a;refine ⟨d,?_⟩;rw [WG (by rw [aD];omega),aD,show x.1.id.toNat-i-(n.id.toNat-i)=(x.1.id.toNat-(n.id.toNat+1))+1 by omega,LC];exact e
theorem yZ {labels:List ByteArray} {m:Nat}:∀ (l:List (NA×Int×Int)) (i:Nat),i<=m->(∀ x∈l,x.1.id<(m:Int))->pF (fun x=>x.1.id) i l->i+(recN labels i l).length<=m
 | [],_,h,_,_=>h
 | (n,hd,p)::l,i,h,hm,hr=>by have a:=hr.1 (n,hd,p) (by simp);have b:=hm (n,hd,p) (by simp);simp only at a b;have:=yZ (labels:=labels) l (n.id.toNat+1) (by omega) (fun x c=>hm x (by simp [c])) hr.tail;rw [recN,kA,aD,BA];omega
theorem zZ {types:List ByteArray} {L:List L1}:∀ (l:List (GRel×Int)) (i:Nat),pF (fun x=>x.1.id) i l->i+(recR types L i l).length=endR i (l.map Prod.fst)
 | [],_,_=>rfl
 | (n,p)::l,i,hr=>by have a:=hr.1 (n,p) (by simp);simp only at a;have:=zZ (types:=types) (L:=L) l (n.id.toNat+1) hr.tail;rw [recR,kA,aD,BA,CB,endR];simp only;omega
theorem AZ {L:List L1}:∀ (n i:Nat) (l:List (Option (List UInt8))),eG L i (List.replicate n none++l)=eG L (i+n) l
 | 0,_,_=>rfl
 | n+1,i,l=>by rw [VG,EB,eG,AZ n];congr 1;omega
theorem BZ {f:Int->List Nat->List Nat->Except Int (List GPr×List Nat×List Nat)}:∀ (n i:Nat) (l:List (Option (List UInt8))) (mp mb:List Nat),XH labels f i (List.replicate n none++l) mp mb=XH labels f (i+n) l mp mb
 | 0,_,_,_,_=>rfl
 | n+1,i,l,mp,mb=>by rw [VG,EB,XH,BZ n];congr 1;omega
theorem CZ {a:List UInt8->Option R1} {f:Int->List Nat->List Nat->Except Int (List GPr×List Nat×List Nat)}:∀ (n i:Nat) (l:List (Option (List UInt8))) (mp mb:List Nat),YH types a f i (List.replicate n none++l) mp mb=YH types a f (i+n) l mp mb
 | 0,_,_,_,_=>rfl
 | n+1,i,l,mp,mb=>by rw [VG,EB,YH,CZ n];congr 1;omega
theorem DZ {L:List L1}:∀ (l:List (NA×Int×Int)) (i:Nat),pF (fun x=>x.1.id) i l ->
 (∀ x∈l,bE ⟨x.2.1,x.2.2,x.1.labels.map (jB labels)⟩=true/\∃ ids,QC L x.1.id (L.length+1) (-1) x.2.1=.ok ids/\ids.length=(OB L x.1.id).length)->eG L i (recN labels i l)=0
 | [],_,_,_=>rfl
 | (n,hd,p)::l,i,hr,h=>by have d:=hr.1 (n,hd,p) qS;simp only at d;obtain ⟨a,ids,b,c⟩:=h (n,hd,p) qS;simp only at a b c;have e:((i+(n.id.toNat-i):Nat):Int)=n.id:=qO;rw [recN,AZ,eG,fT a];simp only;rw [e,b];simp only;rw [aA (by simp [c]),show i+(n.id.toNat-i)+1=n.id.toNat+1 by omega];exact DZ l _ hr.tail fun x f=>h x (by simp [f])
theorem EZ {types:List ByteArray} {L:List L1}:∀ (l:List (GRel×Int)) (i:Nat),pF (fun x=>x.1.id) i l->L.length=endR i (l.map Prod.fst) ->
 (∀ x∈l,∃ k,L[x.1.id.toNat]?=some k/\cE ⟨k,jB types x.1.type,x.2⟩=true/\k.live=true)->(∀ j,i<=j->j<L.length->(∀ x∈l,x.1.id.toNat≠j)->L[j]?=some dC)->(recR types L i l).map uG=L.drop i
 | [],i,_,hl,_,_=>by rw [BC (by rw [hl];exact lA _)];rfl
 | (r,p)::l,i,hr,hl,hx,hn=>by
   have e:=hr.1 (r,p) (by simp);simp only at e;obtain ⟨k,b,d,o⟩:=hx (r,p) (by simp);simp only at b d;have f:=(IA.1 b).1;have ih:=EZ (types:=types) (L:=L) l (r.id.toNat+1) hr.tail (by rw [hl];rfl) (fun x h=>hx x (by simp [h])) fun j u q s=>hn j (by omega) q fun x a=>by
    rcases TA.1 a with rfl | a
    · simp only;omega
    exact s x a
   rw [recR,b,sI,DB,CB,ih,CP];have g:uG (some (relB ⟨k,jB types r.type,p⟩))=k:=by unfold uG;simp only;rw [iT d o]
   have n:uG none=dC:=rfl;rw [g,n];refine fS fun j=>?_;rw [GM];by_cases c:j<r.id.toNat-i
   · rw [PI (by rw [aD];exact c),kN,gA c,hn (i+j) (by omega) (by omega) fun x a=>?_];rcases TA.1 a with rfl | a
     · simp only;omega
     have:=hr.tail.1 x a;simp only at this;omega
   rw [WG (by rw [aD];omega),aD];obtain ⟨m,t⟩:∃ m,j-(r.id.toNat-i)=m:=⟨_,rfl⟩
   rw [t];cases m with
   | zero=>rw [rC,show i+j=r.id.toNat by omega,b]
   | succ m=>rw [LC,GM,show r.id.toNat+1+m=i+j by omega]
def AG (l:List (List GPr)):Nat:=(l.map fun ps=>25*ps.length+psW ps).sum
def cntP (l:List (List GPr)):Nat:=(l.map List.length).sum
section
variable {keys labels types:List ByteArray}
theorem FZ (o:keys.length<=200) (q:noText ∉ keys) {ps:List GPr} (r:PsOk keys ps) (t:ps.length<=16) {P:List (Option (List UInt8))} {sg:List (List UInt8)} (hP:P.length+ps.length<=65536)
 (hr:25*(dB 0 sg).length+(25*ps.length+psW ps)<=1638400):
 ∃ P2 sg2 f,layP keys ps P (segR sg)=((P++P2,segR (sg++sg2)),f)/\inP f (-1) 65536=true/\P2.length=ps.length/\25*(dB 0 (sg++sg2)).length<=25*(dB 0 sg).length+(25*ps.length+psW ps) /\
  eL keys P2 /\
  (∀ (s:St1) (sgF:List (List UInt8)),s.keys=keys->SegF s.blobs sgF->(P++P2) <+: s.props.recs->(sg++sg2) <+: sgF->∀ mp mb,Met P.length sg mp mb->∃ mp' mb',MB s 16 [] (-1) f mp mb=.ok (ps,mp',mb')/\Met (P++P2).length (sg++sg2) mp' mb'):=by
 obtain ⟨P2,sg2,g,d,h,i,j⟩:=vZ o q (first:=P.length) (n:=ps.length) hP ps 0 P sg rfl qO r hr;refine ⟨P2,sg2,_,by unfold layP;rw [g],?_,d,h,i,fun s sgF a k b c mp mb l=>?_⟩
 · rw [NB];cases ps with
   | nil=>rw [gA rfl];omega
   | cons p ps=>rw [aA (NJ _ _)];simp only [BA] at hP;omega
 obtain ⟨mp',mb',e,m⟩:=j s sgF a k b c 16 [] mp mb t qS l;rw [aA (JH 0)] at e;exact ⟨mp',mb',e,by rw [kA,d];exact m⟩
theorem GZ (a0:keys.length<=200) (a1:noText ∉ keys) (a2:labels.length<=200) (a3:labels.Pairwise ltS):
 ∀ (l:List (NA×Int)) (b:Bs1) (sg:List (List UInt8)),b.blobs=segR sg->pF (fun x=>x.1.id) b.nodes.length l->(∀ x∈l,inP x.2 (-1) 2048=true/\PsOk keys x.1.props/\x.1.props.length<=16/\(∀ t∈x.1.labels,t∈labels)/\x.1.labels.Pairwise ltS/\x.1.labels.length<=8) ->
  b.props.length+cntP (l.map fun x=>x.1.props)<=65536->25*(dB 0 sg).length+AG (l.map fun x=>x.1.props)<=1638400 ->
  ∃ P2 sg2 l2,yG labels keys l b=⟨b.nodes++recN labels b.nodes.length l2,b.rels,b.props++P2,segR (sg++sg2)⟩/\l2.map (fun x=>(x.1,x.2.1))=l/\P2.length=cntP (l.map fun x=>x.1.props) /\
   25*(dB 0 (sg++sg2)).length<=25*(dB 0 sg).length+AG (l.map fun x=>x.1.props)/\eL keys P2 /\
   (∀ x∈l2,bE ⟨x.2.1,x.2.2,x.1.labels.map (jB labels)⟩=true) /\
   (∀ (s:St1) (sgF:List (List UInt8)),s.keys=keys->SegF s.blobs sgF->(b.props++P2) <+: s.props.recs->(sg++sg2) <+: sgF->∀ mp mb,Met b.props.length sg mp mb->∃ mp' mb',XH labels (MB s 16 [] (-1)) b.nodes.length (recN labels b.nodes.length l2) mp mb=.ok (l.map Prod.fst,mp',mb')/\Met (b.props++P2).length (sg++sg2) mp' mb')
 | [],b,sg,hb,_,_,_,_=>⟨[],[],[],by simp [yG,recN,<-hb],rfl,rfl,by simp [AG],by simp [eL],qS,fun _ _ _ _ _ _ mp mb k=>⟨mp,mb,rfl,by simpa using k⟩⟩
 | (n,hd)::l,b,sg,hb,hr,a,hP,hc=>by
   obtain ⟨v,w,y,m,z,A⟩:=a (n,hd) qS;simp only at v w y m z A;have C:=hr.1 (n,hd) qS;simp only at C;simp only [CB,AG,cntP,nI] at hP hc ⊢;obtain ⟨P2,sg2,f,E,F,G,Z,H,I⟩:=FZ a0 a1 w y (P:=b.props) (sg:=sg) qO qO;have e:bE ⟨hd,f,n.labels.map (jB labels)⟩=true:=by unfold bE;simp only [kB];exact ⟨v,F,sZ a3 a2 m z A⟩
   have g:putAt b.nodes n.id.toNat (PD ⟨hd,f,n.labels.map (jB labels)⟩)=b.nodes++(List.replicate (n.id.toNat-b.nodes.length) none++[some (PD ⟨hd,f,n.labels.map (jB labels)⟩)]):=wZ qO;have i:(putAt b.nodes n.id.toNat (PD ⟨hd,f,n.labels.map (jB labels)⟩)).length=n.id.toNat+1:=by rw [g,kA,kA,aD,GG];omega
   obtain ⟨L,o,M,p,N,O,R,S,T,q⟩:=GZ a0 a1 a2 a3 l { b with nodes:=putAt b.nodes n.id.toNat (PD ⟨hd,f,n.labels.map (jB labels)⟩),props:=b.props++P2,blobs:=segR (sg++sg2) } (sg++sg2) rfl
    (by simp only;rw [i];exact hr.tail) (fun x h=>a x (by simp [h])) (by simp only [kA];unfold cntP;omega) (by unfold AG;omega)
   simp only at p q;rw [i] at p q;refine ⟨P2++L,sg2++o,(n,hd,f)::M,?_,by rw [CB,N],by rw [kA,G,O];rfl,?_,?_,?_,fun s sgF j B c d mp mb k=>?_⟩
   · rw [yG];rw [hb,E];simp only;rw [p,g,recN,vA,vA,vA,vA];rfl
   · rw [<- vA];unfold AG at R;omega
   · intro x a;rcases YB.1 a with a | a
     · exact H x a
     exact S x a
   · intro x a;rcases TA.1 a with rfl | a
     · exact e
     exact T x a
   rw [<- vA] at c d ⊢;rw [<- vA];obtain ⟨r,u,U,V⟩:=I s sgF j B (BN (VI _ _) c) (BN (VI _ _) d) mp mb k;obtain ⟨mp',mb',W,X⟩:=q s sgF j B c d r u V;refine ⟨mp',mb',?_,X⟩;rw [recN,BZ,XH,fT e];simp only;rw [U];simp only;rw [show b.nodes.length+(n.id.toNat-b.nodes.length)+1=n.id.toNat+1 by omega,W];simp only;have D:(n.labels.map (jB labels)).map (FB labels)=n.labels:=by rw [MC];refine (kG fun t Y=>?_).trans (FL _);exact pK (m t Y)
   rw [D,show ((b.nodes.length+(n.id.toNat-b.nodes.length):Nat):Int)=n.id by omega]
theorem IZ (a0:keys.length<=200) (a1:noText ∉ keys) (a2:types.length<=200) {L:List L1}:
 ∀ (l:List GRel) (b:Bs1) (sg:List (List UInt8)),b.blobs=segR sg->pF GRel.id b.rels.length l->(∀ x∈l,PsOk keys x.props/\x.props.length<=16/\x.type∈types/\∃ k,L[x.id.toNat]?=some k/\AI k=true/\k.live=true/\k.src=x.src/\k.dst=x.dst) ->
  b.props.length+cntP (l.map GRel.props)<=65536->25*(dB 0 sg).length+AG (l.map GRel.props)<=1638400 ->
  ∃ P2 sg2 l2,zG types keys L l b=⟨b.nodes,b.rels++recR types L b.rels.length l2,b.props++P2,segR (sg++sg2)⟩/\l2.map Prod.fst=l/\P2.length=cntP (l.map GRel.props) /\
   25*(dB 0 (sg++sg2)).length<=25*(dB 0 sg).length+AG (l.map GRel.props)/\eL keys P2 /\
   (∀ x∈l2,∃ k,L[x.1.id.toNat]?=some k/\cE ⟨k,jB types x.1.type,x.2⟩=true/\k.live=true) /\
   (∀ (s:St1) (sgF:List (List UInt8)),s.keys=keys->SegF s.blobs sgF->(b.props++P2) <+: s.props.recs->(sg++sg2) <+: sgF->∀ mp mb,Met b.props.length sg mp mb->∃ mp' mb',YH types getR (MB s 16 [] (-1)) b.rels.length (recR types L b.rels.length l2) mp mb=.ok (l,mp',mb')/\Met (b.props++P2).length (sg++sg2) mp' mb')
 | [],b,sg,hb,_,_,_,_=>⟨[],[],[],by simp [zG,recR,<-hb],rfl,rfl,by simp [AG],by simp [eL],qS,fun _ _ _ _ _ _ mp mb n=>⟨mp,mb,rfl,by simpa using n⟩⟩
 | r::l,b,sg,hb,hr,a,hP,hc=>by
   obtain ⟨z,A,v,k,m,B,w,C,D⟩:=a r qS;have Z:=hr.1 r qS;simp only [CB,AG,cntP,nI] at hP hc ⊢;obtain ⟨P2,sg2,f,E,F,G,e4,H,I⟩:=FZ a0 a1 z A (P:=b.props) (sg:=sg) qO qO;have e:cE ⟨k,jB types r.type,f⟩=true:=by unfold cE;simp only [kB];exact ⟨B,UQ v a2,F⟩
   have g:putAt b.rels r.id.toNat (relB ⟨k,jB types r.type,f⟩)=b.rels++(List.replicate (r.id.toNat-b.rels.length) none++[some (relB ⟨k,jB types r.type,f⟩)]):=wZ qO;have i:(putAt b.rels r.id.toNat (relB ⟨k,jB types r.type,f⟩)).length=r.id.toNat+1:=by rw [g,kA,kA,aD,GG];omega
   obtain ⟨M,o,N,p,O,R,S,T,U,q⟩:=IZ a0 a1 a2 l { b with rels:=putAt b.rels r.id.toNat (relB ⟨k,jB types r.type,f⟩),props:=b.props++P2,blobs:=segR (sg++sg2) } (sg++sg2) rfl
    (by simp only;rw [i];exact hr.tail) (fun x h=>a x (by simp [h])) (by simp only [kA];unfold cntP;omega) (by unfold AG;omega)
   simp only at p q;rw [i] at p q;refine ⟨P2++M,sg2++o,(r,f)::N,?_,by rw [CB,O],by rw [kA,G,R];rfl,?_,?_,?_,fun s sgF j y c d mp mb n=>?_⟩
   · rw [zG];rw [hb,E,m,sI];simp only;rw [p,g,recR,m,sI,vA,vA,vA,vA];rfl
   · rw [<- vA];unfold AG at S;omega
   · intro x a;rcases YB.1 a with a | a
     · exact H x a
     exact T x a
   · intro x a;rcases TA.1 a with rfl | a
     · exact ⟨k,m,e,w⟩
     exact U x a
   rw [<- vA] at c d ⊢;rw [<- vA];obtain ⟨t,u,V,W⟩:=I s sgF j y (BN (VI _ _) c) (BN (VI _ _) d) mp mb n;obtain ⟨mp',mb',X,Y⟩:=q s sgF j y c d t u W;refine ⟨mp',mb',?_,Y⟩;rw [recR,m,sI,CZ,YH,iT e w];simp only;rw [V];simp only;rw [show b.rels.length+(r.id.toNat-b.rels.length)+1=r.id.toNat+1 by omega,X];simp only;rw [pK v,C,D,show ((b.rels.length+(r.id.toNat-b.rels.length):Nat):Int)=r.id by omega]
end
theorem zU {α:Type} (f:α->List GPr):∀ l:List α,AG (l.map f)=25*(l.flatMap f).length+psW (l.flatMap f)/\cntP (l.map f)=(l.flatMap f).length
 | []=>⟨rfl,rfl⟩
 | x::l=>by obtain ⟨a,b⟩:=zU f l;unfold AG at a ⊢;unfold cntP at b ⊢;rw [CB,CB,nI,a,CB,nI,b,iD,kA,WT];omega
theorem JZ:∀ (k:Nat) (first:Bool) (i:Nat) (b:List UInt8),b.length<=25+25*k->∀ d∈eC k first i b,d.length=31
 | 0,first,i,b,h,d,a=>by rw [eC,QB] at a;rw [a,sO qO]
 | k+1,first,i,b,h,d,a=>by
   rw [eC] at a;split at a
   · rw [QB] at a;rw [a,sO qO]
   rcases TA.1 a with rfl | a
   · exact sO (by rw [RB];omega)
   exact JZ k false (i+1) _ (by rw [QA];omega) d a
theorem KZ:∀ (sg:List (List UInt8)) (o:Nat),∀ d∈dB o sg,d.length=31
 | [],_,d,a=>by cases a
 | x::sg,o,d,a=>by
   rw [dB] at a;rcases YB.1 a with a | a
   · exact JZ _ _ _ _ qO d a
   exact KZ sg _ d a
structure zO (f:YA) (k z m:Nat):Prop where
 kind:f.kind=k
 version:f.version=1
 size:f.size=z
 ok:f.Ok
 len:f.recs.length<=m
theorem VQ {f:YA} {z m:Nat} (h:zO f k z m) (hk:k<=255) (hz:2<=z) (a:z<=255) (hm:m<=65536):OE (BB f) k z=.ok f:=by unfold OE;rw [fW h.ok (by rw [h.kind];exact hk) (by rw [h.version];decide) (by rw [h.size];exact hz) (by rw [h.size];exact a) (tA h.len hm)];simp only;rw [aA (by rw [h.kind,h.size];simp),aA (by rw [h.version];simp)]
structure TabK (l:List ByteArray):Prop where
 good:∀ t∈l,VB t=true
 sort:l.Pairwise ltS
 len:l.length<=200
theorem TabK.nodup (h:TabK l):l.Nodup:=h.sort.imp fun {a b} h (e:a=b)=>QD.irr b (by rw [e] at h;exact h)
theorem TabK.noText (h:TabK l):noText ∉ l:=fun b=>by have a:=h.good _ b;cases a
theorem TabK.tab (h:TabK l) (hk:k<=255):tabP (BB (tabF k 1 l)) k 1=.ok l:=ZrM hk qD h.good h.nodup h.len
theorem Zrf {s:St1} (hl:TabK s.labels) (ht:TabK s.types) (hk:TabK s.keys) (hn:zO s.nodes 4 17 1024) (hr:zO s.rels 5 31 2048) (hp:zO s.props 6 20 65536) (hb:zO s.blobs 8 32 65536) (hc:tH s.blobs=0):BF (EF s)=.ok s:=by
 have a:∀ {α β:Type} (x:α) (f:α->Except Int β),((Except.ok x:Except Int α) >>= f)=f x:=fun _ _=>rfl;unfold BF;rw [show (EF s).map DD.name=VH from rfl,aA qS,show GC (EF s) 3=sH++[1] from rfl,aA qD,aA qD,show GC (EF s) 2=BB (tabF 1 1 s.labels) from rfl,hl.tab qD,
  show GC (EF s) 7=BB (tabF 2 1 s.types) from rfl,ht.tab qD,show GC (EF s) 1=BB (tabF 3 1 s.keys) from rfl,hk.tab qD,show GC (EF s) 4=BB s.nodes from rfl,VQ hn qD qD qD qD,
  show GC (EF s) 6=BB s.rels from rfl,VQ hr qD qD qD qD,show GC (EF s) 5=BB s.props from rfl,VQ hp qD qD qD qD,
  show GC (EF s) 0=BB s.blobs from rfl,VQ hb qD qD qD qD]
 simp only [a];rw [aA (by rw [hc];simp),aA (qt hn.len),aA (qt hr.len)]
theorem LZ:∀ (d:Option ByteArray) (l:List ByteArray),fH d l=0->∀ p∈l,VB p=true
 | _,[],_=>qS
 | d,q::l,h=>by
   simp only [fH] at h;by_cases a:VB q=false
   · rw [gA a] at h;cases h
   rw [aA a] at h;by_cases c:qG q d=true
   · rw [gA c] at h;cases h
   rw [aA c] at h;intro p b;rcases TA.1 b with rfl | b
   · simpa using a
   exact LZ _ l h p b
theorem MZ:∀ (e:Option ByteArray) (l:List GPr),LG e l=0->∀ p∈l,VB p.key=true
 | _,[],_=>qS
 | e,q::l,h=>by
   simp only [LG] at h;by_cases a:VB q.key=false
   · rw [gA a] at h;cases h
   rw [aA a] at h;by_cases d:qG q.key e=true
   · rw [gA d] at h;cases h
   rw [aA d] at h;by_cases b:chk q.val≠0
   · rw [gA b] at h;exact absurd h b
   rw [aA b] at h;intro p c;rcases TA.1 c with rfl | c
   · simpa using a
   exact MZ _ l h p c
theorem Zkd (h:mF l=0):∀ p∈l,VB p=true:=by
 unfold mF at h;by_cases a:8<l.length
 · rw [gA a] at h;cases h
 rw [aA a] at h;exact LZ _ _ h
theorem NZ {l:List GPr} (h:IE l=0):∀ p∈l,VB p.key=true:=by
 unfold IE at h;by_cases a:16<l.length
 · rw [gA a] at h;cases h
 rw [aA a] at h;exact MZ _ _ h
theorem QZ (th:Int->Bool):∀ (g:Option Int) (i:Nat) (l:List GRel),JE th g i l=none->∀ x∈l,VB x.type=true
 | _,_,[],_=>qS
 | g,i,y::l,h=>by
   simp only [JE] at h;by_cases a:aG th g y=0
   · rw [aA (by rw [a];simp)] at h;have f:=QZ th _ _ l h;unfold aG at a;by_cases c:y.id<0\/2048<=y.id
     · rw [gA c] at a;cases a
     rw [aA c] at a;by_cases d:bF y.id g=true
     · rw [gA d] at a;cases a
     rw [aA d] at a;by_cases e:VB y.type=false
     · rw [gA e] at a;cases a
     intro x b;rcases TA.1 b with rfl | b
     · simpa using e
     exact f x b
   rw [gA a] at h;cases h
theorem RZ {g:WB} (h:(chkP g).1=0):TabK (AB g 1)/\TabK (AB g 2)/\TabK (AB g 3):=by
 obtain ⟨j,_⟩:=nO h;obtain ⟨m,k⟩:=eK j;have i:=pM _ _ _ m;have l:=(rM _ _ _ _ k).2;have d:(AB g 1).length<=200/\(AB g 2).length<=200/\(AB g 3).length<=200:=by
  unfold chkP dK at h;rw [j] at h;simp only at h;unfold cK at h;split at h
  · cases h
  omega
 refine ⟨⟨fun t c=>?_,(NE g 1).sorted,d.1⟩,⟨fun t c=>?_,(NE g 2).sorted,d.2.1⟩,⟨fun t c=>?_,(NE g 3).sorted,d.2.2⟩⟩
 · obtain ⟨n,a,b⟩:=ED.1 (((NE g 1).mem t).1 c);exact Zkd (i n a).1 t b
 · obtain ⟨r,e,rfl⟩:=fC.1 (((NE g 2).mem t).1 c);exact QZ _ _ _ _ k r e
 rcases YB.1 (((NE g 3).mem t).1 c) with c | c
 · obtain ⟨n,a,b⟩:=ED.1 c;obtain ⟨p,f,rfl⟩:=fC.1 b;exact NZ (i n a).2 p f
 obtain ⟨n,a,b⟩:=ED.1 c;obtain ⟨p,f,rfl⟩:=fC.1 b;exact NZ (l n a) p f
theorem SZ {g:WB} (h:(chkP g).1=0) (hf:mO g):eF (EF (wH g))=.ok g:=by
 obtain ⟨hh,hw⟩:=nO h;obtain ⟨I,a1,G⟩:=RZ h;have R:tE g=g:=(pY hh).1;obtain ⟨h1,h2⟩:=eK hh;obtain ⟨av,aw⟩:=jO hh;have T:=(CQ _ _ _ h1).1;have U:=pM _ _ _ h1;have v:=(WK _ _ _ h1).2;obtain ⟨⟨a2,_⟩,M⟩:=rM _ _ _ _ h2;have z:=EQ _ _ _ _ h2;have a5:∀ n∈g.nodes,∀ t∈n.labels,t∈AB g 1:=fun n w t ht=>((NE g 1).mem t).2 (ED.2 ⟨n,w,ht⟩);have a6:∀ r∈g.rels,r.type∈AB g 2:=fun r C=>((NE g 2).mem _).2 (fD C);have a7:∀ n∈g.nodes,∀ p∈n.props,p.key∈AB g 3:=fun n w p B=>((NE g 3).mem _).2 (BP _ (ED.2 ⟨n,w,fD B⟩));have a8:∀ n∈g.rels,∀ p∈n.props,p.key∈AB g 3:=fun n w p B=>((NE g 3).mem _).2 (cS _ (ED.2 ⟨n,w,fD B⟩));have nd:∀ {ps:List GPr},IE ps=0->(ps.map GPr.key).Nodup:=fun B=>(DQ B).imp fun {a b} hl (e:a=b)=>QD.irr b (by rw [e] at hl;exact hl);have af:∀ n∈g.nodes,PsOk (AB g 3) n.props:=fun n w=>⟨fun p B=>⟨a7 n w p B,((gK (U n w).2).2 p B).2,hf.nodes n w p B⟩,nd (U n w).2⟩
 have ag:∀ n∈g.rels,PsOk (AB g 3) n.props:=fun n w=>⟨fun p B=>⟨a8 n w p B,((gK (M n w)).2 p B).2,hf.rels n w p B⟩,nd (M n w)⟩
 obtain ⟨L0,ab⟩:=qx (yE g.rels []);obtain ⟨b1,_,b3,b4⟩:=qU g.rels [] (fun r C=>(z r C).1.1) a2;rw [ab] at b1 b3 b4;simp only [mC] at b1;have a9:L0.length<=2048:=by rw [b1];exact rU g.rels 0 qO fun r C=>(z r C).1
 obtain ⟨S,_,t3,t4⟩:=nU g.nodes L0 (T.imp fun h e=>qO);have ah:∀ l∈L0,uM l:=fun l hl=>by
  obtain ⟨i,hi,e⟩:=pS.1 hl;by_cases hu:∃ r∈g.rels,r.id.toNat=i
  · obtain ⟨r,C,rfl⟩:=hu;have:=b3 r C;rw [FA hi,e] at this;injection this with this
    rw [this];exact ⟨rfl,rfl,rfl,rfl⟩
  have:=b4 i (oA _) hi fun r C he=>hu ⟨r,C,he⟩;rw [FA hi,e] at this;injection this with this
  rw [this];exact ⟨rfl,rfl,rfl,rfl⟩
 have t5:=oU g.nodes L0 a9 ah;have t6:=pU g.nodes L0 a9;obtain ⟨L,N,hL⟩:∃ L N,tD g.nodes L0=(L,N):=⟨_,_,rfl⟩
 rw [hL] at S t3 t4 t5 t6;simp only at S t3 t4 t5 t6;have V:∀ y,QH g y=true->∃ n∈g.nodes,n.id=y:=fun y hy=>fC.1 (MJ hy);have aa:∀ x∈g.rels,∃ k,L[x.id.toNat]?=some k/\AI k=true/\k.live=true/\k.src=x.src/\k.dst=x.dst:=fun x c=>by obtain ⟨k,k1,k2,k3,k4,_⟩:=S.at_ _ _ (b3 x c);obtain ⟨p1,p2,p3,p4⟩:=t5 k (OC k1);obtain ⟨n1,m1,e1⟩:=V _ (z x c).2.2.1;obtain ⟨n2,m2,e2⟩:=V _ (z x c).2.2.2;have i1:=(v n1 m1).1;have i2:=(v n2 m2).1;refine ⟨k,k1,?_,k2,k3,k4⟩;unfold AI;simp only [kB];rw [k3,k4];exact ⟨NB.2 (by simp only;omega),NB.2 (by simp only;omega),p1,p2,p3,p4⟩
 have zf:(g.nodes.zip N).map Prod.fst=g.nodes:=List.map_fst_zip (by rw [t3];exact lA _);have W:∀ x∈g.nodes.zip N,x.1∈g.nodes/\x.2∈N:=fun x c=>List.of_mem_zip c;have zp:(g.nodes.zip N).map (fun x=>x.1.props)=g.nodes.map NA.props:=by have:=tB (List.map NA.props) zf;rwa [MC] at this
 have zi:(g.nodes.zip N).map (fun x=>x.1.id)=g.nodes.map NA.id:=by have:=tB (List.map NA.id) zf;rwa [MC] at this
 obtain ⟨a3,a4⟩:=zU NA.props g.nodes;obtain ⟨ac,ad⟩:=zU GRel.props g.rels;have fN:=XK NA.props 16 g.nodes fun x c=>(v x c).2.2;have fR:=XK GRel.props 16 g.rels fun x c=>(gK (M x c)).1;unfold WB.wt at hw;obtain ⟨P2,A,D,e1,e2,e3,e4,e5,e6,e7⟩:=GZ (keys:=AB g 3) (labels:=AB g 1) G.len G.noText I.len I.sort (g.nodes.zip N) ⟨[],[],[],[]⟩ [] rfl
  ⟨fun x c=>(v x.1 (W x c).1).1.1,by rw [zi];exact T⟩
  (fun x c=>⟨t6 _ (W x c).2,af _ (W x c).1,(v x.1 (W x c).1).2.2,a5 _ (W x c).1,TT (U _ (W x c).1).1,(v x.1 (W x c).1).2.1⟩)
  (by rw [zp,a4];simp only [mC];omega) (by rw [zp,a3];simp only [dB,mC];omega)
 rw [zp] at e3 e4;rw [zf] at e7;obtain ⟨P3,H,O,g1,g2,g3,g4,g5,g6,g7⟩:=IZ (keys:=AB g 3) (types:=AB g 2) G.len G.noText a1.len (L:=L) g.rels ⟨[]++recN (AB g 1) 0 D,[],[]++P2,segR ([]++A)⟩ ([]++A) rfl
  ⟨fun x c=>(z x c).1.1,a2⟩ (fun x c=>⟨ag x c,(gK (M x c)).1,a6 x c,aa x c⟩)
  (by simp only [SB];rw [e3,a4,ad];omega) (by rw [ac];rw [a3] at e4;simp only [dB,mC] at e4;omega)
 simp only [SB,mC] at e1 e4 e7 g1 g4 g7;obtain ⟨s,ae⟩:=qx (wH g);have o:s=⟨AB g 1,AB g 2,AB g 3,⟨4,1,17,recN (AB g 1) 0 D⟩,⟨5,1,31,recR (AB g 2) L 0 O⟩,⟨6,1,20,P2++P3⟩,⟨8,1,32,segR (A++H)⟩⟩:=by rw [<- ae];unfold wH;rw [ab,hL];simp only;rw [e1,g1]
 have X:SegF s.blobs (A++H):=by rw [o];refine ⟨rfl,rfl,?_⟩;rw [ac] at g4;rw [a3] at e4;simp only [dB,mC] at e4;omega
 have sl:s.labels=AB g 1:=by rw [o]
 have st:s.types=AB g 2:=by rw [o]
 have sk:s.keys=AB g 3:=by rw [o]
 have sn:s.nodes.recs=recN (AB g 1) 0 D:=by rw [o]
 have sr:s.rels.recs=recR (AB g 2) L 0 O:=by rw [o]
 have sp:s.props.recs=P2++P3:=by rw [o]
 have Y:D.map (fun x=>x.1)=g.nodes:=by have:=tB (List.map Prod.fst) e2;rw [zf,MC] at this;exact this
 have m2:∀ x∈D,x.1∈g.nodes:=fun x c=>Y ▸ fD c;have m3:∀ x∈O,x.1∈g.rels:=fun x c=>g2 ▸ fD c;have r2:pF (fun x:NA×Int×Int=>x.1.id) 0 D:=⟨fun x c=>(v _ (m2 x c)).1.1,by
  have:D.map (fun x=>x.1.id)=g.nodes.map NA.id:=by rw [<- Y,MC];rfl
  rw [this];exact T⟩
 have r3:pF (fun x:GRel×Int=>x.1.id) 0 O:=⟨fun x c=>(z _ (m3 x c)).1.1,by
  have:O.map (fun x=>x.1.id)=g.rels.map GRel.id:=by rw [<- g2,MC];rfl
  rw [this];exact a2⟩
 have E:∀ x∈P2++P3,∃ d,x=some d/\d.length=19/\∃ y,getP d=some y/\FB (AB g 3) y.key≠noText:=fun x c=>by
  rcases YB.1 c with c | c
  · exact e5 x c
  exact g5 x c
 have Z:BF (EF s)=.ok s:=by
  refine Zrf (sl ▸ I) (st ▸ a1) (sk ▸ G) ⟨by rw [o],by rw [o],by rw [o],fun d u=>?_,?_⟩ ⟨by rw [o],by rw [o],by rw [o],fun d u=>?_,?_⟩ ⟨by rw [o],by rw [o],by rw [o],fun d u=>?_,?_⟩ ⟨by rw [o],by rw [o],by rw [o],fun d u=>?_,?_⟩ X.check
  · rw [sn] at u;obtain ⟨x,c,rfl⟩:=xU D 0 d u;rw [eT (e6 x c),o]
  · rw [sn];have:=yZ (labels:=AB g 1) (m:=1024) D 0 qO (fun x c=>(v _ (m2 x c)).1.2) r2;omega
  · rw [sr] at u;obtain ⟨x,c,rfl⟩:=yU O 0 d u;rw [gT,o]
  · rw [sr];have:=zZ (types:=AB g 2) (L:=L) O 0 r3;rw [g2] at this;omega
  · rw [sp] at u;obtain ⟨d',e,h9,_⟩:=E _ u;replace e:=eB e;rw [e,h9,o]
  · rw [sp,kA,e3,g3,a4,ad];omega
  · have ai:some d∈(dB 0 (A++H)).map some:=X.recs ▸ u;obtain ⟨d',ao,e⟩:=fC.1 ai;replace e:=eB e;subst e;rw [KZ _ _ _ ao,o]
  rw [X.nlen];exact X.len
 have aj:dF s.rels=L:=by
  show s.rels.recs.map uG=L;rw [sr,EZ O 0 r3 (by rw [S.len,b1,g2]) g6 fun j _ hj ap=>?_,TF];obtain ⟨k,k1,_,_,_,k5⟩:=S.at_ j _ (b4 j (oA _) (by rw [<- S.len];exact hj) fun r C=>by rw [<- g2] at C;obtain ⟨x,c,rfl⟩:=fC.1 C;exact ap x c)
  rw [k1,k5 rfl]
 obtain ⟨aq,ar,n1,n2⟩:=e7 s (A++H) sk X (by rw [sp];exact VI _ _) (VI _ _) [] [] ⟨rfl,qS,qS,by simp [nD]⟩;obtain ⟨ax,ay,n3,n4⟩:=g7 s (A++H) sk X (by rw [sp];exact List.prefix_refl _) (List.prefix_refl _) aq ar n2;have ak:sD (CF s) s.nodes.recs=0:=yO.2 fun d u=>by rw [sn] at u;obtain ⟨x,c,rfl⟩:=xU D 0 d u;unfold CF;rw [fT (e6 x c)];simp only;rw [aA];rw [oS,uL];intro i hi;obtain ⟨t,ht,rfl⟩:=fC.1 hi;have F:=a5 _ (m2 x c) t ht;rw [sl,pK F];simp only [NC];exact fun e=>I.noText (e ▸ F)
 have hU:∀ y,QH g y=true->VE s.nodes y=true:=fun y hy=>by obtain ⟨n,w,rfl⟩:=V y hy;rw [<- Y] at w;obtain ⟨x,c,rfl⟩:=fC.1 w;obtain ⟨d,u⟩:=xZ (labels:=AB g 1) D 0 r2 x c;have h0:=(v _ (m2 x c)).1.1;unfold VE;rw [kB,NC];refine ⟨h0,?_⟩;unfold YA.used;rw [sn];rw [BH] at u;rw [u]
 have al:sD (relE s) s.rels.recs=0:=yO.2 fun d u=>by rw [sr] at u;obtain ⟨x,c,rfl⟩:=yU O 0 d u;obtain ⟨k,k1,k2,k3⟩:=g6 x c;obtain ⟨k',P,_,_,k4,k5⟩:=aa x.1 (m3 x c);rw [k1] at P;replace P:=eB P;subst P;unfold relE;rw [k1,sI,iT k2 k3];simp only;have F:=a6 _ (m3 x c);rw [k4,k5,aA (by rw [hU _ (z _ (m3 x c)).2.2.1,hU _ (z _ (m3 x c)).2.2.2];simp),st,pK F,aA];exact fun e=>a1.noText (e ▸ F)
 have am:sD (DF s) s.props.recs=0:=yO.2 fun d u=>by rw [sp] at u;obtain ⟨d',e,_,y,h8,h9⟩:=E _ u;replace e:=eB e;subst e;unfold DF;rw [h8];simp only;rw [sk,aA h9]
 have an:eG (dF s.rels) 0 s.nodes.recs=0:=by
  rw [aj,sn];refine DZ D 0 r2 fun x c=>⟨e6 x c,?_⟩
  have hz:(x.1,x.2.1)∈g.nodes.zip N:=e2 ▸ fD (f:=fun x:NA×Int×Int=>(x.1,x.2.1)) c;obtain ⟨au,i1,i2⟩:=t4 _ hz;exact ⟨au,by rw [S.len];exact i1,by rw [S.incid];exact i2⟩
 rw [ae];unfold eF;rw [Z];simp only;unfold den1;rw [aA (by rw [ak];simp),aA (by rw [al];simp),aA (by rw [am];simp),aA (by rw [an];simp),sn,sl,n1];simp only;rw [sr,st,n3];simp only;have a0:s.props.live=(P2++P3).length:=by
  unfold YA.live;rw [sp,lS.2 fun x c=>by obtain ⟨d,rfl,_⟩:=E x c;rfl]
 rw [aA (by rw [a0,n4.len];simp),aA,aA,R]
 · rw [R,h];simp
 rw [oS,uL,X.startE];intro i hi;obtain ⟨q,hq,rfl⟩:=fC.1 hi;simp [n4.all q hq]
end
section
open Go.RowKit
def xM (l:List Int):List Value:=l.map (Value.int .i64)
theorem Zrh (L:List L1) (node:Int) (k:Nat):((List.range (k+1)).filter fun (i:Nat)=>lC L node (i:Int)==0)=((List.range k).filter fun (i:Nat)=>lC L node (i:Int)==0)++if lC L node (k:Int)=0 then [k] else []:=by
 rw [List.range_succ,kI];congr 1;by_cases h:lC L node (k:Int)=0
 · rw [gA h];simp [h]
 rw [aA h];simp [h]
theorem ZsY {L:List L1} {l:L1} (h:L[k]?=some l):lC L node (k:Int)=0↔l.live=true/\kK l node=true:=by
 unfold lC kK;rw [aA qO,XB,h];simp only;cases l.live with
 | false=>simp
 | true =>
   by_cases a:l.src=node <;> by_cases b:l.dst=node <;> simp [a,b]
theorem TZ {L:List L1} (w:World) (h:RdL w F A n c L) (hn:n<=65536) (node:Int):Calls Tryz.prog 53 #[.slice A n c,.int .i64 node] w fun e w' =>
 ∃ v,e=.returned v/\w'.ownsRow w.heap.size 3 1 v (OB L node).length (xM ((OB L node).map fun (i:Nat)=>(i:Int)))/\Same w w':=by
 have U:=qH RdL.len' h;have H0:=qH h;obtain ⟨P,W⟩:∃ P:Nat->List Nat,P=fun k=>(List.range k).filter fun (i:Nat)=>lC L node (i:Int)==0:=⟨_,rfl⟩
 have E:=qH W;clear h W;go_enter Tryz.func53,Tryz.ntmps53;go_wp2_with fail;go_loopg [4,9] n (fun gh v s wr=>∃ (k:Nat) (a:Option Addr) (m y:Nat),n-k=gh/\k<=n/\v=.slice a m y/\s=.int .i64 (k:Int)/\m<=k/\Hid (m=(P k).length)/\Hid (wr.ownsRow w.heap.size 3 1 (.slice a m y) m (xM ((P k).map fun (i:Nat)=>(i:Int))))/\Hid (Same w wr))
 case atStart=>exact ⟨0,none,0,0,rfl,oA _,rfl,rfl,lA _,qH (by rw [E.out];rfl),qH (by rw [E.out];exact iC _ _ _ _),qH (eA _ _)⟩
 obtain ⟨k,a,m,y,rfl,hk,rfl,rfl,hm,H,I,z⟩:=hrel;by_cases M:k<n
 · obtain ⟨b,o,l,rfl,hb,_,X,_,S⟩:=RdL.at7 (aJ H0 z) M;have j1:(k:Int)<(n:Int):=qO;obtain ⟨Y,Z,r2,r3,r4,r5,r6⟩:=S;have u:=qH fun w=>JY w l node;have f:=qH (ZsY (node:=node) X);have j:Hid (P (k+1)=P k++if lC L node (k:Int)=0 then [k] else []):=qH (by rw [E.out];exact Zrh L node k);clear X;obtain ⟨v,s,d,a1,a2,a3,a4⟩:=l;simp only at Y Z r2 r3 r4 r5 r6;unfold L1.cells at u;simp only at u f;have B:=(iA wr).alloc (.cells #[.bool v,.int .i64 s,.int .i64 d,.int .i64 a1,.int .i64 a2,.int .i64 a3,.int .i64 a4] 109);have r:=qH B;clear B;cases v with
   | false =>
     have g:Hid (P (k+1)=P k):=qH (by rw [j.out,aA (by rw [f.out];simp),ZC]);clear u f j;go_wp2;go_roundg (n-(k+1))
     case measure=>omega
     case rel=>exact ⟨k+1,a,m,y,rfl,qO,rfl,qN,qO,qH (by rw [g.out];exact H),qH (by rw [g.out];exact mA I.out r.out),qH (z.trans r qf)⟩
   | true =>
     cases ht:kK ⟨true,s,d,a1,a2,a3,a4⟩ node with
     | false =>
       rw [ht] at u f;have g:Hid (P (k+1)=P k):=qH (by rw [j.out,aA (by rw [f.out];simp),ZC]);clear ht f j;go_wp2_with fail;refine (u.out _).mono ?_;rintro e T ⟨rfl,D⟩;have p:=qH (r.trans D qf);clear D;go_wp2;go_roundg (n-(k+1))
       case measure=>omega
       case rel=>exact ⟨k+1,a,m,y,rfl,qO,rfl,qN,qO,qH (by rw [g.out];exact H),qH (by rw [g.out];exact mA I.out p.out),qH (z.trans p qf)⟩
     | true =>
       rw [ht] at u f;have g:Hid (P (k+1)=P k++[k]):=qH (by rw [j.out,gA (f.2 ⟨rfl,rfl⟩)]);clear ht f j;go_wp2_with fail;refine (u.out _).mono ?_;rintro e T ⟨rfl,D⟩;have p:=qH (r.trans D qf);have t:=mA I.out p.out;have a0:w.heap.size<=T.heap.size:=tA z.size p.size;clear D Y Z r2 r3 r4 r5 r6;go_wp2_with (at_builtin;go_must (refine XD rfl (.tmp 21) (.tmp 23) _ _ rfl w.heap.size 3 1 8 _ mG jK rfl (.slice a m y) m _ rfl (t.alloc _) rfl (GD mG (tI _ _ _) (by simp [Value.oneCell'])) qM qO qP ?_);intro v7 w7 x;obtain ⟨A7,c7,rfl⟩:=WA x.own;have C:=qH x;clear x);have N:=(iA T).alloc (.cells #[.int .i64 (k:Int)] 3);go_roundg (n-(k+1))
       case measure=>omega
       refine ⟨k+1,A7,m+1,c7,rfl,qO,rfl,qN,qO,qH (by rw [g.out,kA,H.out];rfl),qH ?_,qH ?_⟩
       · have G:=C.own;rw [g.out];simpa [xM] using G
       exact ((z.trans p qf).trans N qf).trans C.upd fun q hq hh=>by have:=(t.lt q hh).1;omega
 have O:k=n:=qO;subst O;have R:Hid (P k=OB L node):=qH (by have h7:L.length=k:=(by first | exact U.out | exact U);rw [E.out];unfold OB;rw [h7]);go_wp2;go_ret;refine ⟨_,rfl,?_,z⟩;have G:=I.out;have V:=H.out;rw [R.out] at G V;subst V;exact G
def wJ (L:List L1) (node head:Int) (v:List Int) (id:Int):Prop :=
 CV L node v/\QC L node (L.length+1) (-1) head=match QC L node (L.length+1-v.length) (v.headD (-1)) id with | .error e=>.error e | .ok ids=>.ok (v.reverse++ids)
theorem wJ.start (L:List L1) (node head:Int):wJ L node head [] head:=⟨trivial,by simp only [mC,BH,List.headD_nil,List.reverse_nil,SB];cases QC L node (L.length+1) (-1) head <;> rfl⟩
theorem wJ.done {L:List L1} (h:wJ L node head v (-1)):QC L node (L.length+1) (-1) head=.ok v.reverse:=by
 have d:=h.1.len;obtain ⟨k,b⟩:∃ k,L.length+1-v.length=k+1:=⟨L.length-v.length,qO⟩
 have a:=h.2;obtain ⟨X,c⟩:=qx (QC L node (L.length+1) (-1) head);rw [c] at a ⊢;rw [b,QC,gA rfl] at a;rw [a];simp
theorem wJ.bad {L:List L1} {id:Int} (h:wJ L node head v id) (h1:id ≠ -1):
 (lC L node id≠0->QC L node (L.length+1) (-1) head=.error (lC L node id)) /\
 ∀ l,lC L node id=0->L[id.toNat]?=some l->(sG l node≠v.headD (-1)\/lH l=true->QC L node (L.length+1) (-1) head=.error 101) /\
  (sG l node=v.headD (-1)->lH l=false->wJ L node head (id::v) (SH l node)):=by
 have n:=h.1.len;obtain ⟨k,j⟩:∃ k,L.length+1-v.length=k+1:=⟨L.length-v.length,qO⟩
 have a:=h.2;obtain ⟨X,g⟩:=qx (QC L node (L.length+1) (-1) head);rw [g] at a ⊢;rw [j,QC,aA h1] at a;refine ⟨fun c=>by rw [gA c] at a;exact a,fun l c d=>⟨fun m=>?_,fun i f=>⟨?_,?_⟩⟩⟩
 · rw [aA (fun b=>b c),d] at a;simp only at a;rw [gA m] at a;exact a
 · refine ⟨?_,⟨l,d,i⟩,h.1⟩;unfold lC at c;split at c
   · cases c
   omega
 rw [aA (fun b=>b c),d] at a;simp only at a;rw [aA (by rintro (b | b);exact b i;rw [f] at b;cases b)] at a;rw [g,a,BA,show L.length+1-(v.length+1)=k by omega,GL];cases QC L node k id (SH l node) with
 | error e=>rfl
 | ok ids=>simp
def WkR (w:World) (X:Except Int (List Int)) (e:Ending) (w':World):Prop:=Same w w' /\
 match X with
 | .error er=>e=.returned (.tuple #[.slice none 0 0,.int .i64 er])
 | .ok ids=>∃ v,e=.returned (.tuple #[v,.int .i64 0])/\w'.ownsRow w.heap.size 3 1 v ids.length (xM ids)
theorem ZsZ {L:List L1} (w:World) (h:RdL w F A n c L) (hn:n<=65536) (node head:Int):Calls Tryz.prog 76 #[.slice A n c,.int .i64 node,.int .i64 head] w (WkR w (QC L node (L.length+1) (-1) head)):=by
 have HL:=qH (RdL.len' h);have H0:=qH h;obtain ⟨X,hX⟩:=qx (QC L node (L.length+1) (-1) head);rw [hX];have HX:=qH hX;clear h hX;go_enter Tryz.func76,Tryz.ntmps76;go_wp2_with fail;go_loopg [6,7,8,9] (n+1) (fun gh s6 s7 s8 s9 wr=>∃ (m:Nat) (a:Option Addr) (cc:Nat) (la id:Int) (v:List Int),n+1-m=gh/\m<=n/\s6=.slice a m cc/\s7=.int .i64 0/\s8=.int .i64 la/\s9=.int .i64 id/\Hid (v.length=m/\la=v.headD (-1))/\Hid (wJ L node head v id)/\Hid (wr.ownsRow w.heap.size 3 1 (.slice a m cc) m (xM v.reverse))/\Hid (Same w wr))
 case atStart=>exact ⟨0,none,0,-1,head,[],rfl,oA _,rfl,rfl,rfl,rfl,qH ⟨rfl,rfl⟩,qH (wJ.start L node head),qH (iC _ _ _ _),qH (eA _ _)⟩
 obtain ⟨m,a,cc,la,id,v,rfl,hm,rfl,rfl,rfl,rfl,KV,KW,KO,KS⟩:=hrel;by_cases B:id = -1
 · subst B;go_wp2
   go_ret2
   have j:=KW.done;rw [HX.out] at j;rw [j];exact ⟨KS,_,rfl,by rw [List.length_reverse,KV.1];exact KO⟩
 have HB:=qH (KW.bad B);go_wp2_with fail;refine (KY wr (aJ H0 KS) node id).mono ?_;rintro e w1 ⟨rfl,x⟩;by_cases r:lC L node id=0
 case neg =>
  have HT:=qH (HX.symm.trans (HB.1 r));have HS:=qH (KS.trans x qf);generalize lC L node id=te at *;have an:(te != 0)=true:=qC.2 r;clear r x HB;go_wp2
  go_ret2
  rw [HT.out];exact ⟨HS,rfl⟩
 obtain ⟨k,rfl⟩:∃ k:Nat,id=(k:Int):=⟨id.toNat,by
  unfold lC at r;split at r
  · cases r
  omega⟩
 have hk:k<n:=by
  have j:=HL.out;rcases wP k n with G | G
  · exact G
  unfold lC at r;rw [aA qO,XB,UI qO] at r;cases r
 have t:=KS.trans x qf;obtain ⟨b,o,l,rfl,hb,_,hl,_,al⟩:=RdL.at7 (aJ H0 t) hk;have D:=qH (HB.2 l r hl);have j1:(k:Int)<(n:Int):=qO;obtain ⟨r0,r1,r2,r3,r4,r5,r6⟩:=al;rw [r];have R:=qH t;have a6:=qH (mA KO x);clear hl r x t HB KO KS;obtain ⟨pv,a0⟩:=qx (sG l node);obtain ⟨nx,a5⟩:=qx (SH l node);obtain ⟨I,s,d,M,p,N,i⟩:=l;simp only at r0 r1 r2 r3 r4 r5 r6;go_upto_region 8 with fail;have S:=jA w1 109 #[.bool I,.int .i64 s,.int .i64 d,.int .i64 M,.int .i64 p,.int .i64 N,.int .i64 i];have T:=(iA w1).alloc (.cells #[.bool I,.int .i64 s,.int .i64 d,.int .i64 M,.int .i64 p,.int .i64 N,.int .i64 i] 109);have ao:w.heap.size<=w1.heap.size:=R.size;generalize w1.alloc (.cells #[.bool I,.int .i64 s,.int .i64 d,.int .i64 M,.int .i64 p,.int .i64 N,.int .i64 i] 109)=w2 at *;generalize hg:w1.heap.size=g at *;have d1:=S.c1;have E:=eU w2 d1 node;rw [AE,AE] at E;obtain ⟨po,no,ag,H,ah,ai⟩:∃ po no,(if s=node then 3 else 4)=po/\(if s=node then 5 else 6)=no/\(∀ y,Blk y g 109 #[.bool I,.int .i64 s,.int .i64 d,.int .i64 M,.int .i64 p,.int .i64 N,.int .i64 i]->y.cell? ⟨g,po,none⟩=some (.int .i64 pv))/\(∀ y,Blk y g 109 #[.bool I,.int .i64 s,.int .i64 d,.int .i64 M,.int .i64 p,.int .i64 N,.int .i64 i]->y.cell? ⟨g,no,none⟩=some (.int .i64 nx)):=by
  rw [<- a0,<-a5];unfold sG SH;by_cases C:s=node
  · rw [gA C,gA C];exact ⟨3,5,rfl,rfl,fun y hx=>by rw [hx.cell 3];simp [C],fun y hx=>by rw [hx.cell 5];simp [C]⟩
  rw [aA C,aA C];exact ⟨4,6,rfl,rfl,fun y hx=>by rw [hx.cell 4];simp [C],fun y hx=>by rw [hx.cell 6];simp [C]⟩
 rw [ag,H] at E;have a7:=qH E;have a8:=qH ah;have aj:=qH ai;have a9:=qH (R.trans T qf);have aa:=qH (mA a6 T);have ab:=qH S;have U:=qH a0;have V:=qH a5;clear E ah ai T S d1 ag H R a6 r0 r1 r2 r3 r4 r5 r6 a0 a5;go_wp2_with fail;refine a7.mono ?_;rintro e w3 ⟨rfl,O⟩;have f:=ab.same O;have d1:=f.c1;have d2:=f.c2;have d4:=f.c4;have d6:=f.c6;have cp:=a8.out w3 f;have ac:=qH f;have W:=qH (a9.trans O qf);have Y:=qH (mA aa O);clear f O a9 aa ab a8 a7;go_upto_region 9 with fail;go_cut [54] from 33 to 62 (fun am y=>∃ z:Bool,am=.bool z/\y=w3/\Hid (z=true↔pv≠la\/s=d/\(p ≠ -1\/i ≠ -1)))
 case first =>
  by_cases e1:pv=la
  case neg =>
   have E1:=qH e1;go_wp2;go_meet;exact ⟨true,rfl,rfl,qH (by simp [E1.out])⟩
  subst e1;by_cases e2:s=d
  case neg =>
   have E2:=qH e2;go_wp2;go_meet;exact ⟨false,rfl,rfl,qH (by simp [E2.out])⟩
  subst e2;by_cases e3:p = -1
  case neg =>
   have E3:=qH e3;go_wp2;go_meet;exact ⟨true,rfl,rfl,qH (by simp [E3.out])⟩
  subst e3;by_cases e4:i = -1
  case neg =>
   have E4:=qH e4;go_wp2;go_meet;exact ⟨i != -1,rfl,rfl,qH (by simp [E4.out])⟩
  subst e4;go_wp2;go_meet;exact ⟨false,rfl,rfl,qH qS⟩
 obtain ⟨z,rfl,rfl,HZ⟩:=hcut;have u:Hid (sG ⟨I,s,d,M,p,N,i⟩ node=v.headD (-1)/\lH ⟨I,s,d,M,p,N,i⟩=false↔z=false):=qH (by
  rw [U.out,<-KV.2];unfold lH;have h9:=HZ.out;cases z with
  | true =>
    refine ⟨fun ⟨B,j⟩=>?_,fun h=>by cases h⟩;rcases h9.1 rfl with G | ⟨G,Z⟩
    · exact absurd B G
    simp only [Bool.and_eq_false_iff,uR,kR,WC] at j;rcases j with j | j
    · exact absurd G j
    rcases Z with Z | Z
    · exact absurd j.1 Z
    exact absurd j.2 Z
  | false =>
    refine ⟨fun _=>rfl,fun _=>?_⟩;by_cases B:pv=la
    · refine ⟨B,?_⟩;by_cases G:s=d
      · by_cases Z:p ≠ -1\/i ≠ -1
        · cases h9.2 (.inr ⟨G,Z⟩)
        have C:p = -1:=qO;have h6:i = -1:=qO;rw [C,h6];simp
      simp [G]
    cases h9.2 (.inl B))
 clear HZ cp d1 d2 d4 d6;cases z with
 | true =>
   have HT:=qH (HX.symm.trans (D.1 (by
    by_cases B:sG ⟨I,s,d,M,p,N,i⟩ node=v.headD (-1)
    · right;cases j:lH ⟨I,s,d,M,p,N,i⟩ with
      | true=>rfl
      | false=>cases u.1 ⟨B,j⟩
    exact .inl B)))
   clear D u U V;go_wp2
   go_ret2
   rw [HT.out];exact ⟨W,rfl⟩
 | false =>
   have HW:=qH (D.2 (u.2 rfl).1 (u.2 rfl).2);rw [V.out] at HW;have ap:w.heap.size<=wc.heap.size:=W.size;have H:=ac.ne_own Y.out qD;clear D u U V;go_upto_region 12 with (at_builtin;go_must (refine XD rfl (.tmp 55) (.tmp 57) _ _ rfl w.heap.size 3 1 8 _ mG jK rfl (.slice a m cc) m _ rfl (Y.alloc _) rfl (GD mG (tI _ _ _) (by simp [Value.oneCell'])) qM qO qP ?_);intro v7 w7 P;obtain ⟨A7,c7,rfl⟩:=WA P.own;have cn:=aj.out w7 (P.blk (ac.alloc _) H);have ad:=qH P;clear P);have ae:=(iA wc).alloc (.cells #[.int .i64 (k:Int)] 3);have ak:=qH ae;clear ae;go_quiet (fail);go_wp2;go_roundg (n+1-(m+1))
   case measure=>omega
   have af:=HW.1.len;rw [BA,HL.out,KV.1] at af;refine ⟨m+1,A7,c7,(k:Int),nx,(k:Int)::v,rfl,af,rfl,rfl,rfl,rfl,qH ⟨by rw [BA,KV.1],rfl⟩,HW,qH ?_,qH ?_⟩
   · have h9:=mA ad.own ((iA w7).drewN nq);simpa [xM] using h9
   exact (((W.trans ak qf).trans ad.upd fun q hq hh=>by have:=(Y.lt q hh).1;omega).drewN nq)
end
end Go.Proofs.YtmkjfhnlnhceiaaGreatDoor
