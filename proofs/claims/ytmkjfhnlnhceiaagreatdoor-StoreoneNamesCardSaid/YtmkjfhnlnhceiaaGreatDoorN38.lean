/- Texts that the claim leans on: walks and plain laws, function by function. -/
import Derived.Test.YtmkjfhnlnhceiaaGreatDoorN37
set_option maxRecDepth 100000
set_option maxHeartbeats 16000000
namespace Go.Proofs.YtmkjfhnlnhceiaaGreatDoor
def recN (labels:List ByteArray):Nat->List (Zaw×Int×Int)->List (Option (List UInt8))
 | _,[]=>[]
 | i,(n,h,p)::l=>List.replicate (n.id.toNat-i) none++some (ZcZ ⟨h,p,n.labels.map (ZaL labels)⟩)::recN labels (n.id.toNat+1) l
def recR (types:List ByteArray) (L:List L1):Nat->List (GRel×Int)->List (Option (List UInt8))
 | _,[]=>[]
 | i,(r,p)::l=>List.replicate (r.id.toNat-i) none++some (relB ⟨(L[r.id.toNat]?).getD ZaE,ZaL types r.type,p⟩)::recR types L (r.id.toNat+1) l
theorem ZmU {rs:List (Option (List UInt8))} {i:Nat} {d:List UInt8} (h:rs.length<=i):putAt rs i d=rs++(List.replicate (i-rs.length) none++[some d]):=by unfold putAt;rw [show i+1-rs.length=(i-rs.length)+1 by omega,List.replicate_succ',<-Yak];rw [List.set_append,Yab (by rw [Yaf,Ybk];omega)];rw [Yaf,Ybk,show i-(rs.length+(i-rs.length))=0 by omega,Yak];rfl
def ZeA {α:Type} (id:α->Int) (i:Nat) (l:List α):Prop:=(∀ x∈l,(i:Int)<=id x)/\(l.map id).Pairwise (fun a b=>a<b)
theorem ZeA.tail {α:Type} {id:α->Int} {i:Nat} {x:α} {l:List α} (h:ZeA id i (x::l)):ZeA id ((id x).toNat+1) l:=by obtain ⟨b,a⟩:=h;rw [YaF,YbK] at a;refine ⟨fun y c=>?_,a.2⟩;have d:=a.1 (id y) (Ybu c);have e:=b x (by simp);omega
theorem Zlp {labels:List ByteArray}:∀ (l:List (Zaw×Int×Int)) (i:Nat) (d:List UInt8),some d∈recN labels i l->∃ x∈l,d=ZcZ ⟨x.2.1,x.2.2,x.1.labels.map (ZaL labels)⟩
 | [],_,_,h=>by cases h
 | (n,hd,p)::l,i,d,h=>by
   rw [recN] at h;rcases YaR.1 h with h | h
   · have:=(Yep.1 h).2;cases this
   rcases Yat.1 h with h | h
   · injection h with h
     exact ⟨(n,hd,p),by simp,h⟩
   obtain ⟨x,a,e⟩:=Zlp l _ d h;exact ⟨x,by simp [a],e⟩
theorem Zlq {types:List ByteArray} {L:List L1}:∀ (l:List (GRel×Int)) (i:Nat) (d:List UInt8),some d∈recR types L i l->∃ x∈l,d=relB ⟨(L[x.1.id.toNat]?).getD ZaE,ZaL types x.1.type,x.2⟩
 | [],_,_,h=>by cases h
 | (n,p)::l,i,d,h=>by
   rw [recR] at h;rcases YaR.1 h with h | h
   · have:=(Yep.1 h).2;cases this
   rcases Yat.1 h with h | h
   · injection h with h
     exact ⟨(n,p),by simp,h⟩
   obtain ⟨x,a,e⟩:=Zlq l _ d h;exact ⟨x,by simp [a],e⟩
theorem Zsf {labels:List ByteArray}:∀ (l:List (Zaw×Int×Int)) (i:Nat),ZeA (fun x=>x.1.id) i l->∀ x∈l,∃ d,(recN labels i l)[x.1.id.toNat-i]?=some (some d)
 | [],_,_,x,a=>by cases a
 | (n,hd,p)::l,i,hr,x,a=>by
   have b:=hr.1 (n,hd,p) (by simp);simp only at b;rw [recN];rcases Yat.1 a with rfl | a
   · rw [YcA (by rw [Ybk];exact Yae _),Ybk,YbC];exact ⟨_,rfl⟩
   have c:=hr.tail.1 x a;simp only at c;obtain ⟨d,e⟩:=Zsf l (n.id.toNat+1) hr.tail x a;refine ⟨d,?_⟩;rw [YcA (by rw [Ybk];omega),Ybk,show x.1.id.toNat-i-(n.id.toNat-i)=(x.1.id.toNat-(n.id.toNat+1))+1 by omega,Ybd];exact e
theorem Zpj {labels:List ByteArray} {m:Nat}:∀ (l:List (Zaw×Int×Int)) (i:Nat),i<=m->(∀ x∈l,x.1.id<(m:Int))->ZeA (fun x=>x.1.id) i l->i+(recN labels i l).length<=m
 | [],_,h,_,_=>h
 | (n,hd,p)::l,i,h,hm,hr=>by have a:=hr.1 (n,hd,p) (by simp);have b:=hm (n,hd,p) (by simp);simp only at a b;have:=Zpj (labels:=labels) l (n.id.toNat+1) qO (fun x c=>hm x (by simp [c])) hr.tail;rw [recN,Yaf,Ybk,Yao];omega
theorem Zpk {types:List ByteArray} {L:List L1}:∀ (l:List (GRel×Int)) (i:Nat),ZeA (fun x=>x.1.id) i l->i+(recR types L i l).length=endR i (l.map Prod.fst)
 | [],_,_=>rfl
 | (n,p)::l,i,hr=>by have a:=hr.1 (n,p) (by simp);simp only at a;have:=Zpk (types:=types) (L:=L) l (n.id.toNat+1) hr.tail;rw [recR,Yaf,Ybk,Yao,YaF,endR];simp only;omega
theorem Zjt {L:List L1}:∀ (n i:Nat) (l:List (Option (List UInt8))),Zdk L i (List.replicate n none++l)=Zdk L (i+n) l
 | 0,_,_=>rfl
 | n+1,i,l=>by rw [Ycz,YaE,Zdk,Zjt n];congr 1;omega
theorem Zju {labels:List ByteArray} {f:Int->List Nat->List Nat->Except Int (List GPr×List Nat×List Nat)}:∀ (n i:Nat) (l:List (Option (List UInt8))) (mp mb:List Nat),Zff labels f i (List.replicate n none++l) mp mb=Zff labels f (i+n) l mp mb
 | 0,_,_,_,_=>rfl
 | n+1,i,l,mp,mb=>by rw [Ycz,YaE,Zff,Zju n];congr 1;omega
theorem Zkw {types:List ByteArray} {get:List UInt8->Option R1} {f:Int->List Nat->List Nat->Except Int (List GPr×List Nat×List Nat)}:∀ (n i:Nat) (l:List (Option (List UInt8))) (mp mb:List Nat),Zjh types get f i (List.replicate n none++l) mp mb=Zjh types get f (i+n) l mp mb
 | 0,_,_,_,_=>rfl
 | n+1,i,l,mp,mb=>by rw [Ycz,YaE,Zjh,Zkw n];congr 1;omega
theorem ZmV {labels:List ByteArray} {L:List L1}:∀ (l:List (Zaw×Int×Int)) (i:Nat),ZeA (fun x=>x.1.id) i l ->
 (∀ x∈l,ZbT ⟨x.2.1,x.2.2,x.1.labels.map (ZaL labels)⟩=true/\∃ ids,ZbU L x.1.id (L.length+1) (-1) x.2.1=.ok ids/\ids.length=(Zax L x.1.id).length)->Zdk L i (recN labels i l)=0
 | [],_,_,_=>rfl
 | (n,hd,p)::l,i,hr,h=>by have d:=hr.1 (n,hd,p) (by simp);simp only at d;obtain ⟨a,ids,b,c⟩:=h (n,hd,p) (by simp);simp only at a b c;have e:((i+(n.id.toNat-i):Nat):Int)=n.id:=qO;rw [recN,Zjt,Zdk,Zrf a];simp only;rw [e,b];simp only;rw [Yab (by simp [c]),show i+(n.id.toNat-i)+1=n.id.toNat+1 by omega];exact ZmV l _ hr.tail fun x f=>h x (by simp [f])
theorem ZmW {types:List ByteArray} {L:List L1}:∀ (l:List (GRel×Int)) (i:Nat),ZeA (fun x=>x.1.id) i l->L.length=endR i (l.map Prod.fst) ->
 (∀ x∈l,∃ k,L[x.1.id.toNat]?=some k/\Zdw ⟨k,ZaL types x.1.type,x.2⟩=true/\k.live=true)->(∀ j,i<=j->j<L.length->(∀ x∈l,x.1.id.toNat≠j)->L[j]?=some ZaE)->(recR types L i l).map ZgB=L.drop i
 | [],i,_,hl,_,_=>by rw [Ybt (by rw [hl];exact Yae _)];rfl
 | (r,p)::l,i,hr,hl,hx,hn=>by
   have e:=hr.1 (r,p) (by simp);simp only at e;obtain ⟨k,b,d,o⟩:=hx (r,p) (by simp);simp only at b d;have f:=(Yaq.1 b).1;have ih:=ZmW (types:=types) (L:=L) l (r.id.toNat+1) hr.tail (by rw [hl];rfl) (fun x h=>hx x (by simp [h])) fun j u q s=>hn j qO q fun x a=>by
    rcases Yat.1 a with rfl | a
    · simp only;omega
    exact s x a
   rw [recR,b,Yde,YaG,YaF,ih,YfA];have g:ZgB (some (relB ⟨k,ZaL types r.type,p⟩))=k:=by unfold ZgB;simp only;rw [Zrg d o]
   have n:ZgB none=ZaE:=rfl;rw [g,n];refine Ygp fun j=>?_;rw [YeM];by_cases c:j<r.id.toNat-i
   · rw [Ydl (by rw [Ybk];exact c),Yfa,Yac c,hn (i+j) qO qO fun x a=>?_];rcases Yat.1 a with rfl | a
     · simp only;omega
     have:=hr.tail.1 x a;simp only at this;omega
   rw [YcA (by rw [Ybk];omega),Ybk];obtain ⟨m,t⟩:∃ m,j-(r.id.toNat-i)=m:=⟨_,rfl⟩
   rw [t];cases m with
   | zero=>rw [YaW,show i+j=r.id.toNat by omega,b]
   | succ m=>rw [Ybd,YeM,show r.id.toNat+1+m=i+j by omega]
def ZgO (l:List (List GPr)):Nat:=(l.map fun ps=>25*ps.length+psW ps).sum
def cntP (l:List (List GPr)):Nat:=(l.map List.length).sum
section
variable {keys labels types:List ByteArray}
theorem ZmX (hkl:keys.length<=200) (hkn:noText ∉ keys) {ps:List GPr} (hps:PsOk keys ps) (h16:ps.length<=16) {P:List (Option (List UInt8))} {sg:List (List UInt8)} (hP:P.length+ps.length<=65536)
 (hr:25*(ZaG 0 sg).length+(25*ps.length+psW ps)<=1638400) :
 ∃ P2 sg2 f,layP keys ps P (segR sg)=((P++P2,segR (sg++sg2)),f)/\inP f (-1) 65536=true/\P2.length=ps.length/\25*(ZaG 0 (sg++sg2)).length<=25*(ZaG 0 sg).length+(25*ps.length+psW ps) /\
  Zjs keys P2 /\
  (∀ (s:St1) (sgF:List (List UInt8)),s.keys=keys->SegF s.blobs sgF->(P++P2) <+: s.props.recs->(sg++sg2) <+: sgF->∀ mp mb,Met P.length sg mp mb->∃ mp' mb',Zbe s 16 [] (-1) f mp mb=.ok (ps,mp',mb')/\Met (P++P2).length (sg++sg2) mp' mb'):=by
 obtain ⟨P2,sg2,g,d,h,i,j⟩:=Zpi hkl hkn (first:=P.length) (n:=ps.length) hP ps 0 P sg rfl qO hps hr;refine ⟨P2,sg2,_,by unfold layP;rw [g],?_,d,h,i,fun s sgF a k b c mp mb l=>?_⟩
 · rw [Zai];cases ps with
   | nil=>rw [Yac rfl];omega
   | cons p ps=>rw [Yab (YdG _ _)];simp only [Yao] at hP;omega
 obtain ⟨mp',mb',e,m⟩:=j s sgF a k b c 16 [] mp mb h16 (by simp) l;rw [Yab (YcL 0)] at e;exact ⟨mp',mb',e,by rw [Yaf,d];exact m⟩
theorem Zpl (hkl:keys.length<=200) (hkn:noText ∉ keys) (hll:labels.length<=200) (hls:labels.Pairwise ltS) :
 ∀ (l:List (Zaw×Int)) (b:Bs1) (sg:List (List UInt8)),b.blobs=segR sg->ZeA (fun x=>x.1.id) b.nodes.length l->(∀ x∈l,inP x.2 (-1) 2048=true/\PsOk keys x.1.props/\x.1.props.length<=16/\(∀ t∈x.1.labels,t∈labels)/\x.1.labels.Pairwise ltS/\x.1.labels.length<=8) ->
  b.props.length+cntP (l.map fun x=>x.1.props)<=65536->25*(ZaG 0 sg).length+ZgO (l.map fun x=>x.1.props)<=1638400 ->
  ∃ P2 sg2 l2,ZgK labels keys l b=⟨b.nodes++recN labels b.nodes.length l2,b.rels,b.props++P2,segR (sg++sg2)⟩/\l2.map (fun x=>(x.1,x.2.1))=l/\P2.length=cntP (l.map fun x=>x.1.props) /\
   25*(ZaG 0 (sg++sg2)).length<=25*(ZaG 0 sg).length+ZgO (l.map fun x=>x.1.props)/\Zjs keys P2 /\
   (∀ x∈l2,ZbT ⟨x.2.1,x.2.2,x.1.labels.map (ZaL labels)⟩=true) /\
   (∀ (s:St1) (sgF:List (List UInt8)),s.keys=keys->SegF s.blobs sgF->(b.props++P2) <+: s.props.recs->(sg++sg2) <+: sgF->∀ mp mb,Met b.props.length sg mp mb->∃ mp' mb',Zff labels (Zbe s 16 [] (-1)) b.nodes.length (recN labels b.nodes.length l2) mp mb=.ok (l.map Prod.fst,mp',mb')/\Met (b.props++P2).length (sg++sg2) mp' mb')
 | [],b,sg,hb,_,_,_,_=>⟨[],[],[],by simp [ZgK,recN,<-hb],rfl,rfl,by simp [ZgO],by simp [Zjs],by simp,fun _ _ _ _ _ _ mp mb k=>⟨mp,mb,rfl,by simpa using k⟩⟩
 | (n,hd)::l,b,sg,hb,hr,a,hP,hc=>by
   obtain ⟨v,w,y,m,z,A⟩:=a (n,hd) (by simp);simp only at v w y m z A;have C:=hr.1 (n,hd) (by simp);simp only at C;simp only [YaF,ZgO,cntP,Ydr] at hP hc ⊢;obtain ⟨P2,sg2,f,E,F,G,Z,H,I⟩:=ZmX hkl hkn w y (P:=b.props) (sg:=sg) qO qO;have e:ZbT ⟨hd,f,n.labels.map (ZaL labels)⟩=true:=by unfold ZbT;simp only [Yay];exact ⟨v,F,Zsc hls hll m z A⟩
   have g:putAt b.nodes n.id.toNat (ZcZ ⟨hd,f,n.labels.map (ZaL labels)⟩)=b.nodes++(List.replicate (n.id.toNat-b.nodes.length) none++[some (ZcZ ⟨hd,f,n.labels.map (ZaL labels)⟩)]):=ZmU qO;have i:(putAt b.nodes n.id.toNat (ZcZ ⟨hd,f,n.labels.map (ZaL labels)⟩)).length=n.id.toNat+1:=by rw [g,Yaf,Yaf,Ybk,Ycs];omega
   obtain ⟨L,o,M,p,N,O,R,S,T,q⟩:=Zpl hkl hkn hll hls l { b with nodes:=putAt b.nodes n.id.toNat (ZcZ ⟨hd,f,n.labels.map (ZaL labels)⟩),props:=b.props++P2,blobs:=segR (sg++sg2) } (sg++sg2) rfl
    (by simp only;rw [i];exact hr.tail) (fun x h=>a x (by simp [h])) (by simp only [Yaf];unfold cntP;omega) (by unfold ZgO;omega)
   simp only at p q;rw [i] at p q;refine ⟨P2++L,sg2++o,(n,hd,f)::M,?_,by rw [YaF,N],by rw [Yaf,G,O];rfl,?_,?_,?_,fun s sgF j B c d mp mb k=>?_⟩
   · rw [ZgK];rw [hb,E];simp only;rw [p,g,recN,Yak,Yak,Yak,Yak];rfl
   · rw [<- Yak];unfold ZgO at R;omega
   · intro x a;rcases YaR.1 a with a | a
     · exact H x a
     exact S x a
   · intro x a;rcases Yat.1 a with rfl | a
     · exact e
     exact T x a
   rw [<- Yak] at c d ⊢;rw [<- Yak];obtain ⟨r,u,U,V⟩:=I s sgF j B (Yfd (Ydq _ _) c) (Yfd (Ydq _ _) d) mp mb k;obtain ⟨mp',mb',W,X⟩:=q s sgF j B c d r u V;refine ⟨mp',mb',?_,X⟩;rw [recN,Zju,Zff,Zrf e];simp only;rw [U];simp only;rw [show b.nodes.length+(n.id.toNat-b.nodes.length)+1=n.id.toNat+1 by omega,W];simp only;have D:(n.labels.map (ZaL labels)).map (ZaY labels)=n.labels:=by rw [Ybf];refine (Ycq fun t Y=>?_).trans (Yes _);exact ZcO (m t Y)
   rw [D,show ((b.nodes.length+(n.id.toNat-b.nodes.length):Nat):Int)=n.id by omega]
theorem Zpm (hkl:keys.length<=200) (hkn:noText ∉ keys) (htl:types.length<=200) {L:List L1} :
 ∀ (l:List GRel) (b:Bs1) (sg:List (List UInt8)),b.blobs=segR sg->ZeA GRel.id b.rels.length l->(∀ x∈l,PsOk keys x.props/\x.props.length<=16/\x.type∈types/\∃ k,L[x.id.toNat]?=some k/\ZfL k=true/\k.live=true/\k.src=x.src/\k.dst=x.dst) ->
  b.props.length+cntP (l.map GRel.props)<=65536->25*(ZaG 0 sg).length+ZgO (l.map GRel.props)<=1638400 ->
  ∃ P2 sg2 l2,ZgL types keys L l b=⟨b.nodes,b.rels++recR types L b.rels.length l2,b.props++P2,segR (sg++sg2)⟩/\l2.map Prod.fst=l/\P2.length=cntP (l.map GRel.props) /\
   25*(ZaG 0 (sg++sg2)).length<=25*(ZaG 0 sg).length+ZgO (l.map GRel.props)/\Zjs keys P2 /\
   (∀ x∈l2,∃ k,L[x.1.id.toNat]?=some k/\Zdw ⟨k,ZaL types x.1.type,x.2⟩=true/\k.live=true) /\
   (∀ (s:St1) (sgF:List (List UInt8)),s.keys=keys->SegF s.blobs sgF->(b.props++P2) <+: s.props.recs->(sg++sg2) <+: sgF->∀ mp mb,Met b.props.length sg mp mb->∃ mp' mb',Zjh types getR (Zbe s 16 [] (-1)) b.rels.length (recR types L b.rels.length l2) mp mb=.ok (l,mp',mb')/\Met (b.props++P2).length (sg++sg2) mp' mb')
 | [],b,sg,hb,_,_,_,_=>⟨[],[],[],by simp [ZgL,recR,<-hb],rfl,rfl,by simp [ZgO],by simp [Zjs],by simp,fun _ _ _ _ _ _ mp mb n=>⟨mp,mb,rfl,by simpa using n⟩⟩
 | r::l,b,sg,hb,hr,a,hP,hc=>by
   obtain ⟨z,A,v,k,m,B,w,C,D⟩:=a r (by simp);have Z:=hr.1 r (by simp);simp only [YaF,ZgO,cntP,Ydr] at hP hc ⊢;obtain ⟨P2,sg2,f,E,F,G,e4,H,I⟩:=ZmX hkl hkn z A (P:=b.props) (sg:=sg) qO qO;have e:Zdw ⟨k,ZaL types r.type,f⟩=true:=by unfold Zdw;simp only [Yay];exact ⟨B,Zlo v htl,F⟩
   have g:putAt b.rels r.id.toNat (relB ⟨k,ZaL types r.type,f⟩)=b.rels++(List.replicate (r.id.toNat-b.rels.length) none++[some (relB ⟨k,ZaL types r.type,f⟩)]):=ZmU qO;have i:(putAt b.rels r.id.toNat (relB ⟨k,ZaL types r.type,f⟩)).length=r.id.toNat+1:=by rw [g,Yaf,Yaf,Ybk,Ycs];omega
   obtain ⟨M,o,N,p,O,R,S,T,U,q⟩:=Zpm hkl hkn htl l { b with rels:=putAt b.rels r.id.toNat (relB ⟨k,ZaL types r.type,f⟩),props:=b.props++P2,blobs:=segR (sg++sg2) } (sg++sg2) rfl
    (by simp only;rw [i];exact hr.tail) (fun x h=>a x (by simp [h])) (by simp only [Yaf];unfold cntP;omega) (by unfold ZgO;omega)
   simp only at p q;rw [i] at p q;refine ⟨P2++M,sg2++o,(r,f)::N,?_,by rw [YaF,O],by rw [Yaf,G,R];rfl,?_,?_,?_,fun s sgF j y c d mp mb n=>?_⟩
   · rw [ZgL];rw [hb,E,m,Yde];simp only;rw [p,g,recR,m,Yde,Yak,Yak,Yak,Yak];rfl
   · rw [<- Yak];unfold ZgO at S;omega
   · intro x a;rcases YaR.1 a with a | a
     · exact H x a
     exact T x a
   · intro x a;rcases Yat.1 a with rfl | a
     · exact ⟨k,m,e,w⟩
     exact U x a
   rw [<- Yak] at c d ⊢;rw [<- Yak];obtain ⟨t,u,V,W⟩:=I s sgF j y (Yfd (Ydq _ _) c) (Yfd (Ydq _ _) d) mp mb n;obtain ⟨mp',mb',X,Y⟩:=q s sgF j y c d t u W;refine ⟨mp',mb',?_,Y⟩;rw [recR,m,Yde,Zkw,Zjh,Zrg e w];simp only;rw [V];simp only;rw [show b.rels.length+(r.id.toNat-b.rels.length)+1=r.id.toNat+1 by omega,X];simp only;rw [ZcO v,C,D,show ((b.rels.length+(r.id.toNat-b.rels.length):Nat):Int)=r.id by omega]
end
theorem Zlr {α:Type} (f:α->List GPr):∀ l:List α,ZgO (l.map f)=25*(l.flatMap f).length+psW (l.flatMap f)/\cntP (l.map f)=(l.flatMap f).length
 | []=>⟨rfl,rfl⟩
 | x::l=>by obtain ⟨a,b⟩:=Zlr f l;unfold ZgO at a ⊢;unfold cntP at b ⊢;rw [YaF,YaF,Ydr,a,YaF,Ydr,b,Ybs,Yaf,Zhq];omega
theorem Zkx:∀ (k:Nat) (first:Bool) (i:Nat) (data:List UInt8),data.length<=25+25*k->∀ d∈ZaF k first i data,d.length=31
 | 0,first,i,data,h,d,a=>by rw [ZaF,YaH] at a;rw [a,ZgH qO]
 | k+1,first,i,data,h,d,a=>by
   rw [ZaF] at a;split at a
   · rw [YaH] at a;rw [a,ZgH qO]
   rcases Yat.1 a with rfl | a
   · exact ZgH (by rw [YaJ];omega)
   exact Zkx k false (i+1) _ (by rw [Yas];omega) d a
theorem Zpn:∀ (sg:List (List UInt8)) (o:Nat),∀ d∈ZaG o sg,d.length=31
 | [],_,d,a=>by cases a
 | x::sg,o,d,a=>by
   rw [ZaG] at a;rcases YaR.1 a with a | a
   · exact Zkx _ _ _ _ qO d a
   exact Zpn sg _ d a
structure Zsg (f:Zaz) (k z m:Nat):Prop where
 kind:f.kind=k
 version:f.version=1
 size:f.size=z
 ok:f.Ok
 len:f.recs.length<=m
theorem ZgP {f:Zaz} {k z m:Nat} (h:Zsg f k z m) (hk:k<=255) (hz:2<=z) (hz2:z<=255) (hm:m<=65536):ZdU (ZaS f) k z=.ok f:=by unfold ZdU;rw [ZiF h.ok (by rw [h.kind];exact hk) (by rw [h.version];decide) (by rw [h.size];exact hz) (by rw [h.size];exact hz2) (Yaj h.len hm)];simp only;rw [Yab (by rw [h.kind,h.size];simp),Yab (by rw [h.version];simp)]
structure TabK (l:List ByteArray):Prop where
 good:∀ t∈l,Zbj t=true
 sort:l.Pairwise ltS
 len:l.length<=200
theorem TabK.nodup {l:List ByteArray} (h:TabK l):l.Nodup:=h.sort.imp fun {a b} h (e:a=b)=>Zbd.irr b (by rw [e] at h;exact h)
theorem TabK.noText {l:List ByteArray} (h:TabK l):noText ∉ l:=fun b=>by have a:=h.good _ b;cases a
theorem TabK.tab {l:List ByteArray} (h:TabK l) {k:Nat} (hk:k<=255):tabP (ZaS (tabF k 1 l)) k 1=.ok l:=ZqZ hk qD h.good h.nodup h.len
theorem Zqt {s:St1} (hl:TabK s.labels) (ht:TabK s.types) (hk:TabK s.keys) (hn:Zsg s.nodes 4 17 1024) (hr:Zsg s.rels 5 31 2048) (hp:Zsg s.props 6 20 65536) (hb:Zsg s.blobs 8 32 65536) (hc:Zet s.blobs=0):Zfc (ZcN s)=.ok s:=by
 have a:∀ {α β:Type} (x:α) (f:α->Except Int β),((Except.ok x:Except Int α) >>= f)=f x:=fun _ _=>rfl;unfold Zfc;rw [show (ZcN s).map ZdH.name=Zfb from rfl,Yab (by simp),show ZaU (ZcN s) 3=Zif++[1] from rfl,Yab qD,Yab qD,show ZaU (ZcN s) 2=ZaS (tabF 1 1 s.labels) from rfl,hl.tab qD,
  show ZaU (ZcN s) 7=ZaS (tabF 2 1 s.types) from rfl,ht.tab qD,show ZaU (ZcN s) 1=ZaS (tabF 3 1 s.keys) from rfl,hk.tab qD,show ZaU (ZcN s) 4=ZaS s.nodes from rfl,ZgP hn qD qD qD qD,
  show ZaU (ZcN s) 6=ZaS s.rels from rfl,ZgP hr qD qD qD qD,show ZaU (ZcN s) 5=ZaS s.props from rfl,ZgP hp qD qD qD qD,
  show ZaU (ZcN s) 0=ZaS s.blobs from rfl,ZgP hb qD qD qD qD]
 simp only [a];rw [Yab (by rw [hc];simp),Yab (qt hn.len),Yab (qt hr.len)]
theorem ZhU:∀ (prev:Option ByteArray) (l:List ByteArray),ZdD prev l=0->∀ p∈l,Zbj p=true
 | _,[],_=>by simp
 | prev,q::l,h=>by
   simp only [ZdD] at h;by_cases a:Zbj q=false
   · rw [Yac a] at h;cases h
   rw [Yab a] at h;by_cases c:ZbQ q prev=true
   · rw [Yac c] at h;cases h
   rw [Yab c] at h;intro p b;rcases Yat.1 b with rfl | b
   · simpa using a
   exact ZhU _ l h p b
theorem ZgQ:∀ (prev:Option ByteArray) (l:List GPr),ZbR prev l=0->∀ p∈l,Zbj p.key=true
 | _,[],_=>by simp
 | prev,q::l,h=>by
   simp only [ZbR] at h;by_cases a:Zbj q.key=false
   · rw [Yac a] at h;cases h
   rw [Yab a] at h;by_cases d:ZbQ q.key prev=true
   · rw [Yac d] at h;cases h
   rw [Yab d] at h;by_cases b:chk q.val≠0
   · rw [Yac b] at h;exact absurd h b
   rw [Yab b] at h;intro p c;rcases Yat.1 c with rfl | c
   · simpa using a
   exact ZgQ _ l h p c
theorem ZjP {l:List ByteArray} (h:Zba l=0):∀ p∈l,Zbj p=true:=by
 unfold Zba at h;by_cases a:8<l.length
 · rw [Yac a] at h;cases h
 rw [Yab a] at h;exact ZhU _ _ h
theorem ZgR {l:List GPr} (h:Zbc l=0):∀ p∈l,Zbj p.key=true:=by
 unfold Zbc at h;by_cases a:16<l.length
 · rw [Yac a] at h;cases h
 rw [Yab a] at h;exact ZgQ _ _ h
theorem ZhV (th:Int->Bool):∀ (prev:Option Int) (i:Nat) (l:List GRel),Zbt th prev i l=none->∀ x∈l,Zbj x.type=true
 | _,_,[],_=>by simp
 | prev,i,y::l,h=>by
   simp only [Zbt] at h;by_cases a:Zdh th prev y=0
   · rw [Yab (by rw [a];simp)] at h;have f:=ZhV th _ _ l h;unfold Zdh at a;by_cases c:y.id<0\/2048<=y.id
     · rw [Yac c] at a;cases a
     rw [Yab c] at a;by_cases d:ZaO y.id prev=true
     · rw [Yac d] at a;cases a
     rw [Yab d] at a;by_cases e:Zbj y.type=false
     · rw [Yac e] at a;cases a
     intro x b;rcases Yat.1 b with rfl | b
     · simpa using e
     exact f x b
   rw [Yac a] at h;cases h
theorem Zsh {g:ZaN} (h:(chkP g).1=0):TabK (Zaq g 1)/\TabK (Zaq g 2)/\TabK (Zaq g 3):=by
 obtain ⟨j,_⟩:=ZgA h;obtain ⟨m,k⟩:=ZcD j;have i:=ZdT _ _ _ m;have l:=(Zfa _ _ _ _ k).2;have d:(Zaq g 1).length<=200/\(Zaq g 2).length<=200/\(Zaq g 3).length<=200:=by
  unfold chkP ZeX at h;rw [j] at h;simp only at h;unfold ZeW at h;split at h
  · cases h
  omega
 refine ⟨⟨fun t c=>?_,(ZaA g 1).sorted,d.1⟩,⟨fun t c=>?_,(ZaA g 2).sorted,d.2.1⟩,⟨fun t c=>?_,(ZaA g 3).sorted,d.2.2⟩⟩
 · obtain ⟨n,a,b⟩:=Yby.1 (((ZaA g 1).mem t).1 c);exact ZjP (i n a).1 t b
 · obtain ⟨r,e,rfl⟩:=Yba.1 (((ZaA g 2).mem t).1 c);exact ZhV _ _ _ _ k r e
 rcases YaR.1 (((ZaA g 3).mem t).1 c) with c | c
 · obtain ⟨n,a,b⟩:=Yby.1 c;obtain ⟨p,f,rfl⟩:=Yba.1 b;exact ZgR (i n a).2 p f
 obtain ⟨n,a,b⟩:=Yby.1 c;obtain ⟨p,f,rfl⟩:=Yba.1 b;exact ZgR (l n a) p f
theorem ZmY {g:ZaN} (h:(chkP g).1=0) (hf:ZvA g):ZbW (ZcN (Zev g))=.ok g:=by
 obtain ⟨hh,hw⟩:=ZgA h;obtain ⟨I,a2,G⟩:=Zsh h;have R:Zcg g=g:=(ZnZ hh).1;obtain ⟨h1,h2⟩:=ZcD hh;obtain ⟨aw,ax⟩:=Zin hh;have U:=(ZfB _ _ _ h1).1;have V:=ZdT _ _ _ h1;have v:=(ZcB _ _ _ h1).2;obtain ⟨⟨a3,_⟩,M⟩:=Zfa _ _ _ _ h2;have z:=Zld _ _ _ _ h2;have a6:∀ n∈g.nodes,∀ t∈n.labels,t∈Zaq g 1:=fun n w t ht=>((ZaA g 1).mem t).2 (Yby.2 ⟨n,w,ht⟩);have a7:∀ r∈g.rels,r.type∈Zaq g 2:=fun r C=>((ZaA g 2).mem _).2 (Ybu C);have a8:∀ n∈g.nodes,∀ p∈n.props,p.key∈Zaq g 3:=fun n w p B=>((ZaA g 3).mem _).2 (Ygl _ (Yby.2 ⟨n,w,Ybu B⟩));have a9:∀ n∈g.rels,∀ p∈n.props,p.key∈Zaq g 3:=fun n w p B=>((ZaA g 3).mem _).2 (Ygm _ (Yby.2 ⟨n,w,Ybu B⟩));have nd:∀ {ps:List GPr},Zbc ps=0->(ps.map GPr.key).Nodup:=fun B=>(Zej B).imp fun {a b} hl (e:a=b)=>Zbd.irr b (by rw [e] at hl;exact hl);have ag:∀ n∈g.nodes,PsOk (Zaq g 3) n.props:=fun n w=>⟨fun p B=>⟨a8 n w p B,((ZfX (V n w).2).2 p B).2,hf.nodes n w p B⟩,nd (V n w).2⟩
 have ah:∀ n∈g.rels,PsOk (Zaq g 3) n.props:=fun n w=>⟨fun p B=>⟨a9 n w p B,((ZfX (M n w)).2 p B).2,hf.rels n w p B⟩,nd (M n w)⟩
 obtain ⟨S,ac⟩:∃ S,ZdK g.rels []=S:=⟨_,rfl⟩
 obtain ⟨b1,_,b3,b4⟩:=Zhx g.rels [] (fun r C=>(z r C).1.1) a3;rw [ac] at b1 b3 b4;simp only [YaS] at b1;have aa:S.length<=2048:=by rw [b1];exact Zhy g.rels 0 qO fun r C=>(z r C).1
 obtain ⟨T,_,t3,t4⟩:=Zhw g.nodes S (U.imp fun h e=>qO);have ai:∀ l∈S,Zqo l:=fun l hl=>by
  obtain ⟨i,hi,e⟩:=Ygv.1 hl;by_cases hu:∃ r∈g.rels,r.id.toNat=i
  · obtain ⟨r,C,rfl⟩:=hu;have:=b3 r C;rw [Yar hi,e] at this;injection this with this
    rw [this];exact ⟨rfl,rfl,rfl,rfl⟩
  have:=b4 i (Yah _) hi fun r C he=>hu ⟨r,C,he⟩;rw [Yar hi,e] at this;injection this with this
  rw [this];exact ⟨rfl,rfl,rfl,rfl⟩
 have t5:=ZfZ g.nodes S aa ai;have t6:=Zen g.nodes S aa;obtain ⟨L,N,hL⟩:∃ L N,Zay g.nodes S=(L,N):=⟨_,_,rfl⟩
 rw [hL] at T t3 t4 t5 t6;simp only at T t3 t4 t5 t6;have W:∀ y,Zgp g y=true->∃ n∈g.nodes,n.id=y:=fun y hy=>Yba.1 (YeB hy);have ab:∀ x∈g.rels,∃ k,L[x.id.toNat]?=some k/\ZfL k=true/\k.live=true/\k.src=x.src/\k.dst=x.dst:=fun x c=>by obtain ⟨k,k1,k2,k3,k4,_⟩:=T.at_ _ _ (b3 x c);obtain ⟨p1,p2,p3,p4⟩:=t5 k (Ybe k1);obtain ⟨n1,m1,e1⟩:=W _ (z x c).2.2.1;obtain ⟨n2,m2,e2⟩:=W _ (z x c).2.2.2;have i1:=(v n1 m1).1;have i2:=(v n2 m2).1;refine ⟨k,k1,?_,k2,k3,k4⟩;unfold ZfL;simp only [Yay];rw [k3,k4];exact ⟨Zai.2 (by simp only;omega),Zai.2 (by simp only;omega),p1,p2,p3,p4⟩
 have zf:(g.nodes.zip N).map Prod.fst=g.nodes:=List.map_fst_zip (by rw [t3];exact Yae _);have X:∀ x∈g.nodes.zip N,x.1∈g.nodes/\x.2∈N:=fun x c=>List.of_mem_zip c;have zp:(g.nodes.zip N).map (fun x=>x.1.props)=g.nodes.map Zaw.props:=by have:=YaC (List.map Zaw.props) zf;rwa [Ybf] at this
 have zi:(g.nodes.zip N).map (fun x=>x.1.id)=g.nodes.map Zaw.id:=by have:=YaC (List.map Zaw.id) zf;rwa [Ybf] at this
 obtain ⟨a4,a5⟩:=Zlr Zaw.props g.nodes;obtain ⟨ad,ae⟩:=Zlr GRel.props g.rels;have fN:=ZcC Zaw.props 16 g.nodes fun x c=>(v x c).2.2;have fR:=ZcC GRel.props 16 g.rels fun x c=>(ZfX (M x c)).1;unfold ZaN.wt at hw;obtain ⟨P2,A,D,e1,e2,e3,e4,e5,e6,e7⟩:=Zpl (keys:=Zaq g 3) (labels:=Zaq g 1) G.len G.noText I.len I.sort (g.nodes.zip N) ⟨[],[],[],[]⟩ [] rfl
  ⟨fun x c=>(v x.1 (X x c).1).1.1,by rw [zi];exact U⟩
  (fun x c=>⟨t6 _ (X x c).2,ag _ (X x c).1,(v x.1 (X x c).1).2.2,a6 _ (X x c).1,ZeZ (V _ (X x c).1).1,(v x.1 (X x c).1).2.1⟩)
  (by rw [zp,a5];simp only [YaS];omega) (by rw [zp,a4];simp only [ZaG,YaS];omega)
 rw [zp] at e3 e4;rw [zf] at e7;obtain ⟨P3,H,O,g1,g2,g3,g4,g5,g6,g7⟩:=Zpm (keys:=Zaq g 3) (types:=Zaq g 2) G.len G.noText a2.len (L:=L) g.rels ⟨[]++recN (Zaq g 1) 0 D,[],[]++P2,segR ([]++A)⟩ ([]++A) rfl
  ⟨fun x c=>(z x c).1.1,a3⟩ (fun x c=>⟨ah x c,(ZfX (M x c)).1,a7 x c,ab x c⟩)
  (by simp only [YaK];rw [e3,a5,ae];omega) (by rw [ad];rw [a4] at e4;simp only [ZaG,YaS] at e4;omega)
 simp only [YaK,YaS] at e1 e4 e7 g1 g4 g7;obtain ⟨s,af⟩:∃ s,Zev g=s:=⟨_,rfl⟩
 have o:s=⟨Zaq g 1,Zaq g 2,Zaq g 3,⟨4,1,17,recN (Zaq g 1) 0 D⟩,⟨5,1,31,recR (Zaq g 2) L 0 O⟩,⟨6,1,20,P2++P3⟩,⟨8,1,32,segR (A++H)⟩⟩:=by rw [<- af];unfold Zev;rw [ac,hL];simp only;rw [e1,g1]
 have Y:SegF s.blobs (A++H):=by rw [o];refine ⟨rfl,rfl,?_⟩;rw [ad] at g4;rw [a4] at e4;simp only [ZaG,YaS] at e4;omega
 have sl:s.labels=Zaq g 1:=by rw [o]
 have st:s.types=Zaq g 2:=by rw [o]
 have sk:s.keys=Zaq g 3:=by rw [o]
 have sn:s.nodes.recs=recN (Zaq g 1) 0 D:=by rw [o]
 have sr:s.rels.recs=recR (Zaq g 2) L 0 O:=by rw [o]
 have sp:s.props.recs=P2++P3:=by rw [o]
 have Z:D.map (fun x=>x.1)=g.nodes:=by have:=YaC (List.map Prod.fst) e2;rw [zf,Ybf] at this;exact this
 have m2:∀ x∈D,x.1∈g.nodes:=fun x c=>Z ▸ Ybu c;have m3:∀ x∈O,x.1∈g.rels:=fun x c=>g2 ▸ Ybu c;have r2:ZeA (fun x:Zaw×Int×Int=>x.1.id) 0 D:=⟨fun x c=>(v _ (m2 x c)).1.1,by
  have:D.map (fun x=>x.1.id)=g.nodes.map Zaw.id:=by rw [<- Z,Ybf];rfl
  rw [this];exact U⟩
 have r3:ZeA (fun x:GRel×Int=>x.1.id) 0 O:=⟨fun x c=>(z _ (m3 x c)).1.1,by
  have:O.map (fun x=>x.1.id)=g.rels.map GRel.id:=by rw [<- g2,Ybf];rfl
  rw [this];exact a3⟩
 have E:∀ x∈P2++P3,∃ d,x=some d/\d.length=19/\∃ y,getP d=some y/\ZaY (Zaq g 3) y.key≠noText:=fun x c=>by
  rcases YaR.1 c with c | c
  · exact e5 x c
  exact g5 x c
 have a0:Zfc (ZcN s)=.ok s:=by
  refine Zqt (sl ▸ I) (st ▸ a2) (sk ▸ G) ⟨by rw [o],by rw [o],by rw [o],fun d u=>?_,?_⟩ ⟨by rw [o],by rw [o],by rw [o],fun d u=>?_,?_⟩ ⟨by rw [o],by rw [o],by rw [o],fun d u=>?_,?_⟩ ⟨by rw [o],by rw [o],by rw [o],fun d u=>?_,?_⟩ Y.check
  · rw [sn] at u;obtain ⟨x,c,rfl⟩:=Zlp D 0 d u;rw [ZiM (e6 x c),o]
  · rw [sn];have:=Zpj (labels:=Zaq g 1) (m:=1024) D 0 qO (fun x c=>(v _ (m2 x c)).1.2) r2;omega
  · rw [sr] at u;obtain ⟨x,c,rfl⟩:=Zlq O 0 d u;rw [ZkP,o]
  · rw [sr];have:=Zpk (types:=Zaq g 2) (L:=L) O 0 r3;rw [g2] at this;omega
  · rw [sp] at u;obtain ⟨d',e,h9,_⟩:=E _ u;replace e:=Yax e;rw [e,h9,o]
  · rw [sp,Yaf,e3,g3,a5,ae];omega
  · have aj:some d∈(ZaG 0 (A++H)).map some:=Y.recs ▸ u;obtain ⟨d',ap,e⟩:=Yba.1 aj;replace e:=Yax e;subst e;rw [Zpn _ _ _ ap,o]
  rw [Y.nlen];exact Y.len
 have ak:Zcp s.rels=L:=by
  show s.rels.recs.map ZgB=L;rw [sr,ZmW O 0 r3 (by rw [T.len,b1,g2]) g6 fun j _ hj aq=>?_,Ycj];obtain ⟨k,k1,_,_,_,k5⟩:=T.at_ j _ (b4 j (Yah _) (by rw [<- T.len];exact hj) fun r C=>by rw [<- g2] at C;obtain ⟨x,c,rfl⟩:=Yba.1 C;exact aq x c)
  rw [k1,k5 rfl]
 obtain ⟨ar,au,n1,n2⟩:=e7 s (A++H) sk Y (by rw [sp];exact Ydq _ _) (Ydq _ _) [] [] ⟨rfl,by simp,by simp,by simp [Zcr]⟩;obtain ⟨ay,az,n3,n4⟩:=g7 s (A++H) sk Y (by rw [sp];exact List.prefix_refl _) (List.prefix_refl _) ar au n2;have al:Zbq (Zfd s) s.nodes.recs=0:=Zdq.2 fun d u=>by rw [sn] at u;obtain ⟨x,c,rfl⟩:=Zlp D 0 d u;unfold Zfd;rw [Zrf (e6 x c)];simp only;rw [Yab];rw [Ygu,Yek];intro i hi;obtain ⟨t,ht,rfl⟩:=Yba.1 hi;have F:=a6 _ (m2 x c) t ht;rw [sl,ZcO F];simp only [Ybc];exact fun e=>I.noText (e ▸ F)
 have hU:∀ y,Zgp g y=true->Zea s.nodes y=true:=fun y hy=>by obtain ⟨n,w,rfl⟩:=W y hy;rw [<- Z] at w;obtain ⟨x,c,rfl⟩:=Yba.1 w;obtain ⟨d,u⟩:=Zsf (labels:=Zaq g 1) D 0 r2 x c;have h0:=(v _ (m2 x c)).1.1;unfold Zea;rw [Yay,Ybc];refine ⟨h0,?_⟩;unfold Zaz.used;rw [sn];rw [YcF] at u;rw [u]
 have am:Zbq (relE s) s.rels.recs=0:=Zdq.2 fun d u=>by rw [sr] at u;obtain ⟨x,c,rfl⟩:=Zlq O 0 d u;obtain ⟨k,k1,k2,k3⟩:=g6 x c;obtain ⟨k',P,_,_,k4,k5⟩:=ab x.1 (m3 x c);rw [k1] at P;replace P:=Yax P;subst P;unfold relE;rw [k1,Yde,Zrg k2 k3];simp only;have F:=a7 _ (m3 x c);rw [k4,k5,Yab (by rw [hU _ (z _ (m3 x c)).2.2.1,hU _ (z _ (m3 x c)).2.2.2];simp),st,ZcO F,Yab];exact fun e=>a2.noText (e ▸ F)
 have an:Zbq (Zfe s) s.props.recs=0:=Zdq.2 fun d u=>by rw [sp] at u;obtain ⟨d',e,_,y,h8,h9⟩:=E _ u;replace e:=Yax e;subst e;unfold Zfe;rw [h8];simp only;rw [sk,Yab h9]
 have ao:Zdk (Zcp s.rels) 0 s.nodes.recs=0:=by
  rw [ak,sn];refine ZmV D 0 r2 fun x c=>⟨e6 x c,?_⟩
  have hz:(x.1,x.2.1)∈g.nodes.zip N:=e2 ▸ Ybu (f:=fun x:Zaw×Int×Int=>(x.1,x.2.1)) c;obtain ⟨av,i1,i2⟩:=t4 _ hz;exact ⟨av,by rw [T.len];exact i1,by rw [T.incid];exact i2⟩
 rw [af];unfold ZbW;rw [a0];simp only;unfold den1;rw [Yab (by rw [al];simp),Yab (by rw [am];simp),Yab (by rw [an];simp),Yab (by rw [ao];simp),sn,sl,n1];simp only;rw [sr,st,n3];simp only;have a1:s.props.live=(P2++P3).length:=by
  unfold Zaz.live;rw [sp,Ygs.2 fun x c=>by obtain ⟨d,rfl,_⟩:=E x c;rfl]
 rw [Yab (by rw [a1,n4.len];simp),Yab,Yab,R]
 · rw [R,h];simp
 rw [Ygu,Yek,Y.startE];intro i hi;obtain ⟨q,hq,rfl⟩:=Yba.1 hi;simp [n4.all q hq]
end Go.Proofs.YtmkjfhnlnhceiaaGreatDoor
