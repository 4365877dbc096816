/- Texts that the claim leans on: walks and plain laws, function by function. -/
import Derived.Deep.CutRange
import Derived.IntWalk
import Derived.BigRegion
import Derived.Test.YtmkjfhnlnhceiaaGreatDoorN19
import Derived.Test.YtmkjfhnlnhceiaaGreatDoorN22
set_option maxRecDepth 100000
set_option maxHeartbeats 16000000
namespace Go.Proofs.YtmkjfhnlnhceiaaGreatDoor
section
theorem ZfB:∀ (prev:Option Int) (i:Nat) (l:List Zaw),ZaR prev i l=none->(l.map Zaw.id).Pairwise (fun a b=>a<b)/\∀ y∈l.map Zaw.id,∀ q,prev=some q->q<y
 | _,_,[],_=>⟨by simp,by simp⟩
 | prev,i,x::l,h=>by
   simp only [ZaR] at h;by_cases c:Zcx prev x=0
   · rw [Yab (by rw [c];simp)] at h;obtain ⟨m,k⟩:=ZfB (some x.id) (i+1) l h;unfold Zcx at c;by_cases g:x.id<0\/1024<=x.id
     · rw [Yac g] at c;cases c
     rw [Yab g] at c;by_cases j:ZaO x.id prev=true
     · rw [Yac j] at c;cases c
     have d:∀ q,prev=some q->q<x.id:=fun q f=>by subst f;simpa [ZaO] using j
     rw [YaF];refine ⟨YbK.2 ⟨fun y e=>k y e x.id rfl,m⟩,fun y e q f=>?_⟩;rcases Yat.1 e with rfl | e
     · exact d q f
     have n:=k y e x.id rfl;have o:=d q f;omega
   rw [Yac c] at h;cases h
theorem ZhN:∀ (prev:Option Int) (i:Nat) (l:List Zaw) (x:Int×Nat),ZaR prev i l=some x->x.1≠0
 | _,_,[],_,h=>by cases h
 | prev,i,y::l,x,h=>by
   simp only [ZaR] at h;by_cases a:Zcx prev y=0
   · rw [Yab (by rw [a];simp)] at h;exact ZhN _ _ l x h
   rw [Yac a] at h;injection h with h
   subst h;exact a
theorem Zjf (th:Int->Bool):∀ (prev:Option Int) (i:Nat) (l:List GRel) (x:Int×Nat),Zbt th prev i l=some x->x.1≠0
 | _,_,[],_,h=>by cases h
 | prev,i,y::l,x,h=>by
   simp only [Zbt] at h;by_cases a:Zdh th prev y=0
   · rw [Yab (by rw [a];simp)] at h;exact Zjf th _ _ l x h
   rw [Yac a] at h;injection h with h
   subst h;exact a
theorem ZnX {g:ZaN} {x:Int×Nat} (h:Zbu g=some x):x.1≠0:=by
 unfold Zbu at h;cases hn:ZaR none 0 g.nodes with
 | some y =>
   rw [hn] at h;injection h with h
   subst h;exact ZhN _ _ _ _ hn
 | none =>
   rw [hn] at h;obtain ⟨y,b,c⟩:=YcJ.1 h;subst c;have a:=Zjf _ _ _ _ y b;exact a
theorem ZpY {g:ZaN} {tl:Int} {at_:Nat} (h:ZeX g tl=(0,at_)):Zbu g=none:=by
 unfold ZeX at h;cases hh:Zbu g with
 | none=>rfl
 | some x =>
   rw [hh] at h;have a:=ZnX hh;simp only at h;rw [h] at a;exact absurd rfl a
section
variable {α κ:Type} {lt:κ->κ->Prop} {key:α->κ}
theorem Zap.of_lt (L:Lin lt) {l:List α} (h:(l.map key).Pairwise lt):Zap lt key l/\(l.map key).Nodup:=by
 constructor
 · rw [Ydo] at h;exact h.imp fun h=>L.asym h
 exact h.imp fun {a b} h e=>by subst e;exact L.irr _ h
abbrev Ydw:=@Zap.of_lt
end
theorem Zms {p q:ByteArray} (h:leB p q=false):ltS q p:=Classical.byContradiction fun b=>by have a:=(Zus p q).2 b;unfold leB at h;rw [h] at a;cases a
theorem ZrD:∀ (prev:Option ByteArray) (l:List ByteArray),ZdD prev l=0->l.Pairwise ltS/\∀ y∈l,∀ q,prev=some q->ltS q y
 | _,[],_=>⟨List.Pairwise.nil,by simp⟩
 | prev,p::l,h=>by
   unfold ZdD at h;by_cases d:Zbj p=false
   · rw [Yac d] at h;cases h
   rw [Yab d] at h;by_cases c:ZbQ p prev=true
   · rw [Yac c] at h;cases h
   rw [Yab c] at h;obtain ⟨i,f⟩:=ZrD (some p) l h;have e:∀ q,prev=some q->ltS q p:=fun q b=>by
    subst b;have g:leB p q=false:=by simpa [ZbQ] using c
    exact Zms g
   refine ⟨YbK.2 ⟨fun y a=>f y a p rfl,i⟩,fun y a q b=>?_⟩;rcases Yat.1 a with rfl | a
   · exact e q b
   exact Zbd.tr (e q b) (f y a p rfl)
theorem ZoY:∀ (prev:Option ByteArray) (l:List GPr),ZbR prev l=0->(l.map GPr.key).Pairwise ltS/\∀ y∈l.map GPr.key,∀ q,prev=some q->ltS q y
 | _,[],_=>⟨List.Pairwise.nil,by simp⟩
 | prev,p::l,h=>by
   unfold ZbR at h;by_cases e:Zbj p.key=false
   · rw [Yac e] at h;cases h
   rw [Yab e] at h;by_cases c:ZbQ p.key prev=true
   · rw [Yac c] at h;cases h
   rw [Yab c] at h;by_cases d:chk p.val≠0
   · rw [Yac d] at h;exact absurd h d
   rw [Yab d] at h;obtain ⟨j,g⟩:=ZoY (some p.key) l h;have f:∀ q,prev=some q->ltS q p.key:=fun q b=>by
    subst b;have i:leB p.key q=false:=by simpa [ZbQ] using c
    exact Zms i
   rw [YaF];refine ⟨YbK.2 ⟨fun y a=>g y a p.key rfl,j⟩,fun y a q b=>?_⟩;rcases Yat.1 a with rfl | a
   · exact f q b
   exact Zbd.tr (f q b) (g y a p.key rfl)
theorem Zej {l:List GPr} (h:Zbc l=0):(l.map GPr.key).Pairwise ltS:=by
 unfold Zbc at h;by_cases a:16<l.length
 · rw [Yac a] at h;cases h
 rw [Yab a] at h;exact (ZoY _ _ h).1
theorem ZeZ {l:List ByteArray} (h:Zba l=0):l.Pairwise ltS:=by
 unfold Zba at h;by_cases a:8<l.length
 · rw [Yac a] at h;cases h
 rw [Yab a] at h;exact (ZrD _ _ h).1
theorem Zmt {prev:Option Int} {x:Zaw} (h:Zcx prev x=0):ZaO x.id prev=false/\Zba x.labels=0/\Zbc x.props=0:=by
 unfold Zcx at h;by_cases c:x.id<0\/1024<=x.id
 · rw [Yac c] at h;cases h
 rw [Yab c] at h;by_cases b:ZaO x.id prev=true
 · rw [Yac b] at h;cases h
 rw [Yab b] at h;by_cases a:Zba x.labels≠0
 · rw [Yac a] at h;exact absurd h a
 rw [Yab a] at h;exact ⟨by simpa using b,by simpa using a,h⟩
theorem ZnY {th:Int->Bool} {prev:Option Int} {x:GRel} (h:Zdh th prev x=0):ZaO x.id prev=false/\Zbc x.props=0:=by
 unfold Zdh at h;by_cases b:x.id<0\/2048<=x.id
 · rw [Yac b] at h;cases h
 rw [Yab b] at h;by_cases a:ZaO x.id prev=true
 · rw [Yac a] at h;cases h
 rw [Yab a] at h;by_cases c:Zbj x.type=false
 · rw [Yac c] at h;cases h
 rw [Yab c] at h;by_cases d:th x.src=false\/th x.dst=false
 · rw [Yac d] at h;cases h
 rw [Yab d] at h;exact ⟨by simpa using a,h⟩
theorem ZdT:∀ (prev:Option Int) (i:Nat) (l:List Zaw),ZaR prev i l=none->∀ x∈l,Zba x.labels=0/\Zbc x.props=0
 | _,_,[],_=>by simp
 | prev,i,y::l,h=>by
   simp only [ZaR] at h;by_cases a:Zcx prev y=0
   · rw [Yab (by rw [a];simp)] at h;intro x b;rcases Yat.1 b with rfl | b
     · exact (Zmt a).2
     exact ZdT _ _ l h x b
   rw [Yac a] at h;cases h
theorem Zfa (th:Int->Bool):∀ (prev:Option Int) (i:Nat) (l:List GRel),Zbt th prev i l=none->((l.map GRel.id).Pairwise (fun a b=>a<b)/\∀ y∈l.map GRel.id,∀ q,prev=some q->q<y)/\∀ x∈l,Zbc x.props=0
 | _,_,[],_=>⟨⟨List.Pairwise.nil,by simp⟩,by simp⟩
 | prev,i,y::l,h=>by
   simp only [Zbt] at h;by_cases c:Zdh th prev y=0
   · rw [Yab (by rw [c];simp)] at h;obtain ⟨j,k⟩:=ZnY c;obtain ⟨⟨m,g⟩,n⟩:=Zfa th _ _ l h;have f:∀ q,prev=some q->q<y.id:=fun q d=>by subst d;simpa [ZaO] using j
     rw [YaF];refine ⟨⟨YbK.2 ⟨fun z c=>g z c y.id rfl,m⟩,fun z c q d=>?_⟩,fun x e=>?_⟩
     · rcases Yat.1 c with rfl | c
       · exact f q d
       have o:=g z c y.id rfl;have p:=f q d;omega
     rcases Yat.1 e with rfl | e
     · exact k
     exact n x e
   rw [Yac c] at h;cases h
structure Mixed (g c:ZaN):Prop where
 can:Zcg c=Zcg g
 ids:(c.nodes.map Zaw.id).Nodup
 rids:(c.rels.map GRel.id).Nodup
 keys:∀ x∈c.nodes,(x.props.map GPr.key).Nodup
theorem ZnZ {g:ZaN} (h:Zbu g=none):Zcg g=g/\Mixed g g:=by
 obtain ⟨k,p⟩:=ZcD h;have i:=(ZfB _ _ _ k).1;have j:=ZdT _ _ _ k;obtain ⟨⟨l,_⟩,f⟩:=Zfa _ _ _ _ p;have m:g.nodes.map canN=g.nodes:=by
  conv=>rhs;rw [<- Yes g.nodes]
  refine Ycq fun x c=>?_;obtain ⟨a,b⟩:=j x c;have n:Zic x.labels=x.labels:=Zef Zbd (Ydw (key:=fun y:ByteArray=>y) Zbd (by simpa using ZeZ a)).1;have d:ZdF ltS GPr.key x.props=x.props:=Zef Zbd (Ydw Zbd (Zej b)).1;simp only [canN,n,d,id]
 have o:g.rels.map canR=g.rels:=by
  conv=>rhs;rw [<- Yes g.rels]
  refine Ycq fun x c=>?_;have d:ZdF ltS GPr.key x.props=x.props:=Zef Zbd (Ydw Zbd (Zej (f x c))).1;simp only [canR,d,id]
 have e:Zcg g=g:=by unfold Zcg;rw [m,o,Zef ZeQ (Ydw (key:=Zaw.id) ZeQ i).1,Zef ZeQ (Ydw (key:=GRel.id) ZeQ l).1]
 exact ⟨e,rfl,(Ydw (key:=Zaw.id) ZeQ i).2,(Ydw (key:=GRel.id) ZeQ l).2,fun x c=>(Ydw Zbd (Zej (j x c).2)).2⟩
theorem ZoZ (p:GPr) (l:List GPr):psW (p::l)=(enc p.val).length+psW l:=by simp [psW]
theorem Zhq (l m:List GPr):psW (l++m)=psW l+psW m:=by simp [psW]
structure ZvA (g:ZaN):Prop where
 nodes:∀ x∈g.nodes,∀ p∈x.props,p.val.Fits
 rels:∀ x∈g.rels,∀ p∈x.props,p.val.Fits
theorem Zpa {s:ByteArray} (h:Zbj s=true):s.size<=40:=by unfold Zbj ZiH at h;simp only [Yay,Ybc] at h;have:=h.1.1;rw [Zcj] at this;exact this
theorem ZhO:∀ (prev:Option ByteArray) (l:List GPr),ZbR prev l=0->∀ p∈l,p.key.size<=40/\chk p.val=0
 | _,[],_=>by simp
 | prev,q::l,h=>by
   simp only [ZbR] at h;by_cases b:Zbj q.key=false
   · rw [Yac b] at h;cases h
   rw [Yab b] at h;by_cases d:ZbQ q.key prev=true
   · rw [Yac d] at h;cases h
   rw [Yab d] at h;by_cases a:chk q.val≠0
   · rw [Yac a] at h;exact absurd h a
   rw [Yab a] at h;intro p c;rcases Yat.1 c with rfl | c
   · exact ⟨Zpa (by simpa using b),YbX.1 a⟩
   exact ZhO _ l h p c
theorem ZfX {l:List GPr} (h:Zbc l=0):l.length<=16/\∀ p∈l,p.key.size<=40/\chk p.val=0:=by
 unfold Zbc at h;by_cases a:16<l.length
 · rw [Yac a] at h;cases h
 rw [Yab a] at h;exact ⟨qO,ZhO _ _ h⟩
theorem Zld (th:Int->Bool):∀ (prev:Option Int) (i:Nat) (l:List GRel),Zbt th prev i l=none->∀ x∈l,(0<=x.id/\x.id<2048)/\x.type.size<=40/\th x.src=true/\th x.dst=true
 | _,_,[],_=>by simp
 | prev,i,y::l,h=>by
   simp only [Zbt] at h;by_cases a:Zdh th prev y=0
   · rw [Yab (by rw [a];simp)] at h;have g:=Zld th _ _ l h;unfold Zdh at a;by_cases e:y.id<0\/2048<=y.id
     · rw [Yac e] at a;cases a
     rw [Yab e] at a;by_cases f:ZaO y.id prev=true
     · rw [Yac f] at a;cases a
     rw [Yab f] at a;by_cases b:Zbj y.type=false
     · rw [Yac b] at a;cases a
     rw [Yab b] at a;by_cases c:th y.src=false\/th y.dst=false
     · rw [Yac c] at a;cases a
     intro x d;rcases Yat.1 d with rfl | d
     · exact ⟨qO,Zpa (by simpa using b),by simpa using fun h=>c (.inl h),by simpa using fun h=>c (.inr h)⟩
     exact g x d
   rw [Yac a] at h;cases h
end
section
open Go.RowKit
theorem ZvB (g:GR):g.dat.wt=wsum (g.ns.flatMap ND.props)+wsum (g.rs.flatMap RL.props):=by
 have a:∀ l:List ND,psW ((l.map ND.dat).flatMap Zaw.props)=wsum (l.flatMap ND.props):=fun l=>by
  induction l with
  | nil=>rfl
  | cons x l ih =>
    rw [YaF,Ybs,Zhq,ih,Ybs];unfold wsum;rw [YaG,Ygi];congr 1;unfold psW ND.dat;simp only [Ybf];rfl
 have b:∀ l:List RL,psW ((l.map RL.dat).flatMap GRel.props)=wsum (l.flatMap RL.props):=fun l=>by
  induction l with
  | nil=>rfl
  | cons x l ih =>
    rw [YaF,Ybs,Zhq,ih,Ybs];unfold wsum;rw [YaG,Ygi];congr 1;unfold psW RL.dat;simp only [Ybf];rfl
 unfold ZaN.wt GR.dat;rw [a,b]
noncomputable def Zaq (g:ZaN):Int->List ByteArray:=Classical.choose (ZrB (Zam g))
theorem ZaA (g:ZaN):∀ k,Srt (Zam g k) (Zaq g k):=Classical.choose_spec (ZrB (Zam g))
noncomputable def chkP (g:ZaN):Int×Nat:=ZeX g (ZeW (Zaq g 1).length (Zaq g 2).length (Zaq g 3).length g.wt)
theorem ZhP {F:Nat->Prop} (w:World) (g:GR) (h:RdG w F g) (hz:ZeS g) {e:Int} {at_:Nat} (hE:chkP g.dat=(e,at_)) :
 Calls Tryz.prog 16 #[g.agg] w fun x w'=>x=.returned (.tuple #[.int .i64 e,.int .i64 at_])/\Same w w' :=
 ZnS w g h hz.fit hz.texts (ZaA g.dat) (by rw [<- ZvB]) hE
theorem ZgA {g:ZaN} (h:(chkP g).1=0):Zbu g=none/\g.wt<=262144:=by
 have a:Zbu g=none:=ZpY (g:=g) (tl:=ZeW (Zaq g 1).length (Zaq g 2).length (Zaq g 3).length g.wt) (at_:=(chkP g).2) (Prod.ext h rfl);refine ⟨a,?_⟩;unfold chkP ZeX at h;rw [a] at h;simp only at h;unfold ZeW at h;split at h
 · cases h
 split at h
 · cases h
 omega
end
section
structure ZdH where
 name:ByteArray
 data:List UInt8
structure St1 where
 labels:List ByteArray
 types:List ByteArray
 keys:List ByteArray
 nodes:Zaz
 rels:Zaz
 props:Zaz
 blobs:Zaz
def Zfb:List ByteArray:=[⟨#[98,108,111,98,115]⟩,⟨#[107,101,121,115]⟩,⟨#[108,97,98,101,108,115]⟩,⟨#[109,101,116,97]⟩,⟨#[110,111,100,101,115]⟩,⟨#[112,114,111,112,115]⟩,⟨#[114,101,108,115]⟩,⟨#[116,121,112,101,115]⟩]
def Zif:List UInt8:=[71,83,84,82,0]
def ZaU (fs:List ZdH) (i:Nat):List UInt8:=match fs[i]? with | some f=>f.data | none=>[]
def Zav (d:List UInt8):Nat:=(d.headD 0).toNat
def Zdj (d:List UInt8):Nat:=((d.drop 1).headD 0).toNat
def ZbJ (d:List UInt8):Option Nat:=if be ((d.drop 2).take 4)=0 then none else some (be ((d.drop 2).take 4)-1)
def Zaz.at_ (f:Zaz) (i:Nat):Option (List UInt8):=match f.recs[i]? with | some (some d)=>some d | _=>none
def ZaV (f:Zaz) (d:List UInt8):Bool :=
 decide (Zav d<=1) && (decide (Zdj d<=25) && ((d.drop (6+Zdj d)).all (·==0) && match ZbJ d with | none=>decide (Zav d=1) || decide (0<Zdj d) | some j=>decide (Zdj d=25) && f.used j))
def bnx (f:Zaz) (i:Nat):Option Nat:=match f.at_ i with | some d=>ZbJ d | none=>none
def Zct (f:Zaz):List Nat:=(List.range f.recs.length).filter f.used
def Zca (f:Zaz):List Nat:=(Zct f).filter fun i=>match f.at_ i with | some d=>Zav d==1 | none=>false
def Zet (f:Zaz):Int :=
 if f.size≠32 then 4
 else if (Zct f).any (fun i=>match f.at_ i with | some d=>!ZaV f d | none=>false)=true then 100
 else if (∀ c∈Zct f,Zib (bnx f) (Zca f) (Zct f) c<=1)/\(allL (bnx f) (Zca f) f.recs.length).length=(Zct f).length then 0 else 101
def Zbm (f:Zaz):Nat->List Nat->Nat->Except Int (List Nat)
 | 0,_,_=>.error 101
 | k+1,met,i=>if i∈met then .error 101 else match f.at_ i with
   | none=>.error 3
   | some d=>if (Zav d=1)≠(met=[])\/ZaV f d=false then .error 100 else match ZbJ d with
     | none=>.ok [i]
     | some j=>match Zbm f k (i::met) j with | .error e=>.error e | .ok l=>.ok (i::l)
def ZcL (d:List UInt8):List UInt8:=(d.drop 6).take (Zdj d)
def Zjg (f:Zaz) (i:Int):Except Int (List UInt8) :=
 if f.size≠32 then .error 4 else if i<0\/f.used i.toNat=false then .error 3 else match Zbm f (f.recs.length+1) [] i.toNat with
 | .error e=>.error e
 | .ok l=>.ok (l.flatMap fun j=>match f.at_ j with | some d=>ZcL d | none=>[])
def ZdU (b:List UInt8) (kind size:Nat):Except Int Zaz:=match ZjH b with
 | .error e=>.error e
 | .ok f=>if f.kind≠kind\/f.size≠size then .error 111 else if f.version≠1 then .error 8 else .ok f
def Zfc (fs:List ZdH):Except Int St1 :=
 if fs.map ZdH.name≠Zfb then .error 140
 else if (ZaU fs 3).length≠6\/(ZaU fs 3).take 5≠Zif then .error 141
 else if (ZaU fs 3).drop 5≠[1] then .error 8
 else do
  let l<-tabP (ZaU fs 2) 1 1
  let t<-tabP (ZaU fs 7) 2 1
  let k<-tabP (ZaU fs 1) 3 1
  let n<-ZdU (ZaU fs 4) 4 17
  let r<-ZdU (ZaU fs 6) 5 31
  let p<-ZdU (ZaU fs 5) 6 20
  let b<-ZdU (ZaU fs 0) 8 32
  if Zet b≠0 then .error (Zet b)
  else if 1024<n.recs.length then .error 61
  else if 2048<r.recs.length then .error 62
  else .ok ⟨l,t,k,n,r,p,b⟩
def Zfd (s:St1) (d:List UInt8):Int:=match getN d with
 | none=>41
 | some x=>if x.labels.any (fun i=>decide (ZaY s.labels i=noText))=true then 110 else 0
def relE (s:St1) (d:List UInt8):Int:=match getR d with
 | none=>41
 | some x=>if Zea s.nodes x.link.src=false\/Zea s.nodes x.link.dst=false then 65 else if ZaY s.types x.type=noText then 110 else 0
def Zfe (s:St1) (d:List UInt8):Int:=match getP d with
 | none=>41
 | some x=>if ZaY s.keys x.key=noText then 110 else 0
def Zbq (e:List UInt8->Int):List (Option (List UInt8))->Int
 | []=>0
 | none::l=>Zbq e l
 | some d::l=>if e d≠0 then e d else Zbq e l
def ZaE:L1:=⟨false,0,0,0,0,0,0⟩
def ZgB (r:Option (List UInt8)):L1:=match r with | some d=>(match getR d with | some x=>x.link | none=>ZaE) | none=>ZaE
def Zcp (f:Zaz):List L1:=f.recs.map ZgB
def Zdk (L:List L1):Nat->List (Option (List UInt8))->Int
 | _,[]=>0
 | i,none::l=>Zdk L (i+1) l
 | i,some d::l=>match getN d with
   | none=>41
   | some x=>match ZbU L i (L.length+1) (-1) x.rel with
     | .error e=>e
     | .ok ids=>if ids.length≠(Zax L i).length then 101 else Zdk L (i+1) l
def val1 (s:St1) (x:P1) (mb:List Nat):Except Int (GVal×List Nat) :=
 if x.kind<4 then (if chk ⟨x.kind,x.num,noText,[],[]⟩≠0 then .error (chk ⟨x.kind,x.num,noText,[],[]⟩) else .ok (⟨x.kind,x.num,noText,[],[]⟩,mb))
 else match Zjg s.blobs x.blob with
 | .error e=>.error e
 | .ok b=>if x.blob.toNat∈mb then .error 101 else if (decA b).2≠0 then .error (decA b).2 else if (decA b).1.kind≠x.kind then .error 40 else .ok ((decA b).1,x.blob.toNat::mb)
def Zle (s:St1) (had:List Int) (last i:Int) (mp mb:List Nat):Except Int (P1×GVal×List Nat) :=
 if i<0 then .error 3 else match s.props.at_ i.toNat with
 | none=>.error 3
 | some d=>match getP d with
   | none=>.error 41
   | some x=>if i.toNat∈mp\/x.prev≠last then .error 101 else if x.key∈had then .error 7 else match val1 s x mb with
     | .error e=>.error e
     | .ok (v,mb)=>.ok (x,v,mb)
def Zbe (s:St1):Nat->List Int->Int->Int->List Nat->List Nat->Except Int (List GPr×List Nat×List Nat)
 | 0,_,_,i,mp,mb=>if i = -1 then .ok ([],mp,mb) else .error 64
 | k+1,had,last,i,mp,mb=>if i = -1 then .ok ([],mp,mb) else match Zle s had last i mp mb with
   | .error e=>.error e
   | .ok (x,v,mb)=>match Zbe s k (x.key::had) i x.next (i.toNat::mp) mb with
     | .error e=>.error e
     | .ok (l,mp,mb)=>.ok (⟨ZaY s.keys x.key,v⟩::l,mp,mb)
def Zff (labels:List ByteArray) (f:Int->List Nat->List Nat->Except Int (List GPr×List Nat×List Nat)):Nat->List (Option (List UInt8))->List Nat->List Nat->Except Int (List Zaw×List Nat×List Nat)
 | _,[],mp,mb=>.ok ([],mp,mb)
 | i,none::l,mp,mb=>Zff labels f (i+1) l mp mb
 | i,some d::l,mp,mb=>match getN d with
   | none=>.error 41
   | some x=>match f x.prop mp mb with
     | .error e=>.error e
     | .ok (ps,mp,mb)=>match Zff labels f (i+1) l mp mb with
       | .error e=>.error e
       | .ok (ns,mp,mb)=>.ok (⟨i,x.labels.map (ZaY labels),ps⟩::ns,mp,mb)
def Zjh (types:List ByteArray) (get:List UInt8->Option R1) (f:Int->List Nat->List Nat->Except Int (List GPr×List Nat×List Nat)):Nat->List (Option (List UInt8))->List Nat->List Nat->Except Int (List GRel×List Nat×List Nat)
 | _,[],mp,mb=>.ok ([],mp,mb)
 | i,none::l,mp,mb=>Zjh types get f (i+1) l mp mb
 | i,some d::l,mp,mb=>match get d with
   | none=>.error 41
   | some x=>match f x.prop mp mb with
     | .error e=>.error e
     | .ok (ps,mp,mb)=>match Zjh types get f (i+1) l mp mb with
       | .error e=>.error e
       | .ok (rs,mp,mb)=>.ok (⟨i,ZaY types x.type,x.link.src,x.link.dst,ps⟩::rs,mp,mb)
noncomputable def den1 (s:St1):Except Int ZaN :=
 if Zbq (Zfd s) s.nodes.recs≠0 then .error (Zbq (Zfd s) s.nodes.recs)
 else if Zbq (relE s) s.rels.recs≠0 then .error (Zbq (relE s) s.rels.recs)
 else if Zbq (Zfe s) s.props.recs≠0 then .error (Zbq (Zfe s) s.props.recs)
 else if Zdk (Zcp s.rels) 0 s.nodes.recs≠0 then .error (Zdk (Zcp s.rels) 0 s.nodes.recs)
 else match Zff s.labels (Zbe s 16 [] (-1)) 0 s.nodes.recs [] [] with
 | .error e=>.error e
 | .ok (ns,mp,mb)=>match Zjh s.types getR (Zbe s 16 [] (-1)) 0 s.rels.recs mp mb with
   | .error e=>.error e
   | .ok (rs,mp,mb) =>
     if mp.length≠s.props.live then .error 142
     else if (Zca s.blobs).any (fun i=>decide (i ∉ mb))=true then .error 142
     else if (chkP (Zcg ⟨ns,rs⟩)).1≠0 then .error (chkP (Zcg ⟨ns,rs⟩)).1 else .ok (Zcg ⟨ns,rs⟩)
noncomputable def ZbW (fs:List ZdH):Except Int ZaN:=match Zfc fs with
 | .error e=>.error e
 | .ok s=>den1 s
end
section
open Go.RowKit
theorem Zji:∀ {rs:List (Option (List UInt8))} {ns:List ByteArray} {er:Int},ZhY ns rs=.error er->er≠0
 | [],ns,er,h=>by cases h
 | none::rs,ns,er,h=>Zji (rs:=rs) h
 | some d::rs,ns,er,h=>by
   rw [ZhY] at h;split at h
   · cases h;decide
   split at h
   · cases h;decide
   exact Zji h
theorem Zts {bs:List UInt8} {k:Nat} {er:Int} (h:tabP bs k 1=.error er):er≠0:=by
 unfold tabP at h;split at h
 · rename_i a;injection h with h
   subst h;exact Zja a
 split at h
 · cases h;decide
 split at h
 · cases h;decide
 split at h
 · cases h;decide
 exact Zji h
def TblR (bs:List UInt8) (k:Nat) (w:World) (e:Ending) (w':World):Prop :=
 match tabP bs k 1 with
 | .error er=>e=Zcn er/\Same w w'
 | .ok ns=>∃ t f m cnt v nv l,e=.returned (.pointer (some ⟨t,0,none⟩))/\PT w' w.heap.size t f m k 1 cnt 0 v nv l ns/\Same w w'
def RcdR (bs:List UInt8) (k z:Nat) (w:World) (e:Ending) (w':World):Prop :=
 match ZdU bs k z with
 | .error er=>e=Zcn er/\Same w w'
 | .ok fl=>∃ f v l,e=.returned (.pointer (some ⟨f,0,none⟩))/\filD fl.kind fl.version fl.size l=fl/\fl.kind=k/\fl.version=1/\fl.size=z/\PF w' w.heap.size f k 1 z v l 0/\Same w w'
theorem Zhr {F:Nat->Prop} {A:Option Addr} {n c:Nat} {bs:List UInt8} (w:World) (hb:Zag w F A n c bs) (hn:n<=140737488355328) (hN:Nib w) (k:Nat) (hk:1<=k/\k<=3) :
 Calls Tryz.prog 67 #[.slice A n c,.int .i64 (k:Int)] w (TblR bs k w):=by
 have a:=qH (Zmm w hb hn hN k hk);clear hb hN hn;unfold TabR at a;unfold TblR;cases hT:tabP bs k 1 with
 | error er =>
   rw [hT] at a;have j:=qH (Zts hT);simp only;go_enter Tryz.func67,Tryz.ntmps67;go_wp2_with fail;refine a.mono ?_;rintro e g ⟨rfl,b⟩;have d:=qH b;clear b a;go_wp2_with fail;refine (Zco g j).mono ?_;rintro e p ⟨rfl,rfl⟩;exact ⟨rfl,rfl,d⟩
 | ok ns =>
   rw [hT] at a;simp only;go_enter Tryz.func67,Tryz.ntmps67;go_wp2_with fail;refine a.mono ?_;rintro e g ⟨t,f,m,h,v,q,l,rfl,i,b⟩;have d:=qH b;have o:=qH i;clear b i a;go_wp2_with fail;refine (ZbP g).mono ?_;rintro e p ⟨rfl,rfl⟩;go_wp2;go_ret;exact ⟨t,f,m,h,v,q,l,rfl,o,d⟩
theorem ZdB {F:Nat->Prop} {A:Option Addr} {n c:Nat} {bs:List UInt8} (w:World) (hb:Zag w F A n c bs) (hn:n<=140737488355328) (hN:Nib w) (k z:Nat) (hk:k<1000/\z<1000) :
 Calls Tryz.prog 68 #[.slice A n c,.int .i64 (k:Int),.int .i64 (z:Int)] w (RcdR bs k z w):=by
 have j:=qH (ZhM w hb hn hN);clear hb hN hn;unfold ZkX at j;obtain ⟨E,q⟩:∃ E,RcdR bs k z w=E:=⟨_,rfl⟩
 have a:=qH q;rw [q];clear q;unfold RcdR ZdU at a;cases hT:ZjH bs with
 | error er =>
   rw [hT] at j a;have t:=qH (Zja hT);simp only at a;clear hT;go_enter Tryz.func68,Tryz.ntmps68;go_wp2_with fail;refine j.mono ?_;rintro e b ⟨rfl,u⟩;have s:=qH u;clear u j;go_wp2_with fail;refine (Zco b t).mono ?_;rintro e g ⟨rfl,rfl⟩;refine ⟨rfl,?_⟩;rw [<- a.out];exact ⟨rfl,s⟩
 | ok fl =>
   obtain ⟨h,r,i,H⟩:=fl;rw [hT] at j a;simp only at a j;clear hT;go_enter Tryz.func68,Tryz.ntmps68;go_wp2_with fail;refine j.mono ?_;rintro e b ⟨f,v,l,rfl,x,G,u⟩;have B:=qH x;have s:=qH u;have y:=qH G;have C:=G.size;clear u G j x;go_wp2_with fail;refine (ZbP b).mono ?_;rintro e g ⟨rfl,rfl⟩;go_wp2_with fail;refine (ZhH b y).mono ?_;rintro e g ⟨rfl,rfl⟩;by_cases m:h=k
   case neg =>
    have d:¬ (h:Int)=(k:Int):=qO;have t:=qH (show (if h≠k\/i≠z then (.error 111:Except Int Zaz) else if r≠1 then .error 8 else .ok ⟨h,r,i,H⟩)=.error 111 from Yac (.inl m));rw [t.out] at a;clear m;go_wp2_with fail;refine (Zas b 111).mono ?_;rintro e g ⟨rfl,rfl⟩;refine ⟨rfl,?_⟩;rw [<- a.out];exact ⟨rfl,s⟩
   subst m;go_wp2_with fail;refine (ZcJ b y).mono ?_;rintro e g ⟨rfl,rfl⟩;by_cases o:i=z
   case neg =>
    have d:¬ (i:Int)=(z:Int):=qO;have D:((i:Int)==(z:Int))=false:=Ybn.2 d;have t:=qH (show (if h≠h\/i≠z then (.error 111:Except Int Zaz) else if r≠1 then .error 8 else .ok ⟨h,r,i,H⟩)=.error 111 from Yac (.inr o));rw [t.out] at a;clear o;go_wp2_with fail;refine (Zas b 111).mono ?_;rintro e g ⟨rfl,rfl⟩;refine ⟨rfl,?_⟩;rw [<- a.out];exact ⟨rfl,s⟩
   subst o;rw [Yab (show ¬ (h≠h\/i≠i) by simp)] at a;go_wp2_with fail;refine (ZaP b 111).mono ?_;rintro e g ⟨rfl,rfl⟩;go_wp2_with fail;refine (ZeI b y).mono ?_;rintro e g ⟨rfl,rfl⟩;by_cases p:r=1
   case neg =>
    have d:¬ (r:Int)=1:=qO;have D:((r:Int)==1)=false:=Ybn.2 d;rw [Yac p] at a;clear p;go_wp2_with fail;refine (Zas b 8).mono ?_;rintro e g ⟨rfl,rfl⟩;refine ⟨rfl,?_⟩;rw [<- a.out];exact ⟨rfl,s⟩
   subst p;rw [Yab (by simp)] at a;go_wp2_with fail;refine (ZaP b 8).mono ?_;rintro e g ⟨rfl,rfl⟩;go_wp2;refine (show E (.returned (.pointer (some ⟨f,0,none⟩))) b from ?_);rw [<- a.out];exact ⟨f,v,l,rfl,B,by first | rfl | trivial,by first | rfl | trivial,by first | rfl | trivial,y,s⟩
def Zmu (ns:List ByteArray) (i:Int) (e:Ending):Prop:=if ZaY ns i=noText then e=Zcn 110 else e=.returned (.string (ZaY ns i))
theorem ZdV {w:World} {B t f m k vs cnt low:Nat} {v nv:Value} {l:List BS} {ns:List ByteArray} (h:PT w B t f m k vs cnt low v nv l ns) (i:Int):Calls Tryz.prog 73 #[.pointer (some ⟨t,0,none⟩),.int .i64 i] w fun e w'=>Zmu ns i e/\w=w':=by
 have c:=qH (Zmf h i);clear h;unfold Zmu;generalize ZaY ns i=s at *;by_cases a:s=noText
 · simp only [Yac a];have b:(!decide (s=noText))=false:=by simp [a]
   rw [b] at c;clear a b;go_enter Tryz.func73,Tryz.ntmps73;go_wp2_with fail;refine c.mono ?_;rintro e d ⟨rfl,rfl⟩;go_wp2_with fail;refine (Zas w 110).mono ?_;rintro e g ⟨rfl,rfl⟩;exact ⟨rfl,rfl,rfl⟩
 simp only [Yab a];have b:(!decide (s=noText))=true:=by simp [a]
 rw [b] at c;clear a b;go_enter Tryz.func73,Tryz.ntmps73;go_wp2_with fail;refine c.mono ?_;rintro e d ⟨rfl,rfl⟩;go_wp2_with fail;refine (ZaP w 110).mono ?_;rintro e g ⟨rfl,rfl⟩;go_wp2;go_ret;exact ⟨rfl,rfl⟩
def Zhs:Value:=.agg (Zfb.map Value.string).toArray
theorem Zjj (w:World):Calls Tryz.prog 63 #[] w fun e w'=>e=.returned Zhs/\Same w w':=by go_enter Tryz.func63,Tryz.ntmps63;go_wp2_with fail;refine YbB (v:=Zhs) ?_ rfl ⟨rfl,(Yaa (fun _=>False) w).alloc _⟩;simp [results,Tryz.results63,go_sem,Zhs,Zfb]
end
section
def isS (f:Zaz) (i:Nat):Bool:=match f.at_ i with | some d=>Zav d==1 | none=>false
variable {f:Zaz}
theorem ZdI {i:Nat}:f.used i=true↔∃ d,f.at_ i=some d:=by
 unfold Zaz.used Zaz.at_;cases f.recs[i]? with
 | none=>simp
 | some r=>cases r <;> simp
theorem Zek {i:Nat} (h:f.used i=true):i<f.recs.length:=by
 unfold Zaz.used at h;split at h
 · rename_i d e;exact (Yaq.1 e).1
 cases h
theorem ZgC {i:Nat}:i∈Zct f↔f.used i=true:=by unfold Zct;rw [YdE,Ycm];exact ⟨fun h=>h.2,fun h=>⟨Zek h,h⟩⟩
theorem Zjk:(Zct f).Nodup:=List.filter_sublist.nodup Ygq
theorem ZcE {i:Nat}:i∈Zca f↔f.used i=true/\isS f i=true:=by unfold Zca;rw [YdE,ZgC];rfl
theorem ZrE:(Zct f).length<=f.recs.length:=by have:=Zcl (Zjk (f:=f)) (U:=List.range f.recs.length) fun x a=>Ycm.2 (Zek (ZgC.1 a));simpa using this
def AllS (f:Zaz):Prop:=∀ i d,f.at_ i=some d->ZaV f d=true
theorem Zlf (hs:AllS f) {i j:Nat} (h:bnx f i=some j):f.used j=true:=by
 unfold bnx at h;cases hd:f.at_ i with
 | none=>rw [hd] at h;cases h
 | some d =>
   rw [hd] at h;simp only at h;have a:=hs i d hd;unfold ZaV at a;rw [h] at a;simp only [Yay] at a;exact a.2.2.2.2
theorem Zht (hs:AllS f):∀ (k:Nat) (met:List Nat) (i:Nat) (l:List Nat),f.used i=true ->
 (Zbm f (k+1) met i=.ok l↔ZbZ (bnx f) k i=true/\l=ZaD (bnx f) k i/\(∀ x∈l,x ∉ met)/\l.Nodup/\(isS f i=true↔met=[])/\∀ x∈l.tail,isS f x=false):=by
 intro k
 induction k with
 | zero =>
   intro met i l v;obtain ⟨d,m⟩:=ZdI.1 v;have o:isS f i=true↔Zav d=1:=by unfold isS;rw [m];simp
   have r:bnx f i=ZbJ d:=by unfold bnx;rw [m]
   rw [Zbm,m];simp only [ZbZ,ZaD,r];by_cases b:i∈met
   · rw [Yac b];constructor
     · intro h;cases h
     rintro ⟨_,rfl,h,_⟩;exact absurd b (h i (by simp))
   rw [Yab b];simp only [hs i d m,YdV,Ych];by_cases c:(Zav d=1)≠(met=[])
   · rw [Yac c];constructor
     · intro h;cases h
     rintro ⟨_,_,_,_,h,_⟩;exact absurd (propext (o.symm.trans h)) c
   rw [Yab c];have g:(Zav d=1)=(met=[]):=YbX.1 c;cases hn:ZbJ d with
   | none =>
     simp only [Yfc,YfD,YcW];constructor
     · rintro rfl;exact ⟨rfl,by simpa using b,by simp,by rw [o,g],by simp⟩
     rintro ⟨rfl,_⟩;rfl
   | some j=>simp [Zbm]
 | succ k ih =>
   intro met i l v;obtain ⟨d,m⟩:=ZdI.1 v;have o:isS f i=true↔Zav d=1:=by unfold isS;rw [m];simp
   have r:bnx f i=ZbJ d:=by unfold bnx;rw [m]
   rw [Zbm,m];simp only;rw [ZbZ,ZaD,r];by_cases b:i∈met
   · rw [Yac b];constructor
     · intro h;cases h
     rintro ⟨_,rfl,h,_⟩;exact absurd b (h i (by simp))
   rw [Yab b];simp only [hs i d m,YdV,Ych];by_cases c:(Zav d=1)≠(met=[])
   · rw [Yac c];constructor
     · intro h;cases h
     rintro ⟨_,_,_,_,h,_⟩;exact absurd (propext (o.symm.trans h)) c
   rw [Yab c];have g:(Zav d=1)=(met=[]):=YbX.1 c;cases hn:ZbJ d with
   | none =>
     simp only [Yfc,YcW];constructor
     · rintro rfl;exact ⟨rfl,by simpa using b,by simp,by rw [o,g],by simp⟩
     rintro ⟨rfl,_⟩;rfl
   | some j =>
     have B:f.used j=true:=Zlf hs (r.trans hn);have:=ih (i::met) j;simp only;constructor
     · intro h;cases hr:Zbm f (k+1) (i::met) j with
       | error e=>rw [hr] at h;cases h
       | ok l' =>
         rw [hr] at h;simp only [Yfc] at h;subst h;obtain ⟨w,C,t,z,D,u⟩:=(this l' B).1 hr;refine ⟨w,by rw [C],fun x a=>?_,YbG.2 ⟨fun F=>t i F (by simp),z⟩,by rw [o,g],fun x a=>?_⟩
         · rcases Yat.1 a with rfl | a
           · exact b
           exact fun A=>t x a (by simp [A])
         simp only [Yfz] at a;cases l' with
         | nil=>cases a
         | cons y l' =>
           rcases Yat.1 a with rfl | a
           · have E:x=j:=by
              have s:(x::l').head?=(ZaD (bnx f) k j).head?:=by rw [C]
              have p:(ZaD (bnx f) k j).head?=some j:=by cases k <;> simp [ZaD]
              rw [p] at s;simpa using s
             subst E;cases h9:isS f x with
             | false=>rfl
             | true=>exact absurd (D.1 h9) (by simp)
           exact u x a
     rintro ⟨w,rfl,t,z,D,u⟩;have q:=YbG.1 z;have s:=(this (ZaD (bnx f) k j) B).2 ⟨w,rfl,fun x a n=>?_,q.2,⟨fun p=>?_,fun p=>by cases p⟩,fun x a=>u x (List.mem_of_mem_tail a)⟩
     · rw [s]
     · rcases Yat.1 n with rfl | n
       · exact q.1 a
       exact t x (by simp [a]) n
     have:=u j (Zrm k j);rw [p] at this;cases this
theorem Zoa {nx:Nat->Option Nat} {k i:Nat} (h:ZbZ nx k i=true):(ZaD nx k i).tail=(ZaD nx k i).filterMap nx:=by rw [<- Zfw h,Zfv,Yfz,<-Zfv,Zfw h]
theorem ZpZ (hs:AllS f):((∀ c∈Zct f,Zib (bnx f) (Zca f) (Zct f) c<=1)/\(allL (bnx f) (Zca f) f.recs.length).length=(Zct f).length) ↔
 ((∀ s∈Zca f,Zbm f (f.recs.length+1) [] s=.ok (ZaD (bnx f) f.recs.length s))/\(allL (bnx f) (Zca f) f.recs.length).Nodup/\∀ c∈Zct f,c∈allL (bnx f) (Zca f) f.recs.length):=by
 have m:∀ s∈Zca f,s∈Zct f:=fun s h=>ZgC.2 (ZcE.1 h).1;have n:∀ i∈Zct f,∀ j,bnx f i=some j->j∈Zct f:=fun i _ j h=>ZgC.2 (Zlf hs h);rw [ZpG m n Zjk ZrE];constructor
 · rintro ⟨b,a,k⟩;refine ⟨fun s h=>?_,a,k⟩;refine (Zht hs _ [] s _ (ZcE.1 h).1).2 ⟨b s h,rfl,fun _ _=>by simp,?_,⟨fun _=>rfl,fun _=>(ZcE.1 h).2⟩,fun x l=>?_⟩
   · obtain ⟨u,v,e⟩:=Ygg h;rw [allL,e,YbS,Ybs] at a;exact (YdU.1 (YdU.1 a).2.1).1
   cases hx2:isS f x with
   | false=>rfl
   | true =>
     rw [Zoa (b s h)] at l;obtain ⟨y,p,d⟩:=List.mem_filterMap.1 l;have g:x∈Zca f:=ZcE.2 ⟨Zlf hs d,hx2⟩;have o:=(ZkQ (nx:=bnx f) (Zca f) f.recs.length).count_eq x;rw [ZkR b,Yer] at o;have q:=Yft.1 a x;have r:=Yfp.2 g;have t:0<((allL (bnx f) (Zca f) f.recs.length).filterMap (bnx f)).count x:=Yfp.2 (List.mem_filterMap.2 ⟨y,Yby.2 ⟨s,h,p⟩,d⟩);omega
 rintro ⟨b,a,k⟩;exact ⟨fun s h=>((Zht hs _ [] s _ (ZcE.1 h).1).1 (b s h)).1,a,k⟩
end
end Go.Proofs.YtmkjfhnlnhceiaaGreatDoor
