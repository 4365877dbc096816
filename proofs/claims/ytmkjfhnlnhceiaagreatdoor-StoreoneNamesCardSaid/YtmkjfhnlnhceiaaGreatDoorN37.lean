/- Texts that the claim leans on: walks and plain laws, function by function. -/
import Derived.Test.YtmkjfhnlnhceiaaGreatDoorN36
set_option maxRecDepth 100000
set_option maxHeartbeats 16000000
namespace Go.Proofs.YtmkjfhnlnhceiaaGreatDoor
section
variable {l:List ByteArray}
theorem Zjr {s:ByteArray} (h:s∈l):∃ i:Nat,ZaL l s=(i:Int)/\l[i]?=some s:=by
 unfold ZaL;cases hf:l.findIdx? (fun t=>decide (t=s)) with
 | none =>
   have:=List.findIdx?_eq_none_iff.1 hf s h;simp at this
 | some i =>
   obtain ⟨a,b,_⟩:=List.findIdx?_eq_some_iff_getElem.1 hf;exact ⟨i,rfl,by rw [Yar a,YeB b]⟩
theorem ZcO {s:ByteArray} (h:s∈l):ZaY l (ZaL l s)=s:=by obtain ⟨i,a,b⟩:=Zjr h;unfold ZaY;rw [a,Yab qO,YaN,b]
theorem ZtG {s t:ByteArray} (hs:s∈l) (ht:t∈l) (e:ZaL l s=ZaL l t):s=t:=by rw [<- ZcO hs,e,ZcO ht]
theorem Zlo {s:ByteArray} (h:s∈l) (hl:l.length<=200):inP (ZaL l s) 0 200=true:=by obtain ⟨i,a,b⟩:=Zjr h;have:=(Yaq.1 b).1;rw [Zai,a];omega
theorem ZuN (hl:l.Pairwise ltS) {s t:ByteArray} (hs:s∈l) (ht:t∈l) (h:ltS s t):ZaL l s<ZaL l t:=by
 obtain ⟨i,k,c⟩:=Zjr hs;obtain ⟨j,m,b⟩:=Zjr ht;obtain ⟨d,e⟩:=Yaq.1 c;obtain ⟨f,g⟩:=Yaq.1 b;rcases Nat.lt_trichotomy i j with a | a | a
 · omega
 · subst a;rw [c] at b;injection b with b
   subst b;exact absurd h (Zbd.irr _)
 have:=YeT.1 hl j i f d a;rw [e,g] at this;exact absurd (Zbd.tr h this) (Zbd.irr _)
theorem Zph:∀ (l:List Int) (last:Int),(∀ x∈l,last<x/\inP x 0 200=true)->l.Pairwise (fun a b=>a<b)->Zhe last l=true
 | [],_,_,_=>rfl
 | x::l,last,h,hp=>by rw [YbK] at hp;have c:=h x (by simp);simp only [Zhe,Yay,Ybc];exact ⟨c.2,c.1,Zph l x (fun y d=>⟨hp.1 y d,(h y (by simp [d])).2⟩) hp.2⟩
theorem Zsc {ls:List ByteArray} (hl:l.Pairwise ltS) (hn:l.length<=200) (hm:∀ s∈ls,s∈l) (hs:ls.Pairwise ltS) (h8:ls.length<=8):ZdR (ls.map (ZaL l))=true:=by
 unfold ZdR;rw [Yay];refine ⟨by simpa using h8,Zph _ _ (fun x c=>?_) ?_⟩
 · obtain ⟨s,a,rfl⟩:=Yba.1 c;have b:=Zlo (hm s a) hn;exact ⟨by have:=(Zai.1 b).1;omega,b⟩
 rw [Ydo];exact hs.imp_of_mem fun d e h=>ZuN hl (hm _ d) (hm _ e) h
end
theorem Zdq {e:List UInt8->Int}:∀ {l:List (Option (List UInt8))},Zbq e l=0↔∀ d,some d∈l->e d=0
 | []=>by simp [Zbq]
 | none::l=>by rw [Zbq,Zdq];simp
 | some d::l=>by
   rw [Zbq];by_cases h:e d=0
   · rw [Yab (by simp [h]),Zdq];simp [h]
   rw [Yac h];exact ⟨fun a=>absurd a h,fun a=>absurd (a d (by simp)) h⟩
def segR (sg:List (List UInt8)):List (Option (List UInt8)):=(ZaG 0 sg).map some
theorem ZtH (sg:List (List UInt8)):(segR sg).length=(ZaG 0 sg).length:=Yag _
theorem ZmT (sg:List (List UInt8)) (d:List UInt8):ZaG 0 (sg++[d])=ZaG 0 sg++ZaF d.length true (ZaG 0 sg).length d:=by rw [ZmQ];simp [ZaG]
theorem ZgN (sg:List (List UInt8)) (d:List UInt8):(ZaG 0 (sg++[d])).length=(ZaG 0 sg).length+nBlk d:=by rw [ZmT,Yaf,ZcU]
theorem Zol {sg:List (List UInt8)} {d:List UInt8} (h:(ZaG 0 sg).length+nBlk d<=65536):Zbz (segR sg) d=(segR (sg++[d]),((ZaG 0 sg).length:Int)):=by unfold Zbz;rw [ZtH,ZcU,Yab qO];unfold segR;rw [ZmT,YaG]
theorem ZuO {sg sgF:List (List UInt8)} {d:List UInt8} (h:(sg++[d]) <+: sgF):((ZaG 0 sg).length,d)∈Zcr 0 sgF:=by obtain ⟨t,rfl⟩:=h;rw [ZgM,ZgM];simp [Zcr]
structure Met (n:Nat) (sg:List (List UInt8)) (mp mb:List Nat):Prop where
 len:mp.length=n
 lt:∀ x∈mp,x<n
 blt:∀ x∈mb,x<(ZaG 0 sg).length
 all:∀ q∈Zcr 0 sg,q.1∈mb
structure PsOk (keys:List ByteArray) (ps:List GPr):Prop where
 each:∀ p∈ps,p.key∈keys/\chk p.val=0/\p.val.Fits
 nodup:(ps.map GPr.key).Nodup
theorem PsOk.tail {keys:List ByteArray} {p:GPr} {ps:List GPr} (h:PsOk keys (p::ps)):PsOk keys ps:=⟨fun q a=>h.each q (by simp [a]),(YbG.1 (by simpa using h.nodup)).2⟩
theorem ZvH {f:Zaz} {P:List (Option (List UInt8))} {d:List UInt8} {t:List (Option (List UInt8))} (h:(P++some d::t) <+: f.recs):f.at_ P.length=some d:=by obtain ⟨u,a⟩:=h;unfold Zaz.at_;rw [<- a,Yak,YcA (Yae _),YbC];rfl
theorem Zsd {v:GVal} (h:chk v=0) (hk:v.kind<4):v=⟨v.kind,v.num,noText,[],[]⟩:=by
 cases ZiB h with
 | num=>rfl
 | text=>simp at hk
 | nums=>simp only at hk;omega
 | texts=>simp at hk
def Zjs (keys:List ByteArray) (P:List (Option (List UInt8))):Prop:=∀ x∈P,∃ d,x=some d/\d.length=19/\∃ y,getP d=some y/\ZaY keys y.key≠noText
theorem Zse (s:St1) (k:Nat) (had:List Int) (last:Int) (mp mb:List Nat):Zbe s k had last (-1) mp mb=.ok ([],mp,mb):=by cases k <;> (rw [Zbe];exact Yac rfl)
section
variable {keys:List ByteArray}
theorem Zpi (hkl:keys.length<=200) (hkn:noText ∉ keys) {first n:Nat} (hfn:first+n<=65536):∀ (ps:List GPr) (i:Nat) (P:List (Option (List UInt8))) (sg:List (List UInt8)),P.length=first+i->n=i+ps.length->PsOk keys ps ->
 25*(ZaG 0 sg).length+(25*ps.length+psW ps)<=1638400 ->
 ∃ P2 sg2,ZgJ keys first n i ps P (segR sg)=(P++P2,segR (sg++sg2))/\P2.length=ps.length/\25*(ZaG 0 (sg++sg2)).length<=25*(ZaG 0 sg).length+(25*ps.length+psW ps) /\
  Zjs keys P2 /\
  (∀ (s:St1) (sgF:List (List UInt8)),s.keys=keys->SegF s.blobs sgF->(P++P2) <+: s.props.recs->(sg++sg2) <+: sgF->∀ k had mp mb,ps.length<=k->(∀ p∈ps,ZaL keys p.key ∉ had)->Met P.length sg mp mb ->
    ∃ mp' mb',Zbe s k had (if 0<i then ((first+i-1:Nat):Int) else -1) (if ps=[] then -1 else ((first+i:Nat):Int)) mp mb=.ok (ps,mp',mb')/\Met (P.length+ps.length) (sg++sg2) mp' mb')
 | [],i,P,sg,hP,hn,hps,hr=>⟨[],[],by simp [ZgJ],rfl,by rw [Ybl];exact Nat.le_add_right _ _,by simp [Zjs],fun _ _ _ _ _ _ k had mp mb _ _ h=>⟨mp,mb,by rw [Yac rfl,Zse],by simpa using h⟩⟩
 | p::ps,i,P,sg,hP,hn,hps,hr=>by
   obtain ⟨v,D,S⟩:=hps.each p (by simp);rw [ZoZ,Yao] at hr;rw [Yao] at hn;have hz:=Zfo D;obtain ⟨a,b,Y,Z,w⟩:∃ (a:List (List UInt8)) (b:Int),(if 3<p.val.kind then Zbz (segR sg) (enc p.val) else (segR sg,-1))=(segR (sg++a),b) /\
    25*(ZaG 0 (sg++a)).length<=25*(ZaG 0 sg).length+(25+(enc p.val).length) /\
    ((p.val.kind<4/\a=[]/\b = -1)\/(¬ p.val.kind<4/\a=[enc p.val]/\b=((ZaG 0 sg).length:Int))):=by
    by_cases f:p.val.kind<4
    · exact ⟨[],-1,by rw [Yab qO,Ybl],by rw [Ybl];omega,.inl ⟨f,rfl,rfl⟩⟩
    have E:=ZuM (enc p.val);exact ⟨[enc p.val],_,by rw [Yac qO,Zol qO],by rw [ZgN];omega,.inr ⟨f,rfl,rfl⟩⟩
   obtain ⟨x,j⟩:∃ x:P1,x=⟨ZaL keys p.key,p.val.kind,if 3<p.val.kind then 0 else p.val.num,b,if 0<i then ((first+i-1:Nat):Int) else -1,if i+1<n then ((first+i+1:Nat):Int) else -1⟩:=⟨_,rfl⟩
   have F:ZbN x=true:=by
    rw [j];unfold ZbN;simp only [Yay];refine ⟨Zlo v hkl,Zai.2 qO,?_,Zai.2 (by split <;> omega),Zai.2 (by split <;> omega)⟩;rcases w with ⟨f,_,rfl⟩ | ⟨f,_,rfl⟩
    · rw [Yac f];rfl
    rw [Yab f,Yac qO,Yay];exact ⟨rfl,Zai.2 qO⟩
   have r:getP (ZbO x)=some x:=Zvo F fun E=>by rw [j] at E ⊢;simp only at E ⊢;rw [Yab qO];exact S.num
   obtain ⟨P2,sg2,e1,e2,e3,e4,M⟩:=Zpi hkl hkn hfn ps (i+1) (P++[some (ZbO x)]) (sg++a) (by rw [Yaf,hP];rfl) qO hps.tail qO;refine ⟨some (ZbO x)::P2,a++sg2,?_,by rw [Yao,Yao,e2],?_,?_,?_⟩
   · rw [ZgJ];rw [Y];simp only;rw [<- j,e1,Yak,Yak];rfl
   · rw [ZoZ,Yao,<-Yak];omega
   · intro y g;rcases Yat.1 g with rfl | g
     · refine ⟨_,rfl,ZiN x,x,r,?_⟩;rw [j,ZcO v];exact fun e=>hkn (e ▸ v)
     exact e4 y g
   intro s sgF z T A o k had mp mb B l h;rw [Yao] at B;obtain ⟨k,rfl⟩:∃ m,k=m+1:=⟨k-1,qO⟩
   have G:s.props.at_ P.length=some (ZbO x):=ZvH A;rw [<- Yak] at o;have t:x.key=ZaL keys p.key:=by rw [j]
   have H:x.prev=if 0<i then ((first+i-1:Nat):Int) else -1:=by rw [j]
   have I:x.next=if i+1<n then ((first+i+1:Nat):Int) else -1:=by rw [j]
   have L:=YbG.1 (by simpa using hps.nodup:(p.key::ps.map GPr.key).Nodup);have u:∃ d,val1 s x mb=.ok (p.val,d)/\(∀ y∈d,y<(ZaG 0 (sg++a)).length)/\∀ q∈Zcr 0 (sg++a),q.1∈d:=by
    rcases w with ⟨f,rfl,rfl⟩ | ⟨f,rfl,rfl⟩
    · refine ⟨mb,?_,by rw [Ybl];exact h.blt,by rw [Ybl];exact h.all⟩;have W:=Zsd D f;unfold val1;rw [j];simp only;rw [Yac f,Yab (show ¬ 3<p.val.kind by omega),<-W,D];simp
    have c:=ZuO (Yfd (Ydq _ _) o);refine ⟨(ZaG 0 sg).length::mb,?_,fun y g=>?_,fun q c=>?_⟩
    · unfold val1;rw [j];simp only;rw [Yab f,T.load c];simp only;rw [Ztb D S];simp only;rw [Yab (fun C=>absurd (h.blt _ C) (by rw [YaN];omega)),Yab (by simp),Yab (by simp),YaN]
    · rw [ZgN];have:=Zio (enc p.val);rcases Yat.1 g with rfl | g
      · omega
      have:=h.blt y g;omega
    rw [ZgM] at c;rcases YaR.1 c with c | c
    · exact YcZ _ (h.all q c)
    simp only [Zcr,YaH] at c;subst c;simp
   obtain ⟨d,N,O,R⟩:=u;obtain ⟨mp',mb',U,V⟩:=M s sgF z T (by rw [Yak];exact A) o k (ZaL keys p.key::had) (P.length::mp) d qO (fun q c=>by
    rw [Yat,not_or];refine ⟨fun e=>L.1 ?_,l q (by simp [c])⟩;rw [<- ZtG (hps.each q (by simp [c])).1 v e];exact Ybu c) ⟨by rw [Yao,h.len,Yaf];rfl,fun y g=>by
    rw [Yaf,Ycs];rcases Yat.1 g with rfl | g
    · omega
    have:=h.lt y g;omega,O,R⟩
   refine ⟨mp',mb',?_,?_⟩
   · rw [Yab (YdG _ _)];have M:Zle s had (if 0<i then ((first+i-1:Nat):Int) else -1) ((first+i:Nat):Int) mp mb=.ok (x,p.val,d):=by unfold Zle;rw [Yab qO,YaN,show s.props.at_ (first+i)=_ from hP ▸ G];simp only;rw [r];simp only;rw [Yab (by rw [H];rintro (C | C);exact absurd (h.lt _ C) qO;exact C rfl),Yab (by rw [t];exact l p (by simp)),N]
     rw [Zbe,Yab qO,M];simp only;rw [YaN,<-hP];have X:x.next=if ps=[] then -1 else ((first+(i+1):Nat):Int):=by
      rw [I];cases ps with
      | nil=>rw [Yab (by simp at hn;omega),Yac rfl]
      | cons q ps=>rw [Yac (by simp at hn;omega),Yab (YdG _ _)];rfl
     rw [Yac qO] at U;rw [X,t,show ((P.length:Nat):Int)=((first+(i+1)-1:Nat):Int) by omega,U];simp only;rw [z,ZcO v]
   rw [Yao,<-Yak,YeP ps.length 1,<-YdP];rw [Yaf] at V;exact V
end
end Go.Proofs.YtmkjfhnlnhceiaaGreatDoor
