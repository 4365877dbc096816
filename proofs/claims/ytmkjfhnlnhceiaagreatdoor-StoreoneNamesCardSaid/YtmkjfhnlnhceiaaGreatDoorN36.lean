/- Texts that the claim leans on: walks and plain laws, function by function. -/
import Derived.Test.YtmkjfhnlnhceiaaGreatDoorN26
import Derived.Test.YtmkjfhnlnhceiaaGreatDoorN33
set_option maxRecDepth 100000
set_option maxHeartbeats 16000000
namespace Go.Proofs.YtmkjfhnlnhceiaaGreatDoor
section
structure ZdW (L L':List L1):Prop where
 len:L'.length=L.length
 at_:∀ (i:Nat) (l:L1),L[i]?=some l->∃ l':L1,L'[i]?=some l'/\l'.live=l.live/\l'.src=l.src/\l'.dst=l.dst/\(l.live=false->l'=l)
theorem ZdW.refl (L:List L1):ZdW L L:=⟨rfl,fun _ l h=>⟨l,h,rfl,rfl,rfl,fun _=>rfl⟩⟩
theorem ZdW.trans {L L' L'':List L1} (h:ZdW L L') (k:ZdW L' L''):ZdW L L'':=⟨k.len.trans h.len,fun i l d=>by obtain ⟨e,f,b,g,j,m⟩:=h.at_ i l d;obtain ⟨a,n,o,p,q,r⟩:=k.at_ i e f;exact ⟨a,n,o.trans b,p.trans g,q.trans j,fun c=>(r (b.trans c)).trans (m c)⟩⟩
theorem ZdW.none {L L':List L1} (h:ZdW L L') {i:Nat} (hi:L[i]?=none):L'[i]?=none:=by rw [List.getElem?_eq_none_iff] at hi ⊢;rw [h.len];exact hi
theorem ZdW.touch {L L':List L1} (h:ZdW L L') (n:Int) (i:Nat):ZaJ L' n i=ZaJ L n i:=by
 unfold ZaJ;rw [Yab qO,Yab qO,YaN];cases hl:L[i]? with
 | none=>rw [h.none hl]
 | some l =>
   obtain ⟨e,a,b,c,d,_⟩:=h.at_ i l hl;rw [a];simp only [b,c,d]
theorem ZdW.incid {L L':List L1} (h:ZdW L L') (n:Int):Zax L' n=Zax L n:=by unfold Zax;rw [h.len];exact Yfx fun i _=>by rw [h.touch]
theorem ZdW.touchL {L L':List L1} (h:ZdW L L') {n:Int} {i:Nat} (ht:Zgv L n i):Zgv L' n i:=Zcd.1 ((h.touch n i).trans (Zcd.2 ht))
theorem ZtC {L:List L1} {i:Nat} {l:L1} (hl:L[i]?=some l) (hv:l.live=true) (m p q:Int):ZdW L (L.set i (ZbV l m p q)):=by
 obtain ⟨d,e,f⟩:=ZdS (node:=m) l p q;refine ⟨Ycg,fun j x a=>?_⟩;by_cases b:i=j
 · subst b;rw [hl] at a;injection a with a
   subst a;exact ⟨_,Ycr (Yaq.1 hl).1,d,e,f,fun c=>by rw [hv] at c;cases c⟩
 exact ⟨x,by rw [YcV b];exact a,rfl,rfl,rfl,fun _=>rfl⟩
def Zig (n:Int) (L L':List L1):Prop:=∀ (i:Nat) (l:L1),L[i]?=some l->l.live=true->(l.src=n\/l.dst=n)->∃ l':L1,L'[i]?=some l'/\l'.live=true/\l'.src=l.src/\l'.dst=l.dst/\Zgs l' n=Zgs l n/\ZiR l' n=ZiR l n/\ZcS l'=ZcS l
theorem Zig.refl (n:Int) (L:List L1):Zig n L L:=fun _ l h a _=>⟨l,h,a,rfl,rfl,rfl,rfl,rfl⟩
theorem Zig.trans {n:Int} {L L' L'':List L1} (h:Zig n L L') (k:Zig n L' L''):Zig n L L'':=fun i l e f b=>by obtain ⟨g,j,m,c,d,o,p,q⟩:=h i l e f b;obtain ⟨a,r,s,t,u,v,w,x⟩:=k i g j m (by rw [c,d];exact b);exact ⟨a,r,s,t.trans c,u.trans d,v.trans o,w.trans p,x.trans q⟩
theorem ZrY {n m p q:Int} {L:List L1} {i:Nat} {l:L1} (hl:L[i]?=some l) (hm:l.src=m\/l.dst=m) (hne:m≠n):Zig n L (L.set i (ZbV l m p q)):=fun j x d h o=>by
 obtain ⟨r,e,k⟩:=ZdS (node:=m) l p q;by_cases g:i=j
 · subst g;rw [hl] at d;injection d with d
   subst d;refine ⟨_,Ycr (Yaq.1 hl).1,r.trans h,e,k,?_⟩;have f:(l.src==l.dst)=false:=by rw [Ybn];rcases hm with c | c <;> rcases o with a | a <;> omega
   refine ⟨?_,?_,?_⟩
   · unfold Zgs;rw [e];unfold ZbV;rcases hm with c | c
     · have a:l.src≠n:=qO;have b:l.dst≠m:=qO;rw [Yab a,Yab a,Yac c,Yab b]
     have a:l.src=n:=qO;have b:l.src≠m:=qO;rw [Yac a,Yac a,Yab b]
   · unfold ZiR;rw [e];unfold ZbV;rcases hm with c | c
     · have a:l.src≠n:=qO;have b:l.dst≠m:=qO;rw [Yab a,Yab a,Yac c,Yab b]
     have a:l.src=n:=qO;have b:l.src≠m:=qO;rw [Yac a,Yac a,Yab b]
   unfold ZcS;rw [e,k,f];rfl
 exact ⟨x,by rw [YcV g];exact d,h,rfl,rfl,rfl,rfl,rfl⟩
theorem Zdn {m:Int}:∀ (ids:List Nat) (prev:Int) (L:List L1),(∀ i∈ids,Zgv L m i)->ZdW L (Zan m prev ids L)/\∀ n,m≠n->Zig n L (Zan m prev ids L)
 | [],_,L,_=>⟨ZdW.refl L,fun n _=>Zig.refl n L⟩
 | i::ids,prev,L,ht=>by obtain ⟨l,a,e,b⟩:=ht i (by simp);have c:=ZtC a e m prev (Zdx ids);obtain ⟨f,g⟩:=Zdn ids (i:Int) (L.set i (ZbV l m prev (Zdx ids))) fun j h=>c.touchL (ht j (by simp [h]));rw [Zan,a];exact ⟨c.trans f,fun n d=>(ZrY a b d).trans (g n d)⟩
theorem Zku {n:Int} {L L':List L1} (hb:ZdW L L') (hk:Zig n L L'):∀ (k:Nat) (last id:Int) (ids:List Int),ZbU L n k last id=.ok ids->ZbU L' n k last id=.ok ids
 | 0,last,id,ids,h=>by
   rw [ZbU] at h ⊢;by_cases b:id = -1
   · rwa [Yac b] at h ⊢
   rw [Yab b] at h;split at h <;> cases h
 | k+1,last,id,ids,h=>by
   rw [ZbU] at h ⊢;by_cases b:id = -1
   · rwa [Yac b] at h ⊢
   rw [Yab b] at h ⊢;by_cases c:ZaJ L n id≠0
   · rw [Yac c] at h;cases h
   rw [Yab c] at h;have a:=YbX.1 c;obtain ⟨i,rfl⟩:∃ i:Nat,id=(i:Int):=⟨id.toNat,by
    unfold ZaJ at a;by_cases j:id<0
    · rw [Yac j] at a;cases a
    omega⟩
   rw [hb.touch,Yab c];obtain ⟨l,g,m,d⟩:=Zcd.1 a;obtain ⟨s,o,t,u,v,p,q,r⟩:=hk i l g m d;rw [YaN,g] at h;rw [YaN,o];simp only at h ⊢;rw [p,q,r];by_cases f:Zgs l n≠last\/ZcS l=true
   · rw [Yac f] at h;cases h
   rw [Yab f] at h ⊢;cases hr:ZbU L n k i (ZiR l n) with
   | error e=>rw [hr] at h;cases h
   | ok l2 =>
     rw [hr] at h;rw [Zku hb hk k _ _ _ hr];exact h
theorem Zdo {L:List L1} {n:Int} {i:Nat}:i∈Zax L n↔Zgv L n i:=by unfold Zax;rw [YdE,YbE,Zcd,Ycm];exact ⟨fun h=>h.2,fun h=>⟨by obtain ⟨l,a,_⟩:=h;exact (Yaq.1 a).1,h⟩⟩
theorem Zjp (L:List L1) (n:Int):(Zax L n).Nodup:=List.filter_sublist.nodup Ygq
theorem ZrZ (L:List L1) (n:Int):(Zax L n).length<=L.length:=by have:=Yez (fun i:Nat=>ZaJ L n i==0) (List.range L.length);rwa [YeA] at this
theorem Zhw:∀ (ns:List Zaw) (L:List L1),(ns.map Zaw.id).Nodup->ZdW L (Zay ns L).1/\(∀ m,m ∉ ns.map Zaw.id->Zig m L (Zay ns L).1)/\(Zay ns L).2.length=ns.length /\
 ∀ p∈ns.zip (Zay ns L).2,∃ ids,ZbU (Zay ns L).1 p.1.id (L.length+1) (-1) p.2=.ok ids/\ids.length=(Zax L p.1.id).length
 | [],L,_=>⟨ZdW.refl L,fun m _=>Zig.refl m L,rfl,fun p a=>by cases a⟩
 | n::ns,L,hd=>by
   rw [YaF,YbG] at hd;have k:(if Zax L n.id=[] then L else Zan n.id (-1) (Zax L n.id) L)=Zan n.id (-1) (Zax L n.id) L:=by
    split
    · rename_i h;rw [h];rfl
    rfl
   have d:∀ i∈Zax L n.id,Zgv L n.id i:=fun i q=>Zdo.1 q;obtain ⟨b,r⟩:=Zdn (Zax L n.id) (-1) L d;obtain ⟨e,f,s,t⟩:=Zhw ns (Zan n.id (-1) (Zax L n.id) L) hd.2;have l:Zay (n::ns) L=((Zay ns (Zan n.id (-1) (Zax L n.id) L)).1,Zdx (Zax L n.id)::(Zay ns (Zan n.id (-1) (Zax L n.id) L)).2):=by rw [Zay,k]
   rw [l];refine ⟨b.trans e,fun m c=>?_,by simp [s],fun p a=>?_⟩
   · rw [YaF,Yat,not_or] at c;exact (r m (YbY c.1)).trans (f m c.2)
   simp only [List.zip_cons_cons] at a;rcases Yat.1 a with rfl | a
   · have o:=ZiW (Zax L n.id) (-1) L (L.length+1) (Zjp L n.id) d (by have:=ZrZ L n.id;omega);exact ⟨_,Zku e (f n.id hd.1) _ _ _ _ o,by simp⟩
   obtain ⟨ids,g,j⟩:=t p a;rw [b.len] at g;rw [b.incid] at j;exact ⟨ids,g,j⟩
def Zqo (l:L1):Prop:=inP l.sprev (-1) 2048=true/\inP l.snext (-1) 2048=true/\inP l.dprev (-1) 2048=true/\inP l.dnext (-1) 2048=true
theorem Zkv {m:Int}:∀ (ids:List Nat) (prev:Int) (L:List L1),(∀ i∈ids,i<2048)->inP prev (-1) 2048=true->(∀ l∈L,Zqo l)->∀ l∈Zan m prev ids L,Zqo l
 | [],_,_,_,_,h=>h
 | i::ids,prev,L,hi,hp,h=>by
   have k:=hi i (by simp);have b:inP (Zdx ids) (-1) 2048=true:=by
    cases ids with
    | nil=>rfl
    | cons j ids =>
      have:=hi j (by simp);rw [Zai];simp only [Zdx];omega
   rw [Zan];refine Zkv ids (i:Int) _ (fun j c=>hi j (by simp [c])) (by rw [Zai];omega) fun l a=>?_;cases hx:L[i]? with
   | none=>rw [hx] at a;exact h l a
   | some x =>
     rw [hx] at a;rcases YeY a with a | rfl
     · exact h l a
     obtain ⟨d,e,f,g⟩:=h x (Ybe hx);unfold ZbV;split
     · split
       · exact ⟨hp,b,rfl,rfl⟩
       exact ⟨hp,b,f,g⟩
     exact ⟨d,e,hp,b⟩
theorem ZfZ:∀ (ns:List Zaw) (L:List L1),L.length<=2048->(∀ l∈L,Zqo l)->∀ l∈(Zay ns L).1,Zqo l
 | [],_,_,h=>h
 | n::ns,L,hL,h=>by
   have a:∀ i∈Zax L n.id,i<2048:=fun i a=>by obtain ⟨l,c,_⟩:=Zdo.1 a;have:=(Yaq.1 c).1;omega
   have b:=(Zdn (Zax L n.id) (-1) L fun i a=>Zdo.1 a).1;rw [Zay];refine ZfZ ns _ ?_ ?_
   · split
     · exact hL
     rw [b.len];exact hL
   split
   · exact h
   exact Zkv _ _ _ a rfl h
theorem Zen:∀ (ns:List Zaw) (L:List L1),L.length<=2048->∀ h∈(Zay ns L).2,inP h (-1) 2048=true
 | [],_,_,h,a=>by cases a
 | n::ns,L,hL,h,a=>by
   have b:=(Zdn (Zax L n.id) (-1) L fun i c=>Zdo.1 c).1;rw [Zay] at a;rcases Yat.1 a with rfl | a
   · cases hc:Zax L n.id with
     | nil=>rfl
     | cons i ids =>
       obtain ⟨l,d,_⟩:=Zdo.1 (show i∈Zax L n.id by rw [hc];simp);have:=(Yaq.1 d).1;rw [Zai];simp only [Zdx];omega
   refine Zen ns _ ?_ h a;split
   · exact hL
   rw [b.len];exact hL
def endR:Nat->List GRel->Nat
 | o,[]=>o
 | _,r::rs=>endR (r.id.toNat+1) rs
theorem Zhx:∀ (rs:List GRel) (L:List L1),(∀ r∈rs,(L.length:Int)<=r.id)->(rs.map GRel.id).Pairwise (fun a b=>a<b) ->
 (ZdK rs L).length=endR L.length rs/\(∀ i,i<L.length->(ZdK rs L)[i]?=L[i]?)/\(∀ r∈rs,(ZdK rs L)[r.id.toNat]?=some ⟨true,r.src,r.dst,-1,-1,-1,-1⟩) /\
 ∀ i,L.length<=i->i<(ZdK rs L).length->(∀ r∈rs,r.id.toNat≠i)->(ZdK rs L)[i]?=some ZaE
 | [],L,_,_=>⟨rfl,fun _ _=>rfl,fun r p=>by (cases p),fun i n e _=>by simp only [ZdK] at e;omega⟩
 | r::rs,L,hL,hp=>by
   rw [YaF,YbK] at hp;have u:=hL r (by simp);obtain ⟨M,f⟩:∃ M,(L++List.replicate (r.id.toNat-L.length) ZaE)++[⟨true,r.src,r.dst,-1,-1,-1,-1⟩]=M:=⟨_,rfl⟩
   have d:(L++List.replicate (r.id.toNat-L.length) ZaE).length=r.id.toNat:=by rw [Yaf,Ybk];omega
   have h:M.length=r.id.toNat+1:=by rw [<- f,Yaf,d];rfl
   obtain ⟨n,e,q,s⟩:=Zhx rs M (fun x c=>by have:=hp.1 x.id (Ybu c);omega) hp.2;rw [ZdK,f,endR];have j:M[r.id.toNat]?=some ⟨true,r.src,r.dst,-1,-1,-1,-1⟩:=by rw [<- f,YcA qO,d,YbC];rfl
   refine ⟨by rw [n,h],fun i t=>?_,fun x c=>?_,fun i l m g=>?_⟩
   · rw [e i qO,<-f,Ydl qO,Ydl t]
   · rcases Yat.1 c with rfl | c
     · rw [e _ qO];exact j
     exact q x c
   have o:=g r (by simp);by_cases k:i<M.length
   · rw [e i k,<-f,Ydl qO,YcA l,Yfa,Yac qO]
   exact s i qO m fun x c=>g x (by simp [c])
theorem Zhy {m:Nat}:∀ (rs:List GRel) (o:Nat),o<=m->(∀ r∈rs,0<=r.id/\r.id<(m:Int))->endR o rs<=m
 | [],_,h,_=>h
 | r::rs,_,h,hr=>Zhy rs _ (by have:=hr r (by simp);omega) fun x a=>hr x (by simp [a])
end
section
open Go.RowKit
def BuP.setT (q:BuP) (k t f m:Nat) (nv v:Value) (l:List BS) (low:Nat):BuP :=
 ⟨fun i=>if i=k then t else q.t i,fun i=>if i=k then f else q.f i,fun i=>if i=k then m else q.m i,fun i=>if i=k then nv else q.nv i,fun i=>if i=k then v else q.v i,fun i=>if i=k then l else q.l i,fun i=>if i=k then low else q.low i⟩
def BuP.p (q:BuP) (i:Nat):Nat:=if i<3 then q.t i else q.f i
def ptrK (q:BuP) (k i:Nat):Value:=if i<k then .pointer (some ⟨q.p i,0,none⟩) else .pointer none
def Zch (q:BuP) (k:Nat):Array Value:=#[ptrK q k 0,ptrK q k 1,ptrK q k 2,ptrK q k 3,ptrK q k 4,ptrK q k 5,ptrK q k 6,.slice none 0 0,.map none]
theorem Zsa (q:BuP) {k:Nat} (hk:k<7):(Zch q k)[k]?=some (.pointer none):=by
 have e:∀ i,ptrK q i i=.pointer none:=fun i=>Yab (YcL i);obtain rfl | rfl | rfl | rfl | rfl | rfl | rfl:k=0\/k=1\/k=2\/k=3\/k=4\/k=5\/k=6:=qO
 all_goals first | exact YaC some (e 0) | exact YaC some (e 1) | exact YaC some (e 2) | exact YaC some (e 3) | exact YaC some (e 4) | exact YaC some (e 5) | exact YaC some (e 6)
theorem Zqp (q:BuP) (u:Value) {k:Nat} (hk:k<7):((Zch q k).setIfInBounds k u)[k]?=some u:=by rw [Array.getElem?_setIfInBounds,Yac rfl,Yac (show k<(Zch q k).size from (show k<9 by omega))]
theorem Zsb {q q':BuP} {k:Nat} (h:∀ i,i<k->q'.p i=q.p i) {i:Nat} (hi:i≠k):ptrK q k i=ptrK q' (k+1) i:=by
 unfold ptrK;by_cases a:i<k
 · rw [Yac a,Yac qO,h i a]
 rw [Yab a,Yab qO]
theorem Zqq {q q':BuP} {k:Nat} (hk:k<7) (h:∀ i,i<k->q'.p i=q.p i):(Zch q k).setIfInBounds k (.pointer (some ⟨q'.p k,0,none⟩))=Zch q' (k+1):=by
 have e:.pointer (some ⟨q'.p k,0,none⟩)=ptrK q' (k+1) k:=(Yac (Nat.lt_succ_self k)).symm;rw [e];have f:=fun i (a:i≠k)=>Zsb (q:=q) h a;obtain rfl | rfl | rfl | rfl | rfl | rfl | rfl:k=0\/k=1\/k=2\/k=3\/k=4\/k=5\/k=6:=qO
 · unfold Zch;rw [f 1 qD,f 2 qD,f 3 qD,f 4 qD,f 5 qD,f 6 qD];rfl
 · unfold Zch;rw [f 0 qD,f 2 qD,f 3 qD,f 4 qD,f 5 qD,f 6 qD];rfl
 · unfold Zch;rw [f 0 qD,f 1 qD,f 3 qD,f 4 qD,f 5 qD,f 6 qD];rfl
 · unfold Zch;rw [f 0 qD,f 1 qD,f 2 qD,f 4 qD,f 5 qD,f 6 qD];rfl
 · unfold Zch;rw [f 0 qD,f 1 qD,f 2 qD,f 3 qD,f 5 qD,f 6 qD];rfl
 · unfold Zch;rw [f 0 qD,f 1 qD,f 2 qD,f 3 qD,f 4 qD,f 6 qD];rfl
 unfold Zch;rw [f 0 qD,f 1 qD,f 2 qD,f 3 qD,f 4 qD,f 5 qD];rfl
structure BldS (w wr:World) (B b:Nat) (q:BuP) (ns:Nat->List ByteArray) (k:Nat):Prop where
 up:Upd (fun x=>x=b) w wr
 blk:Blk wr b 73 (Zch q k)
 tb:∀ i,i<3->i<k->PT wr B (q.t i) (q.f i) (q.m i) (kdB i) 1 (ns i).length (q.low i) (q.v i) (q.nv i) (q.l i) (ns i)
 rc:∀ i,i<3->i<k->(q.l i).map BS.rc=(ns i).map fun s=>some (tokD s)
 fl:∀ i,i<7->i<k->PF wr B (q.f i) (kdB i) 1 (zdB i) (q.v i) (q.l i) (q.low i)
 nil:∀ i,3<=i->i<k->q.l i=[]
 ap:∀ i j,i<k->j<k->i≠j->ApF (q.f i) (q.v i) (q.f j) (q.v j)
section
variable {w wr wx wy:World} {B b H k:Nat} {q:BuP} {ns:Nat->List ByteArray}
theorem BldS.bum (h:BldS w wr B b q ns 7):BuM wr B q ns:=⟨fun i a=>h.tb i a qO,fun i a=>h.fl i a a,h.ap⟩
theorem Zjq:Oth 73:=⟨qD,qD,qD,qD,qD⟩
theorem BldS.add (h:BldS w wr B b q ns k) (hk:k<7) (hB:B<=wr.heap.size) {t f m low:Nat} {nv v:Value} {l:List BS} (hu:Upd (fun x=>x=b\/wr.heap.size<=x) wr wx)
 (hblk:Blk wx b 73 ((Zch q k).setIfInBounds k (.pointer (some ⟨if k<3 then t else f,0,none⟩)))) (hf:PF wx wr.heap.size f (kdB k) 1 (zdB k) v l low)
 (ht:k<3->PT wx wr.heap.size t f m (kdB k) 1 (ns k).length low v nv l (ns k)/\l.map BS.rc=(ns k).map fun s=>some (tokD s)) (hn:3<=k->l=[]):BldS w wx B b (q.setT k t f m nv v l low) ns (k+1):=by
 have d:Upd (fun x=>x=b) wr wx:=hu.mono fun x A C=>C.elim id fun e=>absurd A qO;have o:∀ {i},i<k->∀ g,(g=q.f i\/(q.v i).ownBlock=some g)->g<wr.heap.size:=fun {i} a g z=>by
  have u:=h.fl i qO a;rcases z with rfl | e
  · exact u.blk.lt
  obtain ⟨G,D⟩:=Zaf u.own.row e;exact D.lt
 have r:∀ {i},i<k->ApF (q.f i) (q.v i) f v:=fun {i} a=>⟨fun e=>by have:=o a _ (.inl rfl);have:=hf.base;omega,fun g z e=>by have u:=o a g (.inr z);have F:=(hf.own.row.lt g e).1;omega⟩
 refine ⟨h.up.trans d fun _ _ e=>e,?_,fun i c a=>?_,fun i c a=>?_,fun i E a=>?_,fun i c a=>?_,fun i j a H n=>?_⟩
 · have e:(if k<3 then t else f)=(q.setT k t f m nv v l low).p k:=by unfold BuP.p BuP.setT;simp only [YcD]
   rw [e] at hblk;rwa [Zqq hk fun i a=>by unfold BuP.p BuP.setT;simp only [Yab (Nat.ne_of_lt a)]] at hblk
 · by_cases e:i=k
   · subst e;simp only [BuP.setT,YcD];exact (ht c).1.lower hB
   simp only [BuP.setT,Yab e];exact (h.tb i c qO).turn h.blk Zjq d
 · by_cases e:i=k
   · subst e;simp only [BuP.setT,YcD];exact (ht c).2
   simp only [BuP.setT,Yab e];exact h.rc i c qO
 · by_cases e:i=k
   · subst e;simp only [BuP.setT,YcD];exact hf.lower hB
   simp only [BuP.setT,Yab e];exact (h.fl i E qO).turn h.blk Zjq d
 · by_cases e:i=k
   · subst e;simp only [BuP.setT,YcD];exact hn c
   simp only [BuP.setT,Yab e];exact h.nil i c qO
 simp only [BuP.setT];by_cases e:i=k
 · subst e;rw [Yac rfl,Yac rfl,Yab (fun e=>n e.symm),Yab (fun e=>n e.symm)];exact (r qO).symm
 rw [Yab e,Yab e];by_cases y:j=k
 · subst y;rw [Yac rfl,Yac rfl];exact r qO
 rw [Yab y,Yab y];exact h.ap i j qO qO n
theorem BldS.new (h:BldS w wr B b q ns k) (h3:3<=k) (hk:k<7) (hB:B<=wr.heap.size) {f:Nat} (hf:PF wx wr.heap.size f (kdB k) 1 (zdB k) (.slice none 0 0) [] 0) (hs:Same wr wx) :
 BldS w (wx.setCell ⟨b,k,none⟩ (.pointer (some ⟨f,0,none⟩))) B b (q.setT k 0 f 0 undef (.slice none 0 0) [] 0) ns (k+1):=by
 have a:=h.blk.same hs;have c:=(Yaa (fun x=>x=b) wx).put1 (i:=k) (.pointer (some ⟨f,0,none⟩));refine h.add hk hB (((hs.mono fun _ _ e=>e.elim).trans c fun _ _ e=>.inl e)) ?_ (hf.turn a Zjq c) (fun h=>absurd h qO) fun _=>rfl;rw [Yab (show ¬ k<3 by omega)];exact a.put k _
theorem ZtD {l:List ByteArray} (hn:l.Nodup) {j:Nat} {s:ByteArray} (hs:l[j]?=some s):s ∉ l.take j:=fun d=>by
 have a:(l.take j++l.drop j).Nodup:=by rw [YbT];exact hn
 obtain ⟨b,e⟩:=Yaq.1 hs;have c:s∈l.drop j:=by rw [YbF b,e];simp
 exact (YdU.1 a).2.2 s d s c rfl
structure InI (wr wx:World) (b t f m k:Nat) (cs:Array Value) (nm:List ByteArray) (vN:Value) (j:Nat):Prop where
 up:Upd (fun x=>x=b\/wr.heap.size<=x) wr wx
 blk:Blk wx b 73 cs
 row:wx.ownsRow wr.heap.size 9 1 vN nm.length (nm.map Value.string)
 ex:∃ low v nv l,PT wx wr.heap.size t f m (kdB k) 1 (nm.take j).length low v nv l (nm.take j)/\(∀ x∈l,x.A≠none)/\l.map BS.rc=(nm.take j).map (fun s=>some (tokD s))/\∀ g,vN.ownBlock=some g->¬ ZjN t f m v nv g
theorem InI.next {t f m j low low':Nat} {cs:Array Value} {nm:List ByteArray} {vN v nv v' nv':Value} {l l':List BS} {s:ByteArray} (h:InI wr wx b t f m k cs nm vN j) (hb:b<wr.heap.size) (hs:nm[j]?=some s) (hp0:PT wx wr.heap.size t f m (kdB k) 1 (nm.take j).length low v nv l (nm.take j))
 (hrc:l.map BS.rc=(nm.take j).map (fun s=>some (tokD s))) (hav:∀ g,vN.ownBlock=some g->¬ ZjN t f m v nv g) (hp:PT wy wr.heap.size t f m (kdB k) 1 ((nm.take j).length+1) low' v' nv' l' (nm.take j++[s])) (ha:∀ x∈l',x.A≠none) (hr:l'.map BS.rc=l.map BS.rc++[some (tokD s)])
 (hu:Upd (ZjN t f m v nv) wx wy) (hn:NewB wx v v') (hn2:NewB wx nv nv'):InI wr wy b t f m k cs nm vN (j+1):=by
 have i:∀ g,ZjN t f m v nv g->wr.heap.size<=g:=fun g c=>by
  rcases c with rfl | rfl | rfl | e | e
  · exact hp0.base
  · exact hp0.file.base
  · exact hp0.mB
  · exact (hp0.file.own.row.lt g e).1
  exact (hp0.row.lt g e).1
 have n:nm.take (j+1)=nm.take j++[s]:=by rw [Ybo,hs];rfl
 refine ⟨h.up.trans hu fun g _ c=>.inr (i g c),h.blk.upd hu fun c=>by have:=i _ c;omega,Zae h.row hu hav,low',v',nv',l',?_,ha,?_,fun g c p=>?_⟩
 · rw [n,Yaf];exact hp
 · rw [n,hr,hrc,YaG];rfl
 have o:g<wx.heap.size:=(h.row.lt g c).2;have a:=hav g c;rcases p with e | e | e | e | e
 · exact a (.inl e)
 · exact a (.inr (.inl e))
 · exact a (.inr (.inr (.inl e)))
 · rcases hn with d | ⟨q,d,r⟩
   · exact a (.inr (.inr (.inr (.inl (d ▸ e)))))
   rw [d] at e;cases e;omega
 rcases hn2 with d | ⟨q,d,r⟩
 · exact a (.inr (.inr (.inr (.inr (d ▸ e)))))
 rw [d] at e;cases e;omega
end
theorem Row.lk (w:World) (x:L1):Row (w.alloc (.cells x.cells.toArray 109)) (fun b=>b=w.heap.size) 7 (some ⟨w.heap.size,0,none⟩) 1 1 x.cells :=
 Ycb (Yad w _ x.cells.toArray) rfl (Yae _) (by simp [maxLen])
structure ChI (w7 wr:World) (b:Nat) (q:BuP) (vC vH:Value) (L:List L1):Prop where
 up:Upd (fun x=>x=b\/w7.heap.size<=x) w7 wr
 blk:Blk wr b 73 (q.cells vC vH)
 row:wr.ownsRow w7.heap.size 109 7 vC L.length (L.flatMap L1.cells)
def Zqr (w:World) (g p:Nat) (y:L1):World:=((((((w.setCell ⟨g,p,none⟩ (.bool y.live)).setCell ⟨g,p+1,none⟩ (.int .i64 y.src)).setCell ⟨g,p+2,none⟩ (.int .i64 y.dst)).setCell ⟨g,p+3,none⟩ (.int .i64 y.sprev)).setCell ⟨g,p+4,none⟩ (.int .i64 y.dprev)).setCell ⟨g,p+5,none⟩ (.int .i64 y.snext)).setCell ⟨g,p+6,none⟩ (.int .i64 y.dnext)
theorem ZmO (w:World) (g p:Nat) (y:L1):Upd (fun k=>k=g) w (Zqr w g p y):=(((((((Yaa (fun k=>k=g) w).put1 _).put1 _).put1 _).put1 _).put1 _).put1 _).put1 _
theorem Zdp {w:World} {B g n c i:Nat} {M:List L1} {x y:L1} {u:Value} {j p:Nat} (h:w.ownsRow B 109 7 (.slice (some ⟨g,0,none⟩) n c) n ((M.set i x).flatMap L1.cells)) (hi:i<M.length) (hj:j<7) (hp:p=i*7+j) (hy:y.cells=x.cells.set j u) :
 (w.setCell ⟨g,p,none⟩ u).ownsRow B 109 7 (.slice (some ⟨g,0,none⟩) n c) n ((M.set i y).flatMap L1.cells):=by
 have a:=(ZfY h (i:=i) (x:=x) (by rw [Ycr hi]) hj hy).2.2;rw [YeV] at a;exact hp ▸ a
theorem ZtE {w:World} {B g n c i:Nat} {M:List L1} {x:L1} (y:L1) (h:w.ownsRow B 109 7 (.slice (some ⟨g,0,none⟩) n c) n (M.flatMap L1.cells)) (hx:M[i]?=some x):(Zqr w g (i*7) y).ownsRow B 109 7 (.slice (some ⟨g,0,none⟩) n c) n ((M.set i y).flatMap L1.cells):=by
 have a:=(Yaq.1 hx).1;have b:w.ownsRow B 109 7 (.slice (some ⟨g,0,none⟩) n c) n ((M.set i x).flatMap L1.cells):=by rw [show M.set i x=M by rw [<- (Yaq.1 hx).2];exact Ygr a];exact h
 have d:=Zdp (y:={ x with live:=y.live }) (j:=0) (p:=i*7) b a qD rfl rfl;have e:=Zdp (y:={ x with live:=y.live,src:=y.src }) (j:=1) (p:=i*7+1) d a qD rfl rfl;have f:=Zdp (y:={ x with live:=y.live,src:=y.src,dst:=y.dst }) (j:=2) (p:=i*7+2) e a qD rfl rfl;have k:=Zdp (y:={ x with live:=y.live,src:=y.src,dst:=y.dst,sprev:=y.sprev }) (j:=3) (p:=i*7+3) f a qD rfl rfl;have l:=Zdp (y:={ x with live:=y.live,src:=y.src,dst:=y.dst,sprev:=y.sprev,dprev:=y.dprev }) (j:=4) (p:=i*7+4) k a qD rfl rfl;have m:=Zdp (y:={ x with live:=y.live,src:=y.src,dst:=y.dst,sprev:=y.sprev,dprev:=y.dprev,snext:=y.snext }) (j:=5) (p:=i*7+5) l a qD rfl rfl;exact Zdp (y:=y) (j:=6) (p:=i*7+6) m a qD rfl rfl
section
variable {w7 wr wa wx w1:World} {B b c cnt hm i:Nat} {q:BuP} {vC vH v':Value} {L L':List L1} {ns:Nat->List ByteArray} {x:L1} {f:Int->Option Value}
theorem ChI.same (h:ChI w7 wr b q vC vH L) (hs:Same wr wx):ChI w7 wx b q vC vH L:=⟨h.up.same hs,h.blk.same hs,Zaa h.row hs⟩
theorem ChI.bum {cs:Array Value} (h:ChI w7 wr b q vC vH L) (hM:BuM w7 B q ns) (hb:Blk w7 b 73 cs):BuM wr B q ns :=
 hM.turn hb Zjq (h.up.mono fun x a c=>c.elim id fun e=>absurd a qO)
theorem ChI.app (h:ChI w7 wr b q vC vH L) (hs:Same wr wa) (hg:Grew wa w7.heap.size 109 7 vC (L.length+1) (L.flatMap L1.cells++ZaE.cells) v' w1):ChI w7 (w1.setCell ⟨b,7,none⟩ v') b q v' vH (L++[ZaE]):=by obtain ⟨a,c,d⟩:=ZbC (i:=7) h.blk h.row qD hs hg;refine ⟨h.up.trans d fun x _ f=>f.imp id fun e=>(h.row.lt x e).1,a,?_⟩;rw [Yaf,YbS];simpa using c
theorem ChI.put {g:Nat} (h:ChI w7 wr b q (.slice (some ⟨g,0,none⟩) L.length c) vH L) (hx:L[i]?=some x) (y:L1):ChI w7 (Zqr wr g (i*7) y) b q (.slice (some ⟨g,0,none⟩) (L.set i y).length c) vH (L.set i y):=by
 refine ⟨h.up.trans (ZmO _ _ _ _) fun k _ e=>.inr (e ▸ (h.row.lt g rfl).1),?_,?_⟩
 · rw [Ycg];exact h.blk.upd (ZmO _ _ _ _) fun e=>h.blk.ne_own h.row qD (by rw [e];rfl)
 have:=ZtE y h.row hx;rwa [Ycg]
theorem ChI.map (h:ChI w7 wr b q vC vH L) (hM:MpI wr hm cnt f) (hl:w7.heap.size<=hm) (hu:Upd (fun k=>k=hm) wr wx):ChI w7 wx b q vC vH L :=
 ⟨h.up.trans hu fun k _ e=>.inr (e ▸ hl),h.blk.upd hu fun e=>hM.ne h.blk e.symm,Zae h.row hu fun g a e=>by obtain ⟨d,c⟩:=Zaf h.row a;exact hM.ne c e.symm⟩
theorem ChI.thr (h:ChI w7 wr b q vC vH L) (hs:Same wr wa) (hr:wa.ownsRow wr.heap.size 109 7 v' L'.length (L'.flatMap L1.cells)):ChI w7 (wa.setCell ⟨b,7,none⟩ v') b q v' vH L':=by have a:=h.blk.same hs;refine ⟨(h.up.same hs).trans ((Yaa (fun k=>k=b) wa).put1 v') fun k _ e=>.inl e,a.put 7 v',Zae (Zac hr h.up.size) ((Yaa (fun k=>k=b) wa).put1 v') fun g c e=>a.ne_own hr qD (e ▸ c)⟩
theorem ChI.head (h:ChI w7 wr b q vC (.map none) L):ChI w7 ((wr.alloc (.map #[] 0)).setCell ⟨b,8,none⟩ (.map (some wr.heap.size))) b q vC (.map (some wr.heap.size)) L:=by have a:=h.same ((Yaa (fun _=>False) wr).alloc (.map #[] 0));refine ⟨a.up.trans ((Yaa (fun k=>k=b) _).put1 _) fun k _ e=>.inl e,a.blk.put 8 _,Zae a.row ((Yaa (fun k=>k=b) _).put1 _) fun g c e=>a.blk.ne_own a.row qD (e ▸ c)⟩
end
theorem ZtF {L:List L1} {i:Nat} {y:L1} (h:L.length<=i):(L++List.replicate (i+1-L.length) ZaE).set i y=(L++List.replicate (i-L.length) ZaE)++[y]:=by rw [show i+1-L.length=(i-L.length)+1 by omega,List.replicate_succ',<-Yak];rw [List.set_append,Yab (by rw [Yaf,Ybk];omega)];rw [Yaf,Ybk,show i-(L.length+(i-L.length))=0 by omega];rfl
theorem Zqs {ns:List Zaw} {n:Zaw} {Lc L:List L1} {hs:List Int} {i:Nat} (hx:ns[i]?=some n) (h:Zay (ns.drop i) Lc=(L,hs.drop i)) :
 hs[i]?=some (Zdx (Zax Lc n.id))/\Zay (ns.drop (i+1)) (if Zax Lc n.id=[] then Lc else Zan n.id (-1) (Zax Lc n.id) Lc)=(L,hs.drop (i+1)):=by
 obtain ⟨a,f⟩:=Yaq.1 hx;have b:=YbF a;rw [f] at b;rw [b,Zay] at h;simp only [Ydm] at h;have c:=h.2;have d:(hs.drop i)[0]?=some (Zdx (Zax Lc n.id)):=by rw [<- c];rfl
 rw [YeM,YbW] at d;refine ⟨d,Prod.ext h.1 ?_⟩;have e:=YaC List.tail c;rw [Yfz,List.tail_drop] at e;exact e
end
section
theorem Zhz:∀ (k:Nat) (first:Bool) (i j:Nat) (data:List UInt8),(ZaF k first i data).length=(ZaF k true j data).length
 | 0,_,_,_,_=>rfl
 | k+1,first,i,j,data=>by
   rw [ZaF,ZaF];split
   · rfl
   rw [Yao,Yao,Zhz k false (i+1) 0,Zhz k false (j+1) 0]
theorem ZmP:∀ (k:Nat) (first:Bool) (i:Nat) (data:List UInt8),25*(ZaF k first i data).length<=25+data.length
 | 0,_,_,_=>by simp [ZaF]
 | k+1,first,i,data=>by
   rw [ZaF];split
   · simp
   have:=ZmP k false (i+1) (data.drop 25);rw [Yas] at this;rw [Yao];omega
def nBlk (d:List UInt8):Nat:=(ZaF d.length true 0 d).length
theorem ZcU (d:List UInt8) (i:Nat):(ZaF d.length true i d).length=nBlk d:=Zhz _ _ _ _ _
theorem Zio (d:List UInt8):0<nBlk d:=Zkr _ _ _ _
theorem ZuM (d:List UInt8):25*nBlk d<=25+d.length:=ZmP _ _ _ _
def ZaG:Nat->List (List UInt8)->List (List UInt8)
 | _,[]=>[]
 | o,d::ds=>ZaF d.length true o d++ZaG (o+nBlk d) ds
def Zcr:Nat->List (List UInt8)->List (Nat×List UInt8)
 | _,[]=>[]
 | o,d::ds=>(o,d)::Zcr (o+nBlk d) ds
theorem ZmQ:∀ (a b:List (List UInt8)) (o:Nat),ZaG o (a++b)=ZaG o a++ZaG (o+(ZaG o a).length) b
 | [],b,o=>by simp [ZaG]
 | d::a,b,o=>by rw [YaE,ZaG,ZaG,ZmQ a b,Yak,Yaf,ZcU,YdP]
theorem ZgM:∀ (a b:List (List UInt8)) (o:Nat),Zcr o (a++b)=Zcr o a++Zcr (o+(ZaG o a).length) b
 | [],b,o=>by simp [ZaG,Zcr]
 | d::a,b,o=>by rw [YaE,Zcr,Zcr,ZgM a b,YaE,ZaG,Yaf,ZcU,YdP]
section
variable {f:Zaz} {all:List (List UInt8)}
theorem Zok (hf:f.recs=all.map some) (i:Nat):f.at_ i=all[i]?:=by unfold Zaz.at_;rw [hf,Yau];cases all[i]? <;> rfl
theorem Zfh:∀ (n:Nat) (met:List Nat) (i:Nat) (l:List Nat),Zbm f n met i=.ok l->∀ x∈l,∃ d,f.at_ x=some d/\ZaV f d=true/\(Zav d=1->x=i/\met=[])/\(met=[]->x=i->Zav d=1)
 | 0,_,_,_,h=>by cases h
 | n+1,met,i,l,h=>by
   rw [Zbm] at h;by_cases p:i∈met
   · rw [Yac p] at h;cases h
   rw [Yab p] at h;cases hd:f.at_ i with
   | none=>rw [hd] at h;cases h
   | some d =>
     rw [hd] at h;simp only at h;by_cases m:(Zav d=1)≠(met=[])\/ZaV f d=false
     · rw [Yac m] at h;cases h
     rw [Yab m] at h;have b:(Zav d=1)=(met=[]):=YbX.1 fun a=>m (.inl a);have o:ZaV f d=true:=by simpa using fun a=>m (.inr a)
     have q:∃ g,f.at_ i=some g/\ZaV f g=true/\(Zav g=1->i=i/\met=[])/\(met=[]->i=i->Zav g=1):=⟨d,hd,o,fun a=>⟨rfl,b ▸ a⟩,fun a _=>b ▸ a⟩
     cases hn:ZbJ d with
     | none =>
       rw [hn] at h;simp only [Yfc] at h;subst h;intro x c;rw [YaH] at c;subst c;exact q
     | some j =>
       rw [hn] at h;simp only at h;cases hr:Zbm f n (i::met) j with
       | error e=>rw [hr] at h;cases h
       | ok l' =>
         rw [hr] at h;simp only [Yfc] at h;subst h;intro x c;rcases Yat.1 c with rfl | c
         · exact q
         obtain ⟨g,k,r,s,_⟩:=Zfh n (i::met) j l' hr x c;refine ⟨g,k,r,fun a=>(YdG _ _ (s a).2).elim,fun a t=>?_⟩;subst t;rw [hd] at k;injection k with k
         subst k;exact b ▸ a
variable {sg:List (List UInt8)}
theorem ZmR (hf:f.recs=all.map some) (hl:all.length<=65536):∀ (sg:List (List UInt8)) (o:Nat) (pre:List (List UInt8)),all=pre++ZaG o sg->pre.length=o->∀ p∈Zcr o sg,
 Zbm f (f.recs.length+1) [] p.1=.ok (List.range' p.1 (nBlk p.2))/\(List.range' p.1 (nBlk p.2)).flatMap (fun j=>match f.at_ j with | some d=>ZcL d | none=>[])=p.2
 | [],_,_,_,_,p,b=>by cases b
 | d::ds,o,pre,he,ho,p,b=>by
   rw [ZaG] at he;have a:=YaC List.length he;rw [Yaf,Yaf,ZcU] at a;have e:f.recs.length=all.length:=by rw [hf,Yag]
   rcases Yat.1 b with rfl | b
   · have h:=Zoe (f:=f) d.length true o d [] (f.recs.length+1) qO (fun j g c=>by rw [Zok hf,he,YcA qO,ho,Yeu,Ydl (Yaq.1 c).1];exact c) (by rw [ZcU];omega) (fun _ h=>by cases h) (by simp) (fun h=>by cases h) (by rw [ZcU];omega)
     rw [ZcU] at h;exact h
   exact ZmR hf hl ds (o+nBlk d) (pre++ZaF d.length true o d) (by rw [he,Yak]) (by rw [Yaf,ZcU,ho]) p b
theorem ZhA:∀ (sg:List (List UInt8)) (o:Nat),(Zcr o sg).flatMap (fun p=>List.range' p.1 (nBlk p.2))=List.range' o (ZaG o sg).length
 | [],_=>rfl
 | d::ds,o=>by rw [Zcr,Ybs,ZhA ds,ZaG,Yaf,ZcU];exact List.range'_append_1
theorem Zln:∀ (sg:List (List UInt8)) (o:Nat),∀ p∈Zcr o sg,o<=p.1/\p.1<o+(ZaG o sg).length
 | [],_,p,a=>by cases a
 | d::ds,o,p,a=>by
   rw [ZaG,Yaf,ZcU];have b:=Zio d;rcases Yat.1 a with rfl | a
   · simp only;omega
   have:=Zln ds _ p a;omega
structure SegF (f:Zaz) (sg:List (List UInt8)):Prop where
 recs:f.recs=(ZaG 0 sg).map some
 size:f.size=32
 len:(ZaG 0 sg).length<=65536
theorem SegF.chain (h:SegF f sg) {p:Nat×List UInt8} (hp:p∈Zcr 0 sg):Zbm f (f.recs.length+1) [] p.1=.ok (List.range' p.1 (nBlk p.2))/\(List.range' p.1 (nBlk p.2)).flatMap (fun j=>match f.at_ j with | some d=>ZcL d | none=>[])=p.2 :=
 ZmR h.recs h.len sg 0 [] rfl rfl p hp
theorem SegF.used (h:SegF f sg) {i:Nat} (hi:i<(ZaG 0 sg).length):f.used i=true:=ZdI.2 ⟨(ZaG 0 sg)[i],by rw [Zok h.recs,Yar hi]⟩
theorem SegF.load (h:SegF f sg) {p:Nat×List UInt8} (hp:p∈Zcr 0 sg):Zjg f (p.1:Int)=.ok p.2:=by have c:=Zln sg 0 p hp;obtain ⟨a,b⟩:=h.chain hp;unfold Zjg;rw [Yab (by rw [h.size];simp),Yab (by rw [YaN,h.used qO];simp only [YdV,Ych];omega),YaN,a];exact YaC Except.ok b
theorem SegF.nlen (h:SegF f sg):f.recs.length=(ZaG 0 sg).length:=by rw [h.recs,Yag]
theorem SegF.mem (_h:SegF f sg) {x:Nat} (hx:x<(ZaG 0 sg).length):∃ p∈Zcr 0 sg,x∈List.range' p.1 (nBlk p.2):=by
 have a:x∈List.range' 0 (ZaG 0 sg).length:=by rw [List.mem_range'_1];omega
 rw [<- ZhA] at a;exact Yby.1 a
theorem SegF.sound (h:SegF f sg):AllS f:=fun i d b=>by
 have c:i<(ZaG 0 sg).length:=by rw [Zok h.recs] at b;exact (Yaq.1 b).1
 obtain ⟨p,e,g⟩:=h.mem c;obtain ⟨k,a,j,_⟩:=Zfh _ _ _ _ (h.chain e).1 i g;rw [b] at a;injection a with a
 exact a ▸ j
theorem SegF.usedE (h:SegF f sg):Zct f=List.range (ZaG 0 sg).length:=by show (List.range f.recs.length).filter f.used=_;rw [h.nlen];exact Ygs.2 fun x a=>h.used (Ycm.1 a)
theorem ZmS (hS:∀ p∈Zcr 0 all,isS f p.1=true/\∀ x∈List.range' (p.1+1) (nBlk p.2-1),isS f x=false):∀ (sg:List (List UInt8)) (o:Nat),(∀ p∈Zcr o sg,p∈Zcr 0 all)->(List.range' o (ZaG o sg).length).filter (isS f)=(Zcr o sg).map Prod.fst
 | [],_,_=>rfl
 | d::ds,o,hm=>by
   have a:=hS (o,d) (hm _ (by simp [Zcr]));have c:=Zio d;have ih:=ZmS hS ds (o+nBlk d) fun p c=>hm p (by rw [Zcr];exact YcZ _ c);rw [ZaG,Zcr,YaF,Yaf,ZcU,<-List.range'_append_1,YcX,ih];obtain ⟨m,b⟩:∃ m,nBlk d=m+1:=⟨nBlk d-1,qO⟩
   rw [b] at a ⊢;rw [List.range'_succ,YdW,Yac a.1,Yfv.2 fun x e=>by simp [a.2 x e]];rfl
theorem SegF.startE (h:SegF f sg):Zca f=(Zcr 0 sg).map Prod.fst:=by
 show (Zct f).filter (isS f)=_;rw [h.usedE,List.range_eq_range'];refine ZmS (all:=sg) (fun p a=>?_) sg 0 fun p a=>a;have c:=Zfh _ _ _ _ (h.chain a).1;have k:=Zio p.2;refine ⟨?_,fun x e=>?_⟩
 · obtain ⟨d,b,_,_,g⟩:=c p.1 (List.mem_range'_1.2 ⟨Yae _,qO⟩);unfold isS;rw [b];simp [g rfl rfl]
 rw [List.mem_range'_1] at e;obtain ⟨d,b,_,i,_⟩:=c x (List.mem_range'_1.2 ⟨qO,qO⟩);unfold isS;rw [b];simp only [Ybn,ne_eq];exact fun j=>by have:=(i j).1;omega
theorem SegF.check (h:SegF f sg):Zet f=0:=by
 have b:=h.sound;have g:∀ p∈Zcr 0 sg,ZaD (bnx f) f.recs.length p.1=List.range' p.1 (nBlk p.2):=fun p a =>
  ((Zht b _ [] p.1 _ (h.used (by have:=Zln sg 0 p a;omega))).1 (h.chain a).1).2.1.symm
 have i:allL (bnx f) (Zca f) f.recs.length=List.range (ZaG 0 sg).length:=by rw [h.startE,List.range_eq_range',<-ZhA];unfold allL;rw [YeZ];rw [List.flatMap_def,List.flatMap_def,Ycq fun p a=>g p a]
 have k:=(ZpZ b).2 ⟨fun s j=>by rw [h.startE] at j;obtain ⟨p,a,rfl⟩:=Yba.1 j;rw [g p a];exact (h.chain a).1,by rw [i];exact Ygq,fun c e=>by rw [i,<-h.usedE];exact e⟩
 unfold Zet;rw [Yab (by rw [h.size];simp),Yab,Yac k];rw [Ygu,Yek];intro x l;cases hd:f.at_ x with
 | none=>simp
 | some d=>simp [b x d hd]
end
end
end Go.Proofs.YtmkjfhnlnhceiaaGreatDoor
