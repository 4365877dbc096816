/- Texts that the claim leans on: walks and plain laws, function by function. -/
import Derived.Test.YtkopcinhbjimiaaGreatDoorK23
import Derived.Test.YtkopcinhbjimiaaGreatDoorK29
import Derived.Test.YtkopcinhbjimiaaGreatDoorK11
import Derived.Test.YtkopcinhbjimiaaGreatDoorK01
set_option maxRecDepth 100000
set_option maxHeartbeats 16000000
namespace Go.Proofs.YtkopcinhbjimiaaGreatDoor
theorem nodes_incS:∀ (prev:Option Int) (i:Nat) (l:List GNode),nodesErr prev i l=none->(l.map GNode.id).Pairwise (fun a b=>a<b)/\∀ y∈l.map GNode.id,∀ q,prev=some q->q<y
 | _,_,[],_=>⟨by simp,by simp⟩
 | prev,i,x::l,h=>by
   simp only [nodesErr] at h
   by_cases hz:nodeErr prev x=0
   · rw [if_neg (by rw [hz];simp)] at h
     obtain ⟨h2,h3⟩:=nodes_incS (some x.id) (i+1) l h
     unfold nodeErr at hz
     by_cases ha:x.id<0\/1024<=x.id
     · rw [if_pos ha] at hz;cases hz
     rw [if_neg ha] at hz
     by_cases hb:notAfterI x.id prev=true
     · rw [if_pos hb] at hz;cases hz
     have hpv:∀ q,prev=some q->q<x.id:=fun q hq=>by
      subst hq
      simpa [notAfterI] using hb
     rw [List.map_cons]
     refine ⟨List.pairwise_cons.2 ⟨fun y hy=>h3 y hy x.id rfl,h2⟩,fun y hy q hq=>?_⟩
     rcases List.mem_cons.1 hy with rfl | hy
     · exact hpv q hq
     have h5:=h3 y hy x.id rfl
     have h6:=hpv q hq
     omega
   rw [if_pos hz] at h;cases h
theorem nodesErr_neS:∀ (prev:Option Int) (i:Nat) (l:List GNode) (x:Int×Nat),nodesErr prev i l=some x->x.1≠0
 | _,_,[],_,h=>by cases h
 | prev,i,y::l,x,h=>by
   simp only [nodesErr] at h
   by_cases hz:nodeErr prev y=0
   · rw [if_neg (by rw [hz];simp)] at h
     exact nodesErr_neS _ _ l x h
   rw [if_pos hz] at h
   injection h with h
   subst h
   exact hz
theorem relsErr_neS (th:Int->Bool):∀ (prev:Option Int) (i:Nat) (l:List GRel) (x:Int×Nat),relsErr th prev i l=some x->x.1≠0
 | _,_,[],_,h=>by cases h
 | prev,i,y::l,x,h=>by
   simp only [relsErr] at h
   by_cases hz:relErr th prev y=0
   · rw [if_neg (by rw [hz];simp)] at h
     exact relsErr_neS th _ _ l x h
   rw [if_pos hz] at h
   injection h with h
   subst h
   exact hz
theorem headErr_neS {g:GGraph} {x:Int×Nat} (h:headErr g=some x):x.1≠0:=by
 unfold headErr at h
 cases hn:nodesErr none 0 g.nodes with
 | some y =>
   rw [hn] at h
   injection h with h
   subst h
   exact nodesErr_neS _ _ _ _ hn
 | none =>
   rw [hn] at h
   obtain ⟨y,hy,he⟩:=Option.map_eq_some_iff.1 h
   subst he
   have h9:=relsErr_neS _ _ _ _ y hy
   exact h9
theorem full_zeroS {g:GGraph} {tl:Int} {at_:Nat} (h:fullErr g tl=(0,at_)):headErr g=none:=by
 unfold fullErr at h
 cases hh:headErr g with
 | none=>rfl
 | some x =>
   rw [hh] at h
   have h1:=headErr_neS hh
   simp only at h
   rw [h] at h1
   exact absurd rfl h1
section
variable {α κ:Type} {lt:κ->κ->Prop} {key:α->κ}
theorem SameO.of_nodup [DecidableEq κ] {l m:List α} (h:l.Perm m) (hn:(m.map key).Nodup):SameO key l m:=fun k=>by
 have hp:=h.filter fun x=>decide (key x=k)
 have hl:(m.filter fun x=>decide (key x=k)).length<=1:=by
  clear hp h
  induction m with
  | nil=>simp
  | cons x m ih =>
    obtain ⟨h1,h2⟩:=List.nodup_cons.1 hn
    by_cases hk:key x=k
    · have h3:(m.filter fun x=>decide (key x=k))=[]:=List.filter_eq_nil_iff.2 fun y hy=>by
       simp only [decide_eq_true_eq]
       exact fun e=>h1 (List.mem_map.2 ⟨y,hy,e.trans hk.symm⟩)
      rw [List.filter_cons_of_pos (by simpa using hk),h3]
      simp
    rw [List.filter_cons_of_neg (by simpa using hk)]
    exact ih h2
 match hm:(m.filter fun x=>decide (key x=k)),hl with
 | [],_=>rw [hm] at hp;exact hp.eq_nil
 | [x],_=>rw [hm] at hp;exact List.perm_singleton.1 hp
 | _::_::_,h=>simp at h
theorem SortO.of_lt (L:Lin lt) {l:List α} (h:(l.map key).Pairwise lt):SortO lt key l/\(l.map key).Nodup:=by
 constructor
 · rw [List.pairwise_map] at h
   exact h.imp fun h=>L.asym h
 exact h.imp fun {a b} h e=>by subst e;exact L.irr _ h
theorem sort_perm [DecidableRel lt] [DecidableEq κ] (L:Lin lt) {l m:List α} (h:l.Perm m) (hn:(m.map key).Nodup):sortB lt key l=sortB lt key m:=sortB_congr L (SameO.of_nodup h hn)
end
theorem leB_false {p q:ByteArray} (h:leB p q=false):ltS q p:=Classical.byContradiction fun hn=>by
 have h1:=(leq_iff p q).2 hn
 unfold leB at h
 rw [h] at h1
 cases h1
theorem labs_lt:∀ (prev:Option ByteArray) (l:List ByteArray),labErrs prev l=0->l.Pairwise ltS/\∀ y∈l,∀ q,prev=some q->ltS q y
 | _,[],_=>⟨List.Pairwise.nil,by simp⟩
 | prev,p::l,h=>by
   unfold labErrs at h
   by_cases h1:goodN p=false
   · rw [if_pos h1] at h;cases h
   rw [if_neg h1] at h
   by_cases h2:notAfter p prev=true
   · rw [if_pos h2] at h;cases h
   rw [if_neg h2] at h
   obtain ⟨h3,h4⟩:=labs_lt (some p) l h
   have hp:∀ q,prev=some q->ltS q p:=fun q hq=>by
    subst hq
    have h5:leB p q=false:=by simpa [notAfter] using h2
    exact leB_false h5
   refine ⟨List.pairwise_cons.2 ⟨fun y hy=>h4 y hy p rfl,h3⟩,fun y hy q hq=>?_⟩
   rcases List.mem_cons.1 hy with rfl | hy
   · exact hp q hq
   exact lin_str.tr (hp q hq) (h4 y hy p rfl)
theorem props_lt:∀ (prev:Option ByteArray) (l:List GPr),propErrs prev l=0->(l.map GPr.key).Pairwise ltS/\∀ y∈l.map GPr.key,∀ q,prev=some q->ltS q y
 | _,[],_=>⟨List.Pairwise.nil,by simp⟩
 | prev,p::l,h=>by
   unfold propErrs at h
   by_cases h1:goodN p.key=false
   · rw [if_pos h1] at h;cases h
   rw [if_neg h1] at h
   by_cases h2:notAfter p.key prev=true
   · rw [if_pos h2] at h;cases h
   rw [if_neg h2] at h
   by_cases h0:chk p.val≠0
   · rw [if_pos h0] at h;exact absurd h h0
   rw [if_neg h0] at h
   obtain ⟨h3,h4⟩:=props_lt (some p.key) l h
   have hp:∀ q,prev=some q->ltS q p.key:=fun q hq=>by
    subst hq
    have h5:leB p.key q=false:=by simpa [notAfter] using h2
    exact leB_false h5
   rw [List.map_cons]
   refine ⟨List.pairwise_cons.2 ⟨fun y hy=>h4 y hy p.key rfl,h3⟩,fun y hy q hq=>?_⟩
   rcases List.mem_cons.1 hy with rfl | hy
   · exact hp q hq
   exact lin_str.tr (hp q hq) (h4 y hy p.key rfl)
theorem propsErr_lt {l:List GPr} (h:propsErr l=0):(l.map GPr.key).Pairwise ltS:=by
 unfold propsErr at h
 by_cases h1:16<l.length
 · rw [if_pos h1] at h;cases h
 rw [if_neg h1] at h;exact (props_lt _ _ h).1
theorem labelsErr_lt {l:List ByteArray} (h:labelsErr l=0):l.Pairwise ltS:=by
 unfold labelsErr at h
 by_cases h1:8<l.length
 · rw [if_pos h1] at h;cases h
 rw [if_neg h1] at h;exact (labs_lt _ _ h).1
theorem nodeErr_zero {prev:Option Int} {x:GNode} (h:nodeErr prev x=0):notAfterI x.id prev=false/\labelsErr x.labels=0/\propsErr x.props=0:=by
 unfold nodeErr at h
 by_cases ha:x.id<0\/1024<=x.id
 · rw [if_pos ha] at h;cases h
 rw [if_neg ha] at h
 by_cases hb:notAfterI x.id prev=true
 · rw [if_pos hb] at h;cases h
 rw [if_neg hb] at h
 by_cases hc:labelsErr x.labels≠0
 · rw [if_pos hc] at h;exact absurd h hc
 rw [if_neg hc] at h
 exact ⟨by simpa using hb,by simpa using hc,h⟩
theorem relErr_zero {th:Int->Bool} {prev:Option Int} {x:GRel} (h:relErr th prev x=0):notAfterI x.id prev=false/\propsErr x.props=0:=by
 unfold relErr at h
 by_cases ha:x.id<0\/2048<=x.id
 · rw [if_pos ha] at h;cases h
 rw [if_neg ha] at h
 by_cases hb:notAfterI x.id prev=true
 · rw [if_pos hb] at h;cases h
 rw [if_neg hb] at h
 by_cases hc:goodN x.type=false
 · rw [if_pos hc] at h;cases h
 rw [if_neg hc] at h
 by_cases hd:th x.src=false\/th x.dst=false
 · rw [if_pos hd] at h;cases h
 rw [if_neg hd] at h
 exact ⟨by simpa using hb,h⟩
theorem nodes_fine:∀ (prev:Option Int) (i:Nat) (l:List GNode),nodesErr prev i l=none->∀ x∈l,labelsErr x.labels=0/\propsErr x.props=0
 | _,_,[],_=>by simp
 | prev,i,y::l,h=>by
   simp only [nodesErr] at h
   by_cases hz:nodeErr prev y=0
   · rw [if_neg (by rw [hz];simp)] at h
     intro x hx
     rcases List.mem_cons.1 hx with rfl | hx
     · exact (nodeErr_zero hz).2
     exact nodes_fine _ _ l h x hx
   rw [if_pos hz] at h;cases h
theorem rels_fine (th:Int->Bool):∀ (prev:Option Int) (i:Nat) (l:List GRel),relsErr th prev i l=none->((l.map GRel.id).Pairwise (fun a b=>a<b)/\∀ y∈l.map GRel.id,∀ q,prev=some q->q<y)/\∀ x∈l,propsErr x.props=0
 | _,_,[],_=>⟨⟨List.Pairwise.nil,by simp⟩,by simp⟩
 | prev,i,y::l,h=>by
   simp only [relsErr] at h
   by_cases hz:relErr th prev y=0
   · rw [if_neg (by rw [hz];simp)] at h
     obtain ⟨h1,h2⟩:=relErr_zero hz
     obtain ⟨⟨h3,h4⟩,h5⟩:=rels_fine th _ _ l h
     have hp:∀ q,prev=some q->q<y.id:=fun q hq=>by
      subst hq
      simpa [notAfterI] using h1
     rw [List.map_cons]
     refine ⟨⟨List.pairwise_cons.2 ⟨fun z hz=>h4 z hz y.id rfl,h3⟩,fun z hz q hq=>?_⟩,fun x hx=>?_⟩
     · rcases List.mem_cons.1 hz with rfl | hz
       · exact hp q hq
       have h6:=h4 z hz y.id rfl
       have h7:=hp q hq
       omega
     rcases List.mem_cons.1 hx with rfl | hx
     · exact h2
     exact h5 x hx
   rw [if_pos hz] at h;cases h
structure Mixed (g c:GGraph):Prop where
 can:canonD c=canonD g
 ids:(c.nodes.map GNode.id).Nodup
 rids:(c.rels.map GRel.id).Nodup
 keys:∀ x∈c.nodes,(x.props.map GPr.key).Nodup
theorem right_canon {g:GGraph} (h:headErr g=none):canonD g=g/\Mixed g g:=by
 obtain ⟨h1,h2⟩:=head_split h
 have hn:=(nodes_incS _ _ _ h1).1
 have hf:=nodes_fine _ _ _ h1
 obtain ⟨⟨hr,_⟩,hrf⟩:=rels_fine _ _ _ _ h2
 have en:g.nodes.map canN=g.nodes:=by
  conv=>rhs;rw [<- List.map_id g.nodes]
  refine List.map_congr_left fun x hx=>?_
  obtain ⟨a,b⟩:=hf x hx
  have e1:sortT x.labels=x.labels:=sortB_id lin_str (SortO.of_lt (key:=fun y:ByteArray=>y) lin_str (by simpa using labelsErr_lt a)).1
  have e2:sortB ltS GPr.key x.props=x.props:=sortB_id lin_str (SortO.of_lt lin_str (propsErr_lt b)).1
  simp only [canN,e1,e2,id]
 have er:g.rels.map canR=g.rels:=by
  conv=>rhs;rw [<- List.map_id g.rels]
  refine List.map_congr_left fun x hx=>?_
  have e2:sortB ltS GPr.key x.props=x.props:=sortB_id lin_str (SortO.of_lt lin_str (propsErr_lt (hrf x hx))).1
  simp only [canR,e2,id]
 have e:canonD g=g:=by
  unfold canonD
  rw [en,er,sortB_id lin_int (SortO.of_lt (key:=GNode.id) lin_int hn).1,sortB_id lin_int (SortO.of_lt (key:=GRel.id) lin_int hr).1]
 exact ⟨e,rfl,(SortO.of_lt (key:=GNode.id) lin_int hn).2,(SortO.of_lt (key:=GRel.id) lin_int hr).2,fun x hx=>(SortO.of_lt lin_str (propsErr_lt (hf x hx).2)).2⟩
theorem Mixed.nodes {g c:GGraph} {l:List GNode} (h:Mixed g c) (hp:l.Perm c.nodes):Mixed g ⟨l,c.rels⟩:=by
 refine ⟨?_,(hp.map _).nodup_iff.2 h.ids,h.rids,fun x hx=>h.keys x (hp.mem_iff.1 hx)⟩
 rw [<- h.can]
 unfold canonD
 simp only
 congr 1
 refine sort_perm lin_int (hp.map _) ?_
 rw [List.map_map]
 exact h.ids
theorem Mixed.rels {g c:GGraph} {l:List GRel} (h:Mixed g c) (hp:l.Perm c.rels):Mixed g ⟨c.nodes,l⟩:=by
 refine ⟨?_,h.ids,(hp.map _).nodup_iff.2 h.rids,h.keys⟩
 rw [<- h.can]
 unfold canonD
 simp only
 congr 1
 refine sort_perm lin_int (hp.map _) ?_
 rw [List.map_map]
 exact h.rids
theorem Mixed.one {g:GGraph} {P Q:List GNode} {rs:List GRel} {x y:GNode} (h:Mixed g ⟨P++x::Q,rs⟩) (hi:y.id=x.id) (hl:y.labels.Perm x.labels) (hp:y.props.Perm x.props):Mixed g ⟨P++y::Q,rs⟩:=by
 have hk:=h.keys x (by simp)
 have e:canN y=canN x:=by
  unfold canN
  rw [hi,sort_perm lin_str hp hk,show sortT y.labels=sortT x.labels from sortB_congr lin_str (SameO.of_perm hl)]
 refine ⟨?_,?_,h.rids,fun z hz=>?_⟩
 · rw [<- h.can]
   unfold canonD
   simp only [List.map_append,List.map_cons,e]
 · have:=h.ids
   simp only [List.map_append,List.map_cons] at this ⊢
   rw [hi]
   exact this
 rcases List.mem_append.1 hz with hz | hz
 · exact h.keys z (by simp [hz])
 rcases List.mem_cons.1 hz with rfl | hz
 · exact (hp.map _).nodup_iff.2 hk
 exact h.keys z (by simp [hz])
def headP (g:GGraph):List (List UInt8):=magicP::packP 1 [0,1]::(g.nodes.map (fun x=>packP 2 (encNd x))++g.rels.map (fun x=>packP 3 (encRl x)))
def tailP (g:GGraph):List UInt8:=packP 4 (trailP g.nodes.length g.rels.length g.wt (headP g).flatten)
def piecesP (g:GGraph):List (List UInt8):=headP g++[tailP g]
def arcP (g:GGraph):List UInt8:=(piecesP g).flatten
theorem arcP_split (g:GGraph):arcP g=(headP g).flatten++tailP g:=by
 unfold arcP piecesP
 rw [List.flatten_append]
 simp
structure RightD (g:GGraph):Prop where
 nodes:∀ x∈g.nodes,x.Wr/\(encNd x).length<=1022+psW x.props
 rels:∀ x∈g.rels,x.Wr/\(encRl x).length<=742+psW x.props
 nN:g.nodes.length<=1024
 nR:g.rels.length<=2048
 wt:g.wt<=262144
structure GFits (g:GGraph):Prop where
 nodes:∀ x∈g.nodes,∀ p∈x.props,p.val.Fits
 rels:∀ x∈g.rels,∀ p∈x.props,p.val.Fits
theorem good_len {s:ByteArray} (h:goodN s=true):s.size<=40:=by
 unfold goodN goodL at h
 simp only [Bool.and_eq_true,decide_eq_true_eq] at h
 have:=h.1.1
 rw [bytes_len] at this
 exact this
theorem propErrs_all:∀ (prev:Option ByteArray) (l:List GPr),propErrs prev l=0->∀ p∈l,p.key.size<=40/\chk p.val=0
 | _,[],_=>by simp
 | prev,q::l,h=>by
   simp only [propErrs] at h
   by_cases h1:goodN q.key=false
   · rw [if_pos h1] at h;cases h
   rw [if_neg h1] at h
   by_cases h2:notAfter q.key prev=true
   · rw [if_pos h2] at h;cases h
   rw [if_neg h2] at h
   by_cases h3:chk q.val≠0
   · rw [if_pos h3] at h;exact absurd h h3
   rw [if_neg h3] at h
   intro p hp
   rcases List.mem_cons.1 hp with rfl | hp
   · exact ⟨good_len (by simpa using h1),Decidable.not_not.1 h3⟩
   exact propErrs_all _ l h p hp
theorem labErrs_all:∀ (prev:Option ByteArray) (l:List ByteArray),labErrs prev l=0->∀ p∈l,p.size<=40
 | _,[],_=>by simp
 | prev,q::l,h=>by
   simp only [labErrs] at h
   by_cases h1:goodN q=false
   · rw [if_pos h1] at h;cases h
   rw [if_neg h1] at h
   by_cases h2:notAfter q prev=true
   · rw [if_pos h2] at h;cases h
   rw [if_neg h2] at h
   intro p hp
   rcases List.mem_cons.1 hp with rfl | hp
   · exact good_len (by simpa using h1)
   exact labErrs_all _ l h p hp
theorem enc_le2 {g:GVal} (h:chk g=0):(enc g).length<=65535:=by
 unfold enc
 rw [if_pos h]
 obtain ⟨_,_,_,h4,h5,h6,h7⟩:=chk_zero h
 rw [List.length_append,beb_len]
 unfold encBody
 split
 · have:=encNum_len g.kind g.num
   omega
 split
 · rw [encText_len]
   omega
 rw [List.length_append,List.length_append,beb_len]
 have h1:=flat_nums_len (g.kind-4) g.nums
 have h2:=flat_texts_len g.texts h7
 omega
theorem names_len:∀ (l:List ByteArray),(∀ x∈l,x.size<=40)->(l.flatMap encName).length<=41*l.length
 | [],_=>by simp
 | x::l,h=>by
   have h1:=names_len l fun y hy=>h y (by simp [hy])
   have h2:=h x (by simp)
   rw [List.flatMap_cons,List.length_append,encName_len,List.length_cons]
   omega
theorem prs_len:∀ (l:List GPr),(∀ p∈l,p.key.size<=40)->(l.flatMap encPr).length<=43*l.length+psW l
 | [],_=>by simp [psW]
 | p::l,h=>by
   have h1:=prs_len l fun y hy=>h y (by simp [hy])
   have h2:=h p (by simp)
   have e:(encPr p).length=1+p.key.size+(2+(enc p.val).length):=by
    unfold encPr
    rw [List.length_append,List.length_append,encName_len,beb_len]
   rw [List.flatMap_cons,List.length_append,e,List.length_cons,psW_cons]
   omega
theorem ps_fine {l:List GPr} (h:propsErr l=0):l.length<=16/\∀ p∈l,p.key.size<=40/\chk p.val=0:=by
 unfold propsErr at h
 by_cases h1:16<l.length
 · rw [if_pos h1] at h;cases h
 rw [if_neg h1] at h
 exact ⟨by omega,propErrs_all _ _ h⟩
theorem ls_fine {l:List ByteArray} (h:labelsErr l=0):l.length<=8/\∀ p∈l,p.size<=40:=by
 unfold labelsErr at h
 by_cases h1:8<l.length
 · rw [if_pos h1] at h;cases h
 rw [if_neg h1] at h
 exact ⟨by omega,labErrs_all _ _ h⟩
theorem ps_wr {l:List GPr} (h:propsErr l=0) (hf:∀ p∈l,p.val.Fits):l.length<=255/\(∀ p∈l,p.Wr)/\(encPs l).length<=689+psW l:=by
 obtain ⟨h1,h2⟩:=ps_fine h
 refine ⟨by omega,fun p hp=>⟨by have:=(h2 p hp).1;omega,(h2 p hp).2,hf p hp,enc_le2 (h2 p hp).2⟩,?_⟩
 have h3:=prs_len l fun p hp=>(h2 p hp).1
 unfold encPs
 rw [List.length_append,beb_len]
 omega
theorem rels_ids (th:Int->Bool):∀ (prev:Option Int) (i:Nat) (l:List GRel),relsErr th prev i l=none->∀ x∈l,(0<=x.id/\x.id<2048)/\x.type.size<=40/\th x.src=true/\th x.dst=true
 | _,_,[],_=>by simp
 | prev,i,y::l,h=>by
   simp only [relsErr] at h
   by_cases hz:relErr th prev y=0
   · rw [if_neg (by rw [hz];simp)] at h
     have h2:=rels_ids th _ _ l h
     unfold relErr at hz
     by_cases ha:y.id<0\/2048<=y.id
     · rw [if_pos ha] at hz;cases hz
     rw [if_neg ha] at hz
     by_cases hb:notAfterI y.id prev=true
     · rw [if_pos hb] at hz;cases hz
     rw [if_neg hb] at hz
     by_cases hg:goodN y.type=false
     · rw [if_pos hg] at hz;cases hz
     rw [if_neg hg] at hz
     by_cases ht:th y.src=false\/th y.dst=false
     · rw [if_pos ht] at hz;cases hz
     intro x hx
     rcases List.mem_cons.1 hx with rfl | hx
     · exact ⟨by omega,good_len (by simpa using hg),by simpa using fun h=>ht (.inl h),by simpa using fun h=>ht (.inr h)⟩
     exact h2 x hx
   rw [if_pos hz] at h;cases h
theorem right_of {g:GGraph} (h:headErr g=none) (hw:g.wt<=262144) (hf:GFits g):RightD g:=by
 obtain ⟨h1,h2⟩:=head_split h
 obtain ⟨h3,h4⟩:=head_len h
 have hn:=nodes_fine _ _ _ h1
 have hn2:=(nodes_right _ _ _ h1).2
 have hr:=(rels_fine _ _ _ _ h2).2
 have hr2:=rels_ids _ _ _ _ h2
 refine ⟨fun x hx=>?_,fun x hx=>?_,h3,h4,hw⟩
 · obtain ⟨a,b⟩:=hn x hx
   obtain ⟨c,d⟩:=ls_fine a
   obtain ⟨e1,e2,e3⟩:=ps_wr b (hf.nodes x hx)
   obtain ⟨i1,i2⟩:=(hn2 x hx).1
   refine ⟨⟨⟨i1,by omega⟩,by omega,fun l hl=>by have:=d l hl;omega,e1,e2⟩,?_⟩
   have h5:=names_len x.labels d
   unfold encNd
   simp only [List.length_append,beb_len]
   omega
 obtain ⟨e1,e2,e3⟩:=ps_wr (hr x hx) (hf.rels x hx)
 obtain ⟨⟨i1,i2⟩,i3,i4,i5⟩:=hr2 x hx
 have key:∀ y,thereP g y=true->0<=y/\y<1024:=fun y hy=>by
  unfold thereP at hy
  obtain ⟨z,hz,rfl⟩:=List.mem_map.1 (of_decide_eq_true hy)
  exact (hn2 z hz).1
 have k1:=key _ i4
 have k2:=key _ i5
 refine ⟨⟨⟨i1,by omega⟩,⟨k1.1,by omega⟩,⟨k2.1,by omega⟩,by omega,e1,e2⟩,?_⟩
 unfold encRl
 simp only [List.length_append,beb_len,encName_len]
 omega
theorem psW_mem {α:Type} (f:α->List GPr):∀ (l:List α) (x:α),x∈l->psW (f x)<=psW (l.flatMap f)
 | [],x,h=>by cases h
 | y::l,x,h=>by
   rw [List.flatMap_cons,psW_append]
   rcases List.mem_cons.1 h with rfl | h
   · omega
   have:=psW_mem f l x h
   omega
theorem sum_len {α:Type} (f:α->List GPr) (t k:Nat) (e:α->List UInt8):∀ (l:List α),(∀ x∈l,(e x).length<=k+psW (f x))->((l.map fun x=>packP t (e x)).flatten).length<=(k+9)*l.length+psW (l.flatMap f)
 | [],_=>by simp
 | y::l,h=>by
   have h1:=sum_len f t k e l fun x hx=>h x (by simp [hx])
   have h2:=h y (by simp)
   rw [List.map_cons,List.flatten_cons,List.length_append,packP_len,List.flatMap_cons,psW_append,List.length_cons,Nat.mul_add]
   omega
section
variable {g:GGraph}
theorem RightD.nd (h:RightD g) {x:GNode} (hx:x∈g.nodes):x.Wr/\(encNd x).length<=1048576:=by
 refine ⟨(h.nodes x hx).1,?_⟩
 have h1:=(h.nodes x hx).2
 have h2:=psW_mem GNode.props g.nodes x hx
 have h3:=h.wt
 unfold GGraph.wt at h3
 omega
theorem RightD.rl (h:RightD g) {x:GRel} (hx:x∈g.rels):x.Wr/\(encRl x).length<=1048576:=by
 refine ⟨(h.rels x hx).1,?_⟩
 have h1:=(h.rels x hx).2
 have h2:=psW_mem GRel.props g.rels x hx
 have h3:=h.wt
 unfold GGraph.wt at h3
 omega
theorem head_split2 (g:GGraph):(headP g).flatten=magicP++(packP 1 [0,1]++((g.nodes.map fun x=>packP 2 (encNd x)).flatten++(g.rels.map fun x=>packP 3 (encRl x)).flatten)):=by
 unfold headP
 simp only [List.flatten_cons,List.flatten_append]
theorem RightD.head_len (h:RightD g):(headP g).flatten.length<=2900000:=by
 have h1:=sum_len GNode.props 2 1022 encNd g.nodes fun x hx=>(h.nodes x hx).2
 have h2:=sum_len GRel.props 3 742 encRl g.rels fun x hx=>(h.rels x hx).2
 have h3:=h.wt
 have h4:=h.nN
 have h5:=h.nR
 unfold GGraph.wt at h3
 rw [head_split2]
 simp only [List.length_append,packP_len,magic_len,List.length_cons,List.length_nil]
 have h6:(1022+9)*g.nodes.length<=(1022+9)*1024:=Nat.mul_le_mul_left _ h4
 have h7:(742+9)*g.rels.length<=(742+9)*2048:=Nat.mul_le_mul_left _ h5
 omega
theorem tailP_len (g:GGraph):(tailP g).length=25:=by unfold tailP;rw [packP_len,trailP_len]
theorem RightD.arc_len (h:RightD g):(arcP g).length<=2900025:=by
 have:=h.head_len
 rw [arcP_split,List.length_append,tailP_len]
 omega
end
theorem framesP_packs {α:Type} (t:Nat) (ht:t<=255) (e:α->List UInt8) (r:List UInt8):∀ (l:List α),(∀ x∈l,(e x).length<=1048576) ->
 framesP ((l.map fun x=>packP t (e x)).flatten++r)=((l.map fun x=>(⟨t,e x⟩:GFr))++(framesP r).1,(framesP r).2)
 | [],_=>rfl
 | y::l,h=>by
   have h1:=framesP_packs t ht e r l fun x hx=>h x (by simp [hx])
   rw [List.map_cons,List.flatten_cons,List.append_assoc,framesP_some (oneP_enc ht (h y (by simp))),h1]
   rfl
theorem takes_nodes (fs:List GFr):∀ (l:List GNode) (ns:List GNode) (all:List UInt8),(∀ x∈l,x.Wr) ->
 takesP (l.map (fun x=>(⟨2,encNd x⟩:GFr))++fs) ⟨1,⟨ns,[]⟩,all⟩=takesP fs ⟨1,⟨ns++l,[]⟩,all++(l.map fun x=>packP 2 (encNd x)).flatten⟩
 | [],ns,all,_=>by simp
 | y::l,ns,all,h=>by
   have e1:takeP ⟨1,⟨ns,[]⟩,all⟩ ⟨2,encNd y⟩=.ok ⟨1,⟨ns++[y],[]⟩,all++packP 2 (encNd y)⟩:=by
    unfold takeP
    simp [pNd_enc (h y (by simp))]
   rw [List.map_cons,List.cons_append]
   simp only [takesP]
   rw [e1]
   simp only
   rw [takes_nodes fs l _ _ fun x hx=>h x (by simp [hx])]
   simp
theorem takes_rels (fs:List GFr):∀ (l:List GRel) (st:Nat) (ns:List GNode) (rs:List GRel) (all:List UInt8),(st=1\/st=2)->(∀ x∈l,x.Wr) ->
 ∃ st',(st'=1\/st'=2)/\takesP (l.map (fun x=>(⟨3,encRl x⟩:GFr))++fs) ⟨st,⟨ns,rs⟩,all⟩=takesP fs ⟨st',⟨ns,rs++l⟩,all++(l.map fun x=>packP 3 (encRl x)).flatten⟩
 | [],st,ns,rs,all,hs,_=>⟨st,hs,by simp⟩
 | y::l,st,ns,rs,all,hs,h=>by
   have e1:takeP ⟨st,⟨ns,rs⟩,all⟩ ⟨3,encRl y⟩=.ok ⟨2,⟨ns,rs++[y]⟩,all++packP 3 (encRl y)⟩:=by
    unfold takeP
    rcases hs with rfl | rfl <;> simp [pRl_enc (h y (by simp))]
   obtain ⟨st',h1,h2⟩:=takes_rels fs l 2 ns (rs++[y]) (all++packP 3 (encRl y)) (.inr rfl) fun x hx=>h x (by simp [hx])
   refine ⟨st',h1,?_⟩
   rw [List.map_cons,List.cons_append]
   simp only [takesP]
   rw [e1]
   simp only
   rw [h2]
   simp
def frs (g:GGraph):List GFr:=⟨1,[0,1]⟩::(g.nodes.map (fun x=>⟨2,encNd x⟩)++g.rels.map fun x=>⟨3,encRl x⟩)
theorem frames_head {g:GGraph} (h:RightD g) (r:List UInt8):framesP (((headP g).flatten++r).drop 8)=(frs g++(framesP r).1,(framesP r).2):=by
 have e:((headP g).flatten++r).drop 8=packP 1 [0,1]++((g.nodes.map fun x=>packP 2 (encNd x)).flatten++((g.rels.map fun x=>packP 3 (encRl x)).flatten++r)):=by
  rw [head_split2,<-magic_len,List.append_assoc,List.drop_left]
  simp only [List.append_assoc]
 rw [e,framesP_some (oneP_enc (by omega) (by decide)),framesP_packs 2 (by omega) encNd _ g.nodes fun x hx=>(h.nd hx).2,framesP_packs 3 (by omega) encRl _ g.rels fun x hx=>(h.rl hx).2]
 simp [frs]
theorem takes_head {g:GGraph} (h:RightD g) (fs:List GFr):∃ st,(st=1\/st=2)/\takesP (frs g++fs) ⟨0,noG,magicP⟩=takesP fs ⟨st,g,(headP g).flatten⟩:=by
 have e1:takeP ⟨0,noG,magicP⟩ ⟨1,[0,1]⟩=.ok ⟨1,noG,magicP++packP 1 [0,1]⟩:=by unfold takeP;simp
 obtain ⟨st,h1,h2⟩:=takes_rels fs g.rels 1 g.nodes [] (magicP++packP 1 [0,1]++(g.nodes.map fun x=>packP 2 (encNd x)).flatten) (.inl rfl) fun x hx=>(h.rl hx).1
 refine ⟨st,h1,?_⟩
 unfold frs
 rw [List.cons_append]
 simp only [takesP]
 rw [e1]
 simp only [noG]
 rw [List.append_assoc,takes_nodes _ g.nodes [] _ fun x hx=>(h.nd hx).1,List.nil_append,h2,List.nil_append,head_split2]
 simp only [List.append_assoc]
theorem fedP_arc {g:GGraph} (h:RightD g):fedP (arcP g)=.ok ⟨3,g,arcP g⟩:=by
 have hl:=h.arc_len
 have ht:tailP g=packP 4 (trailP g.nodes.length g.rels.length g.wt (headP g).flatten):=rfl
 have h8:(arcP g).take 8=magicP:=by
  rw [arcP_split,head_split2,<-magic_len,List.append_assoc,List.take_left]
 have hfr:framesP ((arcP g).drop 8)=(frs g++[⟨4,trailP g.nodes.length g.rels.length g.wt (headP g).flatten⟩],[],0):=by
  rw [arcP_split,frames_head h,ht]
  have e2:=framesP_some (oneP_enc (t:=4) (d:=trailP g.nodes.length g.rels.length g.wt (headP g).flatten) (r:=[]) (by omega) (by rw [trailP_len];omega))
  rw [List.append_nil] at e2
  rw [e2,framesP_nil]
 obtain ⟨st,h1,h2⟩:=takes_head h [⟨4,trailP g.nodes.length g.rels.length g.wt (headP g).flatten⟩]
 have e3:takeP ⟨st,g,(headP g).flatten⟩ ⟨4,trailP g.nodes.length g.rels.length g.wt (headP g).flatten⟩=.ok ⟨3,g,arcP g⟩:=by
  unfold takeP
  rw [arcP_split,ht]
  rcases h1 with rfl | rfl <;> simp
 unfold fedP
 rw [if_neg (by omega),if_neg (by rw [arcP_split,head_split2];simp only [List.length_append,magic_len];omega),if_neg (by simp [h8]),hfr]
 simp only
 rw [h2]
 simp only [takesP]
 rw [e3]
 simp
theorem framesP_flat (n:Nat):∀ (l:List UInt8),l.length<=n->l=((framesP l).1.map fun f=>packP f.type f.data).flatten++(framesP l).2.1:=by
 induction n with
 | zero =>
   intro l h
   obtain rfl:l=[]:=List.length_eq_zero_iff.1 (by omega)
   rw [framesP_nil]
   rfl
 | succ n ih =>
   intro l h
   cases hx:oneP l with
   | error e=>rw [framesP_err hx];rfl
   | ok o =>
     cases o with
     | none=>rw [framesP_none hx];rfl
     | some p =>
       obtain ⟨f,r⟩:=p
       obtain ⟨hp,hr,hl,-,-⟩:=oneP_pack hx
       rw [framesP_some hx]
       simp only [List.map_cons,List.flatten_cons,List.append_assoc]
       rw [<- ih r (by rw [hr,List.length_drop];omega),hp,hr,List.take_append_drop]
theorem takeP_all {s s':PSt} {f:GFr} (h:takeP s f=.ok s'):s'.all=s.all++packP f.type f.data:=by
 unfold takeP at h
 split at h
 · cases h
 split at h
 · split at h
   · injection h with h;rw [<- h]
   cases h
 split at h
 · split at h
   · cases h
   injection h with h;rw [<- h]
 split at h
 · split at h
   · cases h
   injection h with h;rw [<- h]
 split at h
 · split at h
   · injection h with h;rw [<- h]
   cases h
 cases h
theorem takesP_all:∀ (fs:List GFr) (s s':PSt),takesP fs s=.ok s'->s'.all=s.all++(fs.map fun f=>packP f.type f.data).flatten
 | [],s,s',h=>by simp only [takesP] at h;injection h with h;rw [<- h];simp
 | f::fs,s,s',h=>by
   simp only [takesP] at h
   cases hx:takeP s f with
   | error e=>rw [hx] at h;cases h
   | ok s1 =>
     rw [hx] at h
     rw [takesP_all fs s1 s' h,takeP_all hx]
     simp
structure AllWr (g:GGraph):Prop where
 nodes:∀ x∈g.nodes,x.Wr
 rels:∀ x∈g.rels,x.Wr
def InvP (s:PSt):Prop:=AllWr s.g /\
 (s.state=0/\s.g=noG/\s.all=magicP\/s.state=1/\s.g.rels=[]/\s.all=(headP s.g).flatten\/s.state=2/\s.all=(headP s.g).flatten\/s.state=3/\s.all=arcP s.g)
theorem takeP_inv {s s':PSt} {f:GFr} (hi:InvP s) (h:takeP s f=.ok s'):InvP s':=by
 obtain ⟨hw,hc⟩:=hi
 unfold takeP at h
 by_cases h3:s.state=3
 · rw [if_pos h3] at h;cases h
 rw [if_neg h3] at h
 by_cases h0:s.state=0/\f.type=1
 · rw [if_pos h0] at h
   by_cases hd:f.data=[0,1]
   · rw [if_pos hd] at h
     injection h with h
     rw [<- h]
     have hg:s.g=noG/\s.all=magicP:=by rcases hc with c | c | c | c <;> first | exact c.2 | (have:=c.1;omega)
     refine ⟨hw,.inr (.inl ⟨rfl,by simp only [hg.1];rfl,?_⟩)⟩
     simp only [hg.1,hg.2,h0.2,hd]
     simp [headP,noG]
   rw [if_neg hd] at h;cases h
 rw [if_neg h0] at h
 by_cases h1:s.state=1/\f.type=2
 · rw [if_pos h1] at h
   cases hn:pNd f.data with
   | none=>rw [hn] at h;cases h
   | some x =>
     rw [hn] at h
     injection h with h
     rw [<- h]
     obtain ⟨e1,e2⟩:=pNd_back hn
     have hg:s.g.rels=[]/\s.all=(headP s.g).flatten:=by rcases hc with c | c | c | c <;> first | exact c.2 | (have:=c.1;omega)
     refine ⟨⟨fun y hy=>?_,hw.rels⟩,.inr (.inl ⟨rfl,hg.1,?_⟩)⟩
     · rcases List.mem_append.1 hy with hy | hy
       · exact hw.nodes y hy
       obtain rfl:y=x:=by simpa using hy
       exact e2
     simp only [hg.2,h1.2]
     rw [head_split2,head_split2,hg.1,<-e1]
     simp
 rw [if_neg h1] at h
 by_cases h2:s.state≠0/\f.type=3
 · rw [if_pos h2] at h
   cases hn:pRl f.data with
   | none=>rw [hn] at h;cases h
   | some x =>
     rw [hn] at h
     injection h with h
     rw [<- h]
     obtain ⟨e1,e2⟩:=pRl_back hn
     have hg:s.all=(headP s.g).flatten:=by
      rcases hc with c | c | c | c
      · exact absurd c.1 h2.1
      · exact c.2.2
      · exact c.2
      exact absurd c.1 h3
     refine ⟨⟨hw.nodes,fun y hy=>?_⟩,.inr (.inr (.inl ⟨rfl,?_⟩))⟩
     · rcases List.mem_append.1 hy with hy | hy
       · exact hw.rels y hy
       obtain rfl:y=x:=by simpa using hy
       exact e2
     simp only [hg,h2.2]
     rw [head_split2,head_split2,<-e1]
     simp
 rw [if_neg h2] at h
 by_cases h4:s.state≠0/\f.type=4
 · rw [if_pos h4] at h
   by_cases hd:f.data=trailP s.g.nodes.length s.g.rels.length s.g.wt s.all
   · rw [if_pos hd] at h
     injection h with h
     rw [<- h]
     have hg:s.all=(headP s.g).flatten:=by
      rcases hc with c | c | c | c
      · exact absurd c.1 h4.1
      · exact c.2.2
      · exact c.2
      exact absurd c.1 h3
     refine ⟨hw,.inr (.inr (.inr ⟨rfl,?_⟩))⟩
     simp only
     rw [arcP_split,hd,h4.2]
     unfold tailP
     rw [hg]
   rw [if_neg hd] at h;cases h
 rw [if_neg h4] at h;cases h
theorem takesP_inv:∀ (fs:List GFr) (s s':PSt),InvP s->takesP fs s=.ok s'->InvP s'
 | [],s,s',hi,h=>by simp only [takesP] at h;injection h with h;rw [<- h];exact hi
 | f::fs,s,s',hi,h=>by
   simp only [takesP] at h
   cases hx:takeP s f with
   | error e=>rw [hx] at h;cases h
   | ok s1=>rw [hx] at h;exact takesP_inv fs s1 s' (takeP_inv hi hx) h
theorem fedP_back {b:List UInt8} {s:PSt} (h:fedP b=.ok s) (h3:s.state=3):b=arcP s.g/\AllWr s.g/\b.length<=16777216:=by
 unfold fedP at h
 by_cases h1:16777216<b.length
 · rw [if_pos h1] at h;cases h
 rw [if_neg h1] at h
 by_cases h8:b.length<8
 · rw [if_pos h8] at h;injection h with h;rw [<- h] at h3;cases h3
 rw [if_neg h8] at h
 by_cases hm:b.take 8≠magicP
 · rw [if_pos hm] at h;cases h
 rw [if_neg hm] at h
 cases hx:takesP (framesP (b.drop 8)).1 ⟨0,noG,magicP⟩ with
 | error e=>rw [hx] at h;cases h
 | ok s' =>
   rw [hx] at h
   simp only at h
   by_cases hs:s'.state=3
   · rw [if_pos hs] at h
     by_cases hr:(framesP (b.drop 8)).2.1≠[]
     · rw [if_pos hr] at h;cases h
     rw [if_neg hr] at h
     injection h with h
     subst h
     have hinv:=takesP_inv _ _ _ ⟨⟨by simp [noG],by simp [noG]⟩,.inl ⟨rfl,rfl,rfl⟩⟩ hx
     have hall:=takesP_all _ _ _ hx
     have hfl:=framesP_flat (b.drop 8).length (b.drop 8) (Nat.le_refl _)
     rw [Decidable.not_not.1 hr,List.append_nil] at hfl
     rw [<- hfl] at hall
     simp only at hall
     rw [<- Decidable.not_not.1 hm,List.take_append_drop] at hall
     refine ⟨?_,hinv.1,by omega⟩
     rcases hinv.2 with c | c | c | c
     · have:=c.1;omega
     · have:=c.1;omega
     · have:=c.1;omega
     rw [<- c.2,hall]
   rw [if_neg hs] at h
   by_cases he:(framesP (b.drop 8)).2.2≠0
   · rw [if_pos he] at h;cases h
   rw [if_neg he] at h
   injection h with h
   subst h
   exact absurd h3 hs
theorem head_inj {g g':GGraph} (h:RightD g) (h':RightD g') (he:(headP g).flatten=(headP g').flatten):g=g':=by
 have f1:=frames_head h []
 have f2:=frames_head h' []
 rw [he,f2] at f1
 have f3:frs g'=frs g:=by
  have:=congrArg Prod.fst f1
  simpa using this
 obtain ⟨st,_,t1⟩:=takes_head h []
 obtain ⟨st',_,t2⟩:=takes_head h' []
 rw [<- f3,t2] at t1
 simp only [takesP] at t1
 injection t1 with t1
 injection t1 with _ t1 _
 exact t1.symm
theorem tail_sum {g g':GGraph} (h:tailP g=tailP g'):crcS (headP g).flatten=crcS (headP g').flatten:=by
 unfold tailP packP packH trailP at h
 simp only [List.append_assoc] at h
 have e:∀ {a b c d:List UInt8},a.length=c.length->a++b=c++d->b=d:=fun h1 h2=>(List.append_inj h2 h1).2
 have h1:=e (by simp only [beb_len]) h
 have h2:=e (by simp only [beb_len]) h1
 have h3:=e (by simp only [beb_len]) h2
 have h4:=e (by simp only [beb_len]) h3
 have h5:=e (by simp only [beb_len]) h4
 have h6:=(List.append_inj h5 (by simp only [beb_len])).1
 have h7:=congrArg be h6
 rw [be_beb,be_beb] at h7
 have a1:=(crcS (headP g).flatten).isLt
 have a2:=(crcS (headP g').flatten).isLt
 rw [Nat.mod_eq_of_lt (by omega),Nat.mod_eq_of_lt (by omega)] at h7
 exact BitVec.eq_of_toNat_eq h7
theorem tail_take (g g':GGraph) {k:Nat} (hk:k<=5):(tailP g).take k=(tailP g').take k:=by
 have key:∀ g:GGraph,(tailP g).take k=(beb 1 4++beb 4 16).take k:=fun g=>by
  unfold tailP packP packH
  rw [trailP_len]
  simp only [<- List.append_assoc]
  rw [List.append_assoc,List.take_append_of_le_length (by simp only [List.length_append,beb_len];omega)]
 rw [key,key]
theorem burst {g g':GGraph} (hg:RightD g) (hg':RightD g') {p l m q:List UInt8} (h1:arcP g=p++l++q) (h2:arcP g'=p++m++q) (hl:l.length=m.length) (h4:l.length<=4):l=m:=by
 have t1:=tailP_len g
 have t2:=tailP_len g'
 have hH:(headP g).flatten.length=(headP g').flatten.length:=by
  have e1:=congrArg List.length h1
  have e2:=congrArg List.length h2
  rw [arcP_split] at e1 e2
  simp only [List.length_append] at e1 e2
  omega
 rw [arcP_split] at h1 h2
 generalize hh:(headP g).flatten=H at *
 generalize hh':(headP g').flatten=H' at *
 have hT:∀ T:tailP g=tailP g',crcS H=crcS H':=fun T=>by have:=tail_sum T;rw [hh,hh'] at this;exact this
 by_cases c1:p.length+l.length<=H.length
 · obtain ⟨q1,hq1⟩:∃ q1,q1=q.take (H.length-(p.length+l.length)):=⟨_,rfl⟩
   have e1:H=p++l++q1:=by
    have:=congrArg (List.take H.length) h1
    rw [List.take_left,List.take_append,List.length_append,List.take_of_length_le (by rw [List.length_append];exact c1),<-hq1] at this
    exact this
   have e2:H'=p++m++q1:=by
    have:=congrArg (List.take H.length) h2
    rw [hH,List.take_left,List.take_append,List.length_append,List.take_of_length_le (by rw [List.length_append];omega),<-hl,<-hH,<-hq1] at this
    exact this
   have e3:tailP g=tailP g':=by
    rw [e1,List.append_assoc,List.append_assoc,List.append_assoc] at h1
    rw [e2,List.append_assoc,List.append_assoc,List.append_assoc] at h2
    have a1:=List.append_cancel_left (List.append_cancel_left h1)
    have a2:=List.append_cancel_left (List.append_cancel_left h2)
    exact List.append_cancel_left (a1.trans a2.symm)
   have e4:=hT e3
   rw [e1,e2] at e4
   exact crcS_burst hl h4 e4
 by_cases c2:H.length<=p.length
 · have e1:H=H':=by
    have a1:=congrArg (List.take H.length) h1
    have a2:=congrArg (List.take H.length) h2
    rw [List.take_left,List.append_assoc,List.take_append_of_le_length c2] at a1
    rw [hH,List.take_left,<-hH,List.append_assoc,List.take_append_of_le_length c2] at a2
    rw [a1,a2]
   have e2:=head_inj hg hg' (by rw [hh,hh',e1])
   subst e2
   rw [<- e1,h1,List.append_assoc,List.append_assoc] at h2
   exact (List.append_inj (List.append_cancel_left h2) hl).1
 obtain ⟨j,hj⟩:∃ j,j=H.length-p.length:=⟨_,rfl⟩
 have e1:H=p++l.take j:=by
  have a1:=congrArg (List.take H.length) h1
  rw [List.take_left,List.append_assoc,List.take_append,List.take_of_length_le (by omega),<-hj,List.take_append_of_le_length (by omega)] at a1
  exact a1
 have e2:H'=p++m.take j:=by
  have a1:=congrArg (List.take H.length) h2
  rw [hH,List.take_left,<-hH,List.append_assoc,List.take_append,List.take_of_length_le (by omega),<-hj,List.take_append_of_le_length (by omega)] at a1
  exact a1
 have b1:tailP g=l.drop j++q:=by
  rw [e1,List.append_assoc,List.append_assoc] at h1
  have a1:=List.append_cancel_left h1
  rw [<- List.take_append_drop j (l++q),List.take_append_of_le_length (by omega),List.drop_append_of_le_length (by omega)] at a1
  exact List.append_cancel_left a1
 have b2:tailP g'=m.drop j++q:=by
  rw [e2,List.append_assoc,List.append_assoc] at h2
  have a1:=List.append_cancel_left h2
  rw [<- List.take_append_drop j (m++q),List.take_append_of_le_length (by omega),List.drop_append_of_le_length (by omega)] at a1
  exact List.append_cancel_left a1
 have b3:l.drop j=m.drop j:=by
  have a1:=tail_take g g' (k:=l.length-j) (by omega)
  have d1:(l.drop j).length=l.length-j:=List.length_drop
  have d2:(m.drop j).length=l.length-j:=by rw [List.length_drop];omega
  rw [b1,b2,<-d1,List.take_left,d1,<-d2,List.take_left] at a1
  exact a1
 have e3:tailP g=tailP g':=by rw [b1,b2,b3]
 have e4:=hT e3
 rw [e1,e2,<-List.append_nil (p++l.take j),<-List.append_nil (p++m.take j)] at e4
 have e5:=crcS_burst (by simp only [List.length_take];omega) (by simp only [List.length_take];omega) e4
 rw [<- List.take_append_drop j l,<-List.take_append_drop j m,e5,b3]
end Go.Proofs.YtkopcinhbjimiaaGreatDoor
