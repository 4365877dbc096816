/- Texts that the claim leans on: walks and plain laws, function by function. -/
import Derived.Test.YtmkjfhnlnhceiaaGreatDoorIterL
import Derived.StringKeys
import Derived.Test.YtmkjfhnlnhceiaaGreatDoorRows
import Derived.ProofKit
import Derived.SizedLaws
import Derived.SliceStrings
import Derived.Deep.Fields
import Derived.Carry
import Derived.OpenShut
import Derived.Deep.Slices
import Derived.OrdersHeld
import Derived.StillTail
import Derived.Deep.RegionHeld3
import Derived.Deep.RegionHeldLaw
import Derived.Test.YtmkjfhnlnhceiaaGreatDoorN07
import Derived.Test.YtmkjfhnlnhceiaaGreatDoorN08
set_option maxRecDepth 100000
set_option maxHeartbeats 16000000
namespace Go.Proofs.YtmkjfhnlnhceiaaGreatDoor
section
open Go.RowKit Go.Maps Go.Sort Go.Shelf
theorem Zvt (m:Nat):AnyZ.SortsIn Tryz.prog sortedL_ren Fence.wide m :=
 ⟨fun c d a f W g b e=>YaO.2 (AnyM.slices_Sort_string sortL c d a f W g b e),
  fun p a W=>YaO.2 (AnyM.slices_Sort_string_none sortL p a W)⟩
theorem keys_in (mb:Option Nat) (W:World):CallsIn Fence.wide 5 Tryz.prog 86 #[.map mb] W fun e w'=>e=.returned (.func (.func 142) #[] #[.pointer (some ⟨W.heap.size,0,none⟩)])/\w'=W.alloc (.cells #[.map mb] 154) :=
 AnyZ.keys_in keysL Fence.wide 5 trivial rfl mb W
theorem ZnD {H:Type} (b nn:Nat) (D0:DataW H) (R:Value->Option (DataW H×List MemPlace)) (w:World) (hown:w.ownsMap Tryz.prog 9 R b nn D0) (hmax:Maps.size D0<=maxLen) (hbytes:Maps.size D0*16<=140737488355328) :
 CallsIn Fence.wide 5 Tryz.prog 85 #[.func (.func 142) #[] #[.pointer (some ⟨w.heap.size,0,none⟩)]] (w.alloc (.cells #[.map (some b)] 154)) fun e w'=>∃ (v:Value) (ss:List (List UInt8)),e=.returned v/\ss.Perm (strKeys D0) /\
  w'.ownsRow (w.alloc (.cells #[.map (some b)] 154)).heap.size 9 1 v ss.length ((ss.mergeSort (fun x y=>decide (x<=y))).map encStr)/\(v=.slice none 0 0↔ss=[])/\Below (w.alloc (.cells #[.map (some b)] 154)).heap.size (w.alloc (.cells #[.map (some b)] 154)) w':=by
 have d:=hown.lt;have c:SeqGives Fence.wide 2 Tryz.prog 142 #[.pointer (some ⟨w.heap.size,0,none⟩)] encStr (fun ss=>ss.Perm (strKeys D0)) (Maps.size D0) (w.alloc (.cells #[.map (some b)] 154)) :=
  AnyZ.keys_gives (ρ:=keysL_ren) { keysL with } Fence.wide _ trivial rfl qO w.heap.size b nn D0 _ (by simp) (by simp) (by obtain ⟨f,a,g,h,i,j⟩:=hown;exact ⟨f,a,(YeL _ _ b d).trans g,h,i,j⟩)
 exact AnyZ.sorted_in sortedL Fence.wide 5 trivial trivial trivial trivial rfl qO (Zvt _) (enters_of Tryz.func132 (by kernel_rfl) rfl) 142 #[.pointer (some ⟨w.heap.size,0,none⟩)] trivial (enters_of Tryz.func142 (by kernel_rfl) rfl) _ _ hmax hbytes _ c
theorem Zru (p:Option Addr) (cap:Nat) (w:World):Calls Tryz.prog 132 #[.slice p 0 cap] w fun e w'=>e=.returned (.tuple #[])/\w'=w:=AnyM.slices_Sort_string_none sortL p cap w
end
section
open Go.RowKit Go.Maps Go.Sort
theorem keyS:Keyed Tryz.prog 9:=string_keyed Tryz.underlying9
def MapS (w:World) (b n:Nat) (seen:List ByteArray):Prop :=
 ∃ D:DataW Unit,w.ownsMap Tryz.prog 9 (plainElem Tryz.prog 3) b n D/\∀ x:ByteArray,Maps.has D (.string x.data.toList)=true↔x∈seen
section
variable {w w':World} {b n:Nat} {seen:List ByteArray}
theorem MapS.made (w:World):MapS (w.alloc (.map #[] 0)) w.heap.size 0 []:=⟨_,YfU w _ _ _,fun _=>by simp [Maps.has]⟩
abbrev Yff:=@MapS.made
theorem MapS.upd {S:Nat->Prop} (h:MapS w b n seen) (hu:Upd S w w') (hs:¬ S b):MapS w' b n seen:=by obtain ⟨D,c,e⟩:=h;have d:=c.lt;obtain ⟨f,a,g,i⟩:=c;exact ⟨D,⟨f,a,(hu.block b d hs).trans g,i⟩,e⟩
theorem MapS.same (h:MapS w b n seen) (hu:Same w w'):MapS w' b n seen:=h.upd hu fun f=>f
theorem Ztg {x y:ByteArray} (h:x.data.toList=y.data.toList):x=y:=by cases x;cases y;simp only at h;congr 1;exact YfK.1 h
theorem MapS.put (h:MapS w b n seen) (hn:n<maxLen) {x:ByteArray} (hx:x.size<=maxLen) :
 ∃ c w',(Instr.lookup 154 (.map (some b)) (.string x) false).run Tryz.prog w=.ok (.int .i64 c) w/\(Instr.mapUpdate 154 (.map (some b)) (.string x) (.int .i64 (IntKind.i64.wrap (c+1)))).run Tryz.prog w=.ok () w'/\MapS w' b (n+1) (seen++[x])/\Upd (fun k=>k=b) w w':=by
 obtain ⟨D,g,j⟩:=h;obtain ⟨c,a,l,p⟩:=g.lookup_int keyS Tryz.underlying154 Tryz.underlying3 (Zec w) (Yfn Tryz.underlying9 hx);have e:(Lit.int .i64 (IntKind.i64.wrap (c+1))).wf=true:=wfI (by rw [YbQ];omega);obtain ⟨w',d,m,o⟩:=g.update keyS Tryz.underlying154 hn (Yfn Tryz.underlying9 hx) (plainElem_int Tryz.underlying3 e);refine ⟨c,w',a,d,⟨_,m,fun y=>?_⟩,(Yaa _ w).grown o fun k i=>.inl (by injection i with i;exact i.symm)⟩;by_cases f:y=x
 · subst f;rw [has_put_same g.isMap (by simp [WideAt.IsKeyLit])];simp
 rw [has_put_other (by intro h;injection h with h;exact f (Ztg h)),j];simp [f]
end
structure ZcT (seen:List ByteArray) (l:List (List UInt8)):Prop where
 sorted:l.Pairwise (fun x y=>x<=y)
 nodup:l.Nodup
 mem:∀ x:List UInt8,x∈l↔(⟨x.toArray⟩:ByteArray)∈seen
theorem ZcT.unique {seen:List ByteArray} {l m:List (List UInt8)} (h:ZcT seen l) (h':ZcT seen m):l=m :=
 List.Perm.eq_of_pairwise (le:=fun a b=>a<=b) (fun _ _ _ _ c d=>List.le_antisymm c d) h.sorted h'.sorted ((List.perm_ext_iff_of_nodup h.nodup h'.nodup).2 fun x=>(h.mem x).trans (h'.mem x).symm)
theorem Zth {w:World} {b n:Nat} {R:Value->Option (DataW Unit×List MemPlace)} {D:DataW Unit} {seen:List ByteArray} (h:w.ownsMap Tryz.prog 9 R b n D) (hm:∀ x:ByteArray,Maps.has D (.string x.data.toList)=true↔x∈seen) {ss:List (List UInt8)} (hp:ss.Perm (strKeys D)) :
 ZcT seen (ss.mergeSort fun x y=>decide (x<=y)):=by
 obtain ⟨g,rfl,o,z⟩:=h.entries keyS;obtain ⟨A,r,s⟩:=h.keysOf;injection r with r
 subst r;have f:∀ p∈g,∃ x,p.1=.string x:=fun p d=>by obtain ⟨B,C⟩:=s p d;obtain ⟨x,_,E,_⟩:=Maps.keyOf_str Tryz.underlying9 C;exact ⟨x,E⟩
 have l:(strKeys (.map g:DataW Unit)).Nodup:=by show (g.map fun p=>strOf p.1).Nodup;refine Ydo.2 (o.imp_of_mem fun {p q} d t k e=>k ?_);obtain ⟨a,u⟩:=f p d;obtain ⟨b,F⟩:=f q t;rw [u,F] at e ⊢;exact YaC _ e
 have i:∀ x,x∈strKeys (.map g:DataW Unit)↔Maps.has (.map g:DataW Unit) (.string x)=true:=fun x=>by
  show x∈(g.map fun p=>strOf p.1)↔(g.any fun p=>p.1.sameKey (.string x))=true;rw [Yck,Yba];constructor
  · rintro ⟨p,d,rfl⟩;obtain ⟨a,u⟩:=f p d;refine ⟨p,d,?_⟩;rw [u];exact Yfl (by simp [WideAt.IsKeyLit])
  rintro ⟨p,d,v⟩;exact ⟨p,d,by rw [WideAt.sameKey_eq v];rfl⟩
 have j:=(List.mergeSort_perm ss fun x y=>decide (x<=y)).trans hp;refine ⟨?_,j.nodup_iff.2 l,fun x=>?_⟩
 · have m:=List.pairwise_mergeSort (le:=fun x y:List UInt8=>decide (x<=y)) (fun a b c m v=>by simp only [Ybc] at *;exact List.le_trans m v) (fun a b=>by simp only [YcH,Ybc];exact List.le_total a b) ss;exact m.imp fun h=>by simpa using h
 rw [j.mem_iff,i];exact hm ⟨x.toArray⟩
end
section
open Go.RowKit
def Zam (g:ZaN) (k:Int):List ByteArray :=
 if k=1 then g.nodes.flatMap Zaw.labels
 else if k=2 then g.rels.map GRel.type
 else if k=3 then (g.nodes.flatMap fun n=>n.props.map GPr.key)++g.rels.flatMap fun r=>r.props.map GPr.key
 else []
structure ZhL (g:GR):Prop where
 type:∀ x∈g.rs,x.type.size<=9223372036854775807
 label:∀ x∈g.ns,∀ s∈x.labels,s.size<=9223372036854775807
 key1:∀ x∈g.ns,∀ p∈x.props,p.key.size<=9223372036854775807
 key2:∀ x∈g.rs,∀ p∈x.props,p.key.size<=9223372036854775807
abbrev strV (l:List UInt8):Value:=.string ⟨l.toArray⟩
theorem Zgw (mb:Option Nat) (w:World):Calls Tryz.prog 86 #[.map mb] w fun e w'=>e=.returned (.func (.func 142) #[] #[.pointer (some ⟨w.heap.size,0,none⟩)])/\w'=w.alloc (.cells #[.map mb] 154) :=
 YaO.1 (keys_in mb w)
theorem Zeg {b nn:Nat} {seen:List ByteArray} (w:World) (h:MapS w b nn seen) (hn:nn<=8796093022208) :
 Calls Tryz.prog 85 #[.func (.func 142) #[] #[.pointer (some ⟨w.heap.size,0,none⟩)]] (w.alloc (.cells #[.map (some b)] 154)) fun e w'=>∃ (v:Value) (l:List (List UInt8)),e=.returned v/\ZcT seen l/\w'.ownsRow w.heap.size 9 1 v l.length (l.map strV)/\Same w w':=by
 obtain ⟨D,c,j⟩:=h;have f:=c.size_le;refine (YaO.1 (ZnD b nn D _ w c (by unfold maxLen;omega) qO)).mono ?_;rintro e w' ⟨v,d,rfl,k,a,-,m⟩;have hn:=Zth c j k;have g:(d.mergeSort fun x y=>decide (x<=y)).length=d.length:=List.length_mergeSort d;have i:Same w w':=((Yaa (fun _=>False) w).alloc _).same (Yfe m);exact ⟨v,_,rfl,hn,by rw [g];exact Zac a (by simp),i⟩
theorem ZnE {F:Nat->Prop} (w:World) (g:GR) (h:RdG w F g) (ht:ZhL g) (hn:g.nR<=8796093022208) :
 Calls Tryz.prog 39 #[g.agg,.int .i64 2] w fun e w'=>∃ (v:Value) (l:List (List UInt8)),e=.returned v/\ZcT (Zam g.dat 2) l/\w'.ownsRow w.heap.size 9 1 v l.length (l.map strV)/\Same w w':=by
 obtain ⟨ns,r,s,t,O,u,nR,y⟩:=g;simp only at hn;have z:=h.rels.row.max;have Z:=h.rels.row.le;unfold maxLen at z;have HL:=qH h.rels.len;have HT:=qH ht.type;simp only at z Z HL HT;have A:=(Yaa (fun _=>False) w).alloc (.cells #[.slice r s t,.slice u nR y] 26);have B:=A.alloc (.map #[] 0);have n:=B.alloc (.cells #[.map (some (w.heap.size+1))] 154);have p:=(Yff (w.alloc (.cells #[.slice r s t,.slice u nR y] 26))).same ((Yaa (fun _=>False) _).alloc (.cells #[.map (some (w.heap.size+1))] 154));have C:=((Yad w 26 #[.slice r s t,.slice u nR y]).alloc (.map #[] 0)).alloc (.cells #[.map (some (w.heap.size+1))] 154);have q:=Yad ((w.alloc (.cells #[.slice r s t,.slice u nR y] 26)).alloc (.map #[] 0)) 154 #[.map (some (w.heap.size+1))];have D:=qH ((h.mono (F':=fun b=>b<w.heap.size) fun b X _=>X).rels.same n);simp only [Yav] at p q;have a0:=@YcC Tryz.prog;have a1:=qH n;have a2:=qH p;have a3:=qH C;have a4:=qH q;clear h ht A B n p C q;go_enter Tryz.func39,Tryz.ntmps39;go_upto_region 2 with fail;clear a0;generalize ((w.alloc (.cells #[.slice r s t,.slice u nR y] 26)).alloc (.map #[] 0)).alloc (.cells #[.map (some (w.heap.size+1))] 154)=w1 at *;simp only at D;have p1:=a3.c1;go_wp2_with fail;clear p1;go_loopg [42] nR (fun gh P wr=>∃ i:Nat,nR-i=gh/\i<=nR/\P=.int .i64 i/\Hid (MapS wr (w.heap.size+1) i ((O.map RL.type).take i))/\Hid (Upd (fun k=>k=w.heap.size+1) w1 wr))
 case atStart=>exact ⟨0,rfl,Yah _,rfl,a2,qH (Yaa _ _)⟩
 obtain ⟨i,rfl,hi,rfl,KM,R⟩:=hrel;have E:=qH (D.upd R fun b X hh=>qO);have a:=qH (a4.upd R qO);by_cases G:i<nR
 · obtain ⟨b,o,x,rfl,X,_,hx,S,r0,r1,r2,r3,r4⟩:=E.at_ G;have a5:=qH (HT.out x S);have a6:=qH (show (O.map RL.type).take (i+1)=(O.map RL.type).take i++[x.type] from by rw [Ybo,Yau,hx];rfl)
   clear hx S E;obtain ⟨P,Y,sx,dx,px,AP,nP,cP⟩:=x;simp only at r0 r1 r2 r3 r4;have f:=(Yaa (fun _=>False) wr).alloc (.cells #[.int .i64 P,.string Y,.int .i64 sx,.int .i64 dx,.slice AP nP cP] 60);have a7:=qH (Yad wr 60 #[.int .i64 P,.string Y,.int .i64 sx,.int .i64 dx,.slice AP nP cP]);have I:=qH (KM.same f);have L:=qH (R.same f);have M:=qH (a.same f);clear f KM R a;go_upto_region 17 with fail;clear r0 r1 r2 r3 r4;generalize wr.alloc (.cells #[.int .i64 P,.string Y,.int .i64 sx,.int .i64 dx,.slice AP nP cP] 60)=w6 at *;generalize wr.heap.size=g6 at *;have p1:=a7.c1;have p5:=M.c0;obtain ⟨c,w7,lk,j,T,U⟩:=I.put (x:=Y) (by unfold maxLen;omega) (by have:=a5.out;unfold maxLen;omega);obtain ⟨c1,ad⟩:∃ c1,IntKind.i64.wrap (c+1)=c1:=⟨_,rfl⟩
   rw [ad] at j;have a8:=qH T;have a9:=qH (L.trans U fun _ _ h=>h);clear T U I L;go_wp2_with (at_mapUpdate;go_must (refine Zbr rfl _ _ _ _ rfl rfl rfl rfl j ?_));go_roundg (nR-(i+1))
   case measure=>omega
   case rel=>exact ⟨i+1,rfl,qO,by go_num,qH (by rw [a6.out];exact a8),a9⟩
 have aa:i=nR:=qO;subst aa;have d:Zam (GR.dat ⟨ns,r,s,t,O,u,i,y⟩) 2=(O.map RL.type).take i:=by rw [YaB (by rw [Yag,HL.out];exact Yae _)];unfold Zam;rw [Yab qD,Yac rfl];simp only [GR.dat,Ybf];exact Ycq fun _ _=>rfl
 have ab:=qH d;have p5:=a.c0;have N:=qH (show Same w wr from a1.trans R.out fun b X hh=>qO);have ac:=N.size;clear d G;go_wp2_with fail;refine (Zgw _ _).mono ?_;rintro e w8 ⟨rfl,rfl⟩;go_wp2_with fail;refine (Zeg _ KM qO).mono ?_;rintro e w9 ⟨v,l,rfl,V,m,W⟩;have H:=qH (And.intro V (And.intro m W));clear V m W;go_wp2;go_ret;exact ⟨v,l,rfl,by rw [ab.out];exact H.1,Zac H.2.1 ac,N.same H.2.2⟩
end
section
open Go.ChangeShapes Go.WideShapes Go.ChangeAt Go.RowKit
theorem Zvu:ownKnob Tryz.prog.godebug=none:=by kernel_rfl
theorem Zuz:laidOutB Tryz.prog=true:=by kernel_rfl
section
variable {H:Type} {enc:TypeId×Value->H} {P:Program} {W W':World}
theorem ZlY (hl:laidOutB P=true) (hb:Below W.heap.size W W'):∀ {ts:List TypeId} {vs:List Value} {ds:List (DataW H)} {p:List MemPlace},
 (∀ t∈ts,P.readableRec t=true/\t<P.types.size)->DataW.TrodAll enc P W 0 (fun _=>true) true ts vs ds p->(∀ x∈p,x.block<W.heap.size) ->
 DataW.TrodAll enc P W' 0 (fun b=>decide (b<W.heap.size)) true ts vs ds p
 | [],[],[],_,_,h,_=>h
 | t::ts,_::_,_::_,_,hr,⟨p,q,h1,h2,e⟩,hlt =>
   ⟨p,q,Below.trod hl (hr t (Yey ..)).1 (hr t (Yey ..)).2 h1 hb (fun x a=>hlt x (by rw [e];exact Ygl _ a)),
    ZlY hl hb (fun d c=>hr d (YcZ _ c)) h2 (fun x a=>hlt x (by rw [e];exact Ygm _ a)),e⟩
theorem ZpP {f:Func} {vars:List String} {ts:List TypeId} {args:Array Value} {ds gs:List (DataW H)} {before:List MemPlace} (hp:f.params.toList=ts)
 (hW:DataW.Whole enc P f.params.toList vars false W args.toList ds gs before):∃ p,DataW.TrodAll enc P W 0 (fun _=>true) true ts args.toList ds p:=by
 obtain ⟨p,_,h,_⟩:=hW;rw [hp] at h;exact ⟨p,h⟩
theorem Zti {f:Func} {s:ChangeSpec} {tb:TypeId} {ts:List TypeId} {args:Array Value} {ds gs:List (DataW H)} {before:List MemPlace} (hl:laidOutB P=true)
 (hp:f.params.toList=ts) (hr:f.resultTypes=#[tb]) (ht:P.underlying tb=some .bool) (hread:ts.all (fun t=>P.readableRec t && decide (t<P.types.size))=true) (hv:s.vars=[])
 (hfn:gs=[]->(s.fn H (ds++gs)).results=[.lit (.bool true)]/\(s.fn H (ds++gs)).args=ds/\(s.fn H (ds++gs)).vars=[])
 (hW:DataW.Whole enc P f.params.toList s.vars false W args.toList ds gs before) (hb:Below W.heap.size W W') :
 s.post enc P f false true false false W args (.bool true) W':=by
 have b:∀ x∈before,x.block<W.heap.size:=fun x e=>by simpa using hW.lt x e
 obtain ⟨p,q,c,d,a,k⟩:=id hW;rw [hv] at d;obtain ⟨rfl,rfl⟩:=trodVars_none d;rw [Ybl] at a;subst a;obtain ⟨g,i,j⟩:=hfn rfl;refine ⟨ds,[],before,[],before,[],hW,?_,?_,?_,hb.frame _,fun h=>by cases h⟩
 · rw [g,hr];exact trodAll_cons_mk (shut_bool ht _) trodAll_mk0
 · rw [i];rw [hp] at c ⊢;exact ZlY hl hb (fun t ht=>by have:=YcK.1 hread t ht;simpa using this) c b
 rw [j,hv];rfl
end
section
variable {H:Type} {enc:TypeId×Value->H} {W:World}
end
section
variable {H:Type} {enc:TypeId×Value->H} {P:Program} {W:World}
end
structure PR.Sized (x:PR):Prop where
 s1:x.n1*8<=140737488351232
 s2:x.n2*16<=140737488351232
 s3:x.g.text.size<=140737488351232
 s4:∀ s∈x.g.texts,s.size<=140737488351232
 s5:x.key.size<=140737488351232
structure ZfV (n:Nat) (ps:List PR):Prop where
 n:n*96<=140737488351232
 each:∀ x∈ps,x.Sized
structure ND.Sized (x:ND):Prop where
 nL:x.nL*16<=140737488351232
 lab:∀ s∈x.labels,s.size<=140737488351232
 pro:ZfV x.nP x.props
structure RL.Sized (x:RL):Prop where
 type:x.type.size<=140737488351232
 pro:ZfV x.nP x.props
structure ZeS (g:GR):Prop where
 nN:g.nN*56<=140737488351232
 nR:g.nR*64<=140737488351232
 ns:∀ x∈g.ns,x.Sized
 rs:∀ x∈g.rs,x.Sized
theorem ZfV.fit {n:Nat} {ps:List PR} (h:ZfV n ps):ZpD ps:=fun x a=>⟨by have:=(h.each x a).s3;omega,fun s b=>by have:=(h.each x a).s4 s b;omega⟩
theorem ZeS.fit {g:GR} (h:ZeS g):GFit g:=⟨fun x a=>(h.ns x a).pro.fit,fun x a=>(h.rs x a).pro.fit,qt h.nN,qt h.nR⟩
theorem ZeS.texts {g:GR} (h:ZeS g):ZhL g :=
 ⟨fun x a=>by have:=(h.rs x a).type;omega,fun x a s c=>by have:=(h.ns x a).lab s c;omega,fun x a p b=>by have:=((h.ns x a).pro.each p b).s5;omega,fun x a p b=>by have:=((h.rs x a).pro.each p b).s5;omega⟩
section
variable {H:Type} {enc:TypeId×Value->H} {W:World}
instance:Inhabited PR:=⟨⟨⟨#[]⟩,⟨0,0,⟨#[]⟩,[],[]⟩,none,0,0,none,0,0⟩⟩
instance:Inhabited ND:=⟨⟨0,[],none,0,0,[],none,0,0⟩⟩
instance:Inhabited RL:=⟨⟨0,⟨#[]⟩,0,0,[],none,0,0⟩⟩
end
end
section
open Go.RowKit
section
variable {P:Program} {ops:Array Oper} {Q:Exit->Act->World->Prop} {md:Region.Mode} {S:World->Prop} {n:Nat}
def ZlZ (P:Program) (md:Region.Mode) (ops:Array Oper) (Q:Exit->Act->World->Prop) (S:World->Prop) (n:Nat):Nat->Array Bool->Act->World->Prop
 | 0,listed,a,w=>Region.ready md ops listed=[]/\Q .normal a w
 | f+1,listed,a,w =>
   (Region.ready md ops listed=[]->Q .normal a w) /\
   ∀ i∈Region.ready md ops listed,wpOp P ops Q i (fun a' w'=>(i=n\/S w')/\ZlZ P md ops Q S n f (listed.setIfInBounds i true) a' w') a w
theorem Zhn:∀ (f:Nat) (listed:Array Bool) (a:Act) (w:World),ZlZ P md ops Q S n f listed a w->wpAny P md ops Q f listed a w
 | 0,_,_,_,h=>h
 | f+1,_,_,_,h=>⟨h.1,fun i b=>wpOp_mono (fun c d e=>Zhn f _ c d e.2) (h.2 i b)⟩
theorem Zma {i:Nat} {oi:Oper} {v:Value} (hs:Region.sinkB md ops n=true) (hc:Region.chainB md ops n=true) (hn:n+1=ops.size) (hin:i<n) (hi:ops[i]?=some oi) (hsel:∀ (j:Nat) (o:Oper) cs b,ops[j]?=some o->o.op≠.select cs b)
 (hQ:∀ c a w,Q (.panic c) (a.put oi.dst v) w->Q (.panic c) a w) :
 ∀ (f:Nat) (listed:Array Bool) (a:Act) (w:World),HeadInv md ops n listed ->
  (∀ j oj,ops[j]?=some oj->j≠i->listed.getD j true=false->(∀ e∈oj.after,Region.binds md e=true->e.on≠i)->oi.apart ops oj=true) ->
  i∈Region.ready md ops listed->YieldsIf P ops S oi v a->S w ->
  ZlZ P md ops Q S n f (listed.setIfInBounds i true) (a.put oi.dst v) w->ZlZ P md ops Q S n (f+1) listed a w:=by
 intro f
 induction f with
 | zero =>
   intro listed a w _ _ p D x H;refine ⟨fun h=>(by rw [h] at p;cases p),fun j r=>?_⟩;by_cases d:j=i
   · subst d;exact D.wpOp hi x ⟨.inr x,H⟩
   have:=ready_mono r d;rw [H.1] at this;cases this
 | succ f ih =>
   intro listed a w y g p D x H;refine ⟨fun h=>(by rw [h] at p;cases p),fun j r=>?_⟩;by_cases d:j=i
   · subst d;exact D.wpOp hi x ⟨.inr x,H⟩
   have C:=H.2 j (ready_mono r d);obtain ⟨q,oj,m,z⟩:=mem_ready.1 r;have E:j<n:=by have N:j<ops.size:=(YaX.1 m).1;have O:j≠n:=fun e=>tail_waits hs hc qO y _ i rfl hin (mem_ready.1 p).1 j qO r;omega
   have s:∀ e∈oj.after,Region.binds md e=true->e.on≠i:=fun e U V F=>by have C:=z e U V;have R:=(mem_ready.1 p).1;rw [F,getD_both R] at C;cases C
   have T:=wpOp_putIf m (g j oj m d q s) (fun cs b=>hsel i oi cs b hi) (fun cs b=>hsel j oj cs b m) hQ D C;have l:∀ k A,ops[k]?=some A->k≠i->(listed.setIfInBounds j true).getD k true=false ->
    (∀ e∈A.after,Region.binds md e=true->e.on≠i)->oi.apart ops A=true:=fun k A W G B I=>by
    refine g k A W G ?_ I;by_cases t:j=k
    · subst t;exact q
    rw [getD_set_ne true t] at B;exact B
   refine wpOp_mono (fun X M L=>?_) T;have u:S M:=L.2.1.resolve_left qO;refine ⟨.inr u,ih (listed.setIfInBounds j true) X M (y.set r E) l (ready_mono p (YbY d)) L.1 u ?_⟩;rw [Array.setIfInBounds_comm _ _ d];exact L.2.2
def ESt (P:Program) (md:Region.Mode) (ops:Array Oper) (Q:Exit->Act->World->Prop) (S:World->Prop) (n f:Nat) (listed:Array Bool) (a:Act) (w:World):Prop :=
 HeadInv md ops n listed->ZlZ P md ops Q S n f listed a w
def Region.okE (md:Region.Mode) (ops:Array Oper) (n:Nat):Bool:=Region.noSelect ops && Region.sinkB md ops n && Region.chainB md ops n && decide (n+1=ops.size)
theorem ESt.take {i:Nat} {oi:Oper} {v:Value} {f:Nat} {listed:Array Bool} {a:Act} {w:World} (hok:Region.okE md ops n=true) (hi:ops[i]?=some oi)
 (hf:(decide (i<n) && Region.free md ops listed i && (Region.ready md ops listed).contains i)=true) (hQ:∀ c a w,Q (.panic c) (a.put oi.dst v) w->Q (.panic c) a w) (hy:YieldsIf P ops S oi v a) (hS:S w)
 (h:ESt P md ops Q S n f (listed.setIfInBounds i true) (a.put oi.dst v) w):ESt P md ops Q S n (f+1) listed a w:=fun b=>by
 simp only [Region.okE,Yay,Ybc] at hok hf;obtain ⟨⟨⟨g,j⟩,k⟩,l⟩:=hok;obtain ⟨⟨e,m⟩,o⟩:=hf;have d:i∈Region.ready md ops listed:=by simpa using o
 exact Zma j k l e hi (Region.noSelect_spec g) hQ f listed a w b (Region.free_spec hi m) d hy hS (h (b.set d e))
theorem ESt.tK (i:Nat) {oi:Oper} {v:Value} {f:Nat} {listed:Array Bool} {a:Act} {w:World} (hi:ops[i]?=some oi) (hr:∀ w,S w->(execOp a.eval oi).run P w=.ok (.value v) w)
 (h:ESt P md ops Q S n f (listed.setIfInBounds i true) (a.put oi.dst v) w) (hok:Region.okE md ops n=true:=by decide +kernel) (hf:(decide (i<n) && Region.free md ops listed i && (Region.ready md ops listed).contains i)=true:=by decide +kernel)
 (hQ:∀ c a w,Q (.panic c) (a.put oi.dst v) w->Q (.panic c) a w:=by exact fun _ _ _ h=>h) (hw:Region.wanted oi (yielded ops a.tmps)=true:=by rfl) (hS:S w:=by assumption):ESt P md ops Q S n (f+1) listed a w :=
 ESt.take hok hi hf hQ (Or.inl ⟨hw,hr⟩) hS h
abbrev Yan:=@ESt.tK
def AllE (P:Program) (md:Region.Mode) (ops:Array Oper) (Q:Exit->Act->World->Prop) (S:World->Prop) (n f:Nat) (listed:Array Bool) (a:Act) (w:World) (rs:List Nat):Prop :=
 ∀ i∈rs,wpOp P ops Q i (fun a' w'=>S w'/\ESt P md ops Q S n f (listed.setIfInBounds i true) a' w') a w
theorem AllE.nil {f:Nat} {listed:Array Bool} {a:Act} {w:World}:AllE P md ops Q S n f listed a w []:=fun _ h=>by cases h
abbrev YbA:=@AllE.nil
theorem AllE.cons {f:Nat} {listed:Array Bool} {a:Act} {w:World} {i:Nat} {o:Oper} {rs:List Nat} (ho:ops[i]?=some o)
 (h:∀ K':Act->World->Prop,Shut (∀ a w,S w->(S w->ESt P md ops Q S n f (listed.setIfInBounds i true) a w)->K' a w)->if Region.wanted o (yielded ops a.tmps)=true then Oper.wp P o a w K' Q else K' (a.put o.dst undef) w)
 (hs:AllE P md ops Q S n f listed a w rs):AllE P md ops Q S n f listed a w (i::rs):=fun j b=>by
 rcases Yat.1 b with rfl | b
 · exact wpOp_step ho (fun K' d=>h K' (fun a w c e=>d a w ⟨c,e c⟩))
 exact hs j b
abbrev Ybx:=@AllE.cons
theorem ESt.branch {rs:List Nat} {f:Nat} {listed:Array Bool} {a:Act} {w:World} (hr:Region.ready md ops listed=rs) (hne:(!rs.isEmpty && rs.all fun i=>decide (i<n))=true) (h:AllE P md ops Q S n f listed a w rs) :
 ESt P md ops Q S n (f+1) listed a w:=fun c=>by
 simp only [Yay,Bool.not_eq_true',YcK,Ybc,List.isEmpty_eq_false_iff] at hne;refine ⟨fun g=>absurd (hr ▸ g) hne.1,fun i d=>?_⟩;have b:i∈rs:=hr ▸ d;exact wpOp_mono (fun j k e=>⟨.inr e.1,e.2 (c.set d (hne.2 i b))⟩) (h i b)
abbrev Yci:=@ESt.branch
theorem ESt.last {listed:Array Bool} {a:Act} {w:World} {o:Oper} (hr:Region.ready md ops listed=[n]) (hr2:Region.ready md ops (listed.setIfInBounds n true)=[]) (ho:ops[n]?=some o)
 (h:∀ K':Act->World->Prop,Shut (∀ a w,Q .normal a w->K' a w)->if Region.wanted o (yielded ops a.tmps)=true then Oper.wp P o a w K' Q else K' (a.put o.dst undef) w) (f:Nat):ESt P md ops Q S n (f+1) listed a w:=fun _=>by
 refine ⟨fun b=>(by rw [hr] at b;cases b),fun i c=>?_⟩;rw [hr] at c;obtain rfl:i=n:=by simpa using c
 refine wpOp_step ho (fun K' e=>h K' (fun a w d=>e a w ⟨.inl rfl,?_⟩));cases f with
 | zero=>exact ⟨hr2,d⟩
 | succ f=>exact ⟨fun _=>d,by rw [hr2];simp⟩
abbrev YcO:=@ESt.last
theorem Zaj {id:Nat} {a:Act} {w:World} (n:Nat) (S:World->Prop) (hm:P.follows .mixedOrders=true) (hS:S w.drew) (h:S w.drew->ESt P .any ops Q S n ops.size (Array.replicate ops.size false) a w.drew):(Code.region id ops true).wp P Q a w:=by refine wp_region_any hm (Zhn _ _ _ _ (h hS ?_));exact ⟨by simp,fun j d _ b=>(by rw [getD_replicate_false] at b;cases b),fun t _ c=>getD_in (by simpa using c) (getD_replicate_false _ _)⟩
end
abbrev PrAt (w:World) (b p:Nat) (k a0 a1 a2 a3 a4:Value):Prop :=
 w.cell? ⟨b,p,none⟩=some k/\w.cell? ⟨b,p+1,none⟩=some a0/\w.cell? ⟨b,p+1+1,none⟩=some a1/\w.cell? ⟨b,p+1+2,none⟩=some a2/\w.cell? ⟨b,p+1+3,none⟩=some a3/\w.cell? ⟨b,p+1+4,none⟩=some a4
theorem PrAt.upd {w w':World} {S:Nat->Prop} {b p:Nat} {k a0 a1 a2 a3 a4:Value} (h:PrAt w b p k a0 a1 a2 a3 a4) (hb:b<w.heap.size) (hs:Upd S w w') (hn:¬ S b):PrAt w' b p k a0 a1 a2 a3 a4:=by
 obtain ⟨a,c,d,e,f,g⟩:=h;exact ⟨(hs.cell (p:=⟨b,p,none⟩) hb hn).trans a,(hs.cell (p:=⟨b,p+1,none⟩) hb hn).trans c,(hs.cell (p:=⟨b,p+1+1,none⟩) hb hn).trans d,
  (hs.cell (p:=⟨b,p+1+2,none⟩) hb hn).trans e,(hs.cell (p:=⟨b,p+1+3,none⟩) hb hn).trans f,(hs.cell (p:=⟨b,p+1+4,none⟩) hb hn).trans g⟩
theorem PrAt.same {w w':World} {b p:Nat} {k a0 a1 a2 a3 a4:Value} (h:PrAt w b p k a0 a1 a2 a3 a4) (hb:b<w.heap.size) (hs:Same w w'):PrAt w' b p k a0 a1 a2 a3 a4:=h.upd hb hs fun f=>f
theorem Zmb {ps:List PR} {k:Nat} {x:PR} (h:ps[k]?=some x):(ps.take (k+1)).map PR.dat=(ps.take k).map PR.dat++[x.dat]:=by rw [Ybo,h];simp
def Zrv (n:Nat) (ps:List PR):Prop:=n*96<=140737488351232/\∀ x∈ps,x.n1*8<=140737488351232/\x.n2*16<=140737488351232
theorem ZfV.small {n:Nat} {ps:List PR} (h:ZfV n ps):Zrv n ps:=⟨h.n,fun x a=>⟨(h.each x a).s1,(h.each x a).s2⟩⟩
def ZnF:BS:=⟨[],none,0,0⟩
def ZiX (l:List BS) (i:Nat) (x:BS):List BS:=(l++List.replicate (i+1-l.length) ZnF).set i x
theorem Zke {α:Type} (p:α->Bool):∀ (m:List α) (i:Nat) (x y:α),m[i]?=some y->((m.set i x).filter p).length+(if p y=true then 1 else 0)=(m.filter p).length+(if p x=true then 1 else 0)
 | [],_,_,_,h=>by cases h
 | a::m,0,x,y,h=>by simp only [YaW,Yce] at h;subst h;rw [Yam,YdW,YdW];split <;> split <;> simp_all
 | a::m,i+1,x,y,h=>by
   rw [Ybd] at h;have ih:=Zke p m i x y h;rw [Yap,YdW,YdW];split
   · simp only [Yao];omega
   exact ih
theorem Ztj (l:List BS) (i:Nat) (x:BS) (hx:x.A≠none):(ZiX l i x).map BS.rc=(l.map BS.rc++List.replicate (i+1-(l.map BS.rc).length) none).set i (some x.data):=by
 unfold ZiX;rw [YeX,YaG,YfA,Yag];congr 1;unfold BS.rc;cases h:x.A with
 | none=>exact absurd h hx
 | some a=>rfl
theorem Zau.nilB (w:World) (B:Nat):Zau w B ZnF:=YdY w _ 1
def Foot (f:Nat) (v:Value) (b:Nat):Prop:=b=f\/v.ownBlock=some b
def NewB (w:World) (v v':Value):Prop:=v'.ownBlock=v.ownBlock\/∃ g,v'.ownBlock=some g/\w.heap.size<=g
theorem Zau.foot {w w':World} {B f n:Nat} {v:Value} {xs:List Value} {cs:Array Value} {x:BS} (h:Zau w B x) (hf:Blk w f 171 cs) (hr:w.ownsRow B 39 1 v n xs) (hu:Upd (Foot f v) w w'):Zau w' B x :=
 h.upd hu fun b a c=>by
  rcases c with e | e
  · subst e;exact absurd (a.ne ⟨_,hf⟩) qD
  exact absurd (a.ne (Zaf hr e)) qD
theorem PF.set_end {w:World} {B f k vs z low N c' b id lv:Nat} {m:List BS} {x:BS} (hb:Blk w f 171 #[.int .i64 (k:Int),.int .i64 (vs:Int),.int .i64 (z:Int),.slice (some ⟨b,0,none⟩) N c',.int .i64 (lv:Int),.int .i64 (low:Int)])
 (ho:ZcY w B (.slice (some ⟨b,0,none⟩) N c') m) (hN:m.length=N) (hid:id<N) (hx:Zau w B x) (hlv:((m.set id x).filter fun x=>x.A.isSome).length=lv) (base:B<=f) (size:2<=z/\z<=255) (recs:∀ y∈m.set id x,y.A≠none->y.data.length+1=z)
 (len:N<=65536) (hlow:∀ i,i<low->∃ y,(m.set id x)[i]?=some y/\y.A≠none):PF (w.setCell ⟨b,id,none⟩ x.cell) B f k vs z (.slice (some ⟨b,0,none⟩) N c') (m.set id x) low:=by
 have a:=ho.row;rw [hN] at a;obtain ⟨g,u,e,n,o,p,q,r,d⟩:=ZaW a hid;cases e;have c:Upd (Foot f (.slice (some ⟨b,0,none⟩) N c')) w (w.setCell ⟨b,id,none⟩ x.cell):=(Yaa (Foot f (.slice (some ⟨b,0,none⟩) N c')) w).put (.inr rfl) _;have h:f≠b:=by rintro rfl;exact hb.ne_own a qD rfl
 have j:(m.set id x).length=N:=by rw [Ycg,hN]
 refine ⟨base,?_,⟨?_,fun y l=>?_⟩,size,recs,qO,hlow⟩
 · rw [hlv];exact hb.far h _
 · rw [j,YeX];exact d x.cell
 rcases YeY l with l | rfl
 · exact (ho.each y l).foot hb a c
 exact hx.foot hb a c
theorem ZiY {B f k vs z low:Nat} {v:Value} {l:List BS} (w:World) (h:PF w B f k vs z v l low) (hB:B<=w.heap.size) (x:BS) (hx:Zau w B x) (hA:x.A≠none) (hxl:x.data.length+1=z) (id:Nat) (hid:id<65536) :
 Calls Tryz.prog 105 #[.pointer (some ⟨f,0,none⟩),.int .i64 (id:Int),.slice x.A x.n x.c] w fun e w'=>e=.returned (.tuple #[]) /\
  ∃ v',PF w' B f k vs z v' (ZiX l id x) low/\Upd (Foot f v) w w'/\NewB w v v':=by
 obtain ⟨A,c,rfl⟩:=Zad h.own.row;obtain ⟨m,hm⟩:∃ m,l++List.replicate (id+1-l.length) ZnF=m:=⟨_,rfl⟩
 obtain ⟨N,hN⟩:∃ N,m.length=N:=⟨_,rfl⟩
 obtain ⟨n,t⟩:∃ n,l.length=n:=⟨_,rfl⟩
 obtain ⟨s,E⟩:∃ s,(l.filter fun x=>x.A.isSome).length=s:=⟨_,rfl⟩
 have a0:N=max n (id+1):=by rw [<- hN,<-hm,Yaf,Ybk,t];omega
 have r:id<N/\n<=N/\N<=65536:=by
  have h2:n<=65536:=by rw [<- t];exact h.len
  omega
 have R:=qH a0;have a1:(m.filter fun x=>x.A.isSome).length=s:=by rw [<- hm,YcX,Yaf,E,Yfv.2 fun y j=>by rw [(Yep.1 j).2];simp [ZnF]];rfl
 have ap:s<=n:=by rw [<- E,<-t];exact Yez _ _
 have aq:n<=65536:=by rw [<- t];exact h.len
 have H:=qH h.blk;have S:=qH h.own;have T:=qH h;have HX:=qH hx;have HA:=qH hA;have HL:=qH hxl;have o:=qH (And.intro hm (And.intro hN (And.intro t (And.intro E a1))));rw [t,E] at H;rw [t] at S;have p3:=H.c3;clear h hx hA hxl hm hN t E a1 a0;go_enter Tryz.func105,Tryz.ntmps105;go_upto_if 12 with fail;go_cut [12] from 13 to 28 (fun _ W=>∃ A' L,Hid (Blk W f 171 #[.int .i64 (k:Int),.int .i64 (vs:Int),.int .i64 (z:Int),.slice A' N L,.int .i64 (s:Int),.int .i64 (low:Int)])/\Hid (ZcY W B (.slice A' N L) m)/\Hid (Upd (Foot f (.slice A n c)) w W)/\Hid (NewB w (.slice A n c) (.slice A' N L)))
 case first =>
  by_cases h1:id<n
  · have c1:¬ ((n:Int)<=(id:Int)):=qO;have ac:m=l:=by have h2:=o.1;rw [show id+1-l.length=0 by rw [o.2.2.1];omega] at h2;simpa using h2.symm
    have ad:N=n:=qh R;subst ad;subst ac;clear R o T;go_wp2;go_meet;exact ⟨A,c,H,S,qH (Yaa _ w),qH (.inl rfl)⟩
  have c1:((n:Int)<=(id:Int)):=qO;obtain ⟨X,av⟩:∃ X:Nat,id+1-n=X:=⟨_,rfl⟩
  have w1:IntKind.i64.wrap ((id:Int)+1)=(id:Int)+1:=YbO _ ⟨qO,qO⟩;have w2:IntKind.i64.wrap ((id:Int)+1-(n:Int))=(X:Int):=qw;go_upto_region 1 with fail;have Z:Same w w.drew:=(Yaa _ w).drew;refine Zaj 16 (fun W=>W.cell? ⟨f,3,none⟩=some (.slice A n c)) (by kernel_rfl) ((H.same Z).cell 3) (fun F=>?_)
  repeat
   first
    | refine Yan (v:=?_) 0 rfl ?_ ?_
    | refine Yan (v:=?_) 1 rfl ?_ ?_
    | refine Yan (v:=?_) 2 rfl ?_ ?_
    | refine Yan (v:=?_) 3 rfl ?_ ?_
    | refine Yan (v:=?_) 4 rfl ?_ ?_
    | refine Yan (v:=?_) 5 rfl ?_ ?_
    | refine Yan (v:=?_) 6 rfl ?_ ?_
    | refine Yan (v:=?_) 7 rfl ?_ ?_
    | refine Yan (v:=?_) 8 rfl ?_ ?_
    | refine Yan (v:=?_) 9 rfl ?_ ?_
    | refine Yan (v:=?_) 10 rfl ?_ ?_
    | refine Yan (v:=?_) 11 rfl ?_ ?_
    | refine Yan (v:=?_) 12 rfl ?_ ?_
    | refine Yan (v:=?_) 14 rfl ?_ ?_
    | refine Yan (v:=?_) 15 rfl ?_ ?_
   rotate_left
   · intro W Y;have h0:=Y;go_simp;try with_reducible rfl
   simp only [Act.put,Yal,YaA,Yaz,Yaw,Yam,Yap]
  refine Yci (rs:=[13]) (by decide +kernel) (by decide +kernel) ?_;refine Ybx rfl (fun K hK=>?_) YbA;have U:=S.same Z;have d:=U.row;have t:=o.2.2.1;rw [t] at d;refine Zrd rfl (.tmp 17) (.tmp 25) _ _ rfl B 39 24 _ (kn:=.i64) Tryz.underlying169 Tryz.underlying3 Zfs rfl rfl (.slice A n c) n _ rfl d .i64 X rfl (by unfold maxLen;omega) qO (qt Z.size) ?_;intro v9 w9 G;obtain ⟨f1,f2,f3⟩:=ZbC (i:=3) H.out (by have:=S.row;rw [t] at this;exact this) qD Z G;obtain ⟨A9,c9,rfl⟩:=Zad G.own;have q3:=(H.same Z).upd G.upd fun hh=>(H.same Z).ne_own d qD hh;have ae:n+X=N:=qh R;have C:=G;rw [ae] at f1 f2 f3 C;have af:=qH C;have ar:=qH U;have a2:=qH f3;have Q3:=qH q3;have ag:=qH f1;have ah:=qH f2;clear f1 f2 f3 G C d U;refine hK.out _ _ (q3.cell 3) (fun F=>?_);clear hK K q3;simp only [Act.put,Yal,YaA,Yaz,Yaw,Yam,Yap]
  repeat
   first
    | refine Yan (v:=?_) 14 rfl ?_ ?_
    | refine Yan (v:=?_) 15 rfl ?_ ?_
   rotate_left
   · intro W Y;have h0:=Y;go_simp;try with_reducible rfl
   simp only [Act.put,Yal,YaA,Yaz,Yaw,Yam,Yap]
  refine YcO (by decide +kernel) (by decide +kernel) rfl (fun K hK=>?_) _;have r3:=Q3.cell 3;have z3:=Q3.frozen 3;go_simp;refine hK.out _ _ ?_;clear hK K r3 z3 F;go_wp2;go_meet;have a3:=ag.out;simp only [Yal,Yap,Yam] at a3;have ai:X=id+1-l.length:=by rw [o.2.2.1];omega
  have he:l.map BS.cell++List.replicate X (.slice none 0 0)=m.map BS.cell:=by rw [<- o.1,YaG,YfA,ai];rfl
  have a4:=ah.out;rw [he] at a4;have aj:Upd (Foot f (.slice A n c)) w (w9.setCell ⟨f,3,none⟩ (.slice A9 N c9)):=a2.out;have ak:=S.row;refine ⟨A9,c9,qH a3,qH ⟨by rw [o.2.1];exact a4,fun y j=>?_⟩,a2,qH ?_⟩
  · rw [<- o.1] at j;rcases YaR.1 j with j | j
    · exact (S.each y j).foot H ak aj
    rw [(Yep.1 j).2];exact Zau.nilB _ _
  exact af.block
 obtain ⟨A',L,M,O1,U1,N1⟩:=hcut;obtain ⟨y,j⟩:∃ y,m[id]?=some y:=⟨_,Yar (by rw [o.2.1];exact r.1)⟩
 have d:=O1.row;rw [o.2.1] at d;obtain ⟨b,u,rfl,a9,ao,hu,hc,hf,O⟩:=ZaW d r.1;have al:u=.slice y.A y.n y.c:=by rw [Yau,j] at hu;exact (Yax hu).symm
 subst al;have au:=qH (And.intro a9 (And.intro ao O));have a5:=qH (Ybe j);have q3:=M.c3;have q4:=M.c4;have z4:=M.frozen 4;have am:f≠b:=by rintro rfl;exact M.ne_own d qD rfl
 have j1:(id:Int)<(N:Int):=qO;have XC:=qH (HX.foot H (by have:=S.row;rw [o.2.2.1] at this;exact this) U1.out);have I:m.set id x=ZiX l id x:=by rw [<- o.1];rfl
 have a6:=qH (Zke (fun x:BS=>x.A.isSome) m id x y j);have a7:x.A.isSome=true:=by
  cases hxA:x.A with
  | none=>exact absurd hxA HA.out
  | some a=>rfl
 have HR:=qH (show ∀ y∈m.set id x,y.A≠none->y.data.length+1=z by
  intro y j q;rcases YeY j with j | rfl
  · rw [<- o.1] at j;rcases YaR.1 j with j | j
    · exact T.recs y j q
    rw [(Yep.1 j).2] at q;exact absurd rfl q
  exact HL)
 have a8:=qH (show ∀ i,i<low->∃ y,(m.set id x)[i]?=some y/\y.A≠none by
  intro i hi;obtain ⟨y,j,q⟩:=T.low i hi;by_cases he:id=i
  · subst he;exact ⟨x,Ycr (by rw [o.2.1];exact r.1),HA⟩
  refine ⟨y,?_,q⟩;rw [YcV he,<-o.1,Ydl (Yaq.1 j).1];exact j)
 have HS:=qH I;clear I O hu j a9;cases q:y.A with
 | none =>
   have an:=fun (w:World) (a:Option Addr) (n c:Nat)=>YcR (P:=Tryz.prog) w 39 5 a n c 0 0 Tryz.underlying39;have h5:=Row.nil (O1.each y a5) q;have h6:=Row.le (O1.each y a5);rw [q,h5,show y.n=0 by omega] at hc;have w1:IntKind.i64.wrap ((s:Int)+1)=(s:Int)+1:=YbO _ ⟨qO,qO⟩;have uD:Upd (fun b=>b=f) wc (wc.setCell ⟨f,4,none⟩ (.int .i64 ((s:Int)+1))):=(Yaa _ wc).put1 _;have V:Upd (Foot f (.slice (some ⟨b,0,none⟩) N L)) wc (wc.setCell ⟨f,4,none⟩ (.int .i64 ((s:Int)+1))):=uD.mono fun _ _ h=>.inl h;have b2:=M.put 4 (.int .i64 ((s:Int)+1));simp only [Yal,Yap,Yam] at b2;have B2:=qH b2;have O2:=qH (show ZcY (wc.setCell ⟨f,4,none⟩ (.int .i64 ((s:Int)+1))) B (.slice (some ⟨b,0,none⟩) N L) m from ⟨Zae O1.row uD fun g hg e=>by cases hg;exact am e.symm,fun y j=>(O1.each y j).foot M d V⟩);have X2:=qH (XC.foot M d V);have UD:=qH uD;have e3:=B2.c3;have ec:∃ u,(wc.setCell ⟨f,4,none⟩ (.int .i64 ((s:Int)+1))).cell? ⟨b,id,none⟩=some u:=by have D:=O2.row;rw [o.2.1] at D;obtain ⟨g,u,e,_,_,_,aa,ab,_⟩:=ZaW D r.1;cases e;exact ⟨u,aa⟩
   have ef:(wc.setCell ⟨f,4,none⟩ (.int .i64 ((s:Int)+1))).frozen? ⟨b,id,none⟩=false:=by have D:=O2.row;rw [o.2.1] at D;obtain ⟨g,u,e,_,_,_,aa,ab,_⟩:=ZaW D r.1;cases e;exact ab
   obtain ⟨u2,ec⟩:=ec;clear b2 uD V;go_upto_region 4 with fail;generalize wc.setCell ⟨f,4,none⟩ (.int .i64 ((s:Int)+1))=wd at *;go_wp2;go_end0;rw [o.2.2.1];refine ⟨rfl,.slice (some ⟨b,0,none⟩) N L,?_,?_,N1⟩
   · rw [<- HS.out];have b2:=B2.out;rw [show (s:Int)+1=((s+1:Nat):Int) by omega] at b2;refine PF.set_end b2 O2 o.2.1 r.1 X2.out ?_ T.base T.size HR r.2.2 a8;have:=a6.out;rw [q,o.2.2.2.2,a7] at this;simpa using this
   exact (U1.trans UD fun _ _ h=>.inl h).setCell (p:=⟨b,id,none⟩) (by
    rcases N1.out with e | ⟨g,e,h⟩
    · exact .inl (.inr e.symm)
    cases e;exact .inr h) _
 | some a =>
   have an:=fun (w:World) (a:Option Addr) (n c:Nat)=>YcR (P:=Tryz.prog) w 39 5 a n c 0 0 Tryz.underlying39;rw [q] at hc;go_wp2;go_end0;rw [o.2.2.1];refine ⟨rfl,.slice (some ⟨b,0,none⟩) N L,?_,?_,N1⟩
   · rw [<- HS.out];refine PF.set_end M O1 o.2.1 r.1 XC.out ?_ T.base T.size HR r.2.2 a8;have:=a6.out;rw [q,o.2.2.2.2,a7] at this;simpa using this
   exact U1.setCell (p:=⟨b,id,none⟩) (by
    rcases N1.out with e | ⟨g,e,h⟩
    · exact .inl (.inr e.symm)
    cases e;exact .inr h) _
end
end Go.Proofs.YtmkjfhnlnhceiaaGreatDoor
