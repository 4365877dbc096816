/- Lemmas: walks and plain laws. -/
import Derived.Test.YtmkjfhnlnhceiaaGreatDoorF10
import Derived.Test.YtmkjfhnlnhceiaaGreatDoorF16
set_option maxRecDepth 100000
set_option maxHeartbeats 16000000
namespace Go.Proofs.YtmkjfhnlnhceiaaGreatDoor
variable {F:Nat->Prop} {A:Option Addr} {n c B k i:Nat} {l:List ByteArray} {w:World}
open Go.RowKit
theorem Zul (l:List ByteArray):∀ u∈l.map Value.string,u.oneCell'=true:=by intro u a;obtain ⟨_,_,rfl⟩:=fC.1 a;rfl
theorem ZvE (l:List Int):∀ u∈l.map (Value.int .i64),u.oneCell'=true:=by intro u a;obtain ⟨_,_,rfl⟩:=fC.1 a;rfl
theorem ZoA {l:List ND} (w:World) (h:WRow w F 3 A n c (l.flatMap ND.cells)) (hn:n*56<=140737488355328):
 Calls Tryz.prog 129 #[.slice A n c] w fun e w'=>∃ A' c',e=.returned (.slice A' n c')/\Hid (w'.ownsRow w.heap.size 56 3 (.slice A' n c') n (l.flatMap ND.cells))/\Same w w':=by
 have g:=fun (w:World) (a:Option Addr) (n c:Nat)=>dI (P:=Tryz.prog) w 23 56 a n c 0 0 pN;have i:=h.max;have j:=h.le;cases A with
 | none =>
   have k:=h.nil rfl;obtain rfl:c=0:=k;obtain rfl:n=0:=qO;have m:l.flatMap ND.cells=[]:=EH.1 (by rw [h.len]);rw [m];go_enter Tryz.func129,Tryz.ntmps129;go_wp2;go_ret;exact ⟨none,0,rfl,qH (iC _ _ _ _),eA _ _⟩
 | some a =>
   have o:n<=maxLen:=qM;go_enter Tryz.func129,Tryz.ntmps129;go_wp2_with (at_builtin;go_must (refine XD rfl (.tmp 5) (.tmp 6) _ _ rfl w.heap.size _ _ _ _ pN oW rfl _ 0 [] rfl (NI w #[] 0 (lA _) (oA _) rfl) rfl (ZL pN (aJ h ((eA _ w).alloc _)) (Zwq l)) qO qO qS ?_);intro q w' d);go_ret;have f:=d.own;rw [AE,SB] at f;obtain ⟨A',c',rfl⟩:=WA f;refine ⟨A',c',rfl,qH f,?_⟩;exact ((eA _ w).alloc _).trans d.upd fun b r p=>by have:=eB p;simp only at this;omega
theorem ZqG {l:List RL} (w:World) (h:WRow w F 5 A n c (l.flatMap RL.cells)) (hn:n*64<=140737488355328):
 Calls Tryz.prog 130 #[.slice A n c] w fun e w'=>∃ A' c',e=.returned (.slice A' n c')/\Hid (w'.ownsRow w.heap.size 60 5 (.slice A' n c') n (l.flatMap RL.cells))/\Same w w':=by
 have g:=fun (w:World) (a:Option Addr) (n c:Nat)=>dI (P:=Tryz.prog) w 24 60 a n c 0 0 sN;have i:=h.max;have j:=h.le;cases A with
 | none =>
   have k:=h.nil rfl;obtain rfl:c=0:=k;obtain rfl:n=0:=qO;have m:l.flatMap RL.cells=[]:=EH.1 (by rw [h.len]);rw [m];go_enter Tryz.func130,Tryz.ntmps130;go_wp2;go_ret;exact ⟨none,0,rfl,qH (iC _ _ _ _),eA _ _⟩
 | some a =>
   have o:n<=maxLen:=qM;go_enter Tryz.func130,Tryz.ntmps130;go_wp2_with (at_builtin;go_must (refine XD rfl (.tmp 5) (.tmp 6) _ _ rfl w.heap.size _ _ _ _ sN pW rfl _ 0 [] rfl (NI w #[] 0 (lA _) (oA _) rfl) rfl (ZL sN (aJ h ((eA _ w).alloc _)) (Zwr l)) qO qO qS ?_);intro q w' d);go_ret;have f:=d.own;rw [AE,SB] at f;obtain ⟨A',c',rfl⟩:=WA f;refine ⟨A',c',rfl,qH f,?_⟩;exact ((eA _ w).alloc _).trans d.upd fun b r p=>by have:=eB p;simp only at this;omega
theorem ZoB {l:List PR} (w:World) (h:WRow w F 6 A n c (l.flatMap PR.cells)) (hn:n*96<=140737488355328):
 Calls Tryz.prog 174 #[.slice A n c] w fun e w'=>∃ A' c',e=.returned (.slice A' n c')/\Hid (w'.ownsRow w.heap.size 53 6 (.slice A' n c') n (l.flatMap PR.cells))/\Same w w':=by
 have g:=fun (w:World) (a:Option Addr) (n c:Nat)=>dI (P:=Tryz.prog) w 54 53 a n c 0 0 tN;have i:=h.max;have j:=h.le;cases A with
 | none =>
   have k:=h.nil rfl;obtain rfl:c=0:=k;obtain rfl:n=0:=qO;have m:l.flatMap PR.cells=[]:=EH.1 (by rw [h.len]);rw [m];go_enter Tryz.func174,Tryz.ntmps174;go_wp2;go_ret;exact ⟨none,0,rfl,qH (iC _ _ _ _),eA _ _⟩
 | some a =>
   have o:n<=maxLen:=qM;go_enter Tryz.func174,Tryz.ntmps174;go_wp2_with (at_builtin;go_must (refine XD rfl (.tmp 5) (.tmp 6) _ _ rfl w.heap.size _ _ _ _ tN qW rfl _ 0 [] rfl (NI w #[] 0 (lA _) (oA _) rfl) rfl (ZL tN (aJ h ((eA _ w).alloc _)) (Zws l)) qO qO qS ?_);intro q w' d);go_ret;have f:=d.own;rw [AE,SB] at f;obtain ⟨A',c',rfl⟩:=WA f;refine ⟨A',c',rfl,qH f,?_⟩;exact ((eA _ w).alloc _).trans d.upd fun b r p=>by have:=eB p;simp only at this;omega
theorem ZqH {l:List Int} (w:World) (h:WRow w F 1 A n c (l.map (Value.int .i64))) (hn:n*8<=140737488355328):
 Calls Tryz.prog 175 #[.slice A n c] w fun e w'=>∃ A' c',e=.returned (.slice A' n c')/\Hid (w'.ownsRow w.heap.size 2 1 (.slice A' n c') n (l.map (Value.int .i64)))/\Same w w':=by
 have g:=fun (w:World) (a:Option Addr) (n c:Nat)=>dI (P:=Tryz.prog) w 49 2 a n c 0 0 ZM;have i:=h.max;have j:=h.le;cases A with
 | none =>
   have k:=h.nil rfl;obtain rfl:c=0:=k;obtain rfl:n=0:=qO;have m:l.map (Value.int .i64)=[]:=EH.1 (by rw [h.len]);rw [m];go_enter Tryz.func175,Tryz.ntmps175;go_wp2;go_ret;exact ⟨none,0,rfl,qH (iC _ _ _ _),eA _ _⟩
 | some a =>
   have o:n<=maxLen:=qM;go_enter Tryz.func175,Tryz.ntmps175;go_wp2_with (at_builtin;go_must (refine XD rfl (.tmp 5) (.tmp 6) _ _ rfl w.heap.size _ _ _ _ ZM kW rfl _ 0 [] rfl (NI w #[] 0 (lA _) (oA _) rfl) rfl (ZL ZM (aJ h ((eA _ w).alloc _)) (ZvE l)) qO qO qS ?_);intro q w' d);go_ret;have f:=d.own;rw [AE,SB] at f;obtain ⟨A',c',rfl⟩:=WA f;refine ⟨A',c',rfl,qH f,?_⟩;exact ((eA _ w).alloc _).trans d.upd fun b r p=>by have:=eB p;simp only at this;omega
theorem fY (w:World) (h:WRow w F 1 A n c (l.map Value.string)) (hn:n*16<=140737488355328):
 Calls Tryz.prog 131 #[.slice A n c] w fun e w'=>∃ A' c',e=.returned (.slice A' n c')/\Hid (w'.ownsRow w.heap.size 9 1 (.slice A' n c') n (l.map Value.string))/\Same w w':=by
 have g:=fun (w:World) (a:Option Addr) (n c:Nat)=>dI (P:=Tryz.prog) w 48 9 a n c 0 0 mI;have i:=h.max;have j:=h.le;cases A with
 | none =>
   have k:=h.nil rfl;obtain rfl:c=0:=k;obtain rfl:n=0:=qO;have m:l.map Value.string=[]:=EH.1 (by rw [h.len]);rw [m];go_enter Tryz.func131,Tryz.ntmps131;go_wp2;go_ret;exact ⟨none,0,rfl,qH (iC _ _ _ _),eA _ _⟩
 | some a =>
   have o:n<=maxLen:=qM;go_enter Tryz.func131,Tryz.ntmps131;go_wp2_with (at_builtin;go_must (refine XD rfl (.tmp 5) (.tmp 6) _ _ rfl w.heap.size _ _ _ _ mI PN rfl _ 0 [] rfl (NI w #[] 0 (lA _) (oA _) rfl) rfl (ZL mI (aJ h ((eA _ w).alloc _)) (Zul l)) qO qO qS ?_);intro q w' d);go_ret;have f:=d.own;rw [AE,SB] at f;obtain ⟨A',c',rfl⟩:=WA f;refine ⟨A',c',rfl,qH f,?_⟩;exact ((eA _ w).alloc _).trans d.upd fun b r p=>by have:=eB p;simp only at this;omega
theorem Zsp (l:List ByteArray):l.map Value.string=(l.map fun x=>x.data.toList).map encStr:=by rw [MC];exact kG fun x _=>by cases x;rfl
theorem ZqI (l:List ByteArray):((l.map fun x=>x.data.toList).map fun y=>(⟨y.toArray⟩:ByteArray))=l:=by
 rw [MC]
 conv=>rhs;rw [<- FL l]
 exact kG fun x _=>by cases x;rfl
theorem ZmQ (w:World) (h:w.ownsRow B 9 1 (.slice A n c) n (l.map Value.string)) (hn:n*16<=140737488355328):
 Calls Tryz.prog 132 #[.slice A n c] w fun e w'=>e=.returned (.tuple #[])/\w'.ownsRow B 9 1 (.slice A n c) n ((nH l).map Value.string)/\Upd (fun b=>(Value.slice A n c).ownBlock=some b) w w':=by
 have z:l.length=n:=by have:=h.1;simpa using this
 rcases h.2 with ⟨M,U⟩ | ⟨g,V,m,M,W,N,F,X,O,Y⟩
 · subst U;have R:l=[]:=CG z;subst R;refine (Zsh A c w).mono ?_;rintro e w' ⟨rfl,rfl⟩;exact ⟨rfl,h,eA _ _⟩
 injection M with D h2 h3
 subst D h3;obtain ⟨o,v⟩:∃ o,o=l.map fun x=>x.data.toList:=⟨_,rfl⟩
 have p:o.length=n:=by rw [v,nA,z]
 have q:Blk w g 9 m:=N;have S:m.size=c:=by simpa using O
 have a:∀ j,j<n->m[j]?=some (encStr (o[j]?.getD [])):=fun j P=>by
  rw [<- xL];have I:(m.toList.take (n*1))[j]?=(l.map Value.string)[j]?:=by rw [Y]
  rw [lL,gA qO,Zsp,<-v,MA,FA (l:=o) (i:=j) qO] at I;rw [I,FA (l:=o) (i:=j) qO];rfl
 have T:Go.Sort.Holds encStr w g 0 o.toArray:=fun j P=>by
  have C:j<n:=by simpa [p] using P
  refine ⟨?_,q.frozen _⟩;rw [AE,q.cell,a j C];simp [C,p]
 have L:=AnyM.slices_Sort_string sortL g 0 c o w T q.lt qO;rw [p] at L;refine Calls.mono L ?_;rintro e w' ⟨rfl,k,Z,rfl⟩;obtain ⟨d,G⟩:∃ d,d=o.mergeSort fun x y=>decide (x<=y):=⟨_,rfl⟩
 rw [<- G];have u:d.length=n:=by rw [G,List.length_mergeSort,p]
 have r:d.map encStr=(nH l).map Value.string:=by have D:=Zod o;rw [<- G,v,ZqI] at D;rw [<- D,MC];rfl
 have s:∀ i,i<w.heap.size->(Go.Sort.grow (Go.Sort.putRow encStr (Go.Sort.ahead w k) g 0 d.toArray) Z).heap[i]?=(Go.Sort.putRow encStr (Go.Sort.ahead w k) g 0 d.toArray).heap[i]?:=fun i t=>by unfold Go.Sort.grow;rw [Array.getElem?_append_left];simpa [Go.Sort.putRow,Go.Sort.mapBlock,Go.Sort.ahead] using t
 refine ⟨rfl,⟨by rw [nA,<-nA (f:=Value.string),<-r,nA,u];omega,.inr ⟨g,c,Go.Sort.putCells encStr 0 d.toArray m,rfl,W,?_,F,X,by simpa [Go.Sort.putCells] using O,?_⟩⟩,?_⟩
 · rw [s g q.lt];simp [Go.Sort.putRow,Go.Sort.mapBlock,Go.Sort.ahead,Go.Sort.onCells,uK,N]
 · rw [<- r,CL];apply fS;intro i;by_cases t:i<n
   · rw [lL,gA t,xL,Go.Sort.putCells,Array.getElem?_mapIdx,MA,a i t,VC,gA ⟨oA _,by simp [u,t]⟩,FA qO];simp [u,t]
   rw [UI (by rw [RB];omega),UI (by rw [nA];omega)]
 refine ⟨rfl,rfl,rfl,?_,fun i t H=>?_⟩
 · simp [Go.Sort.grow,Go.Sort.putRow,Go.Sort.mapBlock,Go.Sort.ahead]
 rw [s i t];have E:g≠i:=fun e=>H (by rw [e];rfl);simp [Go.Sort.putRow,Go.Sort.mapBlock,Go.Sort.ahead,uK,E]
def PR.blocks (x:PR) (k:Nat):Prop:=(Value.slice x.A1 x.n1 x.c1).ownBlock=some k\/(Value.slice x.A2 x.n2 x.c2).ownBlock=some k
def ND.blocks (x:ND) (k:Nat):Prop:=(Value.slice x.AL x.nL x.cL).ownBlock=some k\/(Value.slice x.AP x.nP x.cP).ownBlock=some k\/∃ p∈x.props,p.blocks k
def RL.blocks (x:RL) (k:Nat):Prop:=(Value.slice x.AP x.nP x.cP).ownBlock=some k\/∃ p∈x.props,p.blocks k
def PR.Apart (x y:PR):Prop:=∀ k,x.blocks k->¬ y.blocks k
def ND.Apart (x y:ND):Prop:=∀ k,x.blocks k->¬ y.blocks k
def RL.Apart (x y:RL):Prop:=∀ k,x.blocks k->¬ y.blocks k
def ND.Fine (x:ND):Prop:=x.props.Pairwise PR.Apart/\∀ k,(Value.slice x.AL x.nL x.cL).ownBlock=some k->∀ p∈x.props,¬ p.blocks k
theorem FE.blk {x:PR} (h:FE w B x) (hk:x.blocks k):B<=k/\k<w.heap.size:=by
 rcases hk with hk | hk
 · exact h.nums.lt k hk
 exact h.texts.lt k hk
theorem xC.blk {v:Value} {ps:List PR} (h:xC w B v ps) (hk:v.ownBlock=some k\/∃ p∈ps,p.blocks k):B<=k/\k<w.heap.size:=by
 rcases hk with hk | ⟨p,a,hk⟩
 · exact h.row.lt k hk
 exact (h.each p a).blk hk
theorem WE.blk {x:ND} (h:WE w B x) (hk:x.blocks k):B<=k/\k<w.heap.size:=by
 rcases hk with hk | hk
 · exact h.lab.lt k hk
 exact h.pro.blk hk
theorem yF.blk {x:RL} (h:yF w B x) (hk:x.blocks k):B<=k/\k<w.heap.size:=h.pro.blk hk
theorem RT {α:Type} {R:α->α->Prop} {l:List α} {y:α} (h:l.Pairwise R) (hy:∀ x∈l,R x y):(l++[y]).Pairwise R :=
 oP.2 ⟨h,List.pairwise_singleton _ _,fun a c b d=>by obtain rfl:=QB.1 d;exact hy a c⟩
theorem ZvF {α:Type} {R:α->α->Prop} (hs:∀ x y,R x y->R y x) {l m:List α} (h:l.Pairwise R) (hp:m.Perm l):m.Pairwise R:=(List.Perm.pairwise_iff (fun {x y} h=>hs x y h) hp).2 h
theorem PR.Apart.symm (x y:PR) (h:x.Apart y):y.Apart x:=fun k a b=>h k b a
theorem oM {α:Type} {f:α->List Value} {j:Nat} (hf:∀ x,(f x).length=k) (P Q:List α) (x y:α) {u:Value} (hj:j<k) (he:f y=(f x).set j u) (hi:P.length=i):((P++x::Q).flatMap f).set (i*k+j) u=(P++y::Q).flatMap f:=by rw [jF,jF,iD,iD,he];rw [fI _ _ (by rw [KG hf,hi];omega),KG hf,hi,IL,List.set_append_left _ _ (by rw [hf];exact hj)]
theorem ZvG {ps:List PR} {x:PR} (h:ps[i]?=some x):ps.drop i=x::ps.drop (i+1):=by obtain ⟨a,b⟩:=IA.1 h;rw [kE a,b]
theorem BQ {l1 Q:List PR} {x:PR} (h:w.ownsRow B 53 6 (.slice A n c) n ((l1++x::Q).flatMap PR.cells)) (hl:l1.length=i):
 ∃ g,A=some ⟨g,0,none⟩/\B<=g/\g<w.heap.size/\i<n/\AtP w g i x/\FrP w g i /\
  (∀ (A1:Option Addr) (c1:Nat),(w.setCell ⟨g,i*6+4,none⟩ (.slice A1 x.n1 c1)).ownsRow B 53 6 (.slice A n c) n ((l1++{ x with A1:=A1,c1:=c1 }::Q).flatMap PR.cells)) /\
  ∀ (A2:Option Addr) (c2:Nat),(w.setCell ⟨g,i*6+5,none⟩ (.slice A2 x.n2 c2)).ownsRow B 53 6 (.slice A n c) n ((l1++{ x with A2:=A2,c2:=c2 }::Q).flatMap PR.cells):=by
 have a:=QG h yI qO;rw [kA,BA] at a;obtain ⟨g,_,rfl,d,e,_,_,_,f⟩:=jJ (i:=i*6+4) h qO;obtain ⟨_,_,b,_,_,_,_,_,j⟩:=jJ (i:=i*6+5) h qO;injection b with b
 injection b with b _ _
 subst b;obtain ⟨k,_,l,m⟩:=OwnP.at_ h (aO l1 Q x hl);refine ⟨_,rfl,d,e,k,l,m,fun A1 c1=>?_,fun A2 c2=>?_⟩
 · have:=f (.slice A1 x.n1 c1);rwa [oM yI l1 Q x { x with A1:=A1,c1:=c1 } qO rfl hl] at this
 have:=j (.slice A2 x.n2 c2);rwa [oM yI l1 Q x { x with A2:=A2,c2:=c2 } qO rfl hl] at this
theorem gY {ls:List PR} (w:World) (h:RdPs w F A n c ls) (b4:EX n ls) (hk:n<20):
 Calls Tryz.prog 133 #[.slice A n c] w fun e w'=>∃ (A':Option Addr) (c':Nat) (l:List PR),e=.returned (.slice A' n c')/\Hid (l.map PR.dat=sE ltS GPr.key (ls.map PR.dat))/\Hid (xC w' w.heap.size (.slice A' n c') l)/\Hid (l.Pairwise PR.Apart)/\Same w w':=by
 have HL:=qH h.len;have HR:=qH h;have HF:=qH b4.2;have hn:=b4.1;clear h b4;go_enter Tryz.func133,Tryz.ntmps133;go_wp2_with fail;refine (ZoB w HR.row qO).mono ?_;rintro e w1 ⟨A1,c1,rfl,aq,a6⟩;have ab:=qH a6;clear a6;go_wp2_with fail;go_loopg [9] n (fun gh s9 wr=>∃ (i:Nat) (t:List PR),n-i=gh/\i<=n/\s9=.int .i64 i/\Hid (t.length=i)/\Hid (t.map PR.dat=(ls.take i).map PR.dat)/\Hid (wr.ownsRow w.heap.size 53 6 (.slice A1 n c1) n ((t++ls.drop i).flatMap PR.cells))/\Hid (∀ x∈t,FE wr w.heap.size x)/\Hid (t.Pairwise PR.Apart)/\Hid (Same w wr))
 case atStart=>exact ⟨0,[],rfl,oA _,rfl,qH rfl,qH rfl,aq,qH qS,qH List.Pairwise.nil,ab⟩
 obtain ⟨i,t,rfl,hi,rfl,KL,KD,KO,KV,KA,KS⟩:=hrel;by_cases ac:i<n
 · obtain ⟨x,hx⟩:∃ x,ls[i]?=some x:=⟨_,FA (by rw [HL.out];exact ac)⟩
   have B:x∈ls:=OC hx;have C:=KO.out;rw [ZvG hx] at C;obtain ⟨g,rfl,hB,hg,_,ar,au,s4,_⟩:=BQ C KL.out;have HV:=qH ((HR.same KS).val x B);have ad:=qH (show x.g.Fits from ⟨HV.kind,HV.num,HV.range⟩);have HT:=qH (HF.out x B);have ae:=qH B;have HD:=qH (ZmC hx);have P:=qH C;have hz:=KS.size;obtain ⟨c0,av,aw,ax,c4,c5⟩:=ar;clear hx B C s4 au;go_upto_region 5 with fail;go_wp2_with fail;refine (ZqH wr HV.nums (qt HT.1)).mono ?_;rintro e R ⟨o,p,rfl,N,m⟩;clear c0 av aw ax c4 c5;obtain ⟨_,a,_,b1,_,a7,a8,s4,_⟩:=BQ (mA P m) KL.out;injection a with a
   injection a with a _ _
   subst a;have H:=qH (KS.same m);have T:=qH (fun y d=>(KV.out y d).same m);have af:=m.size;have U:Hid (∀ k,(Value.slice o x.n1 p).ownBlock=some k->wr.heap.size<=k):=qH fun k hk=>(N.lt k hk).1;have V:Hid (R.ownsRow w.heap.size 2 1 (.slice o x.n1 p) x.n1 (x.g.nums.map (Value.int .i64))):=qH (RA N qO);have I:(R.setCell ⟨g,i*6+1+3,none⟩ (.slice o x.n1 p)).ownsRow w.heap.size 53 6 (.slice (some ⟨g,0,none⟩) n c1) n ((t++{ x with A1:=o,c1:=p }::ls.drop (i+1)).flatMap PR.cells):=s4 o p;have W:(Value.slice o x.n1 p).ownBlock≠some g:=fun e=>by have:=(N.lt _ e).1;omega
   have X:=(eA (fun b=>b=g) R).put1 (i:=i*6+1+3) (.slice o x.n1 p);have L:=qH I;have q:=qH X;have Y:=qH W;obtain ⟨e0,e1,e2,e3,e4,e5⟩:=a7;obtain ⟨f0,f1,f2,f3,f4,f5⟩:=a8;have ag:=qH (LA (mA P m) (g:=g) rfl);clear m s4 I W X;go_upto_region 6 with fail;clear e0 e1 e2 e3 e4 e5 f0 f1 f2 f3 f4 f5;generalize R.setCell ⟨g,i*6+1+3,none⟩ (.slice o x.n1 p)=w3 at *;obtain ⟨_,a,_,b2,_,D,a9,_,_⟩:=BQ L.out KL.out;injection a with a
   injection a with a _ _
   subst a;have c5:w3.cell? ⟨g,i*6+5,none⟩=some (.slice x.A2 x.n2 x.c2):=D.2.2.2.2.2;have M:=qH (H.trans q fun b hb u=>by subst u;omega);have ah:=qH ((HR.same M).val x ae);have Z:=qH (GA V q fun k hk u=>Y.out (by rw [hk,u]));have a0:=qH (fun y d=>(T.out y d).type q (fun k _ hk=>by rw [hk];exact ag) qD qD);have ay:=M.size;have az:wr.heap.size<=w3.heap.size:=tA af q.size;clear D a9 q;go_wp2_with fail;refine (fY w3 ah.texts (qt HT.2)).mono ?_;rintro e S ⟨v,z,rfl,O,j⟩;clear c5;obtain ⟨_,a,_,b3,_,E,G,_,s5⟩:=BQ (mA L j) KL.out;injection a with a
   injection a with a _ _
   subst a;have h5:(S.setCell ⟨g,i*6+1+4,none⟩ (.slice v x.n2 z)).ownsRow w.heap.size 53 6 (.slice (some ⟨g,0,none⟩) n c1) n ((t++{ x with A1:=o,c1:=p,A2:=v,c2:=z }::ls.drop (i+1)).flatMap PR.cells):=s5 v z;have r:=(eA (fun b=>b=g) S).put1 (i:=i*6+1+4) (.slice v x.n2 z);have ai:=qH (LA (mA L j) (g:=g) rfl);have b0:=j.size;have a1:(S.setCell ⟨g,i*6+1+4,none⟩ (.slice v x.n2 z)).ownsRow w.heap.size 9 1 (.slice v x.n2 z) x.n2 (x.g.texts.map Value.string) :=
    GA (RA O qO) r fun k hk u=>by have:=(O.lt _ hk).1;omega
   have a2:=GA (mA Z j) r fun k hk u=>Y.out (by rw [hk,u]);have a3:=fun y d=>((a0.out y d).same j).type r (fun k _ hk=>by rw [hk];exact ai) qD qD;have a4:=(M.same j).trans r fun b hb u=>by subst u;omega
   have aj:Hid (∀ k,PR.blocks { x with A1:=o,c1:=p,A2:=v,c2:=z } k->wr.heap.size<=k):=qH fun k hk=>by
    rcases hk with hk | hk
    · exact U k hk
    have:=(O.lt k hk).1;omega
   have ak:=qH h5;have al:=qH (show FE _ w.heap.size { x with A1:=o,c1:=p,A2:=v,c2:=z } from ⟨a2,a1,ad⟩);have a5:=qH a3;have am:=qH a4;have e5:S.cell? ⟨g,i*6+5,none⟩=some (.slice x.A2 x.n2 x.c2):=E.2.2.2.2.2;have f5:S.frozen? ⟨g,i*6+5,none⟩=false:=G.2.2.2.2.2;clear h5 r a2 a1 a3 a4 E G s5 j;go_upto_region 7 with fail;clear e5 f5;generalize S.setCell ⟨g,i*6+1+4,none⟩ (.slice v x.n2 z)=w5 at *;go_wp2;go_roundg (n-(i+1))
   case measure=>omega
   refine ⟨i+1,t++[{ x with A1:=o,c1:=p,A2:=v,c2:=z }],rfl,qO,qN,qH (by rw [kA,KL.out];rfl),qH (by rw [DB,KD.out,HD.out];rfl),qH (by rw [vA];exact ak),qH fun y d=>?_,qH (RT KA fun y d k h1 h2=>by have h3:=((KV.out y d).blk h1).2;have I:=aj.out k h2;omega),am⟩;rcases YB.1 d with d | d
   · exact a5 y d
   obtain rfl:=QB.1 d;exact al
 obtain rfl:i=n:=qO;have C:=KO.out;rw [BC (by rw [HL.out];exact lA _),ZC] at C;have P:=qH C;have hD:=KD.out;rw [cB (by rw [HL.out];exact lA _)] at hD;have HD:=qH hD;clear C hD KD KO;go_wp2_with fail;refine (Zvw wr P hk).mono ?_;rintro e R ⟨rfl,s,h1,h2,aa,I⟩;have h3:zB PR.key s t:=Zqq aa;have an:Hid (xC R w.heap.size (.slice A1 i c1) s):=qH ⟨by rw [QG h1 yI qO];exact h1,fun y d=>(KV.out y (h3.mem d)).type I (fun k _ hk=>LA P.out hk) qD qD⟩;have ao:Hid (s.map PR.dat=sE ltS GPr.key (ls.map PR.dat)):=qH (by rw [<- HD.out];exact vT QD (h2.map (f:=PR.dat) fun _=>rfl) (h3.map (f:=PR.dat) fun _=>rfl))
 have H:=qH (KS.trans I fun b hb u=>by have:=(P.lt b u).1;omega);have ap:=qH (ZvF PR.Apart.symm KA h3.perm);clear h1 h2 h3 aa I;go_wp2;go_ret;exact ⟨_,_,s,rfl,ao,an,ap,H⟩
theorem Zlv {l:List ND} (w0 w:World) (hs:Same w0 w) (h:WRow w0 F 3 A n c (l.flatMap ND.cells)) (hn:n*56<=140737488355328):
 Calls Tryz.prog 129 #[.slice A n c] w fun e w'=>∃ A' c',e=.returned (.slice A' n c')/\Hid (w'.ownsRow w.heap.size 56 3 (.slice A' n c') n (l.flatMap ND.cells))/\Same w w'/\Same w0 w' :=
 (ZoA w (h.same hs) hn).mono fun _ _ ⟨A',c',b,d,a⟩=>⟨A',c',b,d,a,hs.same a⟩
theorem ZmR {l:List RL} (w0 w:World) (hs:Same w0 w) (h:WRow w0 F 5 A n c (l.flatMap RL.cells)) (hn:n*64<=140737488355328):
 Calls Tryz.prog 130 #[.slice A n c] w fun e w'=>∃ A' c',e=.returned (.slice A' n c')/\Hid (w'.ownsRow w.heap.size 60 5 (.slice A' n c') n (l.flatMap RL.cells))/\Same w w'/\Same w0 w' :=
 (ZqG w (h.same hs) hn).mono fun _ _ ⟨A',c',b,d,a⟩=>⟨A',c',b,d,a,hs.same a⟩
theorem ZvH {l:List ND} {x:ND} (h:l[i]?=some x):l.drop i=x::l.drop (i+1):=by obtain ⟨a,b⟩:=IA.1 h;rw [kE a,b]
theorem ZvI {l:List RL} {x:RL} (h:l[i]?=some x):l.drop i=x::l.drop (i+1):=by obtain ⟨a,b⟩:=IA.1 h;rw [kE a,b]
theorem kO {l1 Q:List ND} {x:ND} (h:w.ownsRow B 56 3 (.slice A n c) n ((l1++x::Q).flatMap ND.cells)) (hl:l1.length=i):
 ∃ g,A=some ⟨g,0,none⟩/\B<=g/\g<w.heap.size/\i<n/\AtN w g i x/\FrN w g i /\
  (∀ (A1:Option Addr) (c1:Nat) (lb:List ByteArray),(w.setCell ⟨g,i*3+1,none⟩ (.slice A1 x.nL c1)).ownsRow B 56 3 (.slice A n c) n ((l1++{ x with AL:=A1,cL:=c1,labels:=lb }::Q).flatMap ND.cells)) /\
  ∀ (A2:Option Addr) (c2:Nat) (ps:List PR),(w.setCell ⟨g,i*3+2,none⟩ (.slice A2 x.nP c2)).ownsRow B 56 3 (.slice A n c) n ((l1++{ x with AP:=A2,cP:=c2,props:=ps }::Q).flatMap ND.cells):=by
 have a:=QG h RJ qO;rw [kA,BA] at a;obtain ⟨g,_,rfl,d,e,_,_,_,f⟩:=jJ (i:=i*3+1) h qO;obtain ⟨_,_,b,_,_,_,_,_,j⟩:=jJ (i:=i*3+2) h qO;injection b with b
 injection b with b _ _
 subst b;obtain ⟨k,_,l,m⟩:=OwnN.at_ h (aO l1 Q x hl);refine ⟨_,rfl,d,e,k,l,m,fun A1 c1 lb=>?_,fun A2 c2 ps=>?_⟩
 · have:=f (.slice A1 x.nL c1);rwa [oM RJ l1 Q x { x with AL:=A1,cL:=c1,labels:=lb } qO rfl hl] at this
 have:=j (.slice A2 x.nP c2);rwa [oM RJ l1 Q x { x with AP:=A2,cP:=c2,props:=ps } qO rfl hl] at this
theorem iY {l1 Q:List RL} {x:RL} (h:w.ownsRow B 60 5 (.slice A n c) n ((l1++x::Q).flatMap RL.cells)) (hl:l1.length=i):
 ∃ g,A=some ⟨g,0,none⟩/\B<=g/\g<w.heap.size/\i<n/\AtR w g i x/\FrR w g i /\
  ∀ (A2:Option Addr) (c2:Nat) (ps:List PR),(w.setCell ⟨g,i*5+4,none⟩ (.slice A2 x.nP c2)).ownsRow B 60 5 (.slice A n c) n ((l1++{ x with AP:=A2,cP:=c2,props:=ps }::Q).flatMap RL.cells):=by
 have a:=QG h LK qO;rw [kA,BA] at a;obtain ⟨g,_,rfl,b,d,_,_,_,e⟩:=jJ (i:=i*5+4) h qO;obtain ⟨f,_,j,k⟩:=OwnR.at_ h (aO l1 Q x hl);refine ⟨_,rfl,b,d,f,j,k,fun A2 c2 ps=>?_⟩;have:=e (.slice A2 x.nP c2);rwa [oM LK l1 Q x { x with AP:=A2,cP:=c2,props:=ps } qO rfl hl] at this
theorem jY {wr wx:World} {g g2:Nat} {t:TypeId} {a b:Value} {x:RL} (h1:Hid (Blk wr g t #[a,b])) (h2:Hid (AtR wr g2 i x)) (hg:g2<wr.heap.size) (hs:Same wr wx):wx.cell? ⟨g,1,none⟩=some b/\wx.cell? ⟨g2,i*5+4,none⟩=some (.slice x.AP x.nP x.cP) :=
 ⟨(h1.same hs).cell 1,(hs.cell (p:=⟨g2,i*5+4,none⟩) hg fun f=>f).trans h2.2.2.2.2⟩
theorem lO {α β κ:Type} {lt:κ->κ->Prop} {k1:α->κ} {k2:β->κ} {l:List α} {m:List β} (h:l.map k1=m.map k2) (hs:XA lt k2 m):XA lt k1 l:=by unfold XA at hs ⊢;have c:(m.map k2).Pairwise (fun a b=>¬ lt b a):=SI.2 hs;rw [<- h] at c;exact SI.1 c
structure UpG (g:GR):Prop where
 ns:XA (fun a b:Int=>a<b) ND.id g.ns
 rs:XA (fun a b:Int=>a<b) RL.id g.rs
 np:∀ x∈g.ns,x.nP<20
 rp:∀ x∈g.rs,x.nP<20
structure ZwK (g:GR):Prop where
 nodes:g.ns.Pairwise ND.Apart
 rels:g.rs.Pairwise RL.Apart
 nprops:∀ x∈g.ns,x.Fine
 rprops:∀ y∈g.rs,y.props.Pairwise PR.Apart
 cross:∀ x∈g.ns,∀ y∈g.rs,∀ k,x.blocks k->¬ y.blocks k
theorem ZoD {F:Nat->Prop} (w:World) (g:GR) (h:RdG w F g) (hz:RG g) (hup:UpG g) :
 Calls Tryz.prog 79 #[g.agg] w fun e w'=>∃ g':GR,e=.returned g'.agg/\Hid (g'.dat=tE g.dat)/\Hid (OwnG w' w.heap.size g')/\Hid (ZwK g')/\Same w w':=by
 obtain ⟨ns,AN,B,cN,rs,AR,t,cR⟩:=g;have a5:=((eA (fun _=>False) w).alloc (.cells #[.slice AN B cN,.slice AR t cR] 26)).alloc (.cells #[.slice none 0 0,.slice none 0 0] 26);have bo:=qH ((jA w 26 #[.slice AN B cN,.slice AR t cR]).alloc (.cells #[.slice none 0 0,.slice none 0 0] 26));have aw:=jA (w.alloc (.cells #[.slice AN B cN,.slice AR t cR] 26)) 26 #[.slice none 0 0,.slice none 0 0];rw [aB] at aw;have ax:=qH aw;have a7:=qH (h.same a5);have H1:=qH (h.same a5).nodes.row;have H2:=qH (h.same a5).rels.row;simp only at H1 H2;have d1:B*56<=140737488351232:=hz.nN;have d2:t*64<=140737488351232:=hz.nR;have HZ:=qH hz;have HU:=qH hup;have ay:Hid (ns.length=B):=qH h.nodes.len;have az:Hid (rs.length=t):=qH h.rels.len;have cm:=qH a5;have d3:=a5.size;clear h a5 aw hz hup;go_enter Tryz.func79,Tryz.ntmps79;go_upto_region 1 with fail;generalize (w.alloc (.cells #[.slice AN B cN,.slice AR t cR] 26)).alloc (.cells #[.slice none 0 0,.slice none 0 0] 26)=r at *;have cn:Same r r.drew:=(eA _ r).drew;go_cut [3] from 3 to 13 (fun s3 H=>∃ g X R Z T,s3=.pointer (some ⟨g,0,none⟩)/\Hid (Blk H g 26 #[.slice X B R,.slice Z t T])/\Hid (H.ownsRow r.heap.size 56 3 (.slice X B R) B (ns.flatMap ND.cells))/\Hid (H.ownsRow r.heap.size 60 5 (.slice Z t T) t (rs.flatMap RL.cells))/\Hid (Same r H)/\r.heap.size<=g)
 case first =>
  go_region_held3 (fun H=>Same r H/\H.cell? ⟨w.heap.size,0,none⟩=some (.slice AN B cN)/\H.cell? ⟨w.heap.size,1,none⟩=some (.slice AR t cR)) (exact keepC bo (by first | assumption | exact OJ (by assumption) _ | exact CC (CC (by assumption) (by first | omega | (simp;done) | (simp;omega)) _) (by first | omega | (simp;done) | (simp;omega)) _ | exact CC (CC (OJ (by assumption) _) (by first | omega | (simp;done) | (simp;omega)) _) (by first | omega | (simp;done) | (simp;omega)) _)) (first
   | (go_at_call 129;refine (Zlv r _ (by first | assumption | exact OJ (by assumption) _) H1.out (by omega)).mono ?_;rintro e w' ⟨X,R,rfl,m,n,bj⟩;(have hz:=bj.size);(try (have O:=(by first | exact D.same n | exact D.drew.same n:Blk w' _ 26 _);have u0:=O.cell 0;have u1:=O.cell 1;have v0:=O.frozen 0;have v1:=O.frozen 1));(try (have D:=(by first | exact (jA _ 26 _).same n | exact (jA _ 26 _).drew.same n:Blk w' _ 26 _);have q0:=D.cell 0;have q1:=D.cell 1;have f0:=D.frozen 0;have f1:=D.frozen 1)))
   | (go_at_call 130;refine (ZmR r _ (by first | assumption | exact OJ (by assumption) _) H2.out (by omega)).mono ?_;rintro e w' ⟨Z,T,rfl,l,n,bj⟩;(have hz:=bj.size);(try (have O:=(by first | exact D.same n | exact D.drew.same n:Blk w' _ 26 _);have u0:=O.cell 0;have u1:=O.cell 1;have v0:=O.frozen 0;have v1:=O.frozen 1));(try (have D:=(by first | exact (jA _ 26 _).same n | exact (jA _ 26 _).drew.same n:Blk w' _ 26 _);have q0:=D.cell 0;have q1:=D.cell 1;have f0:=D.frozen 0;have f1:=D.frozen 1))))
  all_goals go_wp2
  all_goals go_meet
  all_goals refine ⟨_,X,R,Z,T,rfl,qH ?_,qH ?_,qH ?_,qH ?_,?_⟩
  all_goals first
   | exact jA _ _ _
   | exact ((O.put 0 _).put 1 _)
   | exact ((D.put 0 _).put 1 _)
   | exact (RA m.out (by first | omega | (simp;done) | (simp;omega))).alloc _
   | exact ME (RA m.out (by first | omega | (simp;done) | (simp;omega))) (CE D m.out (by decide))
   | exact ME (RA m.out (by first | omega | (simp;done) | (simp;omega))) (CE O m.out (by decide))
   | exact (RA (mA m.out n) (by first | omega | (simp;done) | (simp;omega))).alloc _
   | exact ME (RA (mA m.out n) (by first | omega | (simp;done) | (simp;omega))) (CE D (mA m.out n) (by decide))
   | exact ME (RA (mA m.out n) (by first | omega | (simp;done) | (simp;omega))) (CE O (mA m.out n) (by decide))
   | exact (RA (mA m.out (((eA _ _).alloc _).same n)) (by first | omega | (simp;done) | (simp;omega))).alloc _
   | exact ME (RA (mA m.out (((eA _ _).alloc _).same n)) (by first | omega | (simp;done) | (simp;omega))) (CE D (mA m.out (((eA _ _).alloc _).same n)) (by decide))
   | exact ME (RA (mA m.out (((eA _ _).alloc _).same n)) (by first | omega | (simp;done) | (simp;omega))) (CE O (mA m.out (((eA _ _).alloc _).same n)) (by decide))
   | exact (RA (mA m.out (((eA _ _).drew).same n)) (by first | omega | (simp;done) | (simp;omega))).alloc _
   | exact ME (RA (mA m.out (((eA _ _).drew).same n)) (by first | omega | (simp;done) | (simp;omega))) (CE D (mA m.out (((eA _ _).drew).same n)) (by decide))
   | exact ME (RA (mA m.out (((eA _ _).drew).same n)) (by first | omega | (simp;done) | (simp;omega))) (CE O (mA m.out (((eA _ _).drew).same n)) (by decide))
   | exact (RA (mA m.out ((((eA _ _).alloc _).drew).same n)) (by first | omega | (simp;done) | (simp;omega))).alloc _
   | exact ME (RA (mA m.out ((((eA _ _).alloc _).drew).same n)) (by first | omega | (simp;done) | (simp;omega))) (CE D (mA m.out ((((eA _ _).alloc _).drew).same n)) (by decide))
   | exact ME (RA (mA m.out ((((eA _ _).alloc _).drew).same n)) (by first | omega | (simp;done) | (simp;omega))) (CE O (mA m.out ((((eA _ _).alloc _).drew).same n)) (by decide))
   | exact (RA l.out (by first | omega | (simp;done) | (simp;omega))).alloc _
   | exact ME (RA l.out (by first | omega | (simp;done) | (simp;omega))) (CE D l.out (by decide))
   | exact ME (RA l.out (by first | omega | (simp;done) | (simp;omega))) (CE O l.out (by decide))
   | exact (RA (mA l.out n) (by first | omega | (simp;done) | (simp;omega))).alloc _
   | exact ME (RA (mA l.out n) (by first | omega | (simp;done) | (simp;omega))) (CE D (mA l.out n) (by decide))
   | exact ME (RA (mA l.out n) (by first | omega | (simp;done) | (simp;omega))) (CE O (mA l.out n) (by decide))
   | exact (RA (mA l.out (((eA _ _).alloc _).same n)) (by first | omega | (simp;done) | (simp;omega))).alloc _
   | exact ME (RA (mA l.out (((eA _ _).alloc _).same n)) (by first | omega | (simp;done) | (simp;omega))) (CE D (mA l.out (((eA _ _).alloc _).same n)) (by decide))
   | exact ME (RA (mA l.out (((eA _ _).alloc _).same n)) (by first | omega | (simp;done) | (simp;omega))) (CE O (mA l.out (((eA _ _).alloc _).same n)) (by decide))
   | exact (RA (mA l.out (((eA _ _).drew).same n)) (by first | omega | (simp;done) | (simp;omega))).alloc _
   | exact ME (RA (mA l.out (((eA _ _).drew).same n)) (by first | omega | (simp;done) | (simp;omega))) (CE D (mA l.out (((eA _ _).drew).same n)) (by decide))
   | exact ME (RA (mA l.out (((eA _ _).drew).same n)) (by first | omega | (simp;done) | (simp;omega))) (CE O (mA l.out (((eA _ _).drew).same n)) (by decide))
   | exact (RA (mA l.out ((((eA _ _).alloc _).drew).same n)) (by first | omega | (simp;done) | (simp;omega))).alloc _
   | exact ME (RA (mA l.out ((((eA _ _).alloc _).drew).same n)) (by first | omega | (simp;done) | (simp;omega))) (CE D (mA l.out ((((eA _ _).alloc _).drew).same n)) (by decide))
   | exact ME (RA (mA l.out ((((eA _ _).alloc _).drew).same n)) (by first | omega | (simp;done) | (simp;omega))) (CE O (mA l.out ((((eA _ _).alloc _).drew).same n)) (by decide))
   | exact OJ (by assumption) _
   | exact CC (CC (by assumption) (by first | omega | (simp;done) | (simp;omega)) _) (by first | omega | (simp;done) | (simp;omega)) _
   | omega
   | (simp;done)
   | (simp;omega)
 obtain ⟨g,X,R,Z,T,rfl,S,ce,cf,KS,hg⟩:=hcut;clear bo H1 H2 cn;have p0:wc.cell? ⟨g,0,none⟩=some (.slice X B R):=S.out.cell 0;go_wp2_with fail;clear p0;go_loopg [17] B (fun gh ix wr=>∃ (i:Nat) (I:List ND),B-i=gh/\i<=B/\ix=.int .i64 i/\Hid (I.length=i)/\Hid (I.map ND.dat=(ns.take i).map fun x=>canN x.dat)/\Hid (∀ x∈I,WE wr r.heap.size x)/\Hid (I.Pairwise ND.Apart/\∀ x∈I,x.Fine) /\
  Hid (wr.ownsRow r.heap.size 56 3 (.slice X B R) B ((I++ns.drop i).flatMap ND.cells))/\Hid (wr.ownsRow r.heap.size 60 5 (.slice Z t T) t (rs.flatMap RL.cells))/\Hid (Blk wr g 26 #[.slice X B R,.slice Z t T])/\Hid (Same r wr))
 case atStart=>exact ⟨0,[],rfl,oA _,rfl,qH rfl,qH rfl,qH (by simp),qH ⟨List.Pairwise.nil,by simp⟩,ce,cf,S,KS⟩
 clear S ce cf KS;obtain ⟨i,I,rfl,hi,rfl,KL,KD,KE,KA,KN,KR,S,KS⟩:=hrel;have p0:wr.cell? ⟨g,0,none⟩=some (.slice X B R):=S.out.cell 0;by_cases a8:i<B
 · obtain ⟨x,hx⟩:∃ x,ns[i]?=some x:=⟨_,FA (by rw [ay.out];exact a8)⟩
   have A:x∈ns:=OC hx;have P:=KN.out;rw [ZvH hx] at P;obtain ⟨g1,rfl,hB,da,_,am,an,_,_⟩:=kO P KL.out;have bp:=qH ((a7.out.same KS.out).nodes.lab x A);have b2:=qH (a7.out.nodes.pro x A);have b3:=qH (a7.out.nodes.id x A);have a9:=qH (HZ.out.ns x A);have b4:=qH (HU.out.np x A);have b5:=qH (show (ns.take (i+1)).map (fun x=>canN x.dat)=(ns.take i).map (fun x=>canN x.dat)++[canN x.dat] from by rw [eD,hx];simp);have HO:=qH P;have d4:=KS.out.size;obtain ⟨c0,cx,cy⟩:=am;clear hx A P an;go_upto_region 6 with fail;go_wp2_with fail;refine (fY wr bp.out (by have:=a9.out.nL;omega)).mono ?_;rintro e w2 ⟨Y,d,rfl,HY,L⟩;clear c0 cx cy p0;obtain ⟨_,s,_,bk,_,cg,ch,s4,_⟩:=kO (mA HO.out L) KL.out;injection s with s
   injection s with s _ _
   subst s;have co:=L.size;have h4:(w2.setCell ⟨g1,i*3+1,none⟩ (.slice Y x.nL d)).ownsRow r.heap.size 56 3 (.slice (some ⟨g1,0,none⟩) B R) B ((I++{ x with AL:=Y,cL:=d,labels:=nH x.labels }::ns.drop (i+1)).flatMap ND.cells):=s4 Y d _;have bq:(Value.slice Y x.nL d).ownBlock≠some g1:=fun e=>by have:=(HY.out.lt _ e).1;omega
   have a1:=(eA (fun b=>b=g1) w2).put1 (i:=i*3+1) (.slice Y x.nL d);have b6:=LA (mA HO.out L) (g:=g1) rfl;have ai:g≠g1:=fun e=>by have u:=(S.out.same L).ne_own (mA HO.out L) (by decide);exact u (by rw [e];rfl)
   have ao:Hid (∀ y∈I,(∀ k,(Value.slice y.AL y.nL y.cL).ownBlock=some k->¬ (Value.slice Y x.nL d).ownBlock=some k)/\∀ z∈y.props,∀ k,(Value.slice z.A2 z.n2 z.c2).ownBlock=some k->¬ (Value.slice Y x.nL d).ownBlock=some k):=qH fun y c=>⟨fun k o U=>by have u:=(HY.out.lt k U).1;have h2:=((KE.out y c).lab.lt k o).2;omega,fun z hz k o U=>by have u:=(HY.out.lt k U).1;have h2:=(((KE.out y c).pro.each z hz).texts.lt k o).2;omega⟩
   have aa:Hid (∀ y∈I,∀ k,y.blocks k->k<wr.heap.size):=qH fun y c k o=>((KE.out y c).blk o).2;have br:Hid (∀ k,(Value.slice Y x.nL d).ownBlock=some k->wr.heap.size<=k):=qH fun k o=>(HY.out.lt k o).1;have cp:wr.heap.size<=(w2.setCell ⟨g1,i*3+1,none⟩ (.slice Y x.nL d)).heap.size:=tA co a1.size;have b7:=qH h4;have ab:=qH (GA (RA (base':=r.heap.size) HY.out (by omega)) a1 fun k o U=>bq (by rw [o,U]));have bs:=qH (fun y c=>((KE.out y c).same L).type a1 (fun k _ o=>by rw [o];exact b6) (by decide) (by decide) (by decide));have bt:=qH (ZE (mA KR.out L) a1 (fun k _ o=>by rw [o];exact b6) (by decide));have b8:=qH ((S.out.same L).upd a1 ai);have bu:=qH ((KS.out.same L).trans a1 fun b hb U=>by subst U;omega);obtain ⟨e0,e1,e2⟩:=cg;obtain ⟨f0,f1,f2⟩:=ch;clear L s4 h4 bq a1 b6 S KE KR KS KN HO HY bp;go_upto_region 7 with fail;clear e0 e1 e2 f0 f1 f2;generalize w2.setCell ⟨g1,i*3+1,none⟩ (.slice Y x.nL d)=w3 at *;obtain ⟨_,s,_,db,_,au,ci,_,_⟩:=kO b7.out KL.out;injection s with s
   injection s with s _ _
   subst s;have e1:w3.cell? ⟨g1,i*3+1,none⟩=some (.slice Y x.nL d):=au.2.1;clear au ci;go_wp2_with fail;refine (ZmQ w3 ab.out (by have:=a9.out.nL;omega)).mono ?_;rintro e w4 ⟨rfl,cj,M⟩;clear e1;have ac:∀ k,k<w3.heap.size->(Value.slice Y x.nL d).ownBlock=some k->OfT w3 9 k:=fun k _ o=>LA ab.out o;have aj:=qH (ZE b7.out M ac (by decide));have bv:Hid (∀ y∈I,WE w4 r.heap.size y):=qH fun y c=>by
    have u:=bs.out y c;refine ⟨GA u.lab M fun k o U=>?_,⟨ZE u.pro.row M ac (by decide),fun z hz=>⟨ZE (u.pro.each z hz).nums M ac (by decide),GA (u.pro.each z hz).texts M fun k o U=>?_,(u.pro.each z hz).fits⟩⟩,u.id⟩
    · have:=ao.out y c;exact this.1 k o U
    have:=ao.out y c;exact this.2 z hz k o U
   have bw:=qH (ZE bt.out M ac (by decide));have bx:=qH (b8.out.upd M fun U=>b8.out.ne_own ab.out (by decide) U);have d0:wr.heap.size<=w4.heap.size:=tA cp M.size;have ak:=qH (bu.out.trans M fun b hb U=>by have:=(ab.out.lt b U).1;omega);have b9:=qH cj;clear cj M ac b7 bs bt b8 bu ab;obtain ⟨_,s,_,dc,_,av,ck,_,_⟩:=kO aj.out KL.out;injection s with s
   injection s with s _ _
   subst s;have e2:w4.cell? ⟨g1,i*3+2,none⟩=some (.slice x.AP x.nP x.cP):=av.2.2;clear av ck;go_wp2_with fail;refine (gY w4 (b2.out.same ak.out) a9.out.pro.small b4.out).mono ?_;rintro e w5 ⟨V,W,C,rfl,bl,a0,af,G⟩;clear e2;have cq:Hid (ND.Fine ⟨x.id,nH x.labels,Y,x.nL,d,C,V,x.nP,W⟩):=qH ⟨af.out,fun k o p hp hb=>by have u:=(b9.out.lt k o).2;have h2:=((a0.out.each p hp).blk hb).1;omega⟩
   have al:Hid (∀ k,ND.blocks ⟨x.id,nH x.labels,Y,x.nL,d,C,V,x.nP,W⟩ k->wr.heap.size<=k):=qH fun k o=>by
    rcases o with o | o
    · exact br.out k o
    have:=(a0.out.blk o).1;omega
   obtain ⟨_,s,_,cz,_,a3,a4,_,s5⟩:=kO (mA aj.out G) KL.out;injection s with s
   injection s with s _ _
   subst s;have d5:=ak.out.size;have h6:(w5.setCell ⟨g1,i*3+2,none⟩ (.slice V x.nP W)).ownsRow r.heap.size 56 3 (.slice (some ⟨g1,0,none⟩) B R) B ((I++⟨x.id,nH x.labels,Y,x.nL,d,C,V,x.nP,W⟩::ns.drop (i+1)).flatMap ND.cells):=s5 V W C;have q:=(eA (fun b=>b=g1) w5).put1 (i:=i*3+2) (.slice V x.nP W);have ad:=LA (mA aj.out G) (g:=g1) rfl;have E:∀ k,k<w5.heap.size->k=g1->OfT w5 56 k:=fun k _ o=>by rw [o];exact ad
   have ba:=qH h6;have bb:=qH (fun y c=>((bv.out y c).same G).type q E (by decide) (by decide) (by decide));have cr:=qH (ZE (mA bw.out G) q E (by decide));have bc:=qH ((bx.out.same G).upd q ai);have bd:=qH ((ak.out.same G).trans q fun b hb U=>by subst U;omega);have bf:=qH (show WE _ r.heap.size ⟨x.id,nH x.labels,Y,x.nL,d,C,V,x.nP,W⟩ from ⟨ZE (mA b9.out G) q E (by decide),(a0.out.base (B':=r.heap.size) (by omega)).type q E (by decide) (by decide) (by decide),b3.out⟩);obtain ⟨e0,e1,e2⟩:=a3;obtain ⟨f0,f1,f2⟩:=a4;clear G s5 h6 q ad E aj bv bw bx ak b9 a0;go_upto_region 9 with fail;clear e0 e1 e2 f0 f1 f2;generalize w5.setCell ⟨g1,i*3+2,none⟩ (.slice V x.nP W)=w6 at *;go_wp2;go_roundg (B-(i+1))
   case measure=>omega
   refine ⟨i+1,I++[⟨x.id,nH x.labels,Y,x.nL,d,C,V,x.nP,W⟩],rfl,by omega,by go_num,qH (by rw [kA,KL.out];rfl),qH ?_,qH fun y c=>?_,qH ⟨RT KA.1 fun y c k u h2=>by have h3:=aa.out y c k u;have h4:=al.out k h2;omega,fun y c=>?_⟩,qH (by rw [vA];exact ba.out),cr,bc,bd⟩
   · rw [DB,KD.out,b5.out];simp only [CB,TG,ND.dat,canN,bl.out]
   · rcases YB.1 c with c | c
     · exact bb.out y c
     obtain rfl:=QB.1 c;exact bf.out
   rcases YB.1 c with c | c
   · exact KA.2 y c
   obtain rfl:=QB.1 c;exact cq.out
 obtain rfl:i=B:=by omega
 have P:=KN.out;rw [BC (by rw [ay.out];exact lA _),ZC] at P;have hD:=KD.out;rw [cB (by rw [ay.out];exact lA _)] at hD;have bz:=qH P;have c3:=qH hD;have p1:wr.cell? ⟨g,1,none⟩=some (.slice Z t T):=S.out.cell 1;clear P hD KN KD p0 a8 hi;obtain ⟨wo,rfl⟩:∃ wo:World,wo=wr:=⟨_,rfl⟩
 have cs:Hid (∀ x∈I,∀ k,x.blocks k->k<wo.heap.size):=qH fun y c k o=>((KE.out y c).blk o).2;go_wp2_with fail;clear p1;go_loopg [49] t (fun gh ix H=>∃ (j:Nat) (l2:List RL),t-j=gh/\j<=t/\ix=.int .i64 j/\Hid (l2.length=j)/\Hid (l2.map RL.dat=(rs.take j).map fun x=>canR x.dat)/\Hid (∀ y∈l2,yF H r.heap.size y)/\Hid (l2.Pairwise RL.Apart/\(∀ y∈l2,y.props.Pairwise PR.Apart)/\∀ y∈l2,∀ k,y.blocks k->wo.heap.size<=k)/\wo.heap.size<=H.heap.size/\Hid (∀ x∈I,WE H r.heap.size x) /\
  Hid (H.ownsRow r.heap.size 56 3 (.slice X i R) i (I.flatMap ND.cells))/\Hid (H.ownsRow r.heap.size 60 5 (.slice Z t T) t ((l2++rs.drop j).flatMap RL.cells))/\Hid (Blk H g 26 #[.slice X i R,.slice Z t T])/\Hid (Same r H))
 case atStart=>exact ⟨0,[],rfl,oA _,rfl,qH rfl,qH rfl,qH (by simp),qH ⟨List.Pairwise.nil,by simp,by simp⟩,lA _,KE,bz,KR,S,KS⟩
 clear KE bz KR S KS;obtain ⟨j,l2,rfl,hj,rfl,bm,bn,KF,a6,cl,KE,KN,KR,S,KS⟩:=hrel;by_cases a8:j<t
 · obtain ⟨x,hx⟩:∃ x,rs[j]?=some x:=⟨_,FA (by rw [az.out];exact a8)⟩
   have A:x∈rs:=OC hx;have P:=KR.out;rw [ZvI hx] at P;obtain ⟨g2,rfl,hB,bk,_,am,an,s5⟩:=iY P bm.out;have b2:=qH (a7.out.rels.pro x A);have b3:=qH (a7.out.rels.id x A);have a9:=qH (HZ.out.rs x A);have b4:=qH (HU.out.rp x A);have b5:=qH (show (rs.take (j+1)).map (fun x=>canR x.dat)=(rs.take j).map (fun x=>canR x.dat)++[canR x.dat] from by rw [eD,hx];simp);have HO:=qH P;have c4:=qH am;have d6:=qH an;have ai:g≠g2:=fun e=>S.out.ne_own P (by decide) (by rw [e];rfl);have d7:(0:Int)<=(j:Int):=by omega
   have d8:(j:Int)<(t:Int):=by omega
   clear hx A P am an s5;go_upto_region 13 with fail;have s0:Same wr wr.drew:=(eA _ wr).drew;refine eE 12 (fun H=>H.cell? ⟨g,1,none⟩=some (.slice (some ⟨g2,0,none⟩) t T)/\H.cell? ⟨g2,j*5+4,none⟩=some (.slice x.AP x.nP x.cP)) (by kernel_rfl) (jY S c4 bk s0) (fun ag=>?_)
   repeat
    first
     | refine EA (v:=?_) 0 rfl ?_ ?_
     | refine EA (v:=?_) 1 rfl ?_ ?_
     | refine EA (v:=?_) 2 rfl ?_ ?_
     | refine EA (v:=?_) 3 rfl ?_ ?_
     | refine EA (v:=?_) 4 rfl ?_ ?_
     | refine EA (v:=?_) 5 rfl ?_ ?_
     | refine EA (v:=?_) 6 rfl ?_ ?_
     | refine EA (v:=?_) 7 rfl ?_ ?_
     | refine EA (v:=?_) 8 rfl ?_ ?_
    rotate_left
    · intro H ah;obtain ⟨h0,u⟩:=ah;go_simp;try with_reducible rfl
    simp only [Act.put,zA]
   refine tG (rs:=[9]) (by decide +kernel) (by decide +kernel) ?_;refine JD rfl (fun K hK=>?_) RD;go_simp;refine (gY _ (b2.out.same (KS.out.same s0)) a9.out.pro.small b4.out).mono ?_;rintro e w5 ⟨V,W,C,rfl,bl,a0,af,G⟩;have al:Hid (∀ k,RL.blocks ⟨x.id,x.type,x.src,x.dst,C,V,x.nP,W⟩ k->wr.heap.size<=k):=qH fun k o=>by have:=(a0.out.blk o).1;simp only [DK] at this;exact this
   have s5:Same wr w5:=s0.same G;have d9:=KS.out.size;have c6:=qH (a0.out.base (B':=r.heap.size) (by simp only [DK];omega));clear a0 G;go_wp2_with fail;refine hK.out _ _ (jY S c4 bk s5) (fun ag=>?_);clear hK K;refine EA (v:=?_) 10 rfl ?_ ?_;rotate_left
   · intro H ah;obtain ⟨h0,u⟩:=ah;go_simp;try with_reducible rfl
   simp only [Act.put,zA];refine EA (v:=?_) 11 rfl ?_ ?_;rotate_left
   · intro H ah;obtain ⟨h0,u⟩:=ah;go_simp;try with_reducible rfl
   simp only [Act.put];have bg:=mA HO.out s5;obtain ⟨_,s,_,cz,_,a3,a4,t5⟩:=iY bg bm.out;injection s with s
   injection s with s _ _
   subst s;have h6:(w5.setCell ⟨g2,j*5+4,none⟩ (.slice V x.nP W)).ownsRow r.heap.size 60 5 (.slice (some ⟨g2,0,none⟩) t T) t ((l2++⟨x.id,x.type,x.src,x.dst,C,V,x.nP,W⟩::rs.drop (j+1)).flatMap RL.cells):=t5 V W C;have q:=(eA (fun b=>b=g2) w5).put1 (i:=j*5+4) (.slice V x.nP W);have ad:=LA bg (g:=g2) rfl;have E:∀ k,k<w5.heap.size->k=g2->OfT w5 60 k:=fun k _ o=>by rw [o];exact ad
   have ba:=qH h6;have ct:=qH (fun y c=>((KF.out y c).same s5).type q E (by decide) (by decide) (by decide));have bb:=qH (fun y c=>((KE.out y c).same s5).type q E (by decide) (by decide) (by decide));have cu:=qH (ZE (mA KN.out s5) q E (by decide));have bc:=qH ((S.out.same s5).upd q ai);have c7:wo.heap.size<=(w5.setCell ⟨g2,j*5+4,none⟩ (.slice V x.nP W)).heap.size:=tA (tA cl s5.size) q.size;have aa:Hid (∀ y∈l2,∀ k,y.blocks k->k<wr.heap.size):=qH fun y c k o=>((KF.out y c).blk o).2;have bd:=qH ((KS.out.same s5).trans q fun b hb U=>by subst U;omega);have bf:=qH (show yF _ r.heap.size ⟨x.id,x.type,x.src,x.dst,C,V,x.nP,W⟩ from ⟨c6.out.type q E (by decide) (by decide) (by decide),b3.out⟩);have r3:w5.cell? ⟨g2,j*5+4,none⟩=some (.slice x.AP x.nP x.cP):=a3.2.2.2.2;have z3:w5.frozen? ⟨g2,j*5+4,none⟩=false:=a4.2.2.2.2;clear bg a3 a4 t5 h6 q ad E;refine CI (by decide +kernel) (by decide +kernel) rfl (fun K hK=>?_) _;go_simp;refine hK.out _ _ ?_;clear hK K r3 z3 ag s0 s5;generalize w5.setCell ⟨g2,j*5+4,none⟩ (.slice V x.nP W)=w6 at *;go_wp2;go_roundg (t-(j+1))
   case measure=>omega
   refine ⟨j+1,l2++[⟨x.id,x.type,x.src,x.dst,C,V,x.nP,W⟩],rfl,by omega,by go_num,qH (by rw [kA,bm.out];rfl),qH ?_,qH fun y c=>?_,qH ⟨RT a6.1 fun y c k u h2=>by have h3:=aa.out y c k u;have h4:=al.out k h2;omega,fun y c=>?_,fun y c k o=>?_⟩,c7,bb,cu,qH (by rw [vA];exact ba.out),bc,bd⟩
   · rw [DB,bn.out,b5.out];simp only [CB,TG,RL.dat,canR,bl.out]
   · rcases YB.1 c with c | c
     · exact ct.out y c
     obtain rfl:=QB.1 c;exact bf.out
   · rcases YB.1 c with c | c
     · exact a6.2.1 y c
     obtain rfl:=QB.1 c;exact af.out
   rcases YB.1 c with c | c
   · exact a6.2.2 y c k o
   obtain rfl:=QB.1 c;exact tA cl (al.out k o)
 obtain rfl:j=t:=by omega
 have P:=KR.out;rw [BC (by rw [az.out];exact lA _),ZC] at P;have hD:=bn.out;rw [cB (by rw [az.out];exact lA _)] at hD;have bh:=qH P;have c8:=qH hD;have p0:wr.cell? ⟨g,0,none⟩=some (.slice X i R):=S.out.cell 0;clear P hD KR bn a8 hj;go_wp2_with fail;have c9:=qH (lO (k1:=ND.id) (k2:=ND.id) (by have u:=tB (List.map NA.id) c3.out;rw [MC,MC] at u;exact u) HU.out.ns:XA (fun a b:Int=>a<b) ND.id I);have ca:=qH (lO (k1:=RL.id) (k2:=RL.id) (by have u:=tB (List.map GRel.id) c8.out;rw [MC,MC] at u;exact u) HU.out.rs:XA (fun a b:Int=>a<b) RL.id l2);refine (Zvx wr KN.out (by omega) c9.out).mono ?_;rintro e w9 ⟨rfl,h4⟩;have bi:=qH h4;have p1:w9.cell? ⟨g,1,none⟩=some (.slice Z j T):=(S.out.same h4).cell 1;clear h4 p0;go_wp2_with fail;refine (Zvy w9 (mA bh.out bi.out) (by omega) ca.out).mono ?_;rintro e N ⟨rfl,h4⟩;have h5:=bi.out.same h4;have cb:=qH (fun y c=>(KE.out y c).same h5);have cc:=qH (fun y c=>(KF.out y c).same h5);have ap:=qH (mA KN.out h5);have aq:=qH (mA bh.out h5);have ar:=qH (S.out.same h5);have a2:=qH (KS.out.same h5);clear h4 h5 p1 bi KE KF bh S KS KN;have b0:N.cell? ⟨g,0,none⟩=some (.slice X i R):=ar.out.cell 0;have b1:N.cell? ⟨g,1,none⟩=some (.slice Z j T):=ar.out.cell 1;have ae:=ax.out.same a2.out;have q0:N.cell? ⟨w.heap.size+1,0,none⟩=some (.slice none 0 0):=ae.cell 0;have q1:N.cell? ⟨w.heap.size+1,1,none⟩=some (.slice none 0 0):=ae.cell 1;have f0:=ae.frozen 0;have f1:=ae.frozen 1;clear ae;go_wp2_with fail;have cd:=(ax.out.same a2.out).put 0 (.slice X i R) |>.put 1 (.slice Z j T);have v0:=cd.cell 0;have v1:=cd.cell 1;have hu:Upd (fun b=>b=w.heap.size+1) N ((N.setCell ⟨w.heap.size+1,0,none⟩ (.slice X i R)).setCell ⟨w.heap.size+1,1,none⟩ (.slice Z j T)):=((eA (fun b=>b=w.heap.size+1) N).put1 (i:=0) _).put1 (i:=1) _;have hT:∀ k,k<N.heap.size->k=w.heap.size+1->OfT N 26 k:=fun k _ o=>by rw [o];exact ⟨_,ax.out.same a2.out⟩
 refine LD (v:=.agg #[.slice X i R,.slice Z j T]) ?_ rfl ⟨⟨I,X,i,R,l2,Z,j,T⟩,rfl,qH ?_,qH ?_,qH ⟨KA.1,a6.1,KA.2,a6.2.1,fun y c z hz k u h2=>by have h3:=cs.out y c k u;have h4:=a6.2.2 z hz k h2;omega⟩,?_⟩
 · simp [results,Tryz.results79,go_sem,v0,v1]
 · simp only [GR.dat,tE];have e1:I.map ND.dat=sE (fun a b:Int=>a<b) NA.id ((ns.map ND.dat).map canN):=by rw [MC,show (ns.map (canN ∘ ND.dat))=ns.map (fun x=>canN x.dat) from rfl,<-c3.out];exact (RK XJ (c9.out.map (f:=ND.dat) fun _=>rfl)).symm
   have e2:l2.map RL.dat=sE (fun a b:Int=>a<b) GRel.id ((rs.map RL.dat).map canR):=by rw [MC,show (rs.map (canR ∘ RL.dat))=rs.map (fun x=>canR x.dat) from rfl,<-c8.out];exact (RK XJ (ca.out.map (f:=RL.dat) fun _=>rfl)).symm
   rw [e1,e2]
 · have cv:I.length=i:=QG ap.out RJ (by omega);have cw:l2.length=j:=QG aq.out LK (by omega);have P:OwnG N r.heap.size ⟨I,X,i,R,l2,Z,j,T⟩:=⟨⟨by rw [cv];exact ap.out,fun y c=>cb.out y c⟩,⟨by rw [cw];exact aq.out,fun y c=>cc.out y c⟩⟩
   have l:=P.base (B':=w.heap.size) (by omega);exact ⟨l.nodes.type hu hT (by decide) (by decide) (by decide) (by decide),l.rels.type hu hT (by decide) (by decide) (by decide) (by decide)⟩
 exact CC (CC (cm.out.same a2.out) (by omega) _) (by omega) _
end Go.Proofs.YtmkjfhnlnhceiaaGreatDoor
