/- Texts that the claim leans on: walks and plain laws, function by function. -/
import Derived.Deep.RegionLaw
import Derived.Test.YtmkjfhnlnhceiaaGreatDoorN04
set_option maxRecDepth 100000
set_option maxHeartbeats 16000000
namespace Go.Proofs.YtmkjfhnlnhceiaaGreatDoor
section
def noText:ByteArray:=⟨#[]⟩
def ZaY (l:List ByteArray) (i:Int):ByteArray:=if i<0 then noText else match l[i.toNat]? with | some s=>s | none=>noText
def tokD (s:ByteArray):List UInt8:=UInt8.ofNat s.size::(s.data.toList++ZaB (40-s.size))
def ZfF (d:List UInt8):Option ByteArray :=
 if 40<(d.headD 0).toNat then none else if (d.drop (1+(d.headD 0).toNat)).all (·==0)=false then none
 else if ZiH ((d.drop 1).take (d.headD 0).toNat)=true then some ⟨((d.drop 1).take (d.headD 0).toNat).toArray⟩ else none
def ZhY:List ByteArray->List (Option (List UInt8))->Except Int (List ByteArray)
 | acc,[]=>.ok acc
 | acc,none::rs=>ZhY (acc++[noText]) rs
 | acc,some d::rs=>match ZfF d with
   | none=>.error 110
   | some s=>if acc.any (fun t=>decide (t=s))=true then .error 7 else ZhY (acc++[s]) rs
def tabP (b:List UInt8) (kind version:Nat):Except Int (List ByteArray):=match ZjH b with
 | .error e=>.error e
 | .ok f=>if f.kind≠kind\/f.size≠42 then .error 111 else if f.version≠version then .error 8 else if 200<f.recs.length then .error 66 else ZhY [] f.recs
def tabF (kind version:Nat) (names:List ByteArray):Zaz:=⟨kind,version,42,names.map fun s=>if s.size=0 then none else some (tokD s)⟩
theorem ZbX {s:ByteArray} (h:Zbj s=true):0<s.size/\s.size<=40:=by
 unfold Zbj ZiH at h;simp only [Yay,Ybc] at h;have e:s.data.toList.length=s.size:=Ycf;rw [e] at h;refine ⟨?_,h.1.1⟩;cases hl:s.data.toList with
 | nil =>
   rw [hl] at h;have:=h.1.2;simp [ZqV] at this
 | cons c l=>rw [<- e,hl];simp
theorem Zpy {s:ByteArray} (h:Zbj s=true):ZfF (tokD s)=some s:=by
 obtain ⟨g,i⟩:=ZbX h;have a:(UInt8.ofNat s.size).toNat=s.size:=by rw [UInt8.toNat_ofNat'];omega
 have e:s.data.toList.length=s.size:=Ycf;have t:(s.data.toList++ZaB (40-s.size)).take s.size=s.data.toList:=List.take_left' e;have d:(s.data.toList++ZaB (40-s.size)).drop s.size=ZaB (40-s.size):=List.drop_left' e;have b:(tokD s).drop (1+s.size)=ZaB (40-s.size):=by rw [<- Ybm];exact d
 have c:((tokD s).drop 1).take s.size=s.data.toList:=t;have f:((tokD s).headD 0).toNat=s.size:=a;unfold ZfF;rw [f,b,c,Yab qO,Yab (by simp [ZaB]),Yac (show ZiH s.data.toList=true from h)]
theorem ZkH {s:ByteArray} (h:s.size<=40):(tokD s).length=41:=by have e:s.data.toList.length=s.size:=Ycf;simp only [tokD,ZaB,Yao,Yaf,Ybk,e];omega
theorem ZlL:∀ {names acc:List ByteArray},(∀ s∈names,Zbj s=true)->(acc++names).Nodup->ZhY acc (names.map fun s=>if s.size=0 then none else some (tokD s))=.ok (acc++names)
 | [],acc,_,_=>by rw [Ybl];rfl
 | s::names,acc,h,hd=>by
   have b:=h s (by simp);have f:=(ZbX b).1;rw [YaF,Yab qO,ZhY,Zpy b];have a:¬ acc.any (fun t=>decide (t=s))=true:=fun a=>by obtain ⟨t,c,e⟩:=Yck.1 a;exact (YdU.1 hd).2.2 t c s (by simp) (by simpa using e)
   simp only;rw [Yab a,ZlL (fun x d=>h x (by simp [d])) (by simpa using hd)];simp
theorem ZqZ {kind version:Nat} {names:List ByteArray} (h1:kind<=255) (h2:version<=255) (hg:∀ s∈names,Zbj s=true) (hd:names.Nodup) (hl:names.length<=200):tabP (ZaS (tabF kind version names)) kind version=.ok names:=by
 have a:(tabF kind version names).Ok:=fun d hd=>by
  obtain ⟨s,b,e⟩:=Yba.1 hd;split at e
  · cases e
  injection e with e
  subst e;rw [ZkH (ZbX (hg s b)).2];rfl
 unfold tabP;rw [ZiF a h1 h2 (by simp [tabF]) (by simp [tabF]) (by simp only [tabF,Yag];omega)];simp only;rw [Yab (by simp [tabF]),Yab (by simp [tabF]),Yab (by simp only [tabF,Yag];omega)];exact ZlL (acc:=[]) hg (by simpa using hd)
end
section
open Go.RowKit
section
variable {α:Type} {f:α->List Value} {k:Nat}
theorem ZbY (hf:∀ x,(f x).length=k) (l:List α):(l.flatMap f).length=l.length*k:=by
 induction l with
 | nil=>simp
 | cons x l ih=>rw [Ybs,Yaf,ih,hf,Yao,Ycn];omega
theorem Zgn (hf:∀ x,(f x).length=k):∀ (l:List α) (i j:Nat) (h:i<l.length),j<k->(l.flatMap f)[i*k+j]?=(f l[i])[j]?:=by
 intro l
 induction l with
 | nil=>intro i j h;simp at h
 | cons x l ih =>
   intro i j h a;rw [Ybs];cases i with
   | zero =>
     rw [Ydl (by rw [hf];omega)];simp
   | succ i =>
     have e:(i+1)*k+j-(f x).length=i*k+j:=by rw [hf,Ycn];omega
     rw [YcA (by rw [hf,Ycn];omega),e,ih i j (by simpa using h) a];rfl
theorem WRow.atF {w:World} {F:Nat->Prop} {A:Option Addr} {n c:Nat} {l:List α} (h:WRow w F k A n c (l.flatMap f)) (hf:∀ x,(f x).length=k) (hk:0<k) {i:Nat} (hi:i<n) :
 ∃ b o x,A=some ⟨b,o,none⟩/\b<w.heap.size/\F b/\l[i]?=some x/\x∈l/\∀ j u,(f x)[j]?=some u->w.cell? ⟨b,o+i*k+j,none⟩=some u:=by
 have t:l.length=n:=by have d:=h.len;rw [ZbY hf] at d;exact YfS hk d
 have a:i<l.length:=qO;obtain ⟨b,o,m,p,q,r⟩:=(h.row qO).atK hi;refine ⟨b,o,l[i],m,p,q,Yar a,YdA a,fun j u g=>?_⟩;have e:j<k:=by have:=(Yaq.1 g).1;rw [hf] at this;exact this
 obtain ⟨v,d,s⟩:=r j e;rw [Zgn hf l i j a e,g] at d;cases d;rw [YdP];exact s
theorem WRow.lenF {w:World} {F:Nat->Prop} {A:Option Addr} {n c:Nat} {l:List α} (h:WRow w F k A n c (l.flatMap f)) (hf:∀ x,(f x).length=k) (hk:0<k):l.length=n:=by have a:=h.len;rw [ZbY hf] at a;exact YfS hk a
end
structure GPr where
 key:ByteArray
 val:GVal
structure PR where
 key:ByteArray
 g:GVal
 A1:Option Addr
 n1:Nat
 c1:Nat
 A2:Option Addr
 n2:Nat
 c2:Nat
def PR.cells (x:PR):List Value:=[.string x.key,.int .i64 x.g.kind,.int .i64 x.g.num,.string x.g.text,.slice x.A1 x.n1 x.c1,.slice x.A2 x.n2 x.c2]
def PR.dat (x:PR):GPr:=⟨x.key,x.g⟩
theorem PR.six (x:PR):x.cells.length=6:=rfl
abbrev YcM:=@PR.six
structure Zaw where
 id:Int
 labels:List ByteArray
 props:List GPr
structure ND where
 id:Int
 labels:List ByteArray
 AL:Option Addr
 nL:Nat
 cL:Nat
 props:List PR
 AP:Option Addr
 nP:Nat
 cP:Nat
def ND.cells (x:ND):List Value:=[.int .i64 x.id,.slice x.AL x.nL x.cL,.slice x.AP x.nP x.cP]
def ND.dat (x:ND):Zaw:=⟨x.id,x.labels,x.props.map PR.dat⟩
theorem ND.three (x:ND):x.cells.length=3:=rfl
abbrev Ydu:=@ND.three
structure GRel where
 id:Int
 type:ByteArray
 src:Int
 dst:Int
 props:List GPr
structure RL where
 id:Int
 type:ByteArray
 src:Int
 dst:Int
 props:List PR
 AP:Option Addr
 nP:Nat
 cP:Nat
def RL.cells (x:RL):List Value:=[.int .i64 x.id,.string x.type,.int .i64 x.src,.int .i64 x.dst,.slice x.AP x.nP x.cP]
def RL.dat (x:RL):GRel:=⟨x.id,x.type,x.src,x.dst,x.props.map PR.dat⟩
theorem RL.five (x:RL):x.cells.length=5:=rfl
abbrev YdI:=@RL.five
abbrev ZkI (n:Int):Prop := -9223372036854775808<=n/\n<=9223372036854775807
structure RdPs (w:World) (F:Nat->Prop) (A:Option Addr) (n c:Nat) (ps:List PR):Prop where
 row:WRow w F 6 A n c (ps.flatMap PR.cells)
 val:∀ x∈ps,Zdu w F x.A1 x.n1 x.c1 x.A2 x.n2 x.c2 x.g
structure RdNs (w:World) (F:Nat->Prop) (A:Option Addr) (n c:Nat) (ns:List ND):Prop where
 row:WRow w F 3 A n c (ns.flatMap ND.cells)
 lab:∀ x∈ns,WRow w F 1 x.AL x.nL x.cL (x.labels.map Value.string)
 pro:∀ x∈ns,RdPs w F x.AP x.nP x.cP x.props
 id:∀ x∈ns,ZkI x.id
structure RdRs (w:World) (F:Nat->Prop) (A:Option Addr) (n c:Nat) (rs:List RL):Prop where
 row:WRow w F 5 A n c (rs.flatMap RL.cells)
 pro:∀ x∈rs,RdPs w F x.AP x.nP x.cP x.props
 id:∀ x∈rs,ZkI x.id/\ZkI x.src/\ZkI x.dst
section
variable {w w':World} {F F':Nat->Prop} {A:Option Addr} {n c:Nat} {ps:List PR} {ns:List ND} {rs:List RL}
theorem RdPs.len (h:RdPs w F A n c ps):ps.length=n:=h.row.lenF YcM qO
theorem RdPs.upd {S:Nat->Prop} (h:RdPs w F A n c ps) (hu:Upd S w w') (hs:∀ b,F b->¬ S b):RdPs w' F A n c ps:=⟨h.row.upd hu hs,fun x a=>(h.val x a).upd hu hs⟩
theorem RdPs.same (h:RdPs w F A n c ps) (hu:Same w w'):RdPs w' F A n c ps:=h.upd hu fun _ _ f=>f
theorem RdPs.mono (h:RdPs w F A n c ps) (hf:∀ b,b<w.heap.size->F b->F' b):RdPs w F' A n c ps:=⟨h.row.mono hf,fun x a=>(h.val x a).mono hf⟩
theorem RdNs.len (h:RdNs w F A n c ns):ns.length=n:=h.row.lenF Ydu qO
theorem RdNs.upd {S:Nat->Prop} (h:RdNs w F A n c ns) (hu:Upd S w w') (hs:∀ b,F b->¬ S b):RdNs w' F A n c ns:=⟨h.row.upd hu hs,fun x a=>(h.lab x a).upd hu hs,fun x a=>(h.pro x a).upd hu hs,h.id⟩
theorem RdNs.same (h:RdNs w F A n c ns) (hu:Same w w'):RdNs w' F A n c ns:=h.upd hu fun _ _ f=>f
theorem RdNs.mono (h:RdNs w F A n c ns) (hf:∀ b,b<w.heap.size->F b->F' b):RdNs w F' A n c ns:=⟨h.row.mono hf,fun x a=>(h.lab x a).mono hf,fun x a=>(h.pro x a).mono hf,h.id⟩
theorem RdRs.len (h:RdRs w F A n c rs):rs.length=n:=h.row.lenF YdI qO
theorem RdRs.upd {S:Nat->Prop} (h:RdRs w F A n c rs) (hu:Upd S w w') (hs:∀ b,F b->¬ S b):RdRs w' F A n c rs:=⟨h.row.upd hu hs,fun x a=>(h.pro x a).upd hu hs,h.id⟩
theorem RdRs.same (h:RdRs w F A n c rs) (hu:Same w w'):RdRs w' F A n c rs:=h.upd hu fun _ _ f=>f
theorem RdRs.mono (h:RdRs w F A n c rs) (hf:∀ b,b<w.heap.size->F b->F' b):RdRs w F' A n c rs:=⟨h.row.mono hf,fun x a=>(h.pro x a).mono hf,h.id⟩
theorem RdPs.at_ (h:RdPs w F A n c ps) {i:Nat} (hi:i<n):∃ b o x,A=some ⟨b,o,none⟩/\b<w.heap.size/\F b/\ps[i]?=some x/\x∈ps /\
 w.cell? ⟨b,o+i*6,none⟩=some (.string x.key)/\w.cell? ⟨b,o+i*6+1,none⟩=some (.int .i64 x.g.kind)/\w.cell? ⟨b,o+i*6+2,none⟩=some (.int .i64 x.g.num)/\w.cell? ⟨b,o+i*6+3,none⟩=some (.string x.g.text) /\
 w.cell? ⟨b,o+i*6+4,none⟩=some (.slice x.A1 x.n1 x.c1)/\w.cell? ⟨b,o+i*6+5,none⟩=some (.slice x.A2 x.n2 x.c2):=by
 obtain ⟨b,o,x,d,e,f,j,k,a⟩:=h.row.atF YcM qO hi;exact ⟨b,o,x,d,e,f,j,k,a 0 _ rfl,a 1 _ rfl,a 2 _ rfl,a 3 _ rfl,a 4 _ rfl,a 5 _ rfl⟩
theorem RdNs.at_ (h:RdNs w F A n c ns) {i:Nat} (hi:i<n):∃ b o x,A=some ⟨b,o,none⟩/\b<w.heap.size/\F b/\ns[i]?=some x/\x∈ns /\
 w.cell? ⟨b,o+i*3,none⟩=some (.int .i64 x.id)/\w.cell? ⟨b,o+i*3+1,none⟩=some (.slice x.AL x.nL x.cL)/\w.cell? ⟨b,o+i*3+2,none⟩=some (.slice x.AP x.nP x.cP):=by
 obtain ⟨b,o,x,d,e,f,g,j,a⟩:=h.row.atF Ydu qO hi;exact ⟨b,o,x,d,e,f,g,j,a 0 _ rfl,a 1 _ rfl,a 2 _ rfl⟩
theorem RdRs.at_ (h:RdRs w F A n c rs) {i:Nat} (hi:i<n):∃ b o x,A=some ⟨b,o,none⟩/\b<w.heap.size/\F b/\rs[i]?=some x/\x∈rs /\
 w.cell? ⟨b,o+i*5,none⟩=some (.int .i64 x.id)/\w.cell? ⟨b,o+i*5+1,none⟩=some (.string x.type)/\w.cell? ⟨b,o+i*5+2,none⟩=some (.int .i64 x.src)/\w.cell? ⟨b,o+i*5+3,none⟩=some (.int .i64 x.dst)/\w.cell? ⟨b,o+i*5+4,none⟩=some (.slice x.AP x.nP x.cP):=by
 obtain ⟨b,o,x,d,e,f,g,j,a⟩:=h.row.atF YdI qO hi;exact ⟨b,o,x,d,e,f,g,j,a 0 _ rfl,a 1 _ rfl,a 2 _ rfl,a 3 _ rfl,a 4 _ rfl⟩
end
theorem ZoD:(Tryz.prog.info? 2).map (fun i=>(i.zero,i.size,i.bytes))=some (some (.int .i64 0),1,8):=by kernel_rfl
theorem Zde:(Tryz.prog.info? 9).map (fun i=>(i.zero,i.size,i.bytes))=some (some (.string ⟨#[]⟩),1,16):=by kernel_rfl
section
variable {w0 wx:World} {g1 g2:Nat} {t1 t2:TypeId} {a0 a1 a2 a3 a4 b0 b1 b2 b3 b4:Value}
end
theorem Zuh {w0:World} {E:Ending->Prop} {n:Nat} {args:Array Value} (h:∀ wx,Same w0 wx->Calls Tryz.prog n args wx fun x w'=>E x/\Same wx w') :
 ∀ wx,Same w0 wx->Calls Tryz.prog n args wx fun x w'=>E x/\Same w0 w':=fun wx a=>(h wx a).mono fun _ _ ⟨b,c⟩=>⟨b,a.same c⟩
def ZbD {α β:Type} (f:α->β->Bool):List α->List β->Bool
 | [],[]=>true
 | x::l,y::m=>f x y && ZbD f l m
 | _,_=>false
def eqS (s t:ByteArray):Bool:=s.toList==t.toList
def Zeq (p q:GPr):Bool:=eqS p.key q.key && Zgi p.val q.val
def ZhG (p q:Zaw):Bool:=decide (p.id=q.id) && ZbD eqS p.labels q.labels && ZbD Zeq p.props q.props
def ZfI (p q:GRel):Bool:=decide (p.id=q.id) && eqS p.type q.type && decide (p.src=q.src) && decide (p.dst=q.dst) && ZbD Zeq p.props q.props
theorem ZeF {α β:Type} {f:α->β->Bool}:∀ {l:List α} {m:List β},l.length≠m.length->ZbD f l m=false
 | [],[],h=>absurd rfl h
 | [],_::_,_=>rfl
 | _::_,[],_=>rfl
 | x::l,y::m,h=>by simp only [ZbD];rw [ZeF (f:=f) (l:=l) (m:=m) (by intro e;exact h (by simp [e]))];simp
theorem Zfq {α β:Type} {f:α->β->Bool} {l:List α} {m:List β} {i:Nat} {x:α} {y:β} (hx:l[i]?=some x) (hy:m[i]?=some y):ZbD f (l.drop i) (m.drop i)=(f x y && ZbD f (l.drop (i+1)) (m.drop (i+1))):=by obtain ⟨a,rfl⟩:=Yaq.1 hx;obtain ⟨b,rfl⟩:=Yaq.1 hy;rw [YbF a,YbF b];rfl
theorem ZdO {α:Type} {f:α->α->Bool} (hf:∀ x y,f x y=true↔x=y):∀ (l m:List α),ZbD f l m=true↔l=m
 | [],[]=>by simp [ZbD]
 | [],_::_=>by simp [ZbD]
 | _::_,[]=>by simp [ZbD]
 | x::l,y::m=>by simp [ZbD,hf,ZdO hf l m]
theorem Znq (s t:ByteArray):eqS s t=true↔s=t:=by unfold eqS;rw [YbE];exact Zbi s t
theorem ZjY (p q:GPr):Zeq p q=true↔p=q:=by obtain ⟨k,g⟩:=p;obtain ⟨a,b⟩:=q;simp [Zeq,Znq,ZqF]
theorem Zpz (p q:Zaw):ZhG p q=true↔p=q:=by obtain ⟨a,b,c⟩:=p;obtain ⟨d,e,f⟩:=q;simp [ZhG,ZdO Znq,ZdO ZjY,and_assoc]
theorem ZpA (p q:GRel):ZfI p q=true↔p=q:=by obtain ⟨a,b,c,d,e⟩:=p;obtain ⟨f,g,h,i,j⟩:=q;simp [ZfI,Znq,ZdO ZjY,and_assoc]
abbrev PR.agg (x:PR):Value:=.agg #[.string x.key,.int .i64 x.g.kind,.int .i64 x.g.num,.string x.g.text,.slice x.A1 x.n1 x.c1,.slice x.A2 x.n2 x.c2]
structure ZaN where
 nodes:List Zaw
 rels:List GRel
structure GR where
 ns:List ND
 AN:Option Addr
 nN:Nat
 cN:Nat
 rs:List RL
 AR:Option Addr
 nR:Nat
 cR:Nat
abbrev GR.agg (g:GR):Value:=.agg #[.slice g.AN g.nN g.cN,.slice g.AR g.nR g.cR]
def GR.dat (g:GR):ZaN:=⟨g.ns.map ND.dat,g.rs.map RL.dat⟩
structure RdG (w:World) (F:Nat->Prop) (g:GR):Prop where
 nodes:RdNs w F g.AN g.nN g.cN g.ns
 rels:RdRs w F g.AR g.nR g.cR g.rs
theorem RdG.upd {w w':World} {F S:Nat->Prop} {g:GR} (h:RdG w F g) (hu:Upd S w w') (hs:∀ b,F b->¬ S b):RdG w' F g:=⟨h.nodes.upd hu hs,h.rels.upd hu hs⟩
theorem RdG.same {w w':World} {F:Nat->Prop} {g:GR} (h:RdG w F g) (hu:Same w w'):RdG w' F g:=h.upd hu fun _ _ f=>f
theorem RdG.mono {w:World} {F F':Nat->Prop} {g:GR} (h:RdG w F g) (hf:∀ b,b<w.heap.size->F b->F' b):RdG w F' g:=⟨h.nodes.mono hf,h.rels.mono hf⟩
def ZsQ (a b:ZaN):Bool:=ZbD ZhG a.nodes b.nodes && ZbD ZfI a.rels b.rels
theorem Zra (a b:ZaN):ZsQ a b=true↔a=b:=by obtain ⟨n,r⟩:=a;obtain ⟨c,d⟩:=b;simp [ZsQ,ZdO Zpz,ZdO ZpA]
theorem ZaW {w:World} {B n c i:Nat} {e:TypeId} {A:Option Addr} {xs:List Value} (h:w.ownsRow B e 1 (.slice A n c) n xs) (hi:i<n) :
 ∃ g u,A=some ⟨g,0,none⟩/\B<=g/\g<w.heap.size/\xs[i]?=some u/\w.cell? ⟨g,i,none⟩=some u/\w.frozen? ⟨g,i,none⟩=false/\∀ u',(w.setCell ⟨g,i,none⟩ u').ownsRow B e 1 (.slice A n c) n (xs.set i u'):=by
 have q:=h.1;rcases h.2 with ⟨m,x⟩ | ⟨g,s,a,m,o,f,l,t,v,p⟩
 · omega
 injection m with h1 k h3
 subst h1 h3;have j:g<w.heap.size:=(YaX.1 f).1;have d:i<xs.length:=qO;have r:i<a.size:=qO;have b:a[i]?=some xs[i]:=by
  rw [<- Yen];have k:(a.toList.take (n*1))[i]?=some xs[i]:=by rw [p];exact Yar d
  rw [Yeh,Yac qO] at k;exact k
 refine ⟨g,xs[i],rfl,o,j,Yar d,?_,?_,fun u'=>?_⟩
 · rw [cell_of_row w g i a e (0,0) f];exact b
 · simp [World.frozen?,f]
 refine ⟨by rw [Ycg];exact q,.inr ⟨g,c,a.setIfInBounds i u',rfl,o,?_,l,t,by simpa using v,?_⟩⟩
 · simp [World.setCell,YdO,f]
 rw [Yfk,List.take_set,p]
theorem Zck {w:World} {B n c k i:Nat} {e:TypeId} {A:Option Addr} {xs:List Value} (h:w.ownsRow B e k (.slice A n c) n xs) (hi:i<n*k) :
 ∃ g u,A=some ⟨g,0,none⟩/\B<=g/\g<w.heap.size/\xs[i]?=some u/\w.cell? ⟨g,i,none⟩=some u/\w.frozen? ⟨g,i,none⟩=false/\∀ u',(w.setCell ⟨g,i,none⟩ u').ownsRow B e k (.slice A n c) n (xs.set i u'):=by
 have r:=h.1;rcases h.2 with ⟨o,v⟩ | ⟨g,x,a,o,p,j,f,y,z,q⟩
 · subst v;omega
 injection o with h1 m h3
 subst h1 h3;have l:g<w.heap.size:=(YaX.1 j).1;have d:i<xs.length:=qO;have s:n*k<=c*k:=Ycy k f;have t:i<a.size:=qO;have b:a[i]?=some xs[i]:=by
  rw [<- Yen];have m:(a.toList.take (n*k))[i]?=some xs[i]:=by rw [q];exact Yar d
  rw [Yeh,Yac hi] at m;exact m
 refine ⟨g,xs[i],rfl,p,l,Yar d,?_,?_,fun u'=>?_⟩
 · rw [cell_of_row w g i a e (0,0) j];exact b
 · simp [World.frozen?,j]
 refine ⟨by rw [Ycg];exact r,.inr ⟨g,c,a.setIfInBounds i u',rfl,p,?_,f,y,by simpa using z,?_⟩⟩
 · simp [World.setCell,YdO,j]
 rw [Yfk,List.take_set,q]
theorem ZlM:(Tryz.prog.info? 56).map (fun i=>(i.zero,i.size,i.bytes))=some (some (.agg #[.int .i64 0,.slice none 0 0,.slice none 0 0]),3,56):=by kernel_rfl
theorem Zvj (l:List ND):∀ u∈l.flatMap ND.cells,u.oneCell'=true:=by
 intro u b;obtain ⟨x,_,a⟩:=Yby.1 b;simp only [ND.cells,Yat,YcB,Ych] at a;rcases a with rfl | rfl | rfl
 all_goals rfl
theorem ZoE:(Tryz.prog.info? 60).map (fun i=>(i.zero,i.size,i.bytes))=some (some (.agg #[.int .i64 0,.string ⟨#[]⟩,.int .i64 0,.int .i64 0,.slice none 0 0]),5,64):=by kernel_rfl
theorem Zvk (l:List RL):∀ u∈l.flatMap RL.cells,u.oneCell'=true:=by
 intro u b;obtain ⟨x,_,a⟩:=Yby.1 b;simp only [RL.cells,Yat,YcB,Ych] at a;rcases a with rfl | rfl | rfl | rfl | rfl
 all_goals rfl
theorem PR.one (x:PR):∀ u∈x.cells,u.oneCell'=true:=by intro u a;simp only [PR.cells,Yat,YcB,Ych] at a;rcases a with rfl | rfl | rfl | rfl | rfl | rfl <;> rfl
theorem ND.one (x:ND):∀ u∈x.cells,u.oneCell'=true:=by intro u a;simp only [ND.cells,Yat,YcB,Ych] at a;rcases a with rfl | rfl | rfl <;> rfl
theorem RL.one (x:RL):∀ u∈x.cells,u.oneCell'=true:=by intro u a;simp only [RL.cells,Yat,YcB,Ych] at a;rcases a with rfl | rfl | rfl | rfl | rfl <;> rfl
theorem ZlN:(Tryz.prog.info? 53).map (fun i=>(i.zero,i.size,i.bytes))=some (some (.agg #[.string ⟨#[]⟩,.int .i64 0,.int .i64 0,.string ⟨#[]⟩,.slice none 0 0,.slice none 0 0]),6,96):=by kernel_rfl
theorem Zvl (l:List PR):∀ u∈l.flatMap PR.cells,u.oneCell'=true:=by intro u a;obtain ⟨x,_,b⟩:=Yby.1 a;exact x.one u b
theorem Row.pr (w:World) (x:PR):Row (w.alloc (.cells x.cells.toArray 53)) (fun b=>b=w.heap.size) 6 (some ⟨w.heap.size,0,none⟩) 1 1 x.cells :=
 Ycb (Yad w _ x.cells.toArray) rfl (Yae _) (by simp [maxLen])
theorem Row.nd (w:World) (x:ND):Row (w.alloc (.cells x.cells.toArray 56)) (fun b=>b=w.heap.size) 3 (some ⟨w.heap.size,0,none⟩) 1 1 x.cells :=
 Ycb (Yad w _ x.cells.toArray) rfl (Yae _) (by simp [maxLen])
theorem Row.rl (w:World) (x:RL):Row (w.alloc (.cells x.cells.toArray 60)) (fun b=>b=w.heap.size) 5 (some ⟨w.heap.size,0,none⟩) 1 1 x.cells :=
 Ycb (Yad w _ x.cells.toArray) rfl (Yae _) (by simp [maxLen])
structure Zce (w:World) (B:Nat) (x:PR):Prop where
 nums:w.ownsRow B 2 1 (.slice x.A1 x.n1 x.c1) x.n1 (x.g.nums.map (Value.int .i64))
 texts:w.ownsRow B 9 1 (.slice x.A2 x.n2 x.c2) x.n2 (x.g.texts.map Value.string)
 fits:x.g.Fits
structure ZbL (w:World) (B:Nat) (v:Value) (ps:List PR):Prop where
 row:w.ownsRow B 53 6 v ps.length (ps.flatMap PR.cells)
 each:∀ x∈ps,Zce w B x
structure Zeb (w:World) (B:Nat) (x:ND):Prop where
 lab:w.ownsRow B 9 1 (.slice x.AL x.nL x.cL) x.nL (x.labels.map Value.string)
 pro:ZbL w B (.slice x.AP x.nP x.cP) x.props
 id:ZkI x.id
structure ZeG (w:World) (B:Nat) (x:RL):Prop where
 pro:ZbL w B (.slice x.AP x.nP x.cP) x.props
 id:ZkI x.id/\ZkI x.src/\ZkI x.dst
structure Zew (w:World) (B:Nat) (v:Value) (ns:List ND):Prop where
 row:w.ownsRow B 56 3 v ns.length (ns.flatMap ND.cells)
 each:∀ x∈ns,Zeb w B x
structure Zex (w:World) (B:Nat) (v:Value) (rs:List RL):Prop where
 row:w.ownsRow B 60 5 v rs.length (rs.flatMap RL.cells)
 each:∀ x∈rs,ZeG w B x
section
variable {w w':World} {B B':Nat} {v:Value} {ps:List PR} {ns:List ND} {rs:List RL}
theorem Zce.upd {S:Nat->Prop} {x:PR} (h:Zce w B x) (hu:Upd S w w') (h1:∀ g,S g->(Value.slice x.A1 x.n1 x.c1).ownBlock≠some g) (h2:∀ g,S g->(Value.slice x.A2 x.n2 x.c2).ownBlock≠some g):Zce w' B x :=
 ⟨Zae h.nums hu fun g a b=>h1 g b a,Zae h.texts hu fun g a b=>h2 g b a,h.fits⟩
theorem Zce.same {x:PR} (h:Zce w B x) (hu:Same w w'):Zce w' B x:=h.upd hu (fun _ f=>f.elim) (fun _ f=>f.elim)
theorem Zce.base {x:PR} (h:Zce w B x) (hB:B'<=B):Zce w B' x:=⟨Zac h.nums hB,Zac h.texts hB,h.fits⟩
theorem ZbL.nil_ (w:World) (B:Nat):ZbL w B (.slice none 0 0) []:=⟨YaQ _ _ _ _,by simp⟩
theorem ZbL.same (h:ZbL w B v ps) (hu:Same w w'):ZbL w' B v ps:=⟨Zaa h.row hu,fun x a=>(h.each x a).same hu⟩
theorem ZbL.base (h:ZbL w B v ps) (hB:B'<=B):ZbL w B' v ps:=⟨Zac h.row hB,fun x a=>(h.each x a).base hB⟩
theorem Zeb.same {x:ND} (h:Zeb w B x) (hu:Same w w'):Zeb w' B x:=⟨Zaa h.lab hu,h.pro.same hu,h.id⟩
theorem Zeb.base {x:ND} (h:Zeb w B x) (hB:B'<=B):Zeb w B' x:=⟨Zac h.lab hB,h.pro.base hB,h.id⟩
theorem ZeG.same {x:RL} (h:ZeG w B x) (hu:Same w w'):ZeG w' B x:=⟨h.pro.same hu,h.id⟩
theorem ZeG.base {x:RL} (h:ZeG w B x) (hB:B'<=B):ZeG w B' x:=⟨h.pro.base hB,h.id⟩
theorem Zew.nil_ (w:World) (B:Nat):Zew w B (.slice none 0 0) []:=⟨YaQ _ _ _ _,by simp⟩
theorem Zex.nil_ (w:World) (B:Nat):Zex w B (.slice none 0 0) []:=⟨YaQ _ _ _ _,by simp⟩
theorem Zew.same (h:Zew w B v ns) (hu:Same w w'):Zew w' B v ns:=⟨Zaa h.row hu,fun x a=>(h.each x a).same hu⟩
theorem Zew.base (h:Zew w B v ns) (hB:B'<=B):Zew w B' v ns:=⟨Zac h.row hB,fun x a=>(h.each x a).base hB⟩
theorem Zex.same (h:Zex w B v rs) (hu:Same w w'):Zex w' B v rs:=⟨Zaa h.row hu,fun x a=>(h.each x a).same hu⟩
theorem Zex.base (h:Zex w B v rs) (hB:B'<=B):Zex w B' v rs:=⟨Zac h.row hB,fun x a=>(h.each x a).base hB⟩
def OfT (w:World) (e:TypeId) (g:Nat):Prop:=∃ cs,Blk w g e cs
theorem Zaf {base k n:Nat} {e:TypeId} {xs:List Value} (h:w.ownsRow base e k v n xs) {g:Nat} (hg:v.ownBlock=some g):OfT w e g:=by
 rcases h.2 with ⟨rfl,_⟩ | ⟨b,c,a,rfl,_,d,_⟩
 · simp [Value.ownBlock] at hg
 obtain rfl:b=g:=by simpa [Value.ownBlock] using hg
 exact ⟨a,d⟩
theorem OfT.ne {e e':TypeId} {g:Nat} (h:OfT w e g) (h':OfT w e' g):e=e':=by
 obtain ⟨c,b⟩:=h;obtain ⟨d,a⟩:=h';unfold Blk at b a;rw [b] at a;injection a with a
 injection a
theorem Zbk {S:Nat->Prop} {e e':TypeId} {base k n:Nat} {xs:List Value} (h:w.ownsRow base e k v n xs) (hu:Upd S w w') (hS:∀ g,g<w.heap.size->S g->OfT w e' g) (hne:e≠e'):w'.ownsRow base e k v n xs :=
 Zae h hu fun g a b=>hne ((Zaf h a).ne (hS g (by obtain ⟨c,d⟩:=Zaf h a;exact d.lt) b))
theorem Zce.type {S:Nat->Prop} {e':TypeId} {x:PR} (h:Zce w B x) (hu:Upd S w w') (hS:∀ g,g<w.heap.size->S g->OfT w e' g) (h1:2≠e') (h2:9≠e'):Zce w' B x :=
 ⟨Zbk h.nums hu hS h1,Zbk h.texts hu hS h2,h.fits⟩
theorem ZbL.type {S:Nat->Prop} {e':TypeId} (h:ZbL w B v ps) (hu:Upd S w w') (hS:∀ g,g<w.heap.size->S g->OfT w e' g) (h0:53≠e') (h1:2≠e') (h2:9≠e'):ZbL w' B v ps :=
 ⟨Zbk h.row hu hS h0,fun x a=>(h.each x a).type hu hS h1 h2⟩
theorem Zeb.type {S:Nat->Prop} {e':TypeId} {x:ND} (h:Zeb w B x) (hu:Upd S w w') (hS:∀ g,g<w.heap.size->S g->OfT w e' g) (h0:53≠e') (h1:2≠e') (h2:9≠e'):Zeb w' B x :=
 ⟨Zbk h.lab hu hS h2,h.pro.type hu hS h0 h1 h2,h.id⟩
theorem ZeG.type {S:Nat->Prop} {e':TypeId} {x:RL} (h:ZeG w B x) (hu:Upd S w w') (hS:∀ g,g<w.heap.size->S g->OfT w e' g) (h0:53≠e') (h1:2≠e') (h2:9≠e'):ZeG w' B x :=
 ⟨h.pro.type hu hS h0 h1 h2,h.id⟩
theorem Zew.type {S:Nat->Prop} {e':TypeId} (h:Zew w B v ns) (hu:Upd S w w') (hS:∀ g,g<w.heap.size->S g->OfT w e' g) (hn:56≠e') (h0:53≠e') (h1:2≠e') (h2:9≠e'):Zew w' B v ns :=
 ⟨Zbk h.row hu hS hn,fun x a=>(h.each x a).type hu hS h0 h1 h2⟩
theorem Zex.type {S:Nat->Prop} {e':TypeId} (h:Zex w B v rs) (hu:Upd S w w') (hS:∀ g,g<w.heap.size->S g->OfT w e' g) (hn:60≠e') (h0:53≠e') (h1:2≠e') (h2:9≠e'):Zex w' B v rs :=
 ⟨Zbk h.row hu hS hn,fun x a=>(h.each x a).type hu hS h0 h1 h2⟩
theorem ZbL.snoc {v':Value} {x:PR} (h:ZbL w B v ps) (hg:Grew w B 53 6 v (ps.length+1) (ps.flatMap PR.cells++x.cells) v' w') (hx:Zce w B x):ZbL w' B v' (ps++[x]):=by
 have b:∀ g,g<w.heap.size->v.ownBlock=some g->OfT w 53 g:=fun g _ hg=>Zaf h.row hg;refine ⟨?_,fun y a=>?_⟩
 · rw [Yaf,YbS];simpa using hg.own
 rcases YaR.1 a with a | a
 · exact (h.each y a).type hg.upd b qD qD
 obtain rfl:y=x:=by simpa using a
 exact hx.type hg.upd b qD qD
theorem Zew.snoc {v':Value} {x:ND} (h:Zew w B v ns) (hg:Grew w B 56 3 v (ns.length+1) (ns.flatMap ND.cells++x.cells) v' w') (hx:Zeb w B x):Zew w' B v' (ns++[x]):=by
 have b:∀ g,g<w.heap.size->v.ownBlock=some g->OfT w 56 g:=fun g _ hg=>Zaf h.row hg;refine ⟨?_,fun y a=>?_⟩
 · rw [Yaf,YbS];simpa using hg.own
 rcases YaR.1 a with a | a
 · exact (h.each y a).type hg.upd b qD qD qD
 obtain rfl:y=x:=by simpa using a
 exact hx.type hg.upd b qD qD qD
theorem Zex.snoc {v':Value} {x:RL} (h:Zex w B v rs) (hg:Grew w B 60 5 v (rs.length+1) (rs.flatMap RL.cells++x.cells) v' w') (hx:ZeG w B x):Zex w' B v' (rs++[x]):=by
 have b:∀ g,g<w.heap.size->v.ownBlock=some g->OfT w 60 g:=fun g _ hg=>Zaf h.row hg;refine ⟨?_,fun y a=>?_⟩
 · rw [Yaf,YbS];simpa using hg.own
 rcases YaR.1 a with a | a
 · exact (h.each y a).type hg.upd b qD qD qD
 obtain rfl:y=x:=by simpa using a
 exact hx.type hg.upd b qD qD qD
theorem ZeH {base k n c:Nat} {A:Option Addr} {e:TypeId} {xs:List Value} (h:w.ownsRow base e k (.slice A n c) n xs):WRow w (fun b=>base<=b/\b<w.heap.size) k A n c xs :=
 (Yea (Yca h) fun _ a d=>⟨d.2,a⟩).weak
theorem Zce.rd {x:PR} (h:Zce w B x):Zdu w (fun b=>B<=b/\b<w.heap.size) x.A1 x.n1 x.c1 x.A2 x.n2 x.c2 x.g :=
 ⟨ZeH h.nums,ZeH h.texts,h.fits.kind,h.fits.num,h.fits.range⟩
theorem ZbL.rd {A:Option Addr} {n c:Nat} (h:ZbL w B (.slice A n c) ps):RdPs w (fun b=>B<=b/\b<w.heap.size) A n c ps:=by
 have a:=h.row;obtain ⟨f,g,e⟩:=Zad a;injection e with e1 e2 e3
 subst e1 e3;rw [<- e2] at a;exact ⟨ZeH a,fun x d=>(h.each x d).rd⟩
theorem Zew.rd {A:Option Addr} {n c:Nat} (h:Zew w B (.slice A n c) ns):RdNs w (fun b=>B<=b/\b<w.heap.size) A n c ns:=by
 have d:=h.row;obtain ⟨f,g,e⟩:=Zad d;injection e with e1 e2 e3
 subst e1 e3;rw [<- e2] at d;exact ⟨ZeH d,fun x a=>ZeH (h.each x a).lab,fun x a=>(h.each x a).pro.rd,fun x a=>(h.each x a).id⟩
theorem Zex.rd {A:Option Addr} {n c:Nat} (h:Zex w B (.slice A n c) rs):RdRs w (fun b=>B<=b/\b<w.heap.size) A n c rs:=by
 have a:=h.row;obtain ⟨f,g,e⟩:=Zad a;injection e with e1 e2 e3
 subst e1 e3;rw [<- e2] at a;exact ⟨ZeH a,fun x d=>(h.each x d).pro.rd,fun x d=>(h.each x d).id⟩
end
structure OwnG (w:World) (B:Nat) (g:GR):Prop where
 nodes:Zew w B (.slice g.AN g.nN g.cN) g.ns
 rels:Zex w B (.slice g.AR g.nR g.cR) g.rs
section
variable {w w':World} {B B':Nat} {g:GR}
theorem OwnG.same (h:OwnG w B g) (hu:Same w w'):OwnG w' B g:=⟨h.nodes.same hu,h.rels.same hu⟩
theorem OwnG.base (h:OwnG w B g) (hB:B'<=B):OwnG w B' g:=⟨h.nodes.base hB,h.rels.base hB⟩
theorem OwnG.rd (h:OwnG w B g):RdG w (fun b=>B<=b/\b<w.heap.size) g:=⟨h.nodes.rd,h.rels.rd⟩
end
theorem Zfr {P:Program} {w:World} {F:Nat->Prop} {k:Nat} {tx e:TypeId} (ht:P.underlying tx=some (.slice e)) {A:Option Addr} {m c:Nat} {news:List Value} (h:WRow w F k A m c news) (hone:∀ u∈news,u.oneCell'=true) :
 Src P k tx (.slice A m c) m news w:=by
 by_cases b:0<m
 · exact Zbg ht (h.row b) hone
 obtain rfl:m=0:=qO;have d:news=[]:=Yco (by simpa using h.len);subst d;cases A with
 | none =>
   have f:=h.nil rfl;subst f;exact Src.ofNil w ht 0
 | some a=>exact Src.ofSlice w ht a 0 c [] (by simp) (by simp) (by simp)
theorem ZfQ {w:World} {B n c:Nat} {A:Option Addr} {bs:List UInt8} (_:bs.length=n) (h:OwnB w B (.slice A n c) bs):Zag w (fun b=>A=some ⟨b,0,none⟩/\B<=b) A n c bs:=Zir h
structure BS where
 data:List UInt8
 A:Option Addr
 n:Nat
 c:Nat
def BS.cell (x:BS):Value:=.slice x.A x.n x.c
def TyB (w:World) (B b:Nat):Prop:=B<=b/\b<w.heap.size/\∃ cs fr,w.heap[b]?=some (.cells cs 5 fr)
theorem TyB.upd {S:Nat->Prop} {w w':World} {B b:Nat} (h:TyB w B b) (hu:Upd S w w') (hs:¬ S b):TyB w' B b :=
 ⟨h.1,by have:=hu.size;have:=h.2.1;omega,by rw [hu.block b h.2.1 hs];exact h.2.2⟩
theorem TyB.base {w:World} {B B' b:Nat} (h:TyB w B b) (hB:B'<=B):TyB w B' b:=⟨Yaj hB h.1,h.2⟩
theorem TyB.ne {w:World} {B b:Nat} {e:TypeId} (h:TyB w B b) (h':OfT w e b):5=e:=by
 obtain ⟨_,_,f,g,c⟩:=h;obtain ⟨d,a⟩:=h';unfold Blk at a;rw [c] at a;injection a with a
 injection a
abbrev YdJ:=@TyB.ne
def Zau (w:World) (B:Nat) (x:BS):Prop:=Zag w (TyB w B) x.A x.n x.c x.data
structure ZcY (w:World) (B:Nat) (v:Value) (l:List BS):Prop where
 row:w.ownsRow B 39 1 v l.length (l.map BS.cell)
 each:∀ x∈l,Zau w B x
theorem Zfs:(Tryz.prog.info? 39).map (fun i=>(i.zero,i.size,i.bytes))=some (some (.slice none 0 0),1,24):=by kernel_rfl
section
variable {w w':World} {B B':Nat} {v:Value} {l:List BS} {x:BS}
theorem Zau.upd {S:Nat->Prop} (h:Zau w B x) (hu:Upd S w w') (hs:∀ b,TyB w B b->¬ S b):Zau w' B x:=(YdZ h hu hs).mono fun b _ a=>a.upd hu (hs b a)
theorem Zau.same (h:Zau w B x) (hu:Same w w'):Zau w' B x:=h.upd hu fun _ _ f=>f
theorem Zau.base (h:Zau w B x) (hB:B'<=B):Zau w B' x:=Yea h fun _ _ a=>a.base hB
theorem Zau.type {S:Nat->Prop} {e':TypeId} (h:Zau w B x) (hu:Upd S w w') (hS:∀ g,g<w.heap.size->S g->OfT w e' g) (hne:5≠e'):Zau w' B x:=h.upd hu fun b a c=>hne (a.ne (hS b a.2.1 c))
theorem Zau.of {A:Option Addr} {n c:Nat} {bs:List UInt8} (h:OwnB w B (.slice A n c) bs) (hn:bs.length=n):Zau w B ⟨bs,A,n,c⟩:=by
 refine Yea (ZfQ hn h) fun b e a=>⟨a.2,e,?_⟩
 obtain ⟨f,i⟩:=Zaf h (g:=b) (by have d:A=some ⟨b,0,none⟩:=a.1;rw [d];rfl);exact ⟨f,_,i⟩
theorem ZcY.nil_ (w:World) (B:Nat):ZcY w B (.slice none 0 0) []:=⟨YaQ _ _ _ _,by simp⟩
theorem ZcY.same (h:ZcY w B v l) (hu:Same w w'):ZcY w' B v l:=⟨Zaa h.row hu,fun x a=>(h.each x a).same hu⟩
theorem ZcY.base (h:ZcY w B v l) (hB:B'<=B):ZcY w B' v l:=⟨Zac h.row hB,fun x a=>(h.each x a).base hB⟩
theorem ZcY.type {S:Nat->Prop} {e':TypeId} (h:ZcY w B v l) (hu:Upd S w w') (hS:∀ g,g<w.heap.size->S g->OfT w e' g) (h1:5≠e') (h2:39≠e'):ZcY w' B v l :=
 ⟨Zbk h.row hu hS h2,fun x a=>(h.each x a).type hu hS h1⟩
theorem ZcY.at_ {A:Option Addr} {n c:Nat} (h:ZcY w B (.slice A n c) l) (hl:l.length=n) {i:Nat} (hi:i<n):∃ b o x,A=some ⟨b,o,none⟩/\b<w.heap.size/\l[i]?=some x/\x∈l/\w.cell? ⟨b,o+i,none⟩=some (.slice x.A x.n x.c):=by
 have f:=h.row;rw [hl] at f;have d:=Yca f;obtain ⟨x,e⟩:∃ x,l[i]?=some x:=⟨_,Yar qO⟩
 cases hA:A with
 | none =>
   have:=d.nil hA;have:=d.le;omega
 | some a =>
   obtain ⟨b,o,p⟩:=a;obtain ⟨g,j,_,k⟩:=d.cell _ hA;simp only at j g k;subst g;refine ⟨b,o,x,rfl,j,e,Ybe e,?_⟩;have:=k i x.cell (by rw [Yau,e];rfl);exact this
end
def BS.rc (x:BS):Option (List UInt8):=match x.A with | none=>none | some _=>some x.data
structure PF (w:World) (B f:Nat) (k vs z:Nat) (v:Value) (l:List BS) (low:Nat):Prop where
 base:B<=f
 blk:Blk w f 171 #[.int .i64 (k:Int),.int .i64 (vs:Int),.int .i64 (z:Int),v,.int .i64 (((l.filter fun x=>x.A.isSome).length:Nat):Int),.int .i64 (low:Int)]
 own:ZcY w B v l
 size:2<=z/\z<=255
 recs:∀ x∈l,x.A≠none->x.data.length+1=z
 len:l.length<=65536
 low:∀ i,i<low->∃ x,l[i]?=some x/\x.A≠none
def filD (k vs z:Nat) (l:List BS):Zaz:=⟨k,vs,z,l.map BS.rc⟩
theorem PF.same {w w':World} {B f k vs z low:Nat} {v:Value} {l:List BS} (h:PF w B f k vs z v l low) (hu:Same w w'):PF w' B f k vs z v l low :=
 ⟨h.base,h.blk.same hu,h.own.same hu,h.size,h.recs,h.len,h.low⟩
theorem Zft {k vs z:Nat} {l:List BS} {i:Nat}:(filD k vs z l).used i=true↔∃ x,l[i]?=some x/\x.A≠none:=by
 unfold Zaz.used filD;simp only [Yau];cases hl:l[i]? with
 | none=>simp
 | some x =>
   simp only [Ybw,Yce,exists_eq_left'];unfold BS.rc;cases x.A <;> simp
theorem Zdf (w:World) (k vs z:Nat) (hk:k<=255) (hv:vs<=255) (hz:2<=z/\z<=255):Calls Tryz.prog 52 #[.int .i64 (k:Int),.int .i64 (vs:Int),.int .i64 (z:Int)] w fun e w' =>
 e=.returned (.tuple #[.pointer (some ⟨w.heap.size,0,none⟩),.int .i64 0])/\PF w' w.heap.size w.heap.size k vs z (.slice none 0 0) [] 0/\Same w w':=by
 have a:¬ (k:Int)<0:=qO;have b:(k:Int)<=255:=qO;have c:¬ (vs:Int)<0:=qO;have d:(vs:Int)<=255:=qO;have f:¬ (z:Int)<2:=qO;have g:(z:Int)<=255:=qO;go_enter Tryz.func52,Tryz.ntmps52;go_wp2
 go_ret2
 exact ⟨rfl,⟨Yae _,Yad w _ _,ZcY.nil_ _ _,hz,by simp,by simp,by simp⟩,(Yaa _ w).alloc _⟩
section
variable {B f k vs z low:Nat} {v:Value} {l:List BS}
theorem ZhH (w:World) (h:PF w B f k vs z v l low):Calls Tryz.prog 117 #[.pointer (some ⟨f,0,none⟩)] w fun e w'=>e=.returned (.int .i64 (k:Int))/\w=w':=by have a:=h.blk.c0;clear h;go_enter Tryz.func117,Tryz.ntmps117;go_wp2;go_ret;exact ⟨rfl,rfl⟩
theorem ZeI (w:World) (h:PF w B f k vs z v l low):Calls Tryz.prog 119 #[.pointer (some ⟨f,0,none⟩)] w fun e w'=>e=.returned (.int .i64 (vs:Int))/\w=w':=by have a:=h.blk.c1;clear h;go_enter Tryz.func119,Tryz.ntmps119;go_wp2;go_ret;exact ⟨rfl,rfl⟩
theorem ZcJ (w:World) (h:PF w B f k vs z v l low):Calls Tryz.prog 118 #[.pointer (some ⟨f,0,none⟩)] w fun e w'=>e=.returned (.int .i64 (z:Int))/\w=w':=by have a:=h.blk.c2;clear h;go_enter Tryz.func118,Tryz.ntmps118;go_wp2;go_ret;exact ⟨rfl,rfl⟩
theorem ZeJ (w:World) (h:PF w B f k vs z v l low):Calls Tryz.prog 78 #[.pointer (some ⟨f,0,none⟩)] w fun e w'=>e=.returned (.int .i64 (((l.filter fun x=>x.A.isSome).length:Nat):Int))/\w=w':=by have a:=h.blk.c4;clear h;go_enter Tryz.func78,Tryz.ntmps78;go_wp2;go_ret;exact ⟨rfl,rfl⟩
theorem Zbl (w:World) (h:PF w B f k vs z v l low):Calls Tryz.prog 70 #[.pointer (some ⟨f,0,none⟩)] w fun e w'=>e=.returned (.int .i64 (l.length:Int))/\w=w':=by obtain ⟨A,c,rfl⟩:=Zad h.own.row;have a:=h.blk.c3;clear h;go_enter Tryz.func70,Tryz.ntmps70;go_wp2;go_ret;exact ⟨rfl,rfl⟩
theorem ZkJ (w:World) (h:PF w B f k vs z v l low) (i:Int):Calls Tryz.prog 195 #[.pointer (some ⟨f,0,none⟩),.int .i64 i] w fun e w'=>e=.returned (.bool (decide (0<=i) && (filD k vs z l).used i.toNat))/\w=w':=by
 obtain ⟨A,c,rfl⟩:=Zad h.own.row;have D:=h.blk.c3;by_cases s:0<=i
 · obtain ⟨n,rfl⟩:∃ n:Nat,i=(n:Int):=⟨i.toNat,qO⟩
   by_cases r:n<l.length
   · have t:(n:Int)<(l.length:Int):=qO;obtain ⟨b,o,x,rfl,G,d,j,p⟩:=h.own.at_ rfl r;cases hA:x.A with
     | none =>
       have g:(filD k vs z l).used n=false:=by
        cases hq:(filD k vs z l).used n with
        | false=>rfl
        | true =>
          obtain ⟨y,m,q⟩:=Zft.1 hq;rw [d] at m;injection m with m
          subst m;exact absurd hA q
       have u:w.cell? ⟨b,o+n,none⟩=some (.slice none 0 0):=by have C:=Row.nil (h.own.each x j) hA;have E:=Row.le (h.own.each x j);rw [p,hA,C,show x.n=0 by omega]
       clear h p d j;go_enter Tryz.func195,Tryz.ntmps195;go_wp2;go_ret;exact ⟨by simp [g],rfl⟩
     | some a =>
       have g:(filD k vs z l).used n=true:=Zft.2 ⟨x,d,by rw [hA];simp⟩;rw [hA] at p;clear h d j;go_enter Tryz.func195,Tryz.ntmps195;go_wp2;go_ret;exact ⟨by simp [g],rfl⟩
   have t:¬ (n:Int)<(l.length:Int):=qO;have g:(filD k vs z l).used n=false:=by
    cases hq:(filD k vs z l).used n with
    | false=>rfl
    | true =>
      obtain ⟨x,d,_⟩:=Zft.1 hq;exact absurd (Yaq.1 d).1 r
   clear h;go_enter Tryz.func195,Tryz.ntmps195;go_wp2;go_ret;exact ⟨rfl,rfl⟩
 have F:¬ (0<=i):=s;clear h;go_enter Tryz.func195,Tryz.ntmps195;go_wp2;go_ret;exact ⟨by rw [YaM (show ¬ 0<=i by omega)];rfl,rfl⟩
theorem ZfR (w:World) (h:PF w B f k vs z v l low) (i:Int):Calls Tryz.prog 168 #[.pointer (some ⟨f,0,none⟩),.int .i64 i] w fun e w' =>
 (Zea (filD k vs z l) i=false/\e=.returned (.tuple #[.slice none 0 0,.int .i64 3])/\w=w') \/
 (∃ x v',l[i.toNat]?=some x/\x.A≠none/\0<=i/\e=.returned (.tuple #[v',.int .i64 0])/\OwnB w' w.heap.size v' x.data/\Same w w'):=by
 have m:=qH (ZkJ w h i);obtain ⟨A,c,rfl⟩:=Zad h.own.row;have L:=h.blk.c3;by_cases d:Zea (filD k vs z l) i=true
 · have a:=d;unfold Zea at a;rw [a] at m;simp only [Yay,Ybc] at a;obtain ⟨R,r⟩:=a;obtain ⟨n,rfl⟩:∃ n:Nat,i=(n:Int):=⟨i.toNat,qO⟩
   rw [YaN] at r;obtain ⟨y,j,g⟩:=Zft.1 r;have q:=(Yaq.1 j).1;obtain ⟨b,o,x,rfl,S,s,p,T⟩:=h.own.at_ rfl q;rw [s] at j;injection j with j
   subst j;have t:=qH (h.own.each x p);have u:x.n<=140737488355328:=by have M:=Yct (h.own.each x p);have N:=h.recs x p g;have O:=h.size;omega
   have C:=qH s;have D:=qH g;have P:(n:Int)<(l.length:Int):=qO;clear h s g p d r;go_enter Tryz.func168,Tryz.ntmps168;go_wp2_with fail;refine m.mono ?_;rintro e F ⟨rfl,rfl⟩;go_wp2_with fail;refine (Zcv w t u).mono ?_;rintro e U ⟨G,rfl,H,I⟩;go_wp2
   go_ret2
   exact .inr ⟨x,G,by rw [YaN];exact C,D,qO,rfl,H,I⟩
 have d:Zea (filD k vs z l) i=false:=by simpa using d
 have a:=d;unfold Zea at a;rw [a] at m;have E:=qH d;clear h d a;go_enter Tryz.func168,Tryz.ntmps168;go_wp2_with fail;refine m.mono ?_;rintro e F ⟨rfl,rfl⟩;go_wp2
 go_ret2
 exact .inl ⟨E,rfl,rfl⟩
end
end
end Go.Proofs.YtmkjfhnlnhceiaaGreatDoor
