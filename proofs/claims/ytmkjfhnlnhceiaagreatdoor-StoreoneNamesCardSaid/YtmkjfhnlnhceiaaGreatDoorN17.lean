/- Texts that the claim leans on: walks and plain laws, function by function. -/
import Derived.OrdersIn
import Derived.Test.YtmkjfhnlnhceiaaGreatDoorN10
import Derived.Test.YtmkjfhnlnhceiaaGreatDoorN16
set_option maxRecDepth 100000
set_option maxHeartbeats 16000000
namespace Go.Proofs.YtmkjfhnlnhceiaaGreatDoor
open Go.RowKit
theorem Zfy (bs:List UInt8):ZjH bs=match Zdy bs with
 | .error e=>.error e
 | .ok (k,v,z,n)=>match ZfP z n (bs.drop 16) with | .error e=>.error e | .ok rs=>.ok ⟨k,v,z,rs⟩:=by
 unfold ZjH Zdy;by_cases a:bs.length<16
 · rw [Yac a,Yac a]
 rw [Yab a,Yab a];by_cases b:bs.take 4≠ZjG
 · rw [Yac b,Yac b]
 rw [Yab b,Yab b];by_cases c:be ((bs.drop 12).take 4)≠(crcS (bs.take 12)).toNat
 · rw [Yac c,Yac c]
 rw [Yab c,Yab c];by_cases d:be ((bs.drop 6).take 2)<2\/255<be ((bs.drop 6).take 2)
 · rw [Yac d,Yac d]
 rw [Yab d,Yab d];by_cases f:65536<be ((bs.drop 8).take 4)\/bs.length≠16+be ((bs.drop 8).take 4)*be ((bs.drop 6).take 2)
 · rw [Yac f,Yac f]
 rw [Yab f,Yab f];cases hr:ZfP (be ((bs.drop 6).take 2)) (be ((bs.drop 8).take 4)) (bs.drop 16) <;> simp only [hr]
theorem Ztl {bs:List UInt8} {k v z n:Nat} (h:Zdy bs=.ok (k,v,z,n)):bs.length=16+n*z/\2<=z/\z<=255/\n<=65536/\k<=255/\v<=255:=by
 unfold Zdy at h;split at h
 · cases h
 split at h
 · cases h
 split at h
 · cases h
 split at h
 · cases h
 split at h
 · cases h
 rename_i j l m d c;have h:=Except.ok.inj h;simp only [Ydm] at h;obtain ⟨e,f,g,i⟩:=h;have a:=Zgc ((bs.drop 4).take 1);have b:=Zgc ((bs.drop 5).take 1);rw [YaJ,Yas,YdD qO] at a b;rw [e] at a;rw [f] at b;rw [g] at d c;rw [i] at c;exact ⟨qO,qO,qO,qO,qO,qO⟩
theorem Zmi {bs:List UInt8} {er:Int} (h:Zdy bs=.error er):er≠0:=by
 unfold Zdy at h;split at h
 · cases h;decide
 split at h
 · cases h;decide
 split at h
 · cases h;decide
 split at h
 · cases h;decide
 split at h
 · cases h;decide
 cases h
theorem Zmj (z:Nat):∀ (m:Nat) (b:List UInt8) (rs:List (Option (List UInt8))),(Zbn z m b).map recP=rs.map Except.ok->ZfP z m b=.ok rs
 | 0,b,rs,h=>by
   have:rs=[]:=by simpa [Zbn] using h.symm
   rw [this];rfl
 | m+1,b,rs,h=>by
   cases rs with
   | nil=>simp [Zbn] at h
   | cons r rs =>
     rw [Zbn,YaF,YaF] at h;have a:=(YcY h).1;have c:=Zmj z m _ rs (YcY h).2;rw [ZfP,a,c]
theorem Zkf (z:Nat):∀ (m:Nat) (b:List UInt8) (pre:List (List UInt8)) (x:List UInt8) (rs:List (Option (List UInt8))) (er:Int) (k:Nat),
 pre++[x]=(Zbn z m b).take k->pre.map recP=rs.map Except.ok->recP x=.error er->ZfP z m b=.error er
 | 0,b,pre,x,rs,er,k,h,_,_=>by simp [Zbn] at h
 | m+1,b,pre,x,rs,er,0,h,_,_=>by simp at h
 | m+1,b,[],x,rs,er,k+1,h,_,h2=>by rw [Zbn,YeN,YaK] at h;have a:=(YcY h).1;rw [ZfP,<-a,h2]
 | m+1,b,y::pre,x,[],er,k+1,_,a,_=>by simp at a
 | m+1,b,y::pre,x,r::rs,er,k+1,h,a,h2=>by rw [Zbn,YeN,YaE] at h;have c:=(YcY h).1;rw [YaF,YaF] at a;have d:=(YcY a).1;have e:=Zkf z m _ pre x rs er k (YcY h).2 (YcY a).2 h2;rw [ZfP,<-c,d,e]
theorem ZuA {l:List UInt8} {a:UInt8} (h:1<a.toNat):recP (a::l)=.error 93:=by simp only [recP];rw [Yac h]
theorem Ztm {l:List UInt8} {a:UInt8} (h:a.toNat=1):recP (a::l)=.ok (some l):=by simp only [recP];rw [Yab qO,Yac h]
theorem Zrx {l:List UInt8} {a:UInt8} (h:a.toNat=0) (hf:ZdE (a::l)=true):recP (a::l)=.ok none:=by
 have b:ZdE l=true:=by unfold ZdE at hf ⊢;rw [List.all_cons,Yay] at hf;exact hf.2
 simp only [recP];unfold ZdE at b;rw [Yab qO,Yab qO,Yac b]
theorem Ztn {l:List UInt8} {a:UInt8} (h:a.toNat=0) (hf:ZdE (a::l)=false):recP (a::l)=.error 94:=by
 have c:a=0:=Yel.1 (by rw [h];rfl);have b:ZdE l=false:=by unfold ZdE at hf ⊢;rw [List.all_cons,c] at hf;simpa using hf
 simp only [recP];unfold ZdE at b;rw [Yab qO,Yab qO,Yab (by rw [b];simp)]
theorem LetsOut.not {Q:Exit->Act->World->Prop} (h:∀ a w,¬ Q .outgrown a w):¬ LetsOut Q:=fun ⟨a,w,b⟩=>h a w b
abbrev Ycc:=@LetsOut.not
theorem ZiZ {l n:Nat} {P:Program} {o:Oper} {a:Act} {w:World} {K K':Act->World->Prop} {Q:Exit->Act->World->Prop} (hd:∀ c,o.op≠.defer c) (hK:∀ a w,K a w->K' a w) (h:o.wp P a w K Q):o.wpIn (Fence.wide.inRound l) n P a w K' Q:=by
 refine ⟨fun _ _=>trivial,?_⟩;rw [Oper.semAt_eq _ _ _ hd];unfold Oper.wp at h;generalize (execOp a.eval o).run P w=r at *;have b:((Fence.wide.inRound l).depth.isSome=true->1<=n):=fun h=>by simp [Fence.wide] at h
 cases r with
 | ok x w' =>
   cases x <;> simp only [Oper.upon,Oper.uponIn] at h ⊢
   all_goals first
    | exact hK _ _ h
    | exact ⟨b,(CallsIn.inRound l (YaO.2 h)).mono fun e d f=>by cases e <;> first | exact hK _ _ f | exact f⟩
    | exact ⟨b,fun c g _=>let ⟨v,d,r,s⟩:=h c g;⟨v,d,hK _ _ r,stepsIn_wide.2 s⟩⟩
    | exact h
 | halt x w' =>
   cases x <;> simp only [Oper.upon,Oper.uponIn] at h ⊢
   all_goals exact h
theorem Zcc {l n:Nat} {P:Program} {ops:Array Oper} {Q:Exit->Act->World->Prop} (hd:∀ (i:Nat) (o:Oper),ops[i]?=some o->∀ c,o.op≠.defer c) (hQ:¬ LetsOut Q):∀ (L:List Nat) (a:Act) (w:World),wpOps P ops Q L a w->wpOpsIn (Fence.wide.inRound l) n P ops Q L a w
 | [],a,w,h=>h
 | i::rest,a,w,h=>by
   unfold wpOps at h;unfold wpOpsIn;cases ho:ops[i]? with
   | none =>
     simp only [ho] at h ⊢;exact Zcc hd hQ rest a w h
   | some o =>
     simp only [ho] at h ⊢;split at h
     · rename_i b;rw [Yac b];rcases h with h | h
       · exact ZiZ (hd i o ho) (Zcc hd hQ rest) h
       exact absurd h.2 hQ
     rename_i b;rw [Yab b];exact ⟨fun _ _=>trivial,Zcc hd hQ rest _ w h⟩
def Zry (ops:Array Oper):Bool:=ops.toList.all fun o=>match o.op with | .defer _=>false | _=>true
theorem ZpQ {ops:Array Oper} (h:Zry ops=true) (i:Nat) (o:Oper) (ho:ops[i]?=some o) (c):o.op≠.defer c:=fun e=>by
 have a:=YcK.1 h o (by have:=YaX.1 ho;obtain ⟨b,d⟩:=this;rw [<- d];exact Array.getElem_mem_toList b)
 rw [e] at a;cases a
section
variable {P:Program} {ops:Array Oper} {Q:Exit->Act->World->Prop}
theorem Zar {l n:Nat} {id:Nat} {a:Act} {w:World} (k:Nat) (S:World->Prop) (hm:P.follows .mixedOrders=true) (hd:Zry ops=true) (hQ:¬ LetsOut Q) (hS:S w.drew) (h:S w.drew->ESt P .any ops Q S k ops.size (Array.replicate ops.size false) a w.drew) :
 (Code.region id ops true).wpIn (Fence.wide.inRound l) n P Q a w :=
 wpIn_region_draw fun t=>Zcc (ZpQ hd) hQ _ _ _ (by simp only [Region.schedule,hm,Bool.true_or,YcD];refine wpAny_sound ops.size t _ a _ (Zhn _ _ _ _ (h hS ?_));exact ⟨by simp,fun j d _ b=>(by rw [getD_replicate_false] at b;cases b),fun t _ c=>getD_in (by simpa using c) (getD_replicate_false _ _)⟩)
theorem ZdG {l n:Nat} {id:Nat} {b:Bool} {a:Act} {w:World} (h:(Code.region id ops b).wpIn (Fence.wide.inRound l) n P (NoPanic Q) a w):(Code.region id ops b).wpIn (Fence.wide.inRound l) n P Q a w :=
 fun b k c d f g=>let ⟨e,a',w',q,r⟩:=h b k c d f g;⟨e,a',w',NoPanic.imp _ _ _ q,r⟩
end
end Go.Proofs.YtmkjfhnlnhceiaaGreatDoor
