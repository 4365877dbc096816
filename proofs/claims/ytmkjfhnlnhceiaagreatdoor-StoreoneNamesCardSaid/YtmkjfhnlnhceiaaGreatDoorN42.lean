/- Texts that the claim leans on: walks and plain laws, function by function. -/
import Derived.Test.YtmkjfhnlnhceiaaGreatDoorN41
set_option maxRecDepth 100000
set_option maxHeartbeats 16000000
namespace Go.Proofs.YtmkjfhnlnhceiaaGreatDoor
section
structure LsI (s:St1) (head:Int) (mp0 mb0:List Nat) (k:Nat) (had:List Int) (last id:Int) (mp mb:List Nat) (out:List GPr):Prop where
 le:k<=16
 len:out.length=k
 eq:Zbe s 16 [] (-1) head mp0 mb0=match Zbe s (16-k) had last id mp mb with
  | .error e=>.error e
  | .ok (l,a,b)=>.ok (out++l,a,b)
section
variable {s:St1} {head:Int} {mp0 mb0:List Nat} {k:Nat} {had:List Int} {last id:Int} {mp mb:List Nat} {out:List GPr}
theorem LsI.start:LsI s head mp0 mb0 0 [] (-1) head mp0 mb0 []:=⟨Yah _,rfl,by simp only [YcF,YaK];rcases Zbe s 16 [] (-1) head mp0 mb0 with e | ⟨l,a,b⟩ <;> rfl⟩
theorem LsI.done (h:LsI s head mp0 mb0 k had last id mp mb out) (hi:id = -1):Zbe s 16 [] (-1) head mp0 mb0=.ok (out,mp,mb):=by
 have a:Zbe s (16-k) had last id mp mb=.ok ([],mp,mb):=by
  cases 16-k with
  | zero=>rw [Zbe,Yac hi]
  | succ n=>rw [Zbe,Yac hi]
 rw [h.eq,a];simp
theorem LsI.full (h:LsI s head mp0 mb0 k had last id mp mb out) (hi:id ≠ -1) (hk:k=16):Zbe s 16 [] (-1) head mp0 mb0=.error 64:=by subst hk;rw [h.eq,YbC,Zbe,Yab hi]
theorem LsI.err (h:LsI s head mp0 mb0 k had last id mp mb out) (hi:id ≠ -1) (hk:k<16) {er:Int} (he:Zle s had last id mp mb=.error er):Zbe s 16 [] (-1) head mp0 mb0=.error er:=by
 obtain ⟨n,a⟩:∃ n,16-k=n+1:=⟨15-k,qO⟩
 rw [h.eq,a,Zbe,Yab hi,he]
theorem LsI.step (h:LsI s head mp0 mb0 k had last id mp mb out) (hi:id ≠ -1) (hk:k<16) {x:P1} {v:GVal} {mb':List Nat} (he:Zle s had last id mp mb=.ok (x,v,mb')) :
 LsI s head mp0 mb0 (k+1) (x.key::had) id x.next (id.toNat::mp) mb' (out++[⟨ZaY s.keys x.key,v⟩]):=by
 obtain ⟨n,c⟩:∃ n,16-k=n+1:=⟨15-k,qO⟩
 refine ⟨hk,by rw [Yaf,h.len];rfl,?_⟩;rw [h.eq,c,Zbe,Yab hi,he,show 16-(k+1)=n by omega];simp only;rcases Zbe s n (x.key::had) id x.next (id.toNat::mp) mb' with e | ⟨l,a,b⟩
 · rfl
 simp
end
end
section
open Go.RowKit
structure MsN (w:World) (m:Nat) (l:List Nat) (N:Nat):Prop where
 map:∃ f,MpI w m l.length f/\∀ j:Nat,f (j:Int)=if j∈l then some (.int .i64 1) else none
 nodup:l.Nodup
 lt:∀ i∈l,i<N
 max:N<=65536
theorem Zjw {l:List Nat} {N:Nat} (h:l.Nodup) (hl:∀ i∈l,i<N):l.length<=N:=by have a:=Zcl h (U:=List.range N) fun i b=>Ycm.2 (hl i b);rwa [YeA] at a
section
variable {w w':World} {m N:Nat} {l:List Nat}
theorem MsN.upd {S:Nat->Prop} (h:MsN w m l N) (hu:Upd S w w') (hs:¬ S m):MsN w' m l N:=by obtain ⟨⟨f,a,b⟩,c,d,e⟩:=h;exact ⟨⟨f,a.upd hu hs,b⟩,c,d,e⟩
theorem MsN.same (h:MsN w m l N) (hu:Same w w'):MsN w' m l N:=h.upd hu fun f=>f
theorem MsN.ne {g:Nat} {t:TypeId} {cs:Array Value} (h:MsN w m l N) (hb:Blk w g t cs):m≠g:=by obtain ⟨⟨f,a,b⟩,c⟩:=h;exact a.ne hb
theorem MsN.made (w:World) (hN:N<=65536):MsN (w.alloc (.map #[] 0)) w.heap.size [] N:=⟨⟨_,YeE w,fun j=>by simp⟩,Yex,by simp,hN⟩
end
theorem MsN.inc {w:World} {m N:Nat} {l:List Nat} (h:MsN w m l N) {j:Nat} (hj:j<N) (hn:j ∉ l):(∀ wx,Same w wx->(Instr.lookup 71 (.map (some m)) (.int .i64 (j:Int)) false).run Tryz.prog wx=.ok (.int .i64 0) wx) /\
 ∃ w',(Instr.mapUpdate 71 (.map (some m)) (.int .i64 (j:Int)) (.int .i64 1)).run Tryz.prog w=.ok () w'/\Upd (fun b=>b=m) w w'/\MsN w' m (j::l) N /\
  ∀ wx,Same w' wx->(Instr.lookup 71 (.map (some m)) (.int .i64 (j:Int)) false).run Tryz.prog wx=.ok (.int .i64 1) wx:=by
 obtain ⟨⟨f,o,p⟩,q,r,s⟩:=h;have a : -9223372036854775808<=(j:Int)/\(j:Int)<=9223372036854775807:=qO;have n:f (j:Int)=none:=by rw [p j,Yab hn]
 have v:=Zjw q r;refine ⟨fun wx d=>?_,?_⟩
 · have c:=((o.same d).look Zbp (Zec wx) a).2;rwa [n] at c
 obtain ⟨w',t,g,u⟩:=o.store Zbp (by unfold maxLen;omega) a (.int .i64 1);rw [n] at g;refine ⟨w',t,u,⟨⟨_,g,fun i=>?_⟩,YbG.2 ⟨hn,q⟩,fun i k=>?_,s⟩,fun wx d=>?_⟩
 · unfold mpPI;by_cases e:i=j
   · rw [Yac qO,Yac (by simp [e])]
   rw [Yab qO,p i];simp [e]
 · rcases Yat.1 k with rfl | k
   · exact hj
   exact r i k
 have c:=((g.same d).look Zbp (Zec wx) a).2;rwa [show mpPI f (j:Int) (.int .i64 1) (j:Int)=some (.int .i64 1) from Yac rfl] at c
theorem MsN.twice {w:World} {m N:Nat} {l:List Nat} (h:MsN w m l N) {j:Nat} (hn:j∈l):(∀ wx,Same w wx->(Instr.lookup 71 (.map (some m)) (.int .i64 (j:Int)) false).run Tryz.prog wx=.ok (.int .i64 1) wx) /\
 ∃ w',(Instr.mapUpdate 71 (.map (some m)) (.int .i64 (j:Int)) (.int .i64 2)).run Tryz.prog w=.ok () w'/\Upd (fun b=>b=m) w w' /\
  ∀ wx,Same w' wx->(Instr.lookup 71 (.map (some m)) (.int .i64 (j:Int)) false).run Tryz.prog wx=.ok (.int .i64 2) wx:=by
 obtain ⟨⟨f,e,k⟩,n,g,s⟩:=h;have a : -9223372036854775808<=(j:Int)/\(j:Int)<=9223372036854775807:=by have:=g j hn;omega
 have i:f (j:Int)=some (.int .i64 1):=by rw [k j,Yac hn]
 have r:=Zjw n g;refine ⟨fun wx d=>?_,?_⟩
 · have c:=((e.same d).look Zbp (Zec wx) a).2;rwa [i] at c
 obtain ⟨w',o,p,q⟩:=e.store Zbp (by unfold maxLen;omega) a (.int .i64 2);refine ⟨w',o,q,fun wx d=>?_⟩;have c:=((p.same d).look Zbp (Zec wx) a).2;rwa [show mpPI f (j:Int) (.int .i64 2) (j:Int)=some (.int .i64 2) from Yac rfl] at c
def ValR (s:St1) (x:P1) (mb:List Nat) (w:World) (mB:Nat) (e:Ending) (w':World):Prop :=
 Upd (fun b=>b=mB) w w'/\match val1 s x mb with
 | .error er=>e=Zcn er
 | .ok (g,mb')=>g.Fits/\MsN w' mB mb' s.blobs.recs.length/\∃ v,e=.returned v/\Zgf w' w.heap.size v g
theorem Zlt {d:List UInt8} {x:P1} (h:getP d=some x):ZbN x=true /\ -9223372036854775808<=x.num/\x.num<=9223372036854775807:=by
 unfold getP at h;split at h
 · rename_i a;cases h;refine ⟨a.1,?_⟩;unfold Zey;simp only;split
   · exact Zgg _ (by unfold atP;exact Zfn _ 8 (Yae _))
   omega
 cases h
theorem Zsm (w:World) {B p rd mB:Nat} {q:StP} {s:St1} {mb:List Nat} {m1 m2 m3 ch mt:Value} {d:List UInt8} {x:P1} (hx:getP d=some x)
 (hs:StM w B p q s) (hr:Blk w rd 84 #[.pointer (some ⟨p,0,none⟩),m1,m2,m3,ch,mt,.map (some mB)]) (hm:MsN w mB mb s.blobs.recs.length) :
 Calls Tryz.prog 128 #[.pointer (some ⟨rd,0,none⟩),.agg x.cells] w (ValR s x mb w mB):=by
 obtain ⟨j,c⟩:=Zlt hx;simp only [ZbN,Yay] at j;have U:=Zai.1 j.2.1;by_cases o:x.kind<4
 · refine (Zqx w _ x ⟨qO,o⟩ c).mono ?_;rintro e G ⟨l,h⟩;refine ⟨l.mono fun _ _ f=>f.elim,?_⟩;unfold val1;rw [Yac o];rcases h with ⟨u,rfl⟩ | ⟨u,v,rfl,a⟩
   · rw [Yac u]
   rw [Yab (fun H=>H u)];exact ⟨⟨by simp only;omega,c,by simp⟩,hm.same l,v,rfl,a⟩
 have F : -9223372036854775808<=x.blob/\x.blob<=9223372036854775807:=by have k:=j.2.2.1;rw [Yab o,Yay] at k;have:=Zai.1 k.2;omega
 obtain ⟨⟨f,I,L⟩,E,k,M⟩:=hm;have V:=Zjw E k;refine (ZtJ w x ⟨qO,qO⟩ F hs hr ⟨I,qO,L⟩).mono ?_;rintro e G ⟨N,h⟩;refine ⟨N,?_⟩;cases a:val1 s x mb with
 | error er=>rw [a] at h;exact h
 | ok y =>
   obtain ⟨g,O⟩:=y;rw [a] at h;obtain ⟨v,z,rfl,P,R,S⟩:=h;unfold val1 at a;rw [Yab o] at a;split at a
   · cases a
   rename_i b m;split at a
   · cases a
   rename_i n;split at a
   · cases a
   rename_i T;split at a
   · cases a
   cases a;have r:x.blob.toNat<s.blobs.recs.length:=by
    unfold Zjg at m;split at m
    · cases m
    split at m
    · cases m
    rename_i A;have t:s.blobs.used x.blob.toNat=true:=by
     cases C:s.blobs.used x.blob.toNat with
     | true=>rfl
     | false=>exact absurd (.inr C) A
    unfold Zaz.used at t;split at t
    · rename_i C;exact (Yaq.1 C).1
    cases t
   refine ⟨(ZlV (YbX.1 T)).2.1,⟨⟨z,R,S⟩,YbG.2 ⟨n,E⟩,fun i D=>?_,M⟩,v,rfl,P⟩;rcases Yat.1 D with rfl | D
   · exact r
   exact k i D
attribute [local go_sem] Ybq
def ZjQ (s:St1) (i:Int):Option P1:=if i<0 then none else match s.props.at_ i.toNat with | none=>none | some d=>getP d
def PrM (w:World) (m:Nat) (s:St1):Prop:=∃ cnt f,MpI w m cnt f/\∀ i:Int,f i=(ZjQ s i).map fun x=>Value.agg x.cells
structure RdS (w0 w:World) (B p rd mP mM mB:Nat) (q:StP) (s:St1) (m1 m2 ch:Value) (mp mb:List Nat):Prop where
 st:StM w0 B p q s
 sm:Same w0 w
 lo:w0.heap.size<=mM/\w0.heap.size<=mB
 blk:Blk w rd 84 #[.pointer (some ⟨p,0,none⟩),m1,m2,.map (some mP),ch,.map (some mM),.map (some mB)]
 prop:PrM w mP s
 met:MsN w mM mp s.props.recs.length
 blob:MsN w mB mb s.blobs.recs.length
 ne:mP≠mM/\mP≠mB/\mM≠mB
 ok:∀ i d,s.props.at_ i=some d->∃ x,getP d=some x/\ZaY s.keys x.key≠noText
section
variable {w0 w w':World} {B p rd mP mM mB:Nat} {q:StP} {s:St1} {m1 m2 ch:Value} {mp mb mp' mb':List Nat}
theorem PrM.upd {S:Nat->Prop} {m:Nat} (h:PrM w m s) (hu:Upd S w w') (hs:¬ S m):PrM w' m s:=by obtain ⟨a,f,b,c⟩:=h;exact ⟨a,f,b.upd hu hs,c⟩
theorem RdS.upd {S:Nat->Prop} (h:RdS w0 w B p rd mP mM mB q s m1 m2 ch mp mb) (hu:Upd S w w') (hS:∀ b,S b->w0.heap.size<=b/\b≠rd/\b≠mP) (hm:MsN w' mM mp' s.props.recs.length) (hb:MsN w' mB mb' s.blobs.recs.length):RdS w0 w' B p rd mP mM mB q s m1 m2 ch mp' mb' :=
 ⟨h.st,h.sm.trans hu fun b hb a=>by have:=(hS b a).1;omega,h.lo,
  h.blk.upd hu fun a=>(hS _ a).2.1 rfl,h.prop.upd hu fun a=>(hS _ a).2.2 rfl,hm,hb,h.ne,h.ok⟩
theorem RdS.same (h:RdS w0 w B p rd mP mM mB q s m1 m2 ch mp mb) (hu:Same w w'):RdS w0 w' B p rd mP mM mB q s m1 m2 ch mp mb:=h.upd hu (fun _ f=>f.elim) (h.met.same hu) (h.blob.same hu)
theorem RdS.mm (h:RdS w0 w B p rd mP mM mB q s m1 m2 ch mp mb) {b:Nat} (hb:b=mM\/b=mB):w0.heap.size<=b/\b≠rd/\b≠mP:=by
 rcases hb with rfl | rfl
 · exact ⟨h.lo.1,h.met.ne h.blk,h.ne.1.symm⟩
 exact ⟨h.lo.2,h.blob.ne h.blk,h.ne.2.1.symm⟩
theorem RdS.stm (h:RdS w0 w B p rd mP mM mB q s m1 m2 ch mp mb):StM w B p q s:=h.st.same h.sm
theorem MsN.noBlk {m N:Nat} {l:List Nat} (h:MsN w m l N) {b:Nat} (e:b=m) {t:TypeId} {cs:Array Value} (hb:Blk w b t cs):False:=h.ne hb e.symm
theorem ZbL.map {S:Nat->Prop} {v:Value} {ps:List PR} (h:ZbL w B v ps) (hu:Upd S w w') (hS:∀ b,S b->∀ (t:TypeId) (cs:Array Value),Blk w b t cs->False):ZbL w' B v ps :=
 ⟨Zae h.row hu fun g a c=>by obtain ⟨cs,d⟩:=Zaf h.row a;exact hS g c _ _ d,fun x e=>(h.each x e).upd hu (fun g c a=>by obtain ⟨cs,d⟩:=Zaf (h.each x e).nums a;exact hS g c _ _ d) (fun g c a=>by obtain ⟨cs,d⟩:=Zaf (h.each x e).texts a;exact hS g c _ _ d)⟩
end
theorem Zpp:Tryz.prog.underlying 82=some (.map 3 145):=Tryz.underlying82
theorem ZvJ (w:World):(zeroValue 145).run Tryz.prog w=.ok (.agg #[.int .i64 0,.int .i64 0,.int .i64 0,.int .i64 0,.int .i64 0,.int .i64 0]) w:=by kernel_rfl
def LstR (s:St1) (head:Int) (mp mb:List Nat) (w:World) (mM mB:Nat) (e:Ending) (w':World):Prop :=
 Upd (fun b=>b=mM\/b=mB) w w'/\match Zbe s 16 [] (-1) head mp mb with
 | .error er=>e=Zcn er
 | .ok (l,mp',mb')=>MsN w' mM mp' s.props.recs.length/\MsN w' mB mb' s.blobs.recs.length/\∃ A c ps,e=.returned (.slice A l.length c)/\ZbL w' w.heap.size (.slice A l.length c) ps/\ps.map PR.dat=l
abbrev ZuS (rd p tk xb:Nat) (x:P1) (wx:World):Prop:=wx.cell? ⟨rd,0,none⟩=some (.pointer (some ⟨p,0,none⟩))/\wx.cell? ⟨p,2,none⟩=some (.pointer (some ⟨tk,0,none⟩)) /\
 wx.cell? ⟨xb,0,none⟩=some (.int .i64 x.key)/\wx.cell? ⟨xb,1,none⟩=some (.int .i64 x.kind)/\wx.cell? ⟨xb,2,none⟩=some (.int .i64 x.num)/\wx.cell? ⟨xb,3,none⟩=some (.int .i64 x.blob)/\wx.cell? ⟨xb,4,none⟩=some (.int .i64 x.prev)/\wx.cell? ⟨xb,5,none⟩=some (.int .i64 x.next)
theorem ZtK {s:St1} {had:List Int} {last i:Int} {mp mb:List Nat} (hok:∀ i d,s.props.at_ i=some d->∃ x,getP d=some x/\ZaY s.keys x.key≠noText):Zle s had last i mp mb=match ZjQ s i with
 | none=>.error 3
 | some x=>if i.toNat∈mp\/x.prev≠last then .error 101 else if x.key∈had then .error 7 else match val1 s x mb with
   | .error e=>.error e
   | .ok (v,mb)=>.ok (x,v,mb):=by
 unfold Zle ZjQ;by_cases a:i<0
 · rw [Yac a,Yac a]
 rw [Yab a,Yab a];cases hd:s.props.at_ i.toNat with
 | none=>rfl
 | some d =>
   obtain ⟨x,b,_⟩:=hok _ _ hd;simp only [b];split
   · rfl
   split
   · rfl
   rcases val1 s x mb with e | ⟨v,c⟩ <;> rfl
theorem ZtL {s:St1} {i:Int} {x:P1} (h:ZjQ s i=some x):0<=i/\∃ d,s.props.at_ i.toNat=some d/\getP d=some x:=by
 unfold ZjQ at h;split at h
 · cases h
 split at h
 · cases h
 rename_i b d a;exact ⟨qO,d,a,h⟩
theorem at_lt {f:Zaz} {i:Nat} {d:List UInt8} (h:f.at_ i=some d):i<f.recs.length:=Zek (ZdI.2 ⟨d,h⟩)
theorem Znc (w0 w:World) {B p rd mP mM mB:Nat} {q:StP} {s:St1} {m1 m2 ch:Value} {mp0 mb0:List Nat} (h:RdS w0 w B p rd mP mM mB q s m1 m2 ch mp0 mb0) (head:Int) (hhd : -1<=head/\head<65536) :
 Calls Tryz.prog 77 #[.pointer (some ⟨rd,0,none⟩),.int .i64 head] w (LstR s head mp0 mb0 w mM mB):=by
 obtain ⟨OR,ai⟩:∃ OR,LstR s head mp0 mb0 w mM mB=OR:=⟨_,rfl⟩
 have a0:Hid (∀ er W,Zbe s 16 [] (-1) head mp0 mb0=.error er->Upd (fun b=>b=mM\/b=mB) w W->OR (Zcn er) W):=qH fun er W Y h2=>by rw [<- ai];unfold LstR;rw [Y];exact ⟨h2,rfl⟩
 have bw:Hid (∀ l ax ad W A c ps,Zbe s 16 [] (-1) head mp0 mb0=.ok (l,ax,ad)->Upd (fun b=>b=mM\/b=mB) w W->MsN W mM ax s.props.recs.length->MsN W mB ad s.blobs.recs.length->ZbL W w.heap.size (.slice A l.length c) ps->ps.map PR.dat=l->OR (.returned (.slice A l.length c)) W):=qH fun l ax ad W A c ps Y h2 h3 h4 h5 h6=>by rw [<- ai];unfold LstR;rw [Y];exact ⟨h2,h3,h4,A,c,ps,rfl,h5,h6⟩
 rw [ai];clear ai;have H0:=qH h;have b5:Hid (LsI s head mp0 mb0 0 (([]:List Nat).map fun (n:Nat)=>(n:Int)) (-1) head mp0 mb0 []):=qH LsI.start;have a1:Hid (mM<w.heap.size/\mB<w.heap.size):=qH (by obtain ⟨⟨f,Y,_⟩,_⟩:=h.met;obtain ⟨⟨f',h2,_⟩,_⟩:=h.blob;exact ⟨Y.lt,h2.lt⟩)
 have an:Hid (w0.heap.size<=w.heap.size/\rd<w.heap.size/\mP<w.heap.size):=qH (by obtain ⟨bo,f,Y,_⟩:=h.prop;exact ⟨h.sm.size,h.blk.lt,Y.lt⟩)
 have b6:=qH hhd;clear h hhd;have cf:=@YcC Tryz.prog;go_enter Tryz.func77,Tryz.ntmps77;go_upto_region 2 with fail;have b7:=MsN.made (N:=200) w qO;have b8:=(Yaa (fun _=>False) w).alloc (.map #[] 0);have b9:=qH b7;have ao:=qH b8;generalize w.alloc (.map #[] 0)=w1 at *;generalize am:w.heap.size=mH at *;have C:=qH am;clear b7 b8 am;have ba:Hid (ZbL w1 mH (.slice none 0 0) []):=qH (ZbL.nil_ _ _);have H1:=qH (H0.same ao);clear H0;go_wp2_with fail;go_loopg [4,6,7] 16 (fun gh so sl si wr=>∃ (k:Nat) (hd:List Nat) (last id:Int) (mp mb:List Nat) (A:Option Addr) (c:Nat) (ps:List PR),16-k=gh/\so=.slice A k c/\sl=.int .i64 last/\si=.int .i64 id /\
  Hid (LsI s head mp0 mb0 k (hd.map fun (n:Nat)=>(n:Int)) last id mp mb (ps.map PR.dat))/\Hid (RdS w0 wr B p rd mP mM mB q s m1 m2 ch mp mb)/\Hid (MsN wr mH hd 200)/\Hid (ZbL wr mH (.slice A k c) ps)/\Hid (Upd (fun b=>b=mM\/b=mB) w wr)/\Hid (-1<=id/\id<65536))
 case atStart=>exact ⟨0,[],-1,head,mp0,mb0,none,0,[],rfl,rfl,rfl,rfl,b5,H1,b9,ba,qH (ao.mono fun _ _ f=>f.elim),b6⟩
 clear b5 H1 b9 ba ao b6;obtain ⟨k,hd,last,id,mp,mb,A,c,ps,rfl,rfl,rfl,rfl,P,KR,KH,KO,KU,KI⟩:=hrel;by_cases hid:id = -1
 · have HX:=qH (P.done hid);have HK:Hid ((ps.map PR.dat).length=k):=qH P.len;have hb:(id != -1)=false:=by simp [hid]
   clear P hid;go_wp2;refine (show OR (.returned (.slice A k c)) wr from ?_);have Y:=bw.out _ _ _ wr A c ps HX.out KU.out KR.met KR.blob;rw [HK.out] at Y;exact Y KO rfl
 have hb:(id != -1)=true:=by simp [hid]
 have D:=qH hid;clear hid;by_cases hk:k=16
 · have HX:=qH (P.full D hk);have bx:¬ (k:Int)<16:=qO;clear P hk;go_wp2_with fail;refine (Zas wr 64).mono ?_;rintro e Z ⟨rfl,rfl⟩;exact ⟨rfl,a0.out _ _ HX KU⟩
 have bb:k<16:=qt P.le;have U:=qH bb;have bx:(k:Int)<16:=qO;clear hk bb;have q0:=KR.blk.c3;have a2:Hid ((Instr.lookup 82 (.map (some mP)) (.int .i64 id) true).run Tryz.prog wr=.ok (.tuple #[((ZjQ s id).map fun x=>Value.agg x.cells).getD (.agg #[.int .i64 0,.int .i64 0,.int .i64 0,.int .i64 0,.int .i64 0,.int .i64 0]),.bool (ZjQ s id).isSome]) wr):=qH (by obtain ⟨bo,f,Y,h2⟩:=KR.prop;have h3:=(Y.look Zpp (ZvJ wr) (i:=id) (qh KI)).1;rw [h2 id,Option.isSome_map] at h3;exact h3)
 have o:=qH (ZtK (had:=hd.map fun (n:Nat)=>(n:Int)) (last:=last) (i:=id) (mp:=mp) (mb:=mb) KR.ok);have ae:Hid (∀ x,ZjQ s id=some x->0<=id/\∃ d,s.props.at_ id.toNat=some d/\getP d=some x):=qH fun x hx=>ZtL hx;cases hp:ZjQ s id with
 | none =>
   rw [hp] at a2 o;have a3:=a2.out;simp only [Option.map_none,Yfb,Ygo] at a3;have HX:=qH (P.err D U o);clear P a2 o ae hp;go_wp2_with fail;refine (ZaP wr 64).mono ?_;rintro e Z ⟨rfl,rfl⟩;go_upto_region 7 with fail;have E:=KU.alloc (.cells #[.int .i64 0,.int .i64 0,.int .i64 0,.int .i64 0,.int .i64 0,.int .i64 0] 145);have V:=qH E;generalize wr.alloc (.cells #[.int .i64 0,.int .i64 0,.int .i64 0,.int .i64 0,.int .i64 0,.int .i64 0] 145)=w3 at *;clear E;go_wp2_with fail;refine (Zas w3 3).mono ?_;rintro e Z ⟨rfl,rfl⟩;exact ⟨rfl,a0.out _ _ HX V⟩
 | some x =>
   rw [hp] at a2 o ae;obtain ⟨bp,d,aj,ay⟩:=ae.out x rfl;obtain ⟨j,rfl⟩:∃ j:Nat,id=(j:Int):=⟨id.toNat,qO⟩
   rw [YaN] at aj o;have bc:=at_lt aj;have a3:=a2.out;simp only [Ybw,Yde,Option.isSome_some] at a3;simp only at o;have ap:=qH ay;have bd:Hid (ZaY s.keys x.key≠noText):=qH (by obtain ⟨y,hy,hn⟩:=KR.ok _ _ aj;rw [ay] at hy;cases hy;exact hn)
   have bz:=qH bc;clear a2 ae hp aj ay bp bc;obtain ⟨ke,ki,nu,bl,pr,ne⟩:=x;unfold P1.cells at a3;simp only at a3 o bd;go_wp2_with fail;refine (ZaP wr 64).mono ?_;rintro e Z ⟨rfl,rfl⟩;go_upto_region 7 with fail;have E:=(Yaa (fun _=>False) wr).alloc (.cells #[.int .i64 ke,.int .i64 ki,.int .i64 nu,.int .i64 bl,.int .i64 pr,.int .i64 ne] 145);have bf:=Yad wr 145 #[.int .i64 ke,.int .i64 ki,.int .i64 nu,.int .i64 bl,.int .i64 pr,.int .i64 ne];have V:=qH E;have aq:=qH bf;generalize wr.alloc (.cells #[.int .i64 ke,.int .i64 ki,.int .i64 nu,.int .i64 bl,.int .i64 pr,.int .i64 ne] 145)=w3 at *;generalize wr.heap.size=xb at *;clear E bf a3 q0;have z:=qH (KR.same V);have bg:=qH (KH.same V);have bh:=qH (KO.same V);have ar:Hid (Upd (fun b=>b=mM\/b=mB) w w3):=qH (KU.same V);clear KR KH KO KU V;go_wp2_with fail;refine (ZaP w3 3).mono ?_;rintro e Z ⟨rfl,rfl⟩;have q5:=z.blk.c5;by_cases L:j∈mp
   · have HX:=qH (P.err D U (o.trans (Yac (.inl L))));obtain ⟨F,w4,ak,G,H⟩:=z.met.twice L;have l1:=F w3 (Yaa _ w3);have l2:=H w4 (Yaa _ w4);have q6:=(z.blk.upd G fun e=>z.met.ne z.blk e.symm).c5;have a4:Hid (Upd (fun b=>b=mM\/b=mB) w w4):=qH (ar.trans G fun _ _ e=>.inl e);clear F H G L P o;go_wp2_with fail;refine (Zas w4 101).mono ?_;rintro e Z ⟨rfl,rfl⟩;exact ⟨rfl,a0.out _ _ HX a4⟩
   obtain ⟨F,w4,ak,G,bq,H⟩:=z.met.inc bz.out L;have l1:=F w3 (Yaa _ w3);have l2:=H w4 (Yaa _ w4);have a4:Hid (Upd (fun b=>b=mM\/b=mB) w w4):=qH (ar.trans G fun _ _ e=>.inl e);have aa:=qH (z.upd G (fun b e=>z.mm (.inl e)) bq (z.blob.upd G z.ne.2.2.symm));have bi:mH≠mM:=qh a1;have X:=qH (bg.upd G bi);have bj:=qH (bh.map G fun b e t cs hb=>z.met.noBlk e hb);have M:=qH ((aq.same (Yaa (fun _=>False) w3)).upd G fun e=>z.met.noBlk e aq.out);have q6:=aa.blk.c5;have x4:=M.c4;have bk:=qH L;clear F H G bq L z bg bh ar aq bi;by_cases af:pr=last
   case neg =>
    have HX:=qH (P.err D U (o.trans (Yac (.inr af))));have cg:(pr==last)=false:=Ybn.2 af;clear P o af;go_wp2_with fail;refine (Zas w4 101).mono ?_;rintro e Z ⟨rfl,rfl⟩;exact ⟨rfl,a0.out _ _ HX a4⟩
   subst af;have o:=qH (o.trans (Yab (by rintro (h | h);exact bk h;exact h rfl)));go_wp2_with fail;refine (ZaP w4 101).mono ?_;rintro e Z ⟨rfl,rfl⟩;clear ak l1 l2 q5 q6 x4;have bm:=Zai.1 (Bool.and_eq_true_iff.1 (Zlt ap).1).1;have au:=(Zlt ap).1;simp only [ZbN,Yay] at au;have c7:=qH (Zai.1 au.2.2.2.2);clear au;simp only at bm;obtain ⟨T,rfl⟩:∃ T:Nat,ke=(T:Int):=⟨ke.toNat,qO⟩
   have c8:T<200:=qO;clear bm;have x0:=M.c0;by_cases a5:T∈hd
   · have HX:=qH (P.err D U (o.trans (Yac (Yba.2 ⟨T,a5,rfl⟩))));obtain ⟨F,I,ak,u,H⟩:=X.twice a5;have l1:=F w4 (Yaa _ w4);have l2:=H I (Yaa _ I);have c9:=(M.upd u fun e=>X.noBlk e M).c0;have a6:Hid (Upd (fun b=>b=mM\/b=mB) w I):=qH (a4.trans u fun b hb e=>qh C);clear F H u a5 P o;go_wp2_with fail;refine (Zas I 7).mono ?_;rintro e Z ⟨rfl,rfl⟩;exact ⟨rfl,a0.out _ _ HX a6⟩
   obtain ⟨F,I,ak,u,bs,H⟩:=X.inc c8 a5;have l1:=F w4 (Yaa _ w4);have l2:=H I (Yaa _ I);have c9:=(M.upd u fun e=>X.noBlk e M).c0;have o:=qH (o.trans (Yab (fun h=>a5 (by obtain ⟨a,ha,e⟩:=Yba.1 h;rwa [show a=T by omega] at ha))));have a6:Hid (Upd (fun b=>b=mM\/b=mB) w I):=qH (a4.trans u fun b hb e=>qh C);have r:=qH (aa.upd u (fun b e=>by have:=an.out;have:=C.out;omega) (aa.met.upd u (by have:=a1.out;have:=C.out;omega)) (aa.blob.upd u (by have:=a1.out;have:=C.out;omega)));have av:=qH bs;have R:=qH (bj.map u fun b e t cs hb=>X.noBlk e hb);have ag:=qH (M.upd u fun e=>X.noBlk e M);clear F H u bs a5 aa X bj a4 M;have HK:Hid (∀ O,Upd (fun b=>b=mB\/(Value.slice A k c).ownBlock=some b) I O->ZuS rd p q.tk xb ⟨(T:Int),ki,nu,bl,pr,ne⟩ O):=qH fun O hu=>by have b1:=r.blk.upd hu (by rintro (e | e);exact r.blob.noBlk e r.blk;exact r.blk.ne_own R.row qD e);have b2:=r.stm.blk.upd hu (by rintro (e | e);exact r.blob.noBlk e r.stm.blk;exact r.stm.blk.ne_own R.row qD e);have b3:=ag.upd hu (by rintro (e | e);exact r.blob.noBlk e ag;exact ag.ne_own R.row qD e);exact ⟨b1.cell 0,b2.cell 2,b3.cell 0,b3.cell 1,b3.cell 2,b3.cell 3,b3.cell 4,b3.cell 5⟩
   obtain ⟨nm,bt⟩:∃ nm,ZaY s.keys (T:Int)=nm:=⟨_,rfl⟩
   have bn:=qH bt;have HN:Hid (∀ O,Upd (fun b=>b=mB\/(Value.slice A k c).ownBlock=some b) I O->Calls Tryz.prog 73 #[.pointer (some ⟨q.tk,0,none⟩),.int .i64 (T:Int)] O fun e w'=>e=.returned (.string nm)/\O=w'):=qH fun O hu=>by
    have Y:StM O B p q s:=r.st.same (r.sm.trans hu fun b hb e=>by
     rcases e with e | e
     · have:=r.lo;omega
     have:=(R.row.lt b e).1;have:=an.out;have:=C.out;omega)
    obtain ⟨f,m,bo,v,nv,l,hP⟩:=Y.tk;refine (ZdV hP (T:Int)).mono ?_;rintro e w' ⟨hn,rfl⟩;unfold Zmu at hn;rw [Yab bd.out,bn.out] at hn;exact ⟨hn,rfl⟩
   have HV:Hid (∀ O,Same I O->Calls Tryz.prog 128 #[.pointer (some ⟨rd,0,none⟩),.agg #[.int .i64 (T:Int),.int .i64 ki,.int .i64 nu,.int .i64 bl,.int .i64 pr,.int .i64 ne]] O (ValR s ⟨(T:Int),ki,nu,bl,pr,ne⟩ mb O mB)) :=
    qH fun O hs=>Zsm O ap (r.stm.same hs) (r.blk.same hs) (r.blob.same hs)
   have a7:Same I I.drew:=(Yaa _ I).drew;have a8:Upd (fun b=>b=mB\/(Value.slice A k c).ownBlock=some b) I I.drew:=(Yaa _ I).drew;clear bt;unfold ValR at HV;rcases hV:val1 s ⟨(T:Int),ki,nu,bl,pr,ne⟩ mb with er | ⟨g,ad⟩
   · rw [hV] at HV o;simp only at HV o;have HX:=qH (P.err D U o);clear P o hV;go_wp2_with fail;refine (ZaP I 7).mono ?_;rintro e Z ⟨rfl,rfl⟩;go_upto_region 12 with fail;refine Zaj 17 (fun O=>ZuS rd p q.tk xb ⟨(T:Int),ki,nu,bl,pr,ne⟩ O) (by kernel_rfl) (HK.out _ a8) (fun az=>?_);refine ZbE ?_;refine Ybv 10 rfl (fun K hK=>?_);go_simp;refine (HN.out _ a8).mono ?_;rintro e w' ⟨rfl,rfl⟩;refine hK _ _ (HK.out _ a8) (fun az=>?_);clear hK K;refine Ybv 13 rfl (fun K hK=>?_);go_simp;refine (HV.out _ a7).mono ?_;rintro e w' ⟨hu,rfl⟩;exact ⟨rfl,a0.out _ _ HX ((a6.same a7).trans hu fun _ _ e=>.inr e)⟩
   rw [hV] at HV o;simp only at HV o;have ab:=qH (P.step D U o);clear P o hV;go_wp2_with fail;refine (ZaP I 7).mono ?_;rintro e Z ⟨rfl,rfl⟩;have ah:mH<=I.heap.size:=by have:=a6.size;have:=C.out;omega
   have ci:=qH ah;go_upto_region 12 with fail
   go_region_held_law (fun O=>ZuS rd p q.tk xb ⟨(T:Int),ki,nu,bl,pr,ne⟩ O) (first | exact HK _ qA | exact HK _ (Ydt qA _)) (first
    | (go_at_call 73;refine (HN.out _ a8).mono ?_;rintro e w' ⟨rfl,rfl⟩)
    | (go_at_call 128;refine (HV.out _ a7).mono ?_;rintro e Z ⟨al,bu,bv,v,rfl,v1,v2,rfl,b0,b4⟩;obtain ⟨A1,c1,rfl⟩:=Zad b0;obtain ⟨A2,c2,rfl⟩:=Zad b4;have ca:I.heap.size<=Z.heap.size:=al.size;have u:Upd (fun b=>b=mB\/(Value.slice A k c).ownBlock=some b) I Z:=a8.trans al fun _ _ e=>.inl e;have aw:=(R.same a7).map al fun b e t cs hb=>(r.blob.same a7).noBlk e hb)
    | (refine Zfm rfl (.tmp 61) (.tmp 76) _ _ rfl mH 53 6 96 _ Tryz.underlying54 ZlN rfl (.slice A k c) k _ rfl (World.ownsRow.alloc (by have h:=aw.row;rwa [show ps.length=k from by have:=ab.len;simp at this;exact this] at h) _) rfl (Zbg Tryz.underlying54 (Row.pr _ ⟨nm,g,A1,g.nums.length,c1,A2,g.texts.length,c2⟩) (PR.one _)) (by unfold maxLen;omega) qO (by simp;omega) ?_;intro v' w6 hg;have a9:Upd (fun b=>b=mB\/(Value.slice A k c).ownBlock=some b) I w6:=(u.alloc _).trans hg.upd fun _ _ e=>.inr e))
   have E:=(Yaa (fun _=>False) Z).alloc (.cells (PR.cells ⟨nm,g,A1,g.nums.length,c1,A2,g.texts.length,c2⟩).toArray 53);have ac:ps.length=k:=by have:=ab.len;simp at this;exact this
   have cj:=qH ac;have hO:=(aw.same E).snoc (x:=⟨nm,g,A1,g.nums.length,c1,A2,g.texts.length,c2⟩) (by rw [ac];exact hg) ⟨Zac (Zaa b0 E) (by simp only [YfC];exact ah),Zac (Zaa b4 E) (by simp only [YfC];exact ah),bu⟩;have S:∀ b,(Value.slice A k c).ownBlock=some b->mH<=b:=fun b e=>(R.row.lt b e).1;have cb:=qH (r.upd a9 (fun b e=>by
    rcases e with e | e
    · exact r.mm (.inr e)
    · have:=S b e;have:=an.out;have:=C.out;omega) (r.met.upd a9 (by
    rintro (e | e)
    · exact r.ne.2.2 e
    have:=S _ e;have:=a1.out;have:=C.out;omega)) ((bv.same E).upd hg.upd fun e=>by have:=S _ e;have:=a1.out;have:=C.out;omega))
   have cc:=qH (av.upd a9 (by
    rintro (e | e)
    · have:=a1.out;have:=C.out;omega
    obtain ⟨cs,hb⟩:=Zaf R.row e;exact av.noBlk rfl hb))
   have cd:Hid (Upd (fun b=>b=mM\/b=mB) w w6):=qH (a6.trans a9 fun b hb e=>by
    rcases e with e | e
    · exact .inr e
    have:=S b e;have:=C.out;omega)
   have ce:=qH hO;have ck:=(HK.out w6 a9).2.2.2.2.2.2.2;obtain ⟨A6,n6,c6,rfl⟩:=ZaI hg.own;obtain rfl:n6=k+1:=by obtain ⟨A',c',e⟩:=Zad hg.own;injection e
   clear E ac hO S hg a9 u bv b0 b4 aw al ca a7 a8 bu r av R ag a6 HK HN HV ah;go_upto_region 13 with fail;go_quiet (fail);go_wp2;go_roundg (16-(k+1))
   case measure=>have:=U.out;omega
   case rel=>exact ⟨k+1,T::hd,(j:Int),ne,j::mp,ad,A6,c6,ps++[⟨nm,g,A1,g.nums.length,c1,A2,g.texts.length,c2⟩],rfl,rfl,rfl,rfl,qH (by have h:=ab.out;rw [YaN,bn.out] at h;rw [YaG];exact h),qH (cb.same ((Yaa _ w6).drewN nq)),qH (cc.same ((Yaa _ w6).drewN nq)),qH (ce.same ((Yaa _ w6).drewN nq)),qH (cd.same ((Yaa _ w6).drewN nq)),c7⟩
end
section
def ZaZ:Nat->List (Option (List UInt8))->List (Nat×List UInt8)
 | _,[]=>[]
 | i,none::l=>ZaZ (i+1) l
 | i,some d::l=>(i,d)::ZaZ (i+1) l
def Zfi (e:List UInt8->Int):List (Nat×List UInt8)->Int
 | []=>0
 | x::l=>if e x.2≠0 then e x.2 else Zfi e l
theorem ZbA (e:List UInt8->Int):∀ (rs:List (Option (List UInt8))) (i:Nat),Zbq e rs=Zfi e (ZaZ i rs)
 | [],_=>rfl
 | none::l,i=>ZbA e l (i+1)
 | some d::l,i=>by rw [Zbq,ZaZ,Zfi,ZbA e l (i+1)]
theorem ZhB {e:List UInt8->Int}:∀ {a b:List (Nat×List UInt8)},(∀ x∈a,e x.2=0)->Zfi e (a++b)=Zfi e b
 | [],b,_=>rfl
 | x::a,b,h=>by rw [YaE,Zfi,Yab (fun c=>c (h x Yey))];exact ZhB fun y d=>h y (YcZ _ d)
theorem Zga {e:List UInt8->Int} {a:List (Nat×List UInt8)} (h:∀ x∈a,e x.2=0):Zfi e a=0:=by have:=ZhB (b:=[]) h;rwa [Ybl] at this
theorem Zip {α:Type} {U a:List α} {x:α} (h:a=U.take a.length) (hx:U[a.length]?=some x):U=a++x::U.drop (a.length+1)/\a++[x]=U.take (a.length+1):=by obtain ⟨c,d⟩:=Yaq.1 hx;have b:=YbT a.length U;rw [YbF c,d,<-h] at b;refine ⟨b.symm,?_⟩;rw [Ybo,<-h,hx];rfl
theorem Zjx {e:List UInt8->Int} {U a:List (Nat×List UInt8)} {x:Nat×List UInt8} (h:a=U.take a.length) (hx:U[a.length]?=some x) (ha:∀ y∈a,e y.2=0) (he:e x.2≠0):Zfi e U=e x.2:=by rw [(Zip h hx).1,ZhB ha,Zfi,Yac he]
theorem ZgS {L:List L1} {node:Int}:∀ {k:Nat} {last id e:Int},ZbU L node k last id=.error e->e≠0
 | 0,last,id,e,h=>by
   rw [ZbU] at h;split at h
   · cases h
   split at h
   · rename_i a;cases h;exact a
   cases h;decide
 | k+1,last,id,e,h=>by
   rw [ZbU] at h;split at h
   · cases h
   split at h
   · rename_i a;cases h;exact a
   split at h
   · cases h;decide
   split at h
   · cases h;decide
   split at h
   · rename_i a;cases h;exact ZgS a
   cases h
def ZdX (L:List L1):List (Nat×List UInt8)->Int
 | []=>0
 | x::l=>match getN x.2 with
   | none=>41
   | some n=>match ZbU L x.1 (L.length+1) (-1) n.rel with
     | .error e=>e
     | .ok ids=>if ids.length≠(Zax L x.1).length then 101 else ZdX L l
theorem Zeo (L:List L1):∀ (rs:List (Option (List UInt8))) (i:Nat),Zdk L i rs=ZdX L (ZaZ i rs)
 | [],_=>rfl
 | none::l,i=>Zeo L l (i+1)
 | some d::l,i=>by
   rw [Zdk,ZaZ,ZdX,Zeo L l (i+1)];simp only;cases getN d with
   | none=>rfl
   | some n =>
     simp only;rcases ZbU L (i:Int) (L.length+1) (-1) n.rel with e | a <;> rfl
def Zjy (L:List L1) (x:Nat×List UInt8):Int:=ZdX L [x]
theorem ZhC {L:List L1}:∀ {a b:List (Nat×List UInt8)},(∀ x∈a,Zjy L x=0)->(∀ x∈a,(getN x.2).isSome=true)->ZdX L (a++b)=ZdX L b
 | [],b,_,_=>rfl
 | x::a,b,h,hn=>by
   have c:=h x Yey;have f:=hn x Yey;have ih:=ZhC (b:=b) (fun y d=>h y (YcZ _ d)) fun y d=>hn y (YcZ _ d);unfold Zjy ZdX at c;rw [YaE,ZdX];cases hg:getN x.2 with
   | none=>rw [hg] at f;cases f
   | some n =>
     rw [hg] at c;simp only at c ⊢;cases hw:ZbU L x.1 (L.length+1) (-1) n.rel with
     | error e =>
       rw [hw] at c;exact absurd c (ZgS hw)
     | ok ids =>
       rw [hw] at c;simp only at c ⊢;by_cases g:ids.length≠(Zax L x.1).length
       · rw [Yac g] at c;cases c
       rw [Yab g,ih]
section
variable {labels types:List ByteArray} {get:List UInt8->Option R1} {f:Int->List Nat->List Nat->Except Int (List GPr×List Nat×List Nat)}
def Zih (labels:List ByteArray) (f:Int->List Nat->List Nat->Except Int (List GPr×List Nat×List Nat)) (x:Nat×List UInt8) (mp mb:List Nat):Except Int (Zaw×List Nat×List Nat):=match getN x.2 with
 | none=>.error 41
 | some n=>match f n.prop mp mb with
   | .error e=>.error e
   | .ok (ps,mp,mb)=>.ok (⟨x.1,n.labels.map (ZaY labels),ps⟩,mp,mb)
def relU (types:List ByteArray) (get:List UInt8->Option R1) (f:Int->List Nat->List Nat->Except Int (List GPr×List Nat×List Nat)) (x:Nat×List UInt8) (mp mb:List Nat):Except Int (GRel×List Nat×List Nat):=match get x.2 with
 | none=>.error 41
 | some r=>match f r.prop mp mb with
   | .error e=>.error e
   | .ok (ps,mp,mb)=>.ok (⟨x.1,ZaY types r.type,r.link.src,r.link.dst,ps⟩,mp,mb)
def ZbK {α β:Type} (g:α->List Nat->List Nat->Except Int (β×List Nat×List Nat)):List α->List Nat->List Nat->Except Int (List β×List Nat×List Nat)
 | [],mp,mb=>.ok ([],mp,mb)
 | x::l,mp,mb=>match g x mp mb with
   | .error e=>.error e
   | .ok (y,mp,mb)=>match ZbK g l mp mb with
     | .error e=>.error e
     | .ok (ys,mp,mb)=>.ok (y::ys,mp,mb)
theorem ZcF:∀ (rs:List (Option (List UInt8))) (i:Nat) (mp mb:List Nat),Zff labels f i rs mp mb=ZbK (Zih labels f) (ZaZ i rs) mp mb
 | [],_,_,_=>rfl
 | none::l,i,mp,mb=>ZcF l (i+1) mp mb
 | some d::l,i,mp,mb=>by
   rw [Zff,ZaZ,ZbK,Zih];cases getN d with
   | none=>rfl
   | some n =>
     simp only;rcases f n.prop mp mb with e | ⟨h,c,g⟩
     · rfl
     simp only;rw [ZcF l (i+1)];rcases ZbK (Zih labels f) (ZaZ (i+1) l) c g with e | ⟨j,a,b⟩ <;> rfl
theorem Zdc:∀ (rs:List (Option (List UInt8))) (i:Nat) (mp mb:List Nat),Zjh types get f i rs mp mb=ZbK (relU types get f) (ZaZ i rs) mp mb
 | [],_,_,_=>rfl
 | none::l,i,mp,mb=>Zdc l (i+1) mp mb
 | some d::l,i,mp,mb=>by
   rw [Zjh,ZaZ,ZbK,relU];cases get d with
   | none=>rfl
   | some n =>
     simp only;rcases f n.prop mp mb with e | ⟨h,c,g⟩
     · rfl
     simp only;rw [Zdc l (i+1)];rcases ZbK (relU types get f) (ZaZ (i+1) l) c g with e | ⟨j,a,b⟩ <;> rfl
end
section
variable {α β:Type} {g:α->List Nat->List Nat->Except Int (β×List Nat×List Nat)}
theorem Zjz:∀ {a b:List α} {mp mb:List Nat},ZbK g (a++b) mp mb=(match ZbK g a mp mb with
 | .error e=>.error e
 | .ok (ys,mp,mb)=>match ZbK g b mp mb with
   | .error e=>.error e
   | .ok (zs,mp,mb)=>.ok (ys++zs,mp,mb))
 | [],b,mp,mb=>by rw [YaK,ZbK];simp only;rcases ZbK g b mp mb with e | ⟨zs,i,j⟩ <;> rfl
 | x::a,b,mp,mb=>by
   rw [YaE,ZbK,ZbK];rcases g x mp mb with e | ⟨y,c,d⟩
   · rfl
   simp only;rw [Zjz (a:=a)];rcases ZbK g a c d with e | ⟨ys,f,h⟩
   · rfl
   simp only;rcases ZbK g b f h with e | ⟨zs,k,l⟩ <;> rfl
theorem Zky {a:List α} {x:α} {mp mb mp1 mb1 mp2 mb2:List Nat} {ys:List β} {y:β} (h:ZbK g a mp mb=.ok (ys,mp1,mb1)) (hx:g x mp1 mb1=.ok (y,mp2,mb2)):ZbK g (a++[x]) mp mb=.ok (ys++[y],mp2,mb2):=by rw [Zjz,h];simp [ZbK,hx]
theorem Znd {U a:List α} {x:α} {mp mb mp1 mb1:List Nat} {ys:List β} {er:Int} (ha:a=U.take a.length) (hU:U[a.length]?=some x) (h:ZbK g a mp mb=.ok (ys,mp1,mb1)) (hx:g x mp1 mb1=.error er):ZbK g U mp mb=.error er:=by rw [(Zip ha hU).1,Zjz,h];simp [ZbK,hx]
end
end
end Go.Proofs.YtmkjfhnlnhceiaaGreatDoor
