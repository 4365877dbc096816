/- Texts that the claim leans on: walks and plain laws, function by function. -/
import Derived.Test.YtmkjfhnlnhceiaaGreatDoorN25
set_option maxRecDepth 100000
set_option maxHeartbeats 16000000
namespace Go.Proofs.YtmkjfhnlnhceiaaGreatDoor
open Go.RowKit
def Zqu (l:List Int):List Value:=l.map (Value.int .i64)
theorem Zqv (L:List L1) (node:Int) (k:Nat):((List.range (k+1)).filter fun (i:Nat)=>ZaJ L node (i:Int)==0)=((List.range k).filter fun (i:Nat)=>ZaJ L node (i:Int)==0)++if ZaJ L node (k:Int)=0 then [k] else []:=by
 rw [List.range_succ,YcX];congr 1;by_cases h:ZaJ L node (k:Int)=0
 · rw [Yac h];simp [h]
 rw [Yab h];simp [h]
theorem Zsi {L:List L1} {node:Int} {k:Nat} {l:L1} (h:L[k]?=some l):ZaJ L node (k:Int)=0↔l.live=true/\ZhQ l node=true:=by
 unfold ZaJ ZhQ;rw [Yab qO,YaN,h];simp only;cases l.live with
 | false=>simp
 | true =>
   by_cases a:l.src=node <;> by_cases b:l.dst=node <;> simp [a,b]
theorem ZfN {F:Nat->Prop} {A:Option Addr} {n c:Nat} {L:List L1} (w:World) (h:RdL w F A n c L) (hn:n<=65536) (node:Int):Calls Tryz.prog 53 #[.slice A n c,.int .i64 node] w fun e w' =>
 ∃ v,e=.returned v/\w'.ownsRow w.heap.size 3 1 v (Zax L node).length (Zqu ((Zax L node).map fun (i:Nat)=>(i:Int)))/\Same w w':=by
 have V:=qH RdL.len' h;have H0:=qH h;obtain ⟨P,X⟩:∃ P:Nat->List Nat,P=fun k=>(List.range k).filter fun (i:Nat)=>ZaJ L node (i:Int)==0:=⟨_,rfl⟩
 have G:=qH X;clear h X;go_enter Tryz.func53,Tryz.ntmps53;go_wp2_with fail;go_loopg [4,9] n (fun gh v s wr=>∃ (k:Nat) (a:Option Addr) (m z:Nat),n-k=gh/\k<=n/\v=.slice a m z/\s=.int .i64 (k:Int)/\m<=k/\Hid (m=(P k).length)/\Hid (wr.ownsRow w.heap.size 3 1 (.slice a m z) m (Zqu ((P k).map fun (i:Nat)=>(i:Int))))/\Hid (Same w wr))
 case atStart=>exact ⟨0,none,0,0,rfl,Yah _,rfl,rfl,Yae _,qH (by rw [G.out];rfl),qH (by rw [G.out];exact YaQ _ _ _ _),qH (Yaa _ _)⟩
 obtain ⟨k,a,m,z,rfl,hk,rfl,rfl,hm,I,M,B⟩:=hrel;by_cases N:k<n
 · obtain ⟨b,o,l,rfl,hb,_,Y,_,T⟩:=RdL.at7 (Ydg H0 B) N;have j1:(k:Int)<(n:Int):=qO;obtain ⟨Z,r1,r2,r3,r4,r5,r6⟩:=T;have x:=qH fun w=>ZhR w l node;have g:=qH (Zsi (node:=node) Y);have p:Hid (P (k+1)=P k++if ZaJ L node (k:Int)=0 then [k] else []):=qH (by rw [G.out];exact Zqv L node k);clear Y;obtain ⟨v,s,d,a1,a2,a3,a4⟩:=l;simp only at Z r1 r2 r3 r4 r5 r6;unfold L1.cells at x;simp only at x g;have C:=(Yaa (fun _=>False) wr).alloc (.cells #[.bool v,.int .i64 s,.int .i64 d,.int .i64 a1,.int .i64 a2,.int .i64 a3,.int .i64 a4] 109);have t:=qH C;clear C;cases v with
   | false =>
     have j:Hid (P (k+1)=P k):=qH (by rw [p.out,Yab (by rw [g.out];simp),Ybl]);clear x g p;go_wp2;go_roundg (n-(k+1))
     case measure=>omega
     case rel=>exact ⟨k+1,a,m,z,rfl,qO,rfl,by go_num,qO,qH (by rw [j.out];exact I),qH (by rw [j.out];exact Zaa M.out t.out),qH (B.trans t fun _ _ f=>f)⟩
   | true =>
     cases ht:ZhQ ⟨true,s,d,a1,a2,a3,a4⟩ node with
     | false =>
       rw [ht] at x g;have j:Hid (P (k+1)=P k):=qH (by rw [p.out,Yab (by rw [g.out];simp),Ybl]);clear ht g p;go_wp2_with fail;refine (x.out _).mono ?_;rintro e U ⟨rfl,E⟩;have r:=qH (t.trans E fun _ _ f=>f);clear E;go_wp2;go_roundg (n-(k+1))
       case measure=>omega
       case rel=>exact ⟨k+1,a,m,z,rfl,qO,rfl,by go_num,qO,qH (by rw [j.out];exact I),qH (by rw [j.out];exact Zaa M.out r.out),qH (B.trans r fun _ _ f=>f)⟩
     | true =>
       rw [ht] at x g;have j:Hid (P (k+1)=P k++[k]):=qH (by rw [p.out,Yac (g.2 ⟨rfl,rfl⟩)]);clear ht g p;go_wp2_with fail;refine (x.out _).mono ?_;rintro e U ⟨rfl,E⟩;have r:=qH (t.trans E fun _ _ f=>f);have u:=Zaa M.out r.out;have a0:w.heap.size<=U.heap.size:=Yaj B.size r.size;clear E Z r1 r2 r3 r4 r5 r6;go_wp2_with (at_builtin;go_must (refine Zat rfl (.tmp 21) (.tmp 23) _ _ rfl w.heap.size 3 1 8 _ Tryz.underlying110 ZcM rfl (.slice a m z) m _ rfl (u.alloc _) rfl (Zbg Tryz.underlying110 (Ydh _ _ _) (by simp [Value.oneCell'])) (by unfold maxLen;omega) qO (by simp;omega) ?_);intro v7 w7 y;obtain ⟨A7,c7,rfl⟩:=Zad y.own;have D:=qH y;clear y);have O:=(Yaa (fun _=>False) U).alloc (.cells #[.int .i64 (k:Int)] 3);go_roundg (n-(k+1))
       case measure=>omega
       refine ⟨k+1,A7,m+1,c7,rfl,qO,rfl,by go_num,qO,qH (by rw [j.out,Yaf,I.out];rfl),qH ?_,qH ?_⟩
       · have H:=D.own;rw [j.out];simpa [Zqu] using H
       exact ((B.trans r fun _ _ f=>f).trans O fun _ _ f=>f).trans D.upd fun q hq hh=>by have:=(u.lt q hh).1;omega
 have R:k=n:=qO;subst R;have S:Hid (P k=Zax L node):=qH (by have h7:L.length=k:=(by first | exact V.out | exact V);rw [G.out];unfold Zax;rw [h7]);go_wp2;go_ret;refine ⟨_,rfl,?_,B⟩;have H:=M.out;have W:=I.out;rw [S.out] at H W;subst W;exact H
def Zls (L:List L1) (node head:Int) (v:List Int) (id:Int):Prop :=
 CV L node v/\ZbU L node (L.length+1) (-1) head=match ZbU L node (L.length+1-v.length) (v.headD (-1)) id with | .error e=>.error e | .ok ids=>.ok (v.reverse++ids)
theorem Zls.start (L:List L1) (node head:Int):Zls L node head [] head:=⟨trivial,by simp only [YaS,YcF,List.headD_nil,List.reverse_nil,YaK];cases ZbU L node (L.length+1) (-1) head <;> rfl⟩
theorem Zls.done {L:List L1} {node head:Int} {v:List Int} (h:Zls L node head v (-1)):ZbU L node (L.length+1) (-1) head=.ok v.reverse:=by
 have d:=h.1.len;obtain ⟨k,b⟩:∃ k,L.length+1-v.length=k+1:=⟨L.length-v.length,qO⟩
 have a:=h.2;obtain ⟨X,c⟩:∃ X,ZbU L node (L.length+1) (-1) head=X:=⟨_,rfl⟩
 rw [c] at a ⊢;rw [b,ZbU,Yac rfl] at a;rw [a];simp
theorem Zls.bad {L:List L1} {node head id:Int} {v:List Int} (h:Zls L node head v id) (h1:id ≠ -1) :
 (ZaJ L node id≠0->ZbU L node (L.length+1) (-1) head=.error (ZaJ L node id)) /\
 ∀ l,ZaJ L node id=0->L[id.toNat]?=some l->(Zgs l node≠v.headD (-1)\/ZcS l=true->ZbU L node (L.length+1) (-1) head=.error 101) /\
  (Zgs l node=v.headD (-1)->ZcS l=false->Zls L node head (id::v) (ZiR l node)):=by
 have n:=h.1.len;obtain ⟨k,j⟩:∃ k,L.length+1-v.length=k+1:=⟨L.length-v.length,qO⟩
 have a:=h.2;obtain ⟨X,g⟩:∃ X,ZbU L node (L.length+1) (-1) head=X:=⟨_,rfl⟩
 rw [g] at a ⊢;rw [j,ZbU,Yab h1] at a;refine ⟨fun c=>by rw [Yac c] at a;exact a,fun l c d=>⟨fun m=>?_,fun i f=>⟨?_,?_⟩⟩⟩
 · rw [Yab (fun b=>b c),d] at a;simp only at a;rw [Yac m] at a;exact a
 · refine ⟨?_,⟨l,d,i⟩,h.1⟩;unfold ZaJ at c;split at c
   · cases c
   omega
 rw [Yab (fun b=>b c),d] at a;simp only at a;rw [Yab (by rintro (b | b);exact b i;rw [f] at b;cases b)] at a;rw [g,a,Yao,show L.length+1-(v.length+1)=k by omega,Yet];cases ZbU L node k id (ZiR l node) with
 | error e=>rfl
 | ok ids=>simp
def WkR (w:World) (X:Except Int (List Int)) (e:Ending) (w':World):Prop:=Same w w' /\
 match X with
 | .error er=>e=.returned (.tuple #[.slice none 0 0,.int .i64 er])
 | .ok ids=>∃ v,e=.returned (.tuple #[v,.int .i64 0])/\w'.ownsRow w.heap.size 3 1 v ids.length (Zqu ids)
theorem Zsj {F:Nat->Prop} {A:Option Addr} {n c:Nat} {L:List L1} (w:World) (h:RdL w F A n c L) (hn:n<=65536) (node head:Int):Calls Tryz.prog 76 #[.slice A n c,.int .i64 node,.int .i64 head] w (WkR w (ZbU L node (L.length+1) (-1) head)):=by
 have HL:=qH (RdL.len' h);have H0:=qH h;obtain ⟨X,hX⟩:∃ X,ZbU L node (L.length+1) (-1) head=X:=⟨_,rfl⟩
 rw [hX];have HX:=qH hX;clear h hX;go_enter Tryz.func76,Tryz.ntmps76;go_wp2_with fail;go_loopg [6,7,8,9] (n+1) (fun gh s6 s7 s8 s9 wr=>∃ (m:Nat) (a:Option Addr) (cc:Nat) (la id:Int) (v:List Int),n+1-m=gh/\m<=n/\s6=.slice a m cc/\s7=.int .i64 0/\s8=.int .i64 la/\s9=.int .i64 id/\Hid (v.length=m/\la=v.headD (-1))/\Hid (Zls L node head v id)/\Hid (wr.ownsRow w.heap.size 3 1 (.slice a m cc) m (Zqu v.reverse))/\Hid (Same w wr))
 case atStart=>exact ⟨0,none,0,-1,head,[],rfl,Yah _,rfl,rfl,rfl,rfl,qH ⟨rfl,rfl⟩,qH (Zls.start L node head),qH (YaQ _ _ _ _),qH (Yaa _ _)⟩
 obtain ⟨m,a,cc,la,id,v,rfl,hm,rfl,rfl,rfl,rfl,KV,KW,KO,KS⟩:=hrel;by_cases C:id = -1
 · subst C;go_wp2
   go_ret2
   have p:=KW.done;rw [HX.out] at p;rw [p];exact ⟨KS,_,rfl,by rw [List.length_reverse,KV.1];exact KO⟩
 have HB:=qH (KW.bad C);go_wp2_with fail;refine (Zko wr (Ydg H0 KS) node id).mono ?_;rintro e w1 ⟨rfl,y⟩;by_cases t:ZaJ L node id=0
 case neg =>
  have HT:=qH (HX.symm.trans (HB.1 t));have HS:=qH (KS.trans y fun _ _ f=>f);generalize ZaJ L node id=te at *;have an:(te != 0)=true:=Ybh.2 t;clear t y HB;go_wp2
  go_ret2
  rw [HT.out];exact ⟨HS,rfl⟩
 obtain ⟨k,rfl⟩:∃ k:Nat,id=(k:Int):=⟨id.toNat,by
  unfold ZaJ at t;split at t
  · cases t
  omega⟩
 have hk:k<n:=by
  have p:=HL.out;rcases Yfy k n with H | H
  · exact H
  unfold ZaJ at t;rw [Yab qO,YaN,Ydp qO] at t;cases t
 have u:=KS.trans y fun _ _ f=>f;obtain ⟨b,o,l,rfl,hb,_,hl,_,al⟩:=RdL.at7 (Ydg H0 u) hk;have E:=qH (HB.2 l t hl);have j1:(k:Int)<(n:Int):=qO;obtain ⟨r0,r1,r2,r3,r4,r5,r6⟩:=al;rw [t];have S:=qH u;have a6:=qH (Zaa KO y);clear hl t y u HB KO KS;obtain ⟨pv,a0⟩:∃ pv,Zgs l node=pv:=⟨_,rfl⟩
 obtain ⟨nx,a5⟩:∃ nx,ZiR l node=nx:=⟨_,rfl⟩
 obtain ⟨M,s,d,N,r,O,j⟩:=l;simp only at r0 r1 r2 r3 r4 r5 r6;go_upto_region 8 with fail;have T:=Yad w1 109 #[.bool M,.int .i64 s,.int .i64 d,.int .i64 N,.int .i64 r,.int .i64 O,.int .i64 j];have U:=(Yaa (fun _=>False) w1).alloc (.cells #[.bool M,.int .i64 s,.int .i64 d,.int .i64 N,.int .i64 r,.int .i64 O,.int .i64 j] 109);have ao:w.heap.size<=w1.heap.size:=S.size;generalize w1.alloc (.cells #[.bool M,.int .i64 s,.int .i64 d,.int .i64 N,.int .i64 r,.int .i64 O,.int .i64 j] 109)=w2 at *;generalize hg:w1.heap.size=g at *;have d1:=T.c1;have G:=Zjm w2 d1 node;rw [YbJ,YbJ] at G;obtain ⟨po,no,ag,I,ah,ai⟩:∃ po no,(if s=node then 3 else 4)=po/\(if s=node then 5 else 6)=no/\(∀ B,Blk B g 109 #[.bool M,.int .i64 s,.int .i64 d,.int .i64 N,.int .i64 r,.int .i64 O,.int .i64 j]->B.cell? ⟨g,po,none⟩=some (.int .i64 pv))/\(∀ B,Blk B g 109 #[.bool M,.int .i64 s,.int .i64 d,.int .i64 N,.int .i64 r,.int .i64 O,.int .i64 j]->B.cell? ⟨g,no,none⟩=some (.int .i64 nx)):=by
  rw [<- a0,<-a5];unfold Zgs ZiR;by_cases D:s=node
  · rw [Yac D,Yac D];exact ⟨3,5,rfl,rfl,fun B hx=>by rw [hx.cell 3];simp [D],fun B hx=>by rw [hx.cell 5];simp [D]⟩
  rw [Yab D,Yab D];exact ⟨4,6,rfl,rfl,fun B hx=>by rw [hx.cell 4];simp [D],fun B hx=>by rw [hx.cell 6];simp [D]⟩
 rw [ag,I] at G;have a7:=qH G;have a8:=qH ah;have aj:=qH ai;have a9:=qH (S.trans U fun _ _ f=>f);have aa:=qH (Zaa a6 U);have ab:=qH T;have V:=qH a0;have W:=qH a5;clear G ah ai U T d1 ag I S a6 r0 r1 r2 r3 r4 r5 r6 a0 a5;go_wp2_with fail;refine a7.mono ?_;rintro e w3 ⟨rfl,P⟩;have i:=ab.same P;have d1:=i.c1;have d2:=i.c2;have d4:=i.c4;have d6:=i.c6;have cp:=a8.out w3 i;have ac:=qH i;have Y:=qH (a9.trans P fun _ _ f=>f);have Z:=qH (Zaa aa P);clear i P a9 aa ab a8 a7;go_upto_region 9 with fail;go_cut [54] from 33 to 62 (fun am B=>∃ z:Bool,am=.bool z/\B=w3/\Hid (z=true↔pv≠la\/s=d/\(r ≠ -1\/j ≠ -1)))
 case first =>
  by_cases e1:pv=la
  case neg =>
   have E1:=qH e1;go_wp2;go_meet;exact ⟨true,rfl,rfl,qH (by simp [E1.out])⟩
  subst e1;by_cases e2:s=d
  case neg =>
   have E2:=qH e2;go_wp2;go_meet;exact ⟨false,rfl,rfl,qH (by simp [E2.out])⟩
  subst e2;by_cases e3:r = -1
  case neg =>
   have E3:=qH e3;go_wp2;go_meet;exact ⟨true,rfl,rfl,qH (by simp [E3.out])⟩
  subst e3;by_cases e4:j = -1
  case neg =>
   have E4:=qH e4;go_wp2;go_meet;exact ⟨j != -1,rfl,rfl,qH (by simp [E4.out])⟩
  subst e4;go_wp2;go_meet;exact ⟨false,rfl,rfl,qH (by simp)⟩
 obtain ⟨z,rfl,rfl,HZ⟩:=hcut;have x:Hid (Zgs ⟨M,s,d,N,r,O,j⟩ node=v.headD (-1)/\ZcS ⟨M,s,d,N,r,O,j⟩=false↔z=false):=qH (by
  rw [V.out,<-KV.2];unfold ZcS;have h9:=HZ.out;cases z with
  | true =>
    refine ⟨fun ⟨C,p⟩=>?_,fun h=>by cases h⟩;rcases h9.1 rfl with H | ⟨H,h4⟩
    · exact absurd C H
    simp only [Bool.and_eq_false_iff,YfN,YfI,Ybn] at p;rcases p with p | p
    · exact absurd H p
    rcases h4 with h4 | h4
    · exact absurd p.1 h4
    exact absurd p.2 h4
  | false =>
    refine ⟨fun _=>rfl,fun _=>?_⟩;by_cases C:pv=la
    · refine ⟨C,?_⟩;by_cases H:s=d
      · by_cases h4:r ≠ -1\/j ≠ -1
        · cases h9.2 (.inr ⟨H,h4⟩)
        have D:r = -1:=qO;have h6:j = -1:=qO;rw [D,h6];simp
      simp [H]
    cases h9.2 (.inl C))
 clear HZ cp d1 d2 d4 d6;cases z with
 | true =>
   have HT:=qH (HX.symm.trans (E.1 (by
    by_cases C:Zgs ⟨M,s,d,N,r,O,j⟩ node=v.headD (-1)
    · right;cases p:ZcS ⟨M,s,d,N,r,O,j⟩ with
      | true=>rfl
      | false=>cases x.1 ⟨C,p⟩
    exact .inl C)))
   clear E x V W;go_wp2
   go_ret2
   rw [HT.out];exact ⟨Y,rfl⟩
 | false =>
   have HW:=qH (E.2 (x.2 rfl).1 (x.2 rfl).2);rw [W.out] at HW;have ap:w.heap.size<=wc.heap.size:=Y.size;have I:=ac.ne_own Z.out qD;clear E x V W;go_upto_region 12 with (at_builtin;go_must (refine Zat rfl (.tmp 55) (.tmp 57) _ _ rfl w.heap.size 3 1 8 _ Tryz.underlying110 ZcM rfl (.slice a m cc) m _ rfl (Z.alloc _) rfl (Zbg Tryz.underlying110 (Ydh _ _ _) (by simp [Value.oneCell'])) (by unfold maxLen;omega) qO (by simp;omega) ?_);intro v7 w7 R;obtain ⟨A7,c7,rfl⟩:=Zad R.own;have cn:=aj.out w7 (R.blk (ac.alloc _) I);have ad:=qH R;clear R);have ae:=(Yaa (fun _=>False) wc).alloc (.cells #[.int .i64 (k:Int)] 3);have ak:=qH ae;clear ae;go_quiet (fail);go_wp2;go_roundg (n+1-(m+1))
   case measure=>omega
   have af:=HW.1.len;rw [Yao,HL.out,KV.1] at af;refine ⟨m+1,A7,c7,(k:Int),nx,(k:Int)::v,rfl,af,rfl,rfl,rfl,rfl,qH ⟨by rw [Yao,KV.1],rfl⟩,HW,qH ?_,qH ?_⟩
   · have h9:=Zaa ad.own ((Yaa (fun _=>False) w7).drewN nq);simpa [Zqu] using h9
   exact (((Y.trans ak fun _ _ f=>f).trans ad.upd fun q hq hh=>by have:=(Z.lt q hh).1;omega).drewN nq)
end Go.Proofs.YtmkjfhnlnhceiaaGreatDoor
