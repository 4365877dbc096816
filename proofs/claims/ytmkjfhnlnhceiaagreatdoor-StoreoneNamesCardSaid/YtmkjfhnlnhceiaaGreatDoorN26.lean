/- Texts that the claim leans on: walks and plain laws, function by function. -/
import Derived.Test.YtmkjfhnlnhceiaaGreatDoorN23
import Derived.Test.YtmkjfhnlnhceiaaGreatDoorN25
set_option maxRecDepth 100000
set_option maxHeartbeats 16000000
namespace Go.Proofs.YtmkjfhnlnhceiaaGreatDoor
open Go.RowKit
theorem Zob {F:Nat->Prop} {A:Option Addr} {n c:Nat} {L:List L1} (w:World) (h:RdL w F A n c L) (hn:n*56<=140737488355328) :
 Calls Tryz.prog 97 #[.slice A n c] w fun e w'=>∃ A' c',e=.returned (.slice A' n c')/\Hid (w'.ownsRow w.heap.size 109 7 (.slice A' n c') n (L.flatMap L1.cells))/\Same w w':=by
 have g:=fun (w:World) (a:Option Addr) (n c:Nat)=>YcR (P:=Tryz.prog) w 70 109 a n c 0 0 Tryz.underlying70;have i:=h.max;have j:=h.le;cases A with
 | none =>
   have k:=h.nil rfl;obtain rfl:c=0:=k;obtain rfl:n=0:=qO;have l:L.flatMap L1.cells=[]:=YcI.1 (by rw [h.len]);rw [l];go_enter Tryz.func97,Tryz.ntmps97;go_wp2;go_ret;exact ⟨none,0,rfl,qH (YaQ _ _ _ _),Yaa _ _⟩
 | some a =>
   have m:n<=maxLen:=by unfold maxLen;omega
   go_enter Tryz.func97,Tryz.ntmps97;go_wp2_with (at_builtin;go_must (refine Zat rfl (.tmp 5) (.tmp 6) _ _ rfl w.heap.size _ _ _ _ Tryz.underlying70 Zjl rfl _ 0 [] rfl (YdS w #[] 0 (Yae _) (Yah _) rfl) rfl (Zfr Tryz.underlying70 (Ydg h ((Yaa _ w).alloc _)) (Zua L)) qO qO (by simp) ?_);intro p w' d);go_ret;have f:=d.own;rw [YbJ,YaK] at f;obtain ⟨A',c',rfl⟩:=Zad f;refine ⟨A',c',rfl,qH f,?_⟩;exact ((Yaa _ w).alloc _).trans d.upd fun b q o=>by have:=Yax o;simp only at this;omega
theorem ZgE {node:Int} {k:Nat}:∀ (ids:List Nat) (p:Int) (L:List L1),ZaJ (Zan node p ids L) node (k:Int)=ZaJ L node (k:Int)
 | [],p,L=>rfl
 | i::ids,p,L=>by
   rw [Zan,ZgE ids];cases h:L[i]? with
   | none=>rfl
   | some l=>exact ZpM (by rw [ZfU h];exact ZpL _ _ _ _)
theorem ZfY {w:World} {B g n c i j:Nat} {M:List L1} {x y:L1} {u:Value} (h:w.ownsRow B 109 7 (.slice (some ⟨g,0,none⟩) n c) n (M.flatMap L1.cells)) (hx:M[i]?=some x) (hj:j<7) (hy:y.cells=x.cells.set j u) :
 w.cell? ⟨g,i*7+j,none⟩=x.cells[j]?/\w.frozen? ⟨g,i*7+j,none⟩=false/\(w.setCell ⟨g,i*7+j,none⟩ u).ownsRow B 109 7 (.slice (some ⟨g,0,none⟩) n c) n ((M.set i y).flatMap L1.cells):=by
 obtain ⟨a,l⟩:=Yaq.1 hx;have v:M.length=n:=by have m:=h.1;rw [ZbY YbU] at m;omega
 have o:i*7+j<n*7:=qO;obtain ⟨z,u0,e,_,_,b,s,t,d⟩:=Zck h o;cases e;rw [Zgn YbU M i j a hj,l] at b;refine ⟨by rw [s,b],t,?_⟩;have f:=d u;have p:(M.flatMap L1.cells).set (i*7+j) u=(M.set i y).flatMap L1.cells:=by
  have q:M=M.take i++x::M.drop (i+1):=by have k:=YbT i M;rw [YbF a,l] at k;exact k.symm
  have r:M.set i y=M.take i++y::M.drop (i+1):=by rw [Ygy,Yac a]
  rw [r]
  conv=>lhs;rw [q]
  exact ZfA YbU _ _ x y hj hy (by rw [YaJ];omega)
 rw [p] at f;exact f
theorem ZgF {w:World} {B g n c i:Nat} {M:List L1} {x:L1} (h:w.ownsRow B 109 7 (.slice (some ⟨g,0,none⟩) n c) n (M.flatMap L1.cells)) (hx:M[i]?=some x):LnAt w g (i*7) x/\∀ j,j<7->w.frozen? ⟨g,i*7+j,none⟩=false:=by have q:=fun j (a:j<7)=>ZfY h hx a (y:=x) (u:=x.cells[j]'(by rw [YbU];exact a)) (Ygr _).symm;exact ⟨⟨(q 0 qO).1,(q 1 qO).1,(q 2 qO).1,(q 3 qO).1,(q 4 qO).1,(q 5 qO).1,(q 6 qO).1⟩,fun j a=>(q j a).2.1⟩
def Zmv (l:List Nat):Int:=match l.getLast? with | none => -1 | some z=>(z:Int)
theorem Zbp:Tryz.prog.underlying 71=some (.map 3 3):=Tryz.underlying71
theorem Zoc {F F':Nat->Prop} {A Ao:Option Addr} {n c no co:Nat} {L:List L1} {ids:List Nat} (w:World) (h:RdL w F A n c L) (hn:n<=65536) (node:Int) (ho:WRow w F' 1 Ao no co ((ids.map fun (i:Nat)=>(i:Int)).map (Value.int .i64))) (hd:ids.Nodup) (ht:∀ i∈ids,Zgv L node i) :
 Calls Tryz.prog 54 #[.slice A n c,.int .i64 node,.slice Ao no co] w fun e w'=>∃ v,e=.returned (.tuple #[v,.int .i64 0])/\w'.ownsRow w.heap.size 109 7 v n ((Zan node (-1) ids L).flatMap L1.cells)/\Same w w':=by
 have ao:=RdL.len' h;have ah:Hid (ids.length=no):=qH (by have:=ho.len;simpa using this);have bj:=qH (Zob w h qO);have HO:=qH ho;have HD:=qH hd;have HT:=qH ht;have P:=qH ao;have d9:no<=n:=by
  have t:ids.length<=(List.range n).length:=Zcl hd fun i hi=>by obtain ⟨l,E,_⟩:=ht i hi;have:=(Yaq.1 E).1;rw [Ycm];omega
  rw [YeA,ah.out] at t;exact t
 clear h ho hd ht ao;have da:=@YcC Tryz.prog;go_enter Tryz.func54,Tryz.ntmps54;go_wp2_with fail;refine bj.mono ?_;rintro e w1 ⟨A2,c2,rfl,cb,bf⟩;have cm:=qH (show ∀ w',Same w1 w'->w'.ownsRow w.heap.size 109 7 (.slice A2 n c2) n (L.flatMap L1.cells) from fun w' hw=>Zaa cb hw);have cn:=qH bf;have bk:=(Yaa (fun _=>False) w1).alloc (.map #[] 0);have cp:=qH (YeE w1);have bl:=qH bk;have ai:w.heap.size<=w1.heap.size:=bf.size;clear cb bf bk bj;go_upto_region 4 with fail;generalize w1.alloc (.map #[] 0)=w2 at *;generalize dd:w1.heap.size=mb at *;go_wp2_with fail;go_loopg [10,22] no (fun gh d2 d3 wr=>∃ (k:Nat) (C:Int),no-k=gh/\k<=no/\d2=.int .i64 C/\d3=.int .i64 (k:Int)/\Hid (C=Zmv (ids.take k))/\Hid (wr.ownsRow w.heap.size 109 7 (.slice A2 n c2) n ((Zan node (-1) (ids.take k) L).flatMap L1.cells))/\Hid (∃ o f,MpI wr mb o f/\o<=k/\∀ (i:Nat),i ∉ ids.take k->f (i:Int)=none)/\Hid (Same w wr))
 case atStart=>exact ⟨0,-1,rfl,Yah _,rfl,rfl,qH rfl,qH (cm.out _ bl),qH ⟨0,_,cp,Yae _,fun _ _=>rfl⟩,qH (cn.trans bl fun _ _ f=>f)⟩
 obtain ⟨k,C,rfl,hk,rfl,rfl,cc,KO,KM,KS⟩:=hrel;by_cases bm:k<no
 · obtain ⟨bo,oo,u,rfl,de,_,hu,df⟩:=(HO.same KS).at_ bm;obtain ⟨id,hid⟩:∃ id,ids[k]?=some id:=⟨_,Yar (by rw [ah.out];exact bm)⟩
   rw [Yau,Yau,hid] at hu;have hu:u=.int .i64 (id:Int):=(Yax hu).symm;subst hu;have j1:(k:Int)<(no:Int):=qO;have R:id∈ids:=Ybe hid;have az:ids.take (k+1)=ids.take k++[id]:=by rw [Ybo,hid];rfl
   have b0:(ids.take k++[id]).Nodup:=by rw [<- az];exact HD.sublist (List.take_sublist _ _)
   have bn:id ∉ ids.take k:=fun hh=>(YdU.1 b0).2.2 id hh id (by simp) rfl;have W:=qH az;have cq:=qH b0;have b1:=qH bn;obtain ⟨M,hM⟩:∃ M,Zan node (-1) (ids.take k) L=M:=⟨_,rfl⟩
   have bp:=qH hM;have b2:ZaJ M node (id:Int)=0:=by rw [<- hM,ZgE];exact Zcd.2 (HT.out id R)
   have bq:M.length=n:=by rw [<- hM,ZiU];exact P
   rw [hM] at KO;have B:id<n:=by obtain ⟨l,E,_⟩:=HT.out id R;have:=(Yaq.1 E).1;have:=P.out;omega
   have Z:=KO.out;obtain ⟨g,_,rfl,dg,aa,_⟩:=Zck (i:=id*7) Z qO;have HF:=qH (Zko wr (Row.weak (Yca Z)) node (id:Int));rw [b2] at HF;have a0:=qH bq;have cr:=qH b2;have d7:=qH R;clear hid R az b0 bn hM b2 bq Z;go_wp2_with fail;refine HF.mono ?_;rintro e w3 ⟨rfl,ac⟩;obtain ⟨o,f,cd,aw,hf⟩:=KM.out;have S:=cd.same ac;have br:=(S.look Zbp (Zec w3) (i:=(id:Int)) ⟨qO,qO⟩).2;rw [hf id b1.out] at br;obtain ⟨X,dh,U,bg⟩:=S.store Zbp (by unfold maxLen;omega) (i:=(id:Int)) ⟨qO,qO⟩ (.int .i64 1);rw [hf id b1.out] at U;have ap:=(U.look Zbp (Zec X) (i:=(id:Int)) ⟨qO,qO⟩).2;rw [show mpPI f (id:Int) (.int .i64 1) (id:Int)=some (.int .i64 1) from Yac rfl] at ap;simp only [Yfb,Yde] at br ap;have b3:=qH U;have bs:=qH (⟨aw,hf⟩:o<=k/\∀ (i:Nat),i ∉ ids.take k->f (i:Int)=none);have aq:∀ g',(Value.slice (some ⟨g,0,none⟩) n c2).ownBlock=some g'->¬ g'=mb:=fun g' d4 e=>by obtain ⟨cs,N⟩:=Zaf (Zaa KO ac) d4;exact S.ne N e.symm
   have a5:=qH (Zae (Zaa KO ac) bg aq);have bt:=qH (((KS.trans ac fun _ _ f=>f)).trans bg fun b hb e=>qO);clear cd aw hf S U ac bg aq KM KO HF;obtain ⟨x,hx⟩:∃ x,M[id]?=some x:=⟨_,Yar (by rw [a0.out];exact B)⟩
   have HX:=qH hx;obtain ⟨m,O⟩:=ZgF a5.out hx;have ar:x.src=node\/x.dst=node:=by obtain ⟨l,t,_,E⟩:=Zcd.1 cr.out;rw [hx] at t;cases t;exact E
   obtain ⟨r,al⟩:∃ r:L1,r=if x.src=x.dst then { x with dprev := -1,dnext := -1 } else x:=⟨_,rfl⟩
   have a6:∀ q,ZbV x node C q=if x.src=node then { r with sprev:=C,snext:=q } else { r with dprev:=C,dnext:=q }:=fun q=>by
    rw [al];unfold ZbV;by_cases t:x.src=node
    · by_cases E:x.dst=node
      · rw [Yac t,Yac E,Yac t,Yac (t.trans E.symm)]
      rw [Yac t,Yab E,Yac t,Yab (fun (h:x.src=x.dst)=>E (h.symm.trans t))]
    rw [Yab t,Yab t,Yab (fun (h:x.src=x.dst)=>ar.elim t fun h3=>t (h.trans h3))]
   have a:=qH a6;have a7:r.src=x.src:=by rw [al];split <;> rfl
   have G:=qH a7;have b4:=qH al;obtain ⟨vv,s,d,a1,a2,a3,a4⟩:=x;have r1:X.cell? ⟨g,id*7+1,none⟩=some (.int .i64 s):=m.c1;have r2:X.cell? ⟨g,id*7+2,none⟩=some (.int .i64 d):=m.c2;have r4:X.cell? ⟨g,id*7+4,none⟩=some (.int .i64 a2):=m.c4;have r6:X.cell? ⟨g,id*7+6,none⟩=some (.int .i64 a4):=m.c6;have z4:=O 4 qO;have z6:=O 6 qO;have ct:Hid (∀ w',Same X w'->w'.ownsRow w.heap.size 109 7 (.slice (some ⟨g,0,none⟩) n c2) n (M.flatMap L1.cells)):=qH fun w' hw=>Zaa a5.out hw;have b5:mb≠g:=by obtain ⟨cs,N⟩:=Zaf a5.out (g:=g) rfl;exact b3.ne N
   clear m O hx ar al a6 a7;by_cases b6:s=d;subst b6;have hE:Hid (r=⟨vv,s,s,a1,-1,a3,-1⟩):=qH (by rw [b4.out];simp);go_upto_region 14 with fail;go_quiet (fail);go_upto_region 16 with fail;have bu:=Zaa a5.out ((Yaa (fun _=>False) X).drewN nq);have b7:Upd (fun b=>b=g) X (((X.drewN nq).setCell ⟨g,id*7+4,none⟩ (.int .i64 (-1))).setCell ⟨g,id*7+6,none⟩ (.int .i64 (-1))):=((((Yaa (fun b=>b=g) X).drewN nq).put1 _).put1 _)
   have bv:=(ZfY bu HX (j:=4) qO (y:=⟨vv,s,s,a1,-1,a3,a4⟩) (u:=.int .i64 (-1)) rfl).2.2;have H:=(ZfY bv (Ycr (by rw [a0.out];exact B)) (j:=6) qO (y:=⟨vv,s,s,a1,-1,a3,-1⟩) (u:=.int .i64 (-1)) rfl).2.2;rw [YeV,<-hE.out] at H;have aj:=qH H;have b8:=qH (b3.upd b7 b5);have b9:=qH (bt.trans b7 fun b hb e=>qO);clear bu bv H b7 hE r1 r2 r4 r6 z4 z6;generalize ((X.drewN nq).setCell ⟨g,id*7+4,none⟩ (.int .i64 (-1))).setCell ⟨g,id*7+6,none⟩ (.int .i64 (-1))=w7 at *;obtain ⟨d,hd⟩:∃ d,d=s:=⟨s,rfl⟩
   have a:Hid (∀ q,ZbV ⟨vv,s,d,a1,a2,a3,a4⟩ node C q=if s=node then { r with sprev:=C,snext:=q } else { r with dprev:=C,dnext:=q }):=qH (hd ▸ a.out);have HX:Hid (M[id]?=some ⟨vv,s,d,a1,a2,a3,a4⟩):=qH (hd ▸ HX.out);clear hd;rotate_left;have hE:Hid (r=⟨vv,s,d,a1,a2,a3,a4⟩):=qH (by rw [b4.out,Yab b6]);go_upto_region 14 with fail;go_quiet (fail);go_upto_region 16 with fail;have ak:=(Yaa (fun _=>False) X).drewN nq;have H:=Zaa a5.out ak;have bw:M.set id r=M:=by rw [hE.out];obtain ⟨t,E⟩:=Yaq.1 HX.out;rw [<- E,Ygr]
   rw [<- bw] at H;have aj:=qH H;have b8:=qH (b3.same ak);have b9:=qH (bt.trans ak fun _ _ f=>f);clear H ak hE r1 r2 r4 r6 z4 z6 bw b6;generalize X.drewN nq=w7 at *
   all_goals
    have a8:=aj.out;have ba:(M.set id r)[id]?=some r:=Ycr (by rw [a0.out];exact B);obtain ⟨m,O⟩:=ZgF a8 ba;have I:=qH (Zjm w7 (b:=g) (p:=id*7) (s:=r.src) m.c1 node);obtain ⟨po,D,ce,ax,bh,bi,d5,am⟩:∃ po D,(if r.src=node then 3 else 4)=po/\(if r.src=node then 5 else 6)=D/\po<7/\D<7/\po≠D/\∃ y:L1,y.cells=r.cells.set po (.int .i64 C)/\∀ q:Int,(ZbV ⟨vv,s,d,a1,a2,a3,a4⟩ node C q).cells=y.cells.set D (.int .i64 q):=by
     by_cases N:r.src=node
     · have h6:s=node:=G.symm.trans N;refine ⟨3,5,Yac N,Yac N,qO,qO,qO,{ r with sprev:=C },rfl,fun q=>?_⟩;rw [a.out,Yac h6];rfl
     have h6:¬ s=node:=fun h=>N (G.trans h);refine ⟨4,6,Yab N,Yab N,qO,qO,qO,{ r with dprev:=C },rfl,fun q=>?_⟩;rw [a.out,Yab h6];rfl
    rw [ce,ax] at I;clear ce ax a m O a8;go_wp2_with fail;refine I.mono ?_;rintro e w8 ⟨rfl,an⟩;obtain ⟨y,hy,am⟩:=am;have a8:=Zaa aj.out an;obtain ⟨q1,z1,cf⟩:=ZfY a8 ba bh hy;have bx:((M.set id r).set id y)[id]?=some y:=Ycr (by rw [Ycg,a0.out];exact B);obtain ⟨q2,z2,ad⟩:=ZfY cf bx bi (am (-1));rw [YeV,YeV] at ad;obtain ⟨v1,cg⟩:∃ v1,r.cells[po]?=some v1:=⟨_,Yar (by rw [YbU];exact bh)⟩
    rw [cg] at q1;obtain ⟨v2,ch⟩:∃ v2,y.cells[D]?=some v2:=⟨_,Yar (by rw [YbU];exact bi)⟩
    rw [ch] at q2;have T:=qH ad;have bz:=b8.same an;have a9:Upd (fun b=>b=g) w8 ((w8.setCell ⟨g,id*7+po,none⟩ (.int .i64 C)).setCell ⟨g,id*7+D,none⟩ (.int .i64 (-1))):=(((Yaa (fun b=>b=g) w8).put1 _).put1 _)
    have au:=qH (bz.upd a9 b5);have av:=qH ((b9.trans an fun _ _ f=>f).trans a9 fun b hb e=>qO);clear a8 cf ad ba bx an bz a9 I am hy cg ch;go_upto_region 18 with fail;generalize (w8.setCell ⟨g,id*7+po,none⟩ (.int .i64 C)).setCell ⟨g,id*7+D,none⟩ (.int .i64 (-1))=d1 at *;clear q1 z1 q2 z2 bh bi d5 b4 G aj b8 b9 ct;have aa:getL M id=⟨vv,s,d,a1,a2,a3,a4⟩:=ZfU HX.out;have db:IntKind.i64.wrap ((k:Int)+1)=((k+1:Nat):Int):=by rw [YbQ];omega
    have cu:Hid (∀ (i:Nat),i ∉ ids.take (k+1)->mpPI f (id:Int) (.int .i64 1) (i:Int)=none):=qH fun i hi=>by rw [W.out,YaR,not_or] at hi;unfold mpPI;rw [Yab (fun e=>hi.2 (by simp;omega))];exact bs.2 i hi.1
    have c0:Hid (∀ w',MpI w' mb (if (none:Option Value).isSome=true then o else o+1) (mpPI f (id:Int) (.int .i64 1))->∃ o f,MpI w' mb o f/\o<=k+1/\∀ (i:Nat),i ∉ ids.take (k+1)->f (i:Int)=none):=qH fun w' hm=>⟨o+1,_,hm,qt bs.1,cu⟩
    cases hpre:ids.take k with
    | nil =>
      have bb:C = -1:=by rw [cc.out,hpre];rfl
      subst bb;have bc:Hid (Zan node (-1) (ids.take (k+1)) L=M.set id (ZbV ⟨vv,s,d,a1,a2,a3,a4⟩ node (-1) (-1))):=qH (by have c3:=bp.out;rw [hpre] at c3;rw [W.out,hpre,YaK,ZcA (by rw [P.out];exact B),show L=M from c3,aa];rfl)
      have bd:Hid ((id:Int)=Zmv (ids.take (k+1))):=qH (by rw [W.out,hpre];rfl);clear aa hpre;go_wp2;go_roundg (no-(k+1))
      case measure=>omega
      case rel=>exact ⟨k+1,(id:Int),rfl,qO,rfl,by go_num,bd,qH (by rw [bc.out];exact T),qH (c0.out _ au),av⟩
    | cons y0 d0 =>
      obtain ⟨z,hz⟩:∃ z,(y0::d0).getLast (by simp)=z:=⟨_,rfl⟩
      have bb:C=(z:Int):=by rw [cc.out,hpre];unfold Zmv;rw [List.getLast?_eq_some_getLast (by simp),hz]
      have ai:z∈ids.take k:=by rw [hpre,<-hz];exact List.getLast_mem _
      have dc:z<n:=by obtain ⟨l,E,_⟩:=HT.out z (Yfh ai);have:=(Yaq.1 E).1;have:=P.out;omega
      have cv:z≠id:=fun e=>b1.out (e ▸ ai);subst bb;have bc:Hid (Zan node (-1) (ids.take (k+1)) L=fixT node z id M):=qH (by
       rw [W.out,hpre,ZiV d0 y0 (-1) L (by rw [<- hpre];exact cq) (fun i hi=>by rw [<- hpre,<-W.out] at hi;obtain ⟨l,E,_⟩:=HT.out i (Yfh hi);exact (Yaq.1 E).1),hz,<-hpre,bp.out])
      have bd:Hid ((id:Int)=Zmv (ids.take (k+1))):=qH (by rw [W.out];unfold Zmv;rw [List.getLast?_append];rfl);obtain ⟨M1,ae⟩:∃ M1,M.set id (ZbV ⟨vv,s,d,a1,a2,a3,a4⟩ node (z:Int) (-1))=M1:=⟨_,rfl⟩
      have c5:fixT node z id M=M1.set z (ZkU (getL M1 z) node id):=by unfold fixT;rw [aa,ae,<-ae,Znz cv.symm]
      have cw:M1.length=n:=by rw [<- ae,Ycg,a0.out]
      rw [ae] at T;have c7:=qH c5;obtain ⟨y1,af⟩:∃ y1,M1[z]?=some y1:=⟨_,Yar qO⟩
      rw [ZfU af] at c7;have cx:getL M1 z=y1:=ZfU af;obtain ⟨m,O⟩:=ZgF T.out af;have I:=qH (Zjm d1 (b:=g) (p:=z*7) (s:=y1.src) m.c1 node);obtain ⟨Y,ay,ci,cj⟩:∃ Y,(if y1.src=node then 5 else 6)=Y/\Y<7/\(ZkU y1 node id).cells=y1.cells.set Y (.int .i64 (id:Int)):=by
       by_cases N:y1.src=node
       · refine ⟨5,Yac N,qO,?_⟩;unfold ZkU;rw [Yac N];rfl
       refine ⟨6,Yab N,qO,?_⟩;unfold ZkU;rw [Yab N];rfl
      obtain ⟨pz,ck⟩:∃ pz:Nat,(if y1.src=node then 3 else 4)=pz:=⟨_,rfl⟩
      rw [ay,ck] at I;clear ck;have j2:(z:Int)<(n:Int):=qO;have cy:=qH af;have d8:=qH hpre;clear aa hpre hz ai c5 ae m O ay cx af;go_wp2_with fail;refine I.mono ?_;rintro e d6 ⟨rfl,V⟩;obtain ⟨q5,z5,ag⟩:=ZfY (Zaa T V) cy.out ci cj;obtain ⟨v5,cl⟩:∃ v5,y1.cells[Y]?=some v5:=⟨_,Yar (by rw [YbU];exact ci)⟩
      rw [cl] at q5;rw [<- c7.out] at ag;have c8:=qH ag;have ab:=(Yaa (fun b=>b=g) d6).put1 (i:=z*7+Y) (.int .i64 (id:Int));have c9:=qH ((au.same V).upd ab b5);have ca:=qH ((av.trans V fun _ _ f=>f).trans ab fun b hb e=>qO);clear ag ab V cj cl I;go_wp2;go_roundg (no-(k+1))
      case measure=>omega
      case rel=>exact ⟨k+1,(id:Int),rfl,qO,rfl,by go_num,bd,qH (by rw [bc.out];exact c8),qH (c0.out _ c9),ca⟩
 have cz:k=no:=qO;subst cz;have h9:=KO.out;rw [YaB (by first | rw [ah.out];exact Yae _ | rw [ah];exact Yae _)] at h9;have H9:=qH h9;clear h9 KO;go_wp2
 go_ret2
 exact ⟨_,rfl,H9,KS⟩
theorem BV.four (x:BV):x.cells.length=4:=rfl
theorem Zqc:(Tryz.prog.info? 203).map (fun i=>(i.zero,i.size,i.bytes))=some (some (.agg #[.int .i64 0,.int .i64 0,.int .i64 0,.slice none 0 0]),4,48):=by kernel_rfl
def BV.bs (x:BV):BS:=⟨x.d.drop 6,x.A,25,x.c⟩
structure BvOk (w:World) (x:BV):Prop where
 row:Zau w 0 x.bs
 used:Zdj x.d<=25
 len:x.d.length=31
structure Zmw (w:World) (B:Nat) (v:Value) (l:List BV):Prop where
 row:w.ownsRow B 203 4 v l.length (l.flatMap BV.cells)
 each:∀ x∈l,BvOk w x
theorem BvOk.same {w w':World} {x:BV} (h:BvOk w x) (hu:Same w w'):BvOk w' x:=⟨h.row.same hu,h.used,h.len⟩
theorem BvOk.type {S:Nat->Prop} {w w':World} {e':TypeId} {x:BV} (h:BvOk w x) (hu:Upd S w w') (hS:∀ g,g<w.heap.size->S g->OfT w e' g) (hne:5≠e'):BvOk w' x:=⟨h.row.type hu hS hne,h.used,h.len⟩
theorem Zmw.same {w w':World} {B:Nat} {v:Value} {l:List BV} (h:Zmw w B v l) (hu:Same w w'):Zmw w' B v l:=⟨Zaa h.row hu,fun x a=>(h.each x a).same hu⟩
theorem BvOk.map {w w':World} {x:BV} {mb n:Nat} {q:Int->Option Value} (h:BvOk w x) (hm:MpI w mb n q) (hu:Upd (fun y=>y=mb) w w'):BvOk w' x:=by refine ⟨h.row.upd hu fun b c e=>?_,h.used,h.len⟩;obtain ⟨_,_,f,g,a⟩:=c;obtain ⟨i,j,d⟩:=hm.obj;rw [e,d] at a;cases a
theorem ZuH {k vs z i:Nat} {l:List BS} {x:BS} (hx:l[i]?=some x) (hA:x.A≠none):(filD k vs z l).at_ i=some x.data:=by
 unfold Zaz.at_ filD;simp only [Yau,hx,Ybw];unfold BS.rc;cases h:x.A with
 | none=>exact absurd h hA
 | some a=>rfl
def ZhS (f:Zaz) (i:Int):Except Int (List Nat):=if f.size≠32 then .error 4 else if i<0\/f.used i.toNat=false then .error 3 else Zbm f (f.recs.length+1) [] i.toNat
def atD (f:Zaz) (j:Nat):List UInt8:=match f.at_ j with | some d=>d | none=>[]
structure AlI (f:Zaz) (first:Nat) (met:List Nat) (i:Nat):Prop where
 nodup:met.Nodup
 used:∀ j∈met,f.used j=true
 cur:f.used i=true
 fst:met=[]->i=first
 mem:met≠[]->first∈met
 eq:Zbm f (f.recs.length+1) [] first=match Zbm f (f.recs.length+1-met.length) met i with | .error e=>.error e | .ok l=>.ok (met.reverse++l)
theorem AlI.start {f:Zaz} {first:Nat} (h:f.used first=true):AlI f first [] first:=⟨Yex,by simp,h,fun _=>rfl,fun h=>absurd rfl h,by simp only [YaS,YcF,List.reverse_nil,YaK];cases Zbm f (f.recs.length+1) [] first <;> rfl⟩
theorem AlI.len {f:Zaz} {first i:Nat} {met:List Nat} (h:AlI f first met i):met.length<=f.recs.length:=by
 have a:met.length<=(List.range f.recs.length).length:=Zcl h.nodup fun j b=>by rw [Ycm];exact Zek (h.used j b)
 rwa [YeA] at a
theorem AlI.len1 {f:Zaz} {first i:Nat} {met:List Nat} (h:AlI f first met i) (hn:i ∉ met):met.length+1<=f.recs.length:=by
 have b:(i::met).length<=(List.range f.recs.length).length:=Zcl (YbG.2 ⟨hn,h.nodup⟩) fun j a=>by
  rw [Ycm];rcases Yat.1 a with rfl | a
  · exact Zek h.cur
  exact Zek (h.used j a)
 rwa [YeA] at b
theorem AlI.step {f:Zaz} {first i:Nat} {met:List Nat} {d:List UInt8} (h:AlI f first met i) (hd:f.at_ i=some d) :
 (i∈met->Zbm f (f.recs.length+1) [] first=.error 101) /\
 (i ∉ met->((Zav d=1)≠(i=first)\/ZaV f d=false->Zbm f (f.recs.length+1) [] first=.error 100) /\
   ((Zav d=1)=(i=first)->ZaV f d=true->(ZbJ d=none->Zbm f (f.recs.length+1) [] first=.ok (i::met).reverse)/\∀ j,ZbJ d=some j->AlI f first (i::met) j)):=by
 have w:=h.len;obtain ⟨k,u⟩:∃ k,f.recs.length+1-met.length=k+1:=⟨f.recs.length-met.length,qO⟩
 have a:=h.eq;obtain ⟨X,s⟩:∃ X,Zbm f (f.recs.length+1) [] first=X:=⟨_,rfl⟩
 rw [s] at a ⊢;rw [u,Zbm] at a;have n:i ∉ met->((i=first)=(met=[])):=fun c=>propext ⟨fun e=>by
  by_cases b:met=[]
  · exact b
  exact absurd (e ▸ h.mem b) c,h.fst⟩
 refine ⟨fun b=>by rw [Yac b] at a;exact a,fun c=>?_⟩;rw [Yab c,hd] at a;simp only at a;rw [n c];refine ⟨fun p=>by rw [Yac p] at a;exact a,fun p g=>?_⟩;rw [Yab (by rintro (m | m);exact m p;rw [g] at m;cases m)] at a;refine ⟨fun v=>?_,fun j t=>?_⟩
 · rw [v] at a;rw [a];simp
 rw [t] at a;have o:f.used j=true:=by unfold ZaV at g;rw [t] at g;simp only [Yay] at g;exact g.2.2.2.2
 refine ⟨YbG.2 ⟨c,h.nodup⟩,fun q r=>?_,o,(fun h=>by cases h),fun _=>?_,?_⟩
 · rcases Yat.1 r with rfl | r
   · exact h.cur
   exact h.used q r
 · by_cases b:met=[]
   · rw [h.fst b];simp
   exact YcZ _ (h.mem b)
 rw [s,a,Yao,show f.recs.length+1-(met.length+1)=k by omega];simp only;cases Zbm f k (i::met) j with
 | error e=>rfl
 | ok l=>simp
def AlR (w:World) (f:Zaz) (X:Except Int (List Nat)) (e:Ending) (w':World):Prop:=Same w w' /\
 match X with
 | .error er=>e=.returned (.tuple #[.slice none 0 0,.slice none 0 0,.int .i64 er])/\er≠0
 | .ok ids=>∃ v1 v2 bvs,e=.returned (.tuple #[v1,v2,.int .i64 0])/\Zmw w' w.heap.size v2 bvs/\bvs.map BV.d=ids.map (atD f)/\ids.length<=f.recs.length
theorem Zqd {B f k vs z low:Nat} {v:Value} {l:List BS} (w:World) (hP:PF w B f k vs z v l low) (first:Int) (hfi : -9223372036854775808<=first/\first<=9223372036854775807) :
 Calls Tryz.prog 196 #[.pointer (some ⟨f,0,none⟩),.int .i64 first] w (AlR w (filD k vs z l) (ZhS (filD k vs z l) first)):=by
 have HP:=qH hP;obtain ⟨T,ah⟩:∃ T,filD k vs z l=T:=⟨_,rfl⟩
 have a8:=qH ah;have bj:T.size=z:=by rw [<- ah];rfl
 have bk:T.recs.length=l.length:=by rw [<- ah];simp [filD]
 rw [ah];obtain ⟨X,hX⟩:∃ X,ZhS T first=X:=⟨_,rfl⟩
 rw [hX];have HX:=qH hX;have ci:=qH bk;have cj:=hP.size;clear hP hX ah bk;have d4:=@YcC Tryz.prog;go_enter Tryz.func196,Tryz.ntmps196;go_wp2_with fail;refine (ZcJ w HP).mono ?_;rintro e w1 ⟨rfl,rfl⟩;by_cases hz:z=32
 case neg =>
  have HE:Hid (X=.error 4):=qH (by rw [<- HX.out];unfold ZhS;rw [Yac (by rw [bj];exact hz)]);have d5:¬ (z:Int)=32:=qO;clear HX;go_wp2
  go_ret3
  rw [HE.out];exact ⟨Yaa _ _,rfl,qD⟩
 subst hz;have an:=qH (HX.symm.trans (show ZhS T first=if first<0\/T.used first.toNat=false then .error 3 else Zbm T (T.recs.length+1) [] first.toNat by unfold ZhS;rw [Yab (by rw [bj];simp)]));clear HX;have HG:=qH (ZfR w HP first);rw [a8.out] at HG;go_wp2_with fail;refine HG.mono ?_;rintro e w1 (⟨hu,rfl,rfl⟩ | ⟨y0,v0,bf,b4,h0,rfl,_,c9⟩)
 · have HE:Hid (X=.error 3):=qH (by
    rw [an.out,Yac];unfold Zea at hu;by_cases h1:0<=first
    · rw [YaV h1,YbP] at hu;exact .inr hu
    exact .inl qO)
   clear hu an;go_wp2
   go_ret3
   rw [HE.out];exact ⟨Yaa _ _,rfl,qD⟩
 obtain ⟨V,rfl⟩:∃ V:Nat,first=(V:Int):=⟨first.toNat,qO⟩
 rw [YaN] at bf;have a9:T.used V=true:=by rw [<- a8.out];exact Zft.2 ⟨y0,bf,b4⟩
 have aa:=qH (an.trans (Yab (by rw [YaN,a9];rintro (h | h);omega;cases h)));rw [YaN] at aa;have ck:=qH a9;have b5:=qH c9;clear an bf b4 a9 c9 HG;go_upto_region 7 with fail;have bl:=(Yaa (fun _=>False) w1).alloc (.map #[] 0);have cl:=qH (YeE w1);have cm:=qH (b5.trans bl fun _ _ f=>f);have d6:w.heap.size<=w1.heap.size:=b5.size;clear bl b5;generalize w1.alloc (.map #[] 0)=w2 at *;generalize de:w1.heap.size=mb at *;go_wp2_with fail;obtain ⟨n,hn⟩:∃ n,T.recs.length=n:=⟨_,rfl⟩
 have d7:n<=65536:=by rw [<- hn,ci.out];exact HP.len
 have b6:=qH hn;clear hn;go_loopg [4,5,6,10] (n+1) (fun gh s4 s5 s6 d0 wr=>∃ (m:Nat) (id:Int) (a1:Option Addr) (c1:Nat) (a2:Option Addr) (c2:Nat) (p:List Nat) (F:List BV),n+1-m=gh/\m<=n/\s4=.slice a1 m c1/\s5=.slice a2 m c2/\s6=.int .i64 0/\d0=.int .i64 id /\
  Hid (p.length=m/\F.length=m/\F.map BV.d=p.reverse.map (atD T))/\Hid (∃ xs,wr.ownsRow w.heap.size 3 1 (.slice a1 m c1) m xs)/\Hid (Zmw wr w.heap.size (.slice a2 m c2) F) /\
  Hid (∃ au fm,MpI wr mb au fm/\au<=m/\∀ j:Nat,fm (j:Int)=if j∈p then some (.int .i64 1) else none)/\Hid (Same w wr)/\Hid ((id = -1/\X=.ok p.reverse)\/∃ i:Nat,id=(i:Int)/\AlI T V p i))
 case atStart =>
  exact ⟨0,(V:Int),none,0,none,0,[],[],rfl,Yah _,rfl,rfl,rfl,rfl,qH ⟨rfl,rfl,rfl⟩,qH ⟨[],YaQ _ _ _ _⟩,qH ⟨YaQ _ _ _ _,by simp⟩,qH ⟨0,_,cl,Yae _,fun j=>by simp⟩,cm,qH (.inr ⟨V,rfl,AlI.start ck⟩)⟩
 obtain ⟨m,id,a1,c1,a2,c2,p,F,rfl,hm,rfl,rfl,rfl,rfl,KL,KX,KB,KM,KS,KI⟩:=hrel;rcases KI.out with ⟨rfl,hX⟩ | ⟨i,rfl,hI⟩
 · have cn:=qH hX;have co:=KB;clear hX KI;go_wp2
   go_ret3
   rw [cn.out];refine ⟨KS,_,_,F,rfl,co,KL.2.2,?_⟩;rw [List.length_reverse,KL.1,b6.out];exact hm
 have HI:=qH hI;have ao:=hI.cur;have d8:¬ ((i:Int) = -1):=qO;obtain ⟨d,hd⟩:∃ d,T.at_ i=some d:=ZdI.1 ao;have ap:=qH (hI.step hd);have bm:=qH hd;have d9:i<n:=by rw [<- b6.out];exact Zek ao
 obtain ⟨au,fm,Y,ai,a6⟩:=KM.out;obtain ⟨o0,ca⟩:∃ o,fm (i:Int)=o:=⟨_,rfl⟩
 have ab:=(Y.look Zbp (Zec wr) (i:=(i:Int)) ⟨qO,qO⟩).2;by_cases r:i∈p
 case pos =>
  rw [a6 i,Yac r] at ab;obtain ⟨w4,cb,G,U⟩:=Y.store Zbp (by unfold maxLen;omega) (i:=(i:Int)) ⟨qO,qO⟩ (.int .i64 2);have L:=(G.look Zbp (Zec w4) (i:=(i:Int)) ⟨qO,qO⟩).2;rw [show mpPI fm (i:Int) (.int .i64 2) (i:Int)=some (.int .i64 2) from Yac rfl] at L;simp only [Yde] at ab L;have HE:Hid (X=.error 101):=qH (by rw [aa.out];exact ap.1 r);have N:=qH (KS.trans U fun b hb e=>qO);clear Y a6 G U hI hd r ap ai ca;go_wp2
  go_ret3
  rw [HE.out];exact ⟨N,rfl,qD⟩
 rw [a6 i,Yab r] at ab;obtain ⟨w4,cb,G,U⟩:=Y.store Zbp (by unfold maxLen;omega) (i:=(i:Int)) ⟨qO,qO⟩ (.int .i64 1);have L:=(G.look Zbp (Zec w4) (i:=(i:Int)) ⟨qO,qO⟩).2;rw [show mpPI fm (i:Int) (.int .i64 1) (i:Int)=some (.int .i64 1) from Yac rfl] at L;rw [a6 i,Yab r] at G;simp only [Yfb,Yde] at ab L;have bn:=qH G;have bo:Hid (au<=m/\∀ j:Nat,mpPI fm (i:Int) (.int .i64 1) (j:Int)=if j∈i::p then some (.int .i64 1) else none):=qH ⟨ai,fun j=>by
  unfold mpPI;by_cases e:j=i
  · rw [Yac qO,Yac (by simp [e])]
  rw [Yab qO,a6 j];simp [e]⟩
 have N:=qH (KS.trans U fun b hb e=>qO);have b7:=qH (HP.same N);have b8:∀ {q:Nat} {e:TypeId},OfT wr e q->¬ q=mb:=fun ⟨cs,H⟩ e=>Y.ne H e.symm;have bp:Hid (∃ xs,w4.ownsRow w.heap.size 3 1 (.slice a1 m c1) m xs):=qH (by obtain ⟨xs,H⟩:=KX.out;exact ⟨xs,Zae H U fun q hq=>b8 (Zaf H hq)⟩)
 have bq:Hid (Zmw w4 w.heap.size (.slice a2 m c2) F):=qH ⟨Zae KB.row U fun q hq=>b8 (Zaf KB.row hq),fun x hx=>(KB.each x hx).map Y U⟩;have t:=qH (ap.2 r);have cp:=qH (hI.len1 r);clear Y a6 G U hI hd r ap ai ca KM KX KB b8 KI;have HG:=qH (ZfR w4 b7 (i:Int));rw [a8.out] at HG;go_wp2_with fail;refine HG.mono ?_;rintro e w5 (⟨hu,rfl,rfl⟩ | ⟨y,v5,hy,bg,_,rfl,aj,bh⟩)
 · exact absurd hu (by unfold Zea;rw [YaV qO,YbP,YaN,ao];simp)
 rw [YaN] at hy;have b9:y.data=d:=by have H:=ZuH (k:=k) (vs:=vs) (z:=32) hy bg;rw [a8.out,bm.out] at H;exact (Yax H).symm
 have ac:d.length=31:=by have H:=b7.recs y (Ybe hy) bg;rw [b9] at H;omega
 rw [b9] at aj;obtain ⟨A5,c5,rfl⟩:=Zad aj;rw [ac] at aj ⊢;have br:=qH (Zkl w5 (ZfQ ac aj) ac);have da:=qH (N.trans bh fun _ _ f=>f);have cq:=qH bh;have cr:=qH ac;clear hy bg b9 ac aj bh ab L cb ao;go_wp2_with fail;refine br.mono ?_;rintro e w6 ⟨A1,I,rfl,cc,cd⟩;unfold BV.cells;simp only;obtain ⟨x,hx⟩:∃ x:BV,x=⟨d,A1,I⟩:=⟨_,rfl⟩
 obtain ⟨s,hs⟩:∃ s,Zav d=s:=⟨_,rfl⟩
 obtain ⟨u,hu⟩:∃ u,Zdj d=u:=⟨_,rfl⟩
 obtain ⟨nx,av⟩:∃ nx,Zcq d=nx:=⟨_,rfl⟩
 rw [hs,hu,av];have bt:x.cells=[.int .i64 (s:Int),.int .i64 (u:Int),.int .i64 nx,.slice A1 25 I]:=by rw [hx];unfold BV.cells;rw [hs,hu,av]
 have ct:=qH bt;have a3:Hid (x.d=d/\x.A=A1/\x.c=I):=qH (by rw [hx];exact ⟨rfl,rfl,rfl⟩);have W:Hid (Zav d=s/\Zdj d=u/\Zcq d=nx):=qH ⟨hs,hu,av⟩;have bu:=qH cc;have ba:=qH (cq.trans cd fun _ _ f=>f);clear hx hs hu av bt cc cd br;go_upto_region 14 with fail;have a4:=Yad w6 203 #[.int .i64 (s:Int),.int .i64 (u:Int),.int .i64 nx,.slice A1 25 I];have bb:=(Yaa (fun _=>False) w6).alloc (.cells #[.int .i64 (s:Int),.int .i64 (u:Int),.int .i64 nx,.slice A1 25 I] 203);have ad:=qH (ba.trans bb fun _ _ f=>f);have bv:=qH a4;have aq:Hid (Zau (w6.alloc (.cells #[.int .i64 (s:Int),.int .i64 (u:Int),.int .i64 nx,.slice A1 25 I] 203)) 0 ⟨d.drop 6,A1,25,I⟩):=qH (Zau.same (x:=⟨d.drop 6,A1,25,I⟩) bu bb);generalize w6.alloc (.cells #[.int .i64 (s:Int),.int .i64 (u:Int),.int .i64 nx,.slice A1 25 I] 203)=w7 at *;have db:w4.heap.size<=w6.heap.size:=ba.size;generalize w6.heap.size=bx at *;have q0:=a4.cell 0;have q1:=a4.cell 1;have q2:=a4.cell 2;have q3:=a4.cell 3;simp only [Ybj,YaW,Ybd] at q0 q1 q2 q3;have P:=qH (Zkm w7 (d:=d) aq (b7.same ad));unfold BV.cells at P;simp only at P;rw [a8.out,W.1,W.2.1,W.2.2] at P;rw [W.1] at t;obtain ⟨S,hS⟩:∃ S,ZaV T d=S:=⟨_,rfl⟩
 have cu:=qH hS;rw [hS] at P t;clear a4 bb ba bu hS;by_cases C:(s=1)=(i=V)
 case neg =>
  have HE:Hid (X=.error 100):=qH (by rw [aa.out];exact t.1 (.inl C));clear t P aq;by_cases e1:s=1
  · have e2:¬ (i:Int)=(V:Int):=fun h=>C (by rw [eq_true e1,eq_true (show i=V by omega)]);clear C;subst e1;go_wp2
    go_ret3
    rw [HE.out];exact ⟨N.trans ad.out fun _ _ f=>f,rfl,qD⟩
  have e2:i=V:=by
   rcases Nat.decEq i V with h | h
   · exact absurd (by rw [eq_false e1,eq_false h]) C
   exact h
  have dc:¬ (s:Int)=1:=qO;clear C;subst e2;go_wp2
  go_ret3
  rw [HE.out];exact ⟨N.trans ad fun _ _ f=>f,rfl,qD⟩
 have ae:=qH (t.2 C);have HE:Hid (S=false->X=.error 100):=qH fun h=>by rw [aa.out];exact t.1 (.inr h)
 clear t;go_cut [58] from 46 to 68 (fun d1 wx=>d1=.bool (!S)/\Hid (Same w7 wx))
 case first =>
  by_cases e1:s=1
  · have e2:i=V:=by rw [<- C];exact e1
    clear C;subst e1;subst e2;go_wp2_with fail;refine P.mono ?_;rintro e w8 ⟨rfl,ak⟩;have R:=qH ak;clear ak;go_wp2;go_meet;exact ⟨rfl,R⟩
  have e2:¬ i=V:=by rw [<- C];exact e1
  have e3:¬ (s:Int)=1:=qO;have e4:¬ (i:Int)=(V:Int):=qO;have e5:((s:Int)==1)=false:=Ybn.2 e3;have e6:((i:Int)==(V:Int))=false:=Ybn.2 e4;clear C;go_wp2_with fail;refine P.mono ?_;rintro e w8 ⟨rfl,ak⟩;have R:=qH ak;clear ak;go_wp2;go_meet;exact ⟨rfl,R⟩
 obtain ⟨rfl,R⟩:=hcut;clear C P q0 q1 q2 q3;cases S with
 | false =>
   have cv:=qH (HE.out rfl);have cw:=qH (N.trans (ad.trans R fun _ _ f=>f) fun _ _ f=>f);clear HE ae;go_wp2
   go_ret3
   rw [cv.out];exact ⟨cw,rfl,qD⟩
 | true =>
   have HW:=qH (ae.out rfl);have a5:=qH (ad.trans R fun _ _ f=>f);have ar:=bv.same R.out;have bw:=qH (aq.same R);have d2:=qH ar;have a9:u<=25:=by have H:=cu.out;unfold ZaV at H;simp only [Yay,Ybc] at H;have:=H.2.1;have:=W.2.1;omega
   obtain ⟨xs,a7⟩:∃ xs,wc.ownsRow w.heap.size 3 1 (.slice a1 m c1) m xs:=by obtain ⟨xs,H⟩:=bp.out;exact ⟨xs,Zaa H a5⟩
   have cx:m+1<=n:=by have H:=cp.out;have h6:=b6.out;have h7:=KL.1;omega
   have dd:w.heap.size<=wc.heap.size:=Yaj N.size a5.size;clear HE ae aq bv bp;go_upto_region 17 with (at_builtin;go_must (refine Zat rfl (.tmp 59) (.tmp 61) _ _ rfl w.heap.size 3 1 8 _ Tryz.underlying110 ZcM rfl (.slice a1 m c1) m _ rfl (a7.alloc _) rfl (Zbg Tryz.underlying110 (Ydh _ _ _) (by simp [Value.oneCell'])) (by unfold maxLen;omega) qO (by simp;omega) ?_);intro df O al;obtain ⟨ce,cf,rfl⟩:=Zad al.own;have aw:=qH al;clear al);have D:Upd (fun b=>(Value.slice a1 m c1).ownBlock=some b) wc O:=((Yaa _ wc).alloc _).trans aw.upd fun _ _ h=>h;have Z:∀ g,g<wc.heap.size->(Value.slice a1 m c1).ownBlock=some g->OfT wc 3 g:=fun g _ hg=>Zaf a7 hg;have a:=ar.upd D fun h=>ar.ne_own a7 qD h;have bc:=qH a;have bd:=bq.same a5.out;have af:Zmw O w.heap.size (.slice a2 m c2) F:=⟨Zbk bd.row D Z qD,fun y hy=>(bd.each y hy).type D Z qD⟩
   have ax:=(bn.same a5).upd D fun h=>by obtain ⟨cs,H⟩:=Zaf a7 h;exact (bn.same a5).ne H rfl
   have ay:=qH ax;have bz:BvOk O x:=⟨Zau.type (by unfold BV.bs;rw [a3.1,a3.2.1,a3.2.2];exact bw) D Z qD,by rw [a3.1,W.2.1];exact a9,by rw [a3.1];exact cr⟩
   have cy:=qH bz;have az:=qH ((N.trans a5 fun _ _ f=>f).trans D fun q hq hh=>by have:=(a7.lt q hh).1;omega)
   have M:=af.row;rw [KL.2.1] at M;have c0:=qH af;have d3:w.heap.size<=O.heap.size:=az.size;have q0:=a.cell 0;have q1:=a.cell 1;have q2:=a.cell 2;have q3:=a.cell 3;simp only [Ybj,YaW,Ybd] at q0 q1 q2 q3;clear D Z a bd af ax bz ar a7;go_upto_region 18 with (at_builtin;go_must (refine Zat rfl (.tmp 63) (.tmp 65) _ _ rfl w.heap.size 203 4 48 _ Tryz.underlying288 Zqc rfl (.slice a2 m c2) m _ rfl (M.alloc _) rfl (Zbg Tryz.underlying288 (Ycb (Yad O 203 #[.int .i64 (s:Int),.int .i64 (u:Int),.int .i64 nx,.slice A1 25 I]) (k:=4) (n:=1) (c:=1) rfl (Yae _) (by simp [maxLen])) (by simp [Value.oneCell'])) (by unfold maxLen;omega) qO (by simp;omega) ?_);intro dg bi am;obtain ⟨cg,ch,rfl⟩:=Zad am.own;have b0:=qH am;clear am);have E:Upd (fun b=>(Value.slice a2 m c2).ownBlock=some b) O bi:=((Yaa _ O).alloc _).trans b0.upd fun _ _ h=>h;have a0:∀ g,g<O.heap.size->(Value.slice a2 m c2).ownBlock=some g->OfT O 203 g:=fun g _ hg=>Zaf M hg;have b1:bi.ownsRow w.heap.size 3 1 (.slice ce (m+1) cf) (m+1) _:=Zbk aw.own E a0 qD;have c3:=qH b1;have ag:=bc.upd E fun h=>by have:=(bq.row.lt bx h).2;omega
   have c4:=qH (az.trans E fun q hq hh=>by have:=(M.lt q hh).1;omega)
   have b2:Zmw bi w.heap.size (.slice cg (m+1) ch) (F++[x]):=by
    refine ⟨?_,fun y hy=>?_⟩
    · have H:=b0.own;rw [Yaf,KL.2.1,YbS,List.flatMap_singleton,ct.out];exact H
    rcases YaR.1 hy with hy | hy
    · exact (c0.each y hy).type E a0 qD
    rw [YaH.1 hy];exact cy.type E a0 qD
   have c6:=qH b2;have c7:=qH (ay.upd E fun h=>by obtain ⟨cs,H⟩:=Zaf M h;exact ay.ne H rfl)
   have b3:(i::p).length=m+1/\(F++[x]).length=m+1/\(F++[x]).map BV.d=(i::p).reverse.map (atD T):=by refine ⟨by rw [Yao,KL.1],by rw [Yaf,KL.2.1];rfl,?_⟩;rw [YaG,KL.2.2,List.reverse_cons,YaG];congr 1;simp only [YaF,YcG];unfold atD;rw [bm.out,a3.1]
   have c8:=qH b3;have cz:Hid ((nx = -1/\X=.ok (i::p).reverse)\/∃ j:Nat,nx=(j:Int)/\AlI T V (i::p) j):=qH (by
    rw [<- W.2.2];cases hbn:ZbJ d with
    | none=>exact .inl ⟨Zel.2 hbn,by rw [aa.out];exact HW.1 hbn⟩
    | some j=>exact .inr ⟨j,Zem hbn,HW.2 j hbn⟩)
   have q2:=ag.cell 2;simp only [Ybj,YaW,Ybd] at q2;clear E a0 b1 ag b2 b3 M q0 q1 q3;go_wp2;go_roundg (n+1-(m+1))
   case measure=>omega
   case rel=>exact ⟨m+1,nx,ce,cf,cg,ch,i::p,F++[x],rfl,cx,rfl,rfl,rfl,rfl,c8,qH ⟨_,c3⟩,c6,qH ⟨_,_,c7,by have:=bo.1;simp;omega,bo.2⟩,c4,cz⟩
end Go.Proofs.YtmkjfhnlnhceiaaGreatDoor
