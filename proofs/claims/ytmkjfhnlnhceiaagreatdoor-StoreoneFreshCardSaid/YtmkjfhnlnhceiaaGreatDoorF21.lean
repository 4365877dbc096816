/- Lemmas: walks and plain laws. -/
import Derived.Test.YtmkjfhnlnhceiaaGreatDoorF19
import Derived.Test.YtmkjfhnlnhceiaaGreatDoorF20
set_option maxRecDepth 100000
set_option maxHeartbeats 16000000
namespace Go.Proofs.YtmkjfhnlnhceiaaGreatDoor
variable {w' wa w1 A:World} {S:Nat->Prop} {n z i first g0 D:Nat} {c:List Nat} {sv:Value}
section
open Go.RowKit
theorem BV.four (x:BV):x.cells.length=4:=rfl
theorem ZqO:(Tryz.prog.info? 203).map (fun i=>(i.zero,i.size,i.bytes))=some (some (.agg #[.int .i64 0,.int .i64 0,.int .i64 0,.slice none 0 0]),4,48):=qK
def BV.bs (x:BV):BS:=⟨x.d.drop 6,x.A,25,x.c⟩
structure BvOk (w:World) (x:BV):Prop where
 row:IB w 0 x.bs
 used:VD x.d<=25
 len:x.d.length=31
structure lK (w:World) (B:Nat) (v:Value) (l:List BV):Prop where
 row:w.ownsRow B 203 4 v l.length (l.flatMap BV.cells)
 each:∀ x∈l,BvOk w x
theorem BvOk.same {w:World} {x:BV} (h:BvOk w x) (hu:Same w w'):BvOk w' x:=⟨h.row.same hu,h.used,h.len⟩
theorem BvOk.type {w:World} {e':TypeId} {x:BV} (h:BvOk w x) (hu:Upd S w w') (hS:∀ g,g<w.heap.size->S g->OfT w e' g) (a:5≠e'):BvOk w' x:=⟨h.row.type hu hS a,h.used,h.len⟩
theorem lK.same {w:World} {B:Nat} {v:Value} {l:List BV} (h:lK w B v l) (hu:Same w w'):lK w' B v l:=⟨mA h.row hu,fun x a=>(h.each x a).same hu⟩
theorem BvOk.map {w:World} {x:BV} {mb:Nat} {q:Int->Option Value} (h:BvOk w x) (hm:MpI w mb n q) (hu:Upd (fun y=>y=mb) w w'):BvOk w' x:=by refine ⟨h.row.upd hu fun b c e=>?_,h.used,h.len⟩;obtain ⟨_,_,f,g,a⟩:=c;obtain ⟨i,j,d⟩:=hm.obj;rw [e,d] at a;cases a
theorem ZvL {k vs:Nat} {l:List BS} {x:BS} (hx:l[i]?=some x) (hA:x.A≠none):(filD k vs z l).at_ i=some x.data:=by
 unfold YA.at_ filD;simp only [MA,hx,VC];unfold BS.rc;cases h:x.A with
 | none=>exact absurd h hA
 | some a=>rfl
def mK (f:YA) (i:Int):Except Int (List Nat):=if f.size≠32 then .error 4 else if i<0\/f.used i.toNat=false then .error 3 else mD f (f.recs.length+1) [] i.toNat
def atD (f:YA) (j:Nat):List UInt8:=match f.at_ j with | some d=>d | none=>[]
structure AlI (f:YA) (first:Nat) (met:List Nat) (i:Nat):Prop where
 nodup:met.Nodup
 used:∀ j∈met,f.used j=true
 cur:f.used i=true
 fst:met=[]->i=first
 mem:met≠[]->first∈met
 eq:mD f (f.recs.length+1) [] first=match mD f (f.recs.length+1-met.length) met i with | .error e=>.error e | .ok l=>.ok (met.reverse++l)
theorem AlI.start {f:YA} (h:f.used first=true):AlI f first [] first:=⟨NL,qS,h,fun _=>rfl,fun h=>absurd rfl h,by simp only [mC,BH,List.reverse_nil,SB];cases mD f (f.recs.length+1) [] first <;> rfl⟩
theorem AlI.len {f:YA} (h:AlI f first c i):c.length<=f.recs.length:=by
 have a:c.length<=(List.range f.recs.length).length:=oJ h.nodup fun j b=>by rw [vF];exact uJ (h.used j b)
 rwa [TI] at a
theorem AlI.len1 {f:YA} (h:AlI f first c i) (hn:i ∉ c):c.length+1<=f.recs.length:=by
 have b:(i::c).length<=(List.range f.recs.length).length:=oJ (lE.2 ⟨hn,h.nodup⟩) fun j a=>by
  rw [vF];rcases TA.1 a with rfl | a
  · exact uJ h.cur
  exact uJ (h.used j a)
 rwa [TI] at b
theorem AlI.step {f:YA} {x:List Nat} {d:List UInt8} (h:AlI f first x i) (hd:f.at_ i=some d):
 (i∈x->mD f (f.recs.length+1) [] first=.error 101) /\
 (i ∉ x->((JB d=1)≠(i=first)\/IC f d=false->mD f (f.recs.length+1) [] first=.error 100) /\
   ((JB d=1)=(i=first)->IC f d=true->(yC d=none->mD f (f.recs.length+1) [] first=.ok (i::x).reverse)/\∀ j,yC d=some j->AlI f first (i::x) j)):=by
 have w:=h.len;obtain ⟨k,u⟩:∃ k,f.recs.length+1-x.length=k+1:=⟨f.recs.length-x.length,qO⟩
 have a:=h.eq;obtain ⟨X,s⟩:=qx (mD f (f.recs.length+1) [] first);rw [s] at a ⊢;rw [u,mD] at a;have n:i ∉ x->((i=first)=(x=[])):=fun c=>propext ⟨fun e=>by
  by_cases b:x=[]
  · exact b
  exact absurd (e ▸ h.mem b) c,h.fst⟩
 refine ⟨fun b=>by rw [gA b] at a;exact a,fun c=>?_⟩;rw [aA c,hd] at a;simp only at a;rw [n c];refine ⟨fun p=>by rw [gA p] at a;exact a,fun p g=>?_⟩;rw [aA (by rintro (m | m);exact m p;rw [g] at m;cases m)] at a;refine ⟨fun v=>?_,fun j t=>?_⟩
 · rw [v] at a;rw [a];simp
 rw [t] at a;have o:f.used j=true:=by unfold IC at g;rw [t] at g;simp only [kB] at g;exact g.2.2.2.2
 refine ⟨lE.2 ⟨c,h.nodup⟩,fun q r=>?_,o,(fun h=>by cases h),fun _=>?_,?_⟩
 · rcases TA.1 r with rfl | r
   · exact h.cur
   exact h.used q r
 · by_cases b:x=[]
   · rw [h.fst b];simp
   exact IH _ (h.mem b)
 rw [s,a,BA,show f.recs.length+1-(x.length+1)=k by omega];simp only;cases mD f k (i::x) j with
 | error e=>rfl
 | ok l=>simp
def AlR (w:World) (f:YA) (X:Except Int (List Nat)) (e:Ending) (w':World):Prop:=Same w w' /\
 match X with
 | .error er=>e=.returned (.tuple #[.slice none 0 0,.slice none 0 0,.int .i64 er])/\er≠0
 | .ok ids=>∃ v1 v2 bvs,e=.returned (.tuple #[v1,v2,.int .i64 0])/\lK w' w.heap.size v2 bvs/\bvs.map BV.d=ids.map (atD f)/\ids.length<=f.recs.length
theorem ZqP {B f k vs low:Nat} {v:Value} {l:List BS} (w:World) (hP:PF w B f k vs z v l low) (first:Int) (df : -9223372036854775808<=first/\first<=9223372036854775807):
 Calls Tryz.prog 196 #[.pointer (some ⟨f,0,none⟩),.int .i64 first] w (AlR w (filD k vs z l) (mK (filD k vs z l) first)):=by
 have HP:=qH hP;obtain ⟨W,ah⟩:=qx (filD k vs z l);have a8:=qH ah;have bi:W.size=z:=by rw [<- ah];rfl
 have bj:W.recs.length=l.length:=by rw [<- ah];simp [filD]
 rw [ah];obtain ⟨X,hX⟩:=qx (mK W first);rw [hX];have HX:=qH hX;have ci:=qH bj;have cj:=hP.size;clear hP hX ah bj;have d3:=@YG Tryz.prog;go_enter Tryz.func196,Tryz.ntmps196;go_wp2_with fail;refine (SN w HP).mono ?_;rintro e w1 ⟨rfl,rfl⟩;by_cases hz:z=32
 case neg =>
  have HE:Hid (X=.error 4):=qH (by rw [<- HX.out];unfold mK;rw [gA (by rw [bi];exact hz)]);have d4:¬ (z:Int)=32:=qO;clear HX;go_wp2
  go_ret3
  rw [HE.out];exact ⟨eA _ _,rfl,qD⟩
 subst hz;have an:=qH (HX.symm.trans (show mK W first=if first<0\/W.used first.toNat=false then .error 3 else mD W (W.recs.length+1) [] first.toNat by unfold mK;rw [aA (by rw [bi];simp)]));clear HX;have HG:=qH (XS w HP first);rw [a8.out] at HG;go_wp2_with fail;refine HG.mono ?_;rintro e w1 (⟨hu,rfl,rfl⟩ | ⟨y0,v0,bf,b3,h0,rfl,_,c8⟩)
 · have HE:Hid (X=.error 3):=qH (by
    rw [an.out,gA];unfold VE at hu;by_cases h1:0<=first
    · rw [kC h1,zD] at hu;exact .inr hu
    exact .inl qO)
   clear hu an;go_wp2
   go_ret3
   rw [HE.out];exact ⟨eA _ _,rfl,qD⟩
 obtain ⟨U,rfl⟩:∃ U:Nat,first=(U:Int):=⟨first.toNat,qO⟩
 rw [XB] at bf;have a9:W.used U=true:=by rw [<- a8.out];exact aM.2 ⟨y0,bf,b3⟩
 have aa:=qH (an.trans (aA (by rw [XB,a9];rintro (h | h);omega;cases h)));rw [XB] at aa;have ck:=qH a9;have b4:=qH c8;clear an bf b3 a9 c8 HG;go_upto_region 7 with fail;have bk:=(iA w1).alloc (.map #[] 0);have cl:=qH (WN w1);have cm:=qH (b4.trans bk qf);have d5:w.heap.size<=w1.heap.size:=b4.size;clear bk b4;generalize w1.alloc (.map #[] 0)=w2 at *;generalize dc:w1.heap.size=mb at *;go_wp2_with fail;obtain ⟨n,hn⟩:=qx W.recs.length;have d6:n<=65536:=by rw [<- hn,ci.out];exact HP.len
 have b5:=qH hn;clear hn;go_loopg [4,5,6,10] (n+1) (fun gh s4 s5 s6 d0 wr=>∃ (m:Nat) (id:Int) (a1:Option Addr) (c1:Nat) (a2:Option Addr) (c2:Nat) (p:List Nat) (F:List BV),n+1-m=gh/\m<=n/\s4=.slice a1 m c1/\s5=.slice a2 m c2/\s6=.int .i64 0/\d0=.int .i64 id /\
  Hid (p.length=m/\F.length=m/\F.map BV.d=p.reverse.map (atD W))/\Hid (∃ xs,wr.ownsRow w.heap.size 3 1 (.slice a1 m c1) m xs)/\Hid (lK wr w.heap.size (.slice a2 m c2) F) /\
  Hid (∃ ar fm,MpI wr mb ar fm/\ar<=m/\∀ j:Nat,fm (j:Int)=if j∈p then some (.int .i64 1) else none)/\Hid (Same w wr)/\Hid ((id = -1/\X=.ok p.reverse)\/∃ i:Nat,id=(i:Int)/\AlI W U p i))
 case atStart =>
  exact ⟨0,(U:Int),none,0,none,0,[],[],rfl,oA _,rfl,rfl,rfl,rfl,qH ⟨rfl,rfl,rfl⟩,qH ⟨[],iC _ _ _ _⟩,qH ⟨iC _ _ _ _,qS⟩,qH ⟨0,_,cl,lA _,fun j=>qS⟩,cm,qH (.inr ⟨U,rfl,AlI.start ck⟩)⟩
 obtain ⟨m,id,a1,c1,a2,c2,p,F,rfl,hm,rfl,rfl,rfl,rfl,KL,KX,KB,KM,KS,KI⟩:=hrel;rcases KI.out with ⟨rfl,hX⟩ | ⟨i,rfl,hI⟩
 · have cn:=qH hX;have co:=KB;clear hX KI;go_wp2
   go_ret3
   rw [cn.out];refine ⟨KS,_,_,F,rfl,co,KL.2.2,?_⟩;rw [List.length_reverse,KL.1,b5.out];exact hm
 have ao:=hI.cur;have d7:¬ ((i:Int) = -1):=qO;obtain ⟨d,hd⟩:∃ d,W.at_ i=some d:=EI.1 ao;have ap:=qH (hI.step hd);have bl:=qH hd;have d8:i<n:=by rw [<- b5.out];exact uJ ao
 obtain ⟨ar,fm,Y,ai,a6⟩:=KM.out;obtain ⟨o0,c9⟩:∃ o,fm (i:Int)=o:=⟨_,rfl⟩
 have ab:=(Y.look vE (aF wr) (i:=(i:Int)) ⟨qO,qO⟩).2;by_cases r:i∈p
 case pos =>
  rw [a6 i,gA r] at ab;obtain ⟨w4,ca,G,T⟩:=Y.store vE qM (i:=(i:Int)) ⟨qO,qO⟩ (.int .i64 2);have L:=(G.look vE (aF w4) (i:=(i:Int)) ⟨qO,qO⟩).2;rw [show mpPI fm (i:Int) (.int .i64 2) (i:Int)=some (.int .i64 2) from gA rfl] at L;simp only [sI] at ab L;have HE:Hid (X=.error 101):=qH (by rw [aa.out];exact ap.1 r);have O:=qH (KS.trans T fun b hb e=>qO);clear Y a6 G T hI hd r ap ai c9;go_wp2
  go_ret3
  rw [HE.out];exact ⟨O,rfl,qD⟩
 rw [a6 i,aA r] at ab;obtain ⟨w4,ca,G,T⟩:=Y.store vE qM (i:=(i:Int)) ⟨qO,qO⟩ (.int .i64 1);have L:=(G.look vE (aF w4) (i:=(i:Int)) ⟨qO,qO⟩).2;rw [show mpPI fm (i:Int) (.int .i64 1) (i:Int)=some (.int .i64 1) from gA rfl] at L;rw [a6 i,aA r] at G;simp only [oN,sI] at ab L;have bm:=qH G;have bn:Hid (ar<=m/\∀ j:Nat,mpPI fm (i:Int) (.int .i64 1) (j:Int)=if j∈i::p then some (.int .i64 1) else none):=qH ⟨ai,fun j=>by
  unfold mpPI;by_cases e:j=i
  · rw [gA qO,gA (by simp [e])]
  rw [aA qO,a6 j];simp [e]⟩
 have O:=qH (KS.trans T fun b hb e=>qO);have b6:=qH (HP.same O);have b7:∀ {q:Nat} {e:TypeId},OfT wr e q->¬ q=mb:=fun ⟨cs,H⟩ e=>Y.ne H e.symm;have bo:Hid (∃ xs,w4.ownsRow w.heap.size 3 1 (.slice a1 m c1) m xs):=qH (by obtain ⟨xs,H⟩:=KX.out;exact ⟨xs,GA H T fun q hq=>b7 (LA H hq)⟩)
 have bp:Hid (lK w4 w.heap.size (.slice a2 m c2) F):=qH ⟨GA KB.row T fun q hq=>b7 (LA KB.row hq),fun x hx=>(KB.each x hx).map Y T⟩;have t:=qH (ap.2 r);have cp:=qH (hI.len1 r);clear Y a6 G T hI hd r ap ai c9 KM KX KB b7 KI;have HG:=qH (XS w4 b6 (i:Int));rw [a8.out] at HG;go_wp2_with fail;refine HG.mono ?_;rintro e w5 (⟨hu,rfl,rfl⟩ | ⟨y,v5,hy,bg,_,rfl,aj,cb⟩)
 · exact absurd hu (by unfold VE;rw [kC qO,zD,XB,ao];simp)
 rw [XB] at hy;have b8:y.data=d:=by have H:=ZvL (k:=k) (vs:=vs) (z:=32) hy bg;rw [a8.out,bl.out] at H;exact (eB H).symm
 have ac:d.length=31:=by have H:=b6.recs y (OC hy) bg;rw [b8] at H;omega
 rw [b8] at aj;obtain ⟨A5,c5,rfl⟩:=WA aj;rw [ac] at aj ⊢;have bq:=qH (BY w5 (VS ac aj) ac);have cq:=qH cb;have cr:=qH ac;clear hy bg b8 ac aj cb ab L ca ao;go_wp2_with fail;refine bq.mono ?_;rintro e w6 ⟨A1,I,rfl,cc,cd⟩;unfold BV.cells;simp only;obtain ⟨x,hx⟩:∃ x:BV,x=⟨d,A1,I⟩:=⟨_,rfl⟩
 obtain ⟨s,hs⟩:=qx (JB d);obtain ⟨u,hu⟩:=qx (VD d);obtain ⟨nx,au⟩:=qx (gF d);rw [hs,hu,au];have br:x.cells=[.int .i64 (s:Int),.int .i64 (u:Int),.int .i64 nx,.slice A1 25 I]:=by rw [hx];unfold BV.cells;rw [hs,hu,au]
 have ct:=qH br;have a3:Hid (x.d=d/\x.A=A1/\x.c=I):=qH (by rw [hx];exact ⟨rfl,rfl,rfl⟩);have V:Hid (JB d=s/\VD d=u/\gF d=nx):=qH ⟨hs,hu,au⟩;have bt:=qH cc;have b9:=qH (cq.trans cd qf);clear hx hs hu au br cc cd bq;go_upto_region 14 with fail;have a4:=jA w6 203 #[.int .i64 (s:Int),.int .i64 (u:Int),.int .i64 nx,.slice A1 25 I];have ba:=(iA w6).alloc (.cells #[.int .i64 (s:Int),.int .i64 (u:Int),.int .i64 nx,.slice A1 25 I] 203);have ad:=qH (b9.trans ba qf);have bu:=qH a4;have aq:Hid (IB (w6.alloc (.cells #[.int .i64 (s:Int),.int .i64 (u:Int),.int .i64 nx,.slice A1 25 I] 203)) 0 ⟨d.drop 6,A1,25,I⟩):=qH (IB.same (x:=⟨d.drop 6,A1,25,I⟩) bt ba);generalize w6.alloc (.cells #[.int .i64 (s:Int),.int .i64 (u:Int),.int .i64 nx,.slice A1 25 I] 203)=w7 at *;have d9:w4.heap.size<=w6.heap.size:=b9.size;generalize w6.heap.size=bx at *;have q0:=a4.cell 0;have q1:=a4.cell 1;have q2:=a4.cell 2;have q3:=a4.cell 3;simp only [YC,rC,LC] at q0 q1 q2 q3;have P:=qH (CY w7 (d:=d) aq (b6.same ad));unfold BV.cells at P;simp only at P;rw [a8.out,V.1,V.2.1,V.2.2] at P;rw [V.1] at t;obtain ⟨S,hS⟩:=qx (IC W d);have cu:=qH hS;rw [hS] at P t;clear a4 ba b9 bt hS;by_cases C:(s=1)=(i=U)
 case neg =>
  have HE:Hid (X=.error 100):=qH (by rw [aa.out];exact t.1 (.inl C));clear t P aq;by_cases e1:s=1
  · have e2:¬ (i:Int)=(U:Int):=fun h=>C (by rw [eq_true e1,eq_true (show i=U by omega)]);clear C;subst e1;go_wp2
    go_ret3
    rw [HE.out];exact ⟨O.trans ad.out qf,rfl,qD⟩
  have e2:i=U:=by
   rcases Nat.decEq i U with h | h
   · exact absurd (by rw [eq_false e1,eq_false h]) C
   exact h
  have da:¬ (s:Int)=1:=qO;clear C;subst e2;go_wp2
  go_ret3
  rw [HE.out];exact ⟨O.trans ad qf,rfl,qD⟩
 have ae:=qH (t.2 C);have HE:Hid (S=false->X=.error 100):=qH fun h=>by rw [aa.out];exact t.1 (.inr h)
 clear t;go_cut [58] from 46 to 68 (fun d1 wx=>d1=.bool (!S)/\Hid (Same w7 wx))
 case first =>
  by_cases e1:s=1
  · have e2:i=U:=by rw [<- C];exact e1
    clear C;subst e1;subst e2;go_wp2_with fail;refine P.mono ?_;rintro e w8 ⟨rfl,ak⟩;have R:=qH ak;clear ak;go_wp2;go_meet;exact ⟨rfl,R⟩
  have e2:¬ i=U:=by rw [<- C];exact e1
  have e3:¬ (s:Int)=1:=qO;have e4:¬ (i:Int)=(U:Int):=qO;have e5:((s:Int)==1)=false:=WC.2 e3;have e6:((i:Int)==(U:Int))=false:=WC.2 e4;clear C;go_wp2_with fail;refine P.mono ?_;rintro e w8 ⟨rfl,ak⟩;have R:=qH ak;clear ak;go_wp2;go_meet;exact ⟨rfl,R⟩
 obtain ⟨rfl,R⟩:=hcut;clear C P q0 q1 q2 q3;cases S with
 | false =>
   have cv:=qH (HE.out rfl);have cw:=qH (O.trans (ad.trans R qf) qf);clear HE ae;go_wp2
   go_ret3
   rw [cv.out];exact ⟨cw,rfl,qD⟩
 | true =>
   have HW:=qH (ae.out rfl);have a5:=qH (ad.trans R qf);have bb:=bu.same R.out;have bv:=qH (aq.same R);have a9:u<=25:=by have H:=cu.out;unfold IC at H;simp only [kB,NC] at H;have:=H.2.1;have:=V.2.1;omega
   obtain ⟨xs,a7⟩:∃ xs,wc.ownsRow w.heap.size 3 1 (.slice a1 m c1) m xs:=by obtain ⟨xs,H⟩:=bo.out;exact ⟨xs,mA H a5⟩
   have cx:m+1<=n:=by have H:=cp.out;have h6:=b5.out;have h7:=KL.1;omega
   have db:w.heap.size<=wc.heap.size:=tA O.size a5.size;clear HE ae aq bu bo;go_upto_region 17 with (at_builtin;go_must (refine XD rfl (.tmp 59) (.tmp 61) _ _ rfl w.heap.size 3 1 8 _ mG jK rfl (.slice a1 m c1) m _ rfl (a7.alloc _) rfl (GD mG (tI _ _ _) (by simp [Value.oneCell'])) qM qO qP ?_);intro dd N al;obtain ⟨ce,cf,rfl⟩:=WA al.own;have av:=qH al;clear al);have D:Upd (fun b=>(Value.slice a1 m c1).ownBlock=some b) wc N:=((eA _ wc).alloc _).trans av.upd qf;have Z:∀ g,g<wc.heap.size->(Value.slice a1 m c1).ownBlock=some g->OfT wc 3 g:=fun g _ hg=>LA a7 hg;have a:=bb.upd D fun h=>bb.ne_own a7 qD h;have bc:=qH a;have bd:=bp.same a5.out;have af:lK N w.heap.size (.slice a2 m c2) F:=⟨ZE bd.row D Z qD,fun y hy=>(bd.each y hy).type D Z qD⟩
   have aw:=(bm.same a5).upd D fun h=>by obtain ⟨cs,H⟩:=LA a7 h;exact (bm.same a5).ne H rfl
   have ax:=qH aw;have bw:BvOk N x:=⟨IB.type (by unfold BV.bs;rw [a3.1,a3.2.1,a3.2.2];exact bv) D Z qD,by rw [a3.1,V.2.1];exact a9,by rw [a3.1];exact cr⟩
   have cy:=qH bw;have ay:=qH ((O.trans a5 qf).trans D fun q hq hh=>by have:=(a7.lt q hh).1;omega)
   have M:=af.row;rw [KL.2.1] at M;have bz:=qH af;have d2:w.heap.size<=N.heap.size:=ay.size;have q0:=a.cell 0;have q1:=a.cell 1;have q2:=a.cell 2;have q3:=a.cell 3;simp only [YC,rC,LC] at q0 q1 q2 q3;clear D Z a bd af aw bw bb a7;go_upto_region 18 with (at_builtin;go_must (refine XD rfl (.tmp 63) (.tmp 65) _ _ rfl w.heap.size 203 4 48 _ Tryz.underlying288 ZqO rfl (.slice a2 m c2) m _ rfl (M.alloc _) rfl (GD Tryz.underlying288 (XF (jA N 203 #[.int .i64 (s:Int),.int .i64 (u:Int),.int .i64 nx,.slice A1 25 I]) (k:=4) (n:=1) (c:=1) rfl (lA _) (by simp [maxLen])) (by simp [Value.oneCell'])) qM qO qP ?_);intro de bh am;obtain ⟨cg,ch,rfl⟩:=WA am.own;have az:=qH am;clear am);have E:Upd (fun b=>(Value.slice a2 m c2).ownBlock=some b) N bh:=((eA _ N).alloc _).trans az.upd qf;have a0:∀ g,g<N.heap.size->(Value.slice a2 m c2).ownBlock=some g->OfT N 203 g:=fun g _ hg=>LA M hg;have b0:bh.ownsRow w.heap.size 3 1 (.slice ce (m+1) cf) (m+1) _:=ZE av.own E a0 qD;have c0:=qH b0;have ag:=bc.upd E fun h=>by have:=(bp.row.lt bx h).2;omega
   have c3:=qH (ay.trans E fun q hq hh=>by have:=(M.lt q hh).1;omega)
   have b1:lK bh w.heap.size (.slice cg (m+1) ch) (F++[x]):=by
    refine ⟨?_,fun y hy=>?_⟩
    · have H:=az.own;rw [kA,KL.2.1,jF,List.flatMap_singleton,ct.out];exact H
    rcases YB.1 hy with hy | hy
    · exact (bz.each y hy).type E a0 qD
    rw [QB.1 hy];exact cy.type E a0 qD
   have c4:=qH b1;have c6:=qH (ax.upd E fun h=>by obtain ⟨cs,H⟩:=LA M h;exact ax.ne H rfl)
   have b2:(i::p).length=m+1/\(F++[x]).length=m+1/\(F++[x]).map BV.d=(i::p).reverse.map (atD W):=by refine ⟨by rw [BA,KL.1],by rw [kA,KL.2.1];rfl,?_⟩;rw [DB,KL.2.2,List.reverse_cons,DB];congr 1;simp only [CB,TG];unfold atD;rw [bl.out,a3.1]
   have c7:=qH b2;have cz:Hid ((nx = -1/\X=.ok (i::p).reverse)\/∃ j:Nat,nx=(j:Int)/\AlI W U (i::p) j):=qH (by
    rw [<- V.2.2];cases hbn:yC d with
    | none=>exact .inl ⟨IQ.2 hbn,by rw [aa.out];exact HW.1 hbn⟩
    | some j=>exact .inr ⟨j,JQ hbn,HW.2 j hbn⟩)
   have q2:=ag.cell 2;simp only [YC,rC,LC] at q2;clear E a0 b0 ag b1 b2 M q0 q1 q3;go_wp2;go_roundg (n+1-(m+1))
   case measure=>omega
   case rel=>exact ⟨m+1,nx,ce,cf,cg,ch,i::p,F++[x],rfl,cx,rfl,rfl,rfl,rfl,c7,qH ⟨_,c0⟩,c4,qH ⟨_,_,c6,by have:=bn.1;simp;omega,bn.2⟩,c3,cz⟩
end
section
abbrev UL:=List (Nat×List UInt8)
def stL (L:UL):List Nat:=(L.filter fun p=>JB p.2==1).map Prod.fst
def nmL (L:UL) (c:Nat):Nat:=(stL L).count c+(L.filterMap fun p=>yC p.2).count c
theorem MY (L:UL) (i:Nat) (d:List UInt8):stL (L++[(i,d)])=stL L++if JB d=1 then [i] else []:=by
 unfold stL;rw [kI,DB];congr 1;by_cases h:JB d=1
 · simp [h]
 simp [h]
theorem ZvM (L:UL) (i:Nat) (d:List UInt8) (c:Nat):nmL (L++[(i,d)]) c=nmL L c+((if yC d=some c then 1 else 0)+if JB d=1/\i=c then 1 else 0):=by
 unfold nmL;rw [MY,EL,List.filterMap_append,EL];have b:(if JB d=1 then [i] else []).count c=if JB d=1/\i=c then 1 else 0:=by
  by_cases h:JB d=1
  · by_cases a:i=c
    · simp [h,a]
    simp [h,a]
  simp [h]
 have e:(([(i,d)]:UL).filterMap fun p=>yC p.2).count c=if yC d=some c then 1 else 0:=by
  cases h:yC d with
  | none=>simp [h]
  | some j =>
    by_cases a:j=c
    · simp [h,a]
    simp [h,a]
 rw [b,e];omega
theorem ZwN (L:UL) (c:Nat):nmL L c<=2*L.length:=by unfold nmL stL;have a:((L.filter fun p=>JB p.2==1).map Prod.fst).count c<=L.length:=tA (XO) (by rw [nA];exact OL _ _);have b:(L.filterMap fun p=>yC p.2).count c<=L.length:=tA (XO) (List.length_filterMap_le _ _);omega
section
variable {k vs z:Nat} {l:List BS}
theorem at_L {p:Nat×List UInt8} (h:p∈DA 0 l):(filD k vs z l).at_ p.1=some p.2:=by
 obtain ⟨_,y,b,c,d⟩:=UJ h;rw [BH] at b;unfold YA.at_ filD;simp only [MA,b,VC];unfold BS.rc;cases hA:y.A with
 | none=>exact absurd hA c
 | some a=>simp [d]
theorem NY (F:Nat->Bool):∀ (l:List BS) (i:Nat),(∀ j y,l[j]?=some y->F (i+j)=y.A.isSome)->(List.range' i l.length).filter F=(DA i l).map Prod.fst
 | [],i,_=>by simp [DA]
 | x::l,i,h=>by
   have a:=h 0 x qS;rw [IF] at a;have b:=NY F l (i+1) fun j y c=>by have:=h (j+1) y (by simpa using c);rw [<- this];congr 1;omega
   rw [BA,List.range'_succ,BK,a,DA,b];cases x.A <;> simp
theorem vJ:rD (filD k vs z l)=(DA 0 l).map Prod.fst:=by
 unfold rD;have e:(filD k vs z l).recs.length=l.length:=by simp [filD]
 rw [e,List.range_eq_range'];refine NY _ l 0 fun j y a=>?_;rw [AE];unfold YA.used filD;simp only [MA,a,VC];unfold BS.rc;cases y.A <;> rfl
theorem LQ:uE (filD k vs z l)=stL (DA 0 l):=by unfold uE stL;rw [vJ,aS];congr 1;refine uP fun p a=>?_;simp only [Function.comp];rw [at_L a]
theorem OY {α β:Type} {f g:α->Option β}:∀ {l:List α},(∀ x∈l,f x=g x)->l.filterMap f=l.filterMap g
 | [],_=>rfl
 | x::l,h=>by rw [jP,jP,h x qS,OY fun y a=>h y (IH _ a)]
theorem ZwO:(rD (filD k vs z l)).filterMap (bnx (filD k vs z l))=(DA 0 l).filterMap fun p=>yC p.2:=by rw [vJ,List.filterMap_map];refine OY fun p a=>?_;simp only [Function.comp];unfold bnx;rw [at_L a]
theorem fU (c:Nat):kH (bnx (filD k vs z l)) (uE (filD k vs z l)) (rD (filD k vs z l)) c=nmL (DA 0 l) c:=by unfold kH nmL;rw [ZwO,LQ]
theorem ZwP:(rD (filD k vs z l)).any (fun i=>match (filD k vs z l).at_ i with | some d=>!IC (filD k vs z l) d | none=>false)=(DA 0 l).any fun p=>!IC (filD k vs z l) p.2:=by
 rw [vJ,List.any_map];rw [Bool.eq_iff_iff,iG,iG];constructor
 · rintro ⟨p,a,h⟩;simp only [Function.comp] at h;rw [at_L a] at h;exact ⟨p,a,h⟩
 rintro ⟨p,a,h⟩;refine ⟨p,a,?_⟩;simp only [Function.comp];rw [at_L a];exact h
theorem PY:∀ (l:List BS) (i:Nat),(DA i l).length=(l.filter fun x=>x.A.isSome).length
 | [],i=>rfl
 | x::l,i=>by rw [DA,BK];cases x.A <;> simp [PY l]
theorem ZsC:tH (filD k vs z l)=if z≠32 then 4 else if (DA 0 l).any (fun p=>!IC (filD k vs z l) p.2)=true then 100 else
 if (∀ p∈DA 0 l,nmL (DA 0 l) p.1<=1)/\(allL (bnx (filD k vs z l)) (stL (DA 0 l)) l.length).length=(DA 0 l).length then 0 else 101:=by
 unfold tH;have e:(filD k vs z l).recs.length=l.length:=by simp [filD]
 have b:(∀ c∈rD (filD k vs z l),kH (bnx (filD k vs z l)) (uE (filD k vs z l)) (rD (filD k vs z l)) c<=1)↔∀ p∈DA 0 l,nmL (DA 0 l) p.1<=1:=by
  rw [vJ];constructor
  · intro h p a;rw [<- fU (k:=k) (vs:=vs) (z:=z),vJ];exact h p.1 (fC.2 ⟨p,a,rfl⟩)
  intro h c j;obtain ⟨p,a,rfl⟩:=fC.1 j;have:=h p a;rwa [<- fU (k:=k) (vs:=vs) (z:=z),vJ] at this
 change (if _ then _ else if ((rD (filD k vs z l)).any fun i=>match (filD k vs z l).at_ i with | some d=>!IC (filD k vs z l) d | none=>false)=true then _ else _)=_;rw [ZwP,e,LQ];have f:(rD (filD k vs z l)).length=(DA 0 l).length:=by rw [vJ,nA]
 rw [f];have g:(filD k vs z l).size=z:=rfl;rw [g];simp only [<- LQ (k:=k) (vs:=vs) (z:=z),b]
end
end
section
open Go.RowKit
attribute [local go_sem] oD
structure CkP where
 w:World
 B:Nat
 f:Nat
 k:Nat
 vs:Nat
 v:Value
 l:List BS
 low:Nat
 gN:Nat
 gX:Nat
 N:Nat
 b1:Nat
 b2:Nat
 b3:Nat
 b4:Nat
 b5:Nat
def xE (N:Nat) (nm:Nat->Nat):List Value:=(List.range N).map fun c=>Value.int .i64 (nm c:Int)
structure CkS (P:CkP) (nm:Nat->Nat) (xs:List Int) (st:List Nat) (W:World):Prop where
 file:PF W P.B P.f P.k P.vs 32 P.v P.l P.low
 b1:Blk W P.b1 67 #[.pointer (some ⟨P.f,0,none⟩)]
 b2:Blk W P.b2 30 #[.int .i64 0]
 b3:Blk W P.b3 110 #[.slice (some ⟨P.gN,0,none⟩) P.N P.N]
 b5:Blk W P.b5 110 #[.slice (some ⟨P.gX,0,none⟩) P.N P.N]
 rn:W.ownsRow P.w.heap.size 3 1 (.slice (some ⟨P.gN,0,none⟩) P.N P.N) P.N (xE P.N nm)
 rx:W.ownsRow P.w.heap.size 3 1 (.slice (some ⟨P.gX,0,none⟩) P.N P.N) P.N (xs.map (Value.int .i64))
 st:∃ sv,Blk W P.b4 110 #[sv]/\W.ownsRow P.w.heap.size 3 1 sv st.length (st.map fun (i:Nat)=>Value.int .i64 (i:Int))/\sv.ownBlock≠some P.gN/\sv.ownBlock≠some P.gX
 ne:P.gN≠P.gX/\P.b3≠P.b4/\P.b4≠P.b5
 lo:P.w.heap.size<=P.b4
 same:Same P.w W
section
variable {P:CkP} {nm:Nat->Nat} {xs:List Int} {st:List Nat} {W W':World}
theorem CkS.it (h:CkS P nm xs st W) (hw:P.w.heap.size<=g0) (hu:Upd (yB (fun _=>False) g0 W) W W'):CkS P nm xs st W':=by obtain ⟨a,b,c,d⟩:=h.st;exact ⟨h.file.it ⟨id,id,id,id⟩ hu,h.b1.it hu id,h.b2.it hu id,h.b3.it hu id,h.b5.it hu id,cM h.rn hu id,cM h.rx hu id,⟨a,b.it hu id,cM c hu id,d⟩,h.ne,h.lo,h.same.it hu hw⟩
theorem CkS.keep (h:CkS P nm xs st W) (hu:Same W W'):CkS P nm xs st W':=by obtain ⟨a,b,c,d⟩:=h.st;exact ⟨h.file.same hu,h.b1.same hu,h.b2.same hu,h.b3.same hu,h.b5.same hu,mA h.rn hu,mA h.rx hu,⟨a,b.same hu,mA c hu,d⟩,h.ne,h.lo,h.same.trans hu qf⟩
theorem flI:FlU (fun t=>t=3):=⟨qD,qD,qD,qD⟩
theorem CkS.setX (h:CkS P nm xs st W) (hi:i<P.N) (u:Int):(∃ q,W.cell? ⟨P.gX,i,none⟩=some q)/\W.frozen? ⟨P.gX,i,none⟩=false/\CkS P nm (xs.set i u) st (W.setCell ⟨P.gX,i,none⟩ (.int .i64 u)):=by
 obtain ⟨g,q,e,y,z,_,s,v,f⟩:=EE h.rx hi;cases e;have a:=(eA (fun b=>b=P.gX) W).put1 (i:=i) (.int .i64 u);have n:=LA h.rx (g:=P.gX) rfl;have d:∀ {b:Nat} {t:TypeId} {cs:Array Value},Blk W b t cs->3≠t->b≠P.gX:=fun j k e=>by
  obtain ⟨w,c⟩:=n;subst e;unfold Blk at j c;rw [j] at c;injection c with c
  injection c with _ c
  exact k c.symm
 obtain ⟨x,j,k,c,p⟩:=h.st;refine ⟨⟨q,s⟩,v,h.file.it flI (m:=0) (a.mono fun b _ r=>by rw [r];exact dH n (oA _) rfl),h.b1.upd a (d h.b1 qD),h.b2.upd a (d h.b2 qD),h.b3.upd a (d h.b3 qD),h.b5.upd a (d h.b5 qD),
  GA h.rn a fun g l e=>h.ne.1 ((eB l).trans e),?_,⟨x,j.upd a (d j qD),GA k a fun g l e=>p (e ▸ l),c,p⟩,h.ne,h.lo,h.same.trans a fun b r e=>qO⟩
 have o:=f (.int .i64 u);rw [<- eN] at o;exact o
theorem CkS.setN (h:CkS P nm xs st W) (hi:i<P.N) (u:Nat):W.cell? ⟨P.gN,i,none⟩=some (.int .i64 (nm i:Int))/\W.frozen? ⟨P.gN,i,none⟩=false/\CkS P (fun c=>if c=i then u else nm c) xs st (W.setCell ⟨P.gN,i,none⟩ (.int .i64 (u:Int))):=by
 obtain ⟨g,q,e,F,G,p,A,B,l⟩:=EE h.rn hi;cases e;have d:=(eA (fun b=>b=P.gN) W).put1 (i:=i) (.int .i64 (u:Int));have v:=LA h.rn (g:=P.gN) rfl;have k:∀ {b:Nat} {t:TypeId} {cs:Array Value},Blk W b t cs->3≠t->b≠P.gN:=fun n r e=>by
  obtain ⟨C,a⟩:=v;subst e;unfold Blk at n a;rw [n] at a;injection a with a
  injection a with _ a
  exact r a.symm
 have o:q=.int .i64 (nm i:Int):=by unfold xE at p;rw [MA,dN hi] at p;exact (eB p).symm
 obtain ⟨D,n,r,a,E⟩:=h.st;refine ⟨by rw [A,o],B,h.file.it flI (m:=0) (d.mono fun b _ x=>by rw [x];exact dH v (oA _) rfl),h.b1.upd d (k h.b1 qD),h.b2.upd d (k h.b2 qD),h.b3.upd d (k h.b3 qD),h.b5.upd d (k h.b5 qD),
  ?_,GA h.rx d fun g s e=>h.ne.1 (e.symm.trans (eB s).symm),⟨D,n.upd d (k n qD),GA r d fun g s e=>a (e ▸ s),a,E⟩,h.ne,h.lo,h.same.trans d fun b x e=>qO⟩
 have w:=l (.int .i64 (u:Int));have y:(xE P.N nm).set i (.int .i64 (u:Int))=xE P.N fun c=>if c=i then u else nm c:=by
  unfold xE;refine fS fun j=>?_;rcases wP j P.N with f | f
  · by_cases e:i=j
    · subst e;rw [FG (by simpa using f),MA,dN f];simp
    rw [iI e,MA,MA,dN f];have z:¬ j=i:=fun h=>e h.symm;simp [z]
  rw [UI (by simpa using f),UI (by simpa using f)]
 rw [y] at w;exact w
theorem CkS.getX (h:CkS P nm xs st W) {u:Int} (hu:xs[i]?=some u) (hN:xs.length=P.N):W.cell? ⟨P.gX,i,none⟩=some (.int .i64 u):=by obtain ⟨d,b⟩:=IA.1 hu;obtain ⟨g,q,e,_,_,a,c,_,_⟩:=EE h.rx (show i<P.N by omega);cases e;rw [MA,hu] at a;rw [c,<-eB a]
theorem CkS.app (h:CkS P nm xs st W) (hb:Blk W P.b4 110 #[sv]) (hr:W.ownsRow P.w.heap.size 3 1 sv st.length (st.map fun (i:Nat)=>Value.int .i64 (i:Int))) (hn:sv.ownBlock≠some P.gN/\sv.ownBlock≠some P.gX) (hu:Same W wa) {i:Nat} {z:Value}
 (hg:Grew wa P.w.heap.size 3 1 sv (st.length+1) ((st.map fun (i:Nat)=>Value.int .i64 (i:Int))++[.int .i64 (i:Int)]) z w1):CkS P nm xs (st++[i]) (w1.setCell ⟨P.b4,0,none⟩ z):=by
 obtain ⟨k,l,d⟩:=aH (i:=0) hb hr qD hu hg;have x:∀ g,sv.ownBlock=some g->OfT W 3 g:=fun g hg=>LA hr hg;have o:∀ {b:Nat} {t:TypeId} {p:Array Value},Blk W b t p->3≠t->b≠P.b4->¬ (b=P.b4\/sv.ownBlock=some b):=fun k l d f=>f.elim d fun f=>k.ne_own hr l f;have j:∀ {b:Nat} {t:TypeId} {p:Array Value},Blk W b t p->t≠110->b≠P.b4:=fun k l e=>by
  subst e;unfold Blk at k hb;rw [k] at hb;injection hb with hb
  injection hb with _ hb
  exact l hb
 have v:∀ {g:Nat} {n c:Nat} {ys:List Value},W.ownsRow P.w.heap.size 3 1 (.slice (some ⟨g,0,none⟩) n c) n ys->sv.ownBlock≠some g->∀ b,(Value.slice (some ⟨g,0,none⟩) n c).ownBlock=some b->¬ (b=P.b4\/sv.ownBlock=some b):=fun q r b a f=>by
  have e:=eB a;simp only at e;subst e;rcases f with f | f
  · obtain ⟨p,y⟩:=LA q rfl;exact j y qD f
  exact r f
 refine ⟨h.file.it (U:=fun t=>t=3\/t=110) ⟨qD,qD,qD,qD⟩ (m:=0) (d.mono fun b _ a=>?_),h.b1.upd d (o h.b1 qD (j h.b1 qD)),h.b2.upd d (o h.b2 qD (j h.b2 qD)),h.b3.upd d (o h.b3 qD h.ne.2.1),h.b5.upd d (o h.b5 qD h.ne.2.2.symm),
  GA h.rn d (v h.rn hn.1),GA h.rx d (v h.rx hn.2),⟨z,?_,?_,?_,?_⟩,h.ne,h.lo,h.same.trans d fun b a e=>?_⟩
 · rcases a with rfl | a
   · exact dH ⟨_,hb⟩ (oA _) (.inr rfl)
   exact dH (x b a) (oA _) (.inl rfl)
 · simpa using k
 · rw [kA,DB];exact l
 · rcases hg.block with e | ⟨g,e,s⟩
   · rw [e];exact hn.1
   rw [e];intro u;have:=eB u;have:=(h.rn.lt P.gN rfl).2;have:=hu.size;omega
 · rcases hg.block with e | ⟨g,e,s⟩
   · rw [e];exact hn.2
   rw [e];intro u;have:=eB u;have:=(h.rx.lt P.gX rfl).2;have:=hu.size;omega
 rcases e with e | e
 · have:=h.lo;omega
 have:=(hr.lt b e).1;omega
def CkU (t:TypeId):Prop:=t=3\/t=110\/t=30
theorem ckU:FlU CkU:=⟨by unfold CkU;decide,by unfold CkU;decide,by unfold CkU;decide,by unfold CkU;decide⟩
def Mv (g0:Nat) (W W':World):Prop:=KeepsFrom g0 W W'/\Upd (yB CkU 0 W) W W'
theorem Mv.trans {B C:World} (h:Mv g0 A B) (h':Mv g0 B C):Mv g0 A C:=⟨⟨tA h.1.1 h'.1.1,fun k o a c b=>h'.1.2 k o a (h.1.2 k o a c b) b⟩,bM h.2 h'.2⟩
theorem Mv.same {B:World} (h:Same A B):Mv g0 A B:=⟨ZD h fun _ f=>f.elim,h.mono qe⟩
theorem Mv.set {B:World} (h:Upd S A B) (hS:∀ b,S b->∃ t,CkU t/\OfT A t b):Mv g0 A B:=⟨ZD h fun k c _ o d=>by
 obtain ⟨t,_,a⟩:=hS k c;exact a.cells d,h.mono fun b _ e=>by
 obtain ⟨t,f,a⟩:=hS b e;exact a.itSet (oA _) f⟩
theorem CkS.mvX (h:CkS P nm xs st W) (u:Value) (g0:Nat):Mv g0 W (W.setCell ⟨P.gX,i,none⟩ u):=Mv.set ((eA (fun b=>b=P.gX) W).put1 u) fun _ a=>⟨_,.inl rfl,a ▸ LA h.rx rfl⟩
theorem CkS.mvN (h:CkS P nm xs st W) (u:Value) (g0:Nat):Mv g0 W (W.setCell ⟨P.gN,i,none⟩ u):=Mv.set ((eA (fun b=>b=P.gN) W).put1 u) fun _ a=>⟨_,.inl rfl,a ▸ LA h.rn rfl⟩
theorem CkS.mvE (h:CkS P nm xs st W) (u:Value) (g0:Nat):Mv g0 W (W.setCell ⟨P.b2,0,none⟩ u):=Mv.set ((eA (fun b=>b=P.b2) W).put1 u) fun _ a=>⟨_,.inr (.inr rfl),a ▸ ⟨_,h.b2⟩⟩
theorem mvA (hb:Blk W P.b4 110 #[sv]) (hr:W.ownsRow P.w.heap.size 3 1 sv st.length (st.map fun (i:Nat)=>Value.int .i64 (i:Int))) (hu:Same W wa) {i:Nat} {d:Value}
 (hg:Grew wa P.w.heap.size 3 1 sv (st.length+1) ((st.map fun (i:Nat)=>Value.int .i64 (i:Int))++[.int .i64 (i:Int)]) d w1) (g0:Nat):Mv g0 W (w1.setCell ⟨P.b4,0,none⟩ d):=by
 obtain ⟨_,_,c⟩:=aH (i:=0) hb hr qD hu hg;exact Mv.set c fun b a=>a.elim (fun e=>⟨_,.inr (.inl rfl),e ▸ ⟨_,hb⟩⟩) fun e=>⟨_,.inl rfl,LA hr e⟩
structure CkK (P:CkP) (L:UL) (xs:List Int) (D:Nat) (pre:List RE) (W:World):Prop where
 st:CkS P (nmL L) xs (stL L) W
 mark:W.heap[D]?=some (.deferred (some []))
 ok:∀ p∈pre.map RE.dat,nmL L p.1<=1
theorem MQ {T:TypeId->Prop} {g:Nat} {o:Obj} (h:W.heap[D]?=some o) (hD:D<g) (hu:Upd (yB T g W) W W'):W'.heap[D]?=some o:=(hu.block D (sC.1 h).1 fun e=>qt e.1).trans h
theorem CkK.it {L:UL} {a:List RE} (h:CkK P L xs D a W) (hw:P.w.heap.size<=g0) (hD:D<g0) (hu:Upd (yB (fun _=>False) g0 W) W W'):CkK P L xs D a W':=⟨h.st.it hw hu,MQ h.mark hD hu,h.ok⟩
structure CkJ (P:CkP) (L:UL) (pre:List RE) (W:World):Prop where
 st:∃ xs,CkS P (nmL (pre.map RE.dat)) xs (stL (pre.map RE.dat)) W/\xs.length=P.N/\∀ p∈pre.map RE.dat,xs[p.1]?=some (gF p.2)
 ok:∀ p∈pre.map RE.dat,IC (filD P.k P.vs 32 P.l) p.2=true
 sub:pre.map RE.dat=L.take pre.length
theorem CkJ.it {L:UL} {d:List RE} (h:CkJ P L d W) (hw:P.w.heap.size<=g0) (hu:Upd (yB (fun _=>False) g0 W) W W'):CkJ P L d W':=by obtain ⟨a,b,c⟩:=h.st;exact ⟨⟨a,b.it hw hu,c⟩,h.ok,h.sub⟩
theorem CkJ.step {L:UL} {o:List RE} {x:RE} (hL:L.Pairwise fun a b=>a.1<b.1) (h:CkJ P L o W) (hx:L[o.length]?=some x.dat) {xs:List Int} (h2:xs.length=P.N) (h3:∀ p∈o.map RE.dat,xs[p.1]?=some (gF p.2)) (hi:x.id<P.N) (hs:IC (filD P.k P.vs 32 P.l) x.data=true)
 {nm':Nat->Nat} {st':List Nat} (r:st'=stL (o.map RE.dat)++if JB x.data=1 then [x.id] else [])
 (s:∀ c,nm' c=nmL (o.map RE.dat) c+((if yC x.data=some c then 1 else 0)+if JB x.data=1/\x.id=c then 1 else 0)) (h1:CkS P nm' (xs.set x.id (gF x.data)) st' W'):CkJ P L (o++[x]) W':=by
 have f:(o++[x]).map RE.dat=o.map RE.dat++[(x.id,x.data)]:=by simp [RE.dat]
 have g:=(IA.1 hx).1;have e:(o++[x]).map RE.dat=L.take (o++[x]).length:=by rw [DB,h.sub,kA,GG,eD,hx];rfl
 refine ⟨⟨xs.set x.id (gF x.data),?_,by rw [VF];exact h2,fun p d=>?_⟩,fun p d=>?_,e⟩
 · rw [f,MY,<-r,show nmL (o.map RE.dat++[(x.id,x.data)])=nm' from funext fun c=>by rw [ZvM,s]];exact h1
 · rw [f] at d;rcases YB.1 d with d | d
   · have j:=WM.1 hL;obtain ⟨q,n,rfl⟩:=XM (h.sub ▸ d);have i:q<o.length:=by rw [RB] at n;omega
     have m:(L.take o.length)[q].1<x.id:=by rw [sP];have:=j q o.length qO g i;rwa [(IA.1 hx).2] at this
     rw [iI qO];exact h3 _ d
   obtain rfl:=QB.1 d;rw [FG (by rw [h2];exact hi)]
 rw [f] at d;rcases YB.1 d with d | d
 · exact h.ok p d
 obtain rfl:=QB.1 d;exact hs
end
end
section
structure ChN (nx:Nat->Option Nat) (S U:List Nat) (n:Nat):Prop where
 hS:∀ s∈S,s∈U
 hU:∀ i∈U,∀ j,nx i=some j->j∈U
 ends:∀ s∈S,rE nx n s=true
 len:∀ q,(allL nx (S.take q) n).length<=n
theorem ZqQ {nx:Nat->Option Nat}:∀ {m j:Nat},rE nx m j=true->(nx j=none/\(aC nx m j).length=1)\/∃ j' m',nx j=some j'/\rE nx m' j'=true/\(aC nx m j).length=(aC nx m' j').length+1
 | 0,j,h=>by simp only [rE,Option.isNone_iff_eq_none] at h;exact .inl ⟨h,rfl⟩
 | m+1,j,h=>by
   rw [rE] at h;rw [aC];cases h2:nx j with
   | none=>exact .inl ⟨rfl,rfl⟩
   | some j' =>
     rw [h2] at h;exact .inr ⟨j',m,rfl,h,qS⟩
theorem QY {nx:Nat->Option Nat} {S:List Nat} {q s:Nat} (h:S[q]?=some s):(allL nx (S.take (q+1)) n).length=(allL nx (S.take q) n).length+(aC nx n s).length:=by unfold allL;rw [eD,h,jF,kA];simp
section
variable {k vs:Nat} {l:List BS}
theorem ZwQ {j:Nat} (h:(filD k vs 32 l).used j=true):j∈(DA 0 l).map Prod.fst:=by rw [<- vJ (k:=k) (vs:=vs) (z:=32)];unfold rD;rw [JJ,vF];exact ⟨uJ h,h⟩
theorem chN (hok:∀ p∈DA 0 l,IC (filD k vs 32 l) p.2=true) (v:∀ p∈DA 0 l,nmL (DA 0 l) p.1<=1):ChN (bnx (filD k vs 32 l)) (stL (DA 0 l)) ((DA 0 l).map Prod.fst) l.length:=by
 have f:∀ s∈stL (DA 0 l),s∈(DA 0 l).map Prod.fst:=fun s m=>by unfold stL at m;obtain ⟨p,b,rfl⟩:=fC.1 m;exact fC.2 ⟨p,(JJ.1 b).1,rfl⟩
 have g:∀ i∈(DA 0 l).map Prod.fst,∀ j,bnx (filD k vs 32 l) i=some j->j∈(DA 0 l).map Prod.fst:=fun i n j e=>by obtain ⟨p,b,rfl⟩:=fC.1 n;unfold bnx at e;rw [at_L b] at e;simp only at e;have a:=hok p b;unfold IC at a;rw [e] at a;simp only [kB] at a;exact ZwQ a.2.2.2.2
 have h:∀ c∈(DA 0 l).map Prod.fst,kH (bnx (filD k vs 32 l)) (stL (DA 0 l)) ((DA 0 l).map Prod.fst) c<=1:=fun c o=>by obtain ⟨p,b,rfl⟩:=fC.1 o;have a:=fU (k:=k) (vs:=vs) (z:=32) (l:=l) p.1;rw [LQ,vJ] at a;rw [a];exact v p b
 have d:((DA 0 l).map Prod.fst).length<=l.length:=by rw [nA];exact dM l 0
 refine ⟨f,g,bX h f g d,fun q=>?_⟩;obtain ⟨a,r⟩:=qT h f g l.length;have t:=oJ a r;have u:(allL (bnx (filD k vs 32 l)) ((stL (DA 0 l)).take q) l.length).length<=(allL (bnx (filD k vs 32 l)) (stL (DA 0 l)) l.length).length:=by
  unfold allL
  conv=>rhs;rw [<- tF q (stL (DA 0 l))]
  rw [jF,kA];omega
 omega
theorem chX {xs:List Int} (hx:∀ p∈DA 0 l,xs[p.1]?=some (gF p.2)):∀ j∈(DA 0 l).map Prod.fst,(bnx (filD k vs 32 l) j=none/\xs[j]?=some (-1))\/∃ j':Nat,bnx (filD k vs 32 l) j=some j'/\xs[j]?=some (j':Int):=fun j c=>by
 obtain ⟨p,b,rfl⟩:=fC.1 c;have a:=hx p b;unfold bnx;rw [at_L b];simp only;cases hb:yC p.2 with
 | none=>exact .inl ⟨rfl,by rw [a,IQ.2 hb]⟩
 | some j'=>exact .inr ⟨j',rfl,by rw [a,JQ hb]⟩
end
end
end Go.Proofs.YtmkjfhnlnhceiaaGreatDoor
