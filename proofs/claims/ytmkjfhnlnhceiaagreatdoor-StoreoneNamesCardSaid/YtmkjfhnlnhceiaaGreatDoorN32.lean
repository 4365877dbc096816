/- Texts that the claim leans on: walks and plain laws, function by function. -/
import Derived.Test.YtmkjfhnlnhceiaaGreatDoorN31
set_option maxRecDepth 100000
set_option maxHeartbeats 16000000
namespace Go.Proofs.YtmkjfhnlnhceiaaGreatDoor
open Go.RowKit
theorem ZfG:145≠237/\145≠244/\5≠145:=qD
theorem ZmE:115≠237/\115≠244/\5≠115:=qD
theorem intT:3≠237/\3≠244/\5≠3:=qD
theorem NewV.trans {w w1:World} {v v1 v2:Value} (hs:w.heap.size<=w1.heap.size) (h:v1.ownBlock=v.ownBlock\/∃ g,v1.ownBlock=some g/\w.heap.size<=g) (k:v2.ownBlock=v1.ownBlock\/∃ g,v2.ownBlock=some g/\w1.heap.size<=g):v2.ownBlock=v.ownBlock\/∃ g,v2.ownBlock=some g/\w.heap.size<=g:=by
 rcases k with k | ⟨g,k,m⟩
 · rw [k];exact h
 exact .inr ⟨g,k,Yaj hs m⟩
abbrev YcQ:=@NewV.trans
theorem CW.again {w:World} {B c r:Nat} {v:Value} {bs:List UInt8} (h:CW w B c r v bs):CWon w B c r v bs (w.setCell ⟨c,2,none⟩ (.bool false))/\CW (w.setCell ⟨c,2,none⟩ (.bool false)) B c r v bs:=by
 have a:Upd (fun b=>b=c) w (w.setCell ⟨c,2,none⟩ (.bool false)):=(Yaa _ w).put1 _;have d:CW (w.setCell ⟨c,2,none⟩ (.bool false)) B c r v bs:=⟨h.cod.put 2 _,h.wtr.upd a (fun e=>by have f:=h.cod.ne h.wtr.2.1 qD;exact f e.symm) fun b g e=>h.cod.ne_own h.wtr.2.2 qD (e ▸ g)⟩
 exact ⟨⟨⟨v,d,.inl rfl⟩,a.mono fun _ _ h=>.inl h⟩,d⟩
theorem CW.same {w w':World} {B c r:Nat} {v:Value} {bs:List UInt8} (h:CW w B c r v bs) (hu:Same w w'):CW w' B c r v bs:=⟨h.cod.same hu,h.wtr.same hu⟩
theorem CWon.pre {w w0 w':World} {B c r:Nat} {v:Value} {bs:List UInt8} (hu:Same w w0) (h:CWon w0 B c r v bs w'):CWon w B c r v bs w':=by
 obtain ⟨b,d,a⟩:=h.ex;refine ⟨⟨b,d,?_⟩,(hu.mono fun _ _ f=>f.elim).trans h.upd fun _ _ h=>h⟩;rcases a with a | ⟨g,a,e⟩
 · exact .inl a
 exact .inr ⟨g,a,Yaj hu.size e⟩
theorem u64w (n:Int):IntKind.u64.wrap n=(u64 n:Int):=by unfold u64;rw [YfH];omega
theorem Zty {w:World} {B c r g:Nat} {v:Value} {x:P1} (h:CW w B c r v []) (hp:Blk w g 145 x.cells) (hx:ZbN x=true) :
 Calls Tryz.prog 127 #[.pointer (some ⟨c,0,none⟩),.pointer (some ⟨g,0,none⟩)] w fun e w'=>e=.returned (.tuple #[])/\CWon w B c r v (ZbO x) w':=by
 unfold ZbN at hx;simp only [Yay] at hx;obtain ⟨a1,a2,a3,a4,a5⟩:=hx;have i2:=Zai.1 a2;have p:=qH (And.intro a1 (And.intro a4 a5));have HK:=qH a3;have C0:=qH h;have P0:=qH hp;clear h hp a1 a2 a3 a4 a5;go_enter Tryz.func127,Tryz.ntmps127;go_wp2_with fail;refine (ZrR (po:=0) C0 (by simp) P0.out (n:=x.key) rfl ZfG p.1).mono ?_;rintro e w1 ⟨rfl,o⟩;obtain ⟨v1,c1,n1⟩:=o.ex;have P1:=qH (o.blk C0 P0 ZfG);have K1:=qH o;have N1:=qH n1;have C1:=qH c1;clear o c1 n1;go_wp2_with fail;refine (Zfg C1 1 rfl (by simp only [Yaf,YaS,Zab];omega) P1.out (po:=1) (n:=x.kind) rfl ZfG 1 9 0 qO ⟨i2.1,i2.2,qO,qO⟩).mono ?_;rintro e F ⟨rfl,G⟩;rw [show x.kind+((0:Nat):Int)=x.kind by omega] at G;obtain ⟨v2,H,n2⟩:=G.ex;have q:=qH (G.blk C1 P1 ZfG);have W:=qH (K1.trans N1 G);have s:=qH (YcQ K1.upd.size N1 n2);have q1:=q.c1;have q2:=q.c2;have q3:=q.c3;have d1:=H.cod.c1;have X:=H.cod.c2;have Y:=H.cod.frozen 2;have Z:=qH H;clear G H n2;by_cases hk:x.kind<4
 · have o:x.kind<=3:=qO;have d:x.blob = -1:=by have:=HK.out;rw [Yac hk] at this;exact YeB this
   rw [d] at q3;obtain ⟨l,I⟩:=Z.again;have t:=qH (l.blk Z q ZfG);have u:=qH (W.trans s l);have a:=qH I;have dA:=a.cod.c1;clear l I;go_upto_region 6 with fail;generalize F.setCell ⟨c,2,none⟩ (.bool false)=E at *;have S:Same E E.drew:=(Yaa _ E).drew;refine Zaj 9 (fun wx=>wx.cell? ⟨c,0,none⟩=some (.pointer (some ⟨r,0,none⟩))/\wx.cell? ⟨g,2,none⟩=some (.int .i64 x.num)) (by kernel_rfl) ⟨(a.cod.same S).cell 0,(t.same S).cell 2⟩ (fun m=>?_)
   repeat
    first
     | refine Yan (v:=?_) 0 rfl ?_ ?_
     | refine Yan (v:=?_) 1 rfl ?_ ?_
     | refine Yan (v:=?_) 2 rfl ?_ ?_
     | refine Yan (v:=?_) 3 rfl ?_ ?_
     | refine Yan (v:=?_) 4 rfl ?_ ?_
     | refine Yan (v:=?_) 5 rfl ?_ ?_
     | refine Yan (v:=?_) 6 rfl ?_ ?_
     | refine Yan (v:=?_) 7 rfl ?_ ?_
     | refine Yan (v:=?_) 8 rfl ?_ ?_
    rotate_left
    · intro wx L;have h0:=L.1;have h1:=L.2;go_simp;try with_reducible rfl
    simp only [Act.put,Yal]
   refine YcO (by decide +kernel) (by decide +kernel) rfl (fun K hK=>?_) _;have w8:=u64w x.num;go_simp;refine (Zum (a.wtr.same S) 8 (u64 x.num) rfl qO (by simp only [Yaf,YaS,Zab];omega)).mono ?_;rintro e w5 ⟨rfl,h5⟩;have u5:=(S.mono (S':=fun b=>b=r\/v2.ownBlock=some b) fun _ _ f=>f.elim).trans h5.upd fun _ _ h=>h;have i:CWon E B c r v2 ([]++beb 2 x.key.toNat++beb 1 x.kind.toNat++beb 8 (u64 x.num)) w5:=by
    obtain ⟨v',h6,h7⟩:=h5.ex;exact ⟨⟨v',⟨a.cod.upd u5 (by
     rintro (e | e)
     · exact a.cod.ne a.wtr.2.1 qD e
     exact a.cod.ne_own a.wtr.2.2 qD e),h6⟩,h7⟩,u5.mono fun _ _ h=>.inr h⟩
   obtain ⟨v5,M,N⟩:=i.ex;have y:=qH (i.blk a t ZfG);have A:=qH (u.trans s i);have C:=qH (YcQ u.upd.size s N);have D:=qH M;clear h5 u5 i M N;go_wp2_with fail;refine hK _ _ ?_;clear hK K m;go_wp2_with fail;refine (Zdl (po:=4) D (by simp only [Yaf,YaS,Zab];omega) y.out (n:=x.prev) rfl ZfG 65536 qO p.2.1).mono ?_;rintro e w6 ⟨rfl,j⟩;obtain ⟨v6,O,P⟩:=j.ex;have P6:=qH (j.blk D y ZfG);have K6:=qH (A.trans C j);have N6:=qH (YcQ A.upd.size C P);have C6:=qH O;clear j O P;go_wp2_with fail;refine (Zdl (po:=5) C6 (by simp only [Yaf,YaS,Zab,ZaC];omega) P6.out (n:=x.next) rfl ZfG 65536 qO p.2.2).mono ?_;rintro e w7 ⟨rfl,R⟩;have K7:=qH (K6.trans N6 R);clear R;go_wp2;go_end0;have k:=K7.out;simp only [YaK,Yak] at k;refine ⟨rfl,?_⟩;unfold ZbO;rw [Yac hk];exact k
 have o:¬ x.kind<=3:=qO;have d:x.num=0/\inP x.blob 0 65536=true:=by have:=HK.out;rw [Yab hk,Yay] at this;exact ⟨YeB this.1,this.2⟩
 have i3:=Zai.1 d.2;rw [d.1] at q2;have T:=(Yaa (fun _=>False) F).alloc (.cells #[.int .i64 0] 3);have Z3:=qH (Yad F 3 #[.int .i64 0]);have C3:=qH (Z.same T);have P3:=qH (q.same T);have SA:=qH T;clear T d1 X Y q3;go_upto_region 8 with fail;generalize F.heap.size=z at *;generalize F.alloc (.cells #[.int .i64 0] 3)=E at *;go_wp2_with fail;refine (Zfg C3 4 rfl (by simp only [Yaf,YaS,Zab];omega) Z3.out (po:=0) (n:=0) rfl intT 0 1 0 qO ⟨qO,qO,qO,qO⟩).mono ?_;rintro e w4 ⟨rfl,U⟩;obtain ⟨v4,V,n4⟩:=U.ex;have P4:=qH (U.blk C3 P3 ZfG);have K4:=qH (W.trans s (CWon.pre SA U));have N4:=qH (YcQ W.upd.size s (YcQ SA.size (.inl rfl) n4));have C4:=qH V;have q4:w4.cell? ⟨g,2,none⟩=some (.int .i64 0):=by have q5:=P4.c2;rwa [d.1] at q5
 have X:=V.cod.c2;have Y:=V.cod.frozen 2;clear U V n4;obtain ⟨l,I⟩:=C4.again;have t:=qH (l.blk C4 P4 ZfG);have u:=qH (K4.trans N4 l);have a:=qH I;clear l I;go_upto_region 10 with fail;generalize w4.setCell ⟨c,2,none⟩ (.bool false)=w5 at *;go_wp2_with fail;refine (Zfg a 4 rfl (by simp only [Yaf,YaS,Zab];omega) t.out (po:=3) (n:=x.blob) rfl ZfG 0 65536 1 qO ⟨i3.1,i3.2,qO,qO⟩).mono ?_;rintro e w8 ⟨rfl,i⟩;obtain ⟨v5,M,N⟩:=i.ex;have y:=qH (i.blk a t ZfG);have A:=qH (u.trans N4 i);have C:=qH (YcQ u.upd.size N4 N);have D:=qH M;clear i M N q4 X Y;go_wp2_with fail;refine (Zdl (po:=4) D (by simp only [Yaf,YaS,Zab];omega) y.out (n:=x.prev) rfl ZfG 65536 qO p.2.1).mono ?_;rintro e w6 ⟨rfl,j⟩;obtain ⟨v6,O,P⟩:=j.ex;have P6:=qH (j.blk D y ZfG);have K6:=qH (A.trans C j);have N6:=qH (YcQ A.upd.size C P);have C6:=qH O;clear j O P;go_wp2_with fail;refine (Zdl (po:=5) C6 (by simp only [Yaf,YaS,Zab,ZaC];omega) P6.out (n:=x.next) rfl ZfG 65536 qO p.2.2).mono ?_;rintro e w7 ⟨rfl,R⟩;have K7:=qH (K6.trans N6 R);clear R;go_wp2;go_end0;have k:=K7.out;refine ⟨rfl,?_⟩;unfold ZbO;rw [Yab qO,ZtV qO];simp only [YaK,Yak] at k ⊢;exact k
theorem Zpf:∀ {l:List Int} {last:Int},Zhe last l=true->∀ (k:Nat) (n:Int),l[k]?=some n->inP n 0 200=true/\(last::l)[k]?.getD 0<n
 | [],_,_,k,n,h=>by cases h
 | m::l,last,h,0,n,hk=>by simp only [Zhe,Yay,Ybc] at h;simp only [YaW,Yce] at hk;subst hk;exact ⟨h.1,h.2.1⟩
 | m::l,last,h,k+1,n,hk=>by simp only [Zhe,Yay,Ybc] at h;rw [Ybd] at hk;obtain ⟨a,b⟩:=Zpf h.2.2 k n hk;refine ⟨a,?_⟩;rw [Ybd];exact b
theorem ZuK {l:List Int} (hl:l.length<=8) {k:Nat} (hk:k<8):(labB l).take (k+1)=(labB l).take k++beb 1 (l[k]?.getD (-1)+1).toNat:=by
 have a:(labB l).length=8:=by simp only [labB,ZaB,Yaf,Yag,Ybk];omega
 rw [Ybo,ZkE];congr 1;unfold labB;by_cases h:k<l.length
 · rw [Ydl (by rw [Yag];exact h),Yau,Yar h];rfl
 rw [YcA (by rw [Yag];omega),Yag,Ydp (l:=l) qO,ZaB,Yfa,Yac qO];rfl
theorem CWon.ints {w w':World} {B c r BL n cp:Nat} {v:Value} {bs0 bs:List UInt8} {A:Option Addr} {xs:List Value} (hc:CW w B c r v bs0) (hk:CWon w B c r v bs w') (ho:w.ownsRow BL 3 1 (.slice A n cp) n xs):w'.ownsRow BL 3 1 (.slice A n cp) n xs:=Zae ho hk.upd fun b d=>by
 obtain ⟨f,a⟩:=Zaf ho d;rintro (e | e | e)
 · exact a.ne hc.cod qD e
 · exact a.ne hc.wtr.2.1 qD e
 exact a.ne_own hc.wtr.2.2 qD e
theorem Zqg {w:World} {B c r g BL n cp:Nat} {v:Value} {bs:List UInt8} {x0 x1:Value} {A:Option Addr} {ls:List Int} (h:CW w B c r v bs) (hl:bs.length<=500) (hp:Blk w g 115 #[x0,x1,.slice A n cp]) (ho:w.ownsRow BL 3 1 (.slice A n cp) n (ls.map (Value.int .i64))) (hls:ZdR ls=true) :
 Calls Tryz.prog 153 #[.pointer (some ⟨c,0,none⟩),.pointer (some ⟨g,2,none⟩)] w fun e w'=>e=.returned (.tuple #[])/\CWon w B c r v (bs++labB ls) w':=by
 unfold ZdR at hls;simp only [Yay,Ybc] at hls;obtain ⟨af,N⟩:=hls;have a0:ls.length=n:=by have:=ho.1;simpa using this
 have HL:=qH N;have a6:=qH a0;have s:w.cell? ⟨c,2,none⟩=some (.bool false):=h.cod.cell 2;have f2:w.frozen? ⟨c,2,none⟩=false:=h.cod.frozen 2;have g2:w.cell? ⟨g,2,none⟩=some (.slice A n cp):=hp.cell 2;have n8:¬ (n:Int)>8:=by omega
 obtain ⟨X,cA⟩:=h.again;have K0:=qH X;have C0:=qH cA;have P0:=qH (X.blk h hp ZmE);have O0:=qH (CWon.ints h X ho);clear h hp ho X cA N;go_enter Tryz.func153,Tryz.ntmps153;go_upto_region 1 with fail;generalize w.setCell ⟨c,2,none⟩ (.bool false)=wA at *;clear s f2 g2;go_wp2_with fail;go_loopg [22,4,5] 8 (fun gh ix la en wr=>∃ (k:Nat) (m:Value) (L:Int) (i:Bool),8-k=gh/\k<=8/\ix=.int .i64 k/\la=.int .i64 L/\en=.bool i/\Hid (((-1)::ls)[k]?.getD (-1)=L)/\Hid (decide (n<k)=i)/\Hid (CWon w B c r v (bs++(labB ls).take k) wr)/\Hid (m.ownBlock=v.ownBlock\/∃ g,m.ownBlock=some g/\w.heap.size<=g) /\
  Hid (CW wr B c r m (bs++(labB ls).take k))/\Hid (Blk wr g 115 #[x0,x1,.slice A n cp])/\Hid (wr.ownsRow BL 3 1 (.slice A n cp) n (ls.map (Value.int .i64))))
 case atStart =>
  exact ⟨0,v,-1,false,rfl,by omega,rfl,rfl,rfl,qH rfl,qH rfl,by simpa using K0,qH (.inl rfl),by simpa using C0,P0,O0⟩
 obtain ⟨k,m,L,i,rfl,hk,rfl,rfl,rfl,KL,KE,Y,KN,KC,KP,KO⟩:=hrel;by_cases a7:k<8
 · obtain ⟨V,O⟩:∃ V:Int,ls[k]?.getD (-1)=V:=⟨_,rfl⟩
   have ak:((labB ls).take k).length<=8:=by rw [YaJ];omega
   have g2:(wr.alloc (.cells #[.int .i64 (-1)] 3)).cell? ⟨g,2,none⟩=some (.slice A n cp):=(KP.out.alloc _).cell 2;have d:(k<n->inP V 0 200=true/\L<V)/\(¬ k<n->V = -1):=by
    refine ⟨fun h=>?_,fun h=>?_⟩
    · have C:ls[k]?=some V:=by rw [<- O,Yar (by omega)];rfl
      obtain ⟨h2,h3⟩:=Zpf HL.out k V C;refine ⟨h2,?_⟩;rw [<- KL.out];have h4:((-1)::ls)[k]?≠none:=by rw [ne_eq,List.getElem?_eq_none_iff];simp only [Yao];omega
      cases h5:((-1:Int)::ls)[k]? with
      | none=>exact absurd h5 h4
      | some y=>rw [h5] at h3;exact h3
    rw [<- O,Ydp (by omega)];rfl
   have E:=(Yaa (fun _=>False) wr).alloc (.cells #[.int .i64 (-1)] 3);have t:=qH (KC.out.same E);have T:=qH (KP.out.same E);have U:=qH (Zaa KO.out E);have l:=qH (Yad wr 3 #[.int .i64 (-1)]);have SA:=qH E;have a8:=qH (show c<wr.heap.size from KC.out.cod.lt);have F:Hid (∀ b,(Value.slice A n cp).ownBlock=some b->b<wr.heap.size):=qH fun b Z=>(KO.out.lt b Z).2;clear E;go_upto_if 30 with fail;generalize hz:wr.heap.size=z at *;generalize wr.alloc (.cells #[.int .i64 (-1)] 3)=j at *;go_cut [23,30] from 31 to 47 (fun _ _ o=>Hid (CW o B c r m (bs++(labB ls).take k))/\Hid (CWon wr B c r m (bs++(labB ls).take k) o)/\Hid (Blk o z 3 #[.int .i64 V])/\Hid (Blk o g 115 #[x0,x1,.slice A n cp])/\Hid (o.ownsRow BL 3 1 (.slice A n cp) n (ls.map (Value.int .i64))))
   case first =>
    by_cases a:k<n
    · obtain ⟨ag,_⟩:=d.1 a;have al:=Zai.1 ag;obtain ⟨b,u,rfl,_,an,hu,hc,_,_⟩:=ZaW U.out a;have a9:u=.int .i64 V:=by
       rw [Yau] at hu;have C:ls[k]?=some V:=by rw [<- O,Yar (by have:=a6.out;omega)];rfl
       rw [C] at hu;exact (Yax hu).symm
      subst a9;have q1:(k:Int)<(n:Int):=by omega
      have am:b≠z:=fun e=>by have:=F.out b rfl;omega
      have zf:j.frozen? ⟨z,0,none⟩=false:=l.out.frozen 0;have z0:j.cell? ⟨z,0,none⟩=some (.int .i64 (-1)):=l.out.cell 0;have aa:c≠z:=by have:=a8.out;omega
      have W:Upd (fun b=>b=z) j (j.setCell ⟨z,0,none⟩ (.int .i64 V)):=(Yaa _ j).put1 _;have D:=qH (show CW (j.setCell ⟨z,0,none⟩ (.int .i64 V)) B c r m (bs++(labB ls).take k) from ⟨t.out.cod.far aa _,t.out.wtr.upd W (fun e=>by have:=t.out.wtr.2.1;rw [e] at this;exact absurd rfl (l.out.ne this (by decide))) fun b Z e=>l.out.ne_own t.out.wtr.2.2 (by decide) (e ▸ Z)⟩)
      have PZ:=qH (T.out.upd W fun e=>absurd e (T.out.ne l.out (by decide)));have OZ:=qH (Zae U.out W fun b' ah e=>by have:=F.out b' ah;omega);have ZZ:=qH (l.out.put 0 (.int .i64 V));have d2:(j.setCell ⟨z,0,none⟩ (.int .i64 V)).cell? ⟨c,2,none⟩=some (.bool false):=D.out.cod.cell 2;have e2:(j.setCell ⟨z,0,none⟩ (.int .i64 V)).frozen? ⟨c,2,none⟩=false:=D.out.cod.frozen 2;have zz:(j.setCell ⟨z,0,none⟩ (.int .i64 V)).cell? ⟨z,0,none⟩=some (.int .i64 V):=ZZ.out.cell 0;have nV:¬ V<0:=by omega
      obtain ⟨q,P⟩:=D.out.again;have G:=qH q;have ab:=qH P;clear q P hu;go_wp2;go_meet;have H:Upd (fun b=>b=c\/b=r\/m.ownBlock=some b) wr (j.setCell ⟨z,0,none⟩ (.int .i64 V)):=(SA.out.mono fun _ _ f=>f.elim).trans W fun b Z e=>by omega
      refine ⟨ab,qH ⟨G.out.ex.imp fun v' h=>⟨h.1,?_⟩,H.trans G.out.upd fun _ _ h=>h⟩,qH (G.out.blk D.out ZZ.out intT),qH (G.out.blk D.out PZ.out ZmE),qH (G.out.ints D.out OZ.out)⟩;exact YcQ H.size (.inl rfl) h.2
    have q1:¬ (k:Int)<(n:Int):=by omega
    go_wp2;go_meet;rw [<- d.2 a] at l;exact ⟨t,qH ⟨⟨m,t.out,.inl rfl⟩,SA.out.mono fun _ _ f=>f.elim⟩,l,T,U⟩
   case rest =>
   obtain ⟨R,K1,Z1,P1,O1⟩:=hcut;have I : -1<=V/\V<200:=by
    by_cases a:k<n
    · have:=Zai.1 (d.1 a).1;omega
    have:=d.2 a;omega
   clear t T U l SA KP KO KC g2;go_wp2_with fail;refine (Zfg R.out 1 rfl (by rw [Yaf];omega) Z1.out (po:=0) (n:=V) rfl intT (-1) 200 1 (by omega) ⟨I.1,I.2,by omega,by omega⟩).mono ?_;rintro e S ⟨rfl,x⟩;obtain ⟨v2,s,n2⟩:=x.ex;have e2:bs++(labB ls).take k++beb 1 (V+((1:Nat):Int)).toNat=bs++(labB ls).take (k+1):=by rw [Yak,ZuK af a7,O];rfl
   rw [e2] at x s;have KW:=qH (Y.out.trans KN.out (K1.out.trans (.inl rfl) x));have NW:=qH (YcQ Y.out.upd.size KN.out (YcQ K1.out.upd.size (.inl rfl) n2));have Z2:=qH (x.blk R.out Z1.out intT);have P2:=qH (x.blk R.out P1.out ZmE);have O2:=qH (x.ints R.out O1.out);have M:=qH s;have z2:S.cell? ⟨z,0,none⟩=some (.int .i64 V):=Z2.out.cell 0;have d2:S.cell? ⟨c,2,none⟩=some (.bool false):=s.cod.cell 2;have f2:S.frozen? ⟨c,2,none⟩=false:=s.cod.frozen 2;clear x s n2 K1 R Z1 P1 O1 Y;obtain ⟨q,P⟩:=M.out.again;have K3:=qH (KW.out.trans NW.out q);have C3:=qH P;have Z3:=qH (q.blk M.out Z2.out intT);have P3:=qH (q.blk M.out P2.out ZmE);have O3:=qH (q.ints M.out O2.out);clear q P KW;have p:Hid (((0<=V/\L<V/\i=false/\decide (n<k+1)=false))\/(V<0/\decide (n<k+1)=true)):=qH (by
    by_cases a:k<n
    · have C:=d.1 a;have h2:=Zai.1 C.1;exact .inl ⟨h2.1,C.2,by rw [<- KE.out];exact YaM (by omega),YaM (by omega)⟩
    exact .inr ⟨by have:=d.2 a;omega,YaV (by omega)⟩)
   have ac:=qH (show ((-1:Int)::ls)[k+1]?.getD (-1)=V by rw [Ybd];exact O);clear d;go_upto_region 10 with fail;go_cut [] from 50 to 68 (fun o=>S.setCell ⟨c,2,none⟩ (.bool false)=o)
   case first =>
    rcases p.out with ⟨a1,a2,a3,_⟩ | ⟨a1,_⟩
    · have a4:¬ V<=L:=by omega
      subst a3;go_wp2;go_meet;rfl
    have a4:¬ 0<=V:=by omega
    go_wp2;go_meet;rfl
   case rest =>
   subst hcut;generalize S.setCell ⟨c,2,none⟩ (.bool false)=w3 at *;have z3:w3.cell? ⟨z,0,none⟩=some (.int .i64 V):=Z3.out.cell 0;clear M Z2 P2 O2 z2 d2 f2;go_upto_region 11 with fail;go_cut [5] from 69 to 73 (fun s5 o=>s5=.bool (decide (n<k+1))/\w3=o)
   case first =>
    rcases p.out with ⟨a1,a2,a3,a5⟩ | ⟨a1,a5⟩
    · have a4:¬ V<0:=by omega
      subst a3;go_wp2;go_meet;rw [a5];exact ⟨rfl,rfl⟩
    cases i
    · go_wp2;go_meet;rw [a5];exact ⟨rfl,rfl⟩
    go_wp2;go_meet;rw [a5];exact ⟨rfl,rfl⟩
   case rest =>
   obtain ⟨rfl,ai⟩:=hcut;subst ai;have d1:w3.cell? ⟨c,1,none⟩=some (.pointer none):=C3.out.cod.cell 1;generalize ad:decide (n<k+1)=ae at *;go_wp2;go_roundg (8-(k+1))
   case measure=>omega
   case rel=>exact ⟨k+1,v2,V,ae,rfl,by omega,by go_num,rfl,rfl,ac,qH ad,K3,NW,C3,P3,O3⟩
 have hk:k=8:=by omega
 subst hk;go_wp2;go_end0;have aj:(labB ls).length=8:=by simp only [labB,ZaB,Yaf,Yag,Ybk];omega
 have h9:=Y.out;rw [YaB (by omega)] at h9;exact ⟨rfl,h9⟩
theorem Ztz {w:World} {B c r g BL n cp:Nat} {v:Value} {A:Option Addr} {x:N1} (h:CW w B c r v []) (hp:Blk w g 115 (x.cellsV (.slice A n cp))) (ho:w.ownsRow BL 3 1 (.slice A n cp) n (x.labels.map (Value.int .i64))) (hx:ZbT x=true) :
 Calls Tryz.prog 104 #[.pointer (some ⟨c,0,none⟩),.pointer (some ⟨g,0,none⟩)] w fun e w'=>e=.returned (.tuple #[])/\CWon w B c r v (ZcZ x) w':=by
 unfold ZbT at hx;simp only [Yay] at hx;have d:=qH hx;have f:=qH h;have j:=qH hp;have s:=qH ho;clear h hp ho hx;go_enter Tryz.func104,Tryz.ntmps104;go_wp2_with fail;refine (Zdl (po:=0) f (by simp) j.out (n:=x.rel) rfl ZmE 2048 qO d.1).mono ?_;rintro e G ⟨rfl,a⟩;obtain ⟨H,l,m⟩:=a.ex;have P1:=qH (a.blk f j ZmE);have t:=qH (a.ints f s);have u:=qH a;have N1:=qH m;have i:=qH l;clear a l m;go_wp2_with fail;refine (Zdl (po:=1) i (by simp only [Yaf,YaS,ZaC];omega) P1.out (n:=x.prop) rfl ZmE 65536 qO d.2.1).mono ?_;rintro e I ⟨rfl,b⟩;obtain ⟨L,o,p⟩:=b.ex;have y:=qH (b.blk i P1 ZmE);have z:=qH (b.ints i t);have C:=qH b;have D:=qH p;have E:=qH o;clear b o p;go_wp2_with fail;refine (Zqg E (by simp only [Yaf,YaS,ZaC];omega) y.out z.out d.2.2).mono ?_;rintro e M ⟨rfl,q⟩;have F:=qH q;clear q;go_wp2;go_end0;have k:=u.trans N1.out (C.trans D F);simp only [YaK,Yak] at k;exact ⟨rfl,k⟩
theorem Zqh {x:N1} (h:ZbT x=true):(ZcZ x).length=16:=ZiM h
theorem ZrS {x:R1} (_:Zdw x=true):(relB x).length=30:=ZkP x
theorem Zqi {x:P1} (_:ZbN x=true):(ZbO x).length=19:=ZiN x
theorem Zlk {g BL n cp:Nat} {A:Option Addr} {x:N1} (w:World) (hp:Blk w g 115 (x.cellsV (.slice A n cp))) (ho:w.ownsRow BL 3 1 (.slice A n cp) n (x.labels.map (Value.int .i64))) (hx:ZbT x=true) :
 Calls Tryz.prog 103 #[.pointer (some ⟨g,0,none⟩),.func (.func 104) #[] #[]] w fun e w'=>∃ v,e=.returned (.tuple #[v,.int .i64 0])/\OwnB w' w.heap.size v (ZcZ x)/\Same w w':=by
 have y:=qH hp;have o:=qH hx;have B:=qH ho;clear hp hx ho;go_enter Tryz.func103,Tryz.ntmps103;go_wp2_with fail;refine (ZbF w).mono ?_;rintro e d ⟨r,rfl,i,c⟩;obtain ⟨M,a⟩:=i.open;have j:=c.alloc (.cells #[.pointer (some ⟨r,0,none⟩),.pointer none,.bool false] 237);have C:=qH (show CW (d.alloc (.cells #[.pointer (some ⟨r,0,none⟩),.pointer none,.bool false] 237)) w.heap.size d.heap.size r M [] from ⟨Yad d _ _,a.same ((Yaa _ d).alloc _)⟩);have D:=qH (y.same j);have E:=qH (Zaa B j);have F:=qH j;have G:=c.size;have p:=qH (And.intro a.1 fun b l=>(a.2.2.lt b l).1);clear i a c j;go_upto_region 2 with fail;generalize S:d.heap.size=z at *;generalize d.alloc (.cells #[.pointer (some ⟨r,0,none⟩),.pointer none,.bool false] 237)=T at *;go_wp2_with fail;refine (Ztz C D E o).mono ?_;rintro e N ⟨rfl,m⟩;obtain ⟨U,k,O⟩:=m.ex;have q:Same w N:=((Ydf (S':=fun b=>w.heap.size<=b) F fun _ _ f=>f.elim).trans m.upd fun b l h=>by
  rcases h with h | h | h
  · omega
  · have:=p.1;omega
  exact p.2 b h).mono fun b l h=>qO
 have P:=k.cod.c2;have R:=k.cod.c0;have H:=qH k.wtr.wtr;have s:=qH q;clear m k O q;go_wp2_with fail;refine (Zbx H (by simp only [Zqh o.out];omega)).mono ?_;rintro e V ⟨W,rfl,t,u⟩;have I:=qH t;have L:=qH (s.trans u fun _ _ f=>f);clear t u;go_wp2
 go_ret2
 exact ⟨_,rfl,Zac I (qt s.size),L⟩
theorem ZmF {BL n cp:Nat} {A:Option Addr} {x:N1} (w:World) (ho:w.ownsRow BL 3 1 (.slice A n cp) n (x.labels.map (Value.int .i64))) (hx:ZbT x=true) :
 Calls Tryz.prog 57 #[.agg #[.int .i64 x.rel,.int .i64 x.prop,.slice A n cp]] w fun e w'=>∃ v,e=.returned (.tuple #[v,.int .i64 0])/\OwnB w' w.heap.size v (ZcZ x)/\Same w w':=by
 have a:=(Yaa (fun _=>False) w).alloc (.cells #[.int .i64 x.rel,.int .i64 x.prop,.slice A n cp] 115);have g:=qH (Zlk (x:=x) _ (Yad w 115 #[.int .i64 x.rel,.int .i64 x.prop,.slice A n cp]) (Zaa ho a) hx);have b:=qH a;clear hx a ho;go_enter Tryz.func57,Tryz.ntmps57;go_wp2_with fail;refine g.mono ?_;generalize w.alloc (.cells #[.int .i64 x.rel,.int .i64 x.prop,.slice A n cp] 115)=j at *;rintro e k ⟨v,rfl,c,d⟩;have h:=qH c;have i:=qH (b.trans d fun _ _ f=>f);clear c d;go_wp2
 go_ret2
 exact ⟨_,rfl,Zac h b.size,i⟩
theorem ZmG {g:Nat} {x:R1} (w:World) (hp:Blk w g 124 x.cells) (hx:Zdw x=true) :
 Calls Tryz.prog 107 #[.pointer (some ⟨g,0,none⟩),.func (.func 108) #[] #[]] w fun e w'=>∃ v,e=.returned (.tuple #[v,.int .i64 0])/\OwnB w' w.heap.size v (relB x)/\Same w w':=by
 have u:=qH hp;have n:=qH hx;skip;clear hp hx;go_enter Tryz.func107,Tryz.ntmps107;go_wp2_with fail;refine (ZbF w).mono ?_;rintro e d ⟨r,rfl,i,c⟩;obtain ⟨G,a⟩:=i.open;have k:=c.alloc (.cells #[.pointer (some ⟨r,0,none⟩),.pointer none,.bool false] 237);have y:=qH (show CW (d.alloc (.cells #[.pointer (some ⟨r,0,none⟩),.pointer none,.bool false] 237)) w.heap.size d.heap.size r G [] from ⟨Yad d _ _,a.same ((Yaa _ d).alloc _)⟩);have A:=qH (u.same k);skip;have B:=qH k;have C:=c.size;have o:=qH (And.intro a.1 fun b l=>(a.2.2.lt b l).1);clear i a c k;go_upto_region 2 with fail;generalize N:d.heap.size=z at *;generalize d.alloc (.cells #[.pointer (some ⟨r,0,none⟩),.pointer none,.bool false] 237)=O at *;go_wp2_with fail;refine (ZuJ y A n).mono ?_;rintro e H ⟨rfl,m⟩;obtain ⟨P,j,I⟩:=m.ex;have p:Same w H:=((Ydf (S':=fun b=>w.heap.size<=b) B fun _ _ f=>f.elim).trans m.upd fun b l h=>by
  rcases h with h | h | h
  · omega
  · have:=o.1;omega
  exact o.2 b h).mono fun b l h=>qO
 have L:=j.cod.c2;have M:=j.cod.c0;have D:=qH j.wtr.wtr;have q:=qH p;clear m j I p;go_wp2_with fail;refine (Zbx D (by simp only [ZrS n.out];omega)).mono ?_;rintro e R ⟨S,rfl,s,t⟩;have E:=qH s;have F:=qH (q.trans t fun _ _ f=>f);clear s t;go_wp2
 go_ret2
 exact ⟨_,rfl,Zac E (qt q.size),F⟩
theorem Zoi {x:R1} (w:World) (hx:Zdw x=true) :
 Calls Tryz.prog 60 #[.agg #[.bool x.link.live,.int .i64 x.link.src,.int .i64 x.link.dst,.int .i64 x.link.sprev,.int .i64 x.link.dprev,.int .i64 x.link.snext,.int .i64 x.link.dnext,.int .i64 x.type,.int .i64 x.prop]] w fun e w'=>∃ v,e=.returned (.tuple #[v,.int .i64 0])/\OwnB w' w.heap.size v (relB x)/\Same w w':=by
 have a:=(Yaa (fun _=>False) w).alloc (.cells #[.bool x.link.live,.int .i64 x.link.src,.int .i64 x.link.dst,.int .i64 x.link.sprev,.int .i64 x.link.dprev,.int .i64 x.link.snext,.int .i64 x.link.dnext,.int .i64 x.type,.int .i64 x.prop] 124);have g:=qH (ZmG (x:=x) _ (Yad w 124 #[.bool x.link.live,.int .i64 x.link.src,.int .i64 x.link.dst,.int .i64 x.link.sprev,.int .i64 x.link.dprev,.int .i64 x.link.snext,.int .i64 x.link.dnext,.int .i64 x.type,.int .i64 x.prop]) hx);have b:=qH a;clear hx a;go_enter Tryz.func60,Tryz.ntmps60;go_wp2_with fail;refine g.mono ?_;generalize w.alloc (.cells #[.bool x.link.live,.int .i64 x.link.src,.int .i64 x.link.dst,.int .i64 x.link.sprev,.int .i64 x.link.dprev,.int .i64 x.link.snext,.int .i64 x.link.dnext,.int .i64 x.type,.int .i64 x.prop] 124)=j at *;rintro e k ⟨v,rfl,c,d⟩;have h:=qH c;have i:=qH (b.trans d fun _ _ f=>f);clear c d;go_wp2
 go_ret2
 exact ⟨_,rfl,Zac h b.size,i⟩
theorem Zll {g:Nat} {x:P1} (w:World) (hp:Blk w g 145 x.cells) (hx:ZbN x=true) :
 Calls Tryz.prog 151 #[.pointer (some ⟨g,0,none⟩),.func (.func 127) #[] #[]] w fun e w'=>∃ v,e=.returned (.tuple #[v,.int .i64 0])/\OwnB w' w.heap.size v (ZbO x)/\Same w w':=by
 have u:=qH hp;have n:=qH hx;skip;clear hp hx;go_enter Tryz.func151,Tryz.ntmps151;go_wp2_with fail;refine (ZbF w).mono ?_;rintro e d ⟨r,rfl,i,c⟩;obtain ⟨G,a⟩:=i.open;have k:=c.alloc (.cells #[.pointer (some ⟨r,0,none⟩),.pointer none,.bool false] 237);have y:=qH (show CW (d.alloc (.cells #[.pointer (some ⟨r,0,none⟩),.pointer none,.bool false] 237)) w.heap.size d.heap.size r G [] from ⟨Yad d _ _,a.same ((Yaa _ d).alloc _)⟩);have A:=qH (u.same k);skip;have B:=qH k;have C:=c.size;have o:=qH (And.intro a.1 fun b l=>(a.2.2.lt b l).1);clear i a c k;go_upto_region 2 with fail;generalize N:d.heap.size=z at *;generalize d.alloc (.cells #[.pointer (some ⟨r,0,none⟩),.pointer none,.bool false] 237)=O at *;go_wp2_with fail;refine (Zty y A n).mono ?_;rintro e H ⟨rfl,m⟩;obtain ⟨P,j,I⟩:=m.ex;have p:Same w H:=((Ydf (S':=fun b=>w.heap.size<=b) B fun _ _ f=>f.elim).trans m.upd fun b l h=>by
  rcases h with h | h | h
  · omega
  · have:=o.1;omega
  exact o.2 b h).mono fun b l h=>qO
 have L:=j.cod.c2;have M:=j.cod.c0;have D:=qH j.wtr.wtr;have q:=qH p;clear m j I p;go_wp2_with fail;refine (Zbx D (by simp only [Zqi n.out];omega)).mono ?_;rintro e R ⟨S,rfl,s,t⟩;have E:=qH s;have F:=qH (q.trans t fun _ _ f=>f);clear s t;go_wp2
 go_ret2
 exact ⟨_,rfl,Zac E (qt q.size),F⟩
theorem ZmH {x:P1} (w:World) (hx:ZbN x=true) :
 Calls Tryz.prog 102 #[.agg #[.int .i64 x.key,.int .i64 x.kind,.int .i64 x.num,.int .i64 x.blob,.int .i64 x.prev,.int .i64 x.next]] w fun e w'=>∃ v,e=.returned (.tuple #[v,.int .i64 0])/\OwnB w' w.heap.size v (ZbO x)/\Same w w':=by
 have a:=(Yaa (fun _=>False) w).alloc (.cells #[.int .i64 x.key,.int .i64 x.kind,.int .i64 x.num,.int .i64 x.blob,.int .i64 x.prev,.int .i64 x.next] 145);have g:=qH (Zll (x:=x) _ (Yad w 145 #[.int .i64 x.key,.int .i64 x.kind,.int .i64 x.num,.int .i64 x.blob,.int .i64 x.prev,.int .i64 x.next]) hx);have b:=qH a;clear hx a;go_enter Tryz.func102,Tryz.ntmps102;go_wp2_with fail;refine g.mono ?_;generalize w.alloc (.cells #[.int .i64 x.key,.int .i64 x.kind,.int .i64 x.num,.int .i64 x.blob,.int .i64 x.prev,.int .i64 x.next] 145)=j at *;rintro e k ⟨v,rfl,c,d⟩;have h:=qH c;have i:=qH (b.trans d fun _ _ f=>f);clear c d;go_wp2
 go_ret2
 exact ⟨_,rfl,Zac h b.size,i⟩
end Go.Proofs.YtmkjfhnlnhceiaaGreatDoor
