/- Lemmas: walks and plain laws. -/
import Derived.Test.YtmkjfhnlnhceiaaGreatDoorF18
set_option maxRecDepth 100000
set_option maxHeartbeats 16000000
namespace Go.Proofs.YtmkjfhnlnhceiaaGreatDoor
variable {l:List UInt8} {k c r g i n B:Nat} {w:World} {F:Nat->Prop} {A:Option Addr}
open Go.RowKit
structure LS where
 bad:Bool
 last:Int
 ended:Bool
 list:List Int
def xD (s:LS) (x:UInt8):LS:=⟨s.bad || outB ((x.toNat:Int)-1) (-1) 200 || (decide (0<=(x.toNat:Int)-1) && (decide ((x.toNat:Int)-1<=s.last) || s.ended)),(x.toNat:Int)-1,s.ended || decide ((x.toNat:Int)-1<0),if 0<=(x.toNat:Int)-1 then s.list++[(x.toNat:Int)-1] else s.list⟩
def vG (bad:Bool) (l:List UInt8):LS:=l.foldl xD ⟨bad,-1,false,[]⟩
theorem ZqM (bad:Bool) (l:List UInt8) (x:UInt8):vG bad (l++[x])=xD (vG bad l) x:=by simp [vG]
theorem Zsw (bad:Bool):∀ l:List UInt8,(vG bad l).list.length<=l.length:=by
 have a:∀ (l:List UInt8) (s:LS),(l.foldl xD s).list.length<=s.list.length+l.length:=by
  intro l
  induction l with
  | nil=>intro s;simp
  | cons x l ih =>
    intro s;have b:=ih (xD s x);have c:(xD s x).list.length<=s.list.length+1:=by unfold xD;split <;> simp
    rw [mL,BA];omega
 intro l;have:=a l ⟨bad,-1,false,[]⟩;simpa [vG] using this
theorem take1 {x:UInt8} (h:l[k]?=some x):(l.drop k).take 1=[x]:=by obtain ⟨a,e⟩:=IA.1 h;rw [kE a,e];rfl
theorem jK:(Tryz.prog.info? 3).map (fun i=>(i.zero,i.size,i.bytes))=some (some (.int .i64 0),1,8):=qK
theorem ZqN {bad:Bool} {x0 x1:Value} (h:CR w F c r l bad) (hl:8<=l.length) (hp:Blk w g 115 #[x0,x1,.slice none 0 0]) (an:¬ F g) (am:∀ b,w.heap.size<=b->¬ F b):
 Calls Tryz.prog 153 #[.pointer (some ⟨c,0,none⟩),.pointer (some ⟨g,2,none⟩)] w fun e w'=>e=.returned (.tuple #[]) /\
  CR w' F c r (l.drop 8) (vG bad (l.take 8)).bad/\(∃ A n cp,Blk w' g 115 #[x0,x1,.slice A n cp]/\w'.ownsRow w.heap.size 3 1 (.slice A n cp) (vG bad (l.take 8)).list.length ((vG bad (l.take 8)).list.map (Value.int .i64)))/\Upd (fun b=>b=c\/b=r\/b=g) w w':=by
 have HH:=qH h;have HP:=qH hp;have HZ:=qH (show c<w.heap.size/\r<w.heap.size/\g<w.heap.size from ⟨h.cod.lt,h.rdr.lt,hp.lt⟩);have Z:=h.ne;have N:c≠g:=fun e=>by subst e;exact absurd rfl (Blk.ne h.cod hp qD)
 have a4:r≠g:=fun e=>by obtain ⟨_,_,_,f,_⟩:=h.rdr;exact absurd e (Blk.ne f hp qD)
 have c2:=h.cod.c2;have U:=h.cod.frozen 2;have g2:=hp.c2;have u0:Upd (fun b=>b=c) w (w.setCell ⟨c,2,none⟩ (.bool bad)):=(eA _ w).put1 _;have H0:=qH (show CR (w.setCell ⟨c,2,none⟩ (.bool bad)) F c r l bad from ⟨h.cod.put 2 _,h.rdr.upd u0 (JF Z) fun b f G=>h.fc (G ▸ f),h.fr,h.fc⟩);have P0:=qH (hp.far (p:=⟨c,2,none⟩) (JF N) (.bool bad));have U0:=qH (u0.mono (S':=fun b=>b=c\/b=r\/b=g) fun _ _ h=>.inl h);clear h hp u0;go_enter Tryz.func153,Tryz.ntmps153;go_upto_region 0 with fail;go_cut [] from 8 to 21 (fun D=>D=w.setCell ⟨c,2,none⟩ (.bool bad))
 case first =>
  cases bad
  · go_wp2;go_meet;rfl
  go_wp2;go_meet;rfl
 case rest =>
 subst hcut;generalize w.setCell ⟨c,2,none⟩ (.bool bad)=wA at *;clear c2 U g2 HH HP;go_wp2_with fail;go_loopg [22,4,5] 8 (fun gh ix la en wr=>∃ (k:Nat) (a:LS) (A:Option Addr) (n cp:Nat),8-k=gh/\k<=8/\ix=.int .i64 k/\la=.int .i64 a.last/\en=.bool a.ended/\Hid (vG bad (l.take k)=a)/\Hid (CR wr F c r (l.drop k) a.bad) /\
  Hid (Blk wr g 115 #[x0,x1,.slice A n cp])/\Hid (wr.ownsRow w.heap.size 3 1 (.slice A n cp) n (a.list.map (Value.int .i64)))/\Hid (a.list.length=n)/\Hid (Upd (fun b=>b=c\/b=r\/b=g) w wr))
 case atStart =>
  exact ⟨0,⟨bad,-1,false,[]⟩,none,0,0,rfl,qO,rfl,rfl,rfl,qH rfl,H0,P0,qH (iC _ _ _ _),qH rfl,U0⟩
 obtain ⟨k,a,A,n,cp,rfl,hk,rfl,rfl,rfl,KS,KH,KP,L,KL,KU⟩:=hrel;by_cases ai:k<8
 · have a5:k<l.length:=qO;obtain ⟨x,hx⟩:∃ x,l[k]?=some x:=⟨_,FA a5⟩
   obtain ⟨V,hV⟩:=qx ((x.toNat:Int)-1);have a6:(be ((l.drop k).take 1):Int)-(1:Nat)=V:=by rw [<- hV,take1 hx];simp [be]
   have aj:n<=k:=by have h1:=Zsw bad (l.take k);rw [KS.out,KL.out,RB] at h1;omega
   have c1:¬ (k:Int)<(n:Int):=qO;have o:=(iA wr).alloc (.cells #[.int .i64 (-1)] 3);have HA:=qH (KH.same o);have PA:=qH (KP.same o);have OA:=qH (mA L o);have ZA:=qH (jA wr 3 #[.int .i64 (-1)]);have UA:=qH (KU.same o);have E:Hid (c<wr.heap.size/\r<wr.heap.size/\g<wr.heap.size/\w.heap.size<=wr.heap.size):=qH ⟨KH.cod.lt,KH.rdr.lt,KP.lt,KU.size⟩;have a0:Hid (∀ b,(Value.slice A n cp).ownBlock=some b->b<wr.heap.size):=qH fun b f=>(L.lt b f).2;clear o;have g2:=PA.c2;have a7:=qH (show 1<=(l.drop k).length by rw [QA];omega);go_upto_region 9 with fail;generalize hz:wr.heap.size=z at *;have a8:¬ F z:=am _ E.2.2.2;generalize wr.alloc (.cells #[.int .i64 (-1)] 3)=wB at *;go_wp2_with fail;refine (WJ (po:=0) HA 1 rfl qO a7.out ZA.out rfl qD a8 (-1) 200 1 qO a6).mono ?_;rintro e Y ⟨rfl,h1,p1,u1⟩;simp only [zA,CA] at p1;have s:=h1;rw [dD] at s;have s:=qH s;have Z1:=qH p1;have ak:=E.out;have P1:=qH (PA.upd u1 qO);have O1:=qH (GA OA u1 fun b f G=>by have a9:=(OA.lt b f).1;have:=a0.out b f;have:=HZ.out;omega)
   have U1:=qH (UA.trans u1 (S:=fun b=>b=c\/b=r\/b=g) fun b f h=>qO);clear h1 p1 u1 g2 HA PA OA ZA UA;have c2:=s.cod.c2;have U:=s.cod.frozen 2;have z0:=Z1.c0;have aa:c≠z:=qh E;obtain ⟨j,d⟩:=qx ((a.bad || outB V (-1) 200 || (decide (0<=V) && (decide (V<=a.last) || a.ended))));obtain ⟨b1,P⟩:=qx ((a.bad || outB V (-1) 200));rw [P] at c2 d s;have a1:=qH d;have ab:=qH P;clear d P;go_upto_region 10 with fail;go_cut [] from 50 to 68 (fun D=>D=Y.setCell ⟨c,2,none⟩ (.bool j))
   case first =>
    have d:=a1.out;obtain ⟨sb,la,en,li⟩:=a;simp only at d;cases b1
    · by_cases u:0<=V
      · by_cases h3:V<=la
        · have e:j=true:=by rw [<- d];simp [u,h3]
          subst e;go_wp2;go_meet;rfl
        have e:j=en:=by rw [<- d];simp [u,h3]
        subst e;go_wp2;go_meet;rfl
      have e:j=false:=by rw [<- d];simp [u]
      subst e;go_wp2;go_meet;rfl
    have e:j=true:=by rw [<- d];simp
    subst e;go_wp2;go_meet;rfl
   case rest =>
   subst hcut;have uC:Upd (fun b=>b=c) Y (Y.setCell ⟨c,2,none⟩ (.bool j)):=(eA _ Y).put1 _;have O:=qH (show CR (Y.setCell ⟨c,2,none⟩ (.bool j)) F c r (l.drop (k+1)) j from ⟨s.cod.put 2 _,s.rdr.upd uC (JF Z) fun b f G=>s.fc (G ▸ f),s.fr,s.fc⟩);have P2:=qH (P1.far (p:=⟨c,2,none⟩) (JF N) (.bool j));have W:=qH (Z1.far (p:=⟨c,2,none⟩) (JF aa) (.bool j));have O2:=qH (GA O1 uC fun b f G=>by have a9:=(O1.lt b f).1;have:=HZ.out;omega)
   have U2:=qH (U1.trans uC fun _ _ h=>.inl h);clear uC s P1 O1 U1 Z1 c2 U z0;generalize Y.setCell ⟨c,2,none⟩ (.bool j)=X at *;have z2:=W.c0;go_upto_region 11 with fail;go_cut [5] from 69 to 73 (fun s5 D=>s5=.bool (a.ended || decide (V<0))/\X=D)
   case first =>
    obtain ⟨sb,la,en,li⟩:=a;cases en
    · by_cases u:V<0
      · go_wp2;go_meet;exact ⟨by simp [u],rfl⟩
      go_wp2;go_meet;exact ⟨by simp [u],rfl⟩
    go_wp2;go_meet;exact ⟨rfl,rfl⟩
   case rest =>
   obtain ⟨rfl,rfl⟩:=hcut;have c1:=O.cod.c1;have a2:l.take (k+1)=l.take k++[x]:=by rw [eD,hx];rfl
   have a3:xD a x=⟨j,V,a.ended || decide (V<0),if 0<=V then a.list++[V] else a.list⟩:=by unfold xD;simp only [hV];rw [ab.out,a1.out]
   have y:=qH ((ZqM bad (l.take k) x).trans ((tB (fun t=>xD t x) KS.out).trans a3));rw [<- a2] at y;clear a3 a2;by_cases u:0<=V
   · go_upto_region 13 with fail;have s0:Same X X.drew:=(eA _ X).drew;refine eE 8 (fun D=>D.cell? ⟨g,2,none⟩=some (.slice A n cp)/\D.cell? ⟨z,0,none⟩=some (.int .i64 V)) qK ⟨(P2.same s0).cell 2,(W.same s0).cell 0⟩ (fun m=>?_)
     repeat
      first
       | refine EA (v:=?_) 0 rfl ?_ ?_
       | refine EA (v:=?_) 1 rfl ?_ ?_
       | refine EA (v:=?_) 2 rfl ?_ ?_
       | refine EA (v:=?_) 3 rfl ?_ ?_
       | refine EA (v:=?_) 4 rfl ?_ ?_
       | refine EA (v:=?_) 7 rfl ?_ ?_
      rotate_left
      · intro D H;have u:=H.1;have h1:=H.2;go_simp;try with_reducible rfl
      simp only [Act.put,zA]
     have ac:g≠z:=qh E;refine tG (rs:=[5]) (by decide +kernel) (by decide +kernel) ?_;refine JD rfl (fun K M=>?_) RD;go_simp;have o:=((iA X).alloc (.cells #[.int .i64 V] 3)).drew;refine M _ _ ⟨(P2.same o).cell 2,(W.same o).cell 0⟩ (fun m=>?_);clear M K;refine tG (rs:=[6]) (by decide +kernel) (by decide +kernel) ?_;refine JD rfl (fun K M=>?_) RD;have q:=mA O2.out o;have al:=U2.size;refine IK rfl (.tmp 86) (.tmp 88) _ _ rfl w.heap.size 3 1 8 _ mG jK rfl (.slice A n cp) n _ rfl q rfl (GD mG (Row.drew (tI _ _ _)) (by simp [Value.oneCell'])) qM qO (qt o.size) ?_;intro v9 w9 C;have PS:=P2.same o;obtain ⟨f1,U,f3⟩:=aH (i:=2) PS q qD (eA _ _) C;obtain ⟨R,T,rfl⟩:=WA C.own;have q3:=PS.upd C.upd fun G=>PS.ne_own q qD G;have zz:=(W.same o)
     have I:¬ (Value.slice A n cp).ownBlock=some z:=fun G=>by have:=a0.out z G;omega
     have q4:=zz.upd C.upd I;have F1:=qH f1;have F2:=qH U;have U9:Upd (fun b=>b=g\/(Value.slice A n cp).ownBlock=some b) X (w9.setCell ⟨g,2,none⟩ (.slice R (n+1) T)):=(o.mono (S':=fun b=>b=g\/(Value.slice A n cp).ownBlock=some b) qe).trans f3 qf;have B:=qH U9;have Q3:=qH q3;clear f1 U f3 C q U9 PS;refine M _ _ ⟨q3.cell 2,q4.cell 0⟩ (fun m=>?_);clear M K q3 q4 zz;simp only [Act.put]
     try (refine EA (v:=?_) 7 rfl ?_ ?_
          rotate_left;intro D H;have u:=H.1;go_simp;try with_reducible rfl)
     simp only [Act.put,zA];refine CI (by decide +kernel) (by decide +kernel) rfl (fun K M=>?_) _;have r3:=Q3.cell 2;have z3:=Q3.frozen 2;go_simp;refine M.out _ _ ?_;clear M K r3 z3 m o;have ad:=qH (show (w9.setCell ⟨g,2,none⟩ (.slice R (n+1) T)).cell? ⟨z,0,none⟩=some (.int .i64 V) from (W.upd B (by
      rintro (e | e)
      · exact ac e.symm
      exact I e)).cell 0)
     have ae:Hid ((w9.setCell ⟨g,2,none⟩ (.slice R (n+1) T)).ownsRow w.heap.size 3 1 (.slice R (n+1) T) (n+1) ((a.list++[V]).map (Value.int .i64))):=qH (by rw [DB];exact F2);have af:=qH (show CR (w9.setCell ⟨g,2,none⟩ (.slice R (n+1) T)) F c r (l.drop (k+1)) j from ⟨O.cod.upd B (by
      rintro (e | e)
      · exact N e
      · have:=(L.lt c e).1;have:=HZ.out;omega),O.rdr.upd B (by
      rintro (e | e)
      · exact a4 e
      · have:=(L.lt r e).1;have:=HZ.out;omega) (by
      rintro b f (e | e)
      · exact an (e ▸ f)
      exact am b (L.lt b e).1 f),O.fr,O.fc⟩)
     have ag:=qH (U2.trans B (S:=fun b=>b=c\/b=r\/b=g) (by
      rintro b f (e | e)
      · exact .inr (.inr e)
      have:=(L.lt b e).1;omega))
     have ah:=qH (show (a.list++[V]).length=n+1 by rw [kA,KL.out];rfl);rw [gA u] at y;have zc:=ad.out;generalize w9.setCell ⟨g,2,none⟩ (.slice R (n+1) T)=wn at *;clear F2 B Q3 z2 c1 O P2 W O2 U2 KH KP L KU;go_wp2;go_roundg (8-(k+1))
     case measure=>omega
     case rel=>exact ⟨k+1,⟨j,V,a.ended || decide (V<0),a.list++[V]⟩,R,n+1,T,rfl,qO,qN,rfl,rfl,y,af,F1,ae,ah,ag⟩
   rw [aA u] at y;go_wp2;go_roundg (8-(k+1))
   case measure=>omega
   case rel=>exact ⟨k+1,⟨j,V,a.ended || decide (V<0),a.list⟩,A,n,cp,rfl,qO,qN,rfl,(by show Value.bool true=Value.bool (a.ended || decide (V<0));rw [kC (show V<0 by omega),Bool.or_true]),y,O,P2,O2,KL,U2⟩
 go_wp2;go_end0;have hk:k=8:=qO;subst hk;refine ⟨rfl,by rw [KS.out];exact KH,⟨A,n,cp,KP,?_⟩,KU⟩;rw [KS.out,KL.out];exact L
def uH:Int->List UInt8->Bool
 | _,[]=>true
 | last,x::l=>if x=0 then l.all (·==0) else inP ((x.toNat:Int)-1) 0 200 && (decide (last<(x.toNat:Int)-1) && uH ((x.toNat:Int)-1) l)
theorem DY:∀ (l:List UInt8) (s:LS),s.ended=true->((l.foldl xD s).bad=(s.bad || !l.all (·==0)))/\((l.foldl xD s).bad=false->(l.foldl xD s).list=s.list)
 | [],s,_=>qS
 | x::l,s,he=>by
   rw [mL];obtain ⟨a,c⟩:=DY l (xD s x) (by simp [xD,he]);by_cases b:x=0
   · subst b;have e:xD s 0=⟨s.bad,-1,true,s.list⟩:=by unfold xD outB;simp [he]
     rw [e] at a c ⊢;exact ⟨by simpa using a,fun h=>c h⟩
   have f:0<x.toNat:=by
    rcases Nat.eq_zero_or_pos x.toNat with h | h
    · exact absurd (vL.1 (by simpa using h)) b
    exact h
   have e:(xD s x).bad=true:=by unfold xD;simp [he];omega
   rw [e] at a;have d:(x::l).all (·==0)=false:=by simp [b]
   rw [d];exact ⟨by rw [a];simp,fun h=>by rw [a] at h;simp at h⟩
theorem EY:∀ (l:List UInt8) (s:LS),s.ended=false -> -1<=s.last->((l.foldl xD s).bad=(s.bad || !uH s.last l))/\((l.foldl xD s).bad=false->(l.foldl xD s).list=s.list++aE l)
 | [],s,_,_=>by simp [uH,aE]
 | x::l,s,he,hl=>by
   rw [mL];by_cases c:x=0
   · subst c;have e:xD s 0=⟨s.bad,-1,true,s.list⟩:=by unfold xD outB;simp [he]
     obtain ⟨a,b⟩:=DY l (xD s 0) (by rw [e]);rw [e] at a b ⊢;refine ⟨by rw [a,uH,gA rfl],fun h=>?_⟩;rw [b h];simp [aE]
   have g:0<x.toNat:=by
    rcases Nat.eq_zero_or_pos x.toNat with h | h
    · exact absurd (vL.1 (by simpa using h)) c
    exact h
   have e:xD s x=⟨s.bad || !inP ((x.toNat:Int)-1) 0 200 || !decide (s.last<(x.toNat:Int)-1),(x.toNat:Int)-1,false,s.list++[(x.toNat:Int)-1]⟩:=by
    have d:outB ((x.toNat:Int)-1) (-1) 200=!inP ((x.toNat:Int)-1) 0 200:=by rw [ZN];unfold inP;rw [kC (show (-1:Int)<=(x.toNat:Int)-1 by omega),kC (show (0:Int)<=(x.toNat:Int)-1 by omega)]
    have f:decide ((x.toNat:Int)-1<=s.last)=!decide (s.last<(x.toNat:Int)-1):=by by_cases h:s.last<(x.toNat:Int)-1 <;> simp [h] <;> omega
    unfold xD;rw [d,f,he,gA qO,kC (show (0:Int)<=(x.toNat:Int)-1 by omega),LB (show ¬ (x.toNat:Int)-1<0 by omega)];simp
   obtain ⟨a,b⟩:=EY l (xD s x) (by rw [e]) (by rw [e];simp only;omega);rw [e] at a b ⊢;simp only at a b ⊢;refine ⟨?_,fun h=>?_⟩
   · rw [a,uH,aA c];cases s.bad <;> cases inP ((x.toNat:Int)-1) 0 200 <;> cases decide (s.last<(x.toNat:Int)-1) <;> simp
   rw [b h,vA];congr 1;unfold aE;rw [TR,gA (by simpa using c)];rfl
theorem FY:∀ (l:List UInt8) (last:Int),uH last l=true↔NG last (aE l)=true/\(aE l).map (fun n=>UInt8.ofNat (n+1).toNat)++TB (l.length-(aE l).length)=l
 | [],last=>by simp [uH,aE,NG,TB]
 | x::l,last=>by
   by_cases f:x=0
   · subst f;rw [uH,gA rfl];have e:aE (0::l)=[]:=by simp [aE]
     rw [e];simp only [NG,jI,TG,SB,mC,BH,BA,TB,VG,jS];rw [show (List.replicate l.length (0:UInt8)=l)↔(l=List.replicate l.length 0) from eq_comm,List.eq_replicate_iff];simp
   have e:aE (x::l)=((x.toNat:Int)-1)::aE l:=by unfold aE;rw [TR,gA (by simpa using f)];rfl
   have g:UInt8.ofNat ((x.toNat:Int)-1+1).toNat=x:=by rw [UR,XB];simp
   have ih:=FY l ((x.toNat:Int)-1);rw [uH,aA f,e];simp only [NG,kB,ih,CB,g,EB,BA,Nat.add_sub_add_right,jS,jI];exact ⟨fun ⟨a,b,c,d⟩=>⟨⟨a,b,c⟩,d⟩,fun ⟨⟨a,b,c⟩,d⟩=>⟨a,b,c,d⟩⟩
theorem Zsy (l:List UInt8):(aE l).length<=l.length:=by unfold aE;rw [nA];exact (List.takeWhile_sublist _).length_le
theorem GY (hl:l.length=16):getN l=if inP ((atP l 0 4:Int)-1) (-1) 2048=true/\inP ((atP l 4 4:Int)-1) (-1) 65536=true/\uH (-1) (l.drop 8)=true then some (jH l) else none:=by
 have i:(l.drop 8).length=8:=by rw [QA];omega
 have f:=Zsy (l.drop 8);have e:l=(l.drop 0).take 4++((l.drop 4).take 4++l.drop 8):=by
  have e:l=(l.drop 0).take 8++l.drop 8:=by rw [TF,tF]
  conv=>lhs;rw [e,show 8=4+4 from rfl,PG,vA]
 have g:=FY (l.drop 8) (-1);rw [i] at g;have j:PD (jH l)=l↔labB (aE (l.drop 8))=l.drop 8:=by
  unfold PD jH;simp only;rw [nJ qO,nJ qO];constructor
  · intro h
    conv at h=>rhs;rw [e]
    exact iP (iP h)
  intro h;rw [h];exact e.symm
 unfold getN;have k:(bE (jH l)=true/\PD (jH l)=l)↔(inP ((atP l 0 4:Int)-1) (-1) 2048=true/\inP ((atP l 4 4:Int)-1) (-1) 65536=true/\uH (-1) (l.drop 8)=true):=by rw [j,g];unfold bE jH OG labB;simp only [kB,NC];exact ⟨fun ⟨⟨a,b,_,c⟩,d⟩=>⟨a,b,c,d⟩,fun ⟨a,b,c,d⟩=>⟨⟨a,b,qO,c⟩,d⟩⟩
 simp only [k]
theorem Zuo (h:CR w F c r l false) (hl:l.length=16) (hp:Blk w g 115 #[.int .i64 0,.int .i64 0,.slice none 0 0]) (T:¬ F g) (U:∀ b,w.heap.size<=b->¬ F b):
 Calls Tryz.prog 104 #[.pointer (some ⟨c,0,none⟩),.pointer (some ⟨g,0,none⟩)] w fun e w'=>e=.returned (.tuple #[]) /\
  CR w' F c r (l.drop 16) (getN l).isNone/\(∃ A n cp,(∀ x,getN l=some x->Blk w' g 115 (x.cellsV (.slice A n cp))/\w'.ownsRow w.heap.size 3 1 (.slice A n cp) x.labels.length (x.labels.map (Value.int .i64))))/\Upd (fun b=>b=c\/b=r\/b=g) w w':=by
 have q:115≠237/\115≠285:=qD;have y:=qH h;have z:=qH hp;clear h hp;go_enter Tryz.func104,Tryz.ntmps104;go_wp2_with fail;refine (RH (po:=0) y qO z.out rfl q T 2048 (V:=(atP l 0 4:Int)-1) rfl).mono ?_;rintro e P ⟨rfl,t,o,u1⟩;simp only [zA,CA] at o;have B:=qH t;have P1:=qH o;have C:=qH u1;clear t o u1;go_wp2_with fail;refine (RH (po:=1) B (by simp only [QA];omega) P1.out rfl q T 65536 (V:=(atP l 4 4:Int)-1) rfl).mono ?_;rintro e R ⟨rfl,u,p,u2⟩;simp only [zA,JA,CA] at p;have D:=qH u;have E:=qH p;have k:=qH (C.trans u2 qf);clear u p u2;go_wp2_with fail;refine (ZqN D (by simp only [QA];omega) E.out T (fun b j=>U b (tA k.size j))).mono ?_;rintro e S ⟨rfl,a,⟨A,n,cp,v,d⟩,u3⟩;have G:=qH a;have H:=qH v;have I:=qH d;have L:=qH (k.trans u3 qf);clear a v d u3;go_wp2;go_end0;have M:((l.drop 4).drop 4).take 8=l.drop 8:=by rw [dD,cB (by rw [QA];omega)]
 have a:=G.out;have d:=I.out;rw [M] at a d;obtain ⟨N,O⟩:=EY (l.drop 8) ⟨false || outB ((atP l 0 4:Int)-1) (-1) 2048 || outB ((atP l 4 4:Int)-1) (-1) 65536,-1,false,[]⟩ rfl (FP _);have j:(vG (false || outB ((atP l 0 4:Int)-1) (-1) 2048 || outB ((atP l 4 4:Int)-1) (-1) 65536) (l.drop 8)).bad=(getN l).isNone:=by unfold vG;rw [N,GY hl];simp only [ZN];cases inP ((atP l 0 4:Int)-1) (-1) 2048 <;> cases inP ((atP l 4 4:Int)-1) (-1) 65536 <;> cases uH (-1) (l.drop 8) <;> simp
 refine ⟨rfl,?_,⟨A,n,cp,fun x i=>?_⟩,L⟩
 · rw [j] at a;rw [dD,dD] at a;exact a
 have f:(vG (false || outB ((atP l 0 4:Int)-1) (-1) 2048 || outB ((atP l 4 4:Int)-1) (-1) 65536) (l.drop 8)).list=aE (l.drop 8):=by
  have:=O (by have s:=j;unfold vG at s;rw [s,i];rfl)
  simpa [vG] using this
 have m:x=jH l:=by
  rw [GY hl] at i;split at i
  · exact (eB i).symm
  cases i
 rw [f] at d;rw [m];exact ⟨H,RA d k.size⟩
def L1.cells (l:L1):List Value:=[.bool l.live,.int .i64 l.src,.int .i64 l.dst,.int .i64 l.sprev,.int .i64 l.dprev,.int .i64 l.snext,.int .i64 l.dnext]
theorem L1.seven (l:L1):l.cells.length=7:=rfl
abbrev OF:=@L1.seven
theorem IY (L:List L1):∀ u∈L.flatMap L1.cells,u.oneCell'=true:=by intro u b;obtain ⟨x,_,a⟩:=ED.1 b;simp only [L1.cells,TA,XG,WF] at a;rcases a with rfl | rfl | rfl | rfl | rfl | rfl | rfl <;> rfl
theorem dU:(Tryz.prog.info? 109).map (fun i=>(i.zero,i.size,i.bytes))=some (some (.agg #[.bool false,.int .i64 0,.int .i64 0,.int .i64 0,.int .i64 0,.int .i64 0,.int .i64 0]),7,56):=qK
structure LnAt (w:World) (b p:Nat) (l:L1):Prop where
 c0:w.cell? ⟨b,p,none⟩=some (.bool l.live)
 c1:w.cell? ⟨b,p+1,none⟩=some (.int .i64 l.src)
 c2:w.cell? ⟨b,p+2,none⟩=some (.int .i64 l.dst)
 c3:w.cell? ⟨b,p+3,none⟩=some (.int .i64 l.sprev)
 c4:w.cell? ⟨b,p+4,none⟩=some (.int .i64 l.dprev)
 c5:w.cell? ⟨b,p+5,none⟩=some (.int .i64 l.snext)
 c6:w.cell? ⟨b,p+6,none⟩=some (.int .i64 l.dnext)
abbrev RdL (w:World) (F:Nat->Prop) (A:Option Addr) (n c:Nat) (L:List L1):Prop:=WRow w F 7 A n c (L.flatMap L1.cells)
section
variable {w:World} {F:Nat->Prop} {A:Option Addr} {n c:Nat} {L:List L1}
theorem RdL.len' (h:RdL w F A n c L):L.length=n:=WRow.lenF h OF qO
theorem RdL.at7 (h:RdL w F A n c L) (hi:i<n):∃ b o l,A=some ⟨b,o,none⟩/\b<w.heap.size/\F b/\L[i]?=some l/\l∈L/\LnAt w b (o+i*7) l:=by obtain ⟨b,o,x,d,e,f,g,j,a⟩:=WRow.atF h OF qO hi;exact ⟨b,o,x,d,e,f,g,j,a 0 _ rfl,a 1 _ rfl,a 2 _ rfl,a 3 _ rfl,a 4 _ rfl,a 5 _ rfl,a 6 _ rfl⟩
end
def kK (l:L1) (node:Int):Bool:=decide (l.src=node) || decide (l.dst=node)
theorem JY (w:World) (l:L1) (node:Int):Calls Tryz.prog 96 #[.agg l.cells.toArray,.int .i64 node] w fun e w'=>e=.returned (.bool (kK l node))/\Same w w':=by
 obtain ⟨v,s,d,i,j,k,m⟩:=l;unfold L1.cells kK;simp only;have b:=(iA w).alloc (.cells #[.bool v,.int .i64 s,.int .i64 d,.int .i64 i,.int .i64 j,.int .i64 k,.int .i64 m] 109);have a:=qH b;clear b;by_cases c:s=node
 · subst c;go_enter Tryz.func96,Tryz.ntmps96;go_wp2;go_ret;exact ⟨qS,a⟩
 by_cases f:d=node
 · subst f;go_enter Tryz.func96,Tryz.ntmps96;go_wp2;go_ret;exact ⟨qS,a⟩
 have g:=qH c;have h:=qH f;go_enter Tryz.func96,Tryz.ntmps96;go_wp2;go_ret;exact ⟨by simp [g.out,h.out],a⟩
theorem eU (w:World) {b p:Nat} {s:Int} (h:w.cell? ⟨b,p+1,none⟩=some (.int .i64 s)) (node:Int):Calls Tryz.prog 99 #[.pointer (some ⟨b,p,none⟩),.int .i64 node] w fun e w' =>
 e=.returned (.tuple #[.pointer (some ⟨b,p+(if s=node then 3 else 4),none⟩),.pointer (some ⟨b,p+(if s=node then 5 else 6),none⟩)])/\Same w w':=by
 by_cases a:s=node
 · subst a;rw [gA rfl,gA rfl];go_enter Tryz.func99,Tryz.ntmps99;go_upto_region 2 with fail;go_quiet (fail);go_wp2
   go_ret2
   exact ⟨rfl,(eA _ w).drewN _⟩
 rw [aA a,aA a];go_enter Tryz.func99,Tryz.ntmps99;go_upto_region 3 with fail;go_quiet (fail);go_wp2
 go_ret2
 exact ⟨rfl,(eA _ w).drewN _⟩
theorem KY {L:List L1} (w:World) (h:RdL w F A n c L) (node id:Int):Calls Tryz.prog 98 #[.slice A n c,.int .i64 node,.int .i64 id] w fun e w'=>e=.returned (.int .i64 (lC L node id))/\Same w w':=by
 have r:=h.len';by_cases t:id<0
 · have f:lC L node id=3:=gA t;rw [f];clear h f;go_enter xN,yN;go_wp2;go_ret;exact ⟨rfl,eA _ _⟩
 obtain ⟨k,rfl⟩:∃ k:Nat,id=(k:Int):=⟨id.toNat,qO⟩
 have f:lC L node (k:Int)=match L[k]? with | none=>3 | some l=>if l.live=false then 3 else if l.src≠node/\l.dst≠node then 65 else 0:=aA t
 by_cases x:k<n
 · obtain ⟨b,o,l,rfl,R,_,m,_,p⟩:=h.at7 x;rw [m] at f;simp only at f;have y:(k:Int)<(n:Int):=qO;obtain ⟨z,B,C,D,E,G,H⟩:=p;have i:=qH (JY w l node);obtain ⟨v,s,d,I,M,N,O⟩:=l;simp only at f z B C D E G H;have j:=qH f;clear h f m;cases v with
   | false =>
     go_enter xN,yN;go_wp2;go_ret;exact ⟨by rw [j.out];rfl,eA _ _⟩
   | true =>
     unfold L1.cells at i;simp only at i;cases a:kK ⟨true,s,d,I,M,N,O⟩ node with
     | false =>
       rw [a] at i;have g:=qH (show lC L node (k:Int)=65 by rw [j.out,aA qS,gA];unfold kK at a;simpa using a)
       clear a j;go_enter xN,yN;go_wp2_with fail;refine i.mono ?_;rintro e P ⟨rfl,q⟩;go_wp2;go_ret;exact ⟨by rw [g.out];rfl,q⟩
     | true =>
       rw [a] at i;have g:=qH (show lC L node (k:Int)=0 by
        rw [j.out,aA qS,aA];unfold kK at a;simp at a;intro u;rcases a with a | a
        · exact u.1 a
        exact u.2 a)
       clear a j;go_enter xN,yN;go_wp2_with fail;refine i.mono ?_;rintro e P ⟨rfl,q⟩;go_wp2;go_ret;exact ⟨by rw [g.out];rfl,q⟩
 have m:L[k]?=none:=UI qO;rw [m] at f;have y:¬ (k:Int)<(n:Int):=qO;rw [f];clear h f m;go_enter xN,yN;go_wp2;go_ret;exact ⟨rfl,eA _ _⟩
theorem ZoH {L:List L1} (w:World) (h:RdL w F A n c L) (hn:n*56<=140737488355328):
 Calls Tryz.prog 97 #[.slice A n c] w fun e w'=>∃ A' c',e=.returned (.slice A' n c')/\Hid (w'.ownsRow w.heap.size 109 7 (.slice A' n c') n (L.flatMap L1.cells))/\Same w w':=by
 have g:=fun (w:World) (a:Option Addr) (n c:Nat)=>dI (P:=Tryz.prog) w 70 109 a n c 0 0 QL;have i:=h.max;have j:=h.le;cases A with
 | none =>
   have k:=h.nil rfl;obtain rfl:c=0:=k;obtain rfl:n=0:=qO;have l:L.flatMap L1.cells=[]:=EH.1 (by rw [h.len]);rw [l];go_enter Tryz.func97,Tryz.ntmps97;go_wp2;go_ret;exact ⟨none,0,rfl,qH (iC _ _ _ _),eA _ _⟩
 | some a =>
   have m:n<=maxLen:=qM;go_enter Tryz.func97,Tryz.ntmps97;go_wp2_with (at_builtin;go_must (refine XD rfl (.tmp 5) (.tmp 6) _ _ rfl w.heap.size _ _ _ _ QL dU rfl _ 0 [] rfl (NI w #[] 0 (lA _) (oA _) rfl) rfl (ZL QL (aJ h ((eA _ w).alloc _)) (IY L)) qO qO qS ?_);intro p w' d);go_ret;have f:=d.own;rw [AE,SB] at f;obtain ⟨A',c',rfl⟩:=WA f;refine ⟨A',c',rfl,qH f,?_⟩;exact ((eA _ w).alloc _).trans d.upd fun b q o=>by have:=eB o;simp only at this;omega
theorem LY {node:Int}:∀ (ids:List Nat) (p:Int) (L:List L1),lC (pC node p ids L) node (k:Int)=lC L node (k:Int)
 | [],p,L=>rfl
 | i::ids,p,L=>by
   rw [pC,LY ids];cases h:L[i]? with
   | none=>rfl
   | some l=>exact Zqt (by rw [SK h];exact Zqs _ _ _ _)
theorem ZK {j:Nat} {M:List L1} {x y:L1} {u:Value} (h:w.ownsRow B 109 7 (.slice (some ⟨g,0,none⟩) n c) n (M.flatMap L1.cells)) (hx:M[i]?=some x) (hj:j<7) (hy:y.cells=x.cells.set j u):
 w.cell? ⟨g,i*7+j,none⟩=x.cells[j]?/\w.frozen? ⟨g,i*7+j,none⟩=false/\(w.setCell ⟨g,i*7+j,none⟩ u).ownsRow B 109 7 (.slice (some ⟨g,0,none⟩) n c) n ((M.set i y).flatMap L1.cells):=by
 obtain ⟨a,l⟩:=IA.1 hx;have v:M.length=n:=by have m:=h.1;rw [KG OF] at m;omega
 have o:i*7+j<n*7:=qO;obtain ⟨z,u0,e,_,_,b,s,t,d⟩:=jJ h o;cases e;rw [ON OF M i j a hj,l] at b;refine ⟨by rw [s,b],t,?_⟩;have f:=d u;have p:(M.flatMap L1.cells).set (i*7+j) u=(M.set i y).flatMap L1.cells:=by
  have q:M=M.take i++x::M.drop (i+1):=by have k:=tF i M;rw [kE a,l] at k;exact k.symm
  have r:M.set i y=M.take i++y::M.drop (i+1):=by rw [kV,gA a]
  rw [r]
  conv=>lhs;rw [q]
  exact oM OF _ _ x y hj hy (by rw [RB];omega)
 rw [p] at f;exact f
theorem oO {M:List L1} {x:L1} (h:w.ownsRow B 109 7 (.slice (some ⟨g,0,none⟩) n c) n (M.flatMap L1.cells)) (hx:M[i]?=some x):LnAt w g (i*7) x/\∀ j,j<7->w.frozen? ⟨g,i*7+j,none⟩=false:=by have q:=fun j (a:j<7)=>ZK h hx a (y:=x) (u:=x.cells[j]'(by rw [OF];exact a)) (kS _).symm;exact ⟨⟨(q 0 qO).1,(q 1 qO).1,(q 2 qO).1,(q 3 qO).1,(q 4 qO).1,(q 5 qO).1,(q 6 qO).1⟩,fun j a=>(q j a).2.1⟩
def pO (l:List Nat):Int:=match l.getLast? with | none => -1 | some z=>(z:Int)
theorem vE:Tryz.prog.underlying 71=some (.map 3 3):=RR
theorem ZoI {F':Nat->Prop} {Ao:Option Addr} {no co:Nat} {L:List L1} {ids:List Nat} (w:World) (h:RdL w F A n c L) (hn:n<=65536) (node:Int) (ho:WRow w F' 1 Ao no co ((ids.map fun (i:Nat)=>(i:Int)).map (Value.int .i64))) (hd:ids.Nodup) (ht:∀ i∈ids,rJ L node i):
 Calls Tryz.prog 54 #[.slice A n c,.int .i64 node,.slice Ao no co] w fun e w'=>∃ v,e=.returned (.tuple #[v,.int .i64 0])/\w'.ownsRow w.heap.size 109 7 v n ((pC node (-1) ids L).flatMap L1.cells)/\Same w w':=by
 have ao:=RdL.len' h;have ah:Hid (ids.length=no):=qH (by have:=ho.len;simpa using this);have bj:=qH (ZoH w h qO);have HO:=qH ho;have HD:=qH hd;have HT:=qH ht;have P:=qH ao;have d7:no<=n:=by
  have t:ids.length<=(List.range n).length:=oJ hd fun i hi=>by obtain ⟨l,E,_⟩:=ht i hi;have:=(IA.1 E).1;rw [vF];omega
  rw [TI,ah.out] at t;exact t
 clear h ho hd ht ao;have d8:=@YG Tryz.prog;go_enter Tryz.func54,Tryz.ntmps54;go_wp2_with fail;refine bj.mono ?_;rintro e w1 ⟨A2,c2,rfl,cb,bf⟩;have cm:=qH (show ∀ w',Same w1 w'->w'.ownsRow w.heap.size 109 7 (.slice A2 n c2) n (L.flatMap L1.cells) from fun w' hw=>mA cb hw);have cn:=qH bf;have bk:=(iA w1).alloc (.map #[] 0);have cp:=qH (WN w1);have bl:=qH bk;have ai:w.heap.size<=w1.heap.size:=bf.size;clear cb bf bk bj;go_upto_region 4 with fail;generalize w1.alloc (.map #[] 0)=w2 at *;generalize db:w1.heap.size=mb at *;go_wp2_with fail;go_loopg [10,22] no (fun gh d2 d3 wr=>∃ (k:Nat) (C:Int),no-k=gh/\k<=no/\d2=.int .i64 C/\d3=.int .i64 (k:Int)/\Hid (C=pO (ids.take k))/\Hid (wr.ownsRow w.heap.size 109 7 (.slice A2 n c2) n ((pC node (-1) (ids.take k) L).flatMap L1.cells))/\Hid (∃ o f,MpI wr mb o f/\o<=k/\∀ (i:Nat),i ∉ ids.take k->f (i:Int)=none)/\Hid (Same w wr))
 case atStart=>exact ⟨0,-1,rfl,oA _,rfl,rfl,qH rfl,qH (cm.out _ bl),qH ⟨0,_,cp,lA _,fun _ _=>rfl⟩,qH (cn.trans bl qf)⟩
 obtain ⟨k,C,rfl,hk,rfl,rfl,cc,KO,KM,KS⟩:=hrel;by_cases bm:k<no
 · obtain ⟨bo,oo,u,rfl,dc,_,hu,dd⟩:=(HO.same KS).at_ bm;obtain ⟨id,hid⟩:∃ id,ids[k]?=some id:=⟨_,FA (by rw [ah.out];exact bm)⟩
   rw [MA,MA,hid] at hu;have hu:u=.int .i64 (id:Int):=(eB hu).symm;subst hu;have j1:(k:Int)<(no:Int):=qO;have Y:id∈ids:=OC hid;have az:ids.take (k+1)=ids.take k++[id]:=by rw [eD,hid];rfl
   have b0:(ids.take k++[id]).Nodup:=by rw [<- az];exact HD.sublist (List.take_sublist _ _)
   have bn:id ∉ ids.take k:=fun hh=>(zK.1 b0).2.2 id hh id qS rfl;have V:=qH az;have cq:=qH b0;have b1:=qH bn;obtain ⟨M,hM⟩:=qx (pC node (-1) (ids.take k) L);have bp:=qH hM;have b2:lC M node (id:Int)=0:=by rw [<- hM,LY];exact TK.2 (HT.out id Y)
   have bq:M.length=n:=by rw [<- hM,wX];exact P
   rw [hM] at KO;have B:id<n:=by obtain ⟨l,E,_⟩:=HT.out id Y;have:=(IA.1 E).1;have:=P.out;omega
   have Z:=KO.out;obtain ⟨g,_,rfl,de,aa,_⟩:=jJ (i:=id*7) Z qO;have HF:=qH (KY wr (Row.weak (xF Z)) node (id:Int));rw [b2] at HF;have a0:=qH bq;have cr:=qH b2;clear hid Y az b0 bn hM b2 bq Z;go_wp2_with fail;refine HF.mono ?_;rintro e w3 ⟨rfl,ac⟩;obtain ⟨o,f,cd,aw,hf⟩:=KM.out;have R:=cd.same ac;have br:=(R.look vE (aF w3) (i:=(id:Int)) ⟨qO,qO⟩).2;rw [hf id b1.out] at br;obtain ⟨W,df,T,bg⟩:=R.store vE qM (i:=(id:Int)) ⟨qO,qO⟩ (.int .i64 1);rw [hf id b1.out] at T;have ap:=(T.look vE (aF W) (i:=(id:Int)) ⟨qO,qO⟩).2;rw [show mpPI f (id:Int) (.int .i64 1) (id:Int)=some (.int .i64 1) from gA rfl] at ap;simp only [oN,sI] at br ap;have b3:=qH T;have bs:=qH (⟨aw,hf⟩:o<=k/\∀ (i:Nat),i ∉ ids.take k->f (i:Int)=none);have aq:∀ g',(Value.slice (some ⟨g,0,none⟩) n c2).ownBlock=some g'->¬ g'=mb:=fun g' d4 e=>by obtain ⟨cs,N⟩:=LA (mA KO ac) d4;exact R.ne N e.symm
   have a5:=qH (GA (mA KO ac) bg aq);have bt:=qH (((KS.trans ac qf)).trans bg fun b hb e=>qO);clear cd aw hf R T ac bg aq KM KO HF;obtain ⟨x,hx⟩:∃ x,M[id]?=some x:=⟨_,FA (by rw [a0.out];exact B)⟩
   have HX:=qH hx;obtain ⟨m,O⟩:=oO a5.out hx;have ar:x.src=node\/x.dst=node:=by obtain ⟨l,t,_,E⟩:=TK.1 cr.out;rw [hx] at t;cases t;exact E
   obtain ⟨r,al⟩:∃ r:L1,r=if x.src=x.dst then { x with dprev := -1,dnext := -1 } else x:=⟨_,rfl⟩
   have a6:∀ q,RC x node C q=if x.src=node then { r with sprev:=C,snext:=q } else { r with dprev:=C,dnext:=q }:=fun q=>by
    rw [al];unfold RC;by_cases t:x.src=node
    · by_cases E:x.dst=node
      · rw [gA t,gA E,gA t,gA (t.trans E.symm)]
      rw [gA t,aA E,gA t,aA (fun (h:x.src=x.dst)=>E (h.symm.trans t))]
    rw [aA t,aA t,aA (fun (h:x.src=x.dst)=>ar.elim t fun h3=>t (h.trans h3))]
   have a:=qH a6;have a7:r.src=x.src:=by rw [al];split <;> rfl
   have G:=qH a7;have b4:=qH al;obtain ⟨vv,s,d,a1,a2,a3,a4⟩:=x;have r1:W.cell? ⟨g,id*7+1,none⟩=some (.int .i64 s):=m.c1;have r2:W.cell? ⟨g,id*7+2,none⟩=some (.int .i64 d):=m.c2;have r4:W.cell? ⟨g,id*7+4,none⟩=some (.int .i64 a2):=m.c4;have r6:W.cell? ⟨g,id*7+6,none⟩=some (.int .i64 a4):=m.c6;have z4:=O 4 qO;have z6:=O 6 qO;have ct:Hid (∀ w',Same W w'->w'.ownsRow w.heap.size 109 7 (.slice (some ⟨g,0,none⟩) n c2) n (M.flatMap L1.cells)):=qH fun w' hw=>mA a5.out hw;have b5:mb≠g:=by obtain ⟨cs,N⟩:=LA a5.out (g:=g) rfl;exact b3.ne N
   clear m O hx ar al a6 a7;by_cases b6:s=d;subst b6;have hE:Hid (r=⟨vv,s,s,a1,-1,a3,-1⟩):=qH (by rw [b4.out];simp);go_upto_region 14 with fail;go_quiet (fail);go_upto_region 16 with fail;have bu:=mA a5.out ((iA W).drewN nq);have b7:Upd (fun b=>b=g) W (((W.drewN nq).setCell ⟨g,id*7+4,none⟩ (.int .i64 (-1))).setCell ⟨g,id*7+6,none⟩ (.int .i64 (-1))):=((((eA (fun b=>b=g) W).drewN nq).put1 _).put1 _)
   have bv:=(ZK bu HX (j:=4) qO (y:=⟨vv,s,s,a1,-1,a3,a4⟩) (u:=.int .i64 (-1)) rfl).2.2;have H:=(ZK bv (FG (by rw [a0.out];exact B)) (j:=6) qO (y:=⟨vv,s,s,a1,-1,a3,-1⟩) (u:=.int .i64 (-1)) rfl).2.2;rw [YM,<-hE.out] at H;have aj:=qH H;have b8:=qH (b3.upd b7 b5);have b9:=qH (bt.trans b7 fun b hb e=>qO);clear bu bv H b7 hE r1 r2 r4 r6 z4 z6;generalize ((W.drewN nq).setCell ⟨g,id*7+4,none⟩ (.int .i64 (-1))).setCell ⟨g,id*7+6,none⟩ (.int .i64 (-1))=w7 at *;obtain ⟨d,hd⟩:∃ d,d=s:=⟨s,rfl⟩
   have a:Hid (∀ q,RC ⟨vv,s,d,a1,a2,a3,a4⟩ node C q=if s=node then { r with sprev:=C,snext:=q } else { r with dprev:=C,dnext:=q }):=qH (hd ▸ a.out);have HX:Hid (M[id]?=some ⟨vv,s,d,a1,a2,a3,a4⟩):=qH (hd ▸ HX.out);clear hd;rotate_left;have hE:Hid (r=⟨vv,s,d,a1,a2,a3,a4⟩):=qH (by rw [b4.out,aA b6]);go_upto_region 14 with fail;go_quiet (fail);go_upto_region 16 with fail;have ak:=(iA W).drewN nq;have H:=mA a5.out ak;have bw:M.set id r=M:=by rw [hE.out];obtain ⟨t,E⟩:=IA.1 HX.out;rw [<- E,kS]
   rw [<- bw] at H;have aj:=qH H;have b8:=qH (b3.same ak);have b9:=qH (bt.trans ak qf);clear H ak hE r1 r2 r4 r6 z4 z6 bw b6;generalize W.drewN nq=w7 at *
   all_goals
    have a8:=aj.out;have ba:(M.set id r)[id]?=some r:=FG (by rw [a0.out];exact B);obtain ⟨m,O⟩:=oO a8 ba;have I:=qH (eU w7 (b:=g) (p:=id*7) (s:=r.src) m.c1 node);obtain ⟨po,D,ce,ax,bh,bi,d5,am⟩:∃ po D,(if r.src=node then 3 else 4)=po/\(if r.src=node then 5 else 6)=D/\po<7/\D<7/\po≠D/\∃ y:L1,y.cells=r.cells.set po (.int .i64 C)/\∀ q:Int,(RC ⟨vv,s,d,a1,a2,a3,a4⟩ node C q).cells=y.cells.set D (.int .i64 q):=by
     by_cases N:r.src=node
     · have h6:s=node:=G.symm.trans N;refine ⟨3,5,gA N,gA N,qO,qO,qO,{ r with sprev:=C },rfl,fun q=>?_⟩;rw [a.out,gA h6];rfl
     have h6:¬ s=node:=fun h=>N (G.trans h);refine ⟨4,6,aA N,aA N,qO,qO,qO,{ r with dprev:=C },rfl,fun q=>?_⟩;rw [a.out,aA h6];rfl
    rw [ce,ax] at I;clear ce ax a m O a8;go_wp2_with fail;refine I.mono ?_;rintro e w8 ⟨rfl,an⟩;obtain ⟨y,hy,am⟩:=am;have a8:=mA aj.out an;obtain ⟨q1,z1,cf⟩:=ZK a8 ba bh hy;have bx:((M.set id r).set id y)[id]?=some y:=FG (by rw [VF,a0.out];exact B);obtain ⟨q2,z2,ad⟩:=ZK cf bx bi (am (-1));rw [YM,YM] at ad;obtain ⟨v1,cg⟩:∃ v1,r.cells[po]?=some v1:=⟨_,FA (by rw [OF];exact bh)⟩
    rw [cg] at q1;obtain ⟨v2,ch⟩:∃ v2,y.cells[D]?=some v2:=⟨_,FA (by rw [OF];exact bi)⟩
    rw [ch] at q2;have S:=qH ad;have bz:=b8.same an;have a9:Upd (fun b=>b=g) w8 ((w8.setCell ⟨g,id*7+po,none⟩ (.int .i64 C)).setCell ⟨g,id*7+D,none⟩ (.int .i64 (-1))):=(((eA (fun b=>b=g) w8).put1 _).put1 _)
    have au:=qH (bz.upd a9 b5);have av:=qH ((b9.trans an qf).trans a9 fun b hb e=>qO);clear a8 cf ad ba bx an bz a9 I am hy cg ch;go_upto_region 18 with fail;generalize (w8.setCell ⟨g,id*7+po,none⟩ (.int .i64 C)).setCell ⟨g,id*7+D,none⟩ (.int .i64 (-1))=d1 at *;clear q1 z1 q2 z2 bh bi d5 b4 G aj b8 b9 ct;have aa:getL M id=⟨vv,s,d,a1,a2,a3,a4⟩:=SK HX.out;have d9:IntKind.i64.wrap ((k:Int)+1)=((k+1:Nat):Int):=by rw [rF];omega
    have cu:Hid (∀ (i:Nat),i ∉ ids.take (k+1)->mpPI f (id:Int) (.int .i64 1) (i:Int)=none):=qH fun i hi=>by rw [V.out,YB,not_or] at hi;unfold mpPI;rw [aA (fun e=>hi.2 qP)];exact bs.2 i hi.1
    have c0:Hid (∀ w',MpI w' mb (if (none:Option Value).isSome=true then o else o+1) (mpPI f (id:Int) (.int .i64 1))->∃ o f,MpI w' mb o f/\o<=k+1/\∀ (i:Nat),i ∉ ids.take (k+1)->f (i:Int)=none):=qH fun w' hm=>⟨o+1,_,hm,qt bs.1,cu⟩
    cases hpre:ids.take k with
    | nil =>
      have bb:C = -1:=by rw [cc.out,hpre];rfl
      subst bb;have bc:Hid (pC node (-1) (ids.take (k+1)) L=M.set id (RC ⟨vv,s,d,a1,a2,a3,a4⟩ node (-1) (-1))):=qH (by have c3:=bp.out;rw [hpre] at c3;rw [V.out,hpre,SB,lM (by rw [P.out];exact B),show L=M from c3,aa];rfl)
      have bd:Hid ((id:Int)=pO (ids.take (k+1))):=qH (by rw [V.out,hpre];rfl);clear aa hpre;go_wp2;go_roundg (no-(k+1))
      case measure=>omega
      case rel=>exact ⟨k+1,(id:Int),rfl,qO,rfl,qN,bd,qH (by rw [bc.out];exact S),qH (c0.out _ au),av⟩
    | cons y0 d0 =>
      obtain ⟨z,hz⟩:=qx ((y0::d0).getLast qS);have bb:C=(z:Int):=by rw [cc.out,hpre];unfold pO;rw [List.getLast?_eq_some_getLast qS,hz]
      have ai:z∈ids.take k:=by rw [hpre,<-hz];exact List.getLast_mem _
      have da:z<n:=by obtain ⟨l,E,_⟩:=HT.out z (MM ai);have:=(IA.1 E).1;have:=P.out;omega
      have cv:z≠id:=fun e=>b1.out (e ▸ ai);subst bb;have bc:Hid (pC node (-1) (ids.take (k+1)) L=fixT node z id M):=qH (by
       rw [V.out,hpre,xX d0 y0 (-1) L (by rw [<- hpre];exact cq) (fun i hi=>by rw [<- hpre,<-V.out] at hi;obtain ⟨l,E,_⟩:=HT.out i (MM hi);exact (IA.1 E).1),hz,<-hpre,bp.out])
      have bd:Hid ((id:Int)=pO (ids.take (k+1))):=qH (by rw [V.out];unfold pO;rw [List.getLast?_append];rfl);obtain ⟨M1,ae⟩:=qx (M.set id (RC ⟨vv,s,d,a1,a2,a3,a4⟩ node (z:Int) (-1)));have c5:fixT node z id M=M1.set z (qJ (getL M1 z) node id):=by unfold fixT;rw [aa,ae,<-ae,yT cv.symm]
      have cw:M1.length=n:=by rw [<- ae,VF,a0.out]
      rw [ae] at S;have c7:=qH c5;obtain ⟨y1,af⟩:∃ y1,M1[z]?=some y1:=⟨_,FA qO⟩
      rw [SK af] at c7;have cx:getL M1 z=y1:=SK af;obtain ⟨m,O⟩:=oO S.out af;have I:=qH (eU d1 (b:=g) (p:=z*7) (s:=y1.src) m.c1 node);obtain ⟨X,ay,ci,cj⟩:∃ X,(if y1.src=node then 5 else 6)=X/\X<7/\(qJ y1 node id).cells=y1.cells.set X (.int .i64 (id:Int)):=by
       by_cases N:y1.src=node
       · refine ⟨5,gA N,qO,?_⟩;unfold qJ;rw [gA N];rfl
       refine ⟨6,aA N,qO,?_⟩;unfold qJ;rw [aA N];rfl
      obtain ⟨pz,ck⟩:=qx ((if y1.src=node then 3 else 4));rw [ay,ck] at I;clear ck;have j2:(z:Int)<(n:Int):=qO;have cy:=qH af;clear aa hpre hz ai c5 ae m O ay cx af;go_wp2_with fail;refine I.mono ?_;rintro e d6 ⟨rfl,U⟩;obtain ⟨q5,z5,ag⟩:=ZK (mA S U) cy.out ci cj;obtain ⟨v5,cl⟩:∃ v5,y1.cells[X]?=some v5:=⟨_,FA (by rw [OF];exact ci)⟩
      rw [cl] at q5;rw [<- c7.out] at ag;have c8:=qH ag;have ab:=(eA (fun b=>b=g) d6).put1 (i:=z*7+X) (.int .i64 (id:Int));have c9:=qH ((au.same U).upd ab b5);have ca:=qH ((av.trans U qf).trans ab fun b hb e=>qO);clear ag ab U cj cl I;go_wp2;go_roundg (no-(k+1))
      case measure=>omega
      case rel=>exact ⟨k+1,(id:Int),rfl,qO,rfl,qN,bd,qH (by rw [bc.out];exact c8),qH (c0.out _ c9),ca⟩
 have cz:k=no:=qO;subst cz;have h9:=KO.out;rw [cB (by first | rw [ah.out];exact lA _ | rw [ah];exact lA _)] at h9;have H9:=qH h9;clear h9 KO;go_wp2
 go_ret2
 exact ⟨_,rfl,H9,KS⟩
end Go.Proofs.YtmkjfhnlnhceiaaGreatDoor
