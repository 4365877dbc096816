/- Texts that the claim leans on: walks and plain laws, function by function. -/
import Derived.IntWalk
import Derived.BigRegion
import Derived.Test.YtkopcinhbjimiaaGreatDoorS16
import Derived.Test.YtkopcinhbjimiaaGreatDoorS19
set_option maxRecDepth 100000
set_option maxHeartbeats 16000000
namespace Go.Proofs.YtkopcinhbjimiaaGreatDoor
open Go.RowKit
abbrev OwnN (w:World) (B g n c:Nat) (l:List ND):Prop:=w.ownsRow B 43 3 (.slice (some ⟨g,0,none⟩) n c) n (l.flatMap ND.cells)
abbrev AtN (w:World) (g i:Nat) (x:ND):Prop:=w.cell? ⟨g,i*3,none⟩=some (.int .i64 x.id)/\w.cell? ⟨g,i*3+1,none⟩=some (.slice x.AL x.nL x.cL)/\w.cell? ⟨g,i*3+2,none⟩=some (.slice x.AP x.nP x.cP)
abbrev FrN (w:World) (g i:Nat):Prop:=w.frozen? ⟨g,i*3,none⟩=false/\w.frozen? ⟨g,i*3+1,none⟩=false/\w.frozen? ⟨g,i*3+2,none⟩=false
abbrev putN (w:World) (g i:Nat) (x:ND):World:=(((w.setCell ⟨g,i*3,none⟩ (.int .i64 x.id)).setCell ⟨g,i*3+1,none⟩ (.slice x.AL x.nL x.cL)).setCell ⟨g,i*3+2,none⟩ (.slice x.AP x.nP x.cP))
theorem OwnN.at_ {w:World} {B g n c i:Nat} {l:List ND} {x:ND} (h:OwnN w B g n c l) (hx:l[i]?=some x):i<n/\g<w.heap.size/\AtN w g i x/\FrN w g i:=by
 obtain ⟨h1,h2,h3,h4⟩:=Zik h ND.three (by omega) hx
 exact ⟨h1,h2,⟨h3 0 _ rfl,h3 1 _ rfl,h3 2 _ rfl⟩,h4 _,h4 _,h4 _⟩
theorem OwnN.len {w:World} {B g n c:Nat} {l:List ND} (h:OwnN w B g n c l):l.length=n:=Zca h ND.three (by omega)
theorem OwnN.put2 {w:World} {B g n c i j:Nat} {l l':List ND} (h:OwnN w B g n c l) (hi:i<n) (hj:j<n) (x y:ND) (he:(l.set i x).set j y=l') :
 OwnN (putN (putN w g i x) g j y).drew B g n c l'/\Upd (fun b=>b=g) w (putN (putN w g i x) g j y).drew:=Zim h ND.three (by omega) hi hj x y he
theorem swrN {B n c g a b r:Nat} {p u m v q:List ND} (w:World) (h:OwnN w B g n c (p++(u++(m++(v++q))))) (hn:n<=35184372088832) (ha:p.length=a) (hb:a+r+m.length=b) (hu:u.length=r) (hv:v.length=r) (fv:Value) :
 Calls Tryz.prog 195 #[.slice (some ⟨g,0,none⟩) n c,.int .i64 a,.int .i64 b,.int .i64 r,fv] w fun e w'=>e=.returned (.tuple #[])/\OwnN w' B g n c (p++(v++(m++(u++q))))/\Upd (fun b=>b=g) w w':=by
 have hl0:=h.len
 have hlen:a+r+m.length+r+q.length=n:=by rw [<- hl0];simp;omega
 have hbn:b+r<=n:=by omega
 have HH:=qH h
 have HA:=qH (And.intro ha (And.intro hb (And.intro hu hv)))
 clear h ha hb hu hv hl0 hlen
 go_enter Tryz.func195,Tryz.ntmps195
 go_wp2_with fail
 go_loopg [10] r (fun gh s wr=>∃ (i:Nat) (u1 u2 v1 v2:List ND),r-i=gh/\i<=r/\s=.int .i64 i/\Hid (u=u1++u2/\v=v1++v2/\u1.length=i/\v1.length=i)/\Hid (OwnN wr B g n c (p++(v1++(u2++(m++(u1++(v2++q)))))))/\Hid (Upd (fun b=>b=g) w wr))
 case atStart=>exact ⟨0,[],u,[],v,rfl,Nat.zero_le _,rfl,qH ⟨rfl,rfl,rfl,rfl⟩,HH,qH (Upd.refl _ _)⟩
 obtain ⟨i,u1,u2,v1,v2,rfl,hi,rfl,KL,KO,KU⟩:=hrel
 by_cases hlt:i<r
 · obtain ⟨x,u3,hx⟩:∃ x u3,u2=x::u3:=by
    cases u2 with
    | nil=>have h1:=KL.out;have h2:=HA.2.2.1;rw [h1.1] at h2;simp at h2;omega
    | cons x u3=>exact ⟨x,u3,rfl⟩
   obtain ⟨y,v3,hy⟩:∃ y v3,v2=y::v3:=by
    cases v2 with
    | nil=>have h1:=KL.out;have h2:=HA.2.2.2;rw [h1.2.1] at h2;simp at h2;omega
    | cons x u3=>exact ⟨x,u3,rfl⟩
   subst hx hy
   obtain ⟨ai,hai⟩:∃ ai,ai=a+i:=⟨_,rfl⟩
   obtain ⟨bi,hbi⟩:∃ bi,bi=b+i:=⟨_,rfl⟩
   have hpl:(p++v1).length=ai:=by have h1:=KL.out;have h2:=HA.out;rw [List.length_append];omega
   have hml:ai+1+(u3++(m++u1)).length=bi:=by
    have h1:=KL.out
    have h2:=HA.out
    have h3:=h2.2.2.1
    rw [h1.1,List.length_append,List.length_cons] at h3
    simp only [List.length_append]
    omega
   have hO:OwnN wr B g n c ((p++v1)++x::((u3++(m++u1))++y::(v3++q))):=by
    have h1:=KO.out
    simpa only [List.append_assoc,List.cons_append] using h1
   obtain ⟨han,hg,hAx,hFx⟩:=hO.at_ (ZcF _ _ _ hpl)
   obtain ⟨hbn',_,hAy,hFy⟩:=hO.at_ (Zdp _ _ _ _ _ hpl hml)
   have hw1:IntKind.i64.wrap ((a:Int)+(i:Int))=(ai:Int):=by rw [IntWalk.i64_in _ ⟨by omega,by omega⟩];omega
   have hw2:IntKind.i64.wrap ((b:Int)+(i:Int))=(bi:Int):=by rw [IntWalk.i64_in _ ⟨by omega,by omega⟩];omega
   have hs1:(a:Int)+(i:Int)=(ai:Int):=by omega
   have hs2:(b:Int)+(i:Int)=(bi:Int):=by omega
   have hp1:(0:Int)<=(ai:Int):=by omega
   have hp2:(0:Int)<=(bi:Int):=by omega
   have hp3:(ai:Int)<(n:Int):=by omega
   have hp4:(bi:Int)<(n:Int):=by omega
   have hab:ai<bi:=by omega
   have hn1:¬ bi*3=ai*3+1:=by omega
   have hm1:¬ bi*3+1=ai*3:=by omega
   have hr1:¬ ai*3=bi*3+1:=by omega
   have ht1:¬ ai*3+1=bi*3:=by omega
   have hn2:¬ bi*3=ai*3+2:=by omega
   have hm2:¬ bi*3+2=ai*3:=by omega
   have hr2:¬ ai*3=bi*3+2:=by omega
   have ht2:¬ ai*3+2=bi*3:=by omega
   have hqp:¬ bi=ai:=by omega
   have hpq:¬ ai=bi:=by omega
   have HO:=qH hO
   have HPL:=qH (And.intro hpl hml)
   have HAI:=qH (And.intro hai hbi)
   clear hO hpl hml hai hbi hab
   go_upto_region 3 with fail
   obtain ⟨c0,c1,c2⟩:=hAx
   obtain ⟨d0,d1,d2⟩:=hAy
   obtain ⟨f0,f1,f2⟩:=hFx
   obtain ⟨e0,e1,e2⟩:=hFy
   go_big_region
   all_goals
    clear c0 c1 c2 d0 d1 d2 f0 f1 f2 e0 e1 e2
    go_wp2
    go_roundg (r-(i+1))
    case measure=>omega
    have h1:=KL.out
    obtain ⟨s1,s2⟩:=HO.out.put2 han hbn' y x (Zem _ _ _ _ _ HPL.1 HPL.2)
    refine ⟨i+1,u1++[x],u3,v1++[y],v3,rfl,by omega,by go_num,qH ⟨by rw [h1.1];simp,by rw [h1.2.1];simp,by simp;omega,by simp;omega⟩,qH ?_,qH (KU.out.trans s2 fun _ _ h=>h)⟩
    simpa only [List.append_assoc,List.cons_append,List.nil_append] using s1
 obtain rfl:i=r:=by omega
 have h1:=KL.out
 have h2:=HA.out
 have e1:u2=[]:=List.eq_nil_of_length_eq_zero (by have h3:=h2.2.2.1;rw [h1.1,List.length_append] at h3;omega)
 have e2:v2=[]:=List.eq_nil_of_length_eq_zero (by have h3:=h2.2.2.2;rw [h1.2.1,List.length_append] at h3;omega)
 have HF:Hid (OwnN wr B g n c (p++(v++(m++(u++q))))):=qH (by
  have h3:=KO.out
  rw [e1,e2,List.nil_append,List.nil_append] at h3
  rw [h1.1,h1.2.1,e1,e2,List.append_nil,List.append_nil]
  exact h3)
 clear h1 h2 e1 e2
 go_wp2
 go_end0
 exact ⟨rfl,HF.out,KU.out⟩
theorem rotN {B n c g a b d:Nat} {p u v q:List ND} (w:World) (h:OwnN w B g n c (p++(u++(v++q)))) (hn:n<=35184372088832) (ha:p.length=a) (hd:a+u.length=d) (hb:d+v.length=b) (hu:0<u.length) (hv:0<v.length) (fv:Value) :
 Calls Tryz.prog 182 #[.slice (some ⟨g,0,none⟩) n c,.int .i64 a,.int .i64 d,.int .i64 b,fv] w fun e w'=>e=.returned (.tuple #[])/\OwnN w' B g n c (p++(v++(u++q)))/\Upd (fun b=>b=g) w w':=by
 have hl0:=h.len
 have hbn:b<=n:=by rw [<- hl0];simp;omega
 obtain ⟨i0,hi0⟩:∃ i0,u.length=i0:=⟨_,rfl⟩
 obtain ⟨j0,hj0⟩:∃ j0,v.length=j0:=⟨_,rfl⟩
 have hw1:IntKind.i64.wrap ((d:Int)-(a:Int))=(i0:Int):=by rw [IntWalk.i64_in _ ⟨by omega,by omega⟩];omega
 have hw2:IntKind.i64.wrap ((b:Int)-(d:Int))=(j0:Int):=by rw [IntWalk.i64_in _ ⟨by omega,by omega⟩];omega
 have hs1:(d:Int)-(a:Int)=(i0:Int):=by omega
 have hs2:(b:Int)-(d:Int)=(j0:Int):=by omega
 have HH:=qH h
 have HI:=qH (And.intro hi0 hj0)
 rw [hi0] at hd hu
 rw [hj0] at hb hv
 have hdb:d<=b:=by omega
 have HD:=qH (And.intro ha (And.intro hd hb))
 clear h hl0 hi0 hj0 ha hd hb
 go_enter Tryz.func182,Tryz.ntmps182
 go_wp2_with fail
 clear hw1 hw2 hs1 hs2
 go_loopg [10,11] (i0+j0) (fun gh si sj wr=>∃ (i j:Nat) (A u1 v1 Q:List ND),i+j=gh/\0<i/\0<j/\i<=d/\d+j<=b/\si=.int .i64 i/\sj=.int .i64 j/\Hid (u1.length=i/\v1.length=j/\A.length+i=d/\A++(v1++(u1++Q))=p++(v++(u++q)))/\Hid (OwnN wr B g n c (A++(u1++(v1++Q))))/\Hid (Upd (fun b=>b=g) w wr))
 case atStart=>exact ⟨i0,j0,p,u,v,q,rfl,hu,hv,by have:=HD.out;omega,by have:=HD.out;omega,rfl,rfl,qH ⟨HI.1,HI.2,by have:=HD.out;omega,rfl⟩,HH,qH (Upd.refl _ _)⟩
 obtain ⟨i,j,A,u1,v1,Q,rfl,hi,hj,hid,hjb,rfl,rfl,KL,KO,KU⟩:=hrel
 obtain ⟨am,ham⟩:∃ am,am=d-i:=⟨_,rfl⟩
 have hw1:IntKind.i64.wrap ((d:Int)-(i:Int))=(am:Int):=by rw [IntWalk.i64_in _ ⟨by omega,by omega⟩];omega
 have hs1:(d:Int)-(i:Int)=(am:Int):=by omega
 have HAM:=qH ham
 clear ham
 by_cases hne:i=j
 · subst hne
   go_wp2_with fail
   refine (swrN (p:=A) (u:=u1) (m:=[]) (v:=v1) (q:=Q) wr (by have h1:=KO.out;simpa only [List.nil_append] using h1) hn (by have:=KL.out;have:=HAM.out;omega) (by have:=KL.out;have:=HAM.out;simp;omega) KL.1 KL.2.1 fv).mono ?_
   rintro e w2 ⟨rfl,h1,h2⟩
   have HF:Hid (OwnN w2 B g n c (p++(v++(u++q)))):=qH (by
    rw [List.nil_append,KL.2.2.2] at h1
    exact h1)
   have HU:=qH (KU.out.trans h2 fun _ _ h=>h)
   clear h1 h2
   go_wp2
   go_end0
   exact ⟨rfl,HF.out,HU.out⟩
 have hne1:((i:Int) != (j:Int))=true:=by simp;omega
 have hne2:(i != j)=true:=by simpa using hne
 have hne3:((i:Int)==(j:Int))=false:=by simp;omega
 have hne4:(i==j)=false:=by simpa using hne
 by_cases hgt:j<i
 · obtain ⟨r,hr⟩:∃ r,r=i-j:=⟨_,rfl⟩
   have hw3:IntKind.i64.wrap ((i:Int)-(j:Int))=(r:Int):=by rw [IntWalk.i64_in _ ⟨by omega,by omega⟩];omega
   have hs3:(i:Int)-(j:Int)=(r:Int):=by omega
   have hr0:0<r:=by omega
   have HR:=qH hr
   clear hr
   go_wp2_with fail
   refine (swrN (p:=A) (u:=u1.take j) (m:=u1.drop j) (v:=v1) (q:=Q) wr (by have h1:=KO.out;rwa [<- List.append_assoc (u1.take j),List.take_append_drop]) hn (by have:=KL.out;have:=HAM.out;omega) (by have:=KL.out;have:=HAM.out;rw [List.length_drop];omega) (by have:=KL.out;rw [List.length_take];omega) KL.2.1 fv).mono ?_
   rintro e w2 ⟨rfl,h1,h2⟩
   have HO:=qH h1
   have HU:=qH (KU.out.trans h2 fun _ _ h=>h)
   clear h1 h2
   go_wp2
   go_roundg (r+j)
   case measure=>have:=HR.out;omega
   obtain ⟨k1,k2,k3,k4⟩:=KL.out
   have k5:=HR.out
   refine ⟨r,j,A++v1,u1.drop j,u1.take j,Q,rfl,hr0,hj,by omega,hjb,rfl,rfl,qH ⟨by rw [List.length_drop];omega,by rw [List.length_take];omega,by rw [List.length_append];omega,?_⟩,qH ?_,HU⟩
   · rw [List.append_assoc,<-List.append_assoc (u1.take j),List.take_append_drop]
     exact k4
   have:=HO.out
   simpa only [List.append_assoc] using this
 have hlt:i<j:=by omega
 obtain ⟨r,hr⟩:∃ r,r=j-i:=⟨_,rfl⟩
 obtain ⟨dj,hdj⟩:∃ dj,dj=d+j:=⟨_,rfl⟩
 obtain ⟨bm,hbm⟩:∃ bm,bm=d+j-i:=⟨_,rfl⟩
 have hw3:IntKind.i64.wrap ((j:Int)-(i:Int))=(r:Int):=by rw [IntWalk.i64_in _ ⟨by omega,by omega⟩];omega
 have hs3:(j:Int)-(i:Int)=(r:Int):=by omega
 have hw4:IntKind.i64.wrap ((d:Int)+(j:Int))=(dj:Int):=by rw [IntWalk.i64_in _ ⟨by omega,by omega⟩];omega
 have hs4:(d:Int)+(j:Int)=(dj:Int):=by omega
 have hw5:IntKind.i64.wrap ((dj:Int)-(i:Int))=(bm:Int):=by rw [IntWalk.i64_in _ ⟨by omega,by omega⟩];omega
 have hs5:(dj:Int)-(i:Int)=(bm:Int):=by omega
 have hr0:0<r:=by omega
 have HR:=qH hr
 have HBM:=qH hbm
 clear hr hdj hbm
 go_wp2_with fail
 refine (swrN (p:=A) (u:=u1) (m:=v1.take r) (v:=v1.drop r) (q:=Q) wr (by have h1:=KO.out;rwa [<- List.append_assoc (v1.take r),List.take_append_drop]) hn (by have:=KL.out;have:=HAM.out;omega) (by have:=KL.out;have:=HAM.out;have:=HR.out;have:=HBM.out;rw [List.length_take];omega) KL.1 (by have:=KL.out;have:=HR.out;rw [List.length_drop];omega) fv).mono ?_
 rintro e w2 ⟨rfl,h1,h2⟩
 have HO:=qH h1
 have HU:=qH (KU.out.trans h2 fun _ _ h=>h)
 clear h1 h2
 go_wp2
 go_roundg (i+r)
 case measure=>have:=HR.out;omega
 obtain ⟨k1,k2,k3,k4⟩:=KL.out
 have k5:=HR.out
 refine ⟨i,r,A,v1.drop r,v1.take r,u1++Q,rfl,hi,hr0,hid,by omega,rfl,rfl,qH ⟨by rw [List.length_drop];omega,by rw [List.length_take];omega,k3,?_⟩,HO,HU⟩
 rw [<- List.append_assoc (v1.take r),List.take_append_drop]
 exact k4
theorem Zcc {w wx:World} {g i j:Nat} {x y:ND} (h:Hid (AtN w g i x)) (h':Hid (AtN w g j y)) (hg:g<w.heap.size) (hs:Same w wx):Same w wx/\AtN wx g i x/\AtN wx g j y:=by
 have hk:∀ o,wx.cell? ⟨g,o,none⟩=w.cell? ⟨g,o,none⟩:=fun o=>hs.cell (p:=⟨g,o,none⟩) hg fun f=>f
 obtain ⟨c0,c1,c2⟩:=h.out
 obtain ⟨d0,d1,d2⟩:=h'.out
 exact ⟨hs,⟨(hk _).trans c0,(hk _).trans c1,(hk _).trans c2⟩,(hk _).trans d0,(hk _).trans d1,(hk _).trans d2⟩
theorem ZlG {w wx:World} {g i:Nat} (h:Hid (FrN w g i)) (hg:g<w.heap.size) (hs:Same w wx):FrN wx g i:=by
 have hk:∀ o,wx.frozen? ⟨g,o,none⟩=w.frozen? ⟨g,o,none⟩:=fun o=>hs.frozen (p:=⟨g,o,none⟩) hg fun f=>f
 obtain ⟨c0,c1,c2⟩:=h.out
 exact ⟨(hk _).trans c0,(hk _).trans c1,(hk _).trans c2⟩
theorem OwnN.same {w w':World} {B g n c:Nat} {l:List ND} (h:OwnN w B g n c l) (hs:Same w w'):OwnN w' B g n c l:=Zaa h hs
def ZcT (B g n c:Nat) (p s q:List ND) (w w':World):Prop :=
 ∃ s':List ND,OwnN w' B g n c (p++(s'++q))/\Zaj (fun a b:Int=>a<b) ND.id s'/\Zah ND.id s' s/\Upd (fun b=>b=g) w w'
theorem insN {B n c g a b:Nat} {p s q:List ND} (w:World) (h:OwnN w B g n c (p++(s++q))) (hn:n<=35184372088832) (ha:p.length=a) (hb:a+s.length=b) :
 Calls Tryz.prog 151 #[.slice (some ⟨g,0,none⟩) n c,.int .i64 a,.int .i64 b,.func (.func 69) #[] #[]] w fun e w'=>e=.returned (.tuple #[])/\ZcT B g n c p s q w w':=by
 have hl0:=h.len
 have hbn:b<=n:=by rw [<- hl0];simp;omega
 have hab:a<=b:=by omega
 have HO:=qH h
 have HP:=qH (And.intro ha hb)
 clear h hl0 ha hb
 go_enter Tryz.func151,Tryz.ntmps151
 go_wp2_with fail
 go_loopg [8] (b-a) (fun gh s8 wr=>∃ (i:Nat) (S1:List ND),a+1<=i/\b+1-i=gh/\(i=a+1\/i<=b)/\s8=.int .i64 i/\Hid (OwnN wr B g n c (p++(S1++(s.drop (i-a)++q))))/\Hid (Zaj (fun a b:Int=>a<b) ND.id S1)/\Hid (Zah ND.id S1 (s.take (i-a)))/\Hid (Upd (fun b=>b=g) w wr))
 case atStart =>
  refine ⟨a+1,s.take 1,Nat.le_refl _,by omega,.inl rfl,rfl,qH ?_,qH ?_,qH ?_,qH (Upd.refl _ _)⟩
  · rw [Nat.add_sub_cancel_left,<-List.append_assoc (s.take 1),List.take_append_drop]
    exact HO.out
  · cases s with
    | nil=>exact Zaj.nil
    | cons x l=>exact Zaj.one x
  rw [Nat.add_sub_cancel_left]
  exact Zah.refl _
 obtain ⟨i,S1,hi1,rfl,hi2,rfl,KO,KS,KM,KU⟩:=hrel
 by_cases hlt:i<b
 · obtain ⟨wo,rfl⟩:∃ wo:World,wo=wr:=⟨_,rfl⟩
   obtain ⟨x,hx⟩:∃ x,s[i-a]?=some x:=⟨_,List.getElem?_eq_getElem (by have:=HP.2;omega)⟩
   have hdx:s.drop (i-a)=x::s.drop (i+1-a):=by
    obtain ⟨h1,h2⟩:=List.getElem?_eq_some_iff.1 hx
    rw [List.drop_eq_getElem_cons h1,h2]
    congr 2
    omega
   have htx:s.take (i+1-a)=s.take (i-a)++[x]:=by
    rw [show i+1-a=i-a+1 from by omega,List.take_add_one,hx]
    rfl
   have HDX:=qH (And.intro hdx htx)
   have hS1:S1.length=i-a:=by
    have h1:=KM.out.length
    have h2:=HP.2
    rw [List.length_take] at h1
    omega
   have HS1:=qH hS1
   clear hx hdx htx hS1
   go_wp2_with fail
   go_loopg [9] i (fun gh s9 wx=>∃ (j:Nat) (P1 P2:List ND),a<=j/\j<=i/\j=gh/\s9=.int .i64 j/\Hid (a+P1.length=j/\P1.length+P2.length=i-a)/\Hid (OwnN wx B g n c ((p++P1)++x::(P2++(s.drop (i+1-a)++q))))/\Hid (Zaj (fun a b:Int=>a<b) ND.id (P1++P2))/\Hid (∀ y∈P2,(fun a b:Int=>a<b) (ND.id x) (ND.id y))/\Hid (Zah ND.id (P1++P2) (s.take (i-a)))/\Hid (Upd (fun b=>b=g) w wx))
   case atStart =>
    refine ⟨i,S1,[],by omega,Nat.le_refl _,rfl,rfl,qH ⟨by have:=HS1.out;omega,by have:=HS1.out;simp;omega⟩,qH ?_,qH (by rw [List.append_nil];exact KS.out),qH (by simp),qH (by rw [List.append_nil];exact KM.out),KU⟩
    have h1:=KO.out
    rw [HDX.1] at h1
    simpa only [List.append_assoc,List.nil_append,List.cons_append] using h1
   obtain ⟨j,P1,P2,hja,hji,rfl,rfl,JL,JO,JS,JG,JM,JU⟩:=hrel
   have hdone:(∀ y∈P1,Nlt (fun a b:Int=>a<b) (ND.id x) (ND.id y))->Zaj (fun a b:Int=>a<b) ND.id (P1++x::P2)/\Zah ND.id (P1++x::P2) (s.take (i+1-a)):=fun hh=>by
    rw [HDX.2]
    exact ZnC ZaC JS.out JM.out hh JG.out
   have HDN:=qH hdone
   clear hdone
   by_cases hj0:j=a
   · subst hj0
     have hd0:decide (j<j)=false:=decide_eq_false (by omega)
     go_upto_region 4 with fail
     go_quiet (fail)
     go_wp2
     go_roundg (b+1-(i+1))
     case measure=>omega
     have hP:P1=[]:=List.eq_nil_of_length_eq_zero (by have:=JL.out;omega)
     obtain ⟨d1,d2⟩:=HDN.out (by rw [hP];simp)
     refine ⟨i+1,P1++x::P2,by omega,rfl,.inr (by omega),by go_num,qH ?_,qH d1,qH d2,qH (JU.out.drewN _)⟩
     have h1:=fun m=>JO.out.same ((Upd.refl (fun _=>False) _).drewN m)
     simpa only [List.append_assoc,List.cons_append] using h1 _
   obtain ⟨r,hr⟩:∃ r,r+1=j:=⟨j-1,by omega⟩
   obtain ⟨P,y,rfl⟩:∃ P y,P1=P++[y]:=by
    have h1:=JL.1
    exact ⟨P1.dropLast,P1.getLast (by rintro rfl;simp at h1;omega),(List.dropLast_concat_getLast _).symm⟩
   have hO:OwnN wr B g n c ((p++P)++y::([]++x::(P2++(s.drop (i+1-a)++q)))):=by
    have h1:=JO.out
    simpa only [List.append_assoc,List.cons_append,List.nil_append] using h1
   have hpl:(p++P).length=r:=by have h1:=JL.1;have h2:=HP.1;simp at h1 ⊢;omega
   have hml:r+1+([]:List ND).length=j:=by simpa using hr
   obtain ⟨hrn,hg,hAy,hFy⟩:=hO.at_ (ZcF _ _ _ hpl)
   obtain ⟨hjn,_,hAx,hFx⟩:=hO.at_ (Zdp _ _ _ _ _ hpl hml)
   have hw0:IntKind.i64.wrap ((j:Int)-1)=(r:Int):=by rw [IntWalk.i64_in _ ⟨by omega,by omega⟩];omega
   have hj1:(0:Int)<=(j:Int):=by omega
   have hj2:(j:Int)<(n:Int):=by omega
   have hj3:(0:Int)<=(r:Int):=by omega
   have hj4:(r:Int)<(n:Int):=by omega
   have hj5:decide (a<j)=true:=decide_eq_true (by omega)
   have HO:=qH hO
   have HPL:=qH (And.intro hpl hml)
   have HAx:=qH hAx
   have HAy:=qH hAy
   have HFx:=qH hFx
   have HFy:=qH hFy
   have HR:=qH hr
   clear hAx hAy hFx hFy hO hpl hml hr
   obtain ⟨cc,hcc⟩:∃ cc,cmpI (ND.id x) (ND.id y)=cc:=⟨_,rfl⟩
   have HC:=qH hcc
   by_cases hxy:(fun a b:Int=>a<b) (ND.id x) (ND.id y)
   · have HXY:=qH hxy
     have hcd:decide (cc<0)=true:=decide_eq_true (by rw [<- hcc];exact (Zbh _ _).2 hxy)
     clear hcc hxy
     go_upto_region 4 with fail
     have h00:Same wr wr.drew:=(Upd.refl _ wr).drew
     go_region_held3 (fun wx=>Same wr wx/\AtN wx g j x/\AtN wx g r y) (exact Zcc HAx HAy hg (by assumption)) (first
      | (go_at_call 69;refine (ZbV _ _ _ _ _ _ wr _ HC.out (by assumption)).mono ?_;rintro e w' ⟨rfl,hs⟩))
     all_goals
      obtain ⟨_,hAx2,hAy2⟩:=Zcc HAx HAy hg hs
      have hFx2:=ZlG HFx hg hs
      have hFy2:=ZlG HFy hg hs
      go_upto_region 6 with fail
      have hn1:¬ r*3=j*3+1:=by have:=HR.out;omega
      have hm1:¬ r*3+1=j*3:=by have:=HR.out;omega
      have hr1:¬ j*3=r*3+1:=by have:=HR.out;omega
      have ht1:¬ j*3+1=r*3:=by have:=HR.out;omega
      have hn2:¬ r*3=j*3+2:=by have:=HR.out;omega
      have hm2:¬ r*3+2=j*3:=by have:=HR.out;omega
      have hr2:¬ j*3=r*3+2:=by have:=HR.out;omega
      have ht2:¬ j*3+2=r*3:=by have:=HR.out;omega
      have hqp:¬ r=j:=by have:=HR.out;omega
      have hpq:¬ j=r:=by have:=HR.out;omega
      obtain ⟨c0,c1,c2⟩:=hAx2
      obtain ⟨d0,d1,d2⟩:=hAy2
      obtain ⟨f0,f1,f2⟩:=hFx2
      obtain ⟨e0,e1,e2⟩:=hFy2
      go_big_region
      all_goals
       clear c0 c1 c2 d0 d1 d2 f0 f1 f2 e0 e1 e2
       go_wp2
       go_roundg r
       case measure=>have:=HR.out;omega
       have h1:=HO.out.same hs
       obtain ⟨s1,s2⟩:=h1.put2 hjn hrn y x (ZdS _ _ _ _ _ HPL.1 HPL.2)
       have h3:=JL.out
       refine ⟨r,P,y::P2,by have:=HR.out;omega,by have:=HR.out;omega,rfl,rfl,qH ⟨by have h5:=HPL.1;have h6:=HP.1;rw [List.length_append] at h5;omega,by simp at h3 ⊢;omega⟩,qH ?_,qH (by have:=JS.out;rwa [List.append_assoc] at this),qH ?_,qH (by have:=JM.out;rwa [List.append_assoc] at this),qH ((JU.out.same hs).trans s2 fun _ _ h=>h)⟩
       · simpa only [List.append_assoc,List.nil_append,List.cons_append] using s1
       intro z hz
       rcases List.mem_cons.1 hz with rfl | hz
       · exact HXY.out
       exact JG.out z hz
   have HXY:=qH (show Nlt (fun a b:Int=>a<b) (ND.id x) (ND.id y) from hxy)
   have hcd:decide (cc<0)=false:=decide_eq_false (by rw [<- hcc];exact fun h=>hxy ((Zbh _ _).1 h))
   clear hcc hxy
   go_upto_region 4 with fail
   have h00:Same wr wr.drew:=(Upd.refl _ wr).drew
   go_region_held3 (fun wx=>Same wr wx/\AtN wx g j x/\AtN wx g r y) (exact Zcc HAx HAy hg (by assumption)) (first
    | (go_at_call 69;refine (ZbV _ _ _ _ _ _ wr _ HC.out (by assumption)).mono ?_;rintro e w' ⟨rfl,hs⟩))
   all_goals
    go_wp2
    go_roundg (b+1-(i+1))
    case measure=>omega
    obtain ⟨d1,d2⟩:=HDN.out (fun z hz=>by
     have h4:=JS.out.of_app.1.last_le ZaC z hz
     exact ZaC.le_tr h4 HXY.out)
    refine ⟨i+1,(P++[y])++x::P2,by omega,rfl,.inr (by omega),by go_num,qH ?_,qH d1,qH d2,qH (JU.out.same hs)⟩
    have h1:=JO.out.same hs
    simpa only [List.append_assoc,List.cons_append] using h1
 have HF:Hid (ZcT B g n c p s q w wr):=qH (by
  have hd:s.drop (i-a)=[]:=List.drop_of_length_le (by have:=HP.2;omega)
  have htk:s.take (i-a)=s:=List.take_of_length_le (by have:=HP.2;omega)
  have h1:=KO.out
  have h2:=KM.out
  rw [hd,List.nil_append] at h1
  rw [htk] at h2
  exact ⟨S1,h1,KS.out,h2,KU.out⟩)
 clear hi2
 go_wp2
 go_end0
 exact ⟨rfl,HF.out⟩
theorem smaN {B n c g a d b:Nat} {p r q:List ND} {x:ND} (w:World) (h:OwnN w B g n c (p++x::(r++q))) (hn:n<=35184372088832) (ha:p.length=a) (hd:a+1=d) (hb:d+r.length=b) (hs:Zaj (fun a b:Int=>a<b) ND.id r) :
 Calls Tryz.prog 152 #[.slice (some ⟨g,0,none⟩) n c,.int .i64 a,.int .i64 d,.int .i64 b,.func (.func 69) #[] #[]] w fun e w'=>e=.returned (.tuple #[])/\ZcT B g n c p (x::r) q w w':=by
 have hl0:=h.len
 have hbn:b<=n:=by rw [<- hl0];simp;omega
 have hdb:d<=b:=by omega
 have hw0:IntKind.i64.wrap ((d:Int)-(a:Int))=1:=by rw [IntWalk.i64_in _ ⟨by omega,by omega⟩];omega
 have hs0:(d:Int)-(a:Int)=1:=by omega
 obtain ⟨_,hg,hAx,_⟩:=h.at_ (ZcF _ _ _ ha)
 have HAx:=qH hAx
 have HO:=qH h
 have HP:=qH (And.intro ha (And.intro hd hb))
 have HS:=qH hs
 have han:a<n:=by omega
 clear h hl0 ha hd hb hAx hs
 go_enter Tryz.func152,Tryz.ntmps152
 go_wp2_with fail
 clear hw0 hs0
 go_loopg [10,11] (b-d) (fun gh s1 s2 wr=>∃ (i j:Nat),j-i=gh/\d<=i/\i<=j/\j<=b/\s1=.int .i64 i/\s2=.int .i64 j/\Hid ((∀ y,0<i-d->r[i-d-1]?=some y->(fun a b:Int=>a<b) (ND.id y) (ND.id x))/\∀ y,r[j-d]?=some y->Nlt (fun a b:Int=>a<b) (ND.id y) (ND.id x))/\Hid (Same w wr))
 case atStart=>exact ⟨d,b,rfl,Nat.le_refl _,hdb,Nat.le_refl _,rfl,rfl,qH ⟨fun y h=>by omega,fun y h=>by
  have h1:=(List.getElem?_eq_some_iff.1 h).1
  have:=HP.out
  omega⟩,qH (Upd.refl _ _)⟩
 obtain ⟨i,j,rfl,hdi,hij,hjb,rfl,rfl,KC,KU⟩:=hrel
 by_cases hlt:i<j
 · obtain ⟨m,hm⟩:∃ m,m=(i+j) / 2:=⟨_,rfl⟩
   obtain ⟨y,hy⟩:∃ y,r[m-d]?=some y:=⟨_,List.getElem?_eq_getElem (by have:=HP.out;omega)⟩
   have hOw:=HO.out.same KU.out
   obtain ⟨hmn,_,hAy,_⟩:=hOw.at_ (i:=m) (x:=y) (by
    have h1:=HP.out
    have h2:=(List.getElem?_eq_some_iff.1 hy).1
    rw [List.getElem?_append_right (by omega),show m-p.length=(m-d)+1 from by omega,List.getElem?_cons_succ,List.getElem?_append_left h2]
    exact hy)
   have hx9:AtN wr g a x:=(Zcc HAx HAx hg KU.out).2.1
   have HX:=qH hx9
   have HY:=qH hAy
   have HYm:=qH hy
   have hgw:g<wr.heap.size:=Nat.lt_of_lt_of_le hg KU.out.size
   have hv0:((i:Int)+(j:Int)) / 2=(m:Int):=by omega
   have hv1:(0:Int)<=(i:Int)+(j:Int):=by omega
   have hv2:(0:Int)<=(m:Int):=by omega
   have hv3:(m:Int)<(n:Int):=by omega
   have hv4:(0:Int)<=(a:Int):=by omega
   have hv5:(a:Int)<(n:Int):=by omega
   have hv6:i<=m/\m<j:=by omega
   obtain ⟨hv7,hv8⟩:=hv6
   clear hm hy hOw hAy hx9
   obtain ⟨cc,hcc⟩:∃ cc,cmpI (ND.id y) (ND.id x)=cc:=⟨_,rfl⟩
   have HC:=qH hcc
   by_cases hxy:(fun a b:Int=>a<b) (ND.id y) (ND.id x)
   · have HXY:=qH hxy
     have hcd:decide (cc<0)=true:=decide_eq_true (by rw [<- hcc];exact (Zbh _ _).2 hxy)
     clear hcc hxy
     go_upto_region 5 with fail
     have h00:Same wr wr.drew:=(Upd.refl _ wr).drew
     go_region_held3 (fun wx=>Same wr wx/\AtN wx g m y/\AtN wx g a x) (exact Zcc HY HX hgw (by assumption)) (first
      | (go_at_call 69;refine (ZbV _ _ _ _ _ _ wr _ HC.out (by assumption)).mono ?_;rintro e w' ⟨rfl,hs⟩))
     all_goals
      go_wp2
      go_roundg (j-(m+1))
      case measure=>omega
      case rel=>exact ⟨m+1,j,rfl,by omega,by omega,hjb,by go_num,rfl,qH ⟨fun z h0 hz=>by
       rw [show m+1-d-1=m-d from by omega,HYm.out] at hz
       injection hz with hz
       subst hz
       exact HXY.out,KC.2⟩,qH (KU.out.same hs)⟩
   have HXY:=qH (show Nlt (fun a b:Int=>a<b) (ND.id y) (ND.id x) from hxy)
   have hcd:decide (cc<0)=false:=decide_eq_false (by rw [<- hcc];exact fun h=>hxy ((Zbh _ _).1 h))
   clear hcc hxy
   go_upto_region 5 with fail
   have h00:Same wr wr.drew:=(Upd.refl _ wr).drew
   go_region_held3 (fun wx=>Same wr wx/\AtN wx g m y/\AtN wx g a x) (exact Zcc HY HX hgw (by assumption)) (first
    | (go_at_call 69;refine (ZbV _ _ _ _ _ _ wr _ HC.out (by assumption)).mono ?_;rintro e w' ⟨rfl,hs⟩))
   all_goals
    go_wp2
    go_roundg (m-i)
    case measure=>omega
    case rel=>exact ⟨i,m,rfl,hdi,by omega,by omega,rfl,rfl,qH ⟨KC.1,fun z hz=>by
     rw [HYm.out] at hz
     injection hz with hz
     subst hz
     exact HXY.out⟩,qH (KU.out.same hs)⟩
 obtain rfl:i=j:=by omega
 obtain ⟨e,he⟩:∃ e,e+1=i:=⟨i-1,by have:=HP.out;omega⟩
 obtain ⟨r1,hr1⟩:∃ r1,r1=r.take (i-d):=⟨_,rfl⟩
 obtain ⟨r2,hr2⟩:∃ r2,r2=r.drop (i-d):=⟨_,rfl⟩
 have hrr:r=r1++r2:=by rw [hr1,hr2,List.take_append_drop]
 have hcut:=HS.out.cut_lt ZaC (i:=i-d) (x:=ND.id x) (by have:=HP.out;omega) KC.1 KC.2
 rw [<- hr1,<-hr2] at hcut
 have hrl:a+r1.length=e:=by
  have h1:=HP.out
  rw [hr1,List.length_take]
  omega
 have HCUT:Hid ((∀ y∈r1,(fun a b:Int=>a<b) (ND.id y) (ND.id x))/\∀ y∈r2,Nlt (fun a b:Int=>a<b) (ND.id y) (ND.id x)):=qH hcut
 have HRR:=qH hrr
 have HRL:=qH hrl
 have hw1:IntKind.i64.wrap ((i:Int)-1)=(e:Int):=by rw [IntWalk.i64_in _ ⟨by omega,by omega⟩];omega
 have hs1:(i:Int)-1=(e:Int):=by omega
 have hae:a<=e:=by omega
 have hen:e<n:=by omega
 have HOw:=qH (HO.out.same KU.out)
 clear hr1 hr2 hrr hcut hrl KC
 obtain ⟨wo,rfl⟩:∃ wo:World,wo=wr:=⟨_,rfl⟩
 go_wp2_with fail
 go_loopg [13] (e-a) (fun gh s3 wx=>∃ (k:Nat) (ra rb:List ND),e-k=gh/\k<=e/\s3=.int .i64 k/\Hid (r1=ra++rb/\a+ra.length=k)/\Hid (OwnN wx B g n c (p++(ra++x::(rb++(r2++q)))))/\Hid (Upd (fun b=>b=g) w wx))
 case atStart=>exact ⟨a,[],r1,rfl,hae,rfl,qH ⟨rfl,rfl⟩,qH (by
  have h1:=HOw.out
  rw [HRR.out] at h1
  simpa only [List.append_assoc,List.nil_append] using h1),qH (KU.out.mono fun _ _ f=>f.elim)⟩
 obtain ⟨k,ra,rb,rfl,hke,rfl,JL,JO,JU⟩:=hrel
 by_cases hlt2:k<e
 · obtain ⟨z,rb2,hz⟩:∃ z rb2,rb=z::rb2:=by
    cases rb with
    | nil=>have h1:=JL.out;have h2:=HRL.out;rw [h1.1,List.append_nil] at h2;omega
    | cons z l=>exact ⟨z,l,rfl⟩
   subst hz
   obtain ⟨k1,hk1⟩:∃ k1,k1=k+1:=⟨_,rfl⟩
   have hO:OwnN wr B g n c ((p++ra)++x::([]++z::(rb2++(r2++q)))):=by
    have h1:=JO.out
    simpa only [List.append_assoc,List.cons_append,List.nil_append] using h1
   have hpl:(p++ra).length=k:=by have h1:=JL.2;have h2:=HP.1;rw [List.length_append];omega
   have hml:k+1+([]:List ND).length=k1:=by simpa using hk1.symm
   obtain ⟨hkn,_,hA1,hF1⟩:=hO.at_ (ZcF _ _ _ hpl)
   obtain ⟨hkn1,_,hA2,hF2⟩:=hO.at_ (Zdp _ _ _ _ _ hpl hml)
   have hw2:IntKind.i64.wrap ((k:Int)+1)=(k1:Int):=by rw [IntWalk.i64_in _ ⟨by omega,by omega⟩];omega
   have hs2:(k:Int)+1=(k1:Int):=by omega
   have hp1:(0:Int)<=(k:Int):=by omega
   have hp2:(0:Int)<=(k1:Int):=by omega
   have hp3:(k:Int)<(n:Int):=by omega
   have hp4:(k1:Int)<(n:Int):=by omega
   have hab:k<k1:=by omega
   have hn1:¬ k1*3=k*3+1:=by omega
   have hm1:¬ k1*3+1=k*3:=by omega
   have hr1:¬ k*3=k1*3+1:=by omega
   have ht1:¬ k*3+1=k1*3:=by omega
   have hn2:¬ k1*3=k*3+2:=by omega
   have hm2:¬ k1*3+2=k*3:=by omega
   have hr2:¬ k*3=k1*3+2:=by omega
   have ht2:¬ k*3+2=k1*3:=by omega
   have hqp:¬ k1=k:=by omega
   have hpq:¬ k=k1:=by omega
   have HO2:=qH hO
   have HPL:=qH (And.intro hpl hml)
   have HK1:=qH hk1
   clear hO hpl hml hab hk1
   go_upto_region 11 with fail
   obtain ⟨c0,c1,c2⟩:=hA1
   obtain ⟨d0,d1,d2⟩:=hA2
   obtain ⟨f0,f1,f2⟩:=hF1
   obtain ⟨e0,e1,e2⟩:=hF2
   go_big_region
   all_goals
    clear c0 c1 c2 d0 d1 d2 f0 f1 f2 e0 e1 e2
    go_wp2
    go_roundg (e-k1)
    case measure=>have:=HK1.out;omega
    have h1:=JL.out
    obtain ⟨s1,s2⟩:=HO2.out.put2 hkn hkn1 z x (Zem _ _ _ _ _ HPL.1 HPL.2)
    refine ⟨k1,ra++[z],rb2,rfl,by have:=HK1.out;omega,by first | rfl | go_num,qH ⟨by rw [h1.1];simp,by have:=HK1.out;simp;omega⟩,qH ?_,qH (JU.out.trans s2 fun _ _ h=>h)⟩
    simpa only [List.append_assoc,List.cons_append,List.nil_append] using s1
 obtain rfl:k=e:=by omega
 have HF:Hid (ZcT B g n c p (x::r) q w wr):=qH (by
  have h1:=JL.out
  have e1:rb=[]:=List.eq_nil_of_length_eq_zero (by have h3:=HRL.out;rw [h1.1,List.length_append] at h3;omega)
  have h2:=JO.out
  rw [e1,List.nil_append] at h2
  rw [e1,List.append_nil] at h1
  have h3:=HS.out
  rw [HRR.out] at h3
  refine ⟨r1++x::r2,?_,h3.ins (fun y hy=>ZaC.asym (HCUT.1 y hy)) HCUT.2,?_,JU.out⟩
  · rw [h1.1]
    simpa only [List.append_assoc,List.cons_append] using h2
  rw [HRR.out]
  exact Zah.forth ZaC r1 r2 x HCUT.1)
 go_wp2
 refine bodyPost_ret (results_none rfl _ _ _) rfl ?_
 exact ⟨rfl,HF.out⟩
theorem smbN {B n c g a d b:Nat} {p l q:List ND} {x:ND} (w:World) (h:OwnN w B g n c (p++(l++x::q))) (hn:n<=35184372088832) (ha:p.length=a) (hd:a+l.length=d) (hb:d+1=b) (h2:1<l.length) (hs:Zaj (fun a b:Int=>a<b) ND.id l) :
 Calls Tryz.prog 152 #[.slice (some ⟨g,0,none⟩) n c,.int .i64 a,.int .i64 d,.int .i64 b,.func (.func 69) #[] #[]] w fun e w'=>e=.returned (.tuple #[])/\ZcT B g n c p (l++[x]) q w w':=by
 have hl0:=h.len
 have hbn:b<=n:=by rw [<- hl0];simp;omega
 obtain ⟨ll,hll⟩:∃ ll,ll=l.length:=⟨_,rfl⟩
 have hw0:IntKind.i64.wrap ((d:Int)-(a:Int))=(ll:Int):=by rw [IntWalk.i64_in _ ⟨by omega,by omega⟩];omega
 have hs0:(d:Int)-(a:Int)=(ll:Int):=by omega
 have hne:((ll:Int)==1)=false:=by simp;omega
 have hw1:IntKind.i64.wrap ((b:Int)-(d:Int))=1:=by rw [IntWalk.i64_in _ ⟨by omega,by omega⟩];omega
 have hs1:(b:Int)-(d:Int)=1:=by omega
 have hdx:(p++l).length=d:=by rw [List.length_append];omega
 obtain ⟨hdn,hg,hAx,_⟩:=h.at_ (i:=d) (x:=x) (by rw [<- List.append_assoc];exact ZcF _ _ _ hdx)
 have HAx:=qH hAx
 have HO:=qH h
 have HP:=qH (And.intro ha (And.intro hd hb))
 have HS:=qH hs
 have had:a<d:=by omega
 clear h hl0 ha hd hb hAx hs hdx h2 hll
 go_enter Tryz.func152,Tryz.ntmps152
 go_wp2_with fail
 clear hw0 hs0 hw1 hs1 hne
 go_loopg [14,15] (d-a) (fun gh s1 s2 wr=>∃ (i j:Nat),j-i=gh/\a<=i/\i<=j/\j<=d/\s1=.int .i64 i/\s2=.int .i64 j/\Hid ((∀ y,0<i-a->l[i-a-1]?=some y->Nlt (fun a b:Int=>a<b) (ND.id x) (ND.id y))/\∀ y,l[j-a]?=some y->(fun a b:Int=>a<b) (ND.id x) (ND.id y))/\Hid (Same w wr))
 case atStart=>exact ⟨a,d,rfl,Nat.le_refl _,by omega,Nat.le_refl _,rfl,rfl,qH ⟨fun y h=>by omega,fun y h=>by
  have h1:=(List.getElem?_eq_some_iff.1 h).1
  have:=HP.out
  omega⟩,qH (Upd.refl _ _)⟩
 obtain ⟨i,j,rfl,hdi,hij,hjb,rfl,rfl,KC,KU⟩:=hrel
 by_cases hlt:i<j
 · obtain ⟨m,hm⟩:∃ m,m=(i+j) / 2:=⟨_,rfl⟩
   obtain ⟨y,hy⟩:∃ y,l[m-a]?=some y:=⟨_,List.getElem?_eq_getElem (by have:=HP.out;omega)⟩
   have hOw:=HO.out.same KU.out
   obtain ⟨hmn,_,hAy,_⟩:=hOw.at_ (i:=m) (x:=y) (by
    have h1:=HP.out
    have h2:=(List.getElem?_eq_some_iff.1 hy).1
    rw [List.getElem?_append_right (by omega),show m-p.length=m-a from by omega,List.getElem?_append_left h2]
    exact hy)
   have hx9:AtN wr g d x:=(Zcc HAx HAx hg KU.out).2.1
   have HX:=qH hx9
   have HY:=qH hAy
   have HYm:=qH hy
   have hgw:g<wr.heap.size:=Nat.lt_of_lt_of_le hg KU.out.size
   have hv0:((i:Int)+(j:Int)) / 2=(m:Int):=by omega
   have hv1:(0:Int)<=(i:Int)+(j:Int):=by omega
   have hv2:(0:Int)<=(m:Int):=by omega
   have hv3:(m:Int)<(n:Int):=by omega
   have hv4:(0:Int)<=(d:Int):=by omega
   have hv5:(d:Int)<(n:Int):=by omega
   have hv6:i<=m/\m<j:=by omega
   obtain ⟨hv7,hv8⟩:=hv6
   clear hm hy hOw hAy hx9
   obtain ⟨cc,hcc⟩:∃ cc,cmpI (ND.id x) (ND.id y)=cc:=⟨_,rfl⟩
   have HC:=qH hcc
   by_cases hxy:(fun a b:Int=>a<b) (ND.id x) (ND.id y)
   · have HXY:=qH hxy
     have hcd:decide (cc<0)=true:=decide_eq_true (by rw [<- hcc];exact (Zbh _ _).2 hxy)
     clear hcc hxy
     go_upto_region 17 with fail
     have h00:Same wr wr.drew:=(Upd.refl _ wr).drew
     go_region_held3 (fun wx=>Same wr wx/\AtN wx g d x/\AtN wx g m y) (exact Zcc HX HY hgw (by assumption)) (first
      | (go_at_call 69;refine (ZbV _ _ _ _ _ _ wr _ HC.out (by assumption)).mono ?_;rintro e w' ⟨rfl,hs⟩))
     all_goals
      go_wp2
      go_roundg (m-i)
      case measure=>omega
      case rel=>exact ⟨i,m,rfl,hdi,by omega,by omega,rfl,rfl,qH ⟨KC.1,fun z hz=>by
       rw [HYm.out] at hz
       injection hz with hz
       subst hz
       exact HXY.out⟩,qH (KU.out.same hs)⟩
   have HXY:=qH (show Nlt (fun a b:Int=>a<b) (ND.id x) (ND.id y) from hxy)
   have hcd:decide (cc<0)=false:=decide_eq_false (by rw [<- hcc];exact fun h=>hxy ((Zbh _ _).1 h))
   clear hcc hxy
   go_upto_region 17 with fail
   have h00:Same wr wr.drew:=(Upd.refl _ wr).drew
   go_region_held3 (fun wx=>Same wr wx/\AtN wx g d x/\AtN wx g m y) (exact Zcc HX HY hgw (by assumption)) (first
    | (go_at_call 69;refine (ZbV _ _ _ _ _ _ wr _ HC.out (by assumption)).mono ?_;rintro e w' ⟨rfl,hs⟩))
   all_goals
    go_wp2
    go_roundg (j-(m+1))
    case measure=>omega
    case rel=>exact ⟨m+1,j,rfl,by omega,by omega,hjb,by go_num,rfl,qH ⟨fun z h0 hz=>by
     rw [show m+1-a-1=m-a from by omega,HYm.out] at hz
     injection hz with hz
     subst hz
     exact HXY.out,KC.2⟩,qH (KU.out.same hs)⟩
 obtain rfl:i=j:=by omega
 obtain ⟨l1,hr1⟩:∃ l1,l1=l.take (i-a):=⟨_,rfl⟩
 obtain ⟨l2,hr2⟩:∃ l2,l2=l.drop (i-a):=⟨_,rfl⟩
 have hrr:l=l1++l2:=by rw [hr1,hr2,List.take_append_drop]
 have hcut:=HS.out.cut_le ZaC (i:=i-a) (x:=ND.id x) (by have:=HP.out;omega) KC.1 KC.2
 rw [<- hr1,<-hr2] at hcut
 have hrl:a+l1.length=i:=by
  have h1:=HP.out
  rw [hr1,List.length_take]
  omega
 have hrl2:i+l2.length=d:=by
  have h1:=HP.out
  rw [hr2,List.length_drop]
  omega
 have HCUT:Hid ((∀ y∈l1,Nlt (fun a b:Int=>a<b) (ND.id x) (ND.id y))/\∀ y∈l2,(fun a b:Int=>a<b) (ND.id x) (ND.id y)):=qH hcut
 have HRR:=qH hrr
 have HRL:=qH (And.intro hrl hrl2)
 have HOw:=qH (HO.out.same KU.out)
 clear hr1 hr2 hrr hcut hrl hrl2 KC
 obtain ⟨wo,rfl⟩:∃ wo:World,wo=wr:=⟨_,rfl⟩
 go_wp2_with fail
 go_loopg [17] (d-i) (fun gh s3 wx=>∃ (k:Nat) (la lb:List ND),k-i=gh/\i<=k/\k<=d/\s3=.int .i64 k/\Hid (l2=la++lb/\i+la.length=k)/\Hid (OwnN wx B g n c (p++(l1++(la++x::(lb++q)))))/\Hid (Upd (fun b=>b=g) w wx))
 case atStart=>exact ⟨d,l2,[],rfl,hjb,Nat.le_refl _,rfl,qH ⟨by rw [List.append_nil],HRL.2⟩,qH (by
  have h1:=HOw.out
  rw [HRR.out] at h1
  simpa only [List.append_assoc,List.nil_append] using h1),qH (KU.out.mono fun _ _ f=>f.elim)⟩
 obtain ⟨k,la,lb,rfl,hik,hkd,rfl,JL,JO,JU⟩:=hrel
 by_cases hlt2:i<k
 · obtain ⟨la2,z,hz⟩:∃ la2 z,la=la2++[z]:=by
    have h1:=JL.2
    exact ⟨la.dropLast,la.getLast (by rintro rfl;simp at h1;omega),(List.dropLast_concat_getLast _).symm⟩
   subst hz
   obtain ⟨k1,hk1⟩:∃ k1,k1+1=k:=⟨k-1,by omega⟩
   have hO:OwnN wr B g n c ((p++(l1++la2))++z::([]++x::(lb++q))):=by
    have h1:=JO.out
    simpa only [List.append_assoc,List.cons_append,List.nil_append] using h1
   have hpl:(p++(l1++la2)).length=k1:=by
    have h1:=JL.2
    have h2:=HP.1
    have h3:=HRL.1
    rw [List.length_append,List.length_singleton] at h1
    rw [List.length_append,List.length_append]
    omega
   have hml:k1+1+([]:List ND).length=k:=by simpa using hk1
   obtain ⟨hkn,_,hA1,hF1⟩:=hO.at_ (ZcF _ _ _ hpl)
   obtain ⟨hkn1,_,hA2,hF2⟩:=hO.at_ (Zdp _ _ _ _ _ hpl hml)
   have hw2:IntKind.i64.wrap ((k:Int)-1)=(k1:Int):=by rw [IntWalk.i64_in _ ⟨by omega,by omega⟩];omega
   have hs2:(k:Int)-1=(k1:Int):=by omega
   have hp1:(0:Int)<=(k:Int):=by omega
   have hp2:(0:Int)<=(k1:Int):=by omega
   have hp3:(k:Int)<(n:Int):=by omega
   have hp4:(k1:Int)<(n:Int):=by omega
   have hab:k1<k:=by omega
   have hn1:¬ k1*3=k*3+1:=by omega
   have hm1:¬ k1*3+1=k*3:=by omega
   have hr1:¬ k*3=k1*3+1:=by omega
   have ht1:¬ k*3+1=k1*3:=by omega
   have hn2:¬ k1*3=k*3+2:=by omega
   have hm2:¬ k1*3+2=k*3:=by omega
   have hr2:¬ k*3=k1*3+2:=by omega
   have ht2:¬ k*3+2=k1*3:=by omega
   have hqp:¬ k1=k:=by omega
   have hpq:¬ k=k1:=by omega
   have HO2:=qH hO
   have HPL:=qH (And.intro hpl hml)
   have HK1:=qH hk1
   have hk1i:i<=k1:=by omega
   have hk1d:k1<=d:=by omega
   clear hO hpl hml hab hk1
   go_upto_region 23 with fail
   obtain ⟨c0,c1,c2⟩:=hA1
   obtain ⟨d0,d1,d2⟩:=hA2
   obtain ⟨f0,f1,f2⟩:=hF1
   obtain ⟨e0,e1,e2⟩:=hF2
   go_big_region
   all_goals
    clear c0 c1 c2 d0 d1 d2 f0 f1 f2 e0 e1 e2
    go_wp2
    go_roundg (k1-i)
    case measure=>have:=HK1.out;omega
    have h1:=JL.out
    obtain ⟨s1,s2⟩:=HO2.out.put2 hkn1 hkn z x (ZdS _ _ _ _ _ HPL.1 HPL.2)
    refine ⟨k1,la2,z::lb,rfl,hk1i,hk1d,by first | rfl | go_num,qH ⟨by rw [h1.1];simp,by have:=HK1.out;simp at h1;omega⟩,qH ?_,qH (JU.out.trans s2 fun _ _ h=>h)⟩
    simpa only [List.append_assoc,List.cons_append,List.nil_append] using s1
 obtain rfl:k=i:=by omega
 have HF:Hid (ZcT B g n c p (l++[x]) q w wr):=qH (by
  have h1:=JL.out
  have e1:la=[]:=List.eq_nil_of_length_eq_zero (by omega)
  have h2:=JO.out
  rw [e1,List.nil_append] at h2
  rw [e1,List.nil_append] at h1
  have h3:=HS.out
  rw [HRR.out] at h3
  refine ⟨l1++x::l2,?_,h3.ins HCUT.1 (fun y hy=>ZaC.asym (HCUT.2 y hy)),?_,JU.out⟩
  · rw [h1.1]
    simpa only [List.append_assoc,List.cons_append] using h2
  rw [HRR.out]
  exact Zah.back ZaC l1 l2 x HCUT.2)
 go_wp2
 refine bodyPost_ret (results_none rfl _ _ _) rfl ?_
 exact ⟨rfl,HF.out⟩
theorem smgN {B n c g:Nat} (hn:n<=35184372088832):∀ (N:Nat) {a d b:Nat} {p l r q:List ND} (w:World),l.length+r.length<=N->0<l.length->0<r.length->OwnN w B g n c (p++(l++(r++q)))->p.length=a->a+l.length=d->d+r.length=b->Zaj (fun a b:Int=>a<b) ND.id l->Zaj (fun a b:Int=>a<b) ND.id r ->
 Calls Tryz.prog 152 #[.slice (some ⟨g,0,none⟩) n c,.int .i64 a,.int .i64 d,.int .i64 b,.func (.func 69) #[] #[]] w fun e w'=>e=.returned (.tuple #[])/\ZcT B g n c p (l++r) q w w':=by
 intro N
 induction N with
 | zero=>intro a d b p l r q w hN hl;omega
 | succ N ih =>
   intro a d b p l r q w hN hl hr h ha hd hb hsl hsr
   by_cases hl1:l.length=1
   · obtain ⟨x,rfl⟩:=List.length_eq_one_iff.1 hl1
     exact smaN (p:=p) (r:=r) (q:=q) (x:=x) w h hn ha (by simpa using hd) hb hsr
   by_cases hr1:r.length=1
   · obtain ⟨x,rfl⟩:=List.length_eq_one_iff.1 hr1
     exact smbN (p:=p) (l:=l) (q:=q) (x:=x) w h hn ha hd (by simpa using hb) (by omega) hsl
   have hl0:=h.len
   have hbn:b<=n:=by rw [<- hl0];simp;omega
   obtain ⟨ll,hll⟩:∃ ll,ll=l.length:=⟨_,rfl⟩
   obtain ⟨rl,hrl⟩:∃ rl,rl=r.length:=⟨_,rfl⟩
   obtain ⟨mid,hmid⟩:∃ mid,mid=(a+b) / 2:=⟨_,rfl⟩
   obtain ⟨nn,hnn⟩:∃ nn,nn=mid+d:=⟨_,rfl⟩
   obtain ⟨pp,hpp⟩:∃ pp,pp+1=nn:=⟨nn-1,by omega⟩
   obtain ⟨lo,hi,hlo⟩:∃ lo hi,(mid<d->lo+b=nn/\hi=mid)/\(¬ mid<d->lo=a/\hi=d):=by
    by_cases hm:mid<d
    · exact ⟨nn-b,mid,fun _=>⟨by omega,rfl⟩,fun h=>absurd hm h⟩
    exact ⟨a,d,fun h=>absurd h hm,fun _=>⟨rfl,rfl⟩⟩
   have hg1:a<=lo/\lo<=hi/\hi<=d/\d+hi<=nn/\nn<=b+lo/\(lo=a\/nn=b+lo)/\(hi=d\/nn=d+hi):=by
    by_cases hm:mid<d
    · have:=hlo.1 hm;omega
    have:=hlo.2 hm;omega
   obtain ⟨hg2,hg3,hg4,hg5,hg6,hg7,hg8⟩:=hg1
   have hw0:IntKind.i64.wrap ((d:Int)-(a:Int))=(ll:Int):=by rw [IntWalk.i64_in _ ⟨by omega,by omega⟩];omega
   have hs0:(d:Int)-(a:Int)=(ll:Int):=by omega
   have hne0:((ll:Int)==1)=false:=by simp;omega
   have hw1:IntKind.i64.wrap ((b:Int)-(d:Int))=(rl:Int):=by rw [IntWalk.i64_in _ ⟨by omega,by omega⟩];omega
   have hs1:(b:Int)-(d:Int)=(rl:Int):=by omega
   have hne1:((rl:Int)==1)=false:=by simp;omega
   have hv0:((a:Int)+(b:Int)) / 2=(mid:Int):=by omega
   have hv1:(0:Int)<=(a:Int)+(b:Int):=by omega
   have hw2:IntKind.i64.wrap ((mid:Int)+(d:Int))=(nn:Int):=by rw [IntWalk.i64_in _ ⟨by omega,by omega⟩];omega
   have hs2:(mid:Int)+(d:Int)=(nn:Int):=by omega
   have hw3:IntKind.i64.wrap ((nn:Int)-1)=(pp:Int):=by rw [IntWalk.i64_in _ ⟨by omega,by omega⟩];omega
   have hs3:(nn:Int)-1=(pp:Int):=by omega
   obtain ⟨x0,hx0⟩:∃ x0,l[0]?=some x0:=⟨_,List.getElem?_eq_getElem (by omega)⟩
   have hg:g<w.heap.size:=(h.at_ (i:=a) (x:=x0) (by rw [List.getElem?_append_right (by omega),ha,Nat.sub_self,List.getElem?_append_left (by omega)];exact hx0)).2.1
   have had:a<mid/\mid<b/\mid-a<=N/\b-mid<=N:=by omega
   obtain ⟨had1,had2,had3,had4⟩:=had
   have hab:a<=b:=by omega
   have hnb:nn<=2*n:=by omega
   have HO:=qH h
   have HP:=qH (And.intro ha (And.intro hd hb))
   have HS:=qH (And.intro hsl hsr)
   have HLO:=qH hlo
   have HNN:=qH (And.intro hnn hpp)
   clear h hl0 ha hd hb hsl hsr hl1 hr1 hll hrl hmid hnn hpp hlo hx0
   go_enter Tryz.func152,Tryz.ntmps152
   go_upto_if 140 with fail
   go_cut [20,21] (fun s20 s21 wx=>s20=.int .i64 lo/\s21=.int .i64 hi/\wx=w)
   case first =>
    by_cases hm:mid<d
    · have h9:=HLO.1 hm
      have hw4:IntKind.i64.wrap ((nn:Int)-(b:Int))=(lo:Int):=by rw [IntWalk.i64_in _ ⟨by omega,by omega⟩];omega
      have hs4:(nn:Int)-(b:Int)=(lo:Int):=by omega
      obtain rfl:hi=mid:=h9.2
      clear h9
      go_wp2
      go_meet
      exact ⟨rfl,rfl,rfl⟩
    have h9:=HLO.2 hm
    obtain ⟨rfl,rfl⟩:=h9
    go_wp2
    go_meet
    exact ⟨rfl,rfl,rfl⟩
   obtain ⟨rfl,rfl,rfl⟩:=hcut
   clear hw0 hs0 hne0 hw1 hs1 hne1 hv0 hv1 hw2 hs2
   obtain ⟨w1,rfl⟩:∃ w1:World,w1=wc:=⟨_,rfl⟩
   go_wp2_with fail
   clear hw3 hs3
   go_loopg [20,21] (hi-lo) (fun gh s1 s2 wr=>∃ (s t:Nat),t-s=gh/\lo<=s/\s<=t/\t<=hi/\s1=.int .i64 s/\s2=.int .i64 t/\Hid ((∀ y z,lo<s->l[s-a-1]?=some y->r[nn-s-d]?=some z->Nlt (fun a b:Int=>a<b) (ND.id z) (ND.id y))/\∀ y z,t<hi->l[t-a]?=some y->r[nn-t-d-1]?=some z->(fun a b:Int=>a<b) (ND.id z) (ND.id y))/\Hid (Same w1 wr))
   case atStart=>exact ⟨lo,hi,rfl,Nat.le_refl _,hg3,Nat.le_refl _,rfl,rfl,qH ⟨fun y z h=>by omega,fun y z h=>by omega⟩,qH (Upd.refl _ _)⟩
   obtain ⟨s,t,rfl,hls,hst,hth,rfl,rfl,KC,KU⟩:=hrel
   by_cases hlt:s<t
   · obtain ⟨m,hm⟩:∃ m,m=(s+t) / 2:=⟨_,rfl⟩
     obtain ⟨pm,hpm⟩:∃ pm,pm+m=pp:=⟨pp-m,by have:=HNN.out;omega⟩
     obtain ⟨y,hy⟩:∃ y,l[m-a]?=some y:=⟨_,List.getElem?_eq_getElem (by have:=HP.out;omega)⟩
     obtain ⟨z,hz⟩:∃ z,r[pm-d]?=some z:=⟨_,List.getElem?_eq_getElem (by have:=HP.out;have:=HNN.out;omega)⟩
     have hOw:=HO.out.same KU.out
     obtain ⟨hmn,_,hAy,_⟩:=hOw.at_ (i:=m) (x:=y) (by
      have h1:=HP.out
      have h2:=(List.getElem?_eq_some_iff.1 hy).1
      rw [List.getElem?_append_right (by omega),show m-p.length=m-a from by omega,List.getElem?_append_left h2]
      exact hy)
     obtain ⟨hpn,_,hAz,_⟩:=hOw.at_ (i:=pm) (x:=z) (by
      have h1:=HP.out
      have h3:=HNN.out
      have h2:=(List.getElem?_eq_some_iff.1 hz).1
      rw [List.getElem?_append_right (by omega),List.getElem?_append_right (by omega),show pm-p.length-l.length=pm-d from by omega,List.getElem?_append_left h2]
      exact hz)
     have HY:=qH hAy
     have HZ:=qH hAz
     have HYm:=qH (And.intro hy hz)
     have hgw:g<wr.heap.size:=Nat.lt_of_lt_of_le hg KU.out.size
     have hv0:((s:Int)+(t:Int)) / 2=(m:Int):=by omega
     have hv1:(0:Int)<=(s:Int)+(t:Int):=by omega
     have hv2:(0:Int)<=(m:Int):=by omega
     have hv3:(m:Int)<(n:Int):=by omega
     have hw4:IntKind.i64.wrap ((pp:Int)-(m:Int))=(pm:Int):=by rw [IntWalk.i64_in _ ⟨by omega,by omega⟩];omega
     have hv4:(0:Int)<=(pm:Int):=by omega
     have hv5:(pm:Int)<(n:Int):=by omega
     have hv6:s<=m/\m<t:=by omega
     obtain ⟨hv7,hv8⟩:=hv6
     have HPM:=qH hpm
     clear hm hy hz hOw hAy hAz hpm
     obtain ⟨cc,hcc⟩:∃ cc,cmpI (ND.id z) (ND.id y)=cc:=⟨_,rfl⟩
     have HC:=qH hcc
     by_cases hxy:(fun a b:Int=>a<b) (ND.id z) (ND.id y)
     · have HXY:=qH hxy
       have hcd:decide (cc<0)=true:=decide_eq_true (by rw [<- hcc];exact (Zbh _ _).2 hxy)
       clear hcc hxy
       go_upto_region 35 with fail
       have h00:Same wr wr.drew:=(Upd.refl _ wr).drew
       go_region_held3 (fun wx=>Same wr wx/\AtN wx g pm z/\AtN wx g m y) (exact Zcc HZ HY hgw (by assumption)) (first
        | (go_at_call 69;refine (ZbV _ _ _ _ _ _ wr _ HC.out (by assumption)).mono ?_;rintro e w' ⟨rfl,hs⟩))
       all_goals
        go_wp2
        go_roundg (m-s)
        case measure=>omega
        case rel=>exact ⟨s,m,rfl,hls,by omega,by omega,rfl,rfl,qH ⟨KC.1,fun y' z' _ h1 h2=>by
         have h3:=HPM.out
         have h4:=HNN.out
         rw [HYm.1] at h1
         rw [show nn-m-d-1=pm-d from by omega,HYm.2] at h2
         injection h1 with h1
         injection h2 with h2
         subst h1 h2
         exact HXY.out⟩,qH (KU.out.same hs)⟩
     have HXY:=qH (show Nlt (fun a b:Int=>a<b) (ND.id z) (ND.id y) from hxy)
     have hcd:decide (cc<0)=false:=decide_eq_false (by rw [<- hcc];exact fun h=>hxy ((Zbh _ _).1 h))
     clear hcc hxy
     go_upto_region 35 with fail
     have h00:Same wr wr.drew:=(Upd.refl _ wr).drew
     go_region_held3 (fun wx=>Same wr wx/\AtN wx g pm z/\AtN wx g m y) (exact Zcc HZ HY hgw (by assumption)) (first
      | (go_at_call 69;refine (ZbV _ _ _ _ _ _ wr _ HC.out (by assumption)).mono ?_;rintro e w' ⟨rfl,hs⟩))
     all_goals
      go_wp2
      go_roundg (t-(m+1))
      case measure=>omega
      case rel=>exact ⟨m+1,t,rfl,by omega,by omega,hth,by go_num,rfl,qH ⟨fun y' z' _ h1 h2=>by
       have h3:=HPM.out
       have h4:=HNN.out
       rw [show m+1-a-1=m-a from by omega,HYm.1] at h1
       rw [show nn-(m+1)-d=pm-d from by omega,HYm.2] at h2
       injection h1 with h1
       injection h2 with h2
       subst h1 h2
       exact HXY.out,KC.2⟩,qH (KU.out.same hs)⟩
   obtain rfl:s=t:=by omega
   obtain ⟨e,he⟩:∃ e,e+s=nn:=⟨nn-s,by have:=HNN.out;omega⟩
   obtain ⟨u1,hu1⟩:∃ u1,u1=l.take (s-a):=⟨_,rfl⟩
   obtain ⟨u2,hu2⟩:∃ u2,u2=l.drop (s-a):=⟨_,rfl⟩
   obtain ⟨v1,hv1⟩:∃ v1,v1=r.take (e-d):=⟨_,rfl⟩
   obtain ⟨v2,hv2⟩:∃ v2,v2=r.drop (e-d):=⟨_,rfl⟩
   have hp:=HP.out
   have hnn:=HNN.out
   have hlu:l=u1++u2:=by rw [hu1,hu2,List.take_append_drop]
   have hrv:r=v1++v2:=by rw [hv1,hv2,List.take_append_drop]
   have hcr:=ZoT ZaC HS.1 HS.2 (i:=s-a) (j:=e-d) (by omega) (by omega) (fun y z h0 h1 h2=>by
    have h5:=(List.getElem?_eq_some_iff.1 h2).1
    exact KC.1 y z (by omega) h1 (by rw [show nn-s-d=e-d from by omega];exact h2)) (fun y z h0 h1 h2=>by
    have h5:=(List.getElem?_eq_some_iff.1 h1).1
    exact KC.2 y z (by omega) h1 (by rw [show nn-s-d-1=e-d-1 from by omega];exact h2))
   rw [<- hu1,<-hu2,<-hv1,<-hv2] at hcr
   have l1:a+u1.length=s:=by rw [hu1,List.length_take];omega
   have l2:s+u2.length=d:=by rw [hu2,List.length_drop];omega
   have l3:d+v1.length=e:=by rw [hv1,List.length_take];omega
   have l4:e+v2.length=b:=by rw [hv2,List.length_drop];omega
   have HCR:Hid ((∀ x∈u1,∀ y∈v2,Nlt (fun a b:Int=>a<b) (ND.id y) (ND.id x))/\∀ x∈u2,∀ y∈v1,(fun a b:Int=>a<b) (ND.id y) (ND.id x)):=qH hcr
   have HSU:=qH (show Zaj (fun a b:Int=>a<b) ND.id (u1++u2)/\Zaj (fun a b:Int=>a<b) ND.id (v1++v2) by rw [<- hlu,<-hrv];exact HS.out)
   have HLR:=qH (And.intro hlu hrv)
   have HLN:=qH (show p.length=a/\a+u1.length=s/\s+u2.length=d/\d+v1.length=e/\e+v2.length=b/\mid+d=nn/\e+s=nn by omega)
   have HOw:Hid (OwnN wr B g n c (p++(u1++(u2++(v1++(v2++q)))))):=qH (by
    have h1:=HO.out.same KU.out
    rw [hlu,hrv] at h1
    simpa only [List.append_assoc] using h1)
   have HUw:Hid (Upd (fun b=>b=g) w1 wr):=qH (KU.out.mono fun _ _ f=>f.elim)
   have hw4:IntKind.i64.wrap ((nn:Int)-(s:Int))=(e:Int):=by rw [IntWalk.i64_in _ ⟨by omega,by omega⟩];omega
   have hs4:(nn:Int)-(s:Int)=(e:Int):=by omega
   clear he hu1 hu2 hv1 hv2 hp hnn hlu hrv hcr l1 l2 l3 l4 KC
   go_upto_region 39 with fail
   go_cut [185] from 178 to 185 (fun sc wx=>∃ z:Bool,sc=.bool z/\Hid (z=true↔s<d/\d<e)/\wx=wr)
   case first =>
    by_cases c1:s<d
    · have d1:decide (s<d)=true:=decide_eq_true c1
      by_cases c2:d<e
      · have d2:decide (d<e)=true:=decide_eq_true c2
        go_wp2
        go_meet
        exact ⟨true,rfl,ZcB ⟨c1,c2⟩,rfl⟩
      have d2:decide (d<e)=false:=decide_eq_false c2
      go_wp2
      go_meet
      exact ⟨false,rfl,Zbv fun h=>c2 h.2,rfl⟩
    have d1:decide (s<d)=false:=decide_eq_false c1
    go_wp2
    go_meet
    exact ⟨false,rfl,Zbv fun h=>c1 h.1,rfl⟩
   obtain ⟨z,rfl,HZ,hwc⟩:=hcut
   subst hwc
   go_upto_if 185 with fail
   go_cut [] from 186 to 191 (fun wx=>Hid (OwnN wx B g n c (p++(u1++(v1++(u2++(v2++q))))))/\Hid (Upd (fun b=>b=g) w1 wx))
   case first =>
    cases z
    · have c1:=qH (mt HZ.2 (by decide))
      go_wp2
      go_meet
      exact ⟨qH (by rw [Zin (a:=v1) (b:=u2) (ZeJ (by have:=HLN.out;have:=c1.out;omega))];exact HOw.out),HUw⟩
    obtain ⟨c1,c2⟩:=HZ.1 rfl
    go_wp2_with fail
    refine (rotN (p:=p++u1) (u:=u2) (v:=v1) (q:=v2++q) _ (by have h1:=HOw.out;simpa only [List.append_assoc] using h1) hn (by have:=HLN.out;rw [List.length_append];omega) (by have:=HLN.out;omega) (by have:=HLN.out;omega) (by have:=HLN.out;omega) (by have:=HLN.out;omega) _).mono ?_
    rintro x w2 ⟨rfl,h1,h2⟩
    have H1:=qH h1
    have H2:=qH h2
    clear h1 h2
    go_wp2
    go_meet
    exact ⟨qH (by simpa only [List.append_assoc] using H1.out),qH (HUw.out.trans H2.out fun _ _ h=>h)⟩
   obtain ⟨HO3,HU3⟩:=hcut
   obtain ⟨w3,hw3⟩:∃ w3:World,w3=wc:=⟨_,rfl⟩
   subst hw3
   clear HOw HUw
   go_upto_region 41 with fail
   go_cut [199] from 192 to 199 (fun sc wx=>∃ z:Bool,sc=.bool z/\Hid (z=true↔a<s/\s<mid)/\wx=w3)
   case first =>
    by_cases c1:a<s
    · have d1:decide (a<s)=true:=decide_eq_true c1
      by_cases c2:s<mid
      · have d2:decide (s<mid)=true:=decide_eq_true c2
        go_wp2
        go_meet
        exact ⟨true,rfl,ZcB ⟨c1,c2⟩,rfl⟩
      have d2:decide (s<mid)=false:=decide_eq_false c2
      go_wp2
      go_meet
      exact ⟨false,rfl,Zbv fun h=>c2 h.2,rfl⟩
    have d1:decide (a<s)=false:=decide_eq_false c1
    go_wp2
    go_meet
    exact ⟨false,rfl,Zbv fun h=>c1 h.1,rfl⟩
   obtain ⟨z,rfl,HZ,hwc⟩:=hcut
   subst hwc
   go_upto_if 199 with fail
   go_cut [] from 200 to 205 (fun wx=>∃ s1,Hid (OwnN wx B g n c (p++(s1++(u2++(v2++q)))))/\Hid (Zaj (fun a b:Int=>a<b) ND.id s1/\Zah ND.id s1 (u1++v1))/\Hid (Upd (fun b=>b=g) w1 wx))
   case first =>
    cases z
    · have c1:=qH (mt HZ.2 (by decide))
      go_wp2
      go_meet
      exact ⟨u1++v1,qH (by simpa only [List.append_assoc] using HO3.out),qH ⟨ZdT HSU.1.of_app.1 HSU.2.of_app.1 (ZeJ (by have:=HLN.out;have:=c1.out;omega)),Zah.refl _⟩,HU3⟩
    obtain ⟨c1,c2⟩:=HZ.1 rfl
    go_wp2_with fail
    refine (ih (p:=p) (l:=u1) (r:=v1) (q:=u2++(v2++q)) _ (by have:=HLN.out;omega) (by have:=HLN.out;omega) (by have:=HLN.out;omega) HO3.out HLN.1 HLN.2.1 (by have:=HLN.out;omega) HSU.1.of_app.1 HSU.2.of_app.1).mono ?_
    rintro x w4 ⟨rfl,s1,k1,k2,k3,k4⟩
    have H1:=qH k1
    have H2:=qH (And.intro k2 k3)
    have H3:=qH k4
    clear k1 k2 k3 k4
    go_wp2
    go_meet
    exact ⟨s1,H1,H2,qH (HU3.out.trans H3.out fun _ _ h=>h)⟩
   obtain ⟨s1,HO4,HS1,HU4⟩:=hcut
   obtain ⟨w4,hw4⟩:∃ w4:World,w4=wc:=⟨_,rfl⟩
   subst hw4
   clear HO3 HU3
   have hsl1:Hid (s1.length=u1.length+v1.length):=qH (by have h1:=HS1.2.length;rwa [List.length_append] at h1)
   have FIN:Hid (∀ (s2:List ND) (wx:World),Hid (OwnN wx B g n c (p++((s1++s2)++q)))->Hid (Zaj (fun a b:Int=>a<b) ND.id s2/\Zah ND.id s2 (u2++v2))->Hid (Upd (fun b=>b=g) w1 wx)->ZcT B g n c p (l++r) q w1 wx):=qH fun s2 wx h1 h2 h3=>by
    have HF:=Zfd (w1:=s1) (w2:=s2) ZaC HSU.1 HSU.2 HCR.1 HCR.2 HS1.1 HS1.2 h2.1 h2.2
    exact ⟨s1++s2,h1.out,HF.1,by rw [HLR.1,HLR.2];exact HF.2,h3.out⟩
   go_upto_region 43 with fail
   go_cut [213] from 206 to 213 (fun sc wx=>∃ z:Bool,sc=.bool z/\Hid (z=true↔mid<e/\e<b)/\wx=w4)
   case first =>
    by_cases c1:mid<e
    · have d1:decide (mid<e)=true:=decide_eq_true c1
      by_cases c2:e<b
      · have d2:decide (e<b)=true:=decide_eq_true c2
        go_wp2
        go_meet
        exact ⟨true,rfl,ZcB ⟨c1,c2⟩,rfl⟩
      have d2:decide (e<b)=false:=decide_eq_false c2
      go_wp2
      go_meet
      exact ⟨false,rfl,Zbv fun h=>c2 h.2,rfl⟩
    have d1:decide (mid<e)=false:=decide_eq_false c1
    go_wp2
    go_meet
    exact ⟨false,rfl,Zbv fun h=>c1 h.1,rfl⟩
   obtain ⟨z,rfl,HZ,hwc⟩:=hcut
   subst hwc
   cases z
   · have c1:=qH (mt HZ.2 (by decide))
     go_wp2
     go_end0
     exact ⟨rfl,FIN.out (u2++v2) _ (qH (by simpa only [List.append_assoc] using HO4.out)) (qH ⟨ZdT HSU.1.of_app.2.1 HSU.2.of_app.2.1 (ZeJ (by have:=HLN.out;have:=c1.out;omega)),Zah.refl _⟩) HU4⟩
   obtain ⟨c1,c2⟩:=HZ.1 rfl
   go_wp2_with fail
   refine (ih (p:=p++s1) (l:=u2) (r:=v2) (q:=q) _ (by have:=HLN.out;omega) (by have:=HLN.out;omega) (by have:=HLN.out;omega) (by have h1:=HO4.out;simpa only [List.append_assoc] using h1) (by have:=HLN.out;have:=hsl1.out;rw [List.length_append];omega) (by have:=HLN.out;omega) (by have:=HLN.out;omega) HSU.1.of_app.2.1 HSU.2.of_app.2.1).mono ?_
   rintro x w5 ⟨rfl,s2,k1,k2,k3,k4⟩
   have H1:=qH k1
   have H2:=qH (And.intro k2 k3)
   have H3:=qH k4
   clear k1 k2 k3 k4
   go_wp2
   go_end0
   exact ⟨rfl,FIN.out s2 _ (qH (by simpa only [List.append_assoc] using H1.out)) H2 (qH (HU4.out.trans H3.out fun _ _ h=>h))⟩
theorem stcN {B n c g:Nat} {l:List ND} (w:World) (h:OwnN w B g n c l) (hn:n<=35184372088832) :
 Calls Tryz.prog 112 #[.slice (some ⟨g,0,none⟩) n c,.int .i64 n,.func (.func 69) #[] #[]] w fun e w'=>e=.returned (.tuple #[])/\ZcT B g n c [] l [] w w':=by
 have HL:=qH h.len
 have HO:=qH h
 clear h
 go_enter Tryz.func112,Tryz.ntmps112
 go_wp2_with fail
 go_loopg [7,8] n (fun gh s7 s8 wr=>∃ (a b:Nat) (D R:List ND),n-a=gh/\a<=n/\b=a+20/\s7=.int .i64 a/\s8=.int .i64 b/\Hid (D.length=a/\(D++R).length=n)/\Hid (OwnN wr B g n c (D++R))/\Hid (Cf (fun a b:Int=>a<b) ND.id 20 D/\Zah ND.id (D++R) l)/\Hid (Upd (fun b=>b=g) w wr))
 case atStart=>exact ⟨0,20,[],l,rfl,Nat.zero_le _,rfl,rfl,rfl,qH ⟨rfl,HL.out⟩,HO,qH ⟨.nil,Zah.refl _⟩,qH (Upd.refl _ _)⟩
 obtain ⟨a,b,D,R,rfl,han,hb,rfl,rfl,KL,KO,KC,KU⟩:=hrel
 obtain ⟨b2,hb2⟩:∃ b2,b2=b+20:=⟨_,rfl⟩
 have hw1:IntKind.i64.wrap ((b:Int)+20)=(b2:Int):=by rw [IntWalk.i64_in _ ⟨by omega,by omega⟩];omega
 have hs1:(b:Int)+20=(b2:Int):=by omega
 have HB:=qH (And.intro hb hb2)
 have hab:a<=b:=by omega
 have hbb:b<b2:=by omega
 clear hb hb2
 by_cases hlt:b<=n
 · go_wp2_with fail
   refine (insN (p:=D) (s:=R.take 20) (q:=R.drop 20) _ (by have h1:=KO.out;rwa [<- List.take_append_drop 20 R] at h1) hn KL.1 (by have h1:=KL.out;have h2:=HB.out;rw [List.length_append] at h1;rw [List.length_take];omega)).mono ?_
   rintro x w2 ⟨rfl,s',k1,k2,k3,k4⟩
   have HO2:Hid (OwnN w2 B g n c ((D++s')++R.drop 20)):=qH (by simpa only [List.append_assoc] using k1)
   have H2:=qH (And.intro k2 k3)
   have HU2:=qH (KU.out.trans k4 fun _ _ h=>h)
   clear k1 k2 k3 k4
   go_wp2
   go_roundg (n-b)
   case measure=>have:=HB.out;omega
   have h1:=KL.out
   have h2:=HB.out
   have h3:=H2.2.length
   rw [List.length_take] at h3
   rw [List.length_append] at h1
   refine ⟨b,b2,D++s',R.drop 20,rfl,hlt,by omega,rfl,by first | rfl | go_num,qH ⟨by rw [List.length_append];omega,by rw [List.length_append,List.length_append,List.length_drop];omega⟩,HO2,qH ⟨.snoc _ _ KC.1 (by omega) H2.1,?_⟩,HU2⟩
   have h4:=((Zah.refl D).app (H2.2.app (Zah.refl (R.drop 20)))).trans (by rw [List.take_append_drop];exact KC.2)
   simpa only [List.append_assoc] using h4
 go_wp2_with fail
 refine (insN (p:=D) (s:=R) (q:=[]) _ (by have h1:=KO.out;rwa [List.append_nil]) hn KL.1 (by have h1:=KL.2;have h2:=KL.1;rw [List.length_append] at h1;omega)).mono ?_
 rintro x w2 ⟨rfl,s',k1,k2,k3,k4⟩
 rw [List.append_nil] at k1
 have HO2:=qH k1
 have H2:Hid (Ck (fun a b:Int=>a<b) ND.id 20 (D++s')/\Zah ND.id (D++s') l):=qH ⟨KC.1.ck (.last _ (by have h1:=KL.out;have h2:=HB.out;have h3:=k3.length;rw [List.length_append] at h1;omega) k2),((Zah.refl D).app k3).trans KC.2⟩
 have HU2:=qH (KU.out.trans k4 fun _ _ h=>h)
 obtain ⟨l2,hl2⟩:∃ l2,l2=D++s':=⟨_,rfl⟩
 rw [<- hl2] at HO2 H2
 clear k1 k2 k3 k4 hw1 hs1 hab hbb hl2 KO KC KU KL HB hlt
 go_wp2_with fail
 go_loopg [6,7,8,9] (n-20) (fun gh s6 s7 s8 s9 wx=>∃ (bs:Nat) (L:List ND),n-bs=gh/\0<bs/\bs<=2*n+20/\s6=.int .i64 bs/\Hid (OwnN wx B g n c L)/\Hid (Ck (fun a b:Int=>a<b) ND.id bs L/\Zah ND.id L l)/\Hid (Upd (fun b=>b=g) w wx))
 case atStart=>exact ⟨20,l2,rfl,by omega,by omega,rfl,HO2,H2,HU2⟩
 obtain ⟨bs,L,rfl,hbs,hbs2,rfl,JO,JC,JU⟩:=hrel
 by_cases hlt:bs<n
 · obtain ⟨wo,rfl⟩:∃ wo:World,wo=wr:=⟨_,rfl⟩
   obtain ⟨bd,hbd⟩:∃ bd,bd=2*bs:=⟨_,rfl⟩
   have hw1:IntKind.i64.wrap (2*(bs:Int))=(bd:Int):=by rw [IntWalk.i64_in _ ⟨by omega,by omega⟩];omega
   have hs1:2*(bs:Int)=(bd:Int):=by omega
   have hw2:IntKind.i64.wrap ((bs:Int)*2)=(bd:Int):=by rw [IntWalk.i64_in _ ⟨by omega,by omega⟩];omega
   have hs2:(bs:Int)*2=(bd:Int):=by omega
   have HBD:=qH hbd
   have hbd1:bs<bd/\bd<=2*n:=by omega
   obtain ⟨hbd2,hbd3⟩:=hbd1
   clear hbd
   go_wp2_with fail
   go_loopg [7,8] n (fun gh s7 s8 wx=>∃ (a b:Nat) (D R:List ND),n-a=gh/\a<=n/\b=a+bd/\s7=.int .i64 a/\s8=.int .i64 b/\Hid (D.length=a/\D.length+R.length=n)/\Hid (OwnN wx B g n c (D++R))/\Hid (Cf (fun a b:Int=>a<b) ND.id bd D/\Ck (fun a b:Int=>a<b) ND.id bs R/\Zah ND.id (D++R) l)/\Hid (Upd (fun b=>b=g) w wx))
   case atStart=>exact ⟨0,bd,[],L,rfl,Nat.zero_le _,by omega,rfl,rfl,qH ⟨rfl,by have:=JO.out.len;simpa using this⟩,JO,qH ⟨.nil,JC.out⟩,JU⟩
   obtain ⟨a,b,D,R,rfl,han,hb,rfl,rfl,KL,KO,KC,KU⟩:=hrel
   obtain ⟨b2,hb2⟩:∃ b2,b2=b+bd:=⟨_,rfl⟩
   obtain ⟨m,hm⟩:∃ m,m=a+bs:=⟨_,rfl⟩
   have hw3:IntKind.i64.wrap ((b:Int)+(bd:Int))=(b2:Int):=by rw [IntWalk.i64_in _ ⟨by omega,by omega⟩];omega
   have hs3:(b:Int)+(bd:Int)=(b2:Int):=by omega
   have hw4:IntKind.i64.wrap ((a:Int)+(bs:Int))=(m:Int):=by rw [IntWalk.i64_in _ ⟨by omega,by omega⟩];omega
   have hs4:(a:Int)+(bs:Int)=(m:Int):=by omega
   have HB:=qH (And.intro hb (And.intro hb2 hm))
   clear hb hb2 hm
   by_cases hlt2:b<=n
   · obtain ⟨c1,c2,R',hR,e1,e2,e3,e4,e5⟩:=KC.2.1.two hbs (by have:=KL.out;have:=HB.out;have:=HBD.out;omega)
     subst hR
     have HE:=qH (And.intro e1 (And.intro e2 (And.intro e3 (And.intro e4 e5))))
     clear e1 e2 e3 e4 e5
     go_wp2_with fail
     refine (smgN hn _ (p:=D) (l:=c1) (r:=c2) (q:=R') _ (Nat.le_refl _) (by have:=HE.out;omega) (by have:=HE.out;omega) KO.out KL.1 (by have:=HE.out;have:=HB.out;omega) (by have:=HE.out;have:=HB.out;have:=HBD.out;omega) HE.2.2.1 HE.2.2.2.1).mono ?_
     rintro x w3 ⟨rfl,s',k1,k2,k3,k4⟩
     have HO3:Hid (OwnN w3 B g n c ((D++s')++R')):=qH (by simpa only [List.append_assoc] using k1)
     have H3:=qH (And.intro k2 k3)
     have HU3:=qH (KU.out.trans k4 fun _ _ h=>h)
     clear k1 k2 k3 k4
     go_wp2
     go_roundg (n-b)
     case measure=>have:=HB.out;omega
     have h1:=KL.out
     have h2:=HB.out
     have h3:=H3.2.length
     have h4:=HE.out
     have h5:=HBD.out
     rw [List.length_append] at h3
     rw [List.length_append,List.length_append] at h1
     refine ⟨b,b2,D++s',R',rfl,hlt2,by omega,rfl,by first | rfl | go_num,qH ⟨by rw [List.length_append];omega,by rw [List.length_append];omega⟩,HO3,qH ⟨.snoc _ _ KC.1 (by omega) H3.1,h4.2.2.2.2,?_⟩,HU3⟩
     have h6:=((Zah.refl D).app (H3.2.app (Zah.refl R'))).trans (by have:=KC.2.2;simpa only [List.append_assoc] using this)
     simpa only [List.append_assoc] using h6
   by_cases hm:m<n
   · obtain ⟨c1,c2,hR,e1,e3,e4⟩:=KC.2.1.half (by have:=KL.out;have:=HB.out;omega) (by have:=KL.out;have:=HB.out;have:=HBD.out;omega)
     subst hR
     have HE:=qH (And.intro e1 (And.intro e3 e4))
     clear e1 e3 e4
     go_wp2_with fail
     refine (smgN hn _ (p:=D) (l:=c1) (r:=c2) (q:=[]) _ (Nat.le_refl _) (by have:=HE.out;omega) (by have h1:=KL.out;have:=HE.out;have:=HB.out;rw [List.length_append] at h1;omega) (by have h1:=KO.out;rwa [List.append_nil]) KL.1 (by have:=HE.out;have:=HB.out;omega) (by have h1:=KL.out;have:=HE.out;have:=HB.out;rw [List.length_append] at h1;omega) HE.2.1 HE.2.2).mono ?_
     rintro x w3 ⟨rfl,s',k1,k2,k3,k4⟩
     rw [List.append_nil] at k1
     have HO3:=qH k1
     have H3:=qH (And.intro k2 k3)
     have HU3:=qH (KU.out.trans k4 fun _ _ h=>h)
     clear k1 k2 k3 k4
     go_wp2
     go_roundg (n-bd)
     case measure=>omega
     have h1:=KL.out
     have h2:=HB.out
     have h3:=H3.2.length
     rw [List.length_append] at h3 h1
     exact ⟨bd,D++s',rfl,by omega,by omega,by first | rfl | go_num,HO3,qH ⟨KC.1.ck (.last _ (by omega) H3.1),((Zah.refl D).app H3.2).trans KC.2.2⟩,HU3⟩
   have hso:=KC.2.1.one (by have:=KL.out;have:=HB.out;omega)
   have HSO:=qH hso
   clear hso
   go_wp2
   go_roundg (n-bd)
   case measure=>omega
   have h1:=KL.out
   have h2:=HB.out
   exact ⟨bd,D++R,rfl,by omega,by omega,by first | rfl | go_num,KO,qH ⟨KC.1.ck (.last _ (by omega) HSO.out),KC.2.2⟩,KU⟩
 have HF:Hid (ZcT B g n c [] l [] w wr):=qH ⟨L,by rw [List.append_nil];exact JO.out,JC.1.one (by have:=JO.out.len;omega),JC.2,JU.out⟩
 go_wp2
 go_end0
 exact ⟨rfl,HF.out⟩
theorem ZpG {B n c:Nat} {A:Option Addr} {l:List ND} (w:World) (h:w.ownsRow B 43 3 (.slice A n c) n (l.flatMap ND.cells)) (hn:n<=35184372088832) :
 Calls Tryz.prog 68 #[.slice A n c,.func (.func 69) #[] #[]] w fun e w'=>e=.returned (.tuple #[]) /\
  ∃ s:List ND,w'.ownsRow B 43 3 (.slice A n c) n (s.flatMap ND.cells)/\Zaj (fun a b:Int=>a<b) ND.id s/\Zah ND.id s l/\Upd (fun b=>(Value.slice A n c).ownBlock=some b) w w':=by
 rcases h.2 with ⟨hv,h0⟩ | ⟨g,cap,cur,hv,_⟩
 · refine (Zjn w A n c _ (by omega)).mono ?_
   rintro e w' ⟨rfl,rfl⟩
   have hl:=Zca h ND.three (by omega)
   rw [h0] at hl
   exact ⟨rfl,l,h,by rw [List.eq_nil_of_length_eq_zero hl];exact Zaj.nil,Zah.refl _,Upd.refl _ _⟩
 injection hv with h1 h2 h3
 subst h1 h3
 have HO:=qH h
 clear h
 go_enter Tryz.func68,Tryz.ntmps68
 go_wp2_with fail
 refine (stcN _ HO.out hn).mono ?_
 rintro e w2 ⟨rfl,s,h1,h2,h3,h4⟩
 rw [List.nil_append,List.append_nil] at h1
 have H:=qH (And.intro h1 (And.intro h2 (And.intro h3 (h4.mono (S':=fun b=>(Value.slice (some ⟨g,0,none⟩) n c).ownBlock=some b) fun b _ hb=>by rw [hb];rfl))))
 clear h1 h2 h3 h4
 go_wp2
 go_end0
 exact ⟨rfl,s,H.out⟩
end Go.Proofs.YtkopcinhbjimiaaGreatDoor
