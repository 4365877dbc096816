/- Texts that the claim leans on: walks and plain laws, function by function. -/
import Derived.Maps.Own
import Derived.Maps.OwnSet
import Derived.Maps.OwnOps
import Derived.Maps.Views
import Derived.Laws.CopyOwn
import Derived.Test.YtmkjfhnlnhceiaaGreatDoorN05
set_option maxRecDepth 100000
set_option maxHeartbeats 16000000
namespace Go.Proofs.YtmkjfhnlnhceiaaGreatDoor
section
open Go.RowKit Go.Maps
theorem keyI:Keyed Tryz.prog 3:=int_keyed Tryz.underlying3
theorem Zec (w:World):(zeroValue 3).run Tryz.prog w=.ok (.int .i64 0) w:=by kernel_rfl
theorem wfI {x:Int} (h : -9223372036854775808<=x/\x<=9223372036854775807):(Lit.int .i64 x).wf=true:=by simp [Lit.wf,IntKind.min,IntKind.max,IntKind.signed,IntKind.bits];exact h
theorem ZsU {x:Int} (h:(Lit.int .i64 x).wf=true) : -9223372036854775808<=x/\x<=9223372036854775807:=by simp [Lit.wf,IntKind.min,IntKind.max,IntKind.signed,IntKind.bits] at h;exact h
def MapI (w:World) (b n:Nat) (f:Int->Int):Prop :=
 ∃ D:DataW Unit,w.ownsMap Tryz.prog 3 (plainElem Tryz.prog 3) b n D/\∀ x,D.atKey (.int .i64 x) (.lit (.int .i64 0))=.lit (.int .i64 (f x))
section
variable {w w':World} {b n:Nat} {f:Int->Int}
theorem MapI.made (w:World):MapI (w.alloc (.map #[] 0)) w.heap.size 0 fun _=>0:=⟨_,YfU w _ _ _,fun _=>rfl⟩
theorem MapI.upd {S:Nat->Prop} (h:MapI w b n f) (hu:Upd S w w') (hs:¬ S b):MapI w' b n f:=by obtain ⟨D,c,e⟩:=h;have d:=c.lt;obtain ⟨g,a,i,j⟩:=c;exact ⟨D,⟨g,a,(hu.block b d hs).trans i,j⟩,e⟩
theorem MapI.same (h:MapI w b n f) (hu:Same w w'):MapI w' b n f:=h.upd hu fun f=>f
theorem MapI.fit (h:MapI w b n f) {x:Int} (hx : -9223372036854775808<=x/\x<=9223372036854775807):(Instr.lookup 71 (.map (some b)) (.int .i64 x) false).run Tryz.prog w=.ok (.int .i64 (f x)) w /\ -9223372036854775808<=f x/\f x<=9223372036854775807:=by
 obtain ⟨D,e,g⟩:=h;obtain ⟨c,d,a,i⟩:=e.lookup_int keyI Tryz.underlying71 Tryz.underlying3 (Zec w) (keyOf_int_mk Tryz.underlying3 (wfI hx));rw [g] at a;injection a with a
 injection a with _ a
 subst a;exact ⟨d,ZsU i⟩
theorem MapI.put (h:MapI w b n f) (hn:n<maxLen) {x v:Int} (hx : -9223372036854775808<=x/\x<=9223372036854775807) (hv : -9223372036854775808<=v/\v<=9223372036854775807) :
 ∃ w',(Instr.mapUpdate 71 (.map (some b)) (.int .i64 x) (.int .i64 v)).run Tryz.prog w=.ok () w'/\MapI w' b (n+1) (fun y=>if y=x then v else f y)/\Upd (fun k=>k=b) w w':=by
 obtain ⟨D,e,g⟩:=h;obtain ⟨w',a,i,j⟩:=e.update keyI Tryz.underlying71 hn (keyOf_int_mk Tryz.underlying3 (wfI hx)) (plainElem_int Tryz.underlying3 (wfI hv));refine ⟨w',a,⟨_,i,fun y=>?_⟩,(Yaa _ w).grown j fun k d=>.inl (by injection d with d;exact d.symm)⟩;show _=DataW.lit (Lit.int .i64 (if y=x then v else f y));by_cases c:y=x
 · subst c;rw [atKey_put_same e.isMap (by simp [WideAt.IsKeyLit]),Yac rfl]
 rw [atKey_put_other (by intro h;injection h with _ h;exact c h),Yab c];exact g y
end
theorem Zbr {P:Program} {w w':World} {ops:Array Oper} {rest:List Oper} {o:Oper} {a:Act} {Q:Exit->Act->World->Prop}
 (hg:o.guard=none) (m x v:Operand) (t:TypeId) (hop:o.op=Op.mapUpdate t m x v) {mv xv vv:Value} (hm:a.eval m=mv) (hx:a.eval x=xv) (hv:a.eval v=vv)
 (hrun:(Instr.mapUpdate t mv xv vv).run P w=.ok () w') (hK:wpList P ops Q rest (a.put o.dst undef) w'):wpList P ops Q (o::rest) a w:=by
 refine wpList_plain hg fun c b=>?_;unfold Oper.wp;simp [execOp,hop,hm,hx,hv,hrun,Result.andThen];exact b _ _ hK
end
section
open Go.RowKit
def leB (a b:ByteArray):Bool:=Op.bytesLess a.toList b.toList || a.toList==b.toList
def ZbQ (k:ByteArray):Option ByteArray->Bool
 | none=>false
 | some q=>leB k q
def ZbR:Option ByteArray->List GPr->Int
 | _,[]=>0
 | prev,p::l=>if Zbj p.key=false then 60 else if ZbQ p.key prev=true then 6 else if chk p.val≠0 then chk p.val else ZbR (some p.key) l
def Zbc (l:List GPr):Int:=if 16<l.length then 64 else ZbR none l
def ZdD:Option ByteArray->List ByteArray->Int
 | _,[]=>0
 | prev,p::l=>if Zbj p=false then 60 else if ZbQ p prev=true then 6 else ZdD (some p) l
def Zba (l:List ByteArray):Int:=if 8<l.length then 63 else ZdD none l
def ZaT {α β:Type} (f:α->β) (l:List α):Nat->Option β
 | 0=>none
 | j+1=>(l[j]?).map f
def ZpD (ps:List PR):Prop:=∀ x∈ps,x.g.text.size<=9223372036854775807/\∀ s∈x.g.texts,s.size<=9223372036854775807
theorem ZdQ {α:Type} {l:List α} {i:Nat} {x:α} (h:l[i]?=some x):l.drop i=x::l.drop (i+1):=by obtain ⟨a,rfl⟩:=Yaq.1 h;exact YbF a
theorem ZhZ {F:Nat->Prop} {A:Option Addr} {n c:Nat} {ls:List ByteArray} (w:World) (h:WRow w F 1 A n c (ls.map Value.string)) {E:Int} (hE:Zba ls=E) :
 Calls Tryz.prog 81 #[.slice A n c] w fun e w'=>e=.returned (.int .i64 E)/\Same w w':=by
 have z:ls.length=n:=by have:=h.len;simpa using this
 have B:=h.max;have V:=h.le;unfold maxLen at B;have P:=qH h;unfold Zba at hE;rw [z] at hE;have R:=qH z;by_cases S:8<n
 · rw [Yac S] at hE;subst hE;go_enter Tryz.func81,Tryz.ntmps81;go_wp2;go_ret;exact ⟨rfl,Yaa _ _⟩
 rw [Yab S] at hE;have T:=qH hE;have W:¬ (8:Int)<n:=qO;clear h z hE;go_enter Tryz.func81,Tryz.ntmps81;go_wp2_with fail;go_loopg [10] n (fun gh ix wr=>∃ i:Nat,n-i=gh/\i<=n/\ix=.int .i64 i/\wr=w/\Hid (ZdD (ZaT id ls i) (ls.drop i)=E))
 case atStart=>exact ⟨0,rfl,Yah _,rfl,rfl,qH (by rw [Ycj];exact T)⟩
 obtain ⟨i,rfl,hi,rfl,rfl,I⟩:=hrel;by_cases C:i<n
 · obtain ⟨b,o,u,rfl,hb,_,g,hc⟩:=P.at_ C;rw [Yau] at g;cases hx:ls[i]? with
   | none=>rw [hx] at g;cases g
   | some x =>
     rw [hx] at g;injection g with g
     subst g;have a:=I.out;rw [ZdQ hx] at a;simp only [ZdD] at a;cases hg:Zbj x with
     | false =>
       rw [hg,Yac rfl] at a;have m:=qH a;have p:=qH hg;clear a hg hx;go_wp2_with fail;refine (Zbb x _).mono ?_;rintro e L ⟨rfl,rfl⟩;rw [p.out];go_wp2;go_ret;exact ⟨by rw [<- m.out];rfl,Yaa _ _⟩
     | true =>
       rw [hg,Yab (by simp)] at a;have p:=qH hg;obtain ⟨r,M⟩:∃ r,ZbQ x (ZaT id ls i)=r:=⟨_,rfl⟩
       rw [M] at a;have m:=qH a;have U:=qH hx;have q:=qH M;have s:r=true->(6:Int)=E:=fun h=>by have:=m.out;rw [Yac h] at this;exact this
       have t:r=false->ZdD (some x) (ls.drop (i+1))=E:=fun h=>by have:=m.out;rw [Yab (by rw [h];simp)] at this;exact this
       have D:=qH s;have v:=qH t;clear a hg hx M s t m;cases i with
       | zero =>
         obtain rfl:r=false:=q.symm;rw [YbW] at hc;go_wp2_with fail;refine (Zbb x _).mono ?_;rintro e L ⟨rfl,rfl⟩;rw [p.out];go_wp2;go_roundg (n-1)
         case measure=>omega
         case rel=>exact ⟨1,rfl,qO,by go_num,rfl,qH (by have l:=v.out (by trivial);simp only [ZaT,U.out];exact l)⟩
       | succ j =>
         have f:j<ls.length:=by rw [R.out];omega
         obtain ⟨b2,o2,u2,k,_,_,d,N⟩:=P.at_ (i:=j) qO;injection k with k
         injection k with e1 e2 _
         subst e1 e2;rw [Yau,Yar f] at d;injection d with d
         subst d;obtain ⟨y,O⟩:∃ y,ls[j]=y:=⟨_,rfl⟩
         rw [O] at N;have X:=qH (show ZbQ x (some y)=r from by rw [<- q.out];simp only [ZaT];rw [Yar f,O];rfl);have Y:(Op.bytesLess x.toList y.toList || x.toList==y.toList)=r:=X.out;clear O f;cases r with
         | true =>
           have G:=D.out rfl;subst G;go_wp2_with fail;refine (Zbb x _).mono ?_;rintro e L ⟨rfl,rfl⟩;rw [p.out];go_wp2;go_ret;exact ⟨rfl,Yaa _ _⟩
         | false =>
           go_wp2_with fail;refine (Zbb x _).mono ?_;rintro e L ⟨rfl,rfl⟩;rw [p.out];go_wp2;go_roundg (n-(j+1+1))
           case measure=>omega
           case rel=>exact ⟨j+1+1,rfl,qO,by go_num,rfl,qH (by have l:=v.out (by trivial);simp only [ZaT,U.out];exact l)⟩
 have Z:i=n:=qO;have H:E=0:=by have l:=I.out;rw [Ybt (by rw [R.out];omega)] at l;simpa [ZdD] using l.symm
 subst H;clear I T;go_wp2;go_ret;exact ⟨rfl,Yaa _ _⟩
theorem ZeL {F:Nat->Prop} {A:Option Addr} {n c:Nat} {ps:List PR} (w:World) (h:RdPs w F A n c ps) (hf:ZpD ps) {E:Int} (hE:Zbc (ps.map PR.dat)=E) :
 Calls Tryz.prog 82 #[.slice A n c] w fun e w'=>e=.returned (.int .i64 E)/\Same w w':=by
 have hl:=h.len;have a0:=h.row.max;have ah:=h.row.le;unfold maxLen at a0;have HR:=qH h;have HF:=qH hf;unfold Zbc at hE;rw [Yag,hl] at hE;have HL:=qH hl;by_cases M:16<n
 · rw [Yac M] at hE;subst hE;go_enter Tryz.func82,Tryz.ntmps82;go_wp2;go_ret;exact ⟨rfl,Yaa _ _⟩
 rw [Yab M] at hE;have HE:=qH hE;have ag:¬ (16:Int)<n:=qO;clear h hf hl hE;go_enter Tryz.func82,Tryz.ntmps82;go_wp2_with fail;go_loopg [11] n (fun gh ix wr=>∃ i:Nat,n-i=gh/\i<=n/\ix=.int .i64 i/\Hid (Same w wr)/\Hid (ZbR (ZaT PR.key ps i) ((ps.map PR.dat).drop i)=E))
 case atStart=>exact ⟨0,rfl,Yah _,rfl,qH (Yaa _ _),qH (by rw [Ycj];exact HE)⟩
 obtain ⟨i,rfl,hi,rfl,KS,KE⟩:=hrel;by_cases a3:i<n
 · have l:=qH (HR.same KS);obtain ⟨b,o,x,rfl,hb,_,hx,k,r0,r1,r2,r3,r4,r5⟩:=l.at_ a3;have a:=KE.out;have v:(ps.map PR.dat)[i]?=some x.dat:=by rw [Yau,hx];rfl
   rw [ZdQ v] at a;simp only [ZbR] at a;have HV:=qH ((l.val x k));have a4:=qH (HF.out x k).1;have a5:=qH (HF.out x k).2;have a6:=qH (show ZaT PR.key ps (i+1)=some x.key from by simp only [ZaT,hx];rfl);obtain ⟨f,⟨q,s,t,V,W⟩,X1,a1,b1,X2,a2,X⟩:=x;simp only at r0 r1 r2 r3 r4 r5;replace a:(if Zbj f=false then 60 else if ZbQ f (ZaT PR.key ps i)=true then 6 else if chk ⟨q,s,t,V,W⟩≠0 then chk ⟨q,s,t,V,W⟩ else ZbR (some f) ((ps.map PR.dat).drop (i+1)))=E:=a;have z:=(Yaa (fun _=>False) wr).alloc (.cells #[.string f,.int .i64 q,.int .i64 s,.string t,.slice X1 a1 b1,.slice X2 a2 X] 53);have N:=Yad wr 53 #[.string f,.int .i64 q,.int .i64 s,.string t,.slice X1 a1 b1,.slice X2 a2 X];have O:=qH (HV.same z);have B:=qH (KS.same z);have D:=qH N;clear z N;cases hg:Zbj f with
   | false =>
     rw [hg,Yac rfl] at a;have Z:=qH a;have HG:=qH hg;clear a hg hx v k;go_wp2_with fail;refine (Zbb f _).mono ?_;rintro e w2 ⟨rfl,rfl⟩;rw [HG.out];go_wp2;go_ret;exact ⟨by rw [<- Z.out];rfl,B⟩
   | true =>
     rw [hg,Yab (by simp)] at a;have HG:=qH hg;obtain ⟨r,hr⟩:∃ r,ZbQ f (ZaT PR.key ps i)=r:=⟨_,rfl⟩
     rw [hr] at a;have a7:=qH (show r=true->(6:Int)=E from fun h=>by rw [Yac h] at a;exact a);have a8:=qH (show r=false->(if chk ⟨q,s,t,V,W⟩≠0 then chk ⟨q,s,t,V,W⟩ else ZbR (some f) (List.drop (i+1) (ps.map PR.dat)))=E from fun h=>by rw [Yab (by rw [h];simp)] at a;exact a);have P:=qH hr;clear a hg hr hx v k;go_wp2_with fail;refine (Zbb f _).mono ?_;rintro e w2 ⟨rfl,rfl⟩;rw [HG.out];go_upto_region 8 with fail;have R:=qH (l.same ((Yaa (fun _=>False) wr).alloc (.cells #[.string f,.int .i64 q,.int .i64 s,.string t,.slice X1 a1 b1,.slice X2 a2 X] 53)));clear r0 r1 r2 r3 r4 r5 KS KE l;generalize wr.alloc (.cells #[.string f,.int .i64 q,.int .i64 s,.string t,.slice X1 a1 b1,.slice X2 a2 X] 53)=U at *;generalize wr.heap.size=g5 at *;have p0:=D.c0;go_cut [32] from 20 to 32 (fun af wx=>af=.bool r/\∃ d,wx=U.drewN d)
     case first =>
      by_cases G:i=0
      · have a9:¬ (0:Int)<i:=qO;have u:¬ 0<i:=qO;have ai:decide (0<i)=false:=YaM u;have aa:r=false:=by rw [<- P.out,G];rfl
        subst aa;clear G;go_quiet (fail);go_wp2;go_meet
        case rel=>exact ⟨rfl,_,rfl⟩
      obtain ⟨j,hj⟩:∃ j,i=j+1:=⟨i-1,qO⟩
      have a9:(0:Int)<i:=qO;have u:0<i:=qO;have ab:j<n:=qO;have aj:IntKind.i64.wrap ((i:Int)-1)=(j:Int):=by rw [YbQ];omega
      obtain ⟨X,o2,y,I,_,_,hy,_,q0,_⟩:=R.at_ ab;injection I with I
      injection I with e1 e2 _
      subst e1 e2;obtain ⟨ky,L⟩:∃ ky,y.key=ky:=⟨_,rfl⟩
      rw [L] at q0;have ak:(Op.bytesLess f.toList ky.toList || f.toList==ky.toList)=r:=by rw [<- P.out,hj];simp only [ZaT];rw [hy];simp only [Ybw,L];rfl
      clear hy L hj G;go_quiet (fail);go_wp2;go_meet
      case rel=>exact ⟨rfl,_,rfl⟩
     obtain ⟨rfl,d,rfl⟩:=hcut;have m:Same U (U.drewN d):=(Yaa _ U).drewN d;have H:=qH (B.same m);have g:=qH (D.same m);have S:=qH (O.same m);clear m p0 B D O R;generalize U.drewN d=w6 at *;cases r with
     | true =>
       have ac:=a7.out rfl;subst ac;go_wp2;go_ret;exact ⟨rfl,H⟩
     | false =>
       have p:=a8.out rfl;have p1:=g.c1;have p2:=g.c2;have p3:=g.c3;have p4:=g.c4;have p5:=g.c5;have Z:=qH p;clear p g;go_wp2_with fail;refine (ZgZ _ S a4 a5).mono ?_;rintro e w7 ⟨rfl,Y⟩;have T:=qH (H.same Y);clear Y p1 p2 p3 p4 p5 H S;obtain ⟨C,hC⟩:∃ C,chk ⟨q,s,t,V,W⟩=C:=⟨_,rfl⟩
       have p:=Z.out;rw [hC] at p ⊢;by_cases hz:C=0
       · subst hz;rw [Yab (by simp)] at p;have ad:=qH p;clear p Z hC;go_wp2;go_roundg (n-(i+1))
         case measure=>omega
         case rel=>exact ⟨i+1,rfl,qO,by go_num,T,qH (by rw [a6.out];exact ad)⟩
       rw [Yac hz] at p;subst p;have al:(C != 0)=true:=by rw [Ybh];exact hz
       go_wp2;go_ret;exact ⟨rfl,T⟩
 have am:i=n:=qO;have ae:E=0:=by have h1:=KE.out;rw [Ybt (by rw [Yag,HL.out];omega)] at h1;simpa [ZbR] using h1.symm
 subst ae;clear KE HE;go_wp2;go_ret;exact ⟨rfl,KS⟩
def ZaO (k:Int):Option Int->Bool
 | none=>false
 | some q=>decide (k<=q)
def Zcx (prev:Option Int) (g:Zaw):Int:=if g.id<0\/1024<=g.id then 61 else if ZaO g.id prev=true then 6 else if Zba g.labels≠0 then Zba g.labels else Zbc g.props
def Zdh (there:Int->Bool) (prev:Option Int) (g:GRel):Int :=
 if g.id<0\/2048<=g.id then 62 else if ZaO g.id prev=true then 6 else if Zbj g.type=false then 60 else if there g.src=false\/there g.dst=false then 65 else Zbc g.props
theorem ZfK {F:Nat->Prop} {A:Option Addr} {n c:Nat} {ns:List ND} (w:World) (h:RdNs w F A n c ns) (hf:∀ x∈ns,ZpD x.props) {i:Nat} (hi:i<n) {x:ND} (hx:ns[i]?=some x) {E:Int} (hE:Zcx (ZaT ND.id ns i) x.dat=E) :
 Calls Tryz.prog 37 #[.slice A n c,.int .i64 i] w fun e w'=>e=.returned (.int .i64 E)/\Same w w':=by
 have V:=h.row.max;have a7:=h.row.le;unfold maxLen at V;obtain ⟨b,o,x',rfl,hb,_,T,q,r0,r1,r2⟩:=h.at_ hi;obtain rfl:x=x':=Yax (hx.symm.trans T);have HR:=qH h;have HL:=qH h.len;have t:=qH (h.lab x q);have u:=qH (h.pro x q);have HF:=qH (hf x q);obtain ⟨id,a,AL,nL,cL,props,AP,nP,cP⟩:=x;simp only at r0 r1 r2;replace hE:(if id<0\/1024<=id then 61 else if ZaO id (ZaT ND.id ns i)=true then 6 else if Zba a≠0 then Zba a else Zbc (props.map PR.dat))=E:=hE;have W:=qH hE;have z:=(Yaa (fun _=>False) w).alloc (.cells #[.int .i64 id,.slice AL nL cL,.slice AP nP cP] 56);have L:=Yad w 56 #[.int .i64 id,.slice AL nL cL,.slice AP nP cP];have f:=qH z;have B:=qH L;have M:=qH (h.same z);clear h hf hx T q hE z L;go_enter Tryz.func37,Tryz.ntmps37;by_cases hid:id<0\/1024<=id
 · have hE:=(Yac hid).symm.trans W;subst hE;by_cases h0:id<0
   · go_wp2;go_ret;exact ⟨rfl,f⟩
   have h1:1024<=id:=qO;go_wp2;go_ret;exact ⟨rfl,f⟩
 have h0:¬ id<0:=qO;have h1:¬ 1024<=id:=qO;have p:=qH ((Yab hid).symm.trans W);clear hid W;go_upto_region 4 with fail;obtain ⟨r,hr⟩:∃ r,ZaO id (ZaT ND.id ns i)=r:=⟨_,rfl⟩
 have D:=qH hr;have g:=qH (t.same f);have k:=qH (u.same f);clear hr r0 r1 r2 HR t u;generalize w.alloc (.cells #[.int .i64 id,.slice AL nL cL,.slice AP nP cP] 56)=S at *;generalize w.heap.size=g5 at *;have p0:=B.c0;go_cut [20] from 20 to 33 (fun a6 wx=>a6=.bool r/\∃ d,wx=S.drewN d)
 case first =>
  by_cases G:i=0
  · have X:¬ (0:Int)<i:=qO;have v:¬ 0<i:=qO;have a8:decide (0<i)=false:=YaM v;have Y:r=false:=by rw [<- D.out,G];rfl
    subst Y;clear G;go_quiet (fail);go_wp2;go_meet
    case rel=>exact ⟨rfl,_,rfl⟩
  obtain ⟨j,hj⟩:∃ j,i=j+1:=⟨i-1,qO⟩
  have X:(0:Int)<i:=qO;have v:0<i:=qO;have Z:j<n:=qO;have a9:IntKind.i64.wrap ((i:Int)-1)=(j:Int):=by rw [YbQ];omega
  obtain ⟨b2,o2,y,H,_,_,hy,_,q0,_⟩:=M.at_ Z;injection H with H
  injection H with e1 e2 _
  subst e1 e2;obtain ⟨iy,I⟩:∃ iy,y.id=iy:=⟨_,rfl⟩
  rw [I] at q0;have a0:decide (id<=iy)=r:=by rw [<- D.out,hj];simp only [ZaT];rw [hy];simp only [Ybw,I];rfl
  clear hy I hj G;go_quiet (fail);go_wp2;go_meet
  case rel=>exact ⟨by first | rfl | rw [a0],_,rfl⟩
 obtain ⟨rfl,d,rfl⟩:=hcut;have l:Same S (S.drewN d):=(Yaa _ S).drewN d;have N:=qH (f.same l);have O:=qH (B.same l);have a1:=qH (g.same l);have a2:=qH (k.same l);clear l p0 f B M g k;generalize S.drewN d=w6 at *;rw [D.out] at p;cases r with
 | true =>
   have a3:(6:Int)=E:=(Yac (by trivial)).symm.trans p.out;subst a3;go_wp2;go_ret;exact ⟨rfl,N⟩
 | false =>
   have P:=qH ((Yab (by simp)).symm.trans p.out);obtain ⟨C,hC⟩:∃ C,Zba a=C:=⟨_,rfl⟩
   have m:=P.out;rw [hC] at m;have p1:=O.c1;go_wp2_with fail;refine (ZhZ _ a1 hC).mono ?_;rintro e w7 ⟨rfl,s⟩;have R:=qH (N.same s);have a4:=qH (a2.same s);have p2:=(O.same s).c2;clear p1 s p P;by_cases hz:C=0
   · subst hz;rw [Yab (by simp)] at m;go_wp2_with fail;refine (ZeL _ a4 HF m).mono ?_;rintro e w8 ⟨rfl,U⟩;have a5:=qH (R.same U);clear U;go_wp2;go_ret;exact ⟨rfl,a5⟩
   rw [Yac hz] at m;subst m;have aa:(C != 0)=true:=by rw [Ybh];exact hz
   go_wp2;go_ret;exact ⟨rfl,R⟩
theorem Zgo {F:Nat->Prop} {A:Option Addr} {n c:Nat} {rs:List RL} (w:World) (h:RdRs w F A n c rs) (hf:∀ x∈rs,ZpD x.props) {m k:Nat} {f:Int->Int} (hm:MapI w m k f) {i:Nat} (hi:i<n) {x:RL} (hx:rs[i]?=some x) {E:Int} (hE:Zdh (fun y=>f y != 0) (ZaT RL.id rs i) x.dat=E) :
 Calls Tryz.prog 38 #[.slice A n c,.int .i64 i,.map (some m)] w fun e w'=>e=.returned (.int .i64 E)/\Same w w':=by
 have a2:=h.row.max;have ae:=h.row.le;unfold maxLen at a2;obtain ⟨b,o,x',rfl,hb,_,a0,C,r0,r1,r2,r3,r4⟩:=h.at_ hi;obtain rfl:x=x':=Yax (hx.symm.trans a0);have HR:=qH h;have HL:=qH h.len;have D:=qH (h.pro x C);have HF:=qH (hf x C);have T:=qH (h.id x C);obtain ⟨id,a,u,dst,props,AP,nP,cP⟩:=x;simp only at r0 r1 r2 r3 r4;replace hE:(if id<0\/2048<=id then 62 else if ZaO id (ZaT RL.id rs i)=true then 6 else if Zbj a=false then 60 else if (f u != 0)=false\/(f dst != 0)=false then 65 else Zbc (props.map PR.dat))=E:=hE;have HE:=qH hE;have v:=(Yaa (fun _=>False) w).alloc (.cells #[.int .i64 id,.string a,.int .i64 u,.int .i64 dst,.slice AP nP cP] 60);have U:=Yad w 60 #[.int .i64 id,.string a,.int .i64 u,.int .i64 dst,.slice AP nP cP];have l:=qH v;have H:=qH U;have V:=qH (h.same v);have W:=qH (hm.same v);clear h hf hx a0 C hE v U hm;go_enter Tryz.func38,Tryz.ntmps38;by_cases hid:id<0\/2048<=id
 · have hE:=(Yac hid).symm.trans HE;subst hE;by_cases h0:id<0
   · go_wp2;go_ret;exact ⟨rfl,l⟩
   have h1:2048<=id:=qO;go_wp2;go_ret;exact ⟨rfl,l⟩
 have h0:¬ id<0:=qO;have h1:¬ 2048<=id:=qO;have z:=qH ((Yab hid).symm.trans HE);clear hid HE;go_upto_region 4 with fail;obtain ⟨r,hr⟩:∃ r,ZaO id (ZaT RL.id rs i)=r:=⟨_,rfl⟩
 have I:=qH hr;have p:=qH (D.same l);clear hr r0 r1 r2 r3 r4 HR D;generalize w.alloc (.cells #[.int .i64 id,.string a,.int .i64 u,.int .i64 dst,.slice AP nP cP] 60)=Z at *;generalize w.heap.size=g5 at *;have p0:=H.c0;go_cut [21] from 21 to 34 (fun ab wx=>ab=.bool r/\∃ d,wx=Z.drewN d)
 case first =>
  by_cases L:i=0
  · have a3:¬ (0:Int)<i:=qO;have G:¬ 0<i:=qO;have af:decide (0<i)=false:=YaM G;have a4:r=false:=by rw [<- I.out,L];rfl
    subst a4;clear L;go_quiet (fail);go_wp2;go_meet
    case rel=>exact ⟨rfl,_,rfl⟩
  obtain ⟨j,hj⟩:∃ j,i=j+1:=⟨i-1,qO⟩
  have a3:(0:Int)<i:=qO;have G:0<i:=qO;have a5:j<n:=qO;have ag:IntKind.i64.wrap ((i:Int)-1)=(j:Int):=by rw [YbQ];omega
  obtain ⟨b2,o2,y,O,_,_,hy,_,q0,_⟩:=V.at_ a5;injection O with O
  injection O with e1 e2 _
  subst e1 e2;obtain ⟨iy,P⟩:∃ iy,y.id=iy:=⟨_,rfl⟩
  rw [P] at q0;have a6:decide (id<=iy)=r:=by rw [<- I.out,hj];simp only [ZaT];rw [hy];simp only [Ybw,P];rfl
  clear hy P hj L;go_quiet (fail);go_wp2;go_meet
  case rel=>exact ⟨by first | rfl | rw [a6],_,rfl⟩
 obtain ⟨rfl,d,rfl⟩:=hcut;have q:Same Z (Z.drewN d):=(Yaa _ Z).drewN d;have s:=qH (l.same q);have B:=qH (H.same q);have M:=qH (W.same q);have a7:=qH (p.same q);clear q p0 l H V W p;generalize Z.drewN d=w6 at *;rw [I.out] at z;cases r with
 | true =>
   have a8:(6:Int)=E:=(Yac (by trivial)).symm.trans z.out;subst a8;go_wp2;go_ret;exact ⟨rfl,s⟩
 | false =>
   have N:=qH ((Yab (by simp)).symm.trans z.out);have p1:=B.c1;go_wp2_with fail;refine (Zbb a _).mono ?_;rintro e w7 ⟨rfl,rfl⟩;clear p1 z;cases hg:Zbj a with
   | false =>
     have X:(60:Int)=E:=(Yac hg).symm.trans N.out;subst X;go_wp2;go_ret;exact ⟨rfl,s⟩
   | true =>
     have Y:=qH ((Yab (by rw [hg];simp)).symm.trans N.out);obtain ⟨ac,-,-⟩:=M.fit T.2.1;obtain ⟨ad,-,-⟩:=M.fit T.2.2;have p2:=B.c2;have p3:=B.c3;have p4:=B.c4;obtain ⟨fs,R⟩:∃ y,f u=y:=⟨_,rfl⟩
     obtain ⟨fd,S⟩:∃ y,f dst=y:=⟨_,rfl⟩
     rw [R] at ac;rw [S] at ad;have t:=Y.out;rw [R,S] at t;clear hg N Y M R S;by_cases g:(fs != 0)=false\/(fd != 0)=false
     · rw [Yac g] at t;subst t;by_cases z1:fs=0
       · subst z1;go_wp2;go_ret;exact ⟨rfl,s⟩
       have z2:fd=0:=by
        rcases g with h | h
        · exact absurd h (by simpa using z1)
        simpa using h
       subst z2;have a9:(fs==0)=false:=by rw [Ybn];exact z1
       go_wp2;go_ret;exact ⟨rfl,s⟩
     rw [Yab g] at t;have a9:(fs==0)=false:=by
      cases h:(fs==0) with
      | false=>rfl
      | true=>exact absurd (Or.inl (by simp only [bne,h];rfl)) g
     have ah:(fd==0)=false:=by
      cases h:(fd==0) with
      | false=>rfl
      | true=>exact absurd (Or.inr (by simp only [bne,h];rfl)) g
     clear g;go_wp2_with fail;refine (ZeL _ a7 HF t).mono ?_;rintro e w8 ⟨rfl,a1⟩;have aa:=qH (s.same a1);clear a1;go_wp2;go_ret;exact ⟨rfl,aa⟩
def ZaR:Option Int->Nat->List Zaw->Option (Int×Nat)
 | _,_,[]=>none
 | prev,i,x::l=>if Zcx prev x≠0 then some (Zcx prev x,i) else ZaR (some x.id) (i+1) l
def Zbt (there:Int->Bool):Option Int->Nat->List GRel->Option (Int×Nat)
 | _,_,[]=>none
 | prev,i,x::l=>if Zdh there prev x≠0 then some (Zdh there prev x,i) else Zbt there (some x.id) (i+1) l
def Zgp (g:ZaN) (y:Int):Bool:=decide (y∈g.nodes.map Zaw.id)
structure GFit (g:GR):Prop where
 nodes:∀ x∈g.ns,ZpD x.props
 rels:∀ x∈g.rs,ZpD x.props
 nN:g.nN<=140737488351232
 nR:g.nR<=140737488351232
def Zbu (g:ZaN):Option (Int×Nat) :=
 match ZaR none 0 g.nodes with
 | some e=>some e
 | none=>(Zbt (Zgp g) none 0 g.rels).map fun e=>(e.1,g.nodes.length+e.2)
theorem ZeM {l:List Int} {i:Nat} {x:Int} (h:l[i]?=some x) (y:Int):(l.take (i+1)).count y=(l.take i).count y+(if y=x then 1 else 0):=by
 rw [Ybo,h,Yem,Yer];congr 1;by_cases a:y=x
 · subst a;simp
 rw [Yab a,Ygb];simpa using fun h=>a h
theorem Zns {F:Nat->Prop} (w:World) (g:GR) (h:RdG w F g) (hf:GFit g) {e:Int} {i:Nat} (hE:Zbu g.dat=some (e,i)) :
 Calls Tryz.prog 16 #[g.agg] w fun x w'=>x=.returned (.tuple #[.int .i64 e,.int .i64 i])/\Same w w':=by
 obtain ⟨p,AN,u,cN,D,AR,z,cR⟩:=g;have HE:=qH hE;have a1:=h.nodes.row.max;have aw:=h.nodes.row.le;have E:=h.rels.row.max;have a2:=h.rels.row.le;unfold maxLen at a1 E;have ax:=hf.nN;have ay:=hf.nR;have HL:=qH h.nodes.len;have I:=qH h.rels.len;simp only at a1 aw E a2 ax ay HL I;have a3:=(Yaa (fun _=>False) w).alloc (.cells #[.slice AN u cN,.slice AR z cR] 26);have a4:=qH (Yad w 26 #[.slice AN u cN,.slice AR z cR]);have L:=MapI.made (w.alloc (.cells #[.slice AN u cN,.slice AR z cR] 26));have M:=a3.alloc (.map #[] 0);have a5:=qH (a4.alloc (.map #[] 0));rw [Yav] at L;have az:=qH L;have b0:=qH ((h.mono (F':=fun b=>b<w.heap.size) fun b hb _=>hb).same M);have b1:=qH M;have HF:=qH hf;have b2:=@YcC Tryz.prog;clear h hf hE a3 M L a4;go_enter Tryz.func16,Tryz.ntmps16;go_upto_region 2 with fail;clear b2;generalize (w.alloc (.cells #[.slice AN u cN,.slice AR z cR] 26)).alloc (.map #[] 0)=w1 at *;have p0:=a5.c0;go_wp2_with fail;clear p0;go_loopg [15] u (fun gh ix wr=>∃ (i:Nat) (f:Int->Int),u-i=gh/\i<=u/\ix=.int .i64 i/\Hid (MapI wr (w.heap.size+1) i f)/\Hid (∀ y,f y=(((p.map ND.id).take i).count y:Nat))/\Hid (Upd (fun k=>k=w.heap.size+1) w1 wr)/\Hid (ZaR none 0 (p.map ND.dat)=ZaR (ZaT ND.id p i) i ((p.map ND.dat).drop i)))
 case atStart=>exact ⟨0,_,rfl,Yah _,rfl,az,qH (by simp),qH (Yaa _ _),qH rfl⟩
 obtain ⟨i,f,rfl,hi,rfl,KM,KF,KU,KE⟩:=hrel;have N:Same w wr:=b1.trans KU.out fun b hb hh=>qO;have O:=qH N;have s:=qH (b0.upd KU fun b hb hh=>qO);have P:=qH (a5.upd KU qO);have bg:=N.size;clear N;by_cases q:i<u
 · obtain ⟨b,o,x,hA,hb,_,A,ak,r0,r1,r2⟩:=s.nodes.at_ q;simp only at hA;subst hA;have d:=KE.out;have t:(p.map ND.dat)[i]?=some x.dat:=by rw [Yau,A];rfl
   rw [ZdQ t] at d;simp only [ZaR] at d;have R:=qH (s.nodes.id x ak);have HX:=qH A;have a6:=qH (ZeM (l:=p.map ND.id) (i:=i) (x:=x.id) (by rw [Yau,A];rfl));have S:=qH (show ZaT ND.id p (i+1)=some x.dat.id from by simp only [ZaT,A];rfl);obtain ⟨C,X⟩:∃ C,Zcx (ZaT ND.id p i) x.dat=C:=⟨_,rfl⟩
   have HC:=qH X;rw [X] at d;have HK:=qH d;obtain ⟨id,hid⟩:∃ id,x.id=id:=⟨_,rfl⟩
   obtain ⟨AL,nL,cL,hL⟩:∃ a b c,x.AL=a/\x.nL=b/\x.cL=c:=⟨_,_,_,rfl,rfl,rfl⟩
   obtain ⟨AP,nP,cP,hP⟩:∃ a b c,x.AP=a/\x.nP=b/\x.cP=c:=⟨_,_,_,rfl,rfl,rfl⟩
   obtain ⟨al,am,an⟩:=hL;obtain ⟨ao,ap,aq⟩:=hP;rw [hid] at r0 R a6;rw [al,am,an] at r1;rw [ao,ap,aq] at r2;have r:=(Yaa (fun _=>False) wr).alloc (.cells #[.int .i64 id,.slice AL nL cL,.slice AP nP cP] 56);have a7:=qH (Yad wr 56 #[.int .i64 id,.slice AL nL cL,.slice AP nP cP]);have a8:=qH (s.same r);have a9:=qH (KM.same r);have aa:=qH (KU.same r);have ab:=qH (O.same r);have p0:=(P.same r).c0;clear r A ak t d X al am an ao ap aq s O KM KU;go_wp2_with fail;refine (ZfK _ a8.nodes HF.nodes q HX HC).mono ?_;rintro y w7 ⟨rfl,n⟩;have T:=qH (ab.same n);have ac:=qH (a9.same n);have b3:=qH (aa.same n);have q0:=(a7.same n).c0;clear n p0 r0 r1 r2 ab a9 aa a8 a7;by_cases B:C=0
   · subst B;have U:=qH ((Yab (by simp)).symm.trans HK.symm);obtain ⟨lk,l1,l2⟩:=ac.fit R.out;have ad:=KF.out id;have b4:((p.map ND.id).take i).count id<=i:=Yaj Yfo (by rw [YaJ];omega);obtain ⟨fv,Y⟩:∃ v,f id=v:=⟨_,rfl⟩
     rw [Y] at lk ad;obtain ⟨Z,H⟩:∃ v,fv+1=v:=⟨_,rfl⟩
     have bh:IntKind.i64.wrap (fv+1)=Z:=by rw [YbQ];omega
     obtain ⟨w8,ar,au,av⟩:=ac.put (v:=Z) (by unfold maxLen;omega) R.out qO;have b5:=qH au;have b6:=qH (b3.trans av fun _ _ h=>h);have b7:=qH (show f id+1=Z from by rw [Y,H]);clear au av ad Y H b4;go_wp2_with (at_mapUpdate;go_must (refine Zbr rfl _ _ _ _ rfl rfl rfl rfl ar ?_));go_roundg (u-(i+1))
     case measure=>omega
     refine ⟨i+1,_,rfl,qO,by go_num,b5,qH fun y=>?_,b6,qH ?_⟩
     · rw [a6.out y];by_cases hy:y=id
       · subst hy;rw [Yac rfl,Yac rfl,<-b7.out,KF.out];simp
       rw [Yab hy,Yab hy,KF.out];simp
     rw [S.out];exact U.symm
   have G:=(Yac B).symm.trans HK.symm;have b8:(C != 0)=true:=by rw [Ybh];exact B
   have m:=HE.out;unfold Zbu at m;simp only [GR.dat] at m;rw [<- G] at m;injection m with m
   injection m with h1 h2
   subst h1 h2;go_wp2
   go_ret2
   exact ⟨rfl,T⟩
 have b9:i=u:=qO;subst b9;have d:=KE.out;rw [Ybt (by rw [Yag,HL.out];omega)] at d;simp only [ZaR] at d;have m:=HE.out;unfold Zbu at m;simp only [GR.dat] at m;rw [d] at m;obtain ⟨⟨e1,i1⟩,a0,bf⟩:=YcJ.1 m;injection bf with h1 h2
 simp only at h1 h2;subst h1;rw [Yag,HL.out] at h2;have V:Zgp (GR.dat ⟨p,AN,i,cN,D,AR,z,cR⟩)=fun y=>f y != 0:=by
  funext y;have hf:=KF.out y;rw [YaB (by rw [Yag,HL.out];omega)] at hf;unfold Zgp;simp only [GR.dat,Ybf];have W:(p.map (Zaw.id ∘ ND.dat))=p.map ND.id:=Ycq fun _ _=>rfl;rw [W];by_cases hm:y∈p.map ND.id
  · rw [YaV hm];have:0<(p.map ND.id).count y:=Yfp.2 hm;rw [eq_comm,Ybh];omega
  rw [YaM hm];have:(p.map ND.id).count y=0:=Ygb.2 hm;have B:f y=0:=qO;rw [B];rfl
 simp only [GR.dat] at V;rw [V] at a0;have ae:=qH a0;have af:=qH h2;have p1:=P.c1;have ba:=qH KM.out;clear d m a0 h2 V KE KF KU HE q KM;go_wp2_with fail;clear p1;generalize wr=w2 at *;go_loopg [37] z (fun gh ix wr=>∃ (j:Nat),z-j=gh/\j<=z/\ix=.int .i64 j/\Hid (Same w2 wr)/\Hid (Zbt (fun y=>f y != 0) none 0 (D.map RL.dat)=Zbt (fun y=>f y != 0) (ZaT RL.id D j) j ((D.map RL.dat).drop j)))
 case atStart=>exact ⟨0,rfl,Yah _,rfl,qH (Yaa _ _),qH rfl⟩
 obtain ⟨j,rfl,hj,rfl,KS,KE⟩:=hrel;have bb:=qH (s.same KS);have ag:=qH (P.same KS);have bc:=qH (ba.same KS);have ah:=qH (O.same KS);have d:=KE.out;rw [ae.out] at d;clear KE;by_cases q:j<z
 · have ai:j<D.length:=by rw [I.out];exact q
   obtain ⟨x,A⟩:∃ x,D[j]?=some x:=⟨_,Yar ai⟩
   have t:(D.map RL.dat)[j]?=some x.dat:=by rw [Yau,A];rfl
   rw [ZdQ t] at d;simp only [Zbt] at d;have HX:=qH A;have S:=qH (show ZaT RL.id D (j+1)=some x.dat.id from by simp only [ZaT,A];rfl);obtain ⟨C,X⟩:∃ C,Zdh (fun y=>f y != 0) (ZaT RL.id D j) x.dat=C:=⟨_,rfl⟩
   have HC:=qH X;rw [X] at d;have HK:=qH d;have p1:=ag.c1;clear A t d X ai;go_wp2_with fail;refine (Zgo _ bb.rels HF.rels bc q HX HC).mono ?_;rintro y w7 ⟨rfl,n⟩;have T:=qH (ah.same n);have aj:=qH (ag.same n);by_cases B:C=0
   · subst B;have G:=HK.trans (Yab (by simp));have U:=qH G;have bd:=qH (KS.same n);clear G ah p1 n;go_wp2;go_roundg (z-(j+1))
     case measure=>omega
     case rel=>exact ⟨j+1,rfl,qO,by go_num,bd,qH (by rw [ae.out,S.out];exact U)⟩
   have G:=HK.trans (Yac B);injection G with G
   injection G with h1 h2
   have b8:(C != 0)=true:=by rw [Ybh];exact B
   have p0:=aj.c0;clear n p1 HK aj;subst h1 h2;have h3:=af.out;have bi:IntKind.i64.wrap ((i:Int)+(i1:Int))=((i+i1:Nat):Int):=by rw [YbQ];omega
   go_wp2_with fail;go_quiet (fail);go_wp2
   go_ret2
   exact ⟨by rw [<- af.out];simp,T.same ((Yaa _ _).drewN _)⟩
 rw [Ybt (by rw [Yag,I.out];omega)] at d;simp [Zbt] at d
def WtrV (w:World) (B r:Nat) (v:Value) (bs:List UInt8):Prop:=B<=r/\Blk w r 244 #[v]/\OwnB w B v bs
theorem Wtr.open {w:World} {B r:Nat} {bs:List UInt8} (h:Wtr w B r bs):∃ v,WtrV w B r v bs:=by obtain ⟨a,v,b,c⟩:=h;exact ⟨v,a,b,c⟩
theorem WtrV.wtr {w:World} {B r:Nat} {v:Value} {bs:List UInt8} (h:WtrV w B r v bs):Wtr w B r bs:=⟨h.1,v,h.2.1,h.2.2⟩
theorem WtrV.upd {w w':World} {S:Nat->Prop} {B r:Nat} {v:Value} {bs:List UInt8} (h:WtrV w B r v bs) (hu:Upd S w w') (hr:¬ S r) (hs:∀ g,v.ownBlock=some g->¬ S g):WtrV w' B r v bs :=
 ⟨h.1,h.2.1.upd hu hr,Zae h.2.2 hu hs⟩
theorem WtrV.same {w w':World} {B r:Nat} {v:Value} {bs:List UInt8} (h:WtrV w B r v bs) (hu:Same w w'):WtrV w' B r v bs:=h.upd hu (fun f=>f) fun _ _ f=>f
theorem WtrV.lt {w:World} {B r:Nat} {v:Value} {bs:List UInt8} (h:WtrV w B r v bs):r<w.heap.size:=h.2.1.lt
structure WOn (w:World) (B r:Nat) (v:Value) (bs:List UInt8) (w':World):Prop where
 ex:∃ v',WtrV w' B r v' bs/\(v'.ownBlock=v.ownBlock\/∃ g,v'.ownBlock=some g/\w.heap.size<=g)
 upd:Upd (fun b=>b=r\/v.ownBlock=some b) w w'
theorem Zum {w:World} {B r:Nat} {v:Value} {bs:List UInt8} (h:WtrV w B r v bs) (width n:Int) (hw:ZaK width=true) (hn:0<=n) (hl:bs.length+8<=140737488355328) :
 Calls Tryz.prog 111 #[.pointer (some ⟨r,0,none⟩),.int .i64 width,.int .u64 n] w fun e w'=>e=.returned (.tuple #[])/\WOn w B r v (bs++beb width.toNat n.toNat) w':=by
 have f:0<=width:=by simp only [ZaK,YcH,YbE] at hw;omega
 obtain ⟨width,rfl⟩:=Yej f;obtain ⟨n,rfl⟩:=Yej hn;rw [YaN,YaN];clear f hn;obtain ⟨y,k,q⟩:=h;have s:=k.lt;have l:v.ownBlock≠some r:=k.ne_own q qD;have t:=k.cell 0;simp only [Ybj,YaW] at t;have i:1<=width/\width<=8:=by simp only [ZaK,YcH,YbE] at hw;omega
 have u:=qH hw;clear hw;go_enter Tryz.func111,Tryz.ntmps111;go_wp2_with fail;refine (ZeB _ _).mono ?_;rintro e w' ⟨rfl,rfl⟩;rw [u.out];go_wp2_with fail;refine (Zow _ q qO width n i hl).mono ?_;rintro e z ⟨E,rfl,d⟩;have a:=d.blk k l;have D:=a.frozen 0;have x:=a.cell 0;simp only [Ybj,YaW] at x;obtain ⟨A,m,c,rfl⟩:=ZaI d.own;go_wp2;go_end0;have j:(Value.slice A m c).ownBlock≠some r:=a.ne_own d.own qD;refine ⟨rfl,⟨_,⟨y,a.put 0 _,?_⟩,d.block⟩,(d.upd.mono fun b _ C=>.inr C).put (.inl rfl) _⟩;exact Zae d.own ((Yaa (fun b=>b=r) z).put1 _) fun g o p=>j (p ▸ o)
theorem wrawV {w:World} {F:Nat->Prop} {B r:Nat} {v:Value} {A:Option Addr} {n c:Nat} {bs xs:List UInt8} (h:WtrV w B r v bs) (hx:Zag w F A n c xs) (hl:bs.length+n<=140737488355328) :
 Calls Tryz.prog 114 #[.pointer (some ⟨r,0,none⟩),.slice A n c] w fun e w'=>e=.returned (.tuple #[])/\WOn w B r v (bs++xs) w':=by
 obtain ⟨C,f,p⟩:=h;have u:=f.lt;have d:v.ownBlock≠some r:=f.ne_own p qD;have x:=f.cell 0;simp only [Ybj,YaW] at x;have y:=qH hx.len;go_enter Tryz.func114,Tryz.ntmps114;go_wp2_with (at_builtin;go_must (refine Zat rfl (.tmp 8) (.tmp 9) _ _ rfl B _ _ _ _ Tryz.underlying39 ZdY rfl v _ _ rfl p rfl (Zbg Tryz.underlying39 hx (ZgX xs)) (by unfold maxLen;omega) qO qO ?_);intro H l a;obtain ⟨q,s,t,rfl⟩:=ZaI a.own;have E:l.frozen? ⟨r,0,none⟩=false:=(a.blk f d).frozen 0;have G:l.cell? ⟨r,0,none⟩=some v:=(a.blk f d).cell 0);go_end0;have j:=a.blk f d;have k:(Value.slice q s t).ownBlock≠some r:=j.ne_own a.own qD;refine ⟨rfl,⟨_,⟨C,j.put 0 _,?_⟩,a.block⟩,(a.upd.mono fun b _ D=>.inr D).put (.inl rfl) _⟩;have z:=Zae a.own ((Yaa (fun b=>b=r) l).put1 (i:=0) (.slice q s t)) fun g m o=>k (o ▸ m);unfold OwnB;rw [Yaf,y.out,YaG];exact z
theorem Zfu {w:World} {B g n:Nat} {t:TypeId} {cs:Array Value} (h:Blk w g t cs) (hB:B<=g) (hn:cs.size=n) (hm:n<=maxLen):w.ownsRow B t 1 (.slice (some ⟨g,0,none⟩) n n) n cs.toList :=
 ⟨by simpa using hn,.inr ⟨g,n,cs,rfl,hB,h,Yae _,hm,qO,by rw [<- hn,Yeq,<-Ycf,List.take_length]⟩⟩
end
end Go.Proofs.YtmkjfhnlnhceiaaGreatDoor
