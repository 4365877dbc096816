/- Texts that the claim leans on: walks and plain laws, function by function. -/
import Derived.Test.YtmkjfhnlnhceiaaGreatDoorN24
set_option maxRecDepth 100000
set_option maxHeartbeats 16000000
namespace Go.Proofs.YtmkjfhnlnhceiaaGreatDoor
open Go.RowKit
def Zcq (d:List UInt8):Int:=(be ((d.drop 2).take 4):Int)-1
theorem Zel {d:List UInt8}:Zcq d = -1↔ZbJ d=none:=by
 unfold Zcq ZbJ;by_cases h:be ((d.drop 2).take 4)=0
 · rw [Yac h];simp [h]
 rw [Yab h];simp;omega
theorem Zem {d:List UInt8} {j:Nat} (h:ZbJ d=some j):Zcq d=(j:Int):=by
 unfold ZbJ at h;split at h
 · cases h
 injection h with h
 unfold Zcq;omega
theorem Zpb {d:List UInt8} (h:0<d.length):(d.headD 0).toNat=be (d.take 1):=by
 cases d with
 | nil=>simp at h
 | cons x t=>simp [be]
structure BV where
 d:List UInt8
 A:Option Addr
 c:Nat
def BV.cells (x:BV):List Value:=[.int .i64 (Zav x.d:Int),.int .i64 (Zdj x.d:Int),.int .i64 (Zcq x.d),.slice x.A 25 x.c]
theorem ZrF {tmps:Array Value} {w:World} {g:Nat} {R:Ending->World->Prop} {u0 u1 u2 u3:Value} (h2:tmps.getD 2 undef=.pointer (some ⟨g,0,none⟩)) (hb:Blk w g 203 #[u0,u1,u2,u3]) (hR:R (.returned (.agg #[u0,u1,u2,u3])) w) :
 bodyPost Tryz.prog Tryz.f120 R Exit.ret ⟨tmps,[]⟩ w:=by
 have a:=hb.cell 0;have b:=hb.cell 1;have c:=hb.cell 2;have d:=hb.cell 3;simp only [Ybj,YaW,Ybd] at a b c d;refine YbB (v:=.agg #[u0,u1,u2,u3]) ?_ rfl hR;simp only [YbZ] at h2;simp [results,Tryz.results120,go_sem,h2,a,b,c,d]
theorem Zkl {F:Nat->Prop} {A:Option Addr} {n c:Nat} {d:List UInt8} (w:World) (hb:Zag w F A n c d) (hl:d.length=31):Calls Tryz.prog 120 #[.slice A n c] w fun e w' =>
 ∃ A1 c1,e=.returned (.agg (BV.cells ⟨d,A1,c1⟩).toArray)/\Zag w' (TyB w' 0) A1 25 c1 (d.drop 6)/\Same w w':=by
 have hn:n=31:=qt hb.len;subst hn;have W:=(Yaa (fun _=>False) w).alloc (.cells #[.int .i64 0,.int .i64 0,.int .i64 0,.slice none 0 0] 203);have HB:=qH (hb.same W);have a:=qH (Yad w 203 #[.int .i64 0,.int .i64 0,.int .i64 0,.slice none 0 0]);have X:=qH W;have s:=qH hl;clear hb W hl;go_enter Tryz.func120,Tryz.ntmps120;go_wp2_with fail;generalize w.alloc (.cells #[.int .i64 0,.int .i64 0,.int .i64 0,.slice none 0 0] 203)=wA at *;generalize ad:w.heap.size=o at *;refine (ZbG HB qO).mono ?_;rintro e w1 ⟨r,rfl,hr,hR,v⟩;have V:Hid (¬ (wA.heap.size<=r/\r≠r)):=qH fun h=>h.2 rfl;have E:=qH hR;have Y:=qH (X.trans v fun _ _ f=>f);have j:Hid (o≠r/\w.heap.size<=r):=qH (qt a.lt);have a:=qH (a.same v);clear hR v;go_wp2_with fail;refine (numN E V 1 qD (by rw [s.out];omega)).mono ?_;rintro e w2 ⟨t,rfl,O,a7,P,x⟩;have Z:=qH O;have k0:(0:Int)<=(t:Int)/\(t:Int)<=255:=qO;have a0:=qH (Y.trans x fun b hb e=>qh j);have a:=qH (a.upd x fun e=>j.1 e);clear O x a7 E;go_wp2_with fail;refine (numN P V 1 qD (by rw [Yas,s.out];omega)).mono ?_;rintro e w3 ⟨N1,rfl,R,a8,S,y⟩;have a1:=qH R;have k1:(0:Int)<=(N1:Int)/\(N1:Int)<=255:=qO;have a2:=qH (a0.trans y fun b hb e=>qh j);have a:=qH (a.upd y fun e=>j.1 e);clear R y a8 P;go_wp2_with fail;refine (numN S V 4 qD (by rw [Yas,Yas,s.out];omega)).mono ?_;rintro e z ⟨l,rfl,T,a9,B,C⟩;have a3:=qH T;have k2:(0:Int)<=(l:Int)/\(l:Int)<=4294967295:=qO;have u:=qH (a2.trans C fun b hb e=>qh j);have a:=qH (a.upd C fun e=>j.1 e);clear T C a9 S;have aa:IntKind.i64.wrap ((l:Int)-1)=(l:Int)-1:=YbO _ ⟨qO,qO⟩;go_upto_region 3 with fail;have G:=Yad z 203 #[.int .i64 (t:Int),.int .i64 (N1:Int),.int .i64 ((l:Int)-1),.slice none 0 0];have m:=(Yaa (fun _=>False) z).alloc (.cells #[.int .i64 (t:Int),.int .i64 (N1:Int),.int .i64 ((l:Int)-1),.slice none 0 0] 203);have ab:o<z.heap.size/\r<z.heap.size:=⟨a.lt,by obtain ⟨A',n',c',h1,_⟩:=B.out;exact h1.lt⟩
 have H:=qH (B.same m);have I:=qH (u.trans m fun _ _ f=>f);have L:=qH G;have a:=qH (a.same m);generalize z.alloc (.cells #[.int .i64 (t:Int),.int .i64 (N1:Int),.int .i64 ((l:Int)-1),.slice none 0 0] 203)=w5 at *;have ac:w.heap.size<=z.heap.size:=u.size;generalize ae:z.heap.size=D at *;clear G m B u;go_wp2_with fail;refine (rawN H V (by rw [Yas,Yas,Yas,s.out];decide) 25 (by rw [Yas,Yas,Yas,s.out];decide)).mono ?_;rintro e w6 ⟨A1,c1,rfl,U,_,q⟩;have M:D≠r/\D≠o:=qO;have k:=L.upd q M.1;have g:=a.upd q fun e=>j.1 e;have a4:=qH k;have N:=qH g;have a5:=qH (I.trans q fun b hb e=>qh j);have q0:=k.cell 0;have q1:=k.cell 1;have q2:=k.cell 2;have q3:=k.cell 3;have z3:=k.frozen 3;have p0:=g.cell 0;have p1:=g.cell 1;have p2:=g.cell 2;have p3:=g.cell 3;have y0:=g.frozen 0;have y1:=g.frozen 1;have y2:=g.frozen 2;have y3:=g.frozen 3;simp only [Ybj,YaW,Ybd] at q0 q1 q2 q3 p0 p1 p2 p3;clear k g q H L I;go_wp2;have u1:=(Yaa (fun b=>b=D\/b=o) w6).put (r:=D) (i:=3) (.inl rfl) (.slice A1 25 c1);have hU:=YdH (i:=3) (YdH (i:=2) (YdH (i:=1) (YdH (i:=0) u1 (r:=o) (.inr rfl) (.int .i64 (t:Int))) (r:=o) (.inr rfl) (.int .i64 (N1:Int))) (r:=o) (.inr rfl) (.int .i64 ((l:Int)-1))) (r:=o) (.inr rfl) (.slice A1 25 c1);have hE:=((((N.far (p:=⟨D,3,none⟩) (fun e=>M.2 e.symm) (.slice A1 25 c1)).put 0 (.int .i64 (t:Int))).put 1 (.int .i64 (N1:Int))).put 2 (.int .i64 ((l:Int)-1))).put 3 (.slice A1 25 c1);refine ZrF rfl hE ?_;have a6:((d.drop 1).drop 1).drop 4=d.drop 6:=by rw [Ybm,Ybm]
 rw [a6,YaB (by rw [Yas,s.out];decide)] at U;refine ⟨A1,c1,?_,?_,a5.trans hU fun b hb e=>qO⟩
 · have e0:(Zav d:Int)=t:=by unfold Zav;rw [Zpb (by rw [s.out];omega),Z.out]
   have e1:(Zdj d:Int)=N1:=by unfold Zdj;rw [Zpb (by rw [Yas,s.out];omega),a1.out]
   have e2:Zcq d=(l:Int)-1:=by unfold Zcq;rw [<- a3.out,Ybm]
   simp only [BV.cells,e0,e1,e2]
 have hs:∀ b,TyB w6 0 b->¬ (b=D\/b=o):=by
  rintro b hb (e | e)
  · exact absurd (hb.ne ⟨_,e ▸ a4.out⟩) qD
  exact absurd (hb.ne ⟨_,e ▸ N.out⟩) qD
 exact (YdZ U hU hs).mono fun b _ hb=>hb.upd hU (hs b hb)
theorem Zkm {F:Nat->Prop} {A:Option Addr} {c B f k vs z low:Nat} {v:Value} {l:List BS} {d:List UInt8} (w:World) (hb:Zag w F A 25 c (d.drop 6)) (hP:PF w B f k vs z v l low) :
 Calls Tryz.prog 121 #[.agg (BV.cells ⟨d,A,c⟩).toArray,.pointer (some ⟨f,0,none⟩)] w fun e w'=>e=.returned (.bool (ZaV (filD k vs z l) d))/\Same w w':=by
 have O:=qH (@Zel d);have r:Hid (∀ j,ZbJ d=some j->Zcq d=(j:Int)):=qH fun j h=>Zem h;have n:Hid (ZaV (filD k vs z l) d=(decide (Zav d<=1) && (decide (Zdj d<=25) && ((d.drop (6+Zdj d)).all (·==0) && match ZbJ d with | none=>decide (Zav d=1) || decide (0<Zdj d) | some j=>decide (Zdj d=25) && (filD k vs z l).used j)))):=qH rfl;generalize ZaV (filD k vs z l) d=S at *;unfold BV.cells;simp only;generalize Zav d=s at *;generalize Zdj d=u at *;generalize Zcq d=nx at *;have aa:25<=c:=Row.le hb;have X:=(Yaa (fun _=>False) w).alloc (.cells #[.int .i64 (s:Int),.int .i64 (u:Int),.int .i64 nx,.slice A 25 c] 203);have t:=qH (Yad w 203 #[.int .i64 (s:Int),.int .i64 (u:Int),.int .i64 nx,.slice A 25 c]);have a:=qH X;have HB:=qH (hb.same X);have a0:=qH (hP.same X);obtain ⟨b,o,hA⟩:∃ b o,A=some ⟨b,o,none⟩:=by obtain ⟨b,o,hA,_⟩:=hb.at_ (i:=0) qO;exact ⟨b,o,hA⟩
 subst hA;clear hb hP X;by_cases h1:1<s
 · have HS:Hid (S=false):=qH (by rw [n.out,YaM qO];rfl);have j1:¬ (s:Int)<=1:=qO;clear O r n;go_enter Tryz.func121,Tryz.ntmps121;go_wp2;go_ret;exact ⟨by rw [HS.out];rfl,a⟩
 have j1:(s:Int)<=1:=qO;by_cases h2:25<u
 · have HS:Hid (S=false):=qH (by rw [n.out,YaM (show ¬ u<=25 by omega),YbN,YcS]);have j2:¬ (u:Int)<=25:=qO;clear O r n;go_enter Tryz.func121,Tryz.ntmps121;go_wp2;go_ret;exact ⟨by rw [HS.out];rfl,a⟩
 have j2:(u:Int)<=25:=qO;have C:Hid (S=((d.drop (6+u)).all (·==0) && match ZbJ d with | none=>decide (s=1) || decide (0<u) | some j=>decide (u=25) && (filD k vs z l).used j)):=qH (by rw [n.out,YaV qO,YaV (show u<=25 by omega),YbP,YbP]);clear n;have hcut:=HB.rest (j:=u) qO;rw [Ybm] at hcut;have g:=qH hcut;obtain ⟨D,a6⟩:∃ D,25-u=D:=⟨_,rfl⟩
 obtain ⟨E,p⟩:∃ E,d.drop (6+u)=E:=⟨_,rfl⟩
 rw [a6,p] at g;rw [p] at C;have H:Hid (E.length=D):=qH (Yct g);have a9:((25:Int)-(u:Int))=(D:Int):=qO;clear hcut p;generalize a5:w.alloc (.cells #[.int .i64 (s:Int),.int .i64 (u:Int),.int .i64 nx,.slice (some ⟨b,o,none⟩) 25 c] 203)=wA at *;by_cases P:u=c
 all_goals
  first | (subst P;rw [Yac rfl,YbC] at g) | (have R:¬ c=u:=fun h=>P h.symm;rw [Yab R,Ybw,Zfl] at g)
  have q0:=t.cell 0;have q1:=t.cell 1;have q2:=t.cell 2;have q3:=t.cell 3;simp only [Ybj,YaW,Ybd] at q0 q1 q2 q3;go_enter Tryz.func121,Tryz.ntmps121;go_upto_region 4 with fail;clear a5;go_loopg [23] D (fun gh a7 wr=>∃ i:Nat,D-i=gh/\i<=D/\a7=.int .i64 (i:Int)/\wr=wA/\Hid ((E.take i).all (·==0)=true))
  case atStart=>exact ⟨0,rfl,Yah _,rfl,rfl,qH rfl⟩
  obtain ⟨i,rfl,hi,rfl,rfl,KA⟩:=hrel;by_cases T:i<D
  · obtain ⟨b',o',a8,_,_,hc⟩:=g.at_ T;cases a8;have j3:(i:Int)<(D:Int):=qO;have p:i<E.length:=by rw [H.out];exact T
    have HT:=qH (show (E.take (i+1)).all (·==0)=(E[i]==0) by rw [YdQ p,YfR,KA.out];simp)
    have HM:=qH (YdA p);generalize E[i]=x at *;by_cases Y:x=0
    · subst Y;have a1:Hid ((E.take (i+1)).all (·==0)=true):=qH (by rw [HT.out];rfl);have hc:wr.cell? _=some (.int .u8 0):=hc;clear HT;go_wp2;go_roundg (D-(i+1))
      case measure=>omega
      case rel=>exact ⟨i+1,rfl,qO,by go_num,rfl,a1⟩
    have h0:(x.toNat:Int)≠0:=fun h=>Y (Yel.1 (by simpa using h));have ab:((x.toNat:Int) != 0)=true:=Ybh.2 h0;have q:Hid (S=false):=qH (by
     have Z:E.all (·==0)=false:=by
      cases hz:E.all (·==0) with
      | false=>rfl
      | true=>exact absurd (by simpa using YcK.1 hz _ HM.out) Y
     rw [C.out,Z,YbN])
    generalize x.toNat=xn at *;clear HT HM Y;go_wp2;go_ret;exact ⟨by rw [q.out];rfl,a⟩
  have a2:i=D:=qO;subst a2;have G:Hid (S=match ZbJ d with | none=>decide (s=1) || decide (0<u) | some j=>decide (u=25) && (filD k vs z l).used j):=qH (by have Z:=KA.out;rw [YaB (by first | rw [H.out];exact Yae _ | rw [H];exact Yae _)] at Z;rw [C.out,Z,YbP])
  cases hbn:ZbJ d with
  | none =>
    have I:=O.2 hbn;subst I;have m:Hid (S=(decide (s=1) || decide (0<u))):=qH (by rw [G.out,hbn]);clear O r G hbn C;by_cases e1:s=1
    · subst e1;have q:Hid (S=true):=qH (by rw [m.out];rfl)
      first
       | (exfalso;omega)
       | (go_wp2
          go_ret;exact ⟨by rw [q.out];rfl,a⟩)
    have ac:¬ (s:Int)=1:=qO;by_cases e2:0<u
    · have a3:(0:Int)<(u:Int):=qO;have q:Hid (S=true):=qH (by rw [m.out,YaV e2,Bool.or_true])
      first
       | (exfalso;omega)
       | (go_wp2
          go_ret;exact ⟨by rw [q.out];rfl,a⟩)
    have a3:¬ (0:Int)<(u:Int):=qO;have q:Hid (S=false):=qH (by rw [m.out,YaM e1,YaM e2];rfl)
    first
     | (exfalso;omega)
     | (go_wp2
        go_ret;exact ⟨by rw [q.out];simp_all,a⟩)
  | some j =>
    have I:=r.out j hbn;have ad:¬ nx = -1:=qO;have m:Hid (S=(decide (u=25) && (filD k vs z l).used j)):=qH (by rw [G.out,hbn]);subst I;have HG:=qH (ZfR wr a0 (j:Int));have L:Hid (Zea (filD k vs z l) (j:Int)=(filD k vs z l).used j):=qH (by unfold Zea;rw [YaV qO,YbP,YaN]);clear O r G hbn C;go_wp2_with fail;refine HG.mono ?_;rintro e w3 (⟨hu,rfl,rfl⟩ | ⟨y,v',hy,W,_,rfl,_,N⟩)
    · have q:Hid (S=false):=qH (by rw [m.out,<-L.out,hu,YcS]);clear hu m L;by_cases e1:(u:Int)=25
      · first
         | (exfalso;omega)
         | (go_wp2
            go_ret;exact ⟨by rw [q.out];rfl,a⟩)
      first
       | (exfalso;omega)
       | (go_wp2
          go_ret;exact ⟨by rw [q.out];simp_all,a⟩)
    have U:(filD k vs z l).used j=true:=Zft.2 ⟨y,by rw [YaN] at hy;exact hy,W⟩;have q:Hid (S=decide (u=25)):=qH (by rw [m.out,U,Bool.and_true]);have V:=qH (a.trans N fun _ _ f=>f);have a4:=(t.same N).cell 1;simp only [Ybj,YaW,Ybd] at a4;clear U hy W N m L;by_cases e1:(u:Int)=25
    · have M:Hid (S=true):=qH (by rw [q.out,YaV qO])
      first
       | (exfalso;omega)
       | (go_wp2
          go_ret;exact ⟨by rw [M.out];rfl,V⟩)
    have M:Hid (S=false):=qH (by rw [q.out,YaM qO])
    first
     | (exfalso;omega)
     | (go_wp2
        go_ret;exact ⟨by rw [M.out];simp_all,V⟩)
structure LS where
 bad:Bool
 last:Int
 ended:Bool
 list:List Int
def ZaQ (s:LS) (x:UInt8):LS:=⟨s.bad || outB ((x.toNat:Int)-1) (-1) 200 || (decide (0<=(x.toNat:Int)-1) && (decide ((x.toNat:Int)-1<=s.last) || s.ended)),(x.toNat:Int)-1,s.ended || decide ((x.toNat:Int)-1<0),if 0<=(x.toNat:Int)-1 then s.list++[(x.toNat:Int)-1] else s.list⟩
def ZgD (bad:Bool) (l:List UInt8):LS:=l.foldl ZaQ ⟨bad,-1,false,[]⟩
theorem Zqa (bad:Bool) (l:List UInt8) (x:UInt8):ZgD bad (l++[x])=ZaQ (ZgD bad l) x:=by simp [ZgD]
theorem ZrG (bad:Bool):∀ l:List UInt8,(ZgD bad l).list.length<=l.length:=by
 have a:∀ (l:List UInt8) (s:LS),(l.foldl ZaQ s).list.length<=s.list.length+l.length:=by
  intro l
  induction l with
  | nil=>intro s;simp
  | cons x l ih =>
    intro s;have b:=ih (ZaQ s x);have c:(ZaQ s x).list.length<=s.list.length+1:=by unfold ZaQ;split <;> simp
    rw [Yei,Yao];omega
 intro l;have:=a l ⟨bad,-1,false,[]⟩;simpa [ZgD] using this
theorem take1 {l:List UInt8} {k:Nat} {x:UInt8} (h:l[k]?=some x):(l.drop k).take 1=[x]:=by obtain ⟨a,e⟩:=Yaq.1 h;rw [YbF a,e];rfl
theorem ZcM:(Tryz.prog.info? 3).map (fun i=>(i.zero,i.size,i.bytes))=some (some (.int .i64 0),1,8):=by kernel_rfl
theorem Zqb {w:World} {F:Nat->Prop} {c r g:Nat} {l:List UInt8} {bad:Bool} {x0 x1:Value} (h:CR w F c r l bad) (hl:8<=l.length) (hp:Blk w g 115 #[x0,x1,.slice none 0 0]) (hFp:¬ F g) (hFn:∀ b,w.heap.size<=b->¬ F b) :
 Calls Tryz.prog 153 #[.pointer (some ⟨c,0,none⟩),.pointer (some ⟨g,2,none⟩)] w fun e w'=>e=.returned (.tuple #[]) /\
  CR w' F c r (l.drop 8) (ZgD bad (l.take 8)).bad/\(∃ A n cp,Blk w' g 115 #[x0,x1,.slice A n cp]/\w'.ownsRow w.heap.size 3 1 (.slice A n cp) (ZgD bad (l.take 8)).list.length ((ZgD bad (l.take 8)).list.map (Value.int .i64)))/\Upd (fun b=>b=c\/b=r\/b=g) w w':=by
 have HH:=qH h;have HP:=qH hp;have HZ:=qH (show c<w.heap.size/\r<w.heap.size/\g<w.heap.size from ⟨h.cod.lt,h.rdr.lt,hp.lt⟩);have a0:=h.ne;have O:c≠g:=fun e=>by subst e;exact absurd rfl (Blk.ne h.cod hp qD)
 have a5:r≠g:=fun e=>by obtain ⟨_,_,_,j,_⟩:=h.rdr;exact absurd e (Blk.ne j hp qD)
 have c2:=h.cod.c2;have W:=h.cod.frozen 2;have g2:=hp.c2;have u0:Upd (fun b=>b=c) w (w.setCell ⟨c,2,none⟩ (.bool bad)):=(Yaa _ w).put1 _;have H0:=qH (show CR (w.setCell ⟨c,2,none⟩ (.bool bad)) F c r l bad from ⟨h.cod.put 2 _,h.rdr.upd u0 (YbY a0) fun b j H=>h.fc (H ▸ j),h.fr,h.fc⟩);have P0:=qH (hp.far (p:=⟨c,2,none⟩) (YbY O) (.bool bad));have U0:=qH (u0.mono (S':=fun b=>b=c\/b=r\/b=g) fun _ _ h=>.inl h);clear h hp u0;go_enter Tryz.func153,Tryz.ntmps153;go_upto_region 0 with fail;go_cut [] from 8 to 21 (fun E=>E=w.setCell ⟨c,2,none⟩ (.bool bad))
 case first =>
  cases bad
  · go_wp2;go_meet;rfl
  go_wp2;go_meet;rfl
 case rest =>
 subst hcut;generalize w.setCell ⟨c,2,none⟩ (.bool bad)=wA at *;clear c2 W g2 HH HP;go_wp2_with fail;go_loopg [22,4,5] 8 (fun gh ix la en wr=>∃ (k:Nat) (a:LS) (A:Option Addr) (n cp:Nat),8-k=gh/\k<=8/\ix=.int .i64 k/\la=.int .i64 a.last/\en=.bool a.ended/\Hid (ZgD bad (l.take k)=a)/\Hid (CR wr F c r (l.drop k) a.bad) /\
  Hid (Blk wr g 115 #[x0,x1,.slice A n cp])/\Hid (wr.ownsRow w.heap.size 3 1 (.slice A n cp) n (a.list.map (Value.int .i64)))/\Hid (a.list.length=n)/\Hid (Upd (fun b=>b=c\/b=r\/b=g) w wr))
 case atStart =>
  exact ⟨0,⟨bad,-1,false,[]⟩,none,0,0,rfl,qO,rfl,rfl,rfl,qH rfl,H0,P0,qH (YaQ _ _ _ _),qH rfl,U0⟩
 obtain ⟨k,a,A,n,cp,rfl,hk,rfl,rfl,rfl,KS,KH,KP,M,KL,KU⟩:=hrel;by_cases aj:k<8
 · have a6:k<l.length:=qO;obtain ⟨x,hx⟩:∃ x,l[k]?=some x:=⟨_,Yar a6⟩
   obtain ⟨V,hV⟩:∃ V:Int,(x.toNat:Int)-1=V:=⟨_,rfl⟩
   have a7:(be ((l.drop k).take 1):Int)-(1:Nat)=V:=by rw [<- hV,take1 hx];simp [be]
   have ak:n<=k:=by have h1:=ZrG bad (l.take k);rw [KS.out,KL.out,YaJ] at h1;omega
   have c1:¬ (k:Int)<(n:Int):=qO;have q:=(Yaa (fun _=>False) wr).alloc (.cells #[.int .i64 (-1)] 3);have HA:=qH (KH.same q);have PA:=qH (KP.same q);have OA:=qH (Zaa M q);have ZA:=qH (Yad wr 3 #[.int .i64 (-1)]);have UA:=qH (KU.same q);have G:Hid (c<wr.heap.size/\r<wr.heap.size/\g<wr.heap.size/\w.heap.size<=wr.heap.size):=qH ⟨KH.cod.lt,KH.rdr.lt,KP.lt,KU.size⟩;have a1:Hid (∀ b,(Value.slice A n cp).ownBlock=some b->b<wr.heap.size):=qH fun b j=>(M.lt b j).2;clear q;have g2:=PA.c2;have a8:=qH (show 1<=(l.drop k).length by rw [Yas];omega);go_upto_region 9 with fail;generalize hz:wr.heap.size=z at *;have a9:¬ F z:=hFn _ G.2.2.2;generalize wr.alloc (.cells #[.int .i64 (-1)] 3)=wB at *;go_wp2_with fail;refine (ZeO (po:=0) HA 1 rfl qO a8.out ZA.out rfl qD a9 (-1) 200 1 qO a7).mono ?_;rintro e Z ⟨rfl,h1,p1,u1⟩;simp only [Yal,Yam] at p1;have u:=h1;rw [Ybm] at u;have u:=qH u;have Z1:=qH p1;have al:=G.out;have P1:=qH (PA.upd u1 qO);have O1:=qH (Zae OA u1 fun b j H=>by have aa:=(OA.lt b j).1;have:=a1.out b j;have:=HZ.out;omega)
   have U1:=qH (UA.trans u1 (S:=fun b=>b=c\/b=r\/b=g) fun b j h=>qO);clear h1 p1 u1 g2 HA PA OA ZA UA;have c2:=u.cod.c2;have W:=u.cod.frozen 2;have z0:=Z1.c0;have ab:c≠z:=qh G;obtain ⟨m,d⟩:∃ m,(a.bad || outB V (-1) 200 || (decide (0<=V) && (decide (V<=a.last) || a.ended)))=m:=⟨_,rfl⟩
   obtain ⟨b1,R⟩:∃ b1,(a.bad || outB V (-1) 200)=b1:=⟨_,rfl⟩
   rw [R] at c2 d u;have a2:=qH d;have ac:=qH R;clear d R;go_upto_region 10 with fail;go_cut [] from 50 to 68 (fun E=>E=Z.setCell ⟨c,2,none⟩ (.bool m))
   case first =>
    have d:=a2.out;obtain ⟨sb,la,en,li⟩:=a;simp only at d;cases b1
    · by_cases y:0<=V
      · by_cases h3:V<=la
        · have e:m=true:=by rw [<- d];simp [y,h3]
          subst e;go_wp2;go_meet;rfl
        have e:m=en:=by rw [<- d];simp [y,h3]
        subst e;go_wp2;go_meet;rfl
      have e:m=false:=by rw [<- d];simp [y]
      subst e;go_wp2;go_meet;rfl
    have e:m=true:=by rw [<- d];simp
    subst e;go_wp2;go_meet;rfl
   case rest =>
   subst hcut;have uC:Upd (fun b=>b=c) Z (Z.setCell ⟨c,2,none⟩ (.bool m)):=(Yaa _ Z).put1 _;have P:=qH (show CR (Z.setCell ⟨c,2,none⟩ (.bool m)) F c r (l.drop (k+1)) m from ⟨u.cod.put 2 _,u.rdr.upd uC (YbY a0) fun b j H=>u.fc (H ▸ j),u.fr,u.fc⟩);have P2:=qH (P1.far (p:=⟨c,2,none⟩) (YbY O) (.bool m));have X:=qH (Z1.far (p:=⟨c,2,none⟩) (YbY ab) (.bool m));have O2:=qH (Zae O1 uC fun b j H=>by have aa:=(O1.lt b j).1;have:=HZ.out;omega)
   have U2:=qH (U1.trans uC fun _ _ h=>.inl h);clear uC u P1 O1 U1 Z1 c2 W z0;generalize Z.setCell ⟨c,2,none⟩ (.bool m)=Y at *;have z2:=X.c0;go_upto_region 11 with fail;go_cut [5] from 69 to 73 (fun s5 E=>s5=.bool (a.ended || decide (V<0))/\Y=E)
   case first =>
    obtain ⟨sb,la,en,li⟩:=a;cases en
    · by_cases y:V<0
      · go_wp2;go_meet;exact ⟨by simp [y],rfl⟩
      go_wp2;go_meet;exact ⟨by simp [y],rfl⟩
    go_wp2;go_meet;exact ⟨rfl,rfl⟩
   case rest =>
   obtain ⟨rfl,rfl⟩:=hcut;have c1:=P.cod.c1;have a3:l.take (k+1)=l.take k++[x]:=by rw [Ybo,hx];rfl
   have a4:ZaQ a x=⟨m,V,a.ended || decide (V<0),if 0<=V then a.list++[V] else a.list⟩:=by unfold ZaQ;simp only [hV];rw [ac.out,a2.out]
   have B:=qH ((Zqa bad (l.take k) x).trans ((YaC (fun t=>ZaQ t x) KS.out).trans a4));rw [<- a3] at B;clear a4 a3;by_cases y:0<=V
   · go_upto_region 13 with fail;have s0:Same Y Y.drew:=(Yaa _ Y).drew;refine Zaj 8 (fun E=>E.cell? ⟨g,2,none⟩=some (.slice A n cp)/\E.cell? ⟨z,0,none⟩=some (.int .i64 V)) (by kernel_rfl) ⟨(P2.same s0).cell 2,(X.same s0).cell 0⟩ (fun o=>?_)
     repeat
      first
       | refine Yan (v:=?_) 0 rfl ?_ ?_
       | refine Yan (v:=?_) 1 rfl ?_ ?_
       | refine Yan (v:=?_) 2 rfl ?_ ?_
       | refine Yan (v:=?_) 3 rfl ?_ ?_
       | refine Yan (v:=?_) 4 rfl ?_ ?_
       | refine Yan (v:=?_) 7 rfl ?_ ?_
      rotate_left
      · intro E I;have y:=I.1;have h1:=I.2;go_simp;try with_reducible rfl
      simp only [Act.put,Yal]
     have ad:g≠z:=qh G;refine Yci (rs:=[5]) (by decide +kernel) (by decide +kernel) ?_;refine Ybx rfl (fun K N=>?_) YbA;go_simp;have q:=((Yaa (fun _=>False) Y).alloc (.cells #[.int .i64 V] 3)).drew;refine N _ _ ⟨(P2.same q).cell 2,(X.same q).cell 0⟩ (fun o=>?_);clear N K;refine Yci (rs:=[6]) (by decide +kernel) (by decide +kernel) ?_;refine Ybx rfl (fun K N=>?_) YbA;have s:=Zaa O2.out q;have am:=U2.size;refine Zfm rfl (.tmp 86) (.tmp 88) _ _ rfl w.heap.size 3 1 8 _ Tryz.underlying110 ZcM rfl (.slice A n cp) n _ rfl s rfl (Zbg Tryz.underlying110 (Row.drew (Ydh _ _ _)) (by simp [Value.oneCell'])) (by unfold maxLen;omega) qO (qt q.size) ?_;intro v9 w9 D;have PS:=P2.same q;obtain ⟨f1,W,f3⟩:=ZbC (i:=2) PS s qD (Yaa _ _) D;obtain ⟨T,U,rfl⟩:=Zad D.own;have q3:=PS.upd D.upd fun H=>PS.ne_own s qD H;have zz:=(X.same q)
     have L:¬ (Value.slice A n cp).ownBlock=some z:=fun H=>by have:=a1.out z H;omega
     have q4:=zz.upd D.upd L;have F1:=qH f1;have F2:=qH W;have U9:Upd (fun b=>b=g\/(Value.slice A n cp).ownBlock=some b) Y (w9.setCell ⟨g,2,none⟩ (.slice T (n+1) U)):=(q.mono (S':=fun b=>b=g\/(Value.slice A n cp).ownBlock=some b) fun _ _ f=>f.elim).trans f3 fun _ _ h=>h;have C:=qH U9;have Q3:=qH q3;clear f1 W f3 D s U9 PS;refine N _ _ ⟨q3.cell 2,q4.cell 0⟩ (fun o=>?_);clear N K q3 q4 zz;simp only [Act.put]
     try (refine Yan (v:=?_) 7 rfl ?_ ?_
          rotate_left;intro E I;have y:=I.1;go_simp;try with_reducible rfl)
     simp only [Act.put,Yal];refine YcO (by decide +kernel) (by decide +kernel) rfl (fun K N=>?_) _;have r3:=Q3.cell 2;have z3:=Q3.frozen 2;go_simp;refine N.out _ _ ?_;clear N K r3 z3 o q;have ae:=qH (show (w9.setCell ⟨g,2,none⟩ (.slice T (n+1) U)).cell? ⟨z,0,none⟩=some (.int .i64 V) from (X.upd C (by
      rintro (e | e)
      · exact ad e.symm
      exact L e)).cell 0)
     have af:Hid ((w9.setCell ⟨g,2,none⟩ (.slice T (n+1) U)).ownsRow w.heap.size 3 1 (.slice T (n+1) U) (n+1) ((a.list++[V]).map (Value.int .i64))):=qH (by rw [YaG];exact F2);have ag:=qH (show CR (w9.setCell ⟨g,2,none⟩ (.slice T (n+1) U)) F c r (l.drop (k+1)) m from ⟨P.cod.upd C (by
      rintro (e | e)
      · exact O e
      · have:=(M.lt c e).1;have:=HZ.out;omega),P.rdr.upd C (by
      rintro (e | e)
      · exact a5 e
      · have:=(M.lt r e).1;have:=HZ.out;omega) (by
      rintro b j (e | e)
      · exact hFp (e ▸ j)
      exact hFn b (M.lt b e).1 j),P.fr,P.fc⟩)
     have ah:=qH (U2.trans C (S:=fun b=>b=c\/b=r\/b=g) (by
      rintro b j (e | e)
      · exact .inr (.inr e)
      have:=(M.lt b e).1;omega))
     have ai:=qH (show (a.list++[V]).length=n+1 by rw [Yaf,KL.out];rfl);rw [Yac y] at B;have zc:=ae.out;generalize w9.setCell ⟨g,2,none⟩ (.slice T (n+1) U)=wn at *;clear F2 C Q3 z2 c1 P P2 X O2 U2 KH KP M KU;go_wp2;go_roundg (8-(k+1))
     case measure=>omega
     case rel=>exact ⟨k+1,⟨m,V,a.ended || decide (V<0),a.list++[V]⟩,T,n+1,U,rfl,qO,by go_num,rfl,rfl,B,ag,F1,af,ai,ah⟩
   rw [Yab y] at B;go_wp2;go_roundg (8-(k+1))
   case measure=>omega
   case rel=>exact ⟨k+1,⟨m,V,a.ended || decide (V<0),a.list⟩,A,n,cp,rfl,qO,by go_num,rfl,(by show Value.bool true=Value.bool (a.ended || decide (V<0));rw [YaV (show V<0 by omega),Bool.or_true]),B,P,P2,O2,KL,U2⟩
 go_wp2;go_end0;have hk:k=8:=qO;subst hk;refine ⟨rfl,by rw [KS.out];exact KH,⟨A,n,cp,KP,?_⟩,KU⟩;rw [KS.out,KL.out];exact M
def Zeu:Int->List UInt8->Bool
 | _,[]=>true
 | last,x::l=>if x=0 then l.all (·==0) else inP ((x.toNat:Int)-1) 0 200 && (decide (last<(x.toNat:Int)-1) && Zeu ((x.toNat:Int)-1) l)
theorem Zkn:∀ (l:List UInt8) (s:LS),s.ended=true->((l.foldl ZaQ s).bad=(s.bad || !l.all (·==0)))/\((l.foldl ZaQ s).bad=false->(l.foldl ZaQ s).list=s.list)
 | [],s,_=>by simp
 | x::l,s,he=>by
   rw [Yei];obtain ⟨a,c⟩:=Zkn l (ZaQ s x) (by simp [ZaQ,he]);by_cases b:x=0
   · subst b;have e:ZaQ s 0=⟨s.bad,-1,true,s.list⟩:=by unfold ZaQ outB;simp [he]
     rw [e] at a c ⊢;exact ⟨by simpa using a,fun h=>c h⟩
   have f:0<x.toNat:=by
    rcases Nat.eq_zero_or_pos x.toNat with h | h
    · exact absurd (Yel.1 (by simpa using h)) b
    exact h
   have e:(ZaQ s x).bad=true:=by unfold ZaQ;simp [he];omega
   rw [e] at a;have d:(x::l).all (·==0)=false:=by simp [b]
   rw [d];exact ⟨by rw [a];simp,fun h=>by rw [a] at h;simp at h⟩
theorem ZrH:∀ (l:List UInt8) (s:LS),s.ended=false -> -1<=s.last->((l.foldl ZaQ s).bad=(s.bad || !Zeu s.last l))/\((l.foldl ZaQ s).bad=false->(l.foldl ZaQ s).list=s.list++Zdv l)
 | [],s,_,_=>by simp [Zeu,Zdv]
 | x::l,s,he,hl=>by
   rw [Yei];by_cases c:x=0
   · subst c;have e:ZaQ s 0=⟨s.bad,-1,true,s.list⟩:=by unfold ZaQ outB;simp [he]
     obtain ⟨a,b⟩:=Zkn l (ZaQ s 0) (by rw [e]);rw [e] at a b ⊢;refine ⟨by rw [a,Zeu,Yac rfl],fun h=>?_⟩;rw [b h];simp [Zdv]
   have g:0<x.toNat:=by
    rcases Nat.eq_zero_or_pos x.toNat with h | h
    · exact absurd (Yel.1 (by simpa using h)) c
    exact h
   have e:ZaQ s x=⟨s.bad || !inP ((x.toNat:Int)-1) 0 200 || !decide (s.last<(x.toNat:Int)-1),(x.toNat:Int)-1,false,s.list++[(x.toNat:Int)-1]⟩:=by
    have d:outB ((x.toNat:Int)-1) (-1) 200=!inP ((x.toNat:Int)-1) 0 200:=by rw [Zgr];unfold inP;rw [YaV (show (-1:Int)<=(x.toNat:Int)-1 by omega),YaV (show (0:Int)<=(x.toNat:Int)-1 by omega)]
    have f:decide ((x.toNat:Int)-1<=s.last)=!decide (s.last<(x.toNat:Int)-1):=by by_cases h:s.last<(x.toNat:Int)-1 <;> simp [h] <;> omega
    unfold ZaQ;rw [d,f,he,Yac qO,YaV (show (0:Int)<=(x.toNat:Int)-1 by omega),YaM (show ¬ (x.toNat:Int)-1<0 by omega)];simp
   obtain ⟨a,b⟩:=ZrH l (ZaQ s x) (by rw [e]) (by rw [e];simp only;omega);rw [e] at a b ⊢;simp only at a b ⊢;refine ⟨?_,fun h=>?_⟩
   · rw [a,Zeu,Yab c];cases s.bad <;> cases inP ((x.toNat:Int)-1) 0 200 <;> cases decide (s.last<(x.toNat:Int)-1) <;> simp
   rw [b h,Yak];congr 1;unfold Zdv;rw [Ygd,Yac (by simpa using c)];rfl
theorem Zpc:∀ (l:List UInt8) (last:Int),Zeu last l=true↔Zhe last (Zdv l)=true/\(Zdv l).map (fun n=>UInt8.ofNat (n+1).toNat)++ZaB (l.length-(Zdv l).length)=l
 | [],last=>by simp [Zeu,Zdv,Zhe,ZaB]
 | x::l,last=>by
   by_cases f:x=0
   · subst f;rw [Zeu,Yac rfl];have e:Zdv (0::l)=[]:=by simp [Zdv]
     rw [e];simp only [Zhe,YcW,YcG,YaK,YaS,YcF,Yao,ZaB,Ycz,List.cons.injEq];rw [show (List.replicate l.length (0:UInt8)=l)↔(l=List.replicate l.length 0) from eq_comm,List.eq_replicate_iff];simp
   have e:Zdv (x::l)=((x.toNat:Int)-1)::Zdv l:=by unfold Zdv;rw [Ygd,Yac (by simpa using f)];rfl
   have g:UInt8.ofNat ((x.toNat:Int)-1+1).toNat=x:=by rw [Yge,YaN];simp
   have ih:=Zpc l ((x.toNat:Int)-1);rw [Zeu,Yab f,e];simp only [Zhe,Yay,ih,YaF,g,YaE,Yao,Nat.add_sub_add_right,List.cons.injEq,YcW];exact ⟨fun ⟨a,b,c,d⟩=>⟨⟨a,b,c⟩,d⟩,fun ⟨⟨a,b,c⟩,d⟩=>⟨a,b,c,d⟩⟩
theorem ZrI (l:List UInt8):(Zdv l).length<=l.length:=by unfold Zdv;rw [Yag];exact (List.takeWhile_sublist _).length_le
theorem ZrJ {l:List UInt8} (hl:l.length=16):getN l=if inP ((atP l 0 4:Int)-1) (-1) 2048=true/\inP ((atP l 4 4:Int)-1) (-1) 65536=true/\Zeu (-1) (l.drop 8)=true then some (Zia l) else none:=by
 have i:(l.drop 8).length=8:=by rw [Yas];omega
 have f:=ZrI (l.drop 8);have e:l=(l.drop 0).take 4++((l.drop 4).take 4++l.drop 8):=by
  have e:l=(l.drop 0).take 8++l.drop 8:=by rw [Ycj,YbT]
  conv=>lhs;rw [e,show 8=4+4 from rfl,ZbS,Yak]
 have g:=Zpc (l.drop 8) (-1);rw [i] at g;have j:ZcZ (Zia l)=l↔labB (Zdv (l.drop 8))=l.drop 8:=by
  unfold ZcZ Zia;simp only;rw [Zda qO,Zda qO];constructor
  · intro h
    conv at h=>rhs;rw [e]
    exact Yfr (Yfr h)
  intro h;rw [h];exact e.symm
 unfold getN;have k:(ZbT (Zia l)=true/\ZcZ (Zia l)=l)↔(inP ((atP l 0 4:Int)-1) (-1) 2048=true/\inP ((atP l 4 4:Int)-1) (-1) 65536=true/\Zeu (-1) (l.drop 8)=true):=by rw [j,g];unfold ZbT Zia ZdR labB;simp only [Yay,Ybc];exact ⟨fun ⟨⟨a,b,_,c⟩,d⟩=>⟨a,b,c,d⟩,fun ⟨a,b,c,d⟩=>⟨⟨a,b,qO,c⟩,d⟩⟩
 simp only [k]
theorem Ztt {w:World} {F:Nat->Prop} {c r g:Nat} {l:List UInt8} (h:CR w F c r l false) (hl:l.length=16) (hp:Blk w g 115 #[.int .i64 0,.int .i64 0,.slice none 0 0]) (hFp:¬ F g) (hFn:∀ b,w.heap.size<=b->¬ F b) :
 Calls Tryz.prog 104 #[.pointer (some ⟨c,0,none⟩),.pointer (some ⟨g,0,none⟩)] w fun e w'=>e=.returned (.tuple #[]) /\
  CR w' F c r (l.drop 16) (getN l).isNone/\(∃ A n cp,(∀ x,getN l=some x->Blk w' g 115 (x.cellsV (.slice A n cp))/\w'.ownsRow w.heap.size 3 1 (.slice A n cp) x.labels.length (x.labels.map (Value.int .i64))))/\Upd (fun b=>b=c\/b=r\/b=g) w w':=by
 have q:115≠237/\115≠285:=qD;have y:=qH h;have z:=qH hp;clear h hp;go_enter Tryz.func104,Tryz.ntmps104;go_wp2_with fail;refine (Zdi (po:=0) y qO z.out rfl q hFp 2048 (V:=(atP l 0 4:Int)-1) rfl).mono ?_;rintro e P ⟨rfl,t,o,u1⟩;simp only [Yal,Yam] at o;have B:=qH t;have P1:=qH o;have C:=qH u1;clear t o u1;go_wp2_with fail;refine (Zdi (po:=1) B (by simp only [Yas];omega) P1.out rfl q hFp 65536 (V:=(atP l 4 4:Int)-1) rfl).mono ?_;rintro e R ⟨rfl,u,p,u2⟩;simp only [Yal,Yap,Yam] at p;have D:=qH u;have E:=qH p;have k:=qH (C.trans u2 fun _ _ h=>h);clear u p u2;go_wp2_with fail;refine (Zqb D (by simp only [Yas];omega) E.out hFp (fun b j=>hFn b (Yaj k.size j))).mono ?_;rintro e S ⟨rfl,a,⟨A,n,cp,v,d⟩,u3⟩;have G:=qH a;have H:=qH v;have I:=qH d;have L:=qH (k.trans u3 fun _ _ h=>h);clear a v d u3;go_wp2;go_end0;have M:((l.drop 4).drop 4).take 8=l.drop 8:=by rw [Ybm,YaB (by rw [Yas];omega)]
 have a:=G.out;have d:=I.out;rw [M] at a d;obtain ⟨N,O⟩:=ZrH (l.drop 8) ⟨false || outB ((atP l 0 4:Int)-1) (-1) 2048 || outB ((atP l 4 4:Int)-1) (-1) 65536,-1,false,[]⟩ rfl (YfB _);have j:(ZgD (false || outB ((atP l 0 4:Int)-1) (-1) 2048 || outB ((atP l 4 4:Int)-1) (-1) 65536) (l.drop 8)).bad=(getN l).isNone:=by unfold ZgD;rw [N,ZrJ hl];simp only [Zgr];cases inP ((atP l 0 4:Int)-1) (-1) 2048 <;> cases inP ((atP l 4 4:Int)-1) (-1) 65536 <;> cases Zeu (-1) (l.drop 8) <;> simp
 refine ⟨rfl,?_,⟨A,n,cp,fun x i=>?_⟩,L⟩
 · rw [j] at a;rw [Ybm,Ybm] at a;exact a
 have f:(ZgD (false || outB ((atP l 0 4:Int)-1) (-1) 2048 || outB ((atP l 4 4:Int)-1) (-1) 65536) (l.drop 8)).list=Zdv (l.drop 8):=by
  have:=O (by have s:=j;unfold ZgD at s;rw [s,i];rfl)
  simpa [ZgD] using this
 have m:x=Zia l:=by
  rw [ZrJ hl] at i;split at i
  · exact (Yax i).symm
  cases i
 rw [f] at d;rw [m];exact ⟨H,Zac d k.size⟩
def L1.cells (l:L1):List Value:=[.bool l.live,.int .i64 l.src,.int .i64 l.dst,.int .i64 l.sprev,.int .i64 l.dprev,.int .i64 l.snext,.int .i64 l.dnext]
theorem L1.seven (l:L1):l.cells.length=7:=rfl
abbrev YbU:=@L1.seven
theorem Zua (L:List L1):∀ u∈L.flatMap L1.cells,u.oneCell'=true:=by intro u b;obtain ⟨x,_,a⟩:=Yby.1 b;simp only [L1.cells,Yat,YcB,Ych] at a;rcases a with rfl | rfl | rfl | rfl | rfl | rfl | rfl <;> rfl
theorem Zjl:(Tryz.prog.info? 109).map (fun i=>(i.zero,i.size,i.bytes))=some (some (.agg #[.bool false,.int .i64 0,.int .i64 0,.int .i64 0,.int .i64 0,.int .i64 0,.int .i64 0]),7,56):=by kernel_rfl
structure LnAt (w:World) (b p:Nat) (l:L1):Prop where
 c0:w.cell? ⟨b,p,none⟩=some (.bool l.live)
 c1:w.cell? ⟨b,p+1,none⟩=some (.int .i64 l.src)
 c2:w.cell? ⟨b,p+2,none⟩=some (.int .i64 l.dst)
 c3:w.cell? ⟨b,p+3,none⟩=some (.int .i64 l.sprev)
 c4:w.cell? ⟨b,p+4,none⟩=some (.int .i64 l.dprev)
 c5:w.cell? ⟨b,p+5,none⟩=some (.int .i64 l.snext)
 c6:w.cell? ⟨b,p+6,none⟩=some (.int .i64 l.dnext)
abbrev RdL (w:World) (F:Nat->Prop) (A:Option Addr) (n c:Nat) (L:List L1):Prop:=WRow w F 7 A n c (L.flatMap L1.cells)
section
variable {w:World} {F:Nat->Prop} {A:Option Addr} {n c:Nat} {L:List L1}
theorem RdL.len' (h:RdL w F A n c L):L.length=n:=WRow.lenF h YbU qO
theorem RdL.at7 (h:RdL w F A n c L) {i:Nat} (hi:i<n):∃ b o l,A=some ⟨b,o,none⟩/\b<w.heap.size/\F b/\L[i]?=some l/\l∈L/\LnAt w b (o+i*7) l:=by obtain ⟨b,o,x,d,e,f,g,j,a⟩:=WRow.atF h YbU qO hi;exact ⟨b,o,x,d,e,f,g,j,a 0 _ rfl,a 1 _ rfl,a 2 _ rfl,a 3 _ rfl,a 4 _ rfl,a 5 _ rfl,a 6 _ rfl⟩
end
def ZhQ (l:L1) (node:Int):Bool:=decide (l.src=node) || decide (l.dst=node)
theorem ZhR (w:World) (l:L1) (node:Int):Calls Tryz.prog 96 #[.agg l.cells.toArray,.int .i64 node] w fun e w'=>e=.returned (.bool (ZhQ l node))/\Same w w':=by
 obtain ⟨v,s,d,i,j,k,m⟩:=l;unfold L1.cells ZhQ;simp only;have b:=(Yaa (fun _=>False) w).alloc (.cells #[.bool v,.int .i64 s,.int .i64 d,.int .i64 i,.int .i64 j,.int .i64 k,.int .i64 m] 109);have a:=qH b;clear b;by_cases c:s=node
 · subst c;go_enter Tryz.func96,Tryz.ntmps96;go_wp2;go_ret;exact ⟨by simp,a⟩
 by_cases f:d=node
 · subst f;go_enter Tryz.func96,Tryz.ntmps96;go_wp2;go_ret;exact ⟨by simp,a⟩
 have g:=qH c;have h:=qH f;go_enter Tryz.func96,Tryz.ntmps96;go_wp2;go_ret;exact ⟨by simp [g.out,h.out],a⟩
theorem Zjm (w:World) {b p:Nat} {s:Int} (h:w.cell? ⟨b,p+1,none⟩=some (.int .i64 s)) (node:Int):Calls Tryz.prog 99 #[.pointer (some ⟨b,p,none⟩),.int .i64 node] w fun e w' =>
 e=.returned (.tuple #[.pointer (some ⟨b,p+(if s=node then 3 else 4),none⟩),.pointer (some ⟨b,p+(if s=node then 5 else 6),none⟩)])/\Same w w':=by
 by_cases a:s=node
 · subst a;rw [Yac rfl,Yac rfl];go_enter Tryz.func99,Tryz.ntmps99;go_upto_region 2 with fail;go_quiet (fail);go_wp2
   go_ret2
   exact ⟨rfl,(Yaa _ w).drewN _⟩
 rw [Yab a,Yab a];go_enter Tryz.func99,Tryz.ntmps99;go_upto_region 3 with fail;go_quiet (fail);go_wp2
 go_ret2
 exact ⟨rfl,(Yaa _ w).drewN _⟩
theorem Zko {F:Nat->Prop} {A:Option Addr} {n c:Nat} {L:List L1} (w:World) (h:RdL w F A n c L) (node id:Int):Calls Tryz.prog 98 #[.slice A n c,.int .i64 node,.int .i64 id] w fun e w'=>e=.returned (.int .i64 (ZaJ L node id))/\Same w w':=by
 have r:=h.len';by_cases t:id<0
 · have f:ZaJ L node id=3:=Yac t;rw [f];clear h f;go_enter Tryz.func98,Tryz.ntmps98;go_wp2;go_ret;exact ⟨rfl,Yaa _ _⟩
 obtain ⟨k,rfl⟩:∃ k:Nat,id=(k:Int):=⟨id.toNat,qO⟩
 have f:ZaJ L node (k:Int)=match L[k]? with | none=>3 | some l=>if l.live=false then 3 else if l.src≠node/\l.dst≠node then 65 else 0:=Yab t
 by_cases x:k<n
 · obtain ⟨b,o,l,rfl,R,_,m,_,p⟩:=h.at7 x;rw [m] at f;simp only at f;have y:(k:Int)<(n:Int):=qO;obtain ⟨z,B,C,D,E,G,H⟩:=p;have i:=qH (ZhR w l node);obtain ⟨v,s,d,I,M,N,O⟩:=l;simp only at f z B C D E G H;have j:=qH f;clear h f m;cases v with
   | false =>
     go_enter Tryz.func98,Tryz.ntmps98;go_wp2;go_ret;exact ⟨by rw [j.out];rfl,Yaa _ _⟩
   | true =>
     unfold L1.cells at i;simp only at i;cases a:ZhQ ⟨true,s,d,I,M,N,O⟩ node with
     | false =>
       rw [a] at i;have g:=qH (show ZaJ L node (k:Int)=65 by rw [j.out,Yab (by simp),Yac];unfold ZhQ at a;simpa using a)
       clear a j;go_enter Tryz.func98,Tryz.ntmps98;go_wp2_with fail;refine i.mono ?_;rintro e P ⟨rfl,q⟩;go_wp2;go_ret;exact ⟨by rw [g.out];rfl,q⟩
     | true =>
       rw [a] at i;have g:=qH (show ZaJ L node (k:Int)=0 by
        rw [j.out,Yab (by simp),Yab];unfold ZhQ at a;simp at a;intro u;rcases a with a | a
        · exact u.1 a
        exact u.2 a)
       clear a j;go_enter Tryz.func98,Tryz.ntmps98;go_wp2_with fail;refine i.mono ?_;rintro e P ⟨rfl,q⟩;go_wp2;go_ret;exact ⟨by rw [g.out];rfl,q⟩
 have m:L[k]?=none:=Ydp qO;rw [m] at f;have y:¬ (k:Int)<(n:Int):=qO;rw [f];clear h f m;go_enter Tryz.func98,Tryz.ntmps98;go_wp2;go_ret;exact ⟨rfl,Yaa _ _⟩
end Go.Proofs.YtmkjfhnlnhceiaaGreatDoor
