/- Texts that the claim leans on: walks and plain laws, function by function. -/
import Derived.Laws.CopyOwn
import Derived.Test.YtmkjfhnlnhceiaaGreatDoorN06
import Derived.Test.YtmkjfhnlnhceiaaGreatDoorN09
set_option maxRecDepth 100000
set_option maxHeartbeats 16000000
namespace Go.Proofs.YtmkjfhnlnhceiaaGreatDoor
section
open Go.RowKit
structure CR (w:World) (F:Nat->Prop) (c r:Nat) (l:List UInt8) (bad:Bool):Prop where
 cod:Blk w c 237 #[.pointer none,.pointer (some ⟨r,0,none⟩),.bool bad]
 rdr:Rdr w F r ⟨l,0⟩
 fr:¬ F r
 fc:¬ F c
theorem CR.ne {w:World} {F:Nat->Prop} {c r:Nat} {l:List UInt8} {bad:Bool} (h:CR w F c r l bad):c≠r:=by
 rintro rfl;obtain ⟨_,_,_,b,_⟩:=h.rdr;have a:=h.cod;unfold Blk at a b;rw [b] at a;injection a with a
 injection a with _ h2
 exact absurd h2 qD
theorem Blk.ne {w:World} {g g':Nat} {t t':TypeId} {cs cs':Array Value} (h:Blk w g t cs) (h':Blk w g' t' cs') (ht:t≠t'):g≠g':=by
 rintro rfl;unfold Blk at h h';rw [h] at h';injection h' with h'
 injection h' with _ h2
 exact ht h2
theorem CR.same {w w':World} {F:Nat->Prop} {c r:Nat} {l:List UInt8} {bad:Bool} (h:CR w F c r l bad) (hu:Same w w'):CR w' F c r l bad:=⟨h.cod.same hu,h.rdr.same hu,h.fr,h.fc⟩
def outB (V low most:Int):Bool:=decide (V<low) || decide (most<=V)
theorem ZeO {w:World} {F:Nat->Prop} {c r:Nat} {l:List UInt8} {bad:Bool} (h:CR w F c r l bad) (width:Nat) (hw:ZaK width=true) (hle:width<=4) (hl:width<=l.length) {t:TypeId} {pb po:Nat} {cs:Array Value} {n0:Value}
 (hp:Blk w pb t cs) (hpo:cs[po]?=some n0) (ht:t≠237/\t≠285) (hFp:¬ F pb) (low most:Int) (add:Nat) (hadd:add<=1) {V:Int} (hV:(be (l.take width):Int)-add=V) :
 Calls Tryz.prog 169 #[.pointer (some ⟨c,0,none⟩),.int .i64 width,.pointer (some ⟨pb,po,none⟩),.int .i64 low,.int .i64 most,.int .i64 add] w fun e w'=>e=.returned (.tuple #[]) /\
  CR w' F c r (l.drop width) (bad || outB V low most)/\Blk w' pb t (cs.setIfInBounds po (.int .i64 V))/\Upd (fun b=>b=c\/b=r\/b=pb) w w':=by
 have j:=h.ne;obtain ⟨o,E,G,s⟩:=h;have k:pb≠c:=hp.ne o ht.1;have m:pb≠r:=by obtain ⟨_,_,_,u,_⟩:=E;exact hp.ne u ht.2
 have I:po<cs.size:=(YaX.1 hpo).1;have z:be (l.take width)<4294967296:=by
  have A:=Zgc (l.take width);have x:(l.take width).length<=4:=by rw [YaJ];omega
  have O:256 ^ (l.take width).length<=256 ^ 4:=YdR qO x;omega
 have n:RS.num ⟨l,0⟩ (width:Int)=(be (l.take width),⟨l.drop width,0⟩):=by unfold RS.num;rw [hw,YdL hl]
 have y:=qH (Zcb E G (width:Int));rw [n] at y;have P:=o.c1;have o:=qH o;have L:=qH hp;have B:=qH hpo;obtain ⟨N,H⟩:∃ N,be (l.take width)=N:=⟨_,rfl⟩
 rw [H] at y hV z;have R:IntKind.i64.wrap (N:Int)=(N:Int):=YbO _ ⟨qO,qO⟩;have S:IntKind.i64.wrap ((N:Int)-(add:Int))=V:=by rw [<- hV];exact YbO _ ⟨qO,qO⟩
 have T:=qH hV;clear hp H hV hl hpo E;go_enter Tryz.func169,Tryz.ntmps169;go_wp2_with fail;refine y.mono ?_;rintro e a ⟨rfl,v,g⟩;have C:=qH v;have D:=qH g;have d:=qH (o.upd g j);have i:=qH (L.upd g m);have U:a.cell? ⟨pb,po,none⟩=some n0:=by rw [i.cell];exact B
 have W:a.frozen? ⟨pb,po,none⟩=false:=i.frozen po;have X:=d.c2;have Y:=d.c1;have Z:=d.frozen 2;clear v g y;have p:∀ q:Bool,q=(bad || outB V low most)->CR ((a.setCell ⟨pb,po,none⟩ (.int .i64 V)).setCell ⟨c,2,none⟩ (.bool q)) F c r (l.drop width) (bad || outB V low most) /\
  Blk ((a.setCell ⟨pb,po,none⟩ (.int .i64 V)).setCell ⟨c,2,none⟩ (.bool q)) pb t (cs.setIfInBounds po (.int .i64 V))/\Upd (fun b=>b=c\/b=r\/b=pb) w ((a.setCell ⟨pb,po,none⟩ (.int .i64 V)).setCell ⟨c,2,none⟩ (.bool q)):=by
  intro q M;subst M;have u1:Upd (fun b=>b=pb) a (a.setCell ⟨pb,po,none⟩ (.int .i64 V)):=(Yaa _ a).put1 _;have u2:Upd (fun b=>b=c) (a.setCell ⟨pb,po,none⟩ (.int .i64 V)) ((a.setCell ⟨pb,po,none⟩ (.int .i64 V)).setCell ⟨c,2,none⟩ (.bool (bad || outB V low most))):=(Yaa _ _).put1 _;refine ⟨⟨(d.far (YbY k) _).put 2 _,(C.upd u1 (YbY m) fun b u h=>hFp (h ▸ u)).upd u2 (YbY j) fun b u h=>s (h ▸ u),G,s⟩,(i.put po _).far k _,?_⟩;exact ((D.mono (S':=fun b=>b=c\/b=r\/b=pb) fun _ _ h=>.inr (.inl h)).trans u1 fun _ _ h=>.inr (.inr h)).trans u2 fun _ _ h=>.inl h
 have f:=qH p;clear p;go_upto_region 2 with fail;cases bad
 · by_cases A:V<low
   · go_wp2;go_end0;exact ⟨rfl,f.out _ (by simp [outB,A])⟩
   by_cases x:most<=V
   · go_wp2;go_end0;exact ⟨rfl,f.out _ (by simp [outB,x])⟩
   go_wp2;go_end0;exact ⟨rfl,f.out _ (by simp [outB,A,x])⟩
 go_wp2;go_end0;exact ⟨rfl,f.out _ (by simp)⟩
section
variable {w:World} {F:Nat->Prop} {c r g po:Nat} {l:List UInt8} {bad:Bool} {t:TypeId} {cs:Array Value} {n0:Value}
theorem Zdi (h:CR w F c r l bad) (hl:4<=l.length) (hp:Blk w g t cs) (hpo:cs[po]?=some n0) (ht:t≠237/\t≠285) (hFp:¬ F g) (most:Int) {V:Int} (hV:(be (l.take 4):Int)-1=V) :
 Calls Tryz.prog 152 #[.pointer (some ⟨c,0,none⟩),.pointer (some ⟨g,po,none⟩),.int .i64 most] w fun e w'=>e=.returned (.tuple #[]) /\
  CR w' F c r (l.drop 4) (bad || outB V (-1) most)/\Blk w' g t (cs.setIfInBounds po (.int .i64 V))/\Upd (fun b=>b=c\/b=r\/b=g) w w':=by
 have d:=qH (ZeO h 4 rfl qO hl hp hpo ht hFp (-1) most 1 (Yae _) hV);clear h hp hpo ht hFp hV hl;go_enter Tryz.func152,Tryz.ntmps152;go_wp2_with fail;refine d.mono ?_;rintro e i ⟨rfl,a⟩;have f:=qH a;clear a;go_wp2;go_end0;exact ⟨rfl,f⟩
theorem Zrh (h:CR w F c r l bad) (hl:2<=l.length) (hp:Blk w g t cs) (hpo:cs[po]?=some n0) (ht:t≠237/\t≠285) (hFp:¬ F g) {V:Int} (hV:(be (l.take 2):Int)=V) :
 Calls Tryz.prog 155 #[.pointer (some ⟨c,0,none⟩),.pointer (some ⟨g,po,none⟩)] w fun e w'=>e=.returned (.tuple #[]) /\
  CR w' F c r (l.drop 2) (bad || outB V 0 200)/\Blk w' g t (cs.setIfInBounds po (.int .i64 V))/\Upd (fun b=>b=c\/b=r\/b=g) w w':=by
 have d:=qH (ZeO h 2 rfl qO hl hp hpo ht hFp 0 200 0 qO (V:=V) (by rw [<- hV];simp));clear h hp hpo ht hFp hV hl;go_enter Tryz.func155,Tryz.ntmps155;go_wp2_with fail;refine d.mono ?_;rintro e i ⟨rfl,a⟩;have f:=qH a;clear a;go_wp2;go_end0;exact ⟨rfl,f⟩
end
def ZsX (cs:Array Value):List Nat->List UInt8->Array Value
 | [],_=>cs
 | o::os,l=>ZsX (cs.setIfInBounds o (.int .i64 ((be (l.take 4):Int)-1))) os (l.drop 4)
def badN (most:Int) (bad:Bool):List Nat->List UInt8->Bool
 | [],_=>bad
 | _::os,l=>badN most (bad || outB ((be (l.take 4):Int)-1) (-1) most) os (l.drop 4)
theorem ZpE {w:World} {F:Nat->Prop} {c r g:Nat} {l:List UInt8} {bad:Bool} {cs:Array Value} (h:CR w F c r l bad) (hl:16<=l.length) (hp:Blk w g 124 cs) (hcs:cs.size=9) (hFp:¬ F g) :
 Calls Tryz.prog 156 #[.pointer (some ⟨c,0,none⟩),.pointer (some ⟨g,0,none⟩)] w fun e w'=>e=.returned (.tuple #[]) /\
  CR w' F c r (l.drop 16) (badN 2048 bad [3,5,4,6] l)/\Blk w' g 124 (ZsX cs [3,5,4,6] l)/\Upd (fun b=>b=c\/b=r\/b=g) w w':=by
 have t:=qH h;have u:=qH hp;have G:=h.cod.lt;have H:=hp.lt;have I:=qH h.rdr.lt;clear h hp;go_enter Tryz.func156,Tryz.ntmps156;have v:=((Yaa (fun _=>False) w).alloc (.cells #[.pointer (some ⟨g,3,none⟩),.pointer (some ⟨g,5,none⟩),.pointer (some ⟨g,4,none⟩),.pointer (some ⟨g,6,none⟩)] 176)).drew;have x:Hid (Blk (w.alloc (.cells #[.pointer (some ⟨g,3,none⟩),.pointer (some ⟨g,5,none⟩),.pointer (some ⟨g,4,none⟩),.pointer (some ⟨g,6,none⟩)] 176)).drew w.heap.size 176 #[.pointer (some ⟨g,3,none⟩),.pointer (some ⟨g,5,none⟩),.pointer (some ⟨g,4,none⟩),.pointer (some ⟨g,6,none⟩)]):=qH (Yad w _ _);have o:=qH v;clear v;go_upto_region 0 with fail;go_region;generalize World.drew (w.alloc (.cells #[.pointer (some ⟨g,3,none⟩),.pointer (some ⟨g,5,none⟩),.pointer (some ⟨g,4,none⟩),.pointer (some ⟨g,6,none⟩)] 176))=wA at *;generalize w.heap.size=z at *;have p:(176:TypeId)≠237/\124≠237/\124≠285:=qD;have L:r<z:=I.out;have q:¬ (z=c\/z=r\/z=g):=qO;have d:=x;have M:=qH (t.same o);have N:=qH (u.same o);have O:=qH (o.mono (S':=fun b=>b=c\/b=r\/b=g) fun _ _ f=>f.elim);clear t u o x;go_wp2_with fail;refine wp_loop_rounds 5 ?_;have P:=d.c0;rw [YbL];go_wp2_with fail;refine (Zdi M (by first | omega | (simp only [Yas];omega)) N (Yev (by first | omega | (simp only [YdC];omega))) p.2 hFp 2048 rfl).mono ?_;rintro e w1 ⟨rfl,y,A,u1⟩;have i:=qH (d.upd u1 q);have R:=qH y;have P1:=qH A;have S:=qH (O.trans u1 fun _ _ h=>h);clear y A u1 P;go_wp2_with fail;have T:=i.c1;rw [YbL];go_wp2_with fail;refine (Zdi R (by first | omega | (simp only [Yas];omega)) P1 (Yev (by first | omega | (simp only [YdC];omega))) p.2 hFp 2048 rfl).mono ?_;rintro e w2 ⟨rfl,B,C,u2⟩;have j:=qH (i.upd u2 q);have U:=qH B;have V:=qH C;have W:=qH (S.trans u2 fun _ _ h=>h);clear B C u2 T;go_wp2_with fail;have X:=j.c2;rw [YbL];go_wp2_with fail;refine (Zdi U (by first | omega | (simp only [Yas];omega)) V (Yev (by first | omega | (simp only [YdC];omega))) p.2 hFp 2048 rfl).mono ?_;rintro e w3 ⟨rfl,D,E,u3⟩;have k:=qH (j.upd u3 q);have Y:=qH D;have Z:=qH E;have U3:=qH (W.trans u3 fun _ _ h=>h);clear D E u3 X;go_wp2_with fail;have t3:=k.c3;rw [YbL];go_wp2_with fail;refine (Zdi Y (by first | omega | (simp only [Yas];omega)) Z (Yev (by first | omega | (simp only [YdC];omega))) p.2 hFp 2048 rfl).mono ?_;rintro e w4 ⟨rfl,m,n,u4⟩;have a0:=qH (k.upd u4 q);have H4:=qH m;have P4:=qH n;have U4:=qH (U3.trans u4 fun _ _ h=>h);clear m n u4 t3;go_wp2_with fail;rw [YbL];go_wp2;go_end0;have s:∀ a b:Nat,(l.drop a).drop b=l.drop (a+b):=fun a b=>Ybm;have m:=H4.out;have n:=P4.out;simp only [s] at m n;exact ⟨rfl,by simpa only [badN,s] using m,by simpa only [ZsX,s] using n,U4⟩
theorem Zgr (V low most:Int):outB V low most=!inP V low most:=by unfold outB inP;by_cases a:V<low <;> by_cases b:most<=V <;> simp [a,b] <;> omega
def R1.cells (x:R1):Array Value:=#[.bool x.link.live,.int .i64 x.link.src,.int .i64 x.link.dst,.int .i64 x.link.sprev,.int .i64 x.link.dprev,.int .i64 x.link.snext,.int .i64 x.link.dnext,.int .i64 x.type,.int .i64 x.prop]
def N1.cellsV (x:N1) (v:Value):Array Value:=#[.int .i64 x.rel,.int .i64 x.prop,v]
def P1.cells (x:P1):Array Value:=#[.int .i64 x.key,.int .i64 x.kind,.int .i64 x.num,.int .i64 x.blob,.int .i64 x.prev,.int .i64 x.next]
theorem ZsY {w:World} {F:Nat->Prop} {c r g:Nat} {l:List UInt8} {bad:Bool} {cs:Array Value} (h:CR w F c r l bad) (hl:8<=l.length) (hp:Blk w g 124 cs) (hcs:cs.size=9) (hFp:¬ F g) :
 Calls Tryz.prog 154 #[.pointer (some ⟨c,0,none⟩),.pointer (some ⟨g,0,none⟩)] w fun e w'=>e=.returned (.tuple #[]) /\
  CR w' F c r (l.drop 8) (bad || outB (atP l 0 4) 0 1024 || outB (atP l 4 4) 0 1024)/\Blk w' g 124 ((cs.setIfInBounds 1 (.int .i64 (atP l 0 4))).setIfInBounds 2 (.int .i64 (atP l 4 4)))/\Upd (fun b=>b=c\/b=r\/b=g) w w':=by
 have d:124≠237/\124≠285:=qD;have k:=qH h;have m:=qH hp;clear h hp;go_enter Tryz.func154,Tryz.ntmps154;go_wp2_with fail;refine (ZeO k 4 rfl qO qO m.out (Yev qO) d hFp 0 1024 0 qO (V:=(atP l 0 4:Int)) (by unfold atP;simp)).mono ?_;rintro e t ⟨rfl,f,i,u1⟩;have n:=qH f;have P1:=qH i;have o:=qH u1;clear f i u1;go_wp2_with fail;refine (ZeO n 4 rfl qO (by simp only [Yas];omega) P1.out (Yev (by simp only [YdC];omega)) d hFp 0 1024 0 qO (V:=(atP l 4 4:Int)) (by unfold atP;simp)).mono ?_;rintro e u ⟨rfl,a,j,u2⟩;have p:=qH a;have q:=qH j;have s:=qH (o.trans u2 fun _ _ h=>h);clear a j u2;go_wp2;go_end0;refine ⟨rfl,?_,q,s⟩;have a:=p.out;rwa [Ybm] at a
theorem or8:∀ a b c d e f g h:Bool,(((((((a || b) || c) || d) || e) || f) || g) || h)=((a || (b || (d || (e || (f || g))))) || (c || h)):=qD
theorem Zuq {w:World} {F:Nat->Prop} {c r g:Nat} {l:List UInt8} (h:CR w F c r l false) (hl:l.length=30) (hp:Blk w g 124 #[.bool true,.int .i64 0,.int .i64 0,.int .i64 0,.int .i64 0,.int .i64 0,.int .i64 0,.int .i64 0,.int .i64 0]) (hFp:¬ F g) :
 Calls Tryz.prog 108 #[.pointer (some ⟨c,0,none⟩),.pointer (some ⟨g,0,none⟩)] w fun e w'=>e=.returned (.tuple #[]) /\
  CR w' F c r [] (!Zdw (relR l))/\Blk w' g 124 (relR l).cells/\Upd (fun b=>b=c\/b=r\/b=g) w w':=by
 have k:124≠237/\124≠285:=qD;have p:=qH h;have q:=qH hp;clear h hp;go_enter Tryz.func108,Tryz.ntmps108;go_wp2_with fail;refine (ZsY p qO q.out rfl hFp).mono ?_;rintro e G ⟨rfl,m,f,u1⟩;simp only [Yal,Yap,Yam] at f;have s:=qH m;have P1:=qH f;have t:=qH u1;clear m f u1;go_wp2_with fail;refine (Zrh (po:=7) s (by simp only [Yas];omega) P1.out rfl k hFp rfl).mono ?_;rintro e H ⟨rfl,n,i,u2⟩;simp only [Yal,Yap,Yam] at i;have u:=qH n;have v:=qH i;have x:=qH (t.trans u2 fun _ _ h=>h);clear n i u2;go_wp2_with fail;refine (ZpE u (by simp only [Yas];omega) v.out rfl hFp).mono ?_;rintro e I ⟨rfl,o,j,u3⟩;simp only [ZsX,Yal,Yap,Yam] at j;have y:=qH o;have z:=qH j;have A:=qH (x.trans u3 fun _ _ h=>h);clear o j u3;go_wp2_with fail;refine (Zdi (po:=8) y (by simp only [Yas];omega) z.out rfl k hFp 65536 rfl).mono ?_;rintro e E ⟨rfl,a,d,u4⟩;simp only [Yal,Yap,Yam] at d;have B:=qH a;have C:=qH d;have D:=qH (A.trans u4 fun _ _ h=>h);clear a d u4;go_wp2;go_end0;have a:=B.out;have d:=C.out;simp only [Ybm,Nat.reduceAdd,badN,Zgr,Bool.false_or] at a d;refine ⟨rfl,?_,?_,D⟩
 · rw [show ([]:List UInt8)=l.drop 30 from (Ybt qO).symm];simp only [Zdw,ZfL,relR,atP,Bool.not_and] at a ⊢;refine Eq.mp (YaC (CR E F c r (l.drop 30)) ?_) a;exact or8 _ _ _ _ _ _ _ _
 simpa only [R1.cells,relR,atP] using d
theorem Zee {l:List UInt8} {i w:Nat} (h:i+w<=l.length):beb w (atP l i w)=(l.drop i).take w:=by refine Zoy (by rw [YaJ,Yas];omega) ?_;unfold atP;refine Ydk ?_;have:=Zgc ((l.drop i).take w);rwa [YaJ,Yas,YdD qO] at this
theorem Zda {l:List UInt8} {i:Nat} (h:i+4<=l.length):ptrB ((atP l i 4:Int)-1)=(l.drop i).take 4:=by unfold ptrB;rw [Yge,YaN,Zee h]
theorem Zri {l:List UInt8} {i w:Nat} (h:i+w<=l.length):atP l i w<256 ^ w:=by have:=Zgc ((l.drop i).take w);rwa [YaJ,Yas,YdD qO] at this
theorem ZbS (l:List UInt8) (i a b:Nat):(l.drop i).take (a+b)=(l.drop i).take a++(l.drop (i+a)).take b:=by rw [List.take_add,Ybm]
theorem Zvp {l:List UInt8} (hl:l.length=30):relB (relR l)=l:=by
 unfold relB relR;simp only [YaN];rw [Zee qO,Zee qO,Zee qO,Zda qO,Zda qO,Zda qO,Zda qO,Zda qO];have e:l=(l.drop 0).take 30:=by rw [Ycj,YaB qO]
 conv=>rhs;rw [e,show 30=4+(4+(2+(4+(4+(4+(4+4)))))) from rfl,ZbS,ZbS,ZbS,ZbS,ZbS,ZbS,ZbS]
theorem Zrj {l:List UInt8} (hl:l.length=30):getR l=if Zdw (relR l)=true then some (relR l) else none:=by unfold getR;rw [Zvp hl];simp
theorem ZtV {m:Nat} (hm:m<4294967296):beb 8 m=beb 4 0++beb 4 m:=by have a:∀ j,m / 256 ^ (4+j)=0:=fun j=>Yfi (Ycd (show m<256 ^ 4 by omega) (YdR qO qO));have b:=a 0;have c:=a 1;have d:=a 2;have e:=a 3;simp only [YbW] at b;simp [beb,b,c,d,e]
theorem Zrk {l:List UInt8} (hl:l.length=19):getP l=if ZbN (Zey l)=true/\((atP l 2 1:Int)<4\/atP l 3 4=0) then some (Zey l) else none:=by
 have e:l=(l.drop 0).take 2++((l.drop 2).take 1++((l.drop 3).take 8++((l.drop 11).take 4++(l.drop 15).take 4))):=by
  have e:l=(l.drop 0).take 19:=by rw [Ycj,YaB qO]
  conv=>lhs;rw [e,show 19=2+(1+(8+(4+4))) from rfl,ZbS,ZbS,ZbS,ZbS]
 have d:ZbO (Zey l)=l↔((atP l 2 1:Int)<4\/atP l 3 4=0):=by
  unfold ZbO Zey;simp only [YaN];rw [Zee qO,Zee qO,Zda qO,Zda qO];by_cases a:(atP l 2 1:Int)<4
  · rw [Yac a,Yac a,ZqH (Zri qO),Zee qO];exact ⟨fun _=>.inl a,fun _=>e.symm⟩
  rw [Yab a,Yab a,Yge,YaN,ZtV (Zri (l:=l) (i:=7) (w:=4) qO),Zee qO];have c:(l.drop 3).take 8=(l.drop 3).take 4++(l.drop 7).take 4:=ZbS l 3 4 4;constructor
  · intro h;right
    conv at h=>rhs;rw [e,c]
    have f:=Yfr (Yfr h);have b:=List.append_inj_left (by simpa only [Yak] using f) (by simp only [Zab,YaJ,Yas];omega);unfold atP;rw [<- b];rfl
  rintro (h | h)
  · exact absurd h a
  have b:beb 4 0=(l.drop 3).take 4:=by rw [<- h,Zee qO]
  rw [b,<-c];exact e.symm
 unfold getP;simp only [d]
attribute [local go_sem] Ybq
def Zbn (z:Nat):Nat->List UInt8->List (List UInt8)
 | 0,_=>[]
 | m+1,b=>b.take z::Zbn z m (b.drop z)
theorem Zcy (z:Nat):∀ (m:Nat) (b:List UInt8),(Zbn z m b).length=m
 | 0,_=>rfl
 | m+1,b=>by rw [Zbn,Yao,Zcy z m]
theorem Zhf (z:Nat):∀ (m i:Nat) (b:List UInt8),i<m->(Zbn z m b)[i]?=some ((b.drop (i*z)).take z)
 | 0,i,b,h=>absurd h (Ydn _)
 | m+1,0,b,h=>by simp [Zbn]
 | m+1,i+1,b,h=>by rw [Zbn,Ybd,Zhf z m i _ qO,Ybm,show z+i*z=(i+1)*z by rw [Ycn,YeP]]
theorem Zag.piece {w:World} {F:Nat->Prop} {b o n c:Nat} {bs:List UInt8} (h:Zag w F (some ⟨b,o,none⟩) n c bs) {j k:Nat} (hk:j+k<=n):Zag w F (some ⟨b,o+j,none⟩) k k ((bs.drop j).take k):=by
 obtain ⟨s,m,p,q⟩:=Row.cell h _ rfl;have r:=h.len;refine ⟨by simp;omega,Yae _,by have:=Row.le h;have:=Row.max h;omega,fun e=>(by cases e),fun a d=>?_⟩;have d:=(Yax d).symm;subst d;refine ⟨rfl,m,p,fun i u f=>?_⟩;have g:=q (j+i) u (by
  rw [<- f];simp only [Yau];congr 1;have l:i<k:=by have:=(Yaq.1 f).1;simp at this;omega
  rw [List.getElem?_take_of_lt l,YeM])
 simpa [YdP] using g
def BS.argC (x:BS):Array Value:=#[.slice x.A x.n x.c]
structure ChR (L:List (List UInt8)) (F:Nat->Prop) (pre:List BS) (x:BS) (W:World):Prop where
 at_:L[pre.length]?=some x.data
 row:Zag W F x.A x.n x.c x.data
theorem ZpF (w:World) (A:Option Addr) (n c z:Nat) (hz:1<=z):Calls Tryz.prog 162 #[.slice A n c,.int .i64 (z:Int)] w fun e w'=>e=.returned (.func (.func 191) #[] #[.pointer (some ⟨w.heap.size,0,none⟩),.pointer (some ⟨w.heap.size+1,0,none⟩)])/\Blk w' w.heap.size 39 #[.slice A n c]/\Blk w' (w.heap.size+1) 3 #[.int .i64 (z:Int)]/\Same w w':=by have d:∀ (fn:Fn) (first cap:Array Value) (w:World),(Instr.makeFunc fn first cap).run Tryz.prog w=.ok (.func fn first cap) w:=fun _ _ _ _=>rfl;have h:¬ (z:Int)<1:=qO;go_enter Tryz.func162,Tryz.ntmps162;go_wp2_with fail;go_ret;have f:=Yad w 39 #[.slice A n c];have g:=(Yaa (fun _=>False) w).alloc (.cells #[.slice A n c] 39);have a:(w.alloc (.cells #[.slice A n c] 39)).heap.size=w.heap.size+1:=Yav _ _;have b:=Yad (w.alloc (.cells #[.slice A n c] 39)) 3 #[.int .i64 (z:Int)];rw [a] at b;exact ⟨rfl,f.same ((Yaa _ _).alloc _),b,g.alloc _⟩
theorem Zrl (n':Nat) (hn1:1<=n') (w:World) {F:Nat->Prop} {A:Option Addr} {n c z m sB nB:Nat} {bs:List UInt8} (hb:Zag w F A n c bs) (hz:1<=z/\z<=255) (hm:n=m*z) (hm6:m<=65536) (h1:Blk w sB 39 #[.slice A n c]) (h2:Blk w nB 3 #[.int .i64 (z:Int)]) :
 SeqR (fun _=>False) Fence.wide n' Tryz.prog 191 #[.pointer (some ⟨sB,0,none⟩),.pointer (some ⟨nB,0,none⟩)] BS.argC
  (fun _ W W'=>(Zag W F A n c bs->Zag W' F A n c bs)/\(Blk W sB 39 #[.slice A n c]->Blk W' sB 39 #[.slice A n c])/\(Blk W nB 3 #[.int .i64 (z:Int)]->Blk W' nB 3 #[.int .i64 (z:Int)])) (ChR (Zbn z m bs) F)
  (fun xs=>xs.map BS.data=Zbn z m bs) (fun pre=>∃ k,pre.map BS.data=(Zbn z m bs).take k) w:=fun lp J Jx W hW hJ a9 hY h0=>by
 have d:Same w W:=Yfe hW;have ab:n<=16711680:=by rw [hm];exact Nat.mul_le_mul hm6 hz.2
 have HM:=qH hm;have E:=qH (hb.same d);have l:=qH (h1.same d);have q:=qH (h2.same d);have HJ:=qH hJ;have HY:=qH hY;have G:=qH h0;clear hm hb h1 h2 d hW hJ a9 hY h0;have q0:=l.c0;have Z:=q.c0;refine YaO.2 ?_;go_enter Tryz.func191,Tryz.ntmps191;go_wp2_with fail;go_loopg [4] m (fun gh s wr=>∃ (j p:Nat) (pre:List BS),m-j=gh/\j<=m/\s=.int .i64 (p:Int)/\Hid (p=j*z)/\Hid (pre.map BS.data=(Zbn z m bs).take j)/\Hid (J pre wr)/\Hid (Zag wr F A n c bs)/\Hid (Blk wr sB 39 #[.slice A n c])/\Hid (Blk wr nB 3 #[.int .i64 (z:Int)]))
 case atStart=>exact ⟨0,0,[],rfl,Yah _,rfl,qH (Nat.zero_mul z).symm,qH rfl,G,E,l,q⟩
 clear G E l q q0 Z;obtain ⟨j,p,pre,rfl,hj,rfl,HP,KP,KJ,P,H1,H2⟩:=hrel;have q0:=H1.c0;have Z:=H2.c0;by_cases H:j<m
 · have r:p+z<=n:=by have h1:(j+1)*z<=m*z:=Ycy z H;rw [HP.out,HM.out];rw [Ycn] at h1;exact h1
   have ac:n<=c:=P.le;obtain ⟨b,o,rfl⟩:∃ b o,A=some ⟨b,o,none⟩:=by obtain ⟨b,o,h1,_⟩:=P.at_ (i:=0) qO;exact ⟨b,o,h1⟩
   have t:=qH (Zag.piece P r);have u:Hid ((Zbn z m bs)[j]?=some ((bs.drop p).take z)):=qH (by rw [Zhf z m j bs H,HP.out]);have I:pre.length=j:=Zuj KP.out (by rw [Zcy];omega);have a0:=qH I;have v:=qH fun (y:BS) (hy:y.data=(bs.drop p).take z)=>Zui (f:=BS.data) (x:=y) KP.out (by rw [u.out,hy]);obtain ⟨D,hD⟩:∃ D,(bs.drop p).take z=D:=⟨_,rfl⟩
   rw [hD] at t u v;have l1:(p:Int)<(n:Int):=qO;have l2:¬ c=p:=qO;have l3:(z:Int)<=(n:Int)-(p:Int):=qO;have l4:(p:Int)+(z:Int)<=(n:Int):=qO;have l5:(n:Int)<=(c:Int):=qO;clear I hD;go_upto_region 3 with fail;go_quiet (fail);have a:Hid (Same wr (wr.drewN nq)):=qH ((Yaa _ wr).drewN nq);generalize wr.drewN nq=wq at *;have L:=qH (P.same a);have B:=qH (H1.same a);have C:=qH (H2.same a);have a1:Hid (J pre wq):=qH (HJ.out _ _ _ KJ (a.mono fun _ _ f=>f.elim));obtain ⟨fn,R,g,S,hy,hR⟩:=HY.out pre ⟨D,some ⟨b,o+p,none⟩,z,z⟩ wq a1.out ⟨by rw [a0.out];exact u,t.same a⟩;have a2:(Instr.yield lp #[.slice (some ⟨b,o+p,none⟩) z z]).run Tryz.prog wq=.ok (.round lp fn R g S) wq:=hy;have M:=qH hR;have q0:=B.c0;have Z:=C.c0;clear hy hR P H1 H2 KJ a t;go_upto_region 4 with fail;refine (YcT (n:=n')).1 ?_;gi_wp2;refine M.mono ?_;clear a2 M;rintro e W2 ⟨aa,h⟩;rcases h with ⟨rfl,T,U,V,X⟩ | ⟨rfl,Y⟩
   case inr =>
    gi_wp2;go_wp2_with fail;refine YbB (Ycp rfl _ _ _) rfl ?_;exact ⟨⟨_,rfl⟩,.inr ⟨_,⟨_,v.out _ rfl⟩,Y⟩⟩
   have a3:=qH (v.out ⟨D,some ⟨b,o+p,none⟩,z,z⟩ rfl);have a4:=qH T;have a5:=qH (U L);have a6:=qH (V B);have N:=qH (X C);have a7:Hid (p+z=(j+1)*z):=qH (by rw [HP.out,Ycn]);have Z:=N.c0;clear T U V X aa L B C;gi_wp2;go_wp2_with fail;go_roundg (m-(j+1))
   case measure=>omega
   case rel=>exact ⟨j+1,p+z,_,rfl,qO,by go_num,a7,a3,a4,a5,a6,N⟩
 have O:j=m:=qO;have r:p=n:=by rw [HP.out,HM.out,O]
 have a8:Hid (pre.map BS.data=Zbn z m bs):=qH (by rw [KP.out,YaB (by rw [Zcy];omega)]);have l1:¬ (p:Int)<(n:Int):=qO;clear O r;go_wp2;go_end0;exact ⟨⟨_,rfl⟩,.inl ⟨pre,a8,KJ⟩⟩
end
section
open Go.RowKit
variable {n:Nat} {P:Program}
theorem ZiO {α:Type} {G:FuncId->Prop} (hG:∀ x,G x->∃ fn,P.funcs[x]?=some fn) {T:TypeId->Prop} {g:Operand} {ps:Array Tmp} {assign body:Code} {Q:Exit->Act->World->Prop} {a:Act} {w:World}
 {gf:Nat} {lb:Array Value} (hg:a.eval g=.func (.func gf) #[] lb) (eg:∀ args w,(callFunc gf args).run P w=.ok (.enter gf args) w)
 {encs:α->Array Value} {Kp:World->World->Prop} {R:List α->α->World->Prop} {S Sp:List α->Prop} {w0:World} (hseq:SeqP T Fence.wide n P gf lb encs (fun _=>Kp) R S Sp w0)
 (hKr:∀ A,Kp A A) (hKt:∀ {A B C:World},Kp A B->Kp B C->Kp A C) (hKb:∀ (W:World) (l:Nat) (o o':Obj),w.heap.size<=l->W.heap[l]?=some o->o.isCells=false->Kp W (W.putObj l o'))
 (hR:∀ (pre:List α) (x:α) (W:World) (l:Nat) (o o':Obj),w.heap.size<=l->W.heap[l]?=some o->o.isCells=false->R pre x W->R pre x (W.putObj l o'))
 (hb0:Below w0.heap.size w0 w) (hps:∀ x,(encs x).size=ps.size)
 (I:List α->World->Prop) (Ix:Code->List α->World->Prop) (Ip:List PanicEntry->List α->World->Prop) (hI:AbR T w.heap.size I) (hIx:∀ c,AbR T w.heap.size (Ix c)) (hIp:∀ ch,AbR T w.heap.size (Ip ch)) (h0:I [] w)
 (F:α->Array Value)
 (hassign:∀ (l:Nat) (x:α) (W:World) (K:Act->World->Prop),K { tmps:=F x,defers:=[] } W ->
   assign.wpIn (Fence.wide.inRound l) (n-1) P (Exit.then K (fun _ _ _=>False)) { tmps:=(ps.zip (encs x)).foldl (fun t (p,v)=>t.setIfInBounds p v) a.tmps,defers:=[] } W)
 (hbody:∀ (l:Nat) (pre:List α) (x:α) (W:World),w.heap.size<=l->(∃ r,W.heap[l]?=some (.loop r))->I pre W->R pre x W->body.wpIn (Fence.wide.inRound l) (n-1) P (ZoF w.heap.size Kp I Ix Ip (pre++[x]) W) { tmps:=F x,defers:=[] } W)
 (hdone:∀ (D:Nat) (xs:List α) (W:World),w.heap.size<=D->S xs->I xs W->W.heap[D]?=some (.deferred (some []))->Q .normal { a with defers:={ target:=.collected D,args:=#[] }::a.defers } W)
 (hstop:∀ (D:Nat) (c:Code) (pre:List α) (W:World),w.heap.size<=D->Sp pre->Ix c pre W->W.heap[D]?=some (.deferred (some []))->wp2 G P c Q { a with defers:={ target:=.collected D,args:=#[] }::a.defers } W)
 (hpanic:∀ (D:Nat) (ch:List PanicEntry) (pre:List α) (W:World),w.heap.size<=D->Sp pre->Ip ch pre W->W.heap[D]?=some (.deferred (some []))->Q (.panic ch) { a with defers:={ target:=.collected D,args:=#[] }::a.defers } W) :
 wp2 G P (Code.rangeFunc g ps assign body) Q a w :=
 ZiJ hG hg eg hseq (fun h k=>hKt h k) (fun _ W l o o' b d e=>hKb W l o o' b d e) hb0 hps I Ix Ip hI hIx hIp h0
  (fun pre x f W=>f={ tmps:=F x,defers:=[] }/\R pre x W) (fun pre x f W l o o' b d e ⟨i,j⟩=>⟨i,hR pre x W l o o' b d e j⟩)
  (fun l pre x W K m q s=>hassign l x W K (s _ _ ⟨Yae _,fun _ _ _ h _=>h⟩ (hKr W) m ⟨rfl,q⟩))
  (fun l pre x f W b d e ⟨i,j⟩=>by subst i;exact hbody l pre x W b d e j) hdone hstop hpanic
theorem SeqP.toR {α:Type} {T:TypeId->Prop} {F:Fence} {g:Nat} {lb:Array Value} {encs:α->Array Value} {Kp:α->World->World->Prop} {R:List α->α->World->Prop} {S Sp:List α->Prop} {w:World} (h:SeqP T F n P g lb encs Kp R S Sp w):SeqR T F n P g lb encs Kp R S Sp w :=
 fun l J m W o p f q r=>(h l J m (fun _ _ _=>False) W o p f (fun _ _ _ _ i _=>i.elim) (fun b x s t u=>by obtain ⟨v,c,a,d,y,z⟩:=q b x s t u;exact ⟨v,c,a,d,y,z.mono fun e A ⟨k,j⟩=>⟨k,j.elim .inl fun h=>.inr (.inl h)⟩⟩) r).mono fun e A j=>j.elim id fun ⟨B,b,_,_,i⟩=>i.elim
theorem ZcR {α:Type} {F:Fence} {T:TypeId->Prop} {g:Operand} {ps:Array Tmp} {assign body:Code} {Q:Exit->Act->World->Prop} {a:Act} {w:World}
 (hro:F.round=none) (h1:1<=n) {gf:Nat} {lb:Array Value} (hg:a.eval g=.func (.func gf) #[] lb) (hFg:F.fn gf) (eg:∀ args w,(callFunc gf args).run P w=.ok (.enter gf args) w)
 {encs:α->Array Value} {Kp:World->World->Prop} {R:List α->α->World->Prop} {S Sp:List α->Prop} {w0:World} (hseq:SeqP T F (n-1) P gf lb encs (fun _=>Kp) R S Sp w0)
 (hKr:∀ A,Kp A A) (hKt:∀ {A B C:World},Kp A B->Kp B C->Kp A C) (hKb:∀ (W:World) (l:Nat) (o o':Obj),w.heap.size<=l->W.heap[l]?=some o->o.isCells=false->Kp W (W.putObj l o'))
 (hR:∀ (pre:List α) (x:α) (W:World) (l:Nat) (o o':Obj),w.heap.size<=l->W.heap[l]?=some o->o.isCells=false->R pre x W->R pre x (W.putObj l o'))
 (hb0:Below w0.heap.size w0 w) (hps:∀ x,(encs x).size=ps.size)
 (I:List α->World->Prop) (Ix:Code->List α->World->Prop) (hI:AbR T w.heap.size I) (hIx:∀ c,AbR T w.heap.size (Ix c)) (h0:I [] w)
 (F_:α->Array Value)
 (hassign:∀ (l:Nat) (x:α) (W:World) (K:Act->World->Prop),K { tmps:=F_ x,defers:=[] } W ->
   assign.wpIn (F.inRound l) (n-1-1) P (Exit.then K (fun _ _ _=>False)) { tmps:=(ps.zip (encs x)).foldl (fun t (p,v)=>t.setIfInBounds p v) a.tmps,defers:=[] } W)
 (hbody:∀ (l:Nat) (pre:List α) (x:α) (W:World),w.heap.size<=l->(∃ r,W.heap[l]?=some (.loop r))->I pre W->R pre x W->body.wpIn (F.inRound l) (n-1-1) P (ownPostG w.heap.size Kp I Ix (pre++[x]) W) { tmps:=F_ x,defers:=[] } W)
 (hdone:∀ (D:Nat) (xs:List α) (W:World),w.heap.size<=D->S xs->I xs W->W.heap[D]?=some (.deferred (some []))->Q .normal { a with defers:={ target:=.collected D,args:=#[] }::a.defers } W)
 (hstop:∀ (D:Nat) (c:Code) (pre:List α) (W:World),w.heap.size<=D->Sp pre->Ix c pre W->W.heap[D]?=some (.deferred (some []))->c.wpIn F n P Q { a with defers:={ target:=.collected D,args:=#[] }::a.defers } W) :
 (Code.rangeFunc g ps assign body).wpIn F n P Q a w :=
 Zer hro h1 hg hFg eg hseq.toR (fun h j=>hKt h j) (fun _ W l o o' h1 b d=>hKb W l o o' h1 b d) hb0 hps I Ix hI hIx h0
  (fun pre x e W=>e={ tmps:=F_ x,defers:=[] }/\R pre x W) (fun pre x e W l o o' h1 b d ⟨f,i⟩=>⟨f,hR pre x W l o o' h1 b d i⟩)
  (fun l pre x W K k m q=>hassign l x W K (q _ _ ⟨Yae _,fun _ _ _ h _=>h⟩ (hKr W) k ⟨rfl,m⟩))
  (fun l pre x e W h1 b d ⟨f,i⟩=>by subst f;exact hbody l pre x W h1 b d i) hdone hstop
end
section
section
variable (nx:Nat->Option Nat)
def ZaD:Nat->Nat->List Nat
 | 0,i=>[i]
 | k+1,i=>i::match nx i with | none=>[] | some j=>ZaD k j
def ZbZ:Nat->Nat->Bool
 | 0,i=>(nx i).isNone
 | k+1,i=>match nx i with | none=>true | some j=>ZbZ k j
variable {nx}
theorem Zfv:∀ (k i:Nat),ZaD nx (k+1) i=i::(ZaD nx k i).filterMap nx
 | 0,i=>by simp only [ZaD,Yfs,List.filterMap_nil];cases nx i <;> rfl
 | k+1,i=>by
   rw [ZaD];cases h:nx i with
   | none=>simp [ZaD,h]
   | some j =>
     simp only;rw [Zfv k j]
     conv=>rhs;rw [ZaD]
     simp [h]
theorem Zfw:∀ {k i:Nat},ZbZ nx k i=true->ZaD nx (k+1) i=ZaD nx k i
 | 0,i,h=>by simp only [ZbZ,Option.isNone_iff_eq_none] at h;simp [ZaD,h]
 | k+1,i,h=>by
   rw [ZbZ] at h;rw [ZaD,ZaD];cases h2:nx i with
   | none=>rfl
   | some j =>
     rw [h2] at h;simp only at h ⊢;rw [Zfw h]
theorem ZiP:∀ {k i:Nat},ZbZ nx k i=false->(ZaD nx k i).length=k+1
 | 0,i,_=>rfl
 | k+1,i,h=>by
   rw [ZbZ] at h;rw [ZaD];cases h2:nx i with
   | none=>rw [h2] at h;cases h
   | some j =>
     rw [h2] at h;simp only at h ⊢;rw [Yao,ZiP h]
theorem Zhg {U:List Nat} (hU:∀ i∈U,∀ j,nx i=some j->j∈U):∀ {k i:Nat},i∈U->∀ x∈ZaD nx k i,x∈U
 | 0,i,hi,x,a=>by simp only [ZaD,YaH] at a;exact a ▸ hi
 | k+1,i,hi,x,a=>by
   rw [ZaD] at a;rcases Yat.1 a with rfl | a
   · exact hi
   cases h2:nx i with
   | none=>rw [h2] at a;cases a
   | some j =>
     rw [h2] at a;exact Zhg hU (hU i hi j h2) x a
def allL (nx:Nat->Option Nat) (S:List Nat) (k:Nat):List Nat:=S.flatMap (ZaD nx k)
theorem ZkQ (S:List Nat) (k:Nat):(allL nx S (k+1)).Perm (S++(allL nx S k).filterMap nx):=by
 induction S with
 | nil=>exact Yew _
 | cons s S ih =>
   simp only [allL,Ybs] at ih ⊢;rw [Zfv,List.filterMap_append,YaE,YaE];refine List.Perm.cons s ?_;refine (List.Perm.append_left _ ih).trans ?_;rw [<- Yak,<-Yak];exact List.Perm.append_right _ List.perm_append_comm
theorem ZiQ {f:Nat->Option Nat} {c:Nat}:∀ {A U:List Nat},A.Nodup->(∀ x∈A,x∈U)->(A.filterMap f).count c<=(U.filterMap f).count c
 | [],_,_,_=>by simp
 | a::A,U,hd,hs=>by
   obtain ⟨i,j⟩:=YbG.1 hd;have g:=ZiQ (f:=f) (c:=c) j (U:=U.erase a) fun x d=>(Ygf (fun e:x=a=>i (e ▸ d))).2 (hs x (by simp [d]));have h:=((List.perm_cons_erase (hs a (by simp))).filterMap f).count_eq c;rw [h];cases h5:f a with
   | none=>simpa [h5] using g
   | some b =>
     simp only [Yfs,h5,List.count_cons];omega
theorem Zcl {A U:List Nat} (hd:A.Nodup) (hs:∀ x∈A,x∈U):A.length<=U.length:=by
 have b:∀ {A U:List Nat},A.Nodup->(∀ x∈A,x∈U)->A.length<=U.length:=fun {A}=>by
  induction A with
  | nil=>intro U _ _;exact Yah _
  | cons a A ih =>
    intro U hd hs;obtain ⟨b,f⟩:=YbG.1 hd;have d:=ih (U:=U.erase a) f fun x c=>(Ygf (fun e:x=a=>b (e ▸ c))).2 (hs x (by simp [c]));rw [List.length_erase_of_mem (hs a (by simp))] at d;have:0<U.length:=List.length_pos_of_mem (hs a (by simp));simp only [Yao];omega
 exact b hd hs
theorem ZfT:∀ {A U:List Nat},A.Nodup->(∀ x∈A,x∈U)->U.length<=A.length->A.Perm U
 | [],U,_,_,h=>by have:U=[]:=YcI.1 (by simpa using h);subst this;exact Yew _
 | a::A,U,hd,hs,h=>by obtain ⟨d,f⟩:=YbG.1 hd;have c:=List.perm_cons_erase (hs a (by simp));refine (List.Perm.cons a (ZfT f (U:=U.erase a) (fun x b=>(Ygf (fun e:x=a=>d (e ▸ b))).2 (hs x (by simp [b]))) ?_)).trans c.symm;rw [List.length_erase_of_mem (hs a (by simp))];simp only [Yao] at h;omega
def Zib (nx:Nat->Option Nat) (S U:List Nat) (c:Nat):Nat:=S.count c+(U.filterMap nx).count c
variable {S U:List Nat}
theorem Zhh (hn:∀ c∈U,Zib nx S U c<=1) (hS:∀ s∈S,s∈U) (hU:∀ i∈U,∀ j,nx i=some j->j∈U):∀ k,(allL nx S k).Nodup/\∀ x∈allL nx S k,x∈U:=by
 have a:∀ k,∀ x∈allL nx S k,x∈U:=fun k x g=>by obtain ⟨s,l,g⟩:=Yby.1 g;exact Zhg hU (hS s l) x g
 have d:S.Nodup:=Yft.2 fun c=>by
  by_cases b:c∈S
  · have:=hn c (hS c b);unfold Zib at this;omega
  rw [Ygx b];exact Yah _
 intro k
 induction k with
 | zero =>
   have e:allL nx S 0=S:=by simp only [allL,ZaD];exact List.flatMap_singleton' S
   rw [e];exact ⟨d,hS⟩
 | succ k ih =>
   refine ⟨Yft.2 fun c=>?_,a _⟩;by_cases b:c∈allL nx S (k+1)
   · have h:=hn c (a _ c b);rw [(ZkQ S k).count_eq c,Yer];have m:=ZiQ (f:=nx) (c:=c) ih.1 ih.2;unfold Zib at h;omega
   rw [Ygx b];exact Yah _
theorem Zrm (k i:Nat):i∈ZaD nx k i:=by cases k <;> simp [ZaD]
theorem ZlR (hn:∀ c∈U,Zib nx S U c<=1) (hS:∀ s∈S,s∈U) (hU:∀ i∈U,∀ j,nx i=some j->j∈U) {k:Nat} (hk:U.length<=k):∀ s∈S,ZbZ nx k s=true:=fun s b=>by
 obtain ⟨f,g⟩:=Zhh hn hS hU k;cases h3:ZbZ nx k s with
 | true=>rfl
 | false =>
   have l:=ZiP h3;have d:(ZaD nx k s).Nodup:=by obtain ⟨m,n,e⟩:=Ygg b;have a:(allL nx S k).Nodup:=f;rw [allL,e,YbS,Ybs] at a;exact (YdU.1 (YdU.1 a).2.1).1
   have a:=Zcl d (U:=U) fun x h=>g x (Yby.2 ⟨s,b,h⟩);omega
theorem ZkR {k:Nat}:∀ {S:List Nat},(∀ s∈S,ZbZ nx k s=true)->allL nx S (k+1)=allL nx S k
 | [],_=>rfl
 | s::S,h=>by simp only [allL,Ybs];have a:allL nx S (k+1)=allL nx S k:=ZkR fun x b=>h x (by simp [b]);unfold allL at a;rw [a,Zfw (h s (by simp))]
theorem ZpG (hS:∀ s∈S,s∈U) (hU:∀ i∈U,∀ j,nx i=some j->j∈U) (hd:U.Nodup) {k:Nat} (hk:U.length<=k) :
 ((∀ c∈U,Zib nx S U c<=1)/\(allL nx S k).length=U.length)↔((∀ s∈S,ZbZ nx k s=true)/\(allL nx S k).Nodup/\∀ c∈U,c∈allL nx S k):=by
 constructor
 · rintro ⟨h,o⟩;obtain ⟨a,d⟩:=Zhh h hS hU k;refine ⟨ZlR h hS hU hk,a,fun c l=>?_⟩;exact (ZfT a d qO).mem_iff.2 l
 rintro ⟨m,a,d⟩;have b:∀ x∈allL nx S k,x∈U:=fun x e=>by obtain ⟨s,n,e⟩:=Yby.1 e;exact Zhg hU (hS s n) x e
 have f:(allL nx S k).Perm U:=ZfT a b (Zcl hd d);refine ⟨fun c l=>?_,f.length_eq⟩;have g:=(ZkQ (nx:=nx) S k).count_eq c;rw [ZkR m,Yer,(f.filterMap nx).count_eq c] at g;unfold Zib;rw [<- g];exact Yft.1 a c
end
def ZaJ (L:List L1) (node id:Int):Int :=
 if id<0 then 3 else match L[id.toNat]? with
 | none=>3
 | some l=>if l.live=false then 3 else if l.src≠node/\l.dst≠node then 65 else 0
def Zgs (l:L1) (node:Int):Int:=if l.src=node then l.sprev else l.dprev
def ZiR (l:L1) (node:Int):Int:=if l.src=node then l.snext else l.dnext
def ZcS (l:L1):Bool:=l.src==l.dst && (l.dprev != -1 || l.dnext != -1)
def ZbU (L:List L1) (node:Int):Nat->Int->Int->Except Int (List Int)
 | 0,_,id=>if id = -1 then .ok [] else if ZaJ L node id≠0 then .error (ZaJ L node id) else .error 101
 | k+1,last,id=>if id = -1 then .ok [] else if ZaJ L node id≠0 then .error (ZaJ L node id) else match L[id.toNat]? with
   | none=>.error 3
   | some l=>if Zgs l node≠last\/ZcS l=true then .error 101 else match ZbU L node k id (ZiR l node) with
     | .error e=>.error e
     | .ok ids=>.ok (id::ids)
def CV (L:List L1) (node:Int):List Int->Prop
 | []=>True
 | x::v=>0<=x/\(∃ l,L[x.toNat]?=some l/\Zgs l node=v.headD (-1))/\CV L node v
variable {L:List L1} {node:Int}
theorem CV.suffix:∀ {a b:List Int},CV L node (a++b)->CV L node b
 | [],_,h=>h
 | _::a,_,h=>CV.suffix (a:=a) h.2.2
theorem CV.fresh:∀ {v:List Int} {x:Int},CV L node (x::v)->x ∉ v
 | [],_,_,h=>by cases h
 | y::v,x,h,hm=>by
   obtain ⟨a,b,e⟩:=Ygg hm;have i:CV L node (x::b):=CV.suffix (a:=a) (e ▸ h.2.2);obtain ⟨_,⟨l,j,k⟩,g⟩:=h;obtain ⟨_,⟨m,d,c⟩,n⟩:=i;rw [j] at d;injection d with d
   subst d;rw [k] at c;simp only [Yet] at c;cases b with
   | nil =>
     simp only [List.headD_nil] at c;have:=g.1;omega
   | cons z b =>
     simp only [Yet] at c;subst c;have f:=CV.fresh g;cases a with
     | nil =>
       injection e with e1 e2
       subst e2;exact f (by simp)
     | cons w a =>
       injection e with e1 e2
       subst e2;exact f (by simp)
theorem CV.nodup:∀ {v:List Int},CV L node v->v.Nodup
 | [],_=>Yex
 | _::_,h=>YbG.2 ⟨CV.fresh h,CV.nodup h.2.2⟩
theorem CV.mem:∀ {v:List Int},CV L node v->∀ x∈v,0<=x/\x.toNat<L.length
 | y::v,h,x,a=>by
   rcases Yat.1 a with rfl | a
   · obtain ⟨b,⟨l,c,_⟩,_⟩:=h;exact ⟨b,(Yaq.1 c).1⟩
   exact CV.mem h.2.2 x a
theorem ZeP:∀ {v:List Int},v.Nodup->(∀ x∈v,0<=x)->(v.map Int.toNat).Nodup
 | [],_,_=>Yex
 | x::v,hd,h0=>by obtain ⟨b,c⟩:=YbG.1 hd;rw [YaF];refine YbG.2 ⟨fun d=>?_,ZeP c fun y a=>h0 y (by simp [a])⟩;obtain ⟨y,a,e⟩:=Yba.1 d;have f:=h0 x (by simp);have g:=h0 y (by simp [a]);have:x=y:=qO;subst this;exact b a
theorem CV.len {v:List Int} (h:CV L node v):v.length<=L.length:=by
 have b:=Zcl (U:=List.range L.length) (ZeP (CV.nodup h) fun x a=>(CV.mem h x a).1) fun x a=>by obtain ⟨y,c,rfl⟩:=Yba.1 a;exact Ycm.2 (CV.mem h y c).2
 simpa using b
def Zax (L:List L1) (node:Int):List Nat:=(List.range L.length).filter fun i=>ZaJ L node i==0
def ZbV (l:L1) (node prev next:Int):L1 :=
 if l.src=node then (if l.dst=node then { l with sprev:=prev,snext:=next,dprev := -1,dnext := -1 } else { l with sprev:=prev,snext:=next }) else { l with dprev:=prev,dnext:=next }
def Zdx:List Nat->Int
 | [] => -1
 | i::_=>i
def Zan (node:Int):Int->List Nat->List L1->List L1
 | _,[],L=>L
 | prev,i::ids,L=>Zan node i ids (match L[i]? with | none=>L | some l=>L.set i (ZbV l node prev (Zdx ids)))
end
end Go.Proofs.YtmkjfhnlnhceiaaGreatDoor
