/- Texts that the claim leans on: walks and plain laws, function by function. -/
import Derived.Deep.DeepCutAuto
import Derived.StillTailTactics
import Derived.Test.YtmkjfhnlnhceiaaGreatDoorN02
set_option maxRecDepth 100000
set_option maxHeartbeats 16000000
namespace Go.Proofs.YtmkjfhnlnhceiaaGreatDoor
open Go.RowKit
theorem Zab (k n:Nat):(beb k n).length=k:=by
 induction k with
 | zero=>rfl
 | succ k ih=>simp [beb,ih]
theorem Zvh:∀ (k n j:Nat) (h:j<k),(beb k n)[j]'(by rw [Zab];exact h)=UInt8.ofNat (n / 256 ^ (k-1-j)):=by
 intro k
 induction k with
 | zero=>intro n j h;omega
 | succ k ih =>
   intro n j h;cases j with
   | zero=>simp [beb]
   | succ j =>
     have a:=ih n j qO;simp only [beb,Yaw];rw [a];congr 3;omega
theorem ZsG (n s:Nat):IntKind.u8.wrap ((n:Int) / 2 ^ (8*s))=(((UInt8.ofNat (n / 256 ^ s)).toNat:Nat):Int):=by
 rw [IntKind.wrap_u8'];have:(256:Nat) ^ s=2 ^ (8*s):=by rw [Nat.pow_mul]
 simp [this]
theorem Zow {B:Nat} {v:Value} {bs:List UInt8} (w:World) (hv:OwnB w B v bs) (hB:B<=w.heap.size) (width n:Nat) (hw:1<=width/\width<=8) (hx:bs.length+8<=140737488355328) :
 Calls Tryz.prog 158 #[v,.int .i64 width,.int .u64 n] w fun e w' =>
  ∃ v',e=.returned v'/\Zvf w B v (bs++beb width n) v' w':=by
 go_enter Tryz.func158,Tryz.ntmps158;go_wp2
 go_loopw [0,7] (fun u i wr=>∃ k:Nat,k<=width/\i=.int .i64 (8*((width:Int)-1)-8*k)/\Grew w B 5 1 v (bs.length+k) (bs.map u8v++((beb width n).take k).map u8v) u wr) (fun _ i _=>(intOf i+8).toNat)
 case atStart=>exact ⟨0,qO,by go_num,Grew.refl (by simpa using hv)⟩
 obtain ⟨k,j,rfl,d⟩:=hrel;have a:=d.own;by_cases b:k<width
 · go_wp2_with (at_builtin;go_must (refine Zat rfl (.tmp 15) (.tmp 20) _ _ rfl B _ _ _ _ Tryz.underlying39 ZdY rfl u0 _ _ rfl (a.alloc _) rfl (Zbg Tryz.underlying39 (Ydh _ _ _) (by simp [Value.oneCell'])) (by unfold maxLen;omega) qO (by have:=d.size;simp;omega) ?_);intro v' l c)
   go_roundw
   case rel =>
    refine ⟨k+1,qO,by go_num,?_⟩;have g:=(d.alloc _).trans c;have h:(beb width n).take (k+1)=(beb width n).take k++[UInt8.ofNat (n / 256 ^ (width-1-k))]:=by rw [Zis _ k (by rw [Zab];exact b),Zvh width n k b]
    have f:=ZsG n (width-1-k);rw [IntKind.wrap_u8',show 8*(width-1-k)=8*(width-1)-8*k from qO] at f;rw [h,YaG,YfL,<-Yak,<-YdP];rwa [f] at g
   case measure=>simp [intOf];omega
 obtain rfl:k=width:=qO;go_wp2;go_ret;refine ⟨_,rfl,?_⟩;rw [YaB (by rw [Zab];exact Yae _)] at d;unfold Zvf;rwa [Yaf,Zab,YaG]
def Wtr (w:World) (B r:Nat) (bs:List UInt8):Prop :=
 B<=r/\∃ v,Blk w r 244 #[v]/\OwnB w B v bs
theorem Wtr.same {w w':World} {B r:Nat} {bs:List UInt8} (h:Wtr w B r bs) (hu:Same w w'):Wtr w' B r bs:=by obtain ⟨a,v,b,c⟩:=h;exact ⟨a,v,b.same hu,Zaa c hu⟩
theorem Wtr.lt {w:World} {B r:Nat} {bs:List UInt8} (h:Wtr w B r bs):r<w.heap.size:=by obtain ⟨b,v,a,c⟩:=h;exact a.lt
theorem ZbF (w:World):Calls Tryz.prog 109 #[] w fun e w'=>∃ r,e=.returned (.pointer (some ⟨r,0,none⟩))/\Wtr w' w.heap.size r []/\Same w w':=by go_enter Tryz.func109,Tryz.ntmps109;go_wp2;go_ret;exact ⟨w.heap.size,rfl,⟨Yae _,_,Yad _ _ _,YaQ _ _ _ _⟩,(Yaa _ w).alloc _⟩
theorem Zox {w:World} {B r:Nat} {bs:List UInt8} (h:Wtr w B r bs) (width n:Nat) (hw:ZaK width=true) (hl:bs.length+8<=140737488355328) :
 Calls Tryz.prog 111 #[.pointer (some ⟨r,0,none⟩),.int .i64 width,.int .u64 n] w fun e w'=>e=.returned (.tuple #[])/\Wtr w' B r (bs++beb width n)/\Upd (fun b=>B<=b) w w':=by
 obtain ⟨q,v,j,l⟩:=h;have s:=j.lt;have k:v.ownBlock≠some r:=j.ne_own l qD;have t:=j.cell 0;simp only [Ybj,YaW] at t;have d:1<=width/\width<=8:=by simp only [ZaK,YcH,YbE] at hw;omega
 have u:=qH hw;clear hw;go_enter Tryz.func111,Tryz.ntmps111;go_wp2_with fail;refine (ZeB _ _).mono ?_;rintro e w' ⟨rfl,rfl⟩;rw [u.out];go_wp2_with fail;refine (Zow _ l qO width n d hl).mono ?_;rintro e y ⟨D,rfl,i⟩;have a:=i.blk j k;have C:=a.frozen 0;have x:=a.cell 0;simp only [Ybj,YaW] at x;obtain ⟨A,m,c,rfl⟩:=ZaI i.own;go_wp2;go_end0;have f:(Value.slice A m c).ownBlock≠some r:=a.ne_own i.own qD;refine ⟨rfl,⟨q,_,a.put 0 _,?_⟩,(i.upd.mono fun b _ z=>(l.lt b z).1).put q _⟩;exact Zae i.own ((Yaa (fun b=>b=r) y).put1 _) fun g o p=>f (p ▸ o)
theorem ZeC {w:World} {B r:Nat} {bs:List UInt8} (h:Wtr w B r bs) (width n:Int) (hw:ZaK width=true) (hn:0<=n) (hl:bs.length+8<=140737488355328) :
 Calls Tryz.prog 111 #[.pointer (some ⟨r,0,none⟩),.int .i64 width,.int .u64 n] w fun e w'=>e=.returned (.tuple #[])/\Wtr w' B r (bs++beb width.toNat n.toNat)/\Upd (fun b=>B<=b) w w':=by
 have a:0<=width:=by simp only [ZaK,YcH,YbE] at hw;omega
 obtain ⟨k,rfl⟩:=Yej a;obtain ⟨m,rfl⟩:=Yej hn;exact Zox h k m hw hl
theorem Zdd (s:ByteArray):s.data.toList.length=s.size:=by rw [Ycf];rfl
theorem ZlC {w:World} {B r:Nat} {bs:List UInt8} (h:Wtr w B r bs) (s:ByteArray) (hl:bs.length+s.size<=140737488355328) :
 Calls Tryz.prog 110 #[.pointer (some ⟨r,0,none⟩),.string s] w fun e w'=>e=.returned (.tuple #[])/\Wtr w' B r (bs++s.data.toList)/\Upd (fun b=>B<=b) w w':=by
 obtain ⟨q,v,f,l⟩:=h;have t:=f.lt;have a:v.ownBlock≠some r:=f.ne_own l qD;have u:=f.cell 0;simp only [Ybj,YaW] at u;go_enter Tryz.func110,Tryz.ntmps110;go_wp2_with (at_builtin;go_must (refine Zat rfl (.tmp 8) (.tmp 9) _ _ rfl B _ _ _ _ Tryz.underlying39 ZdY rfl v _ _ rfl l rfl (Src.ofString w Tryz.underlying9 s) (by unfold maxLen;omega) qO qO ?_);intro D n d;obtain ⟨A,m,c,rfl⟩:=ZaI d.own;have z:n.frozen? ⟨r,0,none⟩=false:=(d.blk f a).frozen 0;have C:n.cell? ⟨r,0,none⟩=some v:=(d.blk f a).cell 0);go_end0;have j:=d.blk f a;have k:(Value.slice A m c).ownBlock≠some r:=j.ne_own d.own qD;refine ⟨rfl,⟨q,_,j.put 0 _,?_⟩,(d.upd.mono fun b _ y=>(l.lt b y).1).put q _⟩;have x:=Zae d.own ((Yaa (fun b=>b=r) n).put1 (i:=0) (.slice A m c)) fun g o p=>k (p ▸ o);unfold OwnB;rw [Yaf,Zdd,YaG];exact x
theorem Zbx {w:World} {B r:Nat} {bs:List UInt8} (h:Wtr w B r bs) (hl:bs.length<=140737488355328) :
 Calls Tryz.prog 113 #[.pointer (some ⟨r,0,none⟩)] w fun e w'=>∃ v,e=.returned v/\OwnB w' w.heap.size v bs/\Same w w':=by
 obtain ⟨k,v,g,f⟩:=h;have d:=g.cell 0;simp only [Ybj,YaW] at d;obtain ⟨A,c,rfl⟩:=Zad f;have a:=Yca f;generalize bs.length=m at d a hl;go_enter Tryz.func113,Tryz.ntmps113;go_wp2_with fail;refine (Zcv _ a hl).mono ?_;rintro e l ⟨i,rfl,b,j⟩;go_wp2;go_ret;exact ⟨i,rfl,b,j⟩
theorem ZdM (k n:Int):(Zbw k n).length<=8:=by unfold Zbw;split <;> simp [Zab]
theorem Zix {w:World} {B r:Nat} {bs:List UInt8} (h:Wtr w B r bs) (kind n:Int) (hk0:1<=kind) (hk:kind<=8) (hl:bs.length+8<=140737488355328) :
 Calls Tryz.prog 148 #[.pointer (some ⟨r,0,none⟩),.int .i64 kind,.int .i64 n] w fun e w'=>e=.returned (.tuple #[])/\Wtr w' B r (bs++Zbw (ZbM kind) n)/\Upd (fun b=>B<=b) w w':=by
 have d:=Zgd kind;have j:=Zvg n;have a:=qH (show Zbw (ZbM kind) n=if ZbM kind=1 then beb 1 (u64 n) else beb 8 (u64 n) from rfl);generalize Zbw (ZbM kind) n=E at a ⊢;generalize ZbM kind=K at d a;have k:=qH d;have l:=qH h;have m:=qH j;clear d h j;by_cases c:K=1
 · subst c;have f:=qH (a.trans (Yac rfl));go_enter Tryz.func148,Tryz.ntmps148;go_wp2_with fail;refine (k.out _ qO qO).mono ?_;rintro e w' ⟨rfl,rfl⟩;go_wp2_with fail;rw [m.out];refine (ZeC l _ _ rfl qO hl).mono ?_;rintro e w' ⟨rfl,g,i⟩;go_wp2;refine YbB (Ycp rfl _ _ _) rfl ⟨rfl,?_,i⟩;rw [f.out];exact g
 have o:(K==1)=false:=by simpa using c
 have f:=qH (a.trans (Yab c));clear c;go_enter Tryz.func148,Tryz.ntmps148;go_wp2_with fail;refine (k.out _ qO qO).mono ?_;rintro e w' ⟨rfl,rfl⟩;go_wp2_with fail;rw [m.out];refine (ZeC l _ _ rfl qO hl).mono ?_;rintro e w' ⟨rfl,g,i⟩;go_wp2;go_end0;refine ⟨rfl,?_,i⟩;rw [f.out];exact g
theorem ZhF {w:World} {B r:Nat} {bs:List UInt8} (h:Wtr w B r bs) (s:ByteArray) (hs:s.size<=70368744177664) (hl:bs.length+8<=70368744177664) :
 Calls Tryz.prog 149 #[.pointer (some ⟨r,0,none⟩),.string s] w fun e w'=>e=.returned (.tuple #[])/\Wtr w' B r (bs++Zbs s)/\Upd (fun b=>B<=b) w w':=by
 have d:=qH h;clear h;go_enter Tryz.func149,Tryz.ntmps149;go_wp2_with fail;refine (ZeC d _ _ rfl ?_ ?_).mono ?_
 · omega
 · omega
 rintro e j ⟨rfl,f,g⟩;go_wp2_with fail;refine (ZlC f s ?_).mono ?_
 · rw [Yaf,Zab];simp;omega
 rintro e k ⟨rfl,a,c⟩;go_wp2;go_end0;refine ⟨rfl,?_,g.trans c fun _ _ i=>i⟩;rw [Yak] at a;exact a
theorem Zcw (s:ByteArray):(Zbs s).length=2+s.size:=by unfold Zbs;rw [Yaf,Zab,Zdd]
theorem Zfo {g:GVal} (h:chk g=0):1<=g.kind/\g.kind<=8/\ZcV g=false/\g.nums.length<=40/\g.texts.length<=40/\g.text.size<=1000/\(∀ s∈g.texts,s.size<=1000):=by
 unfold chk at h;split at h
 · cases h
 rename_i e;split at h
 · cases h
 rename_i b;split at h
 · cases h
 rename_i f;split at h
 · cases h
 rename_i c;refine ⟨qO,qO,by simpa using b,qO,qO,qO,fun s d=>?_⟩;have a:g.texts.any (fun s=>decide (1000<s.size))=false:=by
  cases hh:g.texts.any (fun s=>decide (1000<s.size)) with
  | false=>rfl
  | true=>exact absurd (.inr hh) c
 have:=Yek.1 a s d;simpa using this
theorem ZcX (k:Int) (l:List Int):(l.flatMap (Zbw k)).length<=8*l.length:=by
 induction l with
 | nil=>simp
 | cons x l ih =>
   rw [Ybs,Yaf,Yao];have:=ZdM k x;omega
theorem ZcI (l:List ByteArray) (h:∀ s∈l,s.size<=1000):(l.flatMap Zbs).length<=1002*l.length:=by
 induction l with
 | nil=>simp
 | cons x l ih =>
   rw [Ybs,Yaf,Yao,Zcw];have b:=h x (by simp);have c:=ih fun s a=>h s (by simp [a]);omega
theorem ZdN {α:Type} (f:α->List UInt8) (l:List α) (k:Nat) (h:k<l.length):(l.take (k+1)).flatMap f=(l.take k).flatMap f++f l[k]:=by rw [YdQ h,YbS];simp
theorem Ziy {F:Nat->Prop} {A1 A2:Option Addr} {n1 c1 n2 c2:Nat} {g:GVal} (w:World) (h:Zdu w F A1 n1 c1 A2 n2 c2 g) (hx:g.text.size<=9223372036854775807) (hts:∀ s∈g.texts,s.size<=9223372036854775807) :
 Calls Tryz.prog 100 #[g.val A1 n1 c1 A2 n2 c2] w fun e w'=>∃ v,e=.returned (.tuple #[v,.int .i64 (chk g)])/\OwnB w' w.heap.size v (enc g)/\Same w w':=by
 have HC:=qH (ZgZ (F:=F) (A1:=A1) (A2:=A2) (n1:=n1) (c1:=c1) (n2:=n2) (c2:=c2) (g:=g));have HZ:=qH (Zfo (g:=g));have HE:=qH (show enc g=if chk g=0 then beb 1 g.kind.toNat++Zcu g else [] from rfl);have Y:=qH (show Zcu g=(if g.kind<4 then Zbw g.kind g.num else if g.kind=4 then Zbs g.text
  else beb 1 (g.nums.length+g.texts.length)++(g.nums.flatMap (Zbw (g.kind-4))++g.texts.flatMap Zbs)) from rfl)
 generalize enc g=E at HE ⊢;generalize Zcu g=Bd at HE Y;generalize hc:chk g=C at HC HZ HE ⊢;clear hc;obtain ⟨a,I,text,c,texts⟩:=g;simp only [GVal.val] at HC ⊢;have HR:=qH h;have t:=qH (show c.length=n1 from h.len1);have D:=qH (show texts.length=n2 from h.len2);clear h;have G:=(Yaa (fun _=>False) w).alloc (.cells #[.int .i64 a,.int .i64 I,.string text,.slice A1 n1 c1,.slice A2 n2 c2] 51);have R:=Yad w 51 #[.int .i64 a,.int .i64 I,.string text,.slice A1 n1 c1,.slice A2 n2 c2];have ac:=qH (HC.out _ (HR.same G) hx hts);have ai:=qH G;by_cases hz:C=0
 case neg =>
  have aw:(C != 0)=true:=by simpa using hz
  have HF:=qH (HE.trans (Yab hz));have ax:=qH R;clear hz R G;go_enter Tryz.func100,Tryz.ntmps100;go_wp2_with fail;refine ac.mono ?_;rintro e U ⟨rfl,L⟩;go_wp2
  go_ret2
  exact ⟨_,rfl,by rw [HF.out];exact YaQ _ _ _ _,ai.same L⟩
 subst hz;have HF:=qH (HE.trans (Yac rfl));obtain ⟨a9,aa,b2,V,W,ar,X⟩:=HZ.out rfl;simp only at a9 aa ar;go_enter Tryz.func100,Tryz.ntmps100;go_wp2_with fail;refine ac.mono ?_;rintro e U ⟨rfl,L⟩;have Z:=G.same L;have a0:=R.same L;clear G R L;go_wp2_with fail;refine (ZbF _).mono ?_;rintro e w2 ⟨r,rfl,hw,ab⟩;have HW:=qH hw;have ad:=Z.same ab;have a1:=a0.same ab;have hB:w.heap.size<U.heap.size:=a0.lt;have ay:=Z.size;have hr:=hw.lt;have az:=hw.1;clear Z a0 ab hw;have c0:=a1.c0;go_wp2_with fail;refine (ZeC HW _ _ rfl qO (by simp)).mono ?_;rintro e w3 ⟨rfl,ag,M⟩;have a2:=qH (show Wtr w3 U.heap.size r (beb 1 a.toNat) from ag);have z:Same w w3:=ad.trans M fun b hb hh=>qO;have d:=a1.upd M qO;clear ad a1 ag c0 HW;have c0:=d.c0;have aj:=d.c1;have ak:=d.c2;have c3:=d.c3;have c4:=d.c4;by_cases h4:a<4
 · have a3:=qH (Y.trans (Yac h4));go_wp2_with fail;refine (Zix a2 _ _ a9 aa (by rw [Zab];omega)).mono ?_;rintro e w4 ⟨rfl,B,f⟩;have n:Same w w4:=z.trans f fun b hb hh=>qO;clear z d M f;go_wp2_with fail;refine (Zbx B (by rw [Yaf,Zab];have:=ZdM (ZbM a) I;omega)).mono ?_;rintro e w5 ⟨v,rfl,ho,N⟩;go_wp2
   go_ret2
   refine ⟨v,rfl,?_,n.same N⟩;rw [HF.out,a3.out];rw [show ZbM a=a from by unfold ZbM;rw [Yab qO]] at ho;exact Zac ho n.size
 have ae:=qH (Y.trans (Yab h4));by_cases S:a=4
 · have a3:=qH (ae.trans (Yac S));subst S;go_wp2_with fail;refine (ZhF a2 _ qO (by rw [Zab];omega)).mono ?_;rintro e w4 ⟨rfl,B,f⟩;have n:Same w w4:=z.trans f fun b hb hh=>qO;clear z d M f;go_wp2_with fail;refine (Zbx B (by rw [Yaf,Zab,Zcw];omega)).mono ?_;rintro e w5 ⟨v,rfl,ho,N⟩;go_wp2
   go_ret2
   refine ⟨v,rfl,?_,n.same N⟩;rw [HF.out,a3.out];exact Zac ho n.size
 have al:=qH (ae.trans (Yab S));have av:(a==4)=false:=by simpa using S
 have am:4<a:=qO;have b0:n1<=40:=by rw [<- t.out];exact V
 have b1:n2<=40:=by rw [<- D.out];exact W
 have a4:=qH X;have an:=t.out;have ao:=qH (show ZbM a=a-4 from by unfold ZbM;rw [Yac am]);clear an X V W hts;go_wp2_with fail;refine (ZeC a2 _ _ rfl qO (by rw [Zab];omega)).mono ?_;rintro e w4 ⟨rfl,B,f⟩;have HP:=qH (show (a.toNat:Nat)=a.toNat from rfl);have n:Same w w4:=z.trans f fun b hb hh=>qO;have a5:=d.upd f qO;have a6:=qH (show Wtr w4 U.heap.size r (beb 1 a.toNat++beb 1 (c.length+texts.length)) from by rw [t.out,D.out];have:=B;rwa [show ((n1:Int)+(n2:Int)).toNat=n1+n2 from qO] at this)
 clear z d M f B c0 aj ak c3 c4;have c3:=a5.c3;go_wp2;clear c3
 go_loopw [34] (fun i wr=>∃ k:Nat,k<=n1/\i=.int .i64 k/\Blk wr w.heap.size 51 #[.int .i64 a,.int .i64 I,.string text,.slice A1 n1 c1,.slice A2 n2 c2] /\
  Hid (Wtr wr U.heap.size r (beb 1 a.toNat++beb 1 (c.length+texts.length)++(c.take k).flatMap (Zbw (a-4))))/\Same w wr/\r<wr.heap.size) (fun i _=>n1-(intOf i).toNat)
 case atStart=>exact ⟨0,Yah _,rfl,a5,qH (by simpa using a6.out),n,a6.lt⟩
 obtain ⟨k,hk,rfl,kb,KW,l,ah⟩:=hrel;clear a5 n a6;by_cases H:k<n1
 · have p:=HR.nums.same l;obtain ⟨b,o,u,rfl,au,_,hu,hc⟩:=p.at_ H;have A:k<c.length:=by rw [t.out];exact H
   simp only [Yau,Yar A,Ybw,Yce] at hu;subst hu;have HT:=qH (ZdN (Zbw (a-4)) c k A);have T:=qH (ZcX (a-4) (c.take k));clear p;generalize c[k]=x at *;have e0:=kb.c0;go_wp2_with fail;refine (Zix KW _ _ a9 aa (by rw [Yaf,Yaf,Zab,Zab];have:=T.out;rw [YaJ] at this;omega)).mono ?_
   rintro e w5 ⟨rfl,O,P⟩;have a7:=qH O;have y:=qH P;clear O P;go_wp2
   go_roundw
   case rel =>
    refine ⟨k+1,qO,by go_num,kb.upd y.out qO,qH ?_,l.trans y.out fun b hb hh=>qO,qt y.size⟩;have q:=a7.out;rw [ao.out,Yak] at q;rw [HT.out];exact q
   case measure=>simp [intOf];omega
 obtain rfl:k=n1:=qO;have af:=qH (show Wtr wr U.heap.size r (beb 1 a.toNat++beb 1 (c.length+texts.length)++c.flatMap (Zbw (a-4))) from by have q:=KW.out;rwa [YaB (by rw [t.out];exact Yae _)] at q)
 have T:=qH (ZcX (a-4) c);clear KW;have e4:=kb.c4;go_wp2;clear e4
 go_loopw [47] (fun i wx=>∃ j:Nat,j<=n2/\i=.int .i64 j/\Blk wx w.heap.size 51 #[.int .i64 a,.int .i64 I,.string text,.slice A1 k c1,.slice A2 n2 c2] /\
  Hid (Wtr wx U.heap.size r (beb 1 a.toNat++beb 1 (c.length+texts.length)++c.flatMap (Zbw (a-4))++(texts.take j).flatMap Zbs))/\Same w wx/\r<wx.heap.size) (fun i _=>n2-(intOf i).toNat)
 case atStart=>exact ⟨0,Yah _,rfl,kb,qH (by simpa using af.out),l,ah⟩
 obtain ⟨j,hj,rfl,jb,JW,m,b3⟩:=hrel;clear kb l af ah;by_cases H:j<n2
 · have p:=HR.texts.same m;obtain ⟨b,o,u,rfl,au,_,hu,hc⟩:=p.at_ H;have A:j<texts.length:=by rw [D.out];exact H
   simp only [Yau,Yar A,Ybw,Yce] at hu;subst hu;have HT:=qH (ZdN Zbs texts j A);have ap:=qH (a4.out texts[j] (YdA A));have a8:=qH (ZcI (texts.take j) fun s hs=>a4.out s (Yfh hs));clear p;generalize texts[j]=x at *;go_wp2_with fail;refine (ZhF JW _ (qh ap) (by rw [Yaf,Yaf,Yaf,Zab,Zab];have q:=a8.out;have h2:=T.out;rw [YaJ] at q;rw [t.out] at h2;omega)).mono ?_
   rintro e w5 ⟨rfl,O,P⟩;have a7:=qH O;have y:=qH P;clear O P;go_wp2
   go_roundw
   case rel =>
    refine ⟨j+1,qO,by go_num,jb.upd y.out qO,qH ?_,m.trans y.out fun b hb hh=>qO,qt y.size⟩;have q:=a7.out;rw [Yak] at q;rw [HT.out];exact q
   case measure=>simp [intOf];omega
 obtain rfl:j=n2:=qO;have aq:=qH (show Wtr wr U.heap.size r (beb 1 a.toNat++beb 1 (c.length+texts.length)++c.flatMap (Zbw (a-4))++texts.flatMap Zbs) from by have q:=JW.out;rwa [YaB (by rw [D.out];exact Yae _)] at q)
 have a8:=qH (ZcI texts fun s hs=>a4.out s hs);clear JW;go_wp2_with fail;refine (Zbx aq (by rw [Yaf,Yaf,Yaf,Zab,Zab];have q:=a8.out;have h2:=T.out;rw [D.out] at q;rw [t.out] at h2;omega)).mono ?_
 rintro e w5 ⟨v,rfl,ho,N⟩;have HO:=qH ho;clear ho;go_wp2
 go_ret2
 refine ⟨v,rfl,?_,m.same N⟩;rw [HF.out,al.out];have q:=Zac HO.out m.size;simp only [Yak] at q ⊢;exact q
theorem Znn {F:Nat->Prop} {A1 A2:Option Addr} {n1 c1 n2 c2:Nat} {g:GVal} (w:World) (h:Zdu w F A1 n1 c1 A2 n2 c2 g) (hx:g.text.size<=9223372036854775807) (hts:∀ s∈g.texts,s.size<=9223372036854775807) :
 Calls Tryz.prog 87 #[g.val A1 n1 c1 A2 n2 c2] w fun e w'=>e=.returned (.int .i64 ((enc g).length:Int))/\Same w w':=by
 have d:=qH (Ziy (F:=F) (A1:=A1) (A2:=A2) (n1:=n1) (c1:=c1) (n2:=n2) (c2:=c2) (g:=g));have n:=qH h;have o:=qH hx;have p:=qH hts;clear h hx hts;generalize chk g=C at d;generalize enc g=E at d ⊢;obtain ⟨b,f,text,l,texts⟩:=g;simp only [GVal.val] at d ⊢;have a:=(Yaa (fun _=>False) w).alloc (.cells #[.int .i64 b,.int .i64 f,.string text,.slice A1 n1 c1,.slice A2 n2 c2] 51);have k:=qH a;clear a;go_enter Tryz.func87,Tryz.ntmps87;go_wp2_with fail;refine (d.out _ (n.same k) o p).mono ?_;rintro e y ⟨v,rfl,i,r⟩;obtain ⟨A,m,c,rfl⟩:=ZaI i;have q:=qH (show E.length=m from by
  rcases i.2 with ⟨j,t⟩ | ⟨g,u,x,j,_⟩
  · injection j with _ h2 _
    rw [t,h2]
  injection j with _ h2 _
  exact h2.symm)
 clear i;go_wp2;go_ret;exact ⟨ZdZ (by rw [q.out]),k.same r⟩
theorem Zno (c:UInt8) (bs:List UInt8):be (c::bs)=c.toNat*256 ^ bs.length+be bs:=by
 suffices h:∀ (l:List UInt8) (n:Nat),l.foldl (fun n c=>n*256+c.toNat) n=n*256 ^ l.length+be l from by have:=h bs c.toNat;unfold be at this ⊢;simpa using this
 intro l
 induction l with
 | nil=>intro n;simp [be]
 | cons x l ih =>
   intro n;have a:=ih (n*256+x.toNat);have b:=ih x.toNat;unfold be at a b ⊢;simp only [Yei,Yao,Nat.zero_mul,YbJ];rw [a,b,Nat.pow_succ];rw [Yfg];have:n*256*256 ^ l.length=n*(256 ^ l.length*256):=by rw [Nat.mul_assoc,YeO 256]
   omega
end Go.Proofs.YtmkjfhnlnhceiaaGreatDoor
