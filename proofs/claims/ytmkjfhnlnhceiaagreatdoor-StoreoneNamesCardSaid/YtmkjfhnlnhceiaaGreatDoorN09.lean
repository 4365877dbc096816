/- Texts that the claim leans on: walks and plain laws, function by function. -/
import Derived.Laws.DeepBits32
import Derived.Laws.BytesArg
import Derived.RangeFuncNested
import Derived.RangeFuncBound
import Derived.RangeFuncCalls
import Derived.RangeFuncLeaves
import Derived.RangeFuncBox
import Derived.Shelf.Abstract
import Derived.Shelf.RegionOpen
import Derived.OwnWalkIn
import Derived.TacticsInMore
import Derived.LoopNIn
import Derived.LoopIn
import Derived.Maps.OwnSet
import Derived.Test.YtmkjfhnlnhceiaaGreatDoorN05
set_option maxRecDepth 100000
set_option maxHeartbeats 16000000
namespace Go.Proofs.YtmkjfhnlnhceiaaGreatDoor
section
open Go.RowKit
def Nib (w:World):Prop:=0<w.heap.size/\∀ (i:Nat) (t:BitVec 32),crcT[i]?=some t->w.cell? ⟨0,i,none⟩=some (.int .u32 (t.toNat:Int))
theorem Nib.upd {w w':World} {S:Nat->Prop} (h:Nib w) (hu:Upd S w w') (hs:¬ S 0):Nib w' :=
 ⟨Ycd h.1 hu.size,fun i t a=>(hu.cell (p:=⟨0,i,none⟩) h.1 hs).trans (h.2 i t a)⟩
theorem Nib.same {w w':World} (h:Nib w) (hu:Same w w'):Nib w':=h.upd hu fun f=>f
theorem ZoJ (a:BitVec 32):BitVec.ofInt 32 (a.toNat:Int)=a:=by rw [BitVec.ofInt_natCast,BitVec.ofNat_toNat,BitVec.setWidth_eq]
theorem ZoK (a:BitVec 32):IntKind.u32.wrap (a.toNat:Int)=(a.toNat:Int):=IntWalk.u32_in _ ⟨qO,qt a.isLt⟩
theorem Znt (a b:BitVec 32):bits .xor .u32 (a.toNat:Int) (b.toNat:Int)=((a ^^^ b).toNat:Int):=by show IntKind.u32.wrap ((BitVec.ofInt 32 (a.toNat:Int) ^^^ BitVec.ofInt 32 (b.toNat:Int)).toNat:Int)=_;rw [ZoJ,ZoJ,ZoK]
theorem Zun (a b:BitVec 32):bits .and .u32 (a.toNat:Int) (b.toNat:Int)=((a &&& b).toNat:Int):=by show IntKind.u32.wrap ((BitVec.ofInt 32 (a.toNat:Int) &&& BitVec.ofInt 32 (b.toNat:Int)).toNat:Int)=_;rw [ZoJ,ZoJ,ZoK]
theorem Zre (a:BitVec 32):bits BinOp.xor IntKind.u32 IntKind.u32.max (a.toNat:Int)=((~~~ a).toNat:Int):=by have h:=Znt (~~~ 0#32) a;have e:(((~~~ 0#32:BitVec 32).toNat:Nat):Int)=IntKind.u32.max:=qD;rw [e] at h;rw [h];congr 2
theorem ZsV (a:BitVec 32):(a.toNat:Int) / 16=((a >>> 4).toNat:Int):=by rw [BitVec.toNat_ushiftRight,Nat.shiftRight_eq_div_pow];rfl
theorem Zvm (x:UInt8):IntKind.u32.wrap (x.toNat:Int)=(((x.toBitVec.setWidth 32).toNat:Nat):Int):=by rw [BitVec.toNat_setWidth,Ydk (by have:=x.toNat_lt;have e:x.toBitVec.toNat=x.toNat:=rfl;omega)];exact IntWalk.u32_in _ ⟨qO,qt x.toNat_lt⟩
theorem ZlO {w:World} (hN:Nib w) (c:BitVec 32):∃ (i:Nat) (t s c':BitVec 32),bits BinOp.and IntKind.u32 (c.toNat:Int) 15=(i:Int)/\(i:Int)<16/\w.cell? ⟨0,i,none⟩=some (.int .u32 (t.toNat:Int))/\(c.toNat:Int) / 16=(s.toNat:Int)/\bits BinOp.xor IntKind.u32 (t.toNat:Int) (s.toNat:Int)=(c'.toNat:Int)/\c'=bst (bst (bst (bst c))):=by obtain ⟨t,a,b,d⟩:=ZqT c;exact ⟨_,t,c >>> 4,_,Zun c 15#32,qO,hN.2 _ _ a,ZsV c,Znt _ _,b⟩
theorem ZjI {F:Nat->Prop} {A:Option Addr} {n c:Nat} {bs:List UInt8} (w:World) (hb:Zag w F A n c bs) (hN:Nib w) (s r:BitVec 32) (hr : ~~~ crcU (~~~ s) bs=r) :
 Calls Tryz.prog 159 #[.int .u32 (s.toNat:Int),.slice A n c] w fun e w'=>e=.returned (.int .u32 (r.toNat:Int))/\w=w':=by
 have z:=qH hr;clear hr;have B:=qH hb.len;have p:=qH hb;have C:=qH hN;clear hb hN;go_enter Tryz.func159,Tryz.ntmps159;go_wp2_with fail;rw [show bits BinOp.xor IntKind.u32 IntKind.u32.max (s.toNat:Int)=((~~~ s).toNat:Int) from Zre s];generalize ~~~ s=h at z ⊢
 go_loop [5,12] (fun v i=>∃ k:Nat,k<=n/\i=.int .i64 k/\v=.int .u32 ((crcU h (bs.take k)).toNat:Int)) (fun _ i=>n-(intOf i).toNat)
 case atStart=>exact ⟨0,Yah _,rfl,rfl⟩
 obtain ⟨k,Z,rfl,rfl⟩:=hrel;by_cases g:k<n
 · obtain ⟨b,o,rfl,O,_,P⟩:=p.at_ g;have q:k<bs.length:=by rw [B.out];exact g
   obtain ⟨x,y⟩:∃ x,bs[k]=x:=⟨_,rfl⟩
   rw [y] at P;obtain ⟨j,a⟩:∃ j,crcU h (bs.take k)=j:=⟨_,rfl⟩
   rw [a];have H:=qH y;have t:=qH a;clear y a;have I:(0:Int)<=(k:Int):=qO;have L:(k:Int)<(n:Int):=qO;have M:IntKind.i64.wrap ((k:Int)+1)=(k:Int)+1:=by rw [YbQ];have:=Row.max p.out;have:=Row.le p.out;unfold maxLen at *;omega
   obtain ⟨l,d⟩:∃ l,l=x.toBitVec.setWidth 32:=⟨_,rfl⟩
   have V:(x.toNat:Int) % 4294967296=(l.toNat:Int):=by have:=Zvm x;rw [IntKind.wrap_u32] at this;rw [d];exact this
   obtain ⟨m,f⟩:∃ m,j ^^^ l=m:=⟨_,rfl⟩
   have W:bits BinOp.xor IntKind.u32 (j.toNat:Int) (l.toNat:Int)=(m.toNat:Int):=by rw [<- f];exact Znt _ _
   obtain ⟨R,t1,s1,S,a1,a2,a3,a4,a5,E⟩:=ZlO C.out m;obtain ⟨T,t2,s2,U,b1,b2,b3,b4,b5,G⟩:=ZlO C.out S;have X:(0:Int)<=(R:Int):=qO;have Y:(0:Int)<=(T:Int):=qO;have u:Hid (crcU h (bs.take (k+1))=U):=qH (by rw [Zis bs k q,ZsM,t.out,H.out,G,E,<-f,d];rfl)
   clear d f E G;go_wp2
   go_round
   case rel=>exact ⟨k+1,qO,by go_num,by rw [u.out]⟩
   case measure=>simp [intOf];omega
 have N:k=n:=qO;rw [YaB (by rw [B.out];omega)];have D:=Zre (crcU h bs);rw [z.out] at D;generalize crcU h bs=j at D ⊢;go_wp2;go_ret;exact ⟨rfl,rfl⟩
theorem ZiK {F:Nat->Prop} {A:Option Addr} {n c:Nat} {bs:List UInt8} (w:World) (hb:Zag w F A n c bs) (hN:Nib w) :
 Calls Tryz.prog 112 #[.slice A n c] w fun e w'=>e=.returned (.int .u32 ((crcS bs).toNat:Int))/\w=w':=by
 go_enter Tryz.func112,Tryz.ntmps112;go_wp2_with fail;refine (ZjI w hb hN 0#32 (crcS bs) rfl).mono ?_;rintro e w' ⟨rfl,rfl⟩;go_wp2;go_ret;exact ⟨rfl,rfl⟩
def ZdE (l:List UInt8):Bool:=l.all (fun c=>c==0)
def Zuo (g:Nat):Prop:=g=164\/g=190
theorem Zkb {g:Nat} (hg:Zuo g) (x:UInt8) (w:World) {r:Bool} (hr:(x != 0)=r):Calls Tryz.prog g #[.int .u8 (x.toNat:Int)] w fun e w'=>e=.returned (.bool r)/\w=w':=by
 have a:((x.toNat:Int) != 0)=r:=by
  rw [<- hr];by_cases h:x=0
  · subst h;rfl
  have d:x.toNat≠0:=fun c=>h (Yel.1 c);rw [Ybh.2 h,Ybh.2 qO]
 have b:=qH a;clear hr a;have f:=x.toNat_lt;generalize x.toNat=N at *;rcases hg with rfl | rfl
 · go_enter Tryz.func164,Tryz.ntmps164;go_wp2;go_ret;exact ⟨Zbh b.out,rfl⟩
 go_enter Tryz.func190,Tryz.ntmps190;go_wp2;go_ret;exact ⟨Zbh b.out,rfl⟩
theorem ZjJ {g:Nat} (hg:Zuo g) {F:Nat->Prop} {A:Option Addr} {n c:Nat} {bs:List UInt8} (w:World) (h:Zag w F A n c bs) :
 Calls Tryz.prog 192 #[.slice A n c,.func (.func g) #[] #[]] w fun e w'=>∃ r:Int,e=.returned (.int .i64 r)/\(ZdE bs=!decide (0<=r))/\w=w':=by
 have s:=qH h.len;have d:=Row.max h;have m:=Row.le h;unfold maxLen at d;have D:n<=9223372036854775807:=qO;clear d m;rcases hg with rfl | rfl
 all_goals
  go_enter Tryz.func192,Tryz.ntmps192;go_wp2
  go_loop [8] (fun i=>∃ k:Nat,k<=n/\i=.int .i64 k/\Hid (ZdE (bs.take k)=true)) (fun i=>n-(intOf i).toNat)
  case atStart=>exact ⟨0,Yah _,rfl,qH rfl⟩
  obtain ⟨k,E,rfl,u⟩:=hrel;by_cases f:k<n
  · obtain ⟨b,o,rfl,C,_,G⟩:=h.at_ f;have j:k<bs.length:=by rw [s.out];exact f
    have v:=qH (show ZdE (bs.take (k+1))=(ZdE (bs.take k) && (bs[k]==0)) from by rw [YdQ j];unfold ZdE;rw [YfR,List.all_cons,List.all_nil,Bool.and_true])
    have y:=qH (YdA j);generalize bs[k]=x at *;by_cases a:x=0
    · have l:(x != 0)=false:=by simp [a]
      have p:=qH l;have q:=qH a;clear l a;go_wp2_with fail;refine (Zkb (by first | exact .inl rfl | exact .inr rfl) _ _ p.out).mono ?_;rintro e w' ⟨rfl,rfl⟩;go_wp2
      go_round
      case rel =>
       refine ⟨k+1,qO,by go_num,qH ?_⟩;rw [v.out,u.out,q.out];rfl
      case measure=>simp [intOf];omega
    have l:(x != 0)=true:=Ybh.2 a;have p:=qH l;have q:=qH a;clear l a;go_wp2_with fail;refine (Zkb (by first | exact .inl rfl | exact .inr rfl) _ _ p.out).mono ?_;rintro e w' ⟨rfl,rfl⟩;go_wp2;go_ret;refine ⟨k,rfl,?_,rfl⟩;have z:ZdE bs=false:=by
     cases hz:ZdE bs with
     | false=>rfl
     | true =>
       have:=YcK.1 hz _ y.out;exact absurd (by simpa using this) q.out
    rw [z];simp
  have B:k=n:=qO;go_wp2;go_ret;refine ⟨-1,rfl,?_,rfl⟩;have t:=u.out;rw [YaB (by rw [s.out];omega)] at t;rw [t];rfl
theorem Zgq {g:Nat} (hg:Zuo g) {F:Nat->Prop} {A:Option Addr} {n c:Nat} {bs:List UInt8} (w:World) (h:Zag w F A n c bs) :
 Calls Tryz.prog 163 #[.slice A n c,.func (.func g) #[] #[]] w fun e w'=>e=.returned (.bool (!ZdE bs))/\w=w':=by
 go_enter Tryz.func163,Tryz.ntmps163;go_wp2_with fail;refine (ZjJ hg _ h).mono ?_;rintro e w' ⟨r,rfl,a,rfl⟩;have b:=qH a;clear a;go_wp2;go_ret;exact ⟨Zbh (by rw [b.out,Bool.not_not]),rfl⟩
theorem Zhd {F:Nat->Prop} {A:Option Addr} {n c:Nat} {bs:List UInt8} (w:World) (h:Zag w F A n c bs) :
 Calls Tryz.prog 163 #[.slice A n c,.func (.func 164) #[] #[]] w fun e w'=>e=.returned (.bool (!ZdE bs))/\w=w':=Zgq (.inl rfl) w h
structure RS where
 left:List UInt8
 err:Int
def RS.take (s:RS) (n:Int) (right:Bool):List UInt8×RS :=
 if s.err=0 then
  if right=false\/n<0 then ([],⟨[],2⟩)
  else if (s.left.length:Int)<n then ([],⟨[],10⟩)
  else (s.left.take n.toNat,⟨s.left.drop n.toNat,0⟩)
 else ([],s)
theorem RS.take_short {left:List UInt8} {k:Nat} (h:left.length<k):RS.take ⟨left,0⟩ k true=([],⟨[],10⟩):=by have a:¬ ((k:Int)<0):=qO;simp [RS.take,a,h]
abbrev YfF:=@RS.take_short
theorem RS.take_ok {left:List UInt8} {k:Nat} (h:k<=left.length):RS.take ⟨left,0⟩ k true=(left.take k,⟨left.drop k,0⟩):=by have a:¬ ((k:Int)<0):=qO;have b:¬ (left.length<k):=qO;simp [RS.take,a,b]
abbrev YdL:=@RS.take_ok
def Rdr (w:World) (F:Nat->Prop) (r:Nat) (s:RS):Prop :=
 ∃ A n c,Blk w r 285 #[.slice A n c,.int .i64 s.err]/\Zag w F A n c s.left
theorem Rdr.upd {w w':World} {F S:Nat->Prop} {r:Nat} {s:RS} (h:Rdr w F r s) (hu:Upd S w w') (hr:¬ S r) (hf:∀ b,F b->¬ S b):Rdr w' F r s:=by obtain ⟨A,n,c,a,d⟩:=h;exact ⟨A,n,c,a.upd hu hr,d.upd hu hf⟩
theorem Rdr.same {w w':World} {F:Nat->Prop} {r:Nat} {s:RS} (h:Rdr w F r s) (hu:Same w w'):Rdr w' F r s:=h.upd hu (fun f=>f) fun _ _ f=>f
theorem Rdr.lt {w:World} {F:Nat->Prop} {r:Nat} {s:RS} (h:Rdr w F r s):r<w.heap.size:=by obtain ⟨A,n,c,a,b⟩:=h;exact a.lt
theorem Zby {w:World} {F:Nat->Prop} {r:Nat} {s:RS} (h:Rdr w F r s) :
 Calls Tryz.prog 217 #[.pointer (some ⟨r,0,none⟩)] w fun e w'=>e=.returned (.int .i64 s.err)/\w=w':=by
 obtain ⟨A,n,c,b,d⟩:=h;have a:=b.cell 1;simp only [Ybj,Ybd,YaW] at a;go_enter Tryz.func217,Tryz.ntmps217;go_wp2;go_ret;exact ⟨rfl,rfl⟩
theorem ZlP {w:World} {F:Nat->Prop} {r:Nat} {s:RS} (h:Rdr w F r s) :
 Calls Tryz.prog 221 #[.pointer (some ⟨r,0,none⟩)] w fun e w'=>e=.returned (.int .i64 s.left.length)/\w=w':=by
 obtain ⟨A,n,c,d,f⟩:=h;have a:=d.cell 0;simp only [Ybj,YaW] at a;have b:=qH f.len;go_enter Tryz.func221,Tryz.ntmps221;go_wp2;go_ret;exact ⟨by rw [b.out];rfl,rfl⟩
theorem ZlQ {w:World} {F:Nat->Prop} {r:Nat} {s:RS} (h:Rdr w F r s) (hF:¬ F r) (n:Int) (right:Bool) :
 Calls Tryz.prog 194 #[.pointer (some ⟨r,0,none⟩),.int .i64 n,.bool right] w fun e w' =>
  ∃ A' n' c',e=.returned (.slice A' n' c')/\Zag w' F A' n' c' (s.take n right).1/\Rdr w' F r (s.take n right).2/\Upd (fun b=>b=r) w w':=by
 have l:=h;obtain ⟨A,m,c,d,p⟩:=h;have B:=d.cell 0;simp only [Ybj,YaW] at B;have z:=d.cell 1;simp only [Ybj,Ybd,YaW] at z;have I:=d.frozen 0;have L:=d.frozen 1;have q:=qH p.len;by_cases t:s.err=0
 · obtain ⟨left,y⟩:=s;obtain rfl:y=0:=t;simp only at z q;by_cases i:right=false\/n<0
   · have f:RS.take ⟨left,0⟩ n right=([],⟨[],2⟩):=by simp [RS.take,i]
     rw [f];have u:right=false\/(right=true/\n<0):=by
      rcases i with i | i
      · exact .inl i
      cases right
      · exact .inl rfl
      exact .inr ⟨rfl,i⟩
     clear i f;rcases u with rfl | ⟨rfl,C⟩
     all_goals
      go_enter Tryz.func194,Tryz.ntmps194;go_wp2;go_ret;exact ⟨none,0,0,rfl,YeC _ _,⟨none,0,0,(d.put 1 _).put 0 _,YeC _ _⟩,((Yaa _ w).put1 _).put1 _⟩
   have u:right=true:=by cases right <;> simp_all
   subst u;have C:¬ n<0:=fun H=>i (.inr H);obtain ⟨k,rfl⟩:∃ k:Nat,n=k:=⟨n.toNat,qO⟩
   clear i;by_cases D:m<k
   · have f:RS.take ⟨left,0⟩ k true=([],⟨[],10⟩):=by exact YfF (by rw [q.out];exact D)
     rw [f];clear f;go_enter Tryz.func194,Tryz.ntmps194;go_wp2;go_ret;exact ⟨none,0,0,rfl,YeC _ _,⟨none,0,0,(d.put 1 _).put 0 _,YeC _ _⟩,((Yaa _ w).put1 _).put1 _⟩
   have f:RS.take ⟨left,0⟩ k true=(left.take k,⟨left.drop k,0⟩):=by exact YdL (by rw [q.out];omega)
   rw [f];clear f;have o:k<=m:=qO;have E:=Row.le p;have v:=Row.max p;unfold maxLen at v;have g:=p.head o;have a:=p.rest o;by_cases j:c=k
   · rw [Yac j] at a;obtain rfl:m=k:=qO;obtain rfl:=j;simp only [YbC] at a;have x:=qH a;clear a;go_enter Tryz.func194,Tryz.ntmps194;go_wp2;go_ret;refine ⟨_,_,_,rfl,g.upd ((Yaa _ w).put1 _) (fun b d h=>hF (h ▸ d)),⟨_,_,_,d.put 0 _,?_⟩,(Yaa _ w).put1 _⟩;exact x.upd ((Yaa _ w).put1 _) (fun b d h=>hF (h ▸ d))
   rw [Yab j] at a;have x:=qH a;clear a;go_enter Tryz.func194,Tryz.ntmps194;go_wp2;go_ret;exact ⟨_,_,_,rfl,g.upd ((Yaa _ w).put1 _) (fun b d h=>hF (h ▸ d)),⟨_,_,_,d.put 0 _,x.upd ((Yaa _ w).put1 _) (fun b d h=>hF (h ▸ d))⟩,(Yaa _ w).put1 _⟩
 have f:RS.take s n right=([],s):=by simp [RS.take,t]
 rw [f];clear f;have G:(s.err != 0)=true:=by simpa using t
 go_enter Tryz.func194,Tryz.ntmps194;go_wp2;go_ret;exact ⟨none,0,0,rfl,YeC _ _,l,Yaa _ _⟩
def RS.num (s:RS) (width:Int):Nat×RS:=(be (s.take width (ZaK width)).1,(s.take width (ZaK width)).2)
theorem RS.take_len (s:RS) (width:Int):(s.take width (ZaK width)).1.length<=8:=by
 unfold RS.take;split
 · split
   · simp
   split
   · simp
   rename_i b c;have a:ZaK width=true:=by cases h:ZaK width <;> simp_all
   simp only [ZaK,YcH,YbE] at a;simp only [YaJ];omega
 simp
theorem Zcb {w:World} {F:Nat->Prop} {r:Nat} {s:RS} (h:Rdr w F r s) (hF:¬ F r) (width:Int) :
 Calls Tryz.prog 166 #[.pointer (some ⟨r,0,none⟩),.int .i64 width] w fun e w' =>
  e=.returned (.int .u64 ((s.num width).1:Int))/\Rdr w' F r (s.num width).2/\Upd (fun b=>b=r) w w':=by
 go_enter Tryz.func166,Tryz.ntmps166;go_wp2_with fail;refine (ZeB _ _).mono ?_;rintro e w' ⟨rfl,rfl⟩;go_wp2_with fail;refine (ZlQ h hF _ _).mono ?_;rintro e f ⟨g,i,j,rfl,a,c,d⟩;go_wp2_with fail;refine (Znk _ a (by rw [<- a.len];exact RS.take_len s width)).mono ?_;rintro e w' ⟨rfl,rfl⟩;go_wp2_with fail;go_ret;exact ⟨rfl,c,d⟩
theorem ZkO {w:World} {F:Nat->Prop} {r:Nat} {s:RS} (h:Rdr w F r s) (hF:¬ F r) (hs:s.left.length<=140737488355328) (n:Int) :
 Calls Tryz.prog 167 #[.pointer (some ⟨r,0,none⟩),.int .i64 n] w fun e w' =>
  ∃ v,e=.returned v/\OwnB w' w.heap.size v (s.take n true).1/\Rdr w' F r (s.take n true).2/\Upd (fun b=>b=r) w w':=by
 have a:(s.take n true).1.length<=140737488355328:=by
  unfold RS.take;split
  · split
    · simp
    split
    · simp
    simp only [YaJ];omega
  simp
 go_enter Tryz.func167,Tryz.ntmps167;go_wp2_with fail;refine (ZlQ h hF _ _).mono ?_;rintro e i ⟨j,k,l,rfl,c,f,d⟩;go_wp2_with fail;refine (Zcv _ c (by rw [<- c.len];exact a)).mono ?_;rintro e m ⟨v,rfl,g,hs⟩;go_wp2_with fail;go_ret;exact ⟨v,rfl,Zac g d.size,f.same hs,d.same hs⟩
theorem ZbG {w:World} {F:Nat->Prop} {A:Option Addr} {n c:Nat} {bs:List UInt8} (hb:Zag w F A n c bs) (hn:n<=140737488355328) :
 Calls Tryz.prog 165 #[.slice A n c] w fun e w'=>∃ r,e=.returned (.pointer (some ⟨r,0,none⟩))/\w.heap.size<=r/\Rdr w' (fun b=>w.heap.size<=b/\b≠r) r ⟨bs,0⟩/\Same w w':=by
 go_enter Tryz.func165,Tryz.ntmps165;go_wp2_with fail;refine (Zcv _ hb hn).mono ?_;rintro e d ⟨v,rfl,f,g⟩;obtain ⟨h,i,rfl⟩:=Zad f;go_wp2;go_ret;refine ⟨d.heap.size,rfl,g.size,⟨h,_,i,Yad _ _ _,?_⟩,g.alloc _⟩;have a:=Yca f;exact (a.mono (F':=fun b=>w.heap.size<=b/\b≠d.heap.size) (fun b j hb=>⟨hb.2,qO⟩)).same ((Yaa _ d).alloc _)
theorem Zcf {F:Nat->Prop} {A:Option Addr} {n c:Nat} {bs:List UInt8} {w:World} (hb:Zag w F A n c bs) :
 (convert 39 9 (.slice A n c)).run Tryz.prog w=.ok (.string ⟨bs.toArray⟩) w:=by
 have e:=hb.len;cases hA:A with
 | none =>
   have k:=hb.nil hA;have f:=Row.le hb;obtain rfl:n=0:=qO;obtain rfl:c=0:=qO;have:bs=[]:=Yco e;subst this;exact run_convert_bytes_nil (P:=Tryz.prog) w 39 5 Tryz.underlying39 Tryz.underlying5 0 0 9 Tryz.underlying9
 | some a =>
   obtain ⟨g,l,m,j⟩:=Row.cell hb a hA;obtain ⟨b,o,s⟩:=a;subst g;have h:=run_convert_bytes_arg (P:=Tryz.prog) w 39 5 Tryz.underlying39 Tryz.underlying5 b o n c (bs.map fun x=>(x.toNat:Int)) (by simpa using e) (fun i p=>by have d:i<bs.length:=qO;have:=j i (u8v bs[i]) (by simp [Yar d]);simp only at this;rw [this];simp [u8v,List.getD,Yar d]) 9 Tryz.underlying9
   rw [h];congr 2;unfold strOfNums;congr 2;rw [Ybf]
   conv=>rhs;rw [<- Yes bs]
   apply Ycq;intro x _;simp
theorem ZoL (n:Nat) (h:n<18446744073709551616):wrap64 (n:Int)=i64 n:=by unfold wrap64 i64;split <;> omega
theorem RS.num_short {l:List UInt8} {k:Nat} (hk:ZaK k=true) (h:l.length<k):RS.num ⟨l,0⟩ k=(0,⟨[],10⟩):=by unfold RS.num;rw [hk,YfF h];rfl
abbrev YeF:=@RS.num_short
theorem RS.num_ok {l:List UInt8} {k:Nat} (hk:ZaK k=true) (h:k<=l.length):RS.num ⟨l,0⟩ k=(be (l.take k),⟨l.drop k,0⟩):=by unfold RS.num;rw [hk,YdL h]
abbrev YeG:=@RS.num_ok
def ZdA (K:Int) (l:List UInt8) (n e:Int) (s':RS):Prop :=
 match pNum K l with
 | .error e0=>e=e0/\e≠0
 | .ok (m,r)=>e=0/\n=m/\s'=⟨r,0⟩
theorem ZiL {w:World} {F:Nat->Prop} {r:Nat} {l:List UInt8} (h:Rdr w F r ⟨l,0⟩) (hF:¬ F r) (kind:Int) (hk0:1<=kind) (hk:kind<=8) :
 Calls Tryz.prog 220 #[.pointer (some ⟨r,0,none⟩),.int .i64 kind] w fun e w'=>∃ (n er:Int) (s':RS),e=.returned (.tuple #[.int .i64 n,.int .i64 er])/\ZdA (ZbM kind) l n er s'/\Rdr w' F r s'/\Upd (fun b=>b=r) w w':=by
 have G:=Zgd kind;have u:=fun (n:Int) (w:World)=>ZcW kind n w hk0 hk;have z:=qH (show ∀ (a:Nat),a=(if ZbM kind=1 then 1 else 8)->pNum (ZbM kind) l=if l.length<a then .error 10
  else if ZaM (ZbM kind) (i64 (be (l.take a)))≠0 then .error (ZaM (ZbM kind) (i64 (be (l.take a))))
  else .ok (i64 (be (l.take a)),l.drop a) from fun a P=>by subst P;rfl)
 generalize ZbM kind=K at G u z ⊢;have D:=qH G;have A:=qH u;have E:=qH h;clear G u h;by_cases B:K=1
 · subst B;have f:=qH (show 1=(if (1:Int)=1 then 1 else 8) from rfl);by_cases j:l.length<1
   · have v:=qH ((z.out 1 f).trans (Yac j));have g:=Zcb E.out hF 1;have i:=YeF (l:=l) (k:=1) rfl j;rw [show ((1:Nat):Int)=1 from rfl] at i;rw [i] at g;have x:=qH g;clear j g i;go_enter Tryz.func220,Tryz.ntmps220;go_wp2_with fail;refine (D.out _ qO qO).mono ?_;rintro e w' ⟨rfl,rfl⟩;go_wp2_with fail;refine x.mono ?_;rintro e L ⟨rfl,q,s⟩;have c:=qH q;have d:=qH s;clear q s;go_wp2_with fail;refine (Zby c).mono ?_;rintro e M ⟨rfl,rfl⟩;go_wp2
     go_ret2
     exact ⟨_,_,_,rfl,by unfold ZdA;rw [v.out];exact ⟨rfl,qD⟩,c,d⟩
   have v:=qH ((z.out 1 f).trans (Yab j));have g:=Zcb E.out hF 1;have i:=YeG (l:=l) (k:=1) rfl qO;rw [show ((1:Nat):Int)=1 from rfl] at i;rw [i] at g;have x:=qH g;have o:=qH (Zfn l 1 qO);clear j g i;generalize be (l.take 1)=N at *;have H:=qH (ZoL N o);have I:=qH (Zgg N o);go_enter Tryz.func220,Tryz.ntmps220;go_wp2_with fail;refine (D.out _ qO qO).mono ?_;rintro e w' ⟨rfl,rfl⟩;go_wp2_with fail;refine x.mono ?_;rintro e L ⟨rfl,q,s⟩;have c:=qH q;have d:=qH s;clear q s;go_wp2_with fail;refine (Zby c).mono ?_;rintro e M ⟨rfl,rfl⟩;go_wp2_with fail;rw [H.out];refine (A.out _ _).mono ?_;rintro e R ⟨rfl,rfl⟩;have p:=v;generalize i64 N=m at *;by_cases y:ZaM 1 m=0
   · have t:=qH y;go_wp2
     go_ret2
     refine ⟨_,_,_,rfl,?_,c,d⟩;unfold ZdA;rw [p.out,Yab (fun h=>h t.out)];exact ⟨rfl,rfl,rfl⟩
   have t:=qH y;clear y;go_wp2
   go_ret2
   refine ⟨_,_,_,rfl,?_,c,d⟩;unfold ZdA;rw [p.out,Yac t.out];exact ⟨rfl,t⟩
 have C:8=(if K=1 then 1 else 8):=by rw [Yab B]
 have f:=qH C;have O:(K==1)=false:=by simpa using B
 have S:=qH B;clear B C;by_cases j:l.length<8
 · have v:=qH ((z.out 8 f).trans (Yac j));have g:=Zcb E.out hF 8;have i:=YeF (l:=l) (k:=8) rfl j;rw [show ((8:Nat):Int)=8 from rfl] at i;rw [i] at g;have x:=qH g;clear j g i;go_enter Tryz.func220,Tryz.ntmps220;go_wp2_with fail;refine (D.out _ qO qO).mono ?_;rintro e w' ⟨rfl,rfl⟩;go_wp2_with fail;refine x.mono ?_;rintro e L ⟨rfl,q,s⟩;have c:=qH q;have d:=qH s;clear q s;go_wp2_with fail;refine (Zby c).mono ?_;rintro e M ⟨rfl,rfl⟩;go_wp2
   go_ret2
   exact ⟨_,_,_,rfl,by unfold ZdA;rw [v.out];exact ⟨rfl,qD⟩,c,d⟩
 have v:=qH ((z.out 8 f).trans (Yab j));have g:=Zcb E.out hF 8;have i:=YeG (l:=l) (k:=8) rfl qO;rw [show ((8:Nat):Int)=8 from rfl] at i;rw [i] at g;have x:=qH g;have o:=qH (Zfn l 8 qO);clear j g i;generalize be (l.take 8)=N at *;have H:=qH (ZoL N o);have I:=qH (Zgg N o);go_enter Tryz.func220,Tryz.ntmps220;go_wp2_with fail;refine (D.out _ qO qO).mono ?_;rintro e w' ⟨rfl,rfl⟩;go_wp2_with fail;refine x.mono ?_;rintro e L ⟨rfl,q,s⟩;have c:=qH q;have d:=qH s;clear q s;go_wp2_with fail;refine (Zby c).mono ?_;rintro e M ⟨rfl,rfl⟩;go_wp2_with fail;rw [H.out];refine (A.out _ _).mono ?_;rintro e R ⟨rfl,rfl⟩;have p:=v;generalize i64 N=m at *;by_cases y:ZaM K m=0
 · have t:=qH y;go_wp2
   go_ret2
   refine ⟨_,_,_,rfl,?_,c,d⟩;unfold ZdA;rw [p.out,Yab (fun h=>h t.out)];exact ⟨rfl,rfl,rfl⟩
 have t:=qH y;clear y;go_wp2
 go_ret2
 refine ⟨_,_,_,rfl,?_,c,d⟩;unfold ZdA;rw [p.out,Yac t.out];exact ⟨rfl,t⟩
def ZcQ (l:List UInt8) (s:ByteArray) (e:Int) (s':RS):Prop :=
 match Zci l with
 | .error e0=>e=e0/\e≠0
 | .ok (t,r)=>e=0/\s=t/\s'=⟨r,0⟩
theorem Znu (l:List UInt8):be (l.take 2)<=65535:=by have h:=Zgc (l.take 2);have a:256 ^ (l.take 2).length<=256 ^ 2:=YdR qO (by rw [YaJ];omega);have b:256 ^ 2=65536:=qD;omega
theorem ZhI {w:World} {F:Nat->Prop} {r:Nat} {l:List UInt8} (h:Rdr w F r ⟨l,0⟩) (hF:¬ F r) (hl:l.length<=140737488355328) :
 Calls Tryz.prog 219 #[.pointer (some ⟨r,0,none⟩)] w fun e w'=>∃ (s:ByteArray) (er:Int) (s':RS),e=.returned (.tuple #[.string s,.int .i64 er])/\ZcQ l s er s'/\Rdr w' F r s'/\Upd (fun b=>b=r) w w':=by
 have P:=qH (show Zci l=if l.length<2 then .error 10 else if 1000<be (l.take 2) then .error 44 else if (l.drop 2).length<be (l.take 2) then .error 10
  else .ok (⟨((l.drop 2).take (be (l.take 2))).toArray⟩,(l.drop 2).drop (be (l.take 2))) from rfl)
 have R:=qH h;clear h;by_cases E:l.length<2
 · have t:=qH (P.trans (Yac E));have x:=Zcb R.out hF 2;have y:=YeF (l:=l) (k:=2) rfl E;rw [show ((2:Nat):Int)=2 from rfl] at y;rw [y] at x;have G:=qH x;clear E x y;go_enter Tryz.func219,Tryz.ntmps219;go_wp2_with fail;refine G.mono ?_;rintro e L ⟨rfl,g,o⟩;have d:=qH g;have f:=qH o;clear g o;go_wp2_with fail;refine (Zby d).mono ?_;rintro e M ⟨rfl,rfl⟩;go_wp2
   go_ret2
   exact ⟨_,_,_,rfl,by unfold ZcQ;rw [t.out];exact ⟨rfl,qD⟩,d,f⟩
 have t:=qH (P.trans (Yab E));have x:=Zcb R.out hF 2;have y:=YeG (l:=l) (k:=2) rfl qO;rw [show ((2:Nat):Int)=2 from rfl] at y;rw [y] at x;have G:=qH x;have T:=Znu l;have H:(l.drop 2).length<=140737488355328:=by rw [Yas];omega
 clear E x y;generalize be (l.take 2)=N at *;by_cases S:1000<N
 · have u:=qH (t.trans (Yac S));go_enter Tryz.func219,Tryz.ntmps219;go_wp2_with fail;refine G.mono ?_;rintro e L ⟨rfl,g,o⟩;have d:=qH g;have f:=qH o;clear g o;go_wp2_with fail;refine (Zby d).mono ?_;rintro e M ⟨rfl,rfl⟩;go_wp2
   go_ret2
   exact ⟨_,_,_,rfl,by unfold ZcQ;rw [u.out];exact ⟨rfl,qD⟩,d,f⟩
 have u:=qH (t.trans (Yab S));by_cases i:(l.drop 2).length<N
 · have z:=qH (u.trans (Yac i));have I:=qH (YfF i);clear i;go_enter Tryz.func219,Tryz.ntmps219;go_wp2_with fail;refine G.mono ?_;rintro e L ⟨rfl,g,o⟩;have a:=ZkO g hF H N;rw [I.out] at a;have j:=qH a;have d:=qH g;have f:=qH o;clear g o a;go_wp2_with fail;refine (Zby d).mono ?_;rintro e M ⟨rfl,rfl⟩;go_wp2_with fail;refine j.mono ?_;rintro e U ⟨v,rfl,D,p,q⟩;obtain ⟨A,m,c,rfl⟩:=ZaI D;have B:=Zcf (Zir D);have n:=qH p;have C:=qH q;clear D p q;go_wp2_with fail;refine (Zby n).mono ?_;rintro e V ⟨rfl,rfl⟩;go_wp2
   go_ret2
   exact ⟨_,_,_,rfl,by unfold ZcQ;rw [z.out];exact ⟨rfl,qD⟩,n,f.trans C fun _ _ O=>O⟩
 have z:=qH (u.trans (Yab i));have I:=qH (YdL (show N<=(l.drop 2).length by omega));clear i;go_enter Tryz.func219,Tryz.ntmps219;go_wp2_with fail;refine G.mono ?_;rintro e L ⟨rfl,g,o⟩;have a:=ZkO g hF H N;rw [I.out] at a;have j:=qH a;have d:=qH g;have f:=qH o;clear g o a;go_wp2_with fail;refine (Zby d).mono ?_;rintro e M ⟨rfl,rfl⟩;go_wp2_with fail;refine j.mono ?_;rintro e U ⟨v,rfl,D,p,q⟩;obtain ⟨A,m,c,rfl⟩:=ZaI D;have B:=Zcf (Zir D);have n:=qH p;have C:=qH q;clear D p q;generalize (l.drop 2).take N=Y at *;go_wp2_with fail;refine (Zby n).mono ?_;rintro e V ⟨rfl,rfl⟩;go_wp2
 go_ret2
 exact ⟨_,_,_,rfl,by unfold ZcQ;rw [z.out];exact ⟨rfl,rfl,rfl⟩,n,f.trans C fun _ _ O=>O⟩
def NmR (d:List UInt8) (e:Ending):Prop:=∃ s b,e=.returned (.tuple #[.string s,.bool b])/\ZfF d=if b=true then some s else none
theorem Znv {F:Nat->Prop} {A:Option Addr} {n c:Nat} {d:List UInt8} (w:World) (h:Zag w F A n c d) (hl:d.length=41):Calls Tryz.prog 160 #[.slice A n c] w fun e w'=>NmR d e/\w=w':=by
 have z:n=41:=qt h.len;subst z;obtain ⟨b,o,rfl,E,_,p⟩:=h.at_ (i:=0) qO;obtain ⟨x,t,rfl⟩:∃ x t,d=x::t:=by
  cases d with
  | nil=>simp at hl
  | cons x t=>exact ⟨x,t,rfl⟩
 obtain ⟨N,q⟩:∃ N,x.toNat=N:=⟨_,rfl⟩
 have B:w.cell? ⟨b,o,none⟩=some (.int .u8 (N:Int)):=by rw [<- q];exact p
 have C:41<=c:=Row.le h;have r:=Row.max h;unfold maxLen at r;have G:(0:Int)<=(N:Int)/\(N:Int)<=255:=qt x.toNat_lt;clear p;by_cases l:40<N
 · have D:¬ (N:Int)<=40:=qO;have g:=qH (show ZfF (x::t)=none by unfold ZfF;rw [Yac (by rw [Yet,q];exact l)]);clear q h hl;go_enter Tryz.func160,Tryz.ntmps160;go_wp2
   go_ret2
   exact ⟨⟨_,false,rfl,g⟩,rfl⟩
 have D:(N:Int)<=40:=qO;have hcut:=h.rest (j:=1+N) qO;have k:=qH (Zgq (.inr rfl) w hcut);have s:=qH ((h.cut (j:=1) (m:=1+N) qO qO));have g:=qH (show ZfF (x::t)=if ZdE ((x::t).drop (1+N))=false then none else if ZiH (t.take N)=true then some ⟨(t.take N).toArray⟩ else none by unfold ZfF ZdE;rw [Yet,q,Yab l];rfl)
 rw [Yab qO,Ybw,Zfl,Ygc,Ycj,show 1+N-1=N by omega] at s;have f:=qH (Zcf s);have v:=qH (Zbb ⟨(t.take N).toArray⟩);clear q h hl hcut s;by_cases a:c=1+N
 all_goals
  first | rw [Yac a,a,YbC] at k | rw [Yab a,Ybw,Zfl] at k
  cases hf:ZdE ((x::t).drop (1+N)) with
  | false =>
    rw [hf] at k g;clear hf f v;go_enter Tryz.func160,Tryz.ntmps160;go_wp2_with fail;refine k.mono ?_;rintro e y ⟨rfl,rfl⟩;go_wp2
    go_ret2
    exact ⟨⟨_,false,rfl,by rw [g.out];rfl⟩,rfl⟩
  | true =>
    rw [hf] at k g;have u:=f.out
    try rw [a,show 1+N-1=N by omega] at u
    clear hf f;go_enter Tryz.func160,Tryz.ntmps160;go_wp2_with fail;refine k.mono ?_;rintro e y ⟨rfl,rfl⟩;go_wp2_with fail;refine (v.out _).mono ?_;rintro e y ⟨rfl,rfl⟩;go_wp2
    go_ret2
    refine ⟨⟨_,_,rfl,?_⟩,rfl⟩;rw [g.out,Yab (by simp)];rfl
end
section
def inP (n lo hi:Int):Bool:=decide (lo<=n) && decide (n<hi)
def atP (b:List UInt8) (i w:Nat):Nat:=be ((b.drop i).take w)
def ptrB (n:Int):List UInt8:=beb 4 (n+1).toNat
structure N1 where
 rel:Int
 prop:Int
 labels:List Int
deriving DecidableEq
structure L1 where
 live:Bool
 src:Int
 dst:Int
 sprev:Int
 dprev:Int
 snext:Int
 dnext:Int
deriving DecidableEq
structure R1 where
 link:L1
 type:Int
 prop:Int
deriving DecidableEq
structure P1 where
 key:Int
 kind:Int
 num:Int
 blob:Int
 prev:Int
 next:Int
deriving DecidableEq
def Zhe:Int->List Int->Bool
 | _,[]=>true
 | last,n::l=>inP n 0 200 && (decide (last<n) && Zhe n l)
def ZdR (l:List Int):Bool:=decide (l.length<=8) && Zhe (-1) l
def labB (l:List Int):List UInt8:=l.map (fun n=>UInt8.ofNat (n+1).toNat)++ZaB (8-l.length)
def Zdv (l:List UInt8):List Int:=(l.takeWhile (· != 0)).map fun c=>(c.toNat:Int)-1
def ZbT (x:N1):Bool:=inP x.rel (-1) 2048 && (inP x.prop (-1) 65536 && ZdR x.labels)
def ZcZ (x:N1):List UInt8:=ptrB x.rel++(ptrB x.prop++labB x.labels)
def Zia (b:List UInt8):N1:=⟨(atP b 0 4:Int)-1,(atP b 4 4:Int)-1,Zdv (b.drop 8)⟩
def getN (b:List UInt8):Option N1:=if ZbT (Zia b)=true/\ZcZ (Zia b)=b then some (Zia b) else none
def ZfL (l:L1):Bool:=inP l.src 0 1024 && (inP l.dst 0 1024 && (inP l.sprev (-1) 2048 && (inP l.snext (-1) 2048 && (inP l.dprev (-1) 2048 && inP l.dnext (-1) 2048))))
def Zdw (x:R1):Bool:=ZfL x.link && (inP x.type 0 200 && inP x.prop (-1) 65536)
def relB (x:R1):List UInt8:=beb 4 x.link.src.toNat++(beb 4 x.link.dst.toNat++(beb 2 x.type.toNat++(ptrB x.link.sprev++(ptrB x.link.snext++(ptrB x.link.dprev++(ptrB x.link.dnext++ptrB x.prop))))))
def relR (b:List UInt8):R1:=⟨⟨true,atP b 0 4,atP b 4 4,(atP b 10 4:Int)-1,(atP b 18 4:Int)-1,(atP b 14 4:Int)-1,(atP b 22 4:Int)-1⟩,atP b 8 2,(atP b 26 4:Int)-1⟩
def getR (b:List UInt8):Option R1:=if Zdw (relR b)=true/\relB (relR b)=b then some (relR b) else none
def ZbN (x:P1):Bool:=inP x.key 0 200 && (inP x.kind 1 9 && ((if x.kind<4 then decide (x.blob = -1) else decide (x.num=0) && inP x.blob 0 65536) && (inP x.prev (-1) 65536 && inP x.next (-1) 65536)))
def ZbO (x:P1):List UInt8:=beb 2 x.key.toNat++(beb 1 x.kind.toNat++((if x.kind<4 then beb 8 (u64 x.num) else beb 8 (x.blob+1).toNat)++(ptrB x.prev++ptrB x.next)))
def Zey (b:List UInt8):P1:=⟨atP b 0 2,atP b 2 1,if (atP b 2 1:Int)<4 then i64 (atP b 3 8) else 0,if (atP b 2 1:Int)<4 then -1 else (atP b 7 4:Int)-1,(atP b 11 4:Int)-1,(atP b 15 4:Int)-1⟩
def getP (b:List UInt8):Option P1:=if ZbN (Zey b)=true/\ZbO (Zey b)=b then some (Zey b) else none
theorem Zai {n lo hi:Int}:inP n lo hi=true↔lo<=n/\n<hi:=by simp [inP]
theorem Zal {a b:List UInt8} {k w:Nat} (i:Nat) (ha:a.length=k):atP (a++b) (k+i) w=atP b i w:=by unfold atP;rw [Yfq,Ybt qO,YaK,ha,Yeu]
theorem ZeN {b:List UInt8} {w n:Nat} (hn:n<256 ^ w):atP (beb w n++b) 0 w=n:=by unfold atP;rw [Ycj,List.take_left' (Zab _ _),ZeD,Ydk hn]
theorem Zed {b:List UInt8} {n m:Int} (h:inP n (-1) m=true) (hm:m<=65536):((atP (ptrB n++b) 0 4:Nat):Int)-1=n:=by have a:=Zai.1 h;unfold ptrB;rw [ZeN qO];omega
theorem ZaC (n:Int):(ptrB n).length=4:=Zab _ _
theorem ZoM:∀ {l:List Int} {last:Int},Zhe last l=true->∀ k,Zdv (l.map (fun n=>UInt8.ofNat (n+1).toNat)++ZaB k)=l
 | [],_,_,k=>by cases k <;> simp [Zdv,ZaB,Ycz]
 | n::l,last,h,k=>by
   simp only [Zhe,Yay] at h;have c:=Zai.1 h.1;have b:(UInt8.ofNat (n+1).toNat).toNat=(n+1).toNat:=by rw [UInt8.toNat_ofNat'];omega
   have a:(UInt8.ofNat (n+1).toNat != 0)=true:=by rw [Ybh];intro e;have:=YaC UInt8.toNat e;rw [b] at this;simp at this;omega
   have ih:=ZoM h.2.2 k;unfold Zdv at ih ⊢;rw [YaF,YaE,Ygd,Yac a,YaF,ih,b];congr 1;omega
theorem Zvn {l:List Int} (h:ZdR l=true):Zdv (labB l)=l:=by simp only [ZdR,Yay] at h;exact ZoM h.2 _
theorem ZsW {l:List Int} (h:ZdR l=true):(labB l).length=8:=by simp only [ZdR,Yay,Ybc] at h;simp only [labB,ZaB,Yaf,Yag,Ybk];omega
theorem ZiM {x:N1} (h:ZbT x=true):(ZcZ x).length=16:=by simp only [ZbT,Yay] at h;simp [ZcZ,ZaC,ZsW h.2.2]
theorem Zrf {x:N1} (h:ZbT x=true):getN (ZcZ x)=some x:=by
 have a:=h;simp only [ZbT,Yay] at h;have e:Zia (ZcZ x)=x:=by
  obtain ⟨r,p,l⟩:=x;simp only at h;unfold Zia ZcZ;simp only [N1.mk.injEq];refine ⟨Zed h.1 qO,?_,?_⟩
  · rw [show 4=4+0 from rfl,Zal 0 (ZaC _)];exact Zed h.2.1 qO
  rw [show 8=4+4 from rfl,<-Ybm,List.drop_left' (ZaC _),List.drop_left' (ZaC _)];exact Zvn h.2.2
 unfold getN;rw [e,Yac ⟨a,rfl⟩]
theorem ZkP (x:R1):(relB x).length=30:=by simp [relB,ZaC,Zab]
theorem Zrg {x:R1} (h:Zdw x=true) (hl:x.link.live=true):getR (relB x)=some x:=by
 have a:=h;simp only [Zdw,ZfL,Yay] at h;have e:relR (relB x)=x:=by
  obtain ⟨⟨r,s,d,u,v,w,y⟩,t,p⟩:=x;simp only at h hl;subst hl;obtain ⟨⟨c,f,g,i,j,k⟩,l,m⟩:=h;have n:=Zai.1 c;have o:=Zai.1 f;have q:=Zai.1 l;unfold relR relB;simp only [R1.mk.injEq,L1.mk.injEq,YcW];refine ⟨⟨?_,?_,?_,?_,?_,?_⟩,?_,?_⟩
  · rw [ZeN qO];omega
  · rw [show 4=4+0 from rfl,Zal 0 (Zab _ _),ZeN qO];omega
  · rw [show 10=4+(4+(2+0)) from rfl,Zal _ (Zab _ _),Zal _ (Zab _ _),Zal _ (Zab _ _)];exact Zed g qO
  · rw [show 18=4+(4+(2+(4+(4+0)))) from rfl,Zal _ (Zab _ _),Zal _ (Zab _ _),Zal _ (Zab _ _),Zal _ (ZaC _),Zal _ (ZaC _)];exact Zed j qO
  · rw [show 14=4+(4+(2+(4+0))) from rfl,Zal _ (Zab _ _),Zal _ (Zab _ _),Zal _ (Zab _ _),Zal _ (ZaC _)];exact Zed i qO
  · rw [show 22=4+(4+(2+(4+(4+(4+0))))) from rfl,Zal _ (Zab _ _),Zal _ (Zab _ _),Zal _ (Zab _ _),Zal _ (ZaC _),Zal _ (ZaC _),Zal _ (ZaC _)];exact Zed k qO
  · rw [show 8=4+(4+0) from rfl,Zal _ (Zab _ _),Zal _ (Zab _ _),ZeN qO];omega
  rw [show 26=4+(4+(2+(4+(4+(4+(4+0)))))) from rfl,Zal _ (Zab _ _),Zal _ (Zab _ _),Zal _ (Zab _ _),Zal _ (ZaC _),Zal _ (ZaC _),Zal _ (ZaC _),Zal _ (ZaC _)];have:=Zed (b:=[]) m qO;rwa [Ybl] at this
 unfold getR;rw [e,Yac ⟨a,rfl⟩]
theorem ZiN (x:P1):(ZbO x).length=19:=by unfold ZbO;split <;> simp [ZaC,Zab]
theorem Zup (n:Int):u64 n<18446744073709551616:=by unfold u64;omega
theorem Zvo {x:P1} (h:ZbN x=true) (hr:x.kind<4 -> -9223372036854775808<=x.num/\x.num<=9223372036854775807):getP (ZbO x)=some x:=by
 have r:=h;simp only [ZbN,Yay] at h;have e:Zey (ZbO x)=x:=by
  obtain ⟨a,k,n,d,g,i⟩:=x;simp only at h hr;obtain ⟨y,z,f,m,q⟩:=h;have A:=Zai.1 y;have B:=Zai.1 z;have s:((atP (ZbO ⟨a,k,n,d,g,i⟩) 2 1:Nat):Int)=k:=by unfold ZbO;rw [show 2=2+0 from rfl,Zal _ (Zab _ _),ZeN (by simp only;omega)];simp only;omega
  have t:((atP (ZbO ⟨a,k,n,d,g,i⟩) 0 2:Nat):Int)=a:=by unfold ZbO;rw [ZeN (by simp only;omega)];simp only;omega
  have o:((atP (ZbO ⟨a,k,n,d,g,i⟩) 11 4:Nat):Int)-1=g:=by unfold ZbO;rw [show 11=2+(1+(8+0)) from rfl,Zal _ (Zab _ _),Zal _ (Zab _ _),Zal _ (by split <;> exact Zab _ _)];exact Zed m qO
  have p:((atP (ZbO ⟨a,k,n,d,g,i⟩) 15 4:Nat):Int)-1=i:=by unfold ZbO;rw [show 15=2+(1+(8+(4+0))) from rfl,Zal _ (Zab _ _),Zal _ (Zab _ _),Zal _ (by split <;> exact Zab _ _),Zal _ (ZaC _)];have:=Zed (b:=[]) q qO;rwa [Ybl] at this
  unfold Zey;rw [s,t,o,p];simp only [P1.mk.injEq,YcW,and_true];by_cases c:k<4
  · rw [Yac c] at f;rw [Yac c,Yac c];simp only [Ybc] at f;refine ⟨?_,f.symm⟩;unfold ZbO;rw [Yac c,show 3=2+(1+0) from rfl,Zal _ (Zab _ _),Zal _ (Zab _ _),ZeN (by simpa using Zup n)];exact ZqG (hr c)
  rw [Yab c] at f;rw [Yab c,Yab c];simp only [Yay,Ybc] at f;have C:=Zai.1 f.2;refine ⟨f.1.symm,?_⟩;have u:beb 8 (d+1).toNat=beb 4 0++beb 4 (d+1).toNat:=by have l:∀ j,(d+1).toNat / 256 ^ (4+j)=0:=fun j=>Yfi (Ycd (show (d+1).toNat<256 ^ 4 by omega) (YdR qO qO));have m:=l 0;have q:=l 1;have v:=l 2;have w:=l 3;simp only [YbW] at m;simp [beb,m,q,v,w]
  unfold ZbO;rw [Yab c];simp only;rw [u,Yak,show 7=2+(1+(4+0)) from rfl,Zal _ (Zab _ _),Zal _ (Zab _ _),Zal _ (Zab _ _),ZeN qO];omega
 unfold getP;rw [e,Yac ⟨r,rfl⟩]
end
end Go.Proofs.YtmkjfhnlnhceiaaGreatDoor
