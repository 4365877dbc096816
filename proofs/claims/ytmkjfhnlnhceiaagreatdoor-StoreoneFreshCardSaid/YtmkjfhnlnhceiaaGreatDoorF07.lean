/- Lemmas: walks and plain laws. -/
import Derived.Laws.DeepBits32
import Derived.Laws.BytesArg
import Derived.RangeFuncNested
import Derived.RangeFuncBound
import Derived.RangeFuncCalls
import Derived.RangeFuncLeaves
import Derived.RangeFuncBox
import Derived.Shelf.Abstract
import Derived.Shelf.RegionOpen
import Derived.OwnWalkIn
import Derived.TacticsInMore
import Derived.LoopNIn
import Derived.LoopIn
import Derived.Maps.OwnSet
import Derived.Laws.CopyOwn
import Derived.Test.YtmkjfhnlnhceiaaGreatDoorF03
set_option maxRecDepth 100000
set_option maxHeartbeats 16000000
namespace Go.Proofs.YtmkjfhnlnhceiaaGreatDoor
variable {w w':World} {S F:Nat->Prop} {A:Option Addr} {n c g r k i:Nat} {bs l b:List UInt8} {bad:Bool} {t:TypeId} {cs:Array Value} {V:Int}
section
open Go.RowKit
def Nib (w:World):Prop:=0<w.heap.size/\∀ (i:Nat) (t:BitVec 32),crcT[i]?=some t->w.cell? ⟨0,i,none⟩=some (.int .u32 (t.toNat:Int))
theorem Nib.upd (h:Nib w) (hu:Upd S w w') (hs:¬ S 0):Nib w' :=
 ⟨RF h.1 hu.size,fun i t a=>(hu.cell (p:=⟨0,i,none⟩) h.1 hs).trans (h.2 i t a)⟩
theorem Nib.same (h:Nib w) (hu:Same w w'):Nib w':=h.upd hu fun f=>f
theorem fQ (a:BitVec 32):BitVec.ofInt 32 (a.toNat:Int)=a:=by rw [BitVec.ofInt_natCast,BitVec.ofNat_toNat,BitVec.setWidth_eq]
theorem FW (a:BitVec 32):IntKind.u32.wrap (a.toNat:Int)=(a.toNat:Int):=IntWalk.u32_in _ ⟨qO,qt a.isLt⟩
theorem aT (a b:BitVec 32):bits .xor .u32 (a.toNat:Int) (b.toNat:Int)=((a ^^^ b).toNat:Int):=by show IntKind.u32.wrap ((BitVec.ofInt 32 (a.toNat:Int) ^^^ BitVec.ofInt 32 (b.toNat:Int)).toNat:Int)=_;rw [fQ,fQ,FW]
theorem Zvp (a b:BitVec 32):bits .and .u32 (a.toNat:Int) (b.toNat:Int)=((a &&& b).toNat:Int):=by show IntKind.u32.wrap ((BitVec.ofInt 32 (a.toNat:Int) &&& BitVec.ofInt 32 (b.toNat:Int)).toNat:Int)=_;rw [fQ,fQ,FW]
theorem GW (a:BitVec 32):bits BinOp.xor IntKind.u32 IntKind.u32.max (a.toNat:Int)=((~~~ a).toNat:Int):=by have h:=aT (~~~ 0#32) a;have e:(((~~~ 0#32:BitVec 32).toNat:Nat):Int)=IntKind.u32.max:=qD;rw [e] at h;rw [h];congr 2
theorem ZtK (a:BitVec 32):(a.toNat:Int) / 16=((a >>> 4).toNat:Int):=by rw [BitVec.toNat_ushiftRight,Nat.shiftRight_eq_div_pow];rfl
theorem Zwt (x:UInt8):IntKind.u32.wrap (x.toNat:Int)=(((x.toBitVec.setWidth 32).toNat:Nat):Int):=by rw [BitVec.toNat_setWidth,OI (by have:=x.toNat_lt;have e:x.toBitVec.toNat=x.toNat:=rfl;omega)];exact IntWalk.u32_in _ ⟨qO,qt x.toNat_lt⟩
theorem IW (hN:Nib w) (c:BitVec 32):∃ (i:Nat) (t s c':BitVec 32),bits BinOp.and IntKind.u32 (c.toNat:Int) 15=(i:Int)/\(i:Int)<16/\w.cell? ⟨0,i,none⟩=some (.int .u32 (t.toNat:Int))/\(c.toNat:Int) / 16=(s.toNat:Int)/\bits BinOp.xor IntKind.u32 (t.toNat:Int) (s.toNat:Int)=(c'.toNat:Int)/\c'=bst (bst (bst (bst c))):=by obtain ⟨t,a,b,d⟩:=ZrG c;exact ⟨_,t,c >>> 4,_,Zvp c 15#32,qO,hN.2 _ _ a,ZtK c,aT _ _,b⟩
theorem ZjW (w:World) (hb:pA w F A n c bs) (hN:Nib w) (s r:BitVec 32) (hr : ~~~ crcU (~~~ s) bs=r):
 Calls Tryz.prog 159 #[.int .u32 (s.toNat:Int),.slice A n c] w fun e w'=>e=.returned (.int .u32 (r.toNat:Int))/\w=w':=by
 have y:=qH hr;clear hr;have z:=qH hb.len;have j:=qH hb;have B:=qH hN;clear hb hN;go_enter Tryz.func159,Tryz.ntmps159;go_wp2_with fail;rw [show bits BinOp.xor IntKind.u32 IntKind.u32.max (s.toNat:Int)=((~~~ s).toNat:Int) from GW s];generalize ~~~ s=h at y ⊢
 go_loop [5,12] (fun v i=>∃ k:Nat,k<=n/\i=.int .i64 k/\v=.int .u32 ((crcU h (bs.take k)).toNat:Int)) (fun _ i=>n-(intOf i).toNat)
 case atStart=>exact ⟨0,oA _,rfl,rfl⟩
 obtain ⟨k,Z,rfl,rfl⟩:=hrel;by_cases g:k<n
 · obtain ⟨b,o,rfl,O,_,P⟩:=j.at_ g;have l:k<bs.length:=by rw [z.out];exact g
   obtain ⟨x,t⟩:=qx (bs[k]);rw [t] at P;obtain ⟨q,a⟩:=qx (crcU h (bs.take k));rw [a];have H:=qH t;have m:=qH a;clear t a;have I:(0:Int)<=(k:Int):=qO;have L:(k:Int)<(n:Int):=qO;have M:IntKind.i64.wrap ((k:Int)+1)=(k:Int)+1:=by rw [rF];have:=Row.max j.out;have:=Row.le j.out;unfold maxLen at *;omega
   obtain ⟨u,d⟩:=qy (x.toBitVec.setWidth 32);have V:(x.toNat:Int) % 4294967296=(u.toNat:Int):=by have:=Zwt x;rw [IntKind.wrap_u32] at this;rw [d];exact this
   obtain ⟨D,f⟩:=qx (q ^^^ u);have W:bits BinOp.xor IntKind.u32 (q.toNat:Int) (u.toNat:Int)=(D.toNat:Int):=by rw [<- f];exact aT _ _
   obtain ⟨R,t1,s1,S,a1,a2,a3,a4,a5,E⟩:=IW B.out D;obtain ⟨T,t2,s2,U,b1,b2,b3,b4,b5,G⟩:=IW B.out S;have X:(0:Int)<=(R:Int):=qO;have Y:(0:Int)<=(T:Int):=qO;have p:Hid (crcU h (bs.take (k+1))=U):=qH (by rw [vS bs k l,ZtC,m.out,H.out,G,E,<-f,d];rfl)
   clear d f E G;go_wp2
   go_round
   case rel=>exact ⟨k+1,qO,qN,by rw [p.out]⟩
   case measure=>simp [intOf];omega
 have N:k=n:=qO;rw [cB (by rw [z.out];omega)];have C:=GW (crcU h bs);rw [y.out] at C;generalize crcU h bs=q at C ⊢;go_wp2;go_ret;exact ⟨rfl,rfl⟩
theorem LW (w:World) (hb:pA w F A n c bs) (hN:Nib w):
 Calls Tryz.prog 112 #[.slice A n c] w fun e w'=>e=.returned (.int .u32 ((crcS bs).toNat:Int))/\w=w':=by
 go_enter Tryz.func112,Tryz.ntmps112;go_wp2_with fail;refine (ZjW w hb hN 0#32 (crcS bs) rfl).mono ?_;rintro e w' ⟨rfl,rfl⟩;go_wp2;go_ret;exact ⟨rfl,rfl⟩
def pE (l:List UInt8):Bool:=l.all (fun c=>c==0)
def bT (g:Nat):Prop:=g=164\/g=190
theorem MW (hg:bT g) (x:UInt8) (w:World) {r:Bool} (hr:(x != 0)=r):Calls Tryz.prog g #[.int .u8 (x.toNat:Int)] w fun e w'=>e=.returned (.bool r)/\w=w':=by
 have a:((x.toNat:Int) != 0)=r:=by
  rw [<- hr];by_cases h:x=0
  · subst h;rfl
  have d:x.toNat≠0:=fun c=>h (vL.1 c);rw [qC.2 h,qC.2 qO]
 have b:=qH a;clear hr a;have f:=x.toNat_lt;generalize x.toNat=N at *;rcases hg with rfl | rfl
 · go_enter Tryz.func164,Tryz.ntmps164;go_wp2;go_ret;exact ⟨kD b.out,rfl⟩
 go_enter Tryz.func190,Tryz.ntmps190;go_wp2;go_ret;exact ⟨kD b.out,rfl⟩
theorem ZjX (hg:bT g) (w:World) (h:pA w F A n c bs):
 Calls Tryz.prog 192 #[.slice A n c,.func (.func g) #[] #[]] w fun e w'=>∃ r:Int,e=.returned (.int .i64 r)/\(pE bs=!decide (0<=r))/\w=w':=by
 have s:=qH h.len;have d:=Row.max h;have m:=Row.le h;unfold maxLen at d;have D:n<=9223372036854775807:=qO;clear d m;rcases hg with rfl | rfl
 all_goals
  go_enter Tryz.func192,Tryz.ntmps192;go_wp2
  go_loop [8] (fun i=>∃ k:Nat,k<=n/\i=.int .i64 k/\Hid (pE (bs.take k)=true)) (fun i=>n-(intOf i).toNat)
  case atStart=>exact ⟨0,oA _,rfl,qH rfl⟩
  obtain ⟨k,E,rfl,u⟩:=hrel;by_cases f:k<n
  · obtain ⟨b,o,rfl,C,_,G⟩:=h.at_ f;have j:k<bs.length:=by rw [s.out];exact f
    have v:=qH (show pE (bs.take (k+1))=(pE (bs.take k) && (bs[k]==0)) from by rw [AJ j];unfold pE;rw [zR,List.all_cons,List.all_nil,Bool.and_true])
    have y:=qH (CJ j);generalize bs[k]=x at *;by_cases a:x=0
    · have l:(x != 0)=false:=by simp [a]
      have p:=qH l;have q:=qH a;clear l a;go_wp2_with fail;refine (MW (by first | exact .inl rfl | exact .inr rfl) _ _ p.out).mono ?_;rintro e w' ⟨rfl,rfl⟩;go_wp2
      go_round
      case rel =>
       refine ⟨k+1,qO,qN,qH ?_⟩;rw [v.out,u.out,q.out];rfl
      case measure=>simp [intOf];omega
    have l:(x != 0)=true:=qC.2 a;have p:=qH l;have q:=qH a;clear l a;go_wp2_with fail;refine (MW (by first | exact .inl rfl | exact .inr rfl) _ _ p.out).mono ?_;rintro e w' ⟨rfl,rfl⟩;go_wp2;go_ret;refine ⟨k,rfl,?_,rfl⟩;have z:pE bs=false:=by
     cases hz:pE bs with
     | false=>rfl
     | true =>
       have:=EG.1 hz _ y.out;exact absurd (by simpa using this) q.out
    rw [z];simp
  have B:k=n:=qO;go_wp2;go_ret;refine ⟨-1,rfl,?_,rfl⟩;have t:=u.out;rw [cB (by rw [s.out];omega)] at t;rw [t];rfl
theorem OW (hg:bT g) (w:World) (h:pA w F A n c bs):
 Calls Tryz.prog 163 #[.slice A n c,.func (.func g) #[] #[]] w fun e w'=>e=.returned (.bool (!pE bs))/\w=w':=by
 go_enter Tryz.func163,Tryz.ntmps163;go_wp2_with fail;refine (ZjX hg _ h).mono ?_;rintro e w' ⟨r,rfl,a,rfl⟩;have b:=qH a;clear a;go_wp2;go_ret;exact ⟨kD (by rw [b.out,Bool.not_not]),rfl⟩
theorem Zhm (w:World) (h:pA w F A n c bs):
 Calls Tryz.prog 163 #[.slice A n c,.func (.func 164) #[] #[]] w fun e w'=>e=.returned (.bool (!pE bs))/\w=w':=OW (.inl rfl) w h
structure RS where
 left:List UInt8
 err:Int
def RS.take (s:RS) (n:Int) (right:Bool):List UInt8×RS :=
 if s.err=0 then
  if right=false\/n<0 then ([],⟨[],2⟩)
  else if (s.left.length:Int)<n then ([],⟨[],10⟩)
  else (s.left.take n.toNat,⟨s.left.drop n.toNat,0⟩)
 else ([],s)
theorem RS.take_short {left:List UInt8} (h:left.length<k):RS.take ⟨left,0⟩ k true=([],⟨[],10⟩):=by have a:¬ ((k:Int)<0):=qO;simp [RS.take,a,h]
abbrev cT:=@RS.take_short
theorem RS.take_ok {left:List UInt8} (h:k<=left.length):RS.take ⟨left,0⟩ k true=(left.take k,⟨left.drop k,0⟩):=by have a:¬ ((k:Int)<0):=qO;have b:¬ (left.length<k):=qO;simp [RS.take,a,b]
abbrev QK:=@RS.take_ok
def Rdr (w:World) (F:Nat->Prop) (r:Nat) (s:RS):Prop :=
 ∃ A n c,Blk w r 285 #[.slice A n c,.int .i64 s.err]/\pA w F A n c s.left
theorem Rdr.upd {s:RS} (h:Rdr w F r s) (hu:Upd S w w') (hr:¬ S r) (hf:∀ b,F b->¬ S b):Rdr w' F r s:=by obtain ⟨A,n,c,a,d⟩:=h;exact ⟨A,n,c,a.upd hu hr,d.upd hu hf⟩
theorem Rdr.same {s:RS} (h:Rdr w F r s) (hu:Same w w'):Rdr w' F r s:=h.upd hu (fun f=>f) qf
theorem Rdr.lt {s:RS} (h:Rdr w F r s):r<w.heap.size:=by obtain ⟨A,n,c,a,b⟩:=h;exact a.lt
theorem bG {s:RS} (h:Rdr w F r s):
 Calls Tryz.prog 217 #[.pointer (some ⟨r,0,none⟩)] w fun e w'=>e=.returned (.int .i64 s.err)/\w=w':=by
 obtain ⟨A,n,c,b,d⟩:=h;have a:=b.cell 1;simp only [YC,LC,rC] at a;go_enter Tryz.func217,Tryz.ntmps217;go_wp2;go_ret;exact ⟨rfl,rfl⟩
theorem PW {s:RS} (h:Rdr w F r s):
 Calls Tryz.prog 221 #[.pointer (some ⟨r,0,none⟩)] w fun e w'=>e=.returned (.int .i64 s.left.length)/\w=w':=by
 obtain ⟨A,n,c,d,f⟩:=h;have a:=d.cell 0;simp only [YC,rC] at a;have b:=qH f.len;go_enter Tryz.func221,Tryz.ntmps221;go_wp2;go_ret;exact ⟨by rw [b.out];rfl,rfl⟩
theorem QW {s:RS} (h:Rdr w F r s) (hF:¬ F r) (n:Int) (right:Bool):
 Calls Tryz.prog 194 #[.pointer (some ⟨r,0,none⟩),.int .i64 n,.bool right] w fun e w' =>
  ∃ A' n' c',e=.returned (.slice A' n' c')/\pA w' F A' n' c' (s.take n right).1/\Rdr w' F r (s.take n right).2/\Upd (fun b=>b=r) w w':=by
 have l:=h;obtain ⟨A,m,c,d,p⟩:=h;have B:=d.cell 0;simp only [YC,rC] at B;have z:=d.cell 1;simp only [YC,LC,rC] at z;have I:=d.frozen 0;have L:=d.frozen 1;have q:=qH p.len;by_cases t:s.err=0
 · obtain ⟨left,y⟩:=s;obtain rfl:y=0:=t;simp only at z q;by_cases i:right=false\/n<0
   · have f:RS.take ⟨left,0⟩ n right=([],⟨[],2⟩):=by simp [RS.take,i]
     rw [f];have u:right=false\/(right=true/\n<0):=by
      rcases i with i | i
      · exact .inl i
      cases right
      · exact .inl rfl
      exact .inr ⟨rfl,i⟩
     clear i f;rcases u with rfl | ⟨rfl,C⟩
     all_goals
      go_enter UM,VM;go_wp2;go_ret;exact ⟨none,0,0,rfl,DN _ _,⟨none,0,0,(d.put 1 _).put 0 _,DN _ _⟩,((eA _ w).put1 _).put1 _⟩
   have u:right=true:=by cases right <;> simp_all
   subst u;have C:¬ n<0:=fun H=>i (.inr H);obtain ⟨k,rfl⟩:∃ k:Nat,n=k:=⟨n.toNat,qO⟩
   clear i;by_cases D:m<k
   · have f:RS.take ⟨left,0⟩ k true=([],⟨[],10⟩):=by exact cT (by rw [q.out];exact D)
     rw [f];clear f;go_enter UM,VM;go_wp2;go_ret;exact ⟨none,0,0,rfl,DN _ _,⟨none,0,0,(d.put 1 _).put 0 _,DN _ _⟩,((eA _ w).put1 _).put1 _⟩
   have f:RS.take ⟨left,0⟩ k true=(left.take k,⟨left.drop k,0⟩):=by exact QK (by rw [q.out];omega)
   rw [f];clear f;have o:k<=m:=qO;have E:=Row.le p;have v:=Row.max p;unfold maxLen at v;have g:=p.head o;have a:=p.rest o;by_cases j:c=k
   · rw [gA j] at a;obtain rfl:m=k:=qO;obtain rfl:=j;simp only [SD] at a;have x:=qH a;clear a;go_enter UM,VM;go_wp2;go_ret;refine ⟨_,_,_,rfl,g.upd ((eA _ w).put1 _) (fun b d h=>hF (h ▸ d)),⟨_,_,_,d.put 0 _,?_⟩,(eA _ w).put1 _⟩;exact x.upd ((eA _ w).put1 _) (fun b d h=>hF (h ▸ d))
   rw [aA j] at a;have x:=qH a;clear a;go_enter UM,VM;go_wp2;go_ret;exact ⟨_,_,_,rfl,g.upd ((eA _ w).put1 _) (fun b d h=>hF (h ▸ d)),⟨_,_,_,d.put 0 _,x.upd ((eA _ w).put1 _) (fun b d h=>hF (h ▸ d))⟩,(eA _ w).put1 _⟩
 have f:RS.take s n right=([],s):=by simp [RS.take,t]
 rw [f];clear f;have G:(s.err != 0)=true:=by simpa using t
 go_enter UM,VM;go_wp2;go_ret;exact ⟨none,0,0,rfl,DN _ _,l,eA _ _⟩
def RS.num (s:RS) (width:Int):Nat×RS:=(be (s.take width (MD width)).1,(s.take width (MD width)).2)
theorem RS.take_len (s:RS) (width:Int):(s.take width (MD width)).1.length<=8:=by
 unfold RS.take;split
 · split
   · simp
   split
   · simp
   rename_i b c;have a:MD width=true:=by cases h:MD width <;> simp_all
   simp only [MD,CH,jE] at a;simp only [RB];omega
 simp
theorem gH {s:RS} (h:Rdr w F r s) (hF:¬ F r) (width:Int):
 Calls Tryz.prog 166 #[.pointer (some ⟨r,0,none⟩),.int .i64 width] w fun e w' =>
  e=.returned (.int .u64 ((s.num width).1:Int))/\Rdr w' F r (s.num width).2/\Upd (fun b=>b=r) w w':=by
 go_enter Tryz.func166,Tryz.ntmps166;go_wp2_with fail;refine (uS _ _).mono ?_;rintro e w' ⟨rfl,rfl⟩;go_wp2_with fail;refine (QW h hF _ _).mono ?_;rintro e f ⟨g,i,j,rfl,a,c,d⟩;go_wp2_with fail;refine (ZnN _ a (by rw [<- a.len];exact RS.take_len s width)).mono ?_;rintro e w' ⟨rfl,rfl⟩;go_wp2_with fail;go_ret;exact ⟨rfl,c,d⟩
theorem dT {s:RS} (h:Rdr w F r s) (hF:¬ F r) (hs:s.left.length<=140737488355328) (n:Int):
 Calls Tryz.prog 167 #[.pointer (some ⟨r,0,none⟩),.int .i64 n] w fun e w' =>
  ∃ v,e=.returned v/\OwnB w' w.heap.size v (s.take n true).1/\Rdr w' F r (s.take n true).2/\Upd (fun b=>b=r) w w':=by
 have a:(s.take n true).1.length<=140737488355328:=by
  unfold RS.take;split
  · split
    · simp
    split
    · simp
    simp only [RB];omega
  simp
 go_enter Tryz.func167,Tryz.ntmps167;go_wp2_with fail;refine (QW h hF _ _).mono ?_;rintro e i ⟨j,k,l,rfl,c,f,d⟩;go_wp2_with fail;refine (JK _ c (by rw [<- c.len];exact a)).mono ?_;rintro e m ⟨v,rfl,g,hs⟩;go_wp2_with fail;go_ret;exact ⟨v,rfl,RA g d.size,f.same hs,d.same hs⟩
theorem gM (hb:pA w F A n c bs) (hn:n<=140737488355328):
 Calls Tryz.prog 165 #[.slice A n c] w fun e w'=>∃ r,e=.returned (.pointer (some ⟨r,0,none⟩))/\w.heap.size<=r/\Rdr w' (fun b=>w.heap.size<=b/\b≠r) r ⟨bs,0⟩/\Same w w':=by
 go_enter Tryz.func165,Tryz.ntmps165;go_wp2_with fail;refine (JK _ hb hn).mono ?_;rintro e d ⟨v,rfl,f,g⟩;obtain ⟨h,i,rfl⟩:=WA f;go_wp2;go_ret;refine ⟨d.heap.size,rfl,g.size,⟨h,_,i,jA _ _ _,?_⟩,g.alloc _⟩;have a:=xF f;exact (a.mono (F':=fun b=>w.heap.size<=b/\b≠d.heap.size) (fun b j hb=>⟨hb.2,qO⟩)).same ((eA _ d).alloc _)
theorem zI (hb:pA w F A n c bs):
 (convert 39 9 (.slice A n c)).run Tryz.prog w=.ok (.string ⟨bs.toArray⟩) w:=by
 have e:=hb.len;cases hA:A with
 | none =>
   have k:=hb.nil hA;have f:=Row.le hb;obtain rfl:n=0:=qO;obtain rfl:c=0:=qO;have:bs=[]:=CG e;subst this;exact run_convert_bytes_nil (P:=Tryz.prog) w 39 5 yD ZO 0 0 9 DH
 | some a =>
   obtain ⟨g,l,m,j⟩:=Row.cell hb a hA;obtain ⟨b,o,s⟩:=a;subst g;have h:=run_convert_bytes_arg (P:=Tryz.prog) w 39 5 yD ZO b o n c (bs.map fun x=>(x.toNat:Int)) (by simpa using e) (fun i p=>by have d:i<bs.length:=qO;have:=j i (u8v bs[i]) (by simp [FA d]);simp only at this;rw [this];simp [u8v,List.getD,FA d]) 9 DH
   rw [h];congr 2;unfold strOfNums;congr 2;rw [MC]
   conv=>rhs;rw [<- FL bs]
   apply kG;intro x _;simp
theorem RW (n:Nat) (h:n<18446744073709551616):wrap64 (n:Int)=i64 n:=by unfold wrap64 i64;split <;> omega
theorem RS.num_short (hk:MD k=true) (h:l.length<k):RS.num ⟨l,0⟩ k=(0,⟨[],10⟩):=by unfold RS.num;rw [hk,cT h];rfl
abbrev XN:=@RS.num_short
theorem RS.num_ok (hk:MD k=true) (h:k<=l.length):RS.num ⟨l,0⟩ k=(be (l.take k),⟨l.drop k,0⟩):=by unfold RS.num;rw [hk,QK h]
abbrev YN:=@RS.num_ok
def rG (K:Int) (l:List UInt8) (n e:Int) (s':RS):Prop :=
 match pNum K l with
 | .error e0=>e=e0/\e≠0
 | .ok (m,r)=>e=0/\n=m/\s'=⟨r,0⟩
theorem SW (h:Rdr w F r ⟨l,0⟩) (hF:¬ F r) (kind:Int) (S:1<=kind) (hk:kind<=8):
 Calls Tryz.prog 220 #[.pointer (some ⟨r,0,none⟩),.int .i64 kind] w fun e w'=>∃ (n er:Int) (s':RS),e=.returned (.tuple #[.int .i64 n,.int .i64 er])/\rG (DC kind) l n er s'/\Rdr w' F r s'/\Upd (fun b=>b=r) w w':=by
 have G:=LP kind;have u:=fun (n:Int) (w:World)=>MP kind n w S hk;have z:=qH (show ∀ (a:Nat),a=(if DC kind=1 then 1 else 8)->pNum (DC kind) l=if l.length<a then .error 10
  else if oC (DC kind) (i64 (be (l.take a)))≠0 then .error (oC (DC kind) (i64 (be (l.take a))))
  else .ok (i64 (be (l.take a)),l.drop a) from fun a P=>by subst P;rfl)
 generalize DC kind=K at G u z ⊢;have C:=qH G;have A:=qH u;have D:=qH h;clear G u h;by_cases E:K=1
 · subst E;have f:=qH (show 1=(if (1:Int)=1 then 1 else 8) from rfl);by_cases j:l.length<1
   · have v:=qH ((z.out 1 f).trans (gA j));have g:=gH D.out hF 1;have i:=XN (l:=l) (k:=1) rfl j;rw [show ((1:Nat):Int)=1 from rfl] at i;rw [i] at g;have x:=qH g;clear j g i;go_enter aP,bP;go_wp2_with fail;refine (C.out _ qO qO).mono ?_;rintro e w' ⟨rfl,rfl⟩;go_wp2_with fail;refine x.mono ?_;rintro e L ⟨rfl,q,s⟩;have c:=qH q;have d:=qH s;clear q s;go_wp2_with fail;refine (bG c).mono ?_;rintro e M ⟨rfl,rfl⟩;go_wp2
     go_ret2
     exact ⟨_,_,_,rfl,by unfold rG;rw [v.out];exact ⟨rfl,qD⟩,c,d⟩
   have v:=qH ((z.out 1 f).trans (aA j));have g:=gH D.out hF 1;have i:=YN (l:=l) (k:=1) rfl qO;rw [show ((1:Nat):Int)=1 from rfl] at i;rw [i] at g;have x:=qH g;have o:=qH (NP l 1 qO);clear j g i;generalize be (l.take 1)=N at *;have H:=qH (RW N o);have I:=qH (OP N o);go_enter aP,bP;go_wp2_with fail;refine (C.out _ qO qO).mono ?_;rintro e w' ⟨rfl,rfl⟩;go_wp2_with fail;refine x.mono ?_;rintro e L ⟨rfl,q,s⟩;have c:=qH q;have d:=qH s;clear q s;go_wp2_with fail;refine (bG c).mono ?_;rintro e M ⟨rfl,rfl⟩;go_wp2_with fail;rw [H.out];refine (A.out _ _).mono ?_;rintro e R ⟨rfl,rfl⟩;have p:=v;generalize i64 N=m at *;by_cases y:oC 1 m=0
   · have t:=qH y;go_wp2
     go_ret2
     refine ⟨_,_,_,rfl,?_,c,d⟩;unfold rG;rw [p.out,aA (fun h=>h t.out)];exact ⟨rfl,rfl,rfl⟩
   have t:=qH y;clear y;go_wp2
   go_ret2
   refine ⟨_,_,_,rfl,?_,c,d⟩;unfold rG;rw [p.out,gA t.out];exact ⟨rfl,t⟩
 have B:8=(if K=1 then 1 else 8):=by rw [aA E]
 have f:=qH B;have O:(K==1)=false:=by simpa using E
 clear E B;by_cases j:l.length<8
 · have v:=qH ((z.out 8 f).trans (gA j));have g:=gH D.out hF 8;have i:=XN (l:=l) (k:=8) rfl j;rw [show ((8:Nat):Int)=8 from rfl] at i;rw [i] at g;have x:=qH g;clear j g i;go_enter aP,bP;go_wp2_with fail;refine (C.out _ qO qO).mono ?_;rintro e w' ⟨rfl,rfl⟩;go_wp2_with fail;refine x.mono ?_;rintro e L ⟨rfl,q,s⟩;have c:=qH q;have d:=qH s;clear q s;go_wp2_with fail;refine (bG c).mono ?_;rintro e M ⟨rfl,rfl⟩;go_wp2
   go_ret2
   exact ⟨_,_,_,rfl,by unfold rG;rw [v.out];exact ⟨rfl,qD⟩,c,d⟩
 have v:=qH ((z.out 8 f).trans (aA j));have g:=gH D.out hF 8;have i:=YN (l:=l) (k:=8) rfl qO;rw [show ((8:Nat):Int)=8 from rfl] at i;rw [i] at g;have x:=qH g;have o:=qH (NP l 8 qO);clear j g i;generalize be (l.take 8)=N at *;have H:=qH (RW N o);have I:=qH (OP N o);go_enter aP,bP;go_wp2_with fail;refine (C.out _ qO qO).mono ?_;rintro e w' ⟨rfl,rfl⟩;go_wp2_with fail;refine x.mono ?_;rintro e L ⟨rfl,q,s⟩;have c:=qH q;have d:=qH s;clear q s;go_wp2_with fail;refine (bG c).mono ?_;rintro e M ⟨rfl,rfl⟩;go_wp2_with fail;rw [H.out];refine (A.out _ _).mono ?_;rintro e R ⟨rfl,rfl⟩;have p:=v;generalize i64 N=m at *;by_cases y:oC K m=0
 · have t:=qH y;go_wp2
   go_ret2
   refine ⟨_,_,_,rfl,?_,c,d⟩;unfold rG;rw [p.out,aA (fun h=>h t.out)];exact ⟨rfl,rfl,rfl⟩
 have t:=qH y;clear y;go_wp2
 go_ret2
 refine ⟨_,_,_,rfl,?_,c,d⟩;unfold rG;rw [p.out,gA t.out];exact ⟨rfl,t⟩
def iH (l:List UInt8) (s:ByteArray) (e:Int) (s':RS):Prop :=
 match jD l with
 | .error e0=>e=e0/\e≠0
 | .ok (t,r)=>e=0/\s=t/\s'=⟨r,0⟩
theorem ZnZ (l:List UInt8):be (l.take 2)<=65535:=by have h:=pG (l.take 2);have a:256 ^ (l.take 2).length<=256 ^ 2:=wK qO (by rw [RB];omega);have b:256 ^ 2=65536:=qD;omega
theorem TW (h:Rdr w F r ⟨l,0⟩) (hF:¬ F r) (hl:l.length<=140737488355328):
 Calls Tryz.prog 219 #[.pointer (some ⟨r,0,none⟩)] w fun e w'=>∃ (s:ByteArray) (er:Int) (s':RS),e=.returned (.tuple #[.string s,.int .i64 er])/\iH l s er s'/\Rdr w' F r s'/\Upd (fun b=>b=r) w w':=by
 have P:=qH (show jD l=if l.length<2 then .error 10 else if 1000<be (l.take 2) then .error 44 else if (l.drop 2).length<be (l.take 2) then .error 10
  else .ok (⟨((l.drop 2).take (be (l.take 2))).toArray⟩,(l.drop 2).drop (be (l.take 2))) from rfl)
 have R:=qH h;clear h;by_cases E:l.length<2
 · have t:=qH (P.trans (gA E));have x:=gH R.out hF 2;have y:=XN (l:=l) (k:=2) rfl E;rw [show ((2:Nat):Int)=2 from rfl] at y;rw [y] at x;have G:=qH x;clear E x y;go_enter dP,eP;go_wp2_with fail;refine G.mono ?_;rintro e L ⟨rfl,g,o⟩;have d:=qH g;have f:=qH o;clear g o;go_wp2_with fail;refine (bG d).mono ?_;rintro e M ⟨rfl,rfl⟩;go_wp2
   go_ret2
   exact ⟨_,_,_,rfl,by unfold iH;rw [t.out];exact ⟨rfl,qD⟩,d,f⟩
 have t:=qH (P.trans (aA E));have x:=gH R.out hF 2;have y:=YN (l:=l) (k:=2) rfl qO;rw [show ((2:Nat):Int)=2 from rfl] at y;rw [y] at x;have G:=qH x;have T:=ZnZ l;have H:(l.drop 2).length<=140737488355328:=by rw [QA];omega
 clear E x y;generalize be (l.take 2)=N at *;by_cases S:1000<N
 · have u:=qH (t.trans (gA S));go_enter dP,eP;go_wp2_with fail;refine G.mono ?_;rintro e L ⟨rfl,g,o⟩;have d:=qH g;have f:=qH o;clear g o;go_wp2_with fail;refine (bG d).mono ?_;rintro e M ⟨rfl,rfl⟩;go_wp2
   go_ret2
   exact ⟨_,_,_,rfl,by unfold iH;rw [u.out];exact ⟨rfl,qD⟩,d,f⟩
 have u:=qH (t.trans (aA S));by_cases i:(l.drop 2).length<N
 · have z:=qH (u.trans (gA i));have I:=qH (cT i);clear i;go_enter dP,eP;go_wp2_with fail;refine G.mono ?_;rintro e L ⟨rfl,g,o⟩;have a:=dT g hF H N;rw [I.out] at a;have j:=qH a;have d:=qH g;have f:=qH o;clear g o a;go_wp2_with fail;refine (bG d).mono ?_;rintro e M ⟨rfl,rfl⟩;go_wp2_with fail;refine j.mono ?_;rintro e U ⟨v,rfl,D,p,q⟩;obtain ⟨A,m,c,rfl⟩:=DE D;have B:=zI (tS D);have n:=qH p;have C:=qH q;clear D p q;go_wp2_with fail;refine (bG n).mono ?_;rintro e V ⟨rfl,rfl⟩;go_wp2
   go_ret2
   exact ⟨_,_,_,rfl,by unfold iH;rw [z.out];exact ⟨rfl,qD⟩,n,f.trans C fun _ _ O=>O⟩
 have z:=qH (u.trans (aA i));have I:=qH (QK (show N<=(l.drop 2).length by omega));clear i;go_enter dP,eP;go_wp2_with fail;refine G.mono ?_;rintro e L ⟨rfl,g,o⟩;have a:=dT g hF H N;rw [I.out] at a;have j:=qH a;have d:=qH g;have f:=qH o;clear g o a;go_wp2_with fail;refine (bG d).mono ?_;rintro e M ⟨rfl,rfl⟩;go_wp2_with fail;refine j.mono ?_;rintro e U ⟨v,rfl,D,p,q⟩;obtain ⟨A,m,c,rfl⟩:=DE D;have B:=zI (tS D);have n:=qH p;have C:=qH q;clear D p q;generalize (l.drop 2).take N=Y at *;go_wp2_with fail;refine (bG n).mono ?_;rintro e V ⟨rfl,rfl⟩;go_wp2
 go_ret2
 exact ⟨_,_,_,rfl,by unfold iH;rw [z.out];exact ⟨rfl,rfl,rfl⟩,n,f.trans C fun _ _ O=>O⟩
def NmR (d:List UInt8) (e:Ending):Prop:=∃ s b,e=.returned (.tuple #[.string s,.bool b])/\MF d=if b=true then some s else none
theorem Zoa {d:List UInt8} (w:World) (h:pA w F A n c d) (hl:d.length=41):Calls Tryz.prog 160 #[.slice A n c] w fun e w'=>NmR d e/\w=w':=by
 have z:n=41:=qt h.len;subst z;obtain ⟨b,o,rfl,E,_,p⟩:=h.at_ (i:=0) qO;obtain ⟨x,t,rfl⟩:∃ x t,d=x::t:=by
  cases d with
  | nil=>simp at hl
  | cons x t=>exact ⟨x,t,rfl⟩
 obtain ⟨N,q⟩:=qx x.toNat;have B:w.cell? ⟨b,o,none⟩=some (.int .u8 (N:Int)):=by rw [<- q];exact p
 have C:41<=c:=Row.le h;have r:=Row.max h;unfold maxLen at r;have G:(0:Int)<=(N:Int)/\(N:Int)<=255:=qt x.toNat_lt;clear p;by_cases l:40<N
 · have D:¬ (N:Int)<=40:=qO;have g:=qH (show MF (x::t)=none by unfold MF;rw [gA (by rw [GL,q];exact l)]);clear q h hl;go_enter Tryz.func160,Tryz.ntmps160;go_wp2
   go_ret2
   exact ⟨⟨_,false,rfl,g⟩,rfl⟩
 have D:(N:Int)<=40:=qO;have hcut:=h.rest (j:=1+N) qO;have k:=qH (OW (.inr rfl) w hcut);have s:=qH ((h.cut (j:=1) (m:=1+N) qO qO));have g:=qH (show MF (x::t)=if pE ((x::t).drop (1+N))=false then none else if OH (t.take N)=true then some ⟨(t.take N).toArray⟩ else none by unfold MF pE;rw [GL,q,aA l];rfl)
 rw [aA qO,VC,GK,fP,TF,show 1+N-1=N by omega] at s;have f:=qH (zI s);have v:=qH (fJ ⟨(t.take N).toArray⟩);clear q h hl hcut s;by_cases a:c=1+N
 all_goals
  first | rw [gA a,a,SD] at k | rw [aA a,VC,GK] at k
  cases hf:pE ((x::t).drop (1+N)) with
  | false =>
    rw [hf] at k g;clear hf f v;go_enter Tryz.func160,Tryz.ntmps160;go_wp2_with fail;refine k.mono ?_;rintro e y ⟨rfl,rfl⟩;go_wp2
    go_ret2
    exact ⟨⟨_,false,rfl,by rw [g.out];rfl⟩,rfl⟩
  | true =>
    rw [hf] at k g;have u:=f.out
    try rw [a,show 1+N-1=N by omega] at u
    clear hf f;go_enter Tryz.func160,Tryz.ntmps160;go_wp2_with fail;refine k.mono ?_;rintro e y ⟨rfl,rfl⟩;go_wp2_with fail;refine (v.out _).mono ?_;rintro e y ⟨rfl,rfl⟩;go_wp2
    go_ret2
    refine ⟨⟨_,_,rfl,?_⟩,rfl⟩;rw [g.out,aA qS];rfl
end
section
def inP (n lo hi:Int):Bool:=decide (lo<=n) && decide (n<hi)
def atP (b:List UInt8) (i w:Nat):Nat:=be ((b.drop i).take w)
def ptrB (n:Int):List UInt8:=beb 4 (n+1).toNat
structure N1 where
 rel:Int
 prop:Int
 labels:List Int
deriving DecidableEq
structure L1 where
 live:Bool
 src:Int
 dst:Int
 sprev:Int
 dprev:Int
 snext:Int
 dnext:Int
deriving DecidableEq
structure R1 where
 link:L1
 type:Int
 prop:Int
deriving DecidableEq
structure P1 where
 key:Int
 kind:Int
 num:Int
 blob:Int
 prev:Int
 next:Int
deriving DecidableEq
def NG:Int->List Int->Bool
 | _,[]=>true
 | last,n::l=>inP n 0 200 && (decide (last<n) && NG n l)
def OG (l:List Int):Bool:=decide (l.length<=8) && NG (-1) l
def labB (l:List Int):List UInt8:=l.map (fun n=>UInt8.ofNat (n+1).toNat)++TB (8-l.length)
def aE (l:List UInt8):List Int:=(l.takeWhile (· != 0)).map fun c=>(c.toNat:Int)-1
def bE (x:N1):Bool:=inP x.rel (-1) 2048 && (inP x.prop (-1) 65536 && OG x.labels)
def PD (x:N1):List UInt8:=ptrB x.rel++(ptrB x.prop++labB x.labels)
def jH (b:List UInt8):N1:=⟨(atP b 0 4:Int)-1,(atP b 4 4:Int)-1,aE (b.drop 8)⟩
def getN (b:List UInt8):Option N1:=if bE (jH b)=true/\PD (jH b)=b then some (jH b) else none
def AI (l:L1):Bool:=inP l.src 0 1024 && (inP l.dst 0 1024 && (inP l.sprev (-1) 2048 && (inP l.snext (-1) 2048 && (inP l.dprev (-1) 2048 && inP l.dnext (-1) 2048))))
def cE (x:R1):Bool:=AI x.link && (inP x.type 0 200 && inP x.prop (-1) 65536)
def relB (x:R1):List UInt8:=beb 4 x.link.src.toNat++(beb 4 x.link.dst.toNat++(beb 2 x.type.toNat++(ptrB x.link.sprev++(ptrB x.link.snext++(ptrB x.link.dprev++(ptrB x.link.dnext++ptrB x.prop))))))
def relR (b:List UInt8):R1:=⟨⟨true,atP b 0 4,atP b 4 4,(atP b 10 4:Int)-1,(atP b 18 4:Int)-1,(atP b 14 4:Int)-1,(atP b 22 4:Int)-1⟩,atP b 8 2,(atP b 26 4:Int)-1⟩
def getR (b:List UInt8):Option R1:=if cE (relR b)=true/\relB (relR b)=b then some (relR b) else none
def TD (x:P1):Bool:=inP x.key 0 200 && (inP x.kind 1 9 && ((if x.kind<4 then decide (x.blob = -1) else decide (x.num=0) && inP x.blob 0 65536) && (inP x.prev (-1) 65536 && inP x.next (-1) 65536)))
def FC (x:P1):List UInt8:=beb 2 x.key.toNat++(beb 1 x.kind.toNat++((if x.kind<4 then beb 8 (u64 x.num) else beb 8 (x.blob+1).toNat)++(ptrB x.prev++ptrB x.next)))
def oF (b:List UInt8):P1:=⟨atP b 0 2,atP b 2 1,if (atP b 2 1:Int)<4 then i64 (atP b 3 8) else 0,if (atP b 2 1:Int)<4 then -1 else (atP b 7 4:Int)-1,(atP b 11 4:Int)-1,(atP b 15 4:Int)-1⟩
def getP (b:List UInt8):Option P1:=if TD (oF b)=true/\FC (oF b)=b then some (oF b) else none
theorem NB {n lo hi:Int}:inP n lo hi=true↔lo<=n/\n<hi:=by simp [inP]
theorem jC {a:List UInt8} {w:Nat} (i:Nat) (ha:a.length=k):atP (a++b) (k+i) w=atP b i w:=by unfold atP;rw [gP,BC qO,SB,ha,IL]
theorem VJ {w:Nat} (hn:n<256 ^ w):atP (beb w n++b) 0 w=n:=by unfold atP;rw [TF,List.take_left' (rA _ _),LH,OI hn]
theorem lJ {n m:Int} (h:inP n (-1) m=true) (hm:m<=65536):((atP (ptrB n++b) 0 4:Nat):Int)-1=n:=by have a:=NB.1 h;unfold ptrB;rw [VJ qO];omega
theorem BD (n:Int):(ptrB n).length=4:=rA _ _
theorem UW:∀ {l:List Int} {last:Int},NG last l=true->∀ k,aE (l.map (fun n=>UInt8.ofNat (n+1).toNat)++TB k)=l
 | [],_,_,k=>by cases k <;> simp [aE,TB,VG]
 | n::l,last,h,k=>by
   simp only [NG,kB] at h;have c:=NB.1 h.1;have b:(UInt8.ofNat (n+1).toNat).toNat=(n+1).toNat:=by rw [UInt8.toNat_ofNat'];omega
   have a:(UInt8.ofNat (n+1).toNat != 0)=true:=by rw [qC];intro e;have:=tB UInt8.toNat e;rw [b] at this;simp at this;omega
   have ih:=UW h.2.2 k;unfold aE at ih ⊢;rw [CB,EB,TR,gA a,CB,ih,b];congr 1;omega
theorem Zwu {l:List Int} (h:OG l=true):aE (labB l)=l:=by simp only [OG,kB] at h;exact UW h.2 _
theorem ZtL {l:List Int} (h:OG l=true):(labB l).length=8:=by simp only [OG,kB,NC] at h;simp only [labB,TB,kA,nA,aD];omega
theorem eT {x:N1} (h:bE x=true):(PD x).length=16:=by simp only [bE,kB] at h;simp [PD,BD,ZtL h.2.2]
theorem fT {x:N1} (h:bE x=true):getN (PD x)=some x:=by
 have a:=h;simp only [bE,kB] at h;have e:jH (PD x)=x:=by
  obtain ⟨r,p,l⟩:=x;simp only at h;unfold jH PD;simp only [N1.mk.injEq];refine ⟨lJ h.1 qO,?_,?_⟩
  · rw [show 4=4+0 from rfl,jC 0 (BD _)];exact lJ h.2.1 qO
  rw [show 8=4+4 from rfl,<-dD,List.drop_left' (BD _),List.drop_left' (BD _)];exact Zwu h.2.2
 unfold getN;rw [e,gA ⟨a,rfl⟩]
theorem gT (x:R1):(relB x).length=30:=by simp [relB,BD,rA]
theorem iT {x:R1} (h:cE x=true) (hl:x.link.live=true):getR (relB x)=some x:=by
 have a:=h;simp only [cE,AI,kB] at h;have e:relR (relB x)=x:=by
  obtain ⟨⟨r,s,d,u,v,w,y⟩,t,p⟩:=x;simp only at h hl;subst hl;obtain ⟨⟨c,f,g,i,j,k⟩,l,m⟩:=h;have n:=NB.1 c;have o:=NB.1 f;have q:=NB.1 l;unfold relR relB;simp only [R1.mk.injEq,L1.mk.injEq,jI];refine ⟨⟨?_,?_,?_,?_,?_,?_⟩,?_,?_⟩
  · rw [VJ qO];omega
  · rw [show 4=4+0 from rfl,jC 0 (rA _ _),VJ qO];omega
  · rw [show 10=4+(4+(2+0)) from rfl,jC _ (rA _ _),jC _ (rA _ _),jC _ (rA _ _)];exact lJ g qO
  · rw [show 18=4+(4+(2+(4+(4+0)))) from rfl,jC _ (rA _ _),jC _ (rA _ _),jC _ (rA _ _),jC _ (BD _),jC _ (BD _)];exact lJ j qO
  · rw [show 14=4+(4+(2+(4+0))) from rfl,jC _ (rA _ _),jC _ (rA _ _),jC _ (rA _ _),jC _ (BD _)];exact lJ i qO
  · rw [show 22=4+(4+(2+(4+(4+(4+0))))) from rfl,jC _ (rA _ _),jC _ (rA _ _),jC _ (rA _ _),jC _ (BD _),jC _ (BD _),jC _ (BD _)];exact lJ k qO
  · rw [show 8=4+(4+0) from rfl,jC _ (rA _ _),jC _ (rA _ _),VJ qO];omega
  rw [show 26=4+(4+(2+(4+(4+(4+(4+0)))))) from rfl,jC _ (rA _ _),jC _ (rA _ _),jC _ (rA _ _),jC _ (BD _),jC _ (BD _),jC _ (BD _),jC _ (BD _)];have:=lJ (b:=[]) m qO;rwa [ZC] at this
 unfold getR;rw [e,gA ⟨a,rfl⟩]
theorem jT (x:P1):(FC x).length=19:=by unfold FC;split <;> simp [BD,rA]
theorem Zvr (n:Int):u64 n<18446744073709551616:=by unfold u64;omega
theorem Zwv {x:P1} (h:TD x=true) (hr:x.kind<4 -> -9223372036854775808<=x.num/\x.num<=9223372036854775807):getP (FC x)=some x:=by
 have r:=h;simp only [TD,kB] at h;have e:oF (FC x)=x:=by
  obtain ⟨a,k,n,d,g,i⟩:=x;simp only at h hr;obtain ⟨y,z,f,m,q⟩:=h;have A:=NB.1 y;have B:=NB.1 z;have s:((atP (FC ⟨a,k,n,d,g,i⟩) 2 1:Nat):Int)=k:=by unfold FC;rw [show 2=2+0 from rfl,jC _ (rA _ _),VJ (by simp only;omega)];simp only;omega
  have t:((atP (FC ⟨a,k,n,d,g,i⟩) 0 2:Nat):Int)=a:=by unfold FC;rw [VJ (by simp only;omega)];simp only;omega
  have o:((atP (FC ⟨a,k,n,d,g,i⟩) 11 4:Nat):Int)-1=g:=by unfold FC;rw [show 11=2+(1+(8+0)) from rfl,jC _ (rA _ _),jC _ (rA _ _),jC _ (by split <;> exact rA _ _)];exact lJ m qO
  have p:((atP (FC ⟨a,k,n,d,g,i⟩) 15 4:Nat):Int)-1=i:=by unfold FC;rw [show 15=2+(1+(8+(4+0))) from rfl,jC _ (rA _ _),jC _ (rA _ _),jC _ (by split <;> exact rA _ _),jC _ (BD _)];have:=lJ (b:=[]) q qO;rwa [ZC] at this
  unfold oF;rw [s,t,o,p];simp only [P1.mk.injEq,jI,and_true];by_cases c:k<4
  · rw [gA c] at f;rw [gA c,gA c];simp only [NC] at f;refine ⟨?_,f.symm⟩;unfold FC;rw [gA c,show 3=2+(1+0) from rfl,jC _ (rA _ _),jC _ (rA _ _),VJ (by simpa using Zvr n)];exact IV (hr c)
  rw [aA c] at f;rw [aA c,aA c];simp only [kB,NC] at f;have C:=NB.1 f.2;refine ⟨f.1.symm,?_⟩;have u:beb 8 (d+1).toNat=beb 4 0++beb 4 (d+1).toNat:=by have l:∀ j,(d+1).toNat / 256 ^ (4+j)=0:=fun j=>NO (RF (show (d+1).toNat<256 ^ 4 by omega) (wK qO qO));have m:=l 0;have q:=l 1;have v:=l 2;have w:=l 3;simp only [IF] at m;simp [beb,m,q,v,w]
  unfold FC;rw [aA c];simp only;rw [u,vA,show 7=2+(1+(4+0)) from rfl,jC _ (rA _ _),jC _ (rA _ _),jC _ (rA _ _),VJ qO];omega
 unfold getP;rw [e,gA ⟨r,rfl⟩]
end
section
open Go.RowKit
structure CR (w:World) (F:Nat->Prop) (c r:Nat) (l:List UInt8) (bad:Bool):Prop where
 cod:Blk w c 237 #[.pointer none,.pointer (some ⟨r,0,none⟩),.bool bad]
 rdr:Rdr w F r ⟨l,0⟩
 fr:¬ F r
 fc:¬ F c
theorem CR.ne (h:CR w F c r l bad):c≠r:=by
 rintro rfl;obtain ⟨_,_,_,b,_⟩:=h.rdr;have a:=h.cod;unfold Blk at a b;rw [b] at a;injection a with a
 injection a with _ h2
 exact absurd h2 qD
theorem Blk.ne {g':Nat} {t':TypeId} {a:Array Value} (h:Blk w g t cs) (h':Blk w g' t' a) (ht:t≠t'):g≠g':=by
 rintro rfl;unfold Blk at h h';rw [h] at h';injection h' with h'
 injection h' with _ h2
 exact ht h2
theorem CR.same (h:CR w F c r l bad) (hu:Same w w'):CR w' F c r l bad:=⟨h.cod.same hu,h.rdr.same hu,h.fr,h.fc⟩
def outB (V low most:Int):Bool:=decide (V<low) || decide (most<=V)
theorem WJ (h:CR w F c r l bad) (width:Nat) (hw:MD width=true) (a2:width<=4) (hl:width<=l.length) {pb po:Nat} {n0:Value}
 (hp:Blk w pb t cs) (a0:cs[po]?=some n0) (ht:t≠237/\t≠285) (a1:¬ F pb) (low most:Int) (Z:Nat) (a3:Z<=1) (hV:(be (l.take width):Int)-Z=V):
 Calls Tryz.prog 169 #[.pointer (some ⟨c,0,none⟩),.int .i64 width,.pointer (some ⟨pb,po,none⟩),.int .i64 low,.int .i64 most,.int .i64 Z] w fun e w'=>e=.returned (.tuple #[]) /\
  CR w' F c r (l.drop width) (bad || outB V low most)/\Blk w' pb t (cs.setIfInBounds po (.int .i64 V))/\Upd (fun b=>b=c\/b=r\/b=pb) w w':=by
 have j:=h.ne;obtain ⟨o,E,G,s⟩:=h;have k:pb≠c:=hp.ne o ht.1;have m:pb≠r:=by obtain ⟨_,_,_,u,_⟩:=E;exact hp.ne u ht.2
 have I:po<cs.size:=(sC.1 a0).1;have z:be (l.take width)<4294967296:=by
  have A:=pG (l.take width);have x:(l.take width).length<=4:=by rw [RB];omega
  have O:256 ^ (l.take width).length<=256 ^ 4:=wK qO x;omega
 have n:RS.num ⟨l,0⟩ (width:Int)=(be (l.take width),⟨l.drop width,0⟩):=by unfold RS.num;rw [hw,QK hl]
 have y:=qH (gH E G (width:Int));rw [n] at y;have P:=o.c1;have o:=qH o;have L:=qH hp;have B:=qH a0;obtain ⟨N,H⟩:=qx (be (l.take width));rw [H] at y hV z;have R:IntKind.i64.wrap (N:Int)=(N:Int):=kF _ ⟨qO,qO⟩;have S:IntKind.i64.wrap ((N:Int)-(Z:Int))=V:=by rw [<- hV];exact kF _ ⟨qO,qO⟩
 clear hp H hV hl a0 E;go_enter Tryz.func169,Tryz.ntmps169;go_wp2_with fail;refine y.mono ?_;rintro e a ⟨rfl,v,g⟩;have C:=qH v;have D:=qH g;have d:=qH (o.upd g j);have i:=qH (L.upd g m);have T:a.cell? ⟨pb,po,none⟩=some n0:=by rw [i.cell];exact B
 have U:a.frozen? ⟨pb,po,none⟩=false:=i.frozen po;have W:=d.c2;have X:=d.c1;have Y:=d.frozen 2;clear v g y;have p:∀ q:Bool,q=(bad || outB V low most)->CR ((a.setCell ⟨pb,po,none⟩ (.int .i64 V)).setCell ⟨c,2,none⟩ (.bool q)) F c r (l.drop width) (bad || outB V low most) /\
  Blk ((a.setCell ⟨pb,po,none⟩ (.int .i64 V)).setCell ⟨c,2,none⟩ (.bool q)) pb t (cs.setIfInBounds po (.int .i64 V))/\Upd (fun b=>b=c\/b=r\/b=pb) w ((a.setCell ⟨pb,po,none⟩ (.int .i64 V)).setCell ⟨c,2,none⟩ (.bool q)):=by
  intro q M;subst M;have u1:Upd (fun b=>b=pb) a (a.setCell ⟨pb,po,none⟩ (.int .i64 V)):=(eA _ a).put1 _;have u2:Upd (fun b=>b=c) (a.setCell ⟨pb,po,none⟩ (.int .i64 V)) ((a.setCell ⟨pb,po,none⟩ (.int .i64 V)).setCell ⟨c,2,none⟩ (.bool (bad || outB V low most))):=(eA _ _).put1 _;refine ⟨⟨(d.far (JF k) _).put 2 _,(C.upd u1 (JF m) fun b u h=>a1 (h ▸ u)).upd u2 (JF j) fun b u h=>s (h ▸ u),G,s⟩,(i.put po _).far k _,?_⟩;exact ((D.mono (S':=fun b=>b=c\/b=r\/b=pb) fun _ _ h=>.inr (.inl h)).trans u1 fun _ _ h=>.inr (.inr h)).trans u2 fun _ _ h=>.inl h
 have f:=qH p;clear p;go_upto_region 2 with fail;cases bad
 · by_cases A:V<low
   · go_wp2;go_end0;exact ⟨rfl,f.out _ (by simp [outB,A])⟩
   by_cases x:most<=V
   · go_wp2;go_end0;exact ⟨rfl,f.out _ (by simp [outB,x])⟩
   go_wp2;go_end0;exact ⟨rfl,f.out _ (by simp [outB,A,x])⟩
 go_wp2;go_end0;exact ⟨rfl,f.out _ qS⟩
section
variable {w:World} {F:Nat->Prop} {c r g po:Nat} {l:List UInt8} {bad:Bool} {t:TypeId} {cs:Array Value} {n0:Value}
theorem RH (h:CR w F c r l bad) (hl:4<=l.length) (hp:Blk w g t cs) (j:cs[po]?=some n0) (ht:t≠237/\t≠285) (k:¬ F g) (most:Int) (hV:(be (l.take 4):Int)-1=V):
 Calls Tryz.prog 152 #[.pointer (some ⟨c,0,none⟩),.pointer (some ⟨g,po,none⟩),.int .i64 most] w fun e w'=>e=.returned (.tuple #[]) /\
  CR w' F c r (l.drop 4) (bad || outB V (-1) most)/\Blk w' g t (cs.setIfInBounds po (.int .i64 V))/\Upd (fun b=>b=c\/b=r\/b=g) w w':=by
 have d:=qH (WJ h 4 rfl qO hl hp j ht k (-1) most 1 (lA _) hV);clear h hp j ht k hV hl;go_enter Tryz.func152,Tryz.ntmps152;go_wp2_with fail;refine d.mono ?_;rintro e i ⟨rfl,a⟩;have f:=qH a;clear a;go_wp2;go_end0;exact ⟨rfl,f⟩
theorem VW (h:CR w F c r l bad) (hl:2<=l.length) (hp:Blk w g t cs) (j:cs[po]?=some n0) (ht:t≠237/\t≠285) (k:¬ F g) (hV:(be (l.take 2):Int)=V):
 Calls Tryz.prog 155 #[.pointer (some ⟨c,0,none⟩),.pointer (some ⟨g,po,none⟩)] w fun e w'=>e=.returned (.tuple #[]) /\
  CR w' F c r (l.drop 2) (bad || outB V 0 200)/\Blk w' g t (cs.setIfInBounds po (.int .i64 V))/\Upd (fun b=>b=c\/b=r\/b=g) w w':=by
 have d:=qH (WJ h 2 rfl qO hl hp j ht k 0 200 0 qO (V:=V) (by rw [<- hV];simp));clear h hp j ht k hV hl;go_enter Tryz.func155,Tryz.ntmps155;go_wp2_with fail;refine d.mono ?_;rintro e i ⟨rfl,a⟩;have f:=qH a;clear a;go_wp2;go_end0;exact ⟨rfl,f⟩
end
def gQ (cs:Array Value):List Nat->List UInt8->Array Value
 | [],_=>cs
 | o::os,l=>gQ (cs.setIfInBounds o (.int .i64 ((be (l.take 4):Int)-1))) os (l.drop 4)
def badN (most:Int) (bad:Bool):List Nat->List UInt8->Bool
 | [],_=>bad
 | _::os,l=>badN most (bad || outB ((be (l.take 4):Int)-1) (-1) most) os (l.drop 4)
theorem Zql (h:CR w F c r l bad) (hl:16<=l.length) (hp:Blk w g 124 cs) (a1:cs.size=9) (a0:¬ F g):
 Calls Tryz.prog 156 #[.pointer (some ⟨c,0,none⟩),.pointer (some ⟨g,0,none⟩)] w fun e w'=>e=.returned (.tuple #[]) /\
  CR w' F c r (l.drop 16) (badN 2048 bad [3,5,4,6] l)/\Blk w' g 124 (gQ cs [3,5,4,6] l)/\Upd (fun b=>b=c\/b=r\/b=g) w w':=by
 have s:=qH h;have t:=qH hp;have E:=h.cod.lt;have G:=hp.lt;have H:=qH h.rdr.lt;clear h hp;go_enter Tryz.func156,Tryz.ntmps156;have u:=((iA w).alloc (.cells #[.pointer (some ⟨g,3,none⟩),.pointer (some ⟨g,5,none⟩),.pointer (some ⟨g,4,none⟩),.pointer (some ⟨g,6,none⟩)] 176)).drew;have v:Hid (Blk (w.alloc (.cells #[.pointer (some ⟨g,3,none⟩),.pointer (some ⟨g,5,none⟩),.pointer (some ⟨g,4,none⟩),.pointer (some ⟨g,6,none⟩)] 176)).drew w.heap.size 176 #[.pointer (some ⟨g,3,none⟩),.pointer (some ⟨g,5,none⟩),.pointer (some ⟨g,4,none⟩),.pointer (some ⟨g,6,none⟩)]):=qH (jA w _ _);have m:=qH u;clear u;go_upto_region 0 with fail;go_region;generalize World.drew (w.alloc (.cells #[.pointer (some ⟨g,3,none⟩),.pointer (some ⟨g,5,none⟩),.pointer (some ⟨g,4,none⟩),.pointer (some ⟨g,6,none⟩)] 176))=wA at *;generalize w.heap.size=z at *;have n:(176:TypeId)≠237/\124≠237/\124≠285:=qD;have I:r<z:=H.out;have o:¬ (z=c\/z=r\/z=g):=qO;have d:=v;have L:=qH (s.same m);have M:=qH (t.same m);have N:=qH (m.mono (S':=fun b=>b=c\/b=r\/b=g) qe);clear s t m v;go_wp2_with fail;refine wp_loop_rounds 5 ?_;have O:=d.c0;rw [UE];go_wp2_with fail;refine (RH L (by first | omega | (simp only [QA];omega)) M (LL (by first | omega | (simp only [GJ];omega))) n.2 a0 2048 rfl).mono ?_;rintro e w1 ⟨rfl,x,y,u1⟩;have f:=qH (d.upd u1 o);have P:=qH x;have P1:=qH y;have R:=qH (N.trans u1 qf);clear x y u1 O;go_wp2_with fail;have S:=f.c1;rw [UE];go_wp2_with fail;refine (RH P (by first | omega | (simp only [QA];omega)) P1 (LL (by first | omega | (simp only [GJ];omega))) n.2 a0 2048 rfl).mono ?_;rintro e w2 ⟨rfl,A,B,u2⟩;have i:=qH (f.upd u2 o);have T:=qH A;have U:=qH B;have V:=qH (R.trans u2 qf);clear A B u2 S;go_wp2_with fail;have W:=i.c2;rw [UE];go_wp2_with fail;refine (RH T (by first | omega | (simp only [QA];omega)) U (LL (by first | omega | (simp only [GJ];omega))) n.2 a0 2048 rfl).mono ?_;rintro e w3 ⟨rfl,C,D,u3⟩;have p:=qH (i.upd u3 o);have X:=qH C;have Y:=qH D;have Z:=qH (V.trans u3 qf);clear C D u3 W;go_wp2_with fail;have t3:=p.c3;rw [UE];go_wp2_with fail;refine (RH X (by first | omega | (simp only [QA];omega)) Y (LL (by first | omega | (simp only [GJ];omega))) n.2 a0 2048 rfl).mono ?_;rintro e w4 ⟨rfl,j,k,u4⟩;have H4:=qH j;have P4:=qH k;have U4:=qH (Z.trans u4 qf);clear j k u4 t3;go_wp2_with fail;rw [UE];go_wp2;go_end0;have q:∀ a b:Nat,(l.drop a).drop b=l.drop (a+b):=fun a b=>dD;have j:=H4.out;have k:=P4.out;simp only [q] at j k;exact ⟨rfl,by simpa only [badN,q] using j,by simpa only [gQ,q] using k,U4⟩
theorem ZN (V low most:Int):outB V low most=!inP V low most:=by unfold outB inP;by_cases a:V<low <;> by_cases b:most<=V <;> simp [a,b] <;> omega
def R1.cells (x:R1):Array Value:=#[.bool x.link.live,.int .i64 x.link.src,.int .i64 x.link.dst,.int .i64 x.link.sprev,.int .i64 x.link.dprev,.int .i64 x.link.snext,.int .i64 x.link.dnext,.int .i64 x.type,.int .i64 x.prop]
def N1.cellsV (x:N1) (v:Value):Array Value:=#[.int .i64 x.rel,.int .i64 x.prop,v]
def P1.cells (x:P1):Array Value:=#[.int .i64 x.key,.int .i64 x.kind,.int .i64 x.num,.int .i64 x.blob,.int .i64 x.prev,.int .i64 x.next]
theorem ZtN (h:CR w F c r l bad) (hl:8<=l.length) (hp:Blk w g 124 cs) (x:cs.size=9) (v:¬ F g):
 Calls Tryz.prog 154 #[.pointer (some ⟨c,0,none⟩),.pointer (some ⟨g,0,none⟩)] w fun e w'=>e=.returned (.tuple #[]) /\
  CR w' F c r (l.drop 8) (bad || outB (atP l 0 4) 0 1024 || outB (atP l 4 4) 0 1024)/\Blk w' g 124 ((cs.setIfInBounds 1 (.int .i64 (atP l 0 4))).setIfInBounds 2 (.int .i64 (atP l 4 4)))/\Upd (fun b=>b=c\/b=r\/b=g) w w':=by
 have d:124≠237/\124≠285:=qD;have k:=qH h;have m:=qH hp;clear h hp;go_enter Tryz.func154,Tryz.ntmps154;go_wp2_with fail;refine (WJ k 4 rfl qO qO m.out (LL qO) d v 0 1024 0 qO (V:=(atP l 0 4:Int)) (by unfold atP;simp)).mono ?_;rintro e t ⟨rfl,f,i,u1⟩;have n:=qH f;have P1:=qH i;have o:=qH u1;clear f i u1;go_wp2_with fail;refine (WJ n 4 rfl qO (by simp only [QA];omega) P1.out (LL (by simp only [GJ];omega)) d v 0 1024 0 qO (V:=(atP l 4 4:Int)) (by unfold atP;simp)).mono ?_;rintro e u ⟨rfl,a,j,u2⟩;have p:=qH a;have q:=qH j;have s:=qH (o.trans u2 qf);clear a j u2;go_wp2;go_end0;refine ⟨rfl,?_,q,s⟩;have a:=p.out;rwa [dD] at a
theorem or8:∀ a b c d e f g h:Bool,(((((((a || b) || c) || d) || e) || f) || g) || h)=((a || (b || (d || (e || (f || g))))) || (c || h)):=qD
theorem Zvs (h:CR w F c r l false) (hl:l.length=30) (hp:Blk w g 124 #[.bool true,.int .i64 0,.int .i64 0,.int .i64 0,.int .i64 0,.int .i64 0,.int .i64 0,.int .i64 0,.int .i64 0]) (L:¬ F g):
 Calls Tryz.prog 108 #[.pointer (some ⟨c,0,none⟩),.pointer (some ⟨g,0,none⟩)] w fun e w'=>e=.returned (.tuple #[]) /\
  CR w' F c r [] (!cE (relR l))/\Blk w' g 124 (relR l).cells/\Upd (fun b=>b=c\/b=r\/b=g) w w':=by
 have k:124≠237/\124≠285:=qD;have p:=qH h;have q:=qH hp;clear h hp;go_enter Tryz.func108,Tryz.ntmps108;go_wp2_with fail;refine (ZtN p qO q.out rfl L).mono ?_;rintro e G ⟨rfl,m,f,u1⟩;simp only [zA,JA,CA] at f;have s:=qH m;have P1:=qH f;have t:=qH u1;clear m f u1;go_wp2_with fail;refine (VW (po:=7) s (by simp only [QA];omega) P1.out rfl k L rfl).mono ?_;rintro e H ⟨rfl,n,i,u2⟩;simp only [zA,JA,CA] at i;have u:=qH n;have v:=qH i;have x:=qH (t.trans u2 qf);clear n i u2;go_wp2_with fail;refine (Zql u (by simp only [QA];omega) v.out rfl L).mono ?_;rintro e I ⟨rfl,o,j,u3⟩;simp only [gQ,zA,JA,CA] at j;have y:=qH o;have z:=qH j;have A:=qH (x.trans u3 qf);clear o j u3;go_wp2_with fail;refine (RH (po:=8) y (by simp only [QA];omega) z.out rfl k L 65536 rfl).mono ?_;rintro e E ⟨rfl,a,d,u4⟩;simp only [zA,JA,CA] at d;have B:=qH a;have C:=qH d;have D:=qH (A.trans u4 qf);clear a d u4;go_wp2;go_end0;have a:=B.out;have d:=C.out;simp only [dD,Nat.reduceAdd,badN,ZN,Bool.false_or] at a d;refine ⟨rfl,?_,?_,D⟩
 · rw [show ([]:List UInt8)=l.drop 30 from (BC qO).symm];simp only [cE,AI,relR,atP,Bool.not_and] at a ⊢;refine Eq.mp (tB (CR E F c r (l.drop 30)) ?_) a;exact or8 _ _ _ _ _ _ _ _
 simpa only [R1.cells,relR,atP] using d
theorem mJ {w:Nat} (h:i+w<=l.length):beb w (atP l i w)=(l.drop i).take w:=by refine SP (by rw [RB,QA];omega) ?_;unfold atP;refine OI ?_;have:=pG ((l.drop i).take w);rwa [RB,QA,IJ qO] at this
theorem nJ (h:i+4<=l.length):ptrB ((atP l i 4:Int)-1)=(l.drop i).take 4:=by unfold ptrB;rw [UR,XB,mJ h]
theorem kT {w:Nat} (h:i+w<=l.length):atP l i w<256 ^ w:=by have:=pG ((l.drop i).take w);rwa [RB,QA,IJ qO] at this
theorem PG (l:List UInt8) (i a b:Nat):(l.drop i).take (a+b)=(l.drop i).take a++(l.drop (i+a)).take b:=by rw [List.take_add,dD]
theorem Zww (hl:l.length=30):relB (relR l)=l:=by
 unfold relB relR;simp only [XB];rw [mJ qO,mJ qO,mJ qO,nJ qO,nJ qO,nJ qO,nJ qO,nJ qO];have e:l=(l.drop 0).take 30:=by rw [TF,cB qO]
 conv=>rhs;rw [e,show 30=4+(4+(2+(4+(4+(4+(4+4)))))) from rfl,PG,PG,PG,PG,PG,PG,PG]
theorem WW (hl:l.length=30):getR l=if cE (relR l)=true then some (relR l) else none:=by unfold getR;rw [Zww hl];simp
theorem XW {m:Nat} (hm:m<4294967296):beb 8 m=beb 4 0++beb 4 m:=by have a:∀ j,m / 256 ^ (4+j)=0:=fun j=>NO (RF (show m<256 ^ 4 by omega) (wK qO qO));have b:=a 0;have c:=a 1;have d:=a 2;have e:=a 3;simp only [IF] at b;simp [beb,b,c,d,e]
theorem YW (hl:l.length=19):getP l=if TD (oF l)=true/\((atP l 2 1:Int)<4\/atP l 3 4=0) then some (oF l) else none:=by
 have e:l=(l.drop 0).take 2++((l.drop 2).take 1++((l.drop 3).take 8++((l.drop 11).take 4++(l.drop 15).take 4))):=by
  have e:l=(l.drop 0).take 19:=by rw [TF,cB qO]
  conv=>lhs;rw [e,show 19=2+(1+(8+(4+4))) from rfl,PG,PG,PG,PG]
 have d:FC (oF l)=l↔((atP l 2 1:Int)<4\/atP l 3 4=0):=by
  unfold FC oF;simp only [XB];rw [mJ qO,mJ qO,nJ qO,nJ qO];by_cases a:(atP l 2 1:Int)<4
  · rw [gA a,gA a,LV (kT qO),mJ qO];exact ⟨fun _=>.inl a,fun _=>e.symm⟩
  rw [aA a,aA a,UR,XB,XW (kT (l:=l) (i:=7) (w:=4) qO),mJ qO];have c:(l.drop 3).take 8=(l.drop 3).take 4++(l.drop 7).take 4:=PG l 3 4 4;constructor
  · intro h;right
    conv at h=>rhs;rw [e,c]
    have f:=iP (iP h);have b:=List.append_inj_left (by simpa only [vA] using f) (by simp only [rA,RB,QA];omega);unfold atP;rw [<- b];rfl
  rintro (h | h)
  · exact absurd h a
  have b:beb 4 0=(l.drop 3).take 4:=by rw [<- h,mJ qO]
  rw [b,<-c];exact e.symm
 unfold getP;simp only [d]
end
end Go.Proofs.YtmkjfhnlnhceiaaGreatDoor
