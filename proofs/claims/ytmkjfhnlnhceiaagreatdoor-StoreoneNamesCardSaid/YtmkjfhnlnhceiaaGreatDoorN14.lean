/- Texts that the claim leans on: walks and plain laws, function by function. -/
import Derived.Deep.CutBlock
import Derived.Test.YtmkjfhnlnhceiaaGreatDoorRows
import Derived.ProofKit
import Derived.LaidMore
import Derived.OpenShut
import Derived.Stop.Joined
import Derived.Test.YtmkjfhnlnhceiaaGreatDoorN09
set_option maxRecDepth 100000
set_option maxHeartbeats 16000000
namespace Go.Proofs.YtmkjfhnlnhceiaaGreatDoor
section
open Go.RowKit
structure Pre {α:Type} (p:List UInt8->Except Int (α×List UInt8)) (count:Nat) (l:List UInt8) (i:Nat) (xs:List α) (rest:List UInt8):Prop where
 le:i<=count
 len:xs.length=i
 short:rest.length<=l.length
 eq:ZbI p count l=match ZbI p (count-i) rest with
  | .error e=>.error e
  | .ok (ys,r')=>.ok (xs++ys,r')
section
variable {α:Type} {p:List UInt8->Except Int (α×List UInt8)} {count i:Nat} {l rest:List UInt8} {xs:List α}
theorem Pre.zero (p:List UInt8->Except Int (α×List UInt8)) (count:Nat) (l:List UInt8):Pre p count l 0 [] l:=by refine ⟨Yah _,rfl,Yae _,?_⟩;rw [YcF];cases ZbI p count l <;> rfl
theorem Pre.next (h:Pre p count l i xs rest) (hi:i<count) {x:α} {r2:List UInt8} (hp:p rest=.ok (x,r2)) (hs:r2.length<=rest.length):Pre p count l (i+1) (xs++[x]) r2:=by
 refine ⟨hi,by simp [h.len],Yaj hs h.short,?_⟩;rw [h.eq,show count-i=(count-(i+1))+1 from qO];simp only [ZbI,hp];cases ZbI p (count-(i+1)) r2 with
 | error e=>rfl
 | ok y=>obtain ⟨a,b⟩:=y;simp
theorem Pre.stop (h:Pre p count l i xs rest) (hi:i<count) {e:Int} (hp:p rest=.error e):ZbI p count l=.error e:=by rw [h.eq,show count-i=(count-(i+1))+1 from qO];simp only [ZbI,hp]
theorem Pre.done (h:Pre p count l i xs rest) (hi:i=count):ZbI p count l=.ok (xs,rest):=by rw [h.eq,hi,YbC];simp [ZbI]
end
theorem ZdA.ok {K:Int} {l:List UInt8} {n:Int} {s':RS} (h:ZdA K l n 0 s'):∃ r,pNum K l=.ok (n,r)/\s'=⟨r,0⟩:=by
 unfold ZdA at h;split at h
 · exact absurd rfl h.2
 rename_i m r a;obtain ⟨_,rfl,rfl⟩:=h;exact ⟨_,a,rfl⟩
theorem ZdA.err {K:Int} {l:List UInt8} {n e:Int} {s':RS} (h:ZdA K l n e s') (he:e≠0):pNum K l=.error e:=by
 unfold ZdA at h;split at h
 · rename_i b a;rw [a,h.1]
 exact absurd h.1 he
theorem ZcQ.ok {l:List UInt8} {s:ByteArray} {s':RS} (h:ZcQ l s 0 s'):∃ r,Zci l=.ok (s,r)/\s'=⟨r,0⟩:=by
 unfold ZcQ at h;split at h
 · exact absurd rfl h.2
 rename_i m r a;obtain ⟨_,rfl,rfl⟩:=h;exact ⟨_,a,rfl⟩
theorem ZcQ.err {l:List UInt8} {s:ByteArray} {e:Int} {s':RS} (h:ZcQ l s e s') (he:e≠0):Zci l=.error e:=by
 unfold ZcQ at h;split at h
 · rename_i b a;rw [a,h.1]
 exact absurd h.1 he
def ZeR (k:Int) (l:List UInt8) (B pv:Nat) (er:Int) (s':RS) (w':World):Prop :=
 match Zgb k l with
 | .error e0=>er=e0/\er≠0
 | .ok (g,r)=>er=0/\s'=⟨r,0⟩/\∃ v1 v2,Blk w' pv 51 #[.int .i64 k,.int .i64 0,.string ⟨#[]⟩,v1,v2] /\
    w'.ownsRow B 2 1 v1 g.nums.length (g.nums.map (Value.int .i64))/\w'.ownsRow B 9 1 v2 g.texts.length (g.texts.map Value.string)
theorem ZlW {w:World} {F:Nat->Prop} {r pv:Nat} {l:List UInt8} (h:Rdr w F r ⟨l,0⟩) (hF:¬ F r) (hl:l.length<=140737488355328) (kind:Int) (hk5:4<kind) (hk:kind<=8)
 (hv:Blk w pv 51 #[.int .i64 kind,.int .i64 0,.string ⟨#[]⟩,.slice none 0 0,.slice none 0 0]) (hne:pv≠r) (hFp:¬ F pv) (hFB:∀ b,F b->b<w.heap.size) :
 Calls Tryz.prog 218 #[.pointer (some ⟨r,0,none⟩),.pointer (some ⟨pv,0,none⟩)] w fun e w'=>∃ (er:Int) (s':RS),e=.returned (.int .i64 er)/\ZeR kind l w.heap.size pv er s' w'/\Rdr w' F r s'/\Upd (fun b=>b=r\/b=pv) w w':=by
 have HR:=qH h;clear h;cases hlc:l with
 | nil =>
   subst hlc;have HP:Hid (Zgb kind []=.error 10):=qH rfl;have W:=Zcb HR.out hF 1;have hx:=YeF (l:=[]) (k:=1) rfl (by simp);rw [show ((1:Nat):Int)=1 from rfl] at hx;rw [hx] at W;have HM:=qH W;clear W hx;go_enter Tryz.func218,Tryz.ntmps218;go_wp2_with fail;refine HM.mono ?_;rintro e w1 ⟨rfl,Z,T⟩;have f:=qH Z;have o:=qH (T.mono (S':=fun b=>b=r\/b=pv) fun _ _ a=>.inl a);clear Z T;go_wp2_with fail;refine (Zby f).mono ?_;rintro e w2 ⟨rfl,rfl⟩;go_wp2;go_ret;exact ⟨_,_,rfl,by unfold ZeR;rw [HP.out];exact ⟨rfl,qD⟩,f,o⟩
 | cons c l =>
   subst hlc;have HP:=qH (show Zgb kind (c::l)=if 40<c.toNat then .error 45
    else if kind=8 then match ZbI Zci c.toNat l with
     | .error e=>.error e
     | .ok (B,r)=>.ok (⟨kind,0,⟨#[]⟩,[],B⟩,r)
    else match ZbI (pNum (kind-4)) c.toNat l with
     | .error e=>.error e
     | .ok (B,r)=>.ok (⟨kind,0,⟨#[]⟩,B,[]⟩,r) from rfl)
   have W:=Zcb HR.out hF 1;have hx:=YeG (l:=c::l) (k:=1) rfl (by simp);rw [show ((1:Nat):Int)=1 from rfl] at hx;rw [hx] at W;have a2:be ((c::l).take 1)=c.toNat:=by simp [be]
   rw [a2] at W;have HM:=qH W;have hc:=c.toNat_lt;have a3:l.length<=140737488355328:=by simp at hl;omega
   clear W hx a2 hl;generalize c.toNat=N at *;by_cases X:40<N
   · have P:=qH (HP.trans (Yac X));go_enter Tryz.func218,Tryz.ntmps218;go_wp2_with fail;refine HM.mono ?_;rintro e w1 ⟨rfl,Z,T⟩;have f:=qH Z;have o:=qH (T.mono (S':=fun b=>b=r\/b=pv) fun _ _ a=>.inl a);clear Z T;go_wp2_with fail;refine (Zby f).mono ?_;rintro e w2 ⟨rfl,rfl⟩;go_wp2;go_ret;exact ⟨_,_,rfl,by unfold ZeR;rw [P.out];exact ⟨rfl,qD⟩,f,o⟩
   have P:=qH (HP.trans (Yab X));go_enter Tryz.func218,Tryz.ntmps218;go_wp2_with fail;refine HM.mono ?_;rintro e w1 ⟨rfl,Z,T⟩;have f:=qH (show Rdr w1 F r ⟨l,0⟩ from Z);have o:=qH (T.mono (S':=fun b=>b=r\/b=pv) fun _ _ a=>.inl a);have R:=hv.upd T hne;clear Z T;go_wp2_with fail;refine (Zby f).mono ?_;rintro e w2 ⟨rfl,rfl⟩;by_cases Y:kind=8
   · have C:=qH (P.trans (Yac Y));have a6:(kind==8)=true:=by simpa using Y
     have H8:=qH Y;have D:=f.lt;have E:=o.size;clear Y;go_wp2
     go_loopw [22] (fun i wr=>∃ (s:Nat) (B:List ByteArray) (rest:List UInt8) (v:Value),s<=N/\i=.int .i64 s/\Hid (Pre Zci N l s B rest)/\Hid (Rdr wr F r ⟨rest,0⟩) /\
      Hid (Blk wr pv 51 #[.int .i64 kind,.int .i64 0,.string ⟨#[]⟩,.slice none 0 0,v])/\Hid (wr.ownsRow w.heap.size 9 1 v s (B.map Value.string))/\Hid (Upd (fun b=>b=r\/b=pv) w wr)) (fun i _=>N-(intOf i).toNat)
     case atStart=>exact ⟨0,[],l,_,Yah _,rfl,qH (Pre.zero _ _ _),f,qH R,qH (YaQ _ _ _ _),o⟩
     obtain ⟨s,B,rest,v,hi,rfl,L,JR,U,JO,V⟩:=hrel;clear R f o D E;have D:=U.lt;have E:=V.size;have e0:=U.c0;by_cases G:s<N
     · have a0:=JR;have a4:rest.length<=140737488355328:=Yaj L.short a3;go_wp2_with fail;refine (ZhI a0 hF a4).mono ?_;rintro e w3 ⟨x,er,s',rfl,p,M,y⟩;have t:=qH p;have u:=qH M;have q:=qH y;have a5:=y.size;clear p M y;by_cases S:er=0
       · subst S;have j:=qH (U.upd q hne);have d:=qH (Zae JO q fun g z a=>by obtain ⟨A,n,c,O,_⟩:=JR.out;exact O.ne_own JO qD (a ▸ z))
         obtain ⟨A,m,c,rfl⟩:=ZaI d.out;have H:=qH (j.ne_own d qD);have b4:=j.c4;go_wp2_with (at_builtin;go_must (refine Zat rfl (.tmp 41) (.tmp 43) _ _ rfl w.heap.size 9 1 16 _ Tryz.underlying48 Zde rfl (.slice A m c) s _ rfl (d.alloc _) rfl (Zbg Tryz.underlying48 (Ydh _ _ _) (by simp [Value.oneCell'])) (by unfold maxLen;omega) qO (by simp;omega) ?_);intro v' w4 z;obtain ⟨A',m',c',rfl⟩:=ZaI z.own;have s1:w4.cell? ⟨pv,4,none⟩=some (.slice A m c):=(z.blk (j.alloc _) H).cell 4;have s2:w4.frozen? ⟨pv,4,none⟩=false:=(z.blk (j.alloc _) H).frozen 4;have HG:=qH z;clear z)
         go_roundw
         case rel =>
          obtain ⟨f1,f2,f3⟩:=ZbC (i:=4) j.out d.out qD ((Yaa _ w3).alloc _) HG.out;obtain ⟨r2,hp,rfl⟩:=t.ok;refine ⟨s+1,B++[x],r2,_,qO,by go_num,qH (L.next G hp (ZfO hp)),qH (u.upd f3 ?_ ?_),qH f1,qH (by rw [YaG];exact f2),qH ((V.trans (q.mono (S':=fun b=>b=r\/b=pv) fun _ _ a=>.inl a) fun _ _ a=>a).trans f3 ?_)⟩
          · rintro (a | a)
            · exact hne a.symm
            obtain ⟨A0,n0,c0,a1,_⟩:=u.out;exact a1.ne_own d qD a
          · rintro b O (a | a)
            · exact hFp (a ▸ O)
            have:=hFB b O;have:=(d.lt b a).1;omega
          rintro b O (a | a)
          · exact .inr a
          have:=(d.lt b a).1;omega
         case measure=>simp [intOf];omega
       have a7:(er != 0)=true:=by simpa using S
       have HZ:=qH S;clear S;go_wp2;go_ret;refine ⟨er,s',rfl,?_,u,V.trans (q.mono (S':=fun b=>b=r\/b=pv) fun _ _ a=>.inl a) fun _ _ a=>a⟩;unfold ZeR;rw [C.out,L.stop G (t.err HZ)];exact ⟨rfl,HZ⟩
     have I:s=N:=qO;have HD:=qH (L.done I);clear I;go_wp2;go_ret;refine ⟨0,_,rfl,?_,JR,V⟩;unfold ZeR;rw [C.out,HD.out];exact ⟨rfl,rfl,⟨.slice none 0 0,_,U,YaQ _ _ _ _,by have h1:=JO.out;rw [<- L.len] at h1;exact h1⟩⟩
   have C:=qH (P.trans (Yab Y));have a6:(kind==8)=false:=by simpa using Y
   have H8:=qH Y;have a8:=qH (show ZbM kind=kind-4 from by unfold ZbM;rw [Yac hk5]);have D:=f.lt;have E:=o.size;clear Y;go_wp2
   go_loopw [22] (fun i wr=>∃ (s:Nat) (B:List Int) (rest:List UInt8) (v:Value),s<=N/\i=.int .i64 s/\Hid (Pre (pNum (kind-4)) N l s B rest)/\Hid (Rdr wr F r ⟨rest,0⟩) /\
    Hid (Blk wr pv 51 #[.int .i64 kind,.int .i64 0,.string ⟨#[]⟩,v,.slice none 0 0])/\Hid (wr.ownsRow w.heap.size 2 1 v s (B.map (Value.int .i64)))/\Hid (Upd (fun b=>b=r\/b=pv) w wr)) (fun i _=>N-(intOf i).toNat)
   case atStart=>exact ⟨0,[],l,_,Yah _,rfl,qH (Pre.zero _ _ _),f,qH R,qH (YaQ _ _ _ _),o⟩
   obtain ⟨s,B,rest,v,hi,rfl,L,JR,U,JO,V⟩:=hrel;clear R f o D E;have D:=U.lt;have E:=V.size;have e0:=U.c0;by_cases G:s<N
   · have a0:=JR;have a4:rest.length<=140737488355328:=Yaj L.short a3;go_wp2_with fail;refine (ZiL a0 hF kind qO qO).mono ?_;rintro e w3 ⟨x,er,s',rfl,p,M,y⟩;rw [a8.out] at p;have t:=qH p;have u:=qH M;have q:=qH y;have a5:=y.size;clear p M y;by_cases S:er=0
     · subst S;have j:=qH (U.upd q hne);have d:=qH (Zae JO q fun g z a=>by obtain ⟨A,n,c,O,_⟩:=JR.out;exact O.ne_own JO qD (a ▸ z))
       obtain ⟨A,m,c,rfl⟩:=ZaI d.out;have H:=qH (j.ne_own d qD);have b3:=j.c3;go_wp2_with (at_builtin;go_must (refine Zat rfl (.tmp 63) (.tmp 65) _ _ rfl w.heap.size 2 1 8 _ Tryz.underlying49 ZoD rfl (.slice A m c) s _ rfl (d.alloc _) rfl (Zbg Tryz.underlying49 (Ydh _ _ _) (by simp [Value.oneCell'])) (by unfold maxLen;omega) qO (by simp;omega) ?_);intro v' w4 z;obtain ⟨A',m',c',rfl⟩:=ZaI z.own;have s1:w4.cell? ⟨pv,3,none⟩=some (.slice A m c):=(z.blk (j.alloc _) H).cell 3;have s2:w4.frozen? ⟨pv,3,none⟩=false:=(z.blk (j.alloc _) H).frozen 3;have HG:=qH z;clear z)
       go_roundw
       case rel =>
        obtain ⟨f1,f2,f3⟩:=ZbC (i:=3) j.out d.out qD ((Yaa _ w3).alloc _) HG.out;obtain ⟨r2,hp,rfl⟩:=t.ok;refine ⟨s+1,B++[x],r2,_,qO,by go_num,qH (L.next G hp (ZgY hp)),qH (u.upd f3 ?_ ?_),qH f1,qH (by rw [YaG];exact f2),qH ((V.trans (q.mono (S':=fun b=>b=r\/b=pv) fun _ _ a=>.inl a) fun _ _ a=>a).trans f3 ?_)⟩
        · rintro (a | a)
          · exact hne a.symm
          obtain ⟨A0,n0,c0,a1,_⟩:=u.out;exact a1.ne_own d qD a
        · rintro b O (a | a)
          · exact hFp (a ▸ O)
          have:=hFB b O;have:=(d.lt b a).1;omega
        rintro b O (a | a)
        · exact .inr a
        have:=(d.lt b a).1;omega
       case measure=>simp [intOf];omega
     have a7:(er != 0)=true:=by simpa using S
     have HZ:=qH S;clear S;go_wp2;go_ret;refine ⟨er,s',rfl,?_,u,V.trans (q.mono (S':=fun b=>b=r\/b=pv) fun _ _ a=>.inl a) fun _ _ a=>a⟩;unfold ZeR;rw [C.out,L.stop G (t.err HZ)];exact ⟨rfl,HZ⟩
   have I:s=N:=qO;have HD:=qH (L.done I);clear I;go_wp2;go_ret;refine ⟨0,_,rfl,?_,JR,V⟩;unfold ZeR;rw [C.out,HD.out];exact ⟨rfl,rfl,⟨_,.slice none 0 0,U,by have h1:=JO.out;rw [<- L.len] at h1;exact h1,YaQ _ _ _ _⟩⟩
theorem Rdr.mono {w:World} {F F':Nat->Prop} {r:Nat} {s:RS} (h:Rdr w F r s) (hf:∀ b,b<w.heap.size->F b->F' b):Rdr w F' r s:=by obtain ⟨A,n,c,a,d⟩:=h;exact ⟨A,n,c,a,d.mono hf⟩
theorem ZlX (n:Nat) (h:n<9223372036854775808):IntKind.i64.wrap (n:Int)=n:=by simp [IntKind.wrap,IntKind.bits,IntKind.signed];omega
theorem Rdr.drew {w:World} {F:Nat->Prop} {r:Nat} {s:RS} (h:Rdr w F r s):Rdr w.drew F r s:=h.same (Yaa _ w).drew
theorem Rdr.drew_put5 {w:World} {F:Nat->Prop} {r B:Nat} {s:RS} (h:Rdr w F r s) (hr:r≠B) (hf:∀ b,F b->b≠B) (u0 u1 u2 u3 u4:Value):Rdr (put5 w.drew B u0 u1 u2 u3 u4) F r s :=
 h.upd (((Yaa (fun b=>b=B) w).drew).put5 u0 u1 u2 u3 u4) hr hf
def SwRes (w:World) (F:Nat->Prop) (r pv:Nat) (l:List UInt8) (er:Int) (wx:World):Prop :=
 Same w wx/\Blk wx w.heap.size 51 #[.int .i64 0,.int .i64 0,.string ⟨#[]⟩,.slice none 0 0,.slice none 0 0] /\
 (er≠0/\pVal l=.error er\/er=0/\∃ g rest v1 v2,pVal l=.ok (g,rest)/\Rdr wx F r ⟨rest,0⟩/\Blk wx pv 51 #[.int .i64 g.kind,.int .i64 g.num,.string g.text,v1,v2] /\
   wx.ownsRow w.heap.size 2 1 v1 g.nums.length (g.nums.map (Value.int .i64))/\wx.ownsRow w.heap.size 9 1 v2 g.texts.length (g.texts.map Value.string))
theorem Zhl {tmps:Array Value} {wE:World} {B:Nat} {a0 a1 a2 a3 a4 u0 u1 u2 u3 u4:Value} {nn ee:Int} {R:Ending->World->Prop} (h2:tmps.getD 2 undef=.pointer (some ⟨B,0,none⟩)) (h3:tmps.getD 3 undef=.int .i64 nn) (h4:tmps.getD 4 undef=.int .i64 ee)
 (hb:Blk wE B 51 #[a0,a1,a2,a3,a4]) (hR:R (.returned (.tuple #[.agg #[u0,u1,u2,u3,u4],.int .i64 nn,.int .i64 ee])) (put5 wE B u0 u1 u2 u3 u4)) :
 bodyPost Tryz.prog Tryz.f197 R Exit.ret ⟨tmps,[]⟩ (put5 wE B u0 u1 u2 u3 u4):=by
 obtain ⟨a,b,c,d,e⟩:=(hb.put5 u0 u1 u2 u3 u4).five;generalize put5 wE B u0 u1 u2 u3 u4=W at *;refine YbB (v:=.tuple #[.agg #[u0,u1,u2,u3,u4],.int .i64 nn,.int .i64 ee]) ?_ rfl hR;simp only [YbZ] at h2 h3 h4;simp [results,Tryz.results197,go_sem,h2,h3,h4,a,b,c,d,e]
theorem ZnA {F:Nat->Prop} {A:Option Addr} {n c:Nat} {bs:List UInt8} (w:World) (hb:Zag w F A n c bs) (P:GVal×Nat×Int) (hP:decP (bs.take 40082)=P) :
 Calls Tryz.prog 197 #[.slice A n c] w fun e w'=>∃ v,e=.returned (.tuple #[v,.int .i64 (P.2.1:Int),.int .i64 P.2.2])/\Zgf w' w.heap.size v P.1/\Same w w':=by
 have HB:=qH hb;have HP:=qH hP;have an:=Row.le hb;have ab:=Row.max hb;unfold maxLen at ab;clear hb hP;go_enter Tryz.func197,Tryz.ntmps197;go_upto_if 12 with fail;go_cut [0] from 9 (fun x wx=>wx=w.alloc (.cells #[.int .i64 0,.int .i64 0,.string ⟨#[]⟩,.slice none 0 0,.slice none 0 0] 51)/\∃ n',x=.slice A n' c/\n'<=40082/\Hid (Zag w F A n' c (bs.take 40082)))
 case first =>
  by_cases b5:40082<n
  · go_wp2;go_meet
    case rel=>exact ⟨rfl,_,rfl,Yae _,qH (HB.head qO)⟩
  go_wp2;go_meet
  case rel=>exact ⟨rfl,_,rfl,qO,qH (by rw [YaB (by rw [HB.len];omega)];exact HB)⟩
 obtain ⟨rfl,m,rfl,hm,HX⟩:=hcut;have HL:=qH HX.len;generalize bs.take 40082=l at *;have a1:=(Yaa (fun _=>False) w).alloc (.cells #[.int .i64 0,.int .i64 0,.string ⟨#[]⟩,.slice none 0 0,.slice none 0 0] 51);have ac:=Yad w 51 #[.int .i64 0,.int .i64 0,.string ⟨#[]⟩,.slice none 0 0,.slice none 0 0];have ad:=qH (HX.same a1);clear HB an ab;go_wp2_with fail;refine (ZbG ad qO).mono ?_;rintro e w1 ⟨r,rfl,ax,hr,a6⟩;have O:=a1.same a6;have V:=ac.same a6;rw [Yav] at ax;have HR:=qH (Rdr.mono (F':=fun b=>w.heap.size+1<=b/\b≠r/\b<w1.heap.size) hr fun b ay hb=>⟨by have:=hb.1;simpa using this,hb.2,ay⟩);have bc:=hr.lt;clear a1 ac a6 ad hr;have h:=Zcb HR.out (fun X=>X.2.1 rfl) 1;cases hl:l with
 | nil =>
   subst hl;have HD:=qH (HP.symm.trans (Zgh (l:=[]) rfl));have hx:=YeF (l:=[]) (k:=1) rfl (by simp);rw [show ((1:Nat):Int)=1 from rfl] at hx;rw [hx] at h;have HN:=qH h;clear h hx HP;go_wp2_with fail;refine HN.mono ?_;rintro e G ⟨rfl,T,y⟩;have i:Same w (G.alloc (.cells #[.int .i64 0,.int .i64 0,.string ⟨#[]⟩,.slice none 0 0,.slice none 0 0] 51)):=(O.trans y fun b hb H=>qO).alloc _;have d:=(V.upd y qO).alloc (.cells #[.int .i64 0,.int .i64 0,.string ⟨#[]⟩,.slice none 0 0,.slice none 0 0] 51);have D:=qH (T.same ((Yaa _ G).alloc (.cells #[.int .i64 0,.int .i64 0,.string ⟨#[]⟩,.slice none 0 0,.slice none 0 0] 51)));clear O V y T;go_wp2_with fail;refine (Zby D).mono ?_;rintro e w3 ⟨rfl,rfl⟩;obtain ⟨b0,b1,b2,b3,b4⟩:=d.five;obtain ⟨z0,z1,z2,z3,z4⟩:=d.five_free;go_wp2;exact Zhl rfl rfl rfl d ⟨_,by rw [HD.out];rfl,by rw [HD.out];exact ⟨_,_,rfl,YaQ _ _ _ _,YaQ _ _ _ _⟩,i.trans (Upd.put5 (Yaa _ _) _ _ _ _ _) fun b hb H=>qO⟩
 | cons cc l0 =>
   subst hl;have hx:=YeG (l:=cc::l0) (k:=1) rfl (by simp);rw [show ((1:Nat):Int)=1 from rfl,show be ((cc::l0).take 1)=cc.toNat from by simp [be],List.drop_one,Yfz] at hx;rw [hx] at h;have HN:=qH h;have ae:=qH (show pVal (cc::l0)=if cc.toNat<1\/8<cc.toNat then .error 40
    else if 4<cc.toNat then Zgb cc.toNat l0
    else if cc.toNat=4 then match Zci l0 with
     | .error e=>.error e
     | .ok (s,r)=>.ok (⟨4,0,s,[],[]⟩,r)
    else match pNum cc.toNat l0 with
     | .error e=>.error e
     | .ok (n,r)=>.ok (⟨cc.toNat,n,⟨#[]⟩,[],[]⟩,r) from rfl)
   have bd:=cc.toNat_lt;have af:l0.length+1=m:=by rw [<- HL.out];rfl
   have bf:=qH af;have bg:l0.length<=40081:=qO;clear h hx af;generalize cc.toNat=N at *;go_wp2_with fail;refine HN.mono ?_;rintro e G ⟨rfl,T,y⟩;have i:Same w (G.alloc (.cells #[.int .i64 N,.int .i64 0,.string ⟨#[]⟩,.slice none 0 0,.slice none 0 0] 51)):=(O.trans y fun b hb H=>qO).alloc _;have d:=(V.upd y qO).alloc (.cells #[.int .i64 N,.int .i64 0,.string ⟨#[]⟩,.slice none 0 0,.slice none 0 0] 51);have j:=Yad G 51 #[.int .i64 N,.int .i64 0,.string ⟨#[]⟩,.slice none 0 0,.slice none 0 0];have D:=qH (T.same ((Yaa _ G).alloc (.cells #[.int .i64 N,.int .i64 0,.string ⟨#[]⟩,.slice none 0 0,.slice none 0 0] 51)));have b6:=y.size;have b7:=O.size;clear O V y T;go_wp2_with fail;refine (Zby D).mono ?_;rintro e w3 ⟨rfl,rfl⟩
   go_upto_block 0 with fail
   have b8:w.heap.size<G.heap.size:=qO;have bh:r<G.heap.size:=qO;have R:G.heap.size≠r:=qO;go_cut [8] from 9 (fun s8 wx=>∃ U:Int,s8=.int .i64 U/\Hid (SwRes w (fun b=>w.heap.size+1<=b/\b≠r/\b<w1.heap.size) r G.heap.size (cc::l0) U wx))
   case first =>
    have c0:World.cell? _ ⟨G.heap.size,0,none⟩=some (.int .i64 N):=j.cell 0;by_cases ha:N<1\/8<N
    · have HV:=qH (ae.trans (Yac ha));rcases ha with ha | ha
      · go_wp2;go_meet
        case rel=>exact ⟨40,rfl,qH ⟨i,d,.inl ⟨qD,HV⟩⟩⟩
      go_wp2;go_meet
      case rel=>exact ⟨40,rfl,qH ⟨i,d,.inl ⟨qD,HV⟩⟩⟩
    have ag:=qH (ae.trans (Yab ha));by_cases h4:4<N
    · have W:=qH (ag.trans (Yac h4));go_wp2_with fail;refine (ZlW D (fun X=>X.2.1 rfl) qO (N:Int) qO qO j R (fun X=>qt X.2.2) (fun b hb=>by simp;have:=hb.2.2;omega)).mono ?_;rintro e w4 ⟨U,s',rfl,a,z,f⟩;have p:=qH a;have S:=qH z;have q:=qH f;clear a z f;go_wp2;go_meet;refine ⟨U,rfl,qH ⟨i.trans q.out fun b hb H=>qO,d.upd q.out qO,?_⟩⟩;have u:=p.out;unfold ZeR at u;rw [W.out];split at u
      · rename_i e0 M;left;exact ⟨u.2,by rw [M,u.1]⟩
      rename_i g rest M;right;obtain ⟨rfl,rfl,v1,v2,q1,q2,q3⟩:=u;obtain ⟨t1,t2,t3⟩:=Znm M;refine ⟨rfl,g,rest,v1,v2,M,S,?_,Zac q2 (by simp;omega),Zac q3 (by simp;omega)⟩;rw [t1,t2,t3];exact q1
    have W:=qH (ag.trans (Yab h4));by_cases a2:N=4
    · have a3:=qH (W.trans (Yac a2));subst a2;obtain ⟨_,_,c2,_,_⟩:=j.five;have a4:=qH j;clear j;go_wp2_with fail;refine (ZhI D (fun X=>X.2.1 rfl) qO).mono ?_;rintro e w4 ⟨x,U,s',rfl,a,z,f⟩;have p:=qH a;have S:=qH z;have q:=qH f;have o:=a4.upd f R;have k2:=o.c2;have z2:=o.frozen 2;have a5:=qH o;clear a z f o c2;go_wp2;go_meet;have E:Upd (fun b=>b=G.heap.size) w4 (w4.setCell ⟨G.heap.size,2,none⟩ (.string x)):=(Yaa _ w4).put1 _;refine ⟨U,rfl,qH ⟨(i.trans q fun b hb H=>qO).trans E fun b hb H=>qO,(d.upd q qO).upd E qO,?_⟩⟩;have u:=p.out;unfold ZcQ at u;rw [a3.out];split at u
      · rename_i e0 M;left;exact ⟨u.2,by rw [M,u.1]⟩
      rename_i t rest M;right;obtain ⟨rfl,rfl,rfl⟩:=u;refine ⟨rfl,_,rest,_,_,by rw [M],S.upd E (fun H=>R H.symm) (fun b hb H=>qt hb.2.2),a5.put 2 _,YaQ _ _ _ _,YaQ _ _ _ _⟩
    have a3:=qH (W.trans (Yab a2));have b9:((N:Int)==4)=false:=by rw [Ybn];omega
    have a4:=qH j;clear j;go_wp2_with fail;refine (ZiL D (fun X=>X.2.1 rfl) (N:Int) qO qO).mono ?_;rintro e w4 ⟨x,U,s',rfl,a,z,f⟩;rw [show ZbM (N:Int)=N from by unfold ZbM;rw [Yab qO]] at a;have p:=qH a;have S:=qH z;have q:=qH f;have o:=a4.upd f R;have k2:=o.c1;have z2:=o.frozen 1;have a5:=qH o;clear a z f o c0;go_wp2;go_meet;have E:Upd (fun b=>b=G.heap.size) w4 (w4.setCell ⟨G.heap.size,1,none⟩ (.int .i64 x)):=(Yaa _ w4).put1 _;refine ⟨U,rfl,qH ⟨(i.trans q fun b hb H=>qO).trans E fun b hb H=>qO,(d.upd q qO).upd E qO,?_⟩⟩;have u:=p.out;unfold ZdA at u;rw [a3.out];split at u
    · rename_i e0 M;left;exact ⟨u.2,by rw [M,u.1]⟩
    rename_i t rest M;right;obtain ⟨rfl,rfl,rfl⟩:=u;refine ⟨rfl,_,rest,_,_,by rw [M],S.upd E (fun H=>R H.symm) (fun b hb H=>qt hb.2.2),a5.put 1 _,YaQ _ _ _ _,YaQ _ _ _ _⟩
   obtain ⟨U,rfl,a7⟩:=hcut;obtain ⟨I,C,a8⟩:=a7.out;rcases a8 with ⟨a0,L⟩ | ⟨rfl,g,rest,v1,v2,L,aj,ak,Y,Z⟩
   · have HD:=qH (HP.symm.trans (Zgh L));have ba:(U != 0)=true:=by simpa using a0
     obtain ⟨b0,b1,b2,b3,b4⟩:=C.five;obtain ⟨z0,z1,z2,z3,z4⟩:=C.five_free;clear d j i I L a0;go_wp2;exact Zhl rfl rfl rfl C ⟨_,by rw [HD.out];rfl,by rw [HD.out];exact ⟨_,_,rfl,YaQ _ _ _ _,YaQ _ _ _ _⟩,a7.1.trans (Upd.put5 (Yaa _ _) _ _ _ _ _) fun b hb H=>qO⟩
   have HD:=qH (HP.symm.trans (Ziu L));obtain ⟨A1,m1,q1,rfl⟩:=ZaI Y;obtain ⟨A2,m2,q2,rfl⟩:=ZaI Z;have ao:=qH (C.ne_own Y qD);have ap:=qH (C.ne_own Z qD);have aq:=qH Y;have ar:=qH Z;have ah:=qH aj;have au:=qH I;have bb:rest.length<=m:=by have h1:=ZjR L;have h2:=HL.out;omega
   obtain ⟨a9,al,aa,az,am⟩:=g;simp only at ak;clear d j i I L Y Z aj a7;obtain ⟨b0,b1,b2,b3,b4⟩:=C.five;obtain ⟨z0,z1,z2,z3,z4⟩:=C.five_free;obtain ⟨k0,k1,k2,k3,k4⟩:=ak.five;go_upto_region 17 with fail;have av:=qH ah.drew;have ai:=qH (ah.drew_put5 (B:=w.heap.size) qO (fun b hb=>qt hb.1) (.int .i64 a9) (.int .i64 al) (.string aa) (.slice A1 m1 q1) (.slice A2 m2 q2));clear D;go_region_with (go_at_call 221;first | refine (ZlP av).mono ?_ | refine (ZlP ai).mono ?_;rintro e w' ⟨rfl,rfl⟩)
   all_goals go_wp2
   all_goals have aw:=C.drew
   all_goals have hn:((m:Int)-rest.length)=(((cc::l0).length-rest.length:Nat):Int):=by rw [HL.out];omega
   all_goals have hq:(cc::l0).length-rest.length<9223372036854775808:=by rw [HL.out];omega
   all_goals exact Zhl (wE:=wc.drew) rfl rfl rfl aw ⟨_,by rw [HD.out,hn,ZlX _ hq],by rw [HD.out];exact ⟨_,_,rfl,Zae aq ((Yaa (fun b=>b=w.heap.size) wc).drew.put5 _ _ _ _ _) (fun g hg e=>ao.out (e ▸ hg)),Zae ar ((Yaa (fun b=>b=w.heap.size) wc).drew.put5 _ _ _ _ _) (fun g hg e=>ap.out (e ▸ hg))⟩,au.trans ((Yaa (fun b=>b=w.heap.size) wc).drew.put5 _ _ _ _ _) fun b hb H=>qO⟩
theorem Zgf.none (w:World) (B:Nat):Zgf w B (.agg #[.int .i64 0,.int .i64 0,.string ⟨#[]⟩,.slice none 0 0,.slice none 0 0]) ZsE :=
 ⟨_,_,rfl,YaQ _ _ _ _,YaQ _ _ _ _⟩
theorem Zhm {tmps:Array Value} {wE:World} {B:Nat} {a0 a1 a2 a3 a4 u0 u1 u2 u3 u4:Value} {ee:Int} {R:Ending->World->Prop} (h2:tmps.getD 2 undef=.pointer (some ⟨B,0,none⟩)) (h3:tmps.getD 3 undef=.int .i64 ee)
 (hb:Blk wE B 51 #[a0,a1,a2,a3,a4]) (hR:R (.returned (.tuple #[.agg #[u0,u1,u2,u3,u4],.int .i64 ee])) (put5 wE B u0 u1 u2 u3 u4)) :
 bodyPost Tryz.prog Tryz.f171 R Exit.ret ⟨tmps,[]⟩ (put5 wE B u0 u1 u2 u3 u4):=by
 obtain ⟨a,b,c,d,e⟩:=(hb.put5 u0 u1 u2 u3 u4).five;generalize put5 wE B u0 u1 u2 u3 u4=W at *;refine YbB (v:=.tuple #[.agg #[u0,u1,u2,u3,u4],.int .i64 ee]) ?_ rfl hR;simp only [YbZ] at h2 h3;simp [results,Tryz.results171,go_sem,h2,h3,a,b,c,d,e]
theorem ZnB {F:Nat->Prop} {A:Option Addr} {n c:Nat} {bs:List UInt8} (w:World) (hb:Zag w F A n c bs) (D:GVal×Int) (hD:decD n (decP (bs.take 40082))=D) :
 Calls Tryz.prog 171 #[.slice A n c] w fun e w'=>∃ v,e=.returned (.tuple #[v,.int .i64 D.2])/\Zgf w' w.heap.size v D.1/\Same w w':=by
 have HB:=qH hb;have a0:=Row.le hb;have R:=Row.max hb;unfold maxLen at R;have S:=qH hD;clear hb hD;go_enter Tryz.func171,Tryz.ntmps171;have l:=(Yaa (fun _=>False) w).alloc (.cells #[.int .i64 0,.int .i64 0,.string ⟨#[]⟩,.slice none 0 0,.slice none 0 0] 51);have r:=Yad w 51 #[.int .i64 0,.int .i64 0,.string ⟨#[]⟩,.slice none 0 0,.slice none 0 0];have X:=qH (HB.same l);go_wp2_with fail;refine (ZnA _ X _ rfl).mono ?_;rintro e Z ⟨v,rfl,⟨v1,v2,rfl,d,h⟩,i⟩;have s:=l.same i;have t:=r.same i;have T:=i.size;rw [Yav] at d h T;clear l r i;generalize decP (bs.take 40082)=P at *;obtain ⟨⟨E,G,gt,a2,a3⟩,k,er⟩:=P;simp only at d h;obtain ⟨H,I,L,rfl⟩:=ZaI d;obtain ⟨M,N,O,rfl⟩:=ZaI h;have u:=s.alloc (.cells #[.int .i64 E,.int .i64 G,.string gt,.slice H I L,.slice M N O] 51);have a:=t.alloc (.cells #[.int .i64 E,.int .i64 G,.string gt,.slice H I L,.slice M N O] 51);have x:=Yad Z 51 #[.int .i64 E,.int .i64 G,.string gt,.slice H I L,.slice M N O];have U:=(Yaa (fun _=>False) Z).alloc (.cells #[.int .i64 E,.int .i64 G,.string gt,.slice H I L,.slice M N O] 51);have m:=Zae d U fun _ _ f=>f;have o:=Zae h U fun _ _ f=>f;have y:=qH (a.ne_own m qD);have z:=qH (a.ne_own o qD);have B:=qH (Zac m (YeW _));have C:=qH (Zac o (YeW _));have V:=qH u;clear d h m o s u t U X;obtain ⟨b0,b1,b2,b3,b4⟩:=a.five;obtain ⟨z0,z1,z2,z3,z4⟩:=a.five_free;obtain ⟨k0,k1,k2,k3,k4⟩:=x.five;clear x;by_cases W:er=0
 · subst W;by_cases Y:k<n
   · have j:=qH (S.symm.trans (Yac ⟨rfl,Y⟩));go_wp2;exact Zhm rfl rfl a ⟨_,by rw [j.out],by rw [j.out];exact Zgf.none _ _,V.trans ((Yaa (fun b=>b=w.heap.size) _).put5 _ _ _ _ _) fun b hb q=>qO⟩
   have j:=qH (S.symm.trans (Yab (fun q=>Y q.2)));go_wp2;exact Zhm rfl rfl a ⟨_,by rw [j.out],by rw [j.out];exact ⟨_,_,rfl,Zae B.out ((Yaa (fun b=>b=w.heap.size) _).put5 _ _ _ _ _) (fun g p e=>y.out (e ▸ p)),Zae C ((Yaa (fun b=>b=w.heap.size) _).put5 _ _ _ _ _) (fun g p e=>z.out (e ▸ p))⟩,V.trans ((Yaa (fun b=>b=w.heap.size) _).put5 _ _ _ _ _) fun b hb q=>qO⟩
 have j:=qH (S.symm.trans (Yab (fun q=>W q.1)));have a1:(er==0)=false:=by rw [Ybn];exact W
 go_wp2;exact Zhm rfl rfl a ⟨_,by rw [j.out],by rw [j.out];exact ⟨_,_,rfl,Zae B ((Yaa (fun b=>b=w.heap.size) _).put5 _ _ _ _ _) (fun g p e=>y.out (e ▸ p)),Zae C ((Yaa (fun b=>b=w.heap.size) _).put5 _ _ _ _ _) (fun g p e=>z.out (e ▸ p))⟩,V.trans ((Yaa (fun b=>b=w.heap.size) _).put5 _ _ _ _ _) fun b hb q=>qO⟩
end
section
open Go.ChangeShapes Go.WideShapes Go.ChangeAt Go.RowKit
abbrev Zrt:List (String×DataW Unit):=[("satchel/crc.nibble", Rows.laid_satchel_crc_nibble)]
theorem Ztf (os:Os) (args:Array Value):laidMetH Tryz.prog Zrt ((World.doorLaid Tryz.prog 400 os).forCall (fun _ _=>0) ⟨#[],args,[]⟩).memory :=
 laidMetH_of_parts3 (fuel:=8) (laidMet_of_run' 8 (by kernel_rfl) (by kernel_rfl)) (by kernel_rfl) (by kernel_rfl)
theorem Zuy:∀ i:Fin 16,(match (Rows.laid_satchel_crc_nibble:DataW Unit) with | .agg l=>l[i.val]? | _=>none)=(crcT[i.val]?).map fun t=>.lit (.int .u32 (t.toNat:Int)):=fun i=>by
 obtain ⟨i,a⟩:=i;rcases i with _ | _ | _ | _ | _ | _ | _ | _ | _ | _ | _ | _ | _ | _ | _ | _ | i
 all_goals first | rfl | omega
theorem ZnC {W:World} (h:laidMetH Tryz.prog Zrt W):Nib W:=by
 rw [MakeChecks.laidMetH_plain _ _ _ (by kernel_rfl)] at h;obtain ⟨C,⟨D,E,a,F,G,H,d,l,m,n,_,_⟩,_,_⟩:=h;obtain rfl:=Yax ((show Tryz.prog.globalNamed "satchel/crc.nibble" = some 0 by kernel_rfl).symm.trans d);obtain rfl:=Yax ((show (Tryz.prog.globals[0]?).map (·.type)=some 281 by kernel_rfl).symm.trans l);obtain ⟨r,I,rfl,e,f,A,o⟩:=DataW.trod_array Tryz.underlying281 n;have v:Tryz.prog.cellsOf 197=1:=by kernel_rfl
 have j:Tryz.prog.cellsOf 281=16:=by kernel_rfl
 rw [j] at f;simp only [Ydm] at e;have b:∀ i,W.cell? ⟨0,i,none⟩=a[i]?:=fun i=>World.var?_cell d m i;have c:∀ (i:Nat) (t:BitVec 32),crcT[i]?=some t->W.cell? ⟨0,i,none⟩=some (.int .u32 (t.toNat:Int)):=fun i t s=>by
  have p:i<16:=(YaX.1 s).1;have q:=o i p;rw [v,Yeq,Yar qO] at q;obtain ⟨k,u,B,_⟩:=DataW.trod_int Tryz.underlying197 q;have g:=Zuy ⟨i,p⟩;simp only [s,Ybw] at g;have w:(Rows.laid_satchel_crc_nibble:DataW Unit)=.agg (r.map (·.1)):=e.1;rw [w] at g;simp only [Yau,Yar (show i<r.length by omega),Ybw,B,Yce,DataW.lit.injEq,Lit.int.injEq,YcW] at g;subst g;rw [b];have x:(a.toList.drop i).take 1=[a.toList[i]'(qO)]:=by rw [List.take_one,List.head?_drop,Yar qO];rfl
  rw [x] at u;have y:a.toList[i]?=some (.int .u32 (t.toNat:Int)):=by rw [Yar qO];exact YaC some (YcY u).1
  rw [<- Yen];exact y
 refine ⟨?_,c⟩;have z:=c 0 _ rfl;exact block_lt_of_cell z
end
end Go.Proofs.YtmkjfhnlnhceiaaGreatDoor
