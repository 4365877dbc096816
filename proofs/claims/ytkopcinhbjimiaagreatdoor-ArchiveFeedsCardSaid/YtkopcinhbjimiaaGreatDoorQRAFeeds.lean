/- Texts that the claim leans on: walks and plain laws, function by function. -/
import Derived.Test.YtkopcinhbjimiaaGreatDoorTie
import Derived.Test.YtkopcinhbjimiaaGreatDoorCards
import Derived.SevenTiedAt
import Derived.Test.YtkopcinhbjimiaaGreatDoorQ38
set_option maxRecDepth 100000
set_option maxHeartbeats 16000000
namespace Go.Proofs.YtkopcinhbjimiaaGreatDoor
open Go.RowKit
theorem Zlh {A:Option Addr} {n c r:Nat} {a0 a1 a2 a3 a4 a5 a6:Value} {er:Int} (w:World) (h:Blk w r 97 #[a0,a1,a2,a3,a4,a5,a6,.int .i64 er]) (hne:er≠0) :
 Calls Tryz.prog 24 #[.pointer (some ⟨r,0,none⟩),.slice A n c] w fun e w'=>e=.returned (.int .i64 er)/\w=w':=by
 have p7:w.cell? ⟨r,7,none⟩=some (.int .i64 er):=h.cell 7
 have n0:(er != 0)=true:=by rw [bne_iff_ne];exact hne
 clear h hne
 go_enter Tryz.func24,Tryz.ntmps24
 go_wp2
 go_ret
 exact ⟨rfl,rfl⟩
def Zfa (bs:List UInt8):Int:=match fedP bs with
 | .error e=>e
 | .ok _=>0
theorem Zod {l:List UInt8} {e:Int} (h:oneP l=.error e):e≠10:=by
 unfold oneP at h
 split at h
 · cases h
 split at h
 · injection h with h;omega
 split at h
 · cases h
 split at h
 · injection h with h;omega
 cases h
theorem ZjV (n:Nat):∀ l:List UInt8,l.length<=n->(Zab l).2.2≠10:=by
 induction n with
 | zero =>
   intro l h
   obtain rfl:l=[]:=List.length_eq_zero_iff.1 (by omega)
   rw [Zbf]
   decide
 | succ n ih =>
   intro l h
   cases hx:oneP l with
   | error e=>rw [Zbs hx];exact Zod hx
   | ok o =>
     cases o with
     | none=>rw [ZaN hx];exact fun h=>by cases h
     | some p =>
       obtain ⟨f,r⟩:=p
       have:=Zii hx
       rw [ZaG hx]
       exact ih r (by omega)
theorem ZmH {s:PSt} {f:GFr} {e:Int} (h:Zav s f=.error e):e≠10:=by
 unfold Zav at h
 repeat' split at h
 all_goals first
  | cases h;done
  | (injection h with h;omega)
theorem Zhj:∀ (fs:List GFr) (s:PSt) {e:Int},Zat fs s=.error e->e≠10
 | [],s,e,h=>by simp only [Zat] at h;cases h
 | f::fs,s,e,h=>by
   simp only [Zat] at h
   cases hx:Zav s f with
   | error e'=>rw [hx] at h;injection h with h;rw [<- h];exact ZmH hx
   | ok s1=>rw [hx] at h;exact Zhj fs s1 h
theorem Zoe {b:List UInt8} {e:Int} (h:fedP b=.error e):e≠10:=by
 unfold fedP at h
 split at h
 · injection h with h;omega
 split at h
 · cases h
 split at h
 · injection h with h;omega
 cases hx:Zat (Zab (b.drop 8)).1 ⟨0,noG,Zau⟩ with
 | error e'=>rw [hx] at h;injection h with h;rw [<- h];exact Zhj _ _ hx
 | ok s =>
   rw [hx] at h
   simp only at h
   split at h
   · split at h
     · injection h with h;omega
     cases h
   split at h
   · injection h with h;rw [<- h];exact ZjV _ _ (Nat.le_refl _)
   cases h
theorem ZjW {bs:List UInt8} (h:bs.length<=16777216):Zfa bs=match Zbo bs with
 | .error e=>if e=10 then 0 else e
 | .ok _=>0:=by
 rw [ZgJ h]
 unfold Zfa
 cases hf:fedP bs with
 | error e =>
   simp only [Zkm]
   rw [if_neg (Zoe hf)]
 | ok s =>
   simp only [Zkm]
   by_cases h3:s.state=3
   · rw [if_pos h3]
   rw [if_neg h3]
   simp
theorem Zli {F:Nat->Prop} {A:Option Addr} {n c:Nat} {bs:List UInt8} (w:World) (hb:Bytes w F A n c bs) :
 Calls Tryz.prog 25 #[.slice A n c] w fun e w'=>e=.returned (.int .i64 (Zfa bs))/\Same w w':=by
 have HY:=qH hb
 have HL:=qH hb.len
 have hmx:=Row.max hb
 have hle:=Row.le hb
 unfold maxLen at hmx
 generalize hq:Zfa bs=q
 have HQ:=qH hq
 clear hb hq
 go_enter Tryz.func25,Tryz.ntmps25
 by_cases hn:(16777216:Int)<(n:Int)
 case pos =>
  have HQQ:Hid (q=1):=qH (by rw [<- HQ.out];unfold Zfa;rw [Zda (by rw [HL.out];omega)])
  go_wp2
  go_ret
  rw [HQQ.out]
  exact ⟨rfl,Upd.refl _ _⟩
 have HR:=qH (ZjW (bs:=bs) (by rw [HL.out];omega))
 go_wp2_with fail
 refine (Zhh w HY.out (by omega)).mono ?_
 rintro e w2 ⟨⟨ns,A1,n1,m1,rs,A2,n2,m2⟩,er,rfl,-,hok,her,hs2⟩
 have hs3:=hs2.alloc (.cells #[.slice A1 n1 m1,.slice A2 n2 m2] 26)
 have HS3:=qH hs3
 by_cases he:er=10
 · have q0:(er==10)=true:=by rw [beq_iff_eq];exact he
   have HQQ:Hid (q=0):=qH (by rw [<- HQ.out,HR.out,her (by omega)];simp only;rw [if_pos he])
   clear hok her he hs2 hs3
   go_wp2
   go_ret
   rw [HQQ.out]
   exact ⟨rfl,HS3.out⟩
 have q0:(er==10)=false:=by rw [beq_eq_false_iff_ne];exact he
 have HQQ:Hid (q=er):=qH (by
  by_cases h0:er=0
  · rw [<- HQ.out,HR.out,hok h0]
    exact h0.symm
  rw [<- HQ.out,HR.out,her h0]
  simp only
  rw [if_neg he])
 clear hok her he hs2 hs3
 go_wp2
 go_ret
 rw [HQQ.out]
 exact ⟨rfl,HS3.out⟩
end Go.Proofs.YtkopcinhbjimiaaGreatDoor
namespace Go.Proofs.YtkopcinhbjimiaaGreatDoor
open Go.ChangeShapes Go.WideShapes Go.ChangeAt Go.RowKit
theorem Zof:Tryz.prog.bytesOf 3=8:=by kernel_rfl
theorem Zog:Tryz.prog.cellsOf 3=1:=by kernel_rfl
theorem Zlj {H:Type} {enc:TypeId×Value->H} {W:World} {base:Nat} {v:Value} {d:DataW H} {p:List MemPlace} (hv:Value.okWide Tryz.prog W .any base 59 v) (h:DataW.Trod enc Tryz.prog W 0 (fun _=>true) true 59 v d p)
 (hsz:∀ m∈d.weights Tryz.prog 59,m<=reachBytes) :
 ∃ (A:Option Addr) (n c:Nat) (xs:List Int),v=.slice A n c/\Row W (fun b=>b<W.heap.size) 1 A n c (xs.map (Value.int .i64))/\n*8<=140737488351232:=by
 have hv':Cell.okWide Tryz.prog W .any base 59 v:=by
  simp only [Value.okWide,Tryz.underlying59] at hv
  exact hv
 obtain ⟨a,len,cap,rfl⟩:=okWide_slice Tryz.underlying59 hv
 obtain ⟨fuel,hf⟩:=h
 obtain ⟨A,n,c,xs,hx,q1,q2,q3⟩:=Zjj (y:=(d,p)) Tryz.underlying59 Tryz.underlying3 Zog hv' hf
 have h3:=q3 hsz
 rw [Zof] at h3
 exact ⟨A,n,c,xs,hx,q1,by unfold reachBytes at h3;omega⟩
theorem Zql (c:Int):∃ q:Nat,q<=255/\bits BinOp.and IntKind.i64 c 255=(q:Int):=by
 refine ⟨(BitVec.ofInt 64 c &&& 255#64).toNat,?_,?_⟩
 · rw [BitVec.toNat_and]
   exact Nat.and_le_right
 show IntKind.i64.wrap ((BitVec.ofInt 64 c &&& BitVec.ofInt 64 255).toNat:Int)=_
 have h:(BitVec.ofInt 64 c &&& 255#64).toNat<=255:=by
  rw [BitVec.toNat_and]
  exact Nat.and_le_right
 have e:BitVec.ofInt 64 255=255#64:=by decide
 rw [e,IntKind.wrap_i64]
 omega
theorem AOk.upd8 {w w':World} {B r fr d:Nat} {vf v1 v2:Value} {gr:GR} {fed:Nat} {b:List UInt8} {s:PSt} {g:Nat} (h:AOk w B r fr d vf v1 v2 gr fed b s) (hu:Upd (fun b=>b=g) w w') (hg:OfT w 5 g) (h1:vf.ownBlock≠some g) (h2:v1.ownBlock≠some g):AOk w' B r fr d vf v1 v2 gr fed b s:=by
 have ne:∀ {k:Nat} {t:TypeId} {cs:Array Value},Blk w k t cs->t≠5->¬ k=g:=fun hb ht e=>ht (by subst e;exact OfT.ne (w:=w) ⟨_,hb⟩ hg)
 refine ⟨⟨h.ard.br,h.ard.bd,h.ard.blk.upd hu (ne h.ard.blk (by decide)),h.ard.fin.upd hu (ne h.ard.fin.blk (by decide)) (fun k hk e=>by subst e;exact h2 hk) (fun k hk e=>by subst e;exact absurd (OfT.ne (Zbi h.ard.fin.oready hk) hg) (by decide)) (by simp),Blk.upd h.ard.dig hu (ne h.ard.dig (by decide)),Zai h.ard.fst hu (fun k hk e=>by subst e;exact h1 hk),h.ard.own.upd3 hu fun k e=>by subst e;exact .inr (.inr (.inl hg)),h.ard.ne⟩,h.dat,h.ok⟩
structure FdI (bs:List UInt8) (B r:Nat) (p:Nat) (wrong:Int) (w:World):Prop where
 le:p<=bs.length
 st:(wrong=0/\∃ (fr d:Nat) (vf v1 v2:Value) (gr:GR) (s:PSt),AOk w B r fr d vf v1 v2 gr (bs.take p).length (bs.take p) s) \/
  (wrong≠0/\B<=r/\∃ a0 a1 a2 a3 a4 a5 a6:Value,Blk w r 97 #[a0,a1,a2,a3,a4,a5,a6,.int .i64 wrong])
theorem FdI.same {bs:List UInt8} {B r p:Nat} {er:Int} {w w':World} (h:FdI bs B r p er w) (hs:Same w w'):FdI bs B r p er w':=⟨h.le,by
 rcases h.st with ⟨h0,fr,d,vf,v1,v2,gr,s,hA⟩ | ⟨h0,hb,a0,a1,a2,a3,a4,a5,a6,hK⟩
 · exact .inl ⟨h0,fr,d,vf,v1,v2,gr,s,hA.same hs⟩
 exact .inr ⟨h0,hb,a0,a1,a2,a3,a4,a5,a6,hK.same hs⟩⟩
theorem Zqm {bs:List UInt8} {B r p t:Nat} {wrong:Int} {wr w3:World} {A10:Option Addr} {c10:Nat} (hI:FdI bs B r p wrong wr) (hs:Same wr w3) (hO:OwnB w3 wr.heap.size (.slice A10 t c10) ((bs.drop p).take t)) (ht:p+t<=bs.length) (hN:Nib w3) (hNB:1<B) :
 Calls Tryz.prog 24 #[.pointer (some ⟨r,0,none⟩),.slice A10 t c10] w3 fun e w'=>∃ er,e=.returned (.int .i64 er)/\Upd (fun b=>B<=b) w3 w'/\Hid (OwnB w' wr.heap.size (.slice A10 t c10) ((bs.drop p).take t))/\Hid (er=if wrong≠0 then wrong else Zfa (bs.take (p+t))) /\
  Hid (∀ w'',Upd (fun b=>A10=some ⟨b,0,none⟩) w' w''->FdI bs B r (p+t) er w''):=by
 have hty:∀ {w:World},OwnB w wr.heap.size (.slice A10 t c10) ((bs.drop p).take t)->∀ g,A10=some ⟨g,0,none⟩->OfT w 5 g:=fun h g hg=>Zap h (by rw [hg];rfl)
 rcases hI.st with ⟨rfl,fr,d,vf,v1,v2,gr,s,hA⟩ | ⟨hw0,hBr,a0,a1,a2,a3,a4,a5,a6,hK⟩
 · have hA3:=qH hA
   have hln:((bs.drop p).take t).length=t:=by rw [List.length_take,List.length_drop];omega
   have hby:Bytes w3 (TyB w3 wr.heap.size) A10 t c10 ((bs.drop p).take t):=Row.mono (ZaB hln hO) fun b hl hb=>⟨hb.2,hl,by
    obtain ⟨cs,h1⟩:=hty hO b hb.1
    exact ⟨cs,_,h1⟩⟩
   refine (ZdM w3 (hA.same hs) hby (fun g hg=>hA.fresh hg) hN hNB).mono ?_
   rintro e w' ⟨hu,h⟩
   have hbw:(bs.take p)++(bs.drop p).take t=bs.take (p+t):=by rw [List.take_add]
   rw [hbw] at h
   have hOn:OwnB w' wr.heap.size (.slice A10 t c10) ((bs.drop p).take t):=Zai hO hu fun g hg hh=>hA.fresh (by
    have h1:=hO.lt g hg
    obtain ⟨cs,h2⟩:=Zap hO hg
    exact ⟨h1.1,h1.2,cs,_,h2⟩) hh
   have hU:Upd (fun b=>B<=b) w3 w':=hu.mono fun b _ hh=>hA.ge hh
   rcases h with ⟨er,a0,a1,a2,a3,a4,a5,a6,hne,hf,rfl,hK⟩ | ⟨s',vf',v1',v2',gr',rfl,hA',hown⟩
   · refine ⟨er,rfl,hU,qH hOn,qH ?_,qH fun w'' hu2=>⟨ht,.inr ⟨hne,hA.ard.br,a0,a1,a2,a3,a4,a5,a6,hK.upd hu2 fun e=>absurd (OfT.ne (hty hOn _ e) ⟨_,hK⟩) (by decide)⟩⟩⟩
     rw [if_neg (by simp)]
     unfold Zfa
     rw [hf]
   refine ⟨0,rfl,hU,qH hOn,qH ?_,qH fun w'' hu2=>⟨ht,.inl ⟨rfl,fr,d,vf',v1',v2',gr',s',?_⟩⟩⟩
   · rw [if_neg (by simp)]
     unfold Zfa
     rw [hA'.ok]
   cases hA10:A10 with
   | none =>
     rw [hA10] at hu2
     exact hA'.same (hu2.mono fun b _ e=>by cases e)
   | some a =>
     have hf0:∃ g,a=⟨g,0,none⟩/\wr.heap.size<=g/\g<w3.heap.size:=by
      rcases hO.2 with ⟨hv,_⟩ | ⟨g,cap,cur,hv,hb,hg,_⟩
      · injection hv with h1
        rw [hA10] at h1
        cases h1
      injection hv with h1
      rw [hA10] at h1
      injection h1 with h1
      exact ⟨g,h1,hb,(Array.getElem?_eq_some_iff.1 hg).1⟩
     obtain ⟨g,rfl,hg1,hg2⟩:=hf0
     have hold:¬ (vf.ownBlock=some g\/v1.ownBlock=some g\/v2.ownBlock=some g):=by
      rintro (h1 | h1 | h1)
      · have:=(hA.ard.fst.lt g h1).2;omega
      · have:=(Off.lt hA.ard.fin.orest g h1).2;omega
      have:=(Off.lt hA.ard.fin.oready g h1).2;omega
     have hn:∀ v,(v=vf'\/v=v1')->v.ownBlock≠some g:=fun v hv hh=>by
      rcases hown g (by rcases hv with rfl | rfl;exact .inl hh;exact .inr (.inl hh)) with h1 | h1
      · exact hold h1
      omega
     refine hA'.upd8 (g:=g) (hu2.mono fun b _ e=>by rw [hA10] at e;injection e with e;injection e with e;exact e.symm) (hty hOn g hA10) (hn _ (.inl rfl)) (hn _ (.inr rfl))
 refine (Zlh w3 (hK.same hs) hw0).mono ?_
 rintro e w' ⟨rfl,rfl⟩
 refine ⟨wrong,rfl,Upd.refl _ _,qH hO,qH (by rw [if_pos hw0]),qH fun w'' hu2=>⟨ht,.inr ⟨hw0,hBr,a0,a1,a2,a3,a4,a5,a6,(hK.same hs).upd hu2 fun e=>absurd (OfT.ne (hty hO _ e) ⟨_,hK.same hs⟩) (by decide)⟩⟩⟩
theorem Zpi {bs:List UInt8} {B r p:Nat} {er:Int} (w:World) (hI:FdI bs B r p er w) :
 Calls Tryz.prog 26 #[.pointer (some ⟨r,0,none⟩)] w (ZhY (if er≠0 then er else (Zcv (bs.take p)).1) (if er≠0 then noG else (Zcv (bs.take p)).2) w):=by
 rcases hI.st with ⟨rfl,fr,d,vf,v1,v2,gr,s,hA⟩ | ⟨hw0,hBr,a0,a1,a2,a3,a4,a5,a6,hK⟩
 · rw [if_neg (by simp),if_neg (by simp)]
   have h1:Zcv (bs.take p)=ansP s:=by
    unfold Zcv
    rw [hA.ok]
   rw [h1]
   exact ZeY w hA
 rw [if_pos hw0,if_pos hw0]
 exact ZfW w hK hw0
theorem ZfC {F F':Nat->Prop} (w:World) (hN:Nib w) {A:Option Addr} {n c:Nat} {bs:List UInt8} (h:Bytes w F A n c bs) (hz:n<=140737488351232) {AC:Option Addr} {nC cC:Nat} {xs:List Int} (hC:Row w F' 1 AC nC cC (xs.map (Value.int .i64))) (hzC:nC*8<=140737488351232) :
 Calls Tryz.prog 7 #[.slice A n c,.slice AC nC cC] w fun e w'=>e=.returned (.bool true)/\Same w w':=by
 have HB:=qH (h.mono (F':=fun b=>b<w.heap.size) fun _ hb _=>hb)
 have HC:=qH (hC.mono (F':=fun b=>b<w.heap.size) fun _ hb _=>hb)
 have HN:=qH hN
 have HL:=qH h.len
 have HXL:Hid (xs.length=nC):=qH (by have:=hC.len;simpa using this)
 have hmx:=Row.max h
 have hle:=Row.le h
 unfold maxLen at hmx
 clear h hN hC
 go_enter Tryz.func7,Tryz.ntmps7
 go_wp2_with fail
 refine (ZfX w HN.out).mono ?_
 rintro e w1 ⟨rfl,hs1⟩
 have HS1:=qH hs1
 clear hs1
 go_wp2_with fail
 refine (ZeA w1).mono ?_
 rintro e w2 ⟨r,fr,d,rfl,hA2,hs2⟩
 have HS2:=qH (HS1.out.trans hs2 fun _ _ f=>f)
 have HI2:Hid (FdI bs w1.heap.size r 0 0 w2):=qH ⟨Nat.zero_le _,.inl ⟨rfl,_,_,_,_,_,_,_,hA2⟩⟩
 have HBZ:=qH (show w.heap.size<=w1.heap.size from HS1.out.size)
 have HNB:=qH (show 1<w1.heap.size by have h1:=HN.1;have:=HS1.out.size;omega)
 clear hA2 hs2
 generalize w1.heap.size=B at *
 go_wp2_with fail
 go_loopg [6,7,8] (nC+1) (fun gh s6 s7 s8 wr=>∃ (i p:Nat) (wrong:Int),nC+1-i=gh/\i<=nC+1/\s8=.int .i64 (i:Int)/\s6=.int .i64 (p:Int)/\s7=.int .i64 wrong/\Hid (Same w wr)/\Hid (FdI bs B r p wrong wr))
 case atStart=>exact ⟨0,0,0,rfl,Nat.zero_le _,rfl,rfl,rfl,HS2,HI2⟩
 clear HI2 HS2
 obtain ⟨i,p,wrong,rfl,hi,rfl,rfl,rfl,KS,KI⟩:=hrel
 by_cases hin:i<=nC
 case neg =>
  obtain rfl:i=nC+1:=by omega
  have jn:¬ ((nC+1:Nat):Int)<=(nC:Int):=by omega
  have jn2:¬ (nC:Int)+1<=(nC:Int):=by omega
  go_wp2_with fail
  go_ret
  exact ⟨rfl,KS.out⟩
 have j1:(i:Int)<=(nC:Int):=by omega
 have hpn:p<=n:=by have:=KI.out.le;have:=HL.out;omega
 obtain ⟨np,hnp⟩:∃ np,n-p=np:=⟨_,rfl⟩
 have hwn:IntKind.i64.wrap ((n:Int)-(p:Int))=(np:Int):=by rw [IntKind.wrap_i64];omega
 have hBw:B<=wr.heap.size:=by
  rcases KI.out.st with ⟨_,fr,d,vf,v1,v2,gr,s,hA⟩ | ⟨_,hb,a0,a1,a2,a3,a4,a5,a6,hK⟩
  · have:=hA.ard.br;have:=hA.ard.blk.lt;omega
  have:=hK.lt;omega
 go_upto_if 34 with fail
 go_cut [9] from 31 to 97 (fun s9 wx=>∃ t:Nat,t<=np/\s9=.int .i64 (t:Int)/\wx=wr)
 case first =>
  by_cases hic:i<nC
  · have j2:(i:Int)<(nC:Int):=by omega
    obtain ⟨b,o,u,rfl,hb,hbF,hu,hcc⟩:=(HC.out.same KS.out).at_ hic
    obtain ⟨x,hx,rfl⟩:∃ x,xs[i]?=some x/\Value.int .i64 x=u:=by simpa using hu
    obtain ⟨q,hq,hand⟩:=Zql x
    obtain ⟨t,ht⟩:∃ t,min q np=t:=⟨_,rfl⟩
    have hmin:min (q:Int) (np:Int)=(t:Int):=by omega
    go_wp2
    go_meet
    exact ⟨t,by omega,rfl,rfl⟩
  have j2:¬ (i:Int)<(nC:Int):=by omega
  go_wp2
  go_meet
  exact ⟨np,Nat.le_refl _,rfl,rfl⟩
 obtain ⟨t,ht1,rfl,hwc⟩:=hcut
 obtain rfl:wr=wc:=hwc.symm
 obtain ⟨e,he⟩:∃ e,p+t=e:=⟨_,rfl⟩
 have hwe:IntKind.i64.wrap ((p:Int)+(t:Int))=(e:Int):=by rw [IntKind.wrap_i64];omega
 have hpe:(p:Int)<=(e:Int):=by omega
 have hec:(e:Int)<=(c:Int):=by omega
 have het:e-p=t:=by omega
 have HCut:=qH ((HB.out.same KS.out).cut (j:=p) (m:=e) (by omega) (by omega))
 rw [het] at HCut
 go_upto_region 13 with fail
 go_cut [10] from 42 to 97 (fun s10 wx=>∃ A10 c10,s10=.slice A10 t c10/\Hid (OwnB wx wr.heap.size (.slice A10 t c10) ((bs.drop p).take t))/\Hid (Same wr wx))
 case first =>
  have hlt:((bs.drop p).take t).length=t:=by rw [List.length_take,List.length_drop];have:=HL.out;omega
  have HFin:Hid (∀ (e:Ending) (w':World),(∃ v',e=.returned v'/\OwnB w' wr.heap.size v' ((bs.drop p).take t)/\Same wr w')->∃ A10 c10,e=.returned (.slice A10 t c10)/\Hid (OwnB w' wr.heap.size (.slice A10 t c10) ((bs.drop p).take t))/\Hid (Same wr w')):=qH fun e w' h=>by
   obtain ⟨v',h1,h2,h3⟩:=h
   obtain ⟨A',c',rfl⟩:=Zad h2
   rw [hlt] at h1 h2
   exact ⟨A',c',h1,qH h2,qH h3⟩
  clear hlt
  go_wp2_with fail
  · obtain rfl:c=p:=by first | assumption | omega
    have h3:=HCut.out
    rw [if_pos rfl,Nat.sub_self] at h3
    refine (ZdN wr h3 (by omega)).mono ?_
    rintro x w' hx
    obtain ⟨A10,c10,rfl,h1,h2⟩:=HFin.out _ _ hx
    clear h3
    go_wp2
    go_meet
    exact ⟨A10,c10,rfl,h1,h2⟩
  have h3:=HCut.out
  rw [if_neg (by assumption)] at h3
  refine (ZdN wr h3 (by omega)).mono ?_
  rintro x w' hx
  obtain ⟨A10,c10,rfl,h1,h2⟩:=HFin.out _ _ hx
  clear h3
  go_wp2
  go_meet
  exact ⟨A10,c10,rfl,h1,h2⟩
 obtain ⟨A10,c10,rfl,HO3,HS3⟩:=hcut
 obtain ⟨w3,rfl⟩:∃ w3:World,w3=wc:=⟨_,rfl⟩
 have HFd:=qH (Zqm KI.out HS3.out HO3.out (by have:=HL.out;omega) ((HN.out.same KS.out).same HS3.out) HNB.out)
 rw [he] at HFd
 go_wp2_with fail
 refine HFd.out.mono ?_
 rintro x w4 ⟨er,rfl,hu4,HO4,HE4,HI4⟩
 have HS4:Hid (Same w w4):=qH ((KS.out.trans HS3.out fun _ _ f=>f).trans hu4 fun b hb hh=>by have:=HBZ.out;omega)
 clear hu4
 go_wp2_with fail
 go_loopg [12,54] t (fun gh s12 s54 wx=>∃ k:Nat,t-k=gh/\k<=t/\s54=.int .i64 (k:Int)/\Hid (Upd (fun b=>A10=some ⟨b,0,none⟩) w4 wx)/\Hid (∀ g,A10=some ⟨g,0,none⟩->∃ cs,Blk wx g 5 cs/\t<=cs.size))
 case atStart =>
  refine ⟨0,rfl,Nat.zero_le _,rfl,qH (Upd.refl _ _),qH fun g hg=>?_⟩
  rcases HO4.2 with ⟨hv,_⟩ | ⟨g',cap,cur,hv,hb,hg',hcc,hcm,hsz,_⟩
  · injection hv with h1
    rw [hg] at h1
    cases h1
  injection hv with h1 h2
  rw [hg] at h1
  injection h1 with h1
  injection h1 with h1
  subst h1
  refine ⟨cur,hg',?_⟩
  rw [hsz]
  have:((bs.drop p).take t).length=t:=by rw [List.length_take,List.length_drop];have:=HL.out;omega
  omega
 obtain ⟨k,rfl,hk,rfl,LU,LB⟩:=hrel
 by_cases hkt:k<t
 case pos =>
  have l1:(k:Int)<(t:Int):=by omega
  have hwk:IntKind.i64.wrap ((k:Int)+1)=((k+1:Nat):Int):=by rw [IntKind.wrap_i64];omega
  have hnn:∃ g,A10=some ⟨g,0,none⟩:=by
   rcases HO4.2 with ⟨hv,h0⟩ | ⟨g',cap,cur,hv,_⟩
   · have:((bs.drop p).take t).length=t:=by rw [List.length_take,List.length_drop];have:=HL.out;omega
     omega
   injection hv with h1
   exact ⟨g',h1⟩
  obtain ⟨gI,rfl⟩:=hnn
  obtain ⟨cs,hcs,hsz⟩:=LB.out gI rfl
  obtain ⟨v,hv⟩:∃ v,cs[k]?=some v:=⟨_,Array.getElem?_eq_getElem (by omega)⟩
  have hck:wr.cell? ⟨gI,k,none⟩=some v:=by rw [hcs.cell k];exact hv
  have hfk:=hcs.frozen k
  have LU2:Hid (Upd (fun b=>(some (⟨gI,0,none⟩:Addr))=some ⟨b,0,none⟩) w4 (wr.setCell ⟨gI,k,none⟩ (.int .u8 238))):=qH (LU.out.put rfl _)
  have LB2:Hid (∀ g,(some (⟨gI,0,none⟩:Addr))=some ⟨g,0,none⟩->∃ cs,Blk (wr.setCell ⟨gI,k,none⟩ (.int .u8 238)) g 5 cs/\t<=cs.size):=qH fun g hg=>by
   injection hg with hg
   injection hg with hg
   subst hg
   exact ⟨_,hcs.put k _,by simpa using hsz⟩
  go_wp2_with fail
  go_roundg (t-(k+1))
  case measure=>omega
  case rel=>exact ⟨k+1,rfl,by omega,by go_num,LU2,LB2⟩
 obtain rfl:k=t:=by omega
 have ln:¬ (k:Int)<(k:Int):=by omega
 have HI5:=qH (HI4.out wr LU.out)
 have HS5:Hid (Same w wr):=qH (HS4.out.trans LU.out fun b hb hh=>by
  have h1:=HO4.out.lt b (by rw [hh];rfl)
  have:=HBZ.out
  omega)
 have hen:e<=n:=by omega
 have HHd:=qH ((HB.out.same HS5.out).head (m:=e) hen)
 have HE5:Hid (wrong=0->er=Zfa (bs.take e)):=qH fun h0=>by rw [HE4.out,if_neg (by simp [h0])]
 have HE6:Hid (wrong≠0->er=wrong):=qH fun h0=>by rw [HE4.out,if_pos h0]
 clear LB LU HI4 HE4 HO4 HO3 HCut HFd HS4
 go_upto_if 65 with fail
 go_cut [7] from 61 to 97 (fun s7 wx=>s7=.int .i64 er/\Hid (Same wr wx))
 case first =>
  by_cases hw0:wrong=0
  · have h1:=HE5.out hw0
    subst hw0
    have HWr:=qH (Zli wr HHd.out)
    rw [<- h1] at HWr
    clear h1
    go_wp2_with fail
    refine HWr.out.mono ?_
    rintro x w' ⟨rfl,hs'⟩
    have HS':=qH hs'
    clear hs'
    go_wp2
    go_meet
    exact ⟨rfl,HS'⟩
  have H1:=qH (HE6.out hw0)
  have hz0:(wrong==0)=false:=by rw [beq_eq_false_iff_ne];exact hw0
  go_wp2
  go_meet
  exact ⟨by rw [H1.out],qH (Upd.refl _ _)⟩
 obtain ⟨rfl,HS6⟩:=hcut
 obtain ⟨w6,rfl⟩:∃ w6:World,w6=wc:=⟨_,rfl⟩
 have hI6:FdI bs B r e er w6:=HI5.out.same HS6.out
 have HG6:=qH (Zpi w6 hI6)
 have HI6:=qH hI6
 have HS7:=qH (HS5.out.trans HS6.out fun _ _ f=>f)
 have HHd6:=qH (HHd.out.same HS6.out)
 have jne:(er != er)=false:=by simp
 have HHZ:=qH (show w.heap.size<=w6.heap.size from HS7.out.size)
 clear hI6 HE5 HE6
 by_cases her:er=0
 case pos =>
  subst her
  obtain ⟨m,G,hR⟩:∃ m G,Zcv (bs.take e)=(m,G):=⟨_,_,rfl⟩
  rw [if_neg (by simp),if_neg (by simp),hR] at HG6
  have jm:(m != m)=false:=by simp
  have HRd:=qH hR
  clear hR
  go_wp2_with fail
  refine HG6.out.mono ?_
  rintro x w7 ⟨⟨ns,AN,nN,cN,rs,AR,nR,cR⟩,rfl,hD7,hO7,hs7⟩
  simp only at hD7 ⊢
  have sA:=(Upd.refl (fun _=>False) w7).alloc (.cells #[.slice AN nN cN,.slice AR nR cR] 26)
  have HB8:=qH (Blk.new w7 26 #[.slice AN nN cN,.slice AR nR cR])
  have HO8:=qH (hO7.same sA)
  have HS8:=qH (HS7.out.trans (hs7.trans sA fun _ _ f=>f) fun _ _ f=>f)
  have HH8:=qH (HHd6.out.same (hs7.trans sA fun _ _ f=>f))
  have HU8:=qH (hs7.trans sA fun _ _ f=>f)
  have HD7:=qH hD7
  have hz67:=hs7.size
  clear hD7 hO7 hs7 sA
  go_upto_region 26 with fail
  generalize w7.alloc (.cells #[.slice AN nN cN,.slice AR nR cR] 26)=w8 at *
  generalize w7.heap.size=g8 at *
  go_wp2_with fail
  refine (ZfB w8 HH8.out).mono ?_
  rw [HRd.out]
  rintro x w9 ⟨⟨ns',AN',nN',cN',rs',AR',nR',cR'⟩,rfl,hD9,hO9,hs9⟩
  simp only at hD9 ⊢
  have sB:=(Upd.refl (fun _=>False) w9).alloc (.cells #[.slice AN' nN' cN',.slice AR' nR' cR'] 26)
  have hsB:Same w8 _:=hs9.trans sB fun _ _ f=>f
  have HBx:=qH (Blk.new w9 26 #[.slice AN' nN' cN',.slice AR' nR' cR'])
  have HBy:=qH (HB8.out.same hsB)
  have HOx:=qH (hO9.same sB)
  have HOy:=qH (HO8.out.same hsB)
  have HSx:=qH (HS8.out.trans hsB fun _ _ f=>f)
  have HUx:=qH (HU8.out.trans hsB fun _ _ f=>f)
  have HD9:=qH hD9
  have hzz:=hsB.size
  have hgg:g8<w9.heap.size:=by have:=HB8.out.lt;have:=hs9.size;omega
  clear hD9 hO9 hs9 sB hsB
  go_upto_region 27 with fail
  generalize w9.alloc (.cells #[.slice AN' nN' cN',.slice AR' nR' cR'] 26)=wx at *
  generalize w9.heap.size=g9 at *
  have d0:wx.cell? ⟨g8,0,none⟩=some (.slice AN nN cN):=HBy.out.cell 0
  have d1:wx.cell? ⟨g8,1,none⟩=some (.slice AR nR cR):=HBy.out.cell 1
  have c0:wx.cell? ⟨g9,0,none⟩=some (.slice AN' nN' cN'):=HBx.out.cell 0
  have c1:wx.cell? ⟨g9,1,none⟩=some (.slice AR' nR' cR'):=HBx.out.cell 1
  have HSG:=qH (Zev wx ⟨ns,AN,nN,cN,rs,AR,nR,cR⟩ ⟨ns',AN',nN',cN',rs',AR',nR',cR'⟩ HOy.out.rd HOx.out.rd ((ZgC _ _).2 (HD7.out.trans HD9.out.symm)))
  go_wp2_with fail
  refine HSG.out.mono ?_
  rintro x wz ⟨rfl,hsz⟩
  have HSz:=qH (HSx.out.trans hsz fun _ _ f=>f)
  have HUz:=qH (HUx.out.trans hsz fun _ _ f=>f)
  clear hsz
  have HIz:=qH (HI6.out.same HUz.out)
  clear HSx HUx
  go_wp2_with fail
  go_roundg (nC+1-(i+1))
  case measure=>omega
  case rel=>exact ⟨i+1,e,0,rfl,by omega,by go_num,rfl,rfl,HSz,HIz⟩
 rw [if_pos her,if_pos her] at HG6
 obtain ⟨m,G,hR⟩:∃ m G,Zcv (bs.take e)=(m,G):=⟨_,_,rfl⟩
 have nz:(er != 0)=true:=by rw [bne_iff_ne];exact her
 have HRd:=qH hR
 clear hR
 go_wp2_with fail
 refine HG6.out.mono ?_
 rintro x w7 ⟨⟨ns,AN,nN,cN,rs,AR,nR,cR⟩,rfl,hD7,hO7,hs7⟩
 simp only at hD7 ⊢
 have sA:=(Upd.refl (fun _=>False) w7).alloc (.cells #[.slice AN nN cN,.slice AR nR cR] 26)
 have HB8:=qH (Blk.new w7 26 #[.slice AN nN cN,.slice AR nR cR])
 have HO8:=qH (hO7.same sA)
 have HS8:=qH (HS7.out.trans (hs7.trans sA fun _ _ f=>f) fun _ _ f=>f)
 have HH8:=qH (HHd6.out.same (hs7.trans sA fun _ _ f=>f))
 have HU8:=qH (hs7.trans sA fun _ _ f=>f)
 have HD7:=qH hD7
 have hz67:=hs7.size
 clear hD7 hO7 hs7 sA
 go_upto_region 26 with fail
 generalize w7.alloc (.cells #[.slice AN nN cN,.slice AR nR cR] 26)=w8 at *
 generalize w7.heap.size=g8 at *
 go_wp2_with fail
 refine (ZfB w8 HH8.out).mono ?_
 rw [HRd.out]
 rintro x w9 ⟨⟨ns',AN',nN',cN',rs',AR',nR',cR'⟩,rfl,hD9,hO9,hs9⟩
 simp only at hD9 ⊢
 have sB:=(Upd.refl (fun _=>False) w9).alloc (.cells #[.slice AN' nN' cN',.slice AR' nR' cR'] 26)
 have hsB:Same w8 _:=hs9.trans sB fun _ _ f=>f
 have HBx:=qH (Blk.new w9 26 #[.slice AN' nN' cN',.slice AR' nR' cR'])
 have HBy:=qH (HB8.out.same hsB)
 have HOx:=qH (hO9.same sB)
 have HOy:=qH (HO8.out.same hsB)
 have HSx:=qH (HS8.out.trans hsB fun _ _ f=>f)
 have HUx:=qH (HU8.out.trans hsB fun _ _ f=>f)
 have HD9:=qH hD9
 have hzz:=hsB.size
 have hgg:g8<w9.heap.size:=by have:=HB8.out.lt;have:=hs9.size;omega
 clear hD9 hO9 hs9 sB hsB
 go_upto_region 27 with fail
 generalize w9.alloc (.cells #[.slice AN' nN' cN',.slice AR' nR' cR'] 26)=wx at *
 generalize w9.heap.size=g9 at *
 have d0:wx.cell? ⟨g8,0,none⟩=some (.slice AN nN cN):=HBy.out.cell 0
 have d1:wx.cell? ⟨g8,1,none⟩=some (.slice AR nR cR):=HBy.out.cell 1
 have c0:wx.cell? ⟨g9,0,none⟩=some (.slice AN' nN' cN'):=HBx.out.cell 0
 have c1:wx.cell? ⟨g9,1,none⟩=some (.slice AR' nR' cR'):=HBx.out.cell 1
 have f0:=HBx.out.frozen 0
 have f1:=HBx.out.frozen 1
 have HBw:Hid (Blk ((wx.setCell ⟨g9,0,none⟩ (.slice none 0 0)).setCell ⟨g9,1,none⟩ (.slice none 0 0)) g9 26 #[.slice none 0 0,.slice none 0 0]):=qH ((HBx.out.put 0 _).put 1 _)
 have hUw:=((Upd.refl (fun b=>b=g9) wx).put1 (i:=0) (.slice none 0 0)).put1 (i:=1) (.slice none 0 0)
 have HBv:=qH (HBy.out.upd hUw (by omega))
 have HOv:=qH (HOy.out.ofGr hUw fun b _ e=>e ▸ ⟨_,HBx.out⟩)
 have HSw:Hid (Same w ((wx.setCell ⟨g9,0,none⟩ (.slice none 0 0)).setCell ⟨g9,1,none⟩ (.slice none 0 0))):=qH (HSx.out.trans hUw fun b hb e=>by have:=HHZ.out;omega)
 have HUw:Hid (Same w6 ((wx.setCell ⟨g9,0,none⟩ (.slice none 0 0)).setCell ⟨g9,1,none⟩ (.slice none 0 0))):=qH (HUx.out.trans hUw fun b hb e=>by omega)
 clear hUw
 go_upto_region 29 with fail
 clear d0 d1 c0 c1 f0 f1
 generalize (wx.setCell ⟨g9,0,none⟩ (.slice none 0 0)).setCell ⟨g9,1,none⟩ (.slice none 0 0)=wv at *
 have d0:wv.cell? ⟨g8,0,none⟩=some (.slice AN nN cN):=HBv.out.cell 0
 have d1:wv.cell? ⟨g8,1,none⟩=some (.slice AR nR cR):=HBv.out.cell 1
 have c0:wv.cell? ⟨g9,0,none⟩=some (.slice none 0 0):=HBw.out.cell 0
 have c1:wv.cell? ⟨g9,1,none⟩=some (.slice none 0 0):=HBw.out.cell 1
 have HSG:=qH (Zev wv ⟨ns,AN,nN,cN,rs,AR,nR,cR⟩ ⟨[],none,0,0,[],none,0,0⟩ HOv.out.rd (Zpp wv) ((ZgC _ _).2 HD7.out))
 go_wp2_with fail
 refine HSG.out.mono ?_
 rintro x wz ⟨rfl,hsz⟩
 have HSz:=qH (HSw.out.trans hsz fun _ _ f=>f)
 have HUz:=qH (HUw.out.trans hsz fun _ _ f=>f)
 clear hsz
 have HIz:=qH (HI6.out.same HUz.out)
 clear HSx HUx
 go_wp2_with fail
 go_roundg (nC+1-(i+1))
 case measure=>omega
 case rel=>exact ⟨i+1,e,er,rfl,by omega,by go_num,rfl,rfl,HSz,HIz⟩
theorem ZeB (os:Os) (started:os.Started) (H:Type) (enc:TypeId×Value->H) :
 ReturnsInHanded {} Tryz.checked os 7 .any (fun w args=>(Rows.archiveFeedsSpec.pre enc Tryz.prog Tryz.f7 [] false w args/\laidMetH Tryz.prog ZjU w)/\sizedMet enc Tryz.prog Tryz.f7 (OpenSpec.ofChange Rows.archiveFeedsSpec) false w args)
  (Rows.archiveFeedsSpec.post enc Tryz.prog Tryz.f7 false true false false):=by
 refine returnsInHanded_of_change_and (C:=Tryz.checked) (X:=fun w _=>laidMetH Tryz.prog ZjU w) (fun _ _ _ hh h=>h.of_heap hh) Zpm started (by kernel_rfl) Tryz.func7
  (ChangeSpec.witness_shaped (enc:=enc) (C:=Tryz.checked) (os:=os) (X:=fun w _=>laidMetH Tryz.prog ZjU w) false (World.doorLaid Tryz.prog 400 os) #[.slice none 0 0,.slice none 0 0] 8 rfl (World.shaped_of_RefB (by kernel_rfl) (by kernel_rfl)) (by kernel_rfl) (by kernel_rfl) (by kernel_rfl) (ZlZ os _)) ?_
 intro W base args ds gs before hval hW _ hsz hL _
 obtain ⟨p,hA⟩:=ZhH (P:=Tryz.prog) (ts:=[28,59]) (by rw [Tryz.params7]) hW
 obtain ⟨v0,v1,d0,d1,p0,p1,rfl,rfl,_,h0,h1⟩:=trodAll_two hA
 obtain ⟨A0,n0,c0,bs0,rfl,hr0,z0⟩:=ZhI (hval 0 28 v0 (by rw [Tryz.params7];rfl) rfl) h0 (Zfm hsz (j:=0) (by rw [Tryz.params7];rfl) rfl)
 obtain ⟨A1,n1,c1,xs1,rfl,hr1,z1⟩:=Zlj (hval 1 59 v1 (by rw [Tryz.params7];rfl) rfl) h1 (Zfm hsz (j:=1) (by rw [Tryz.params7];rfl) rfl)
 refine (ZfC W (Zhi hL) hr0 z0 hr1 z1).mono ?_
 rintro e W' ⟨rfl,hs⟩
 exact ⟨_,rfl,ZlC Znn (ts:=[28,59]) (by rw [Tryz.params7]) (tb:=4) (by kernel_rfl) Tryz.underlying4 (by kernel_rfl) rfl (by rintro rfl;exact ⟨rfl,rfl,rfl⟩) hW hs.below⟩
theorem ZfD:Rows.ArchiveFeedsSaid :=
 OpenClaim.holds_of_wide 7 Tryz.f7 rfl rfl rfl rfl rfl rfl rfl ⟨rfl,rfl,rfl,rfl,rfl⟩ rfl rfl rfl rfl rfl (by kernel_rfl) Tryz.func7 (by kernel_rfl)
  (of_decide_eq_true (by kernel_rfl)) (by unfold Func.isWrapper;first | (rw [if_pos (by decide +kernel)];kernel_rfl) | (rw [if_neg (by decide +kernel)];exact ⟨rfl,rfl⟩))
  (fun os started H enc _=>ZeB os started H enc)
theorem archiveFeeds_holds:Rows.ArchiveFeedsCardSaid :=
 Claim7.holds_tied_plain_at .later [] [.data] true (true, "4982e14d7e6b816143ef947475410f28ce78841f78923bc3c4f68e82710c8bf7") false
  ZfD (fun _ h=>by cases h) (by kernel_rfl) (fun _ h=>by cases h) archiveFeeds_row_tie rfl ⟨rfl,rfl⟩ (by kernel_rfl) rfl
  (fun f fn hf hfn=>by
    obtain rfl:f=7:=Option.some.inj ((show Tryz.prog.funcNamed "satchel/satchellaw20.ArchiveFeeds" = some 7 by kernel_rfl).symm.trans hf) |>.symm
    obtain rfl:fn=Tryz.f7:=(Option.some.inj (Tryz.func7.symm.trans hfn)).symm
    exact ⟨by kernel_rfl,fun j t ht=>by
     rw [Tryz.params7] at ht
     have hm:t∈[28,59]:=by simpa using Array.mem_of_getElem? ht
     have hall:([28,59].all fun u=>!Tryz.prog.wantsStandIn u)=true:=by kernel_rfl
     exact (show Tryz.prog.wantsStandIn t=false by simpa using List.all_eq_true.1 hall t hm)⟩)
  (by kernel_rfl)
end Go.Proofs.YtkopcinhbjimiaaGreatDoor
