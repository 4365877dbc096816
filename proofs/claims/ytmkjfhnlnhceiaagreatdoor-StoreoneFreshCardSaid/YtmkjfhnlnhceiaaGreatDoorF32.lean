/- Lemmas: walks and plain laws. -/
import Derived.Test.YtmkjfhnlnhceiaaGreatDoorF31
set_option maxRecDepth 100000
set_option maxHeartbeats 16000000
namespace Go.Proofs.YtmkjfhnlnhceiaaGreatDoor
variable {S F:Nat->Prop} {m b c g n:Nat} {cs tmps:Array Value} {i ee:Int} {mp mb:List Nat} {w:World} {R:Ending->World->Prop} {u0 u1 u2 u3 u4 u5 u6 u7 u8:Value} {A:Option Addr} {bs:List UInt8}
section
open Go.RowKit
attribute [local go_sem] oD
def LI (s:St1) (i:Int):Option P1:=if i<0 then none else match s.props.at_ i.toNat with | none=>none | some d=>getP d
def PrM (w:World) (m:Nat) (s:St1):Prop:=∃ cnt f,MpI w m cnt f/\∀ i:Int,f i=(LI s i).map fun x=>Value.agg x.cells
structure RdS (w0 w:World) (B p rd mP mM mB:Nat) (q:StP) (s:St1) (m1 m2 ch:Value) (mp mb:List Nat):Prop where
 st:StM w0 B p q s
 sm:Same w0 w
 lo:w0.heap.size<=mM/\w0.heap.size<=mB
 blk:Blk w rd 84 #[.pointer (some ⟨p,0,none⟩),m1,m2,.map (some mP),ch,.map (some mM),.map (some mB)]
 prop:PrM w mP s
 met:MsN w mM mp s.props.recs.length
 blob:MsN w mB mb s.blobs.recs.length
 ne:mP≠mM/\mP≠mB/\mM≠mB
 ok:∀ i d,s.props.at_ i=some d->∃ x,getP d=some x/\FB s.keys x.key≠noText
section
variable {w0 w w':World} {B p rd mP mM mB:Nat} {q:StP} {s:St1} {m1 m2 ch:Value} {mp mb mp' mb':List Nat}
theorem PrM.upd (h:PrM w m s) (hu:Upd S w w') (hs:¬ S m):PrM w' m s:=by obtain ⟨a,f,b,c⟩:=h;exact ⟨a,f,b.upd hu hs,c⟩
theorem RdS.upd (h:RdS w0 w B p rd mP mM mB q s m1 m2 ch mp mb) (hu:Upd S w w') (hS:∀ b,S b->w0.heap.size<=b/\b≠rd/\b≠mP) (hm:MsN w' mM mp' s.props.recs.length) (hb:MsN w' mB mb' s.blobs.recs.length):RdS w0 w' B p rd mP mM mB q s m1 m2 ch mp' mb' :=
 ⟨h.st,h.sm.trans hu fun b hb a=>by have:=(hS b a).1;omega,h.lo,
  h.blk.upd hu fun a=>(hS _ a).2.1 rfl,h.prop.upd hu fun a=>(hS _ a).2.2 rfl,hm,hb,h.ne,h.ok⟩
theorem RdS.same (h:RdS w0 w B p rd mP mM mB q s m1 m2 ch mp mb) (hu:Same w w'):RdS w0 w' B p rd mP mM mB q s m1 m2 ch mp mb:=h.upd hu (fun _ f=>f.elim) (h.met.same hu) (h.blob.same hu)
theorem RdS.mm (h:RdS w0 w B p rd mP mM mB q s m1 m2 ch mp mb) (hb:b=mM\/b=mB):w0.heap.size<=b/\b≠rd/\b≠mP:=by
 rcases hb with rfl | rfl
 · exact ⟨h.lo.1,h.met.ne h.blk,h.ne.1.symm⟩
 exact ⟨h.lo.2,h.blob.ne h.blk,h.ne.2.1.symm⟩
theorem RdS.stm (h:RdS w0 w B p rd mP mM mB q s m1 m2 ch mp mb):StM w B p q s:=h.st.same h.sm
theorem MsN.noBlk {N:Nat} {l:List Nat} (h:MsN w m l N) (e:b=m) {t:TypeId} (hb:Blk w b t cs):False:=h.ne hb e.symm
theorem xC.map {v:Value} {ps:List PR} (h:xC w B v ps) (hu:Upd S w w') (hS:∀ b,S b->∀ (t:TypeId) (cs:Array Value),Blk w b t cs->False):xC w' B v ps :=
 ⟨GA h.row hu fun g a c=>by obtain ⟨cs,d⟩:=LA h.row a;exact hS g c _ _ d,fun x e=>(h.each x e).upd hu (fun g c a=>by obtain ⟨cs,d⟩:=LA (h.each x e).nums a;exact hS g c _ _ d) (fun g c a=>by obtain ⟨cs,d⟩:=LA (h.each x e).texts a;exact hS g c _ _ d)⟩
end
theorem YZ:Tryz.prog.underlying 82=some (.map 3 145):=Tryz.underlying82
theorem ZwT (w:World):(zeroValue 145).run Tryz.prog w=.ok (.agg #[.int .i64 0,.int .i64 0,.int .i64 0,.int .i64 0,.int .i64 0,.int .i64 0]) w:=qK
def LstR (s:St1) (head:Int) (mp mb:List Nat) (w:World) (mM mB:Nat) (e:Ending) (w':World):Prop :=
 Upd (fun b=>b=mM\/b=mB) w w'/\match MB s 16 [] (-1) head mp mb with
 | .error er=>e=cF er
 | .ok (l,mp',mb')=>MsN w' mM mp' s.props.recs.length/\MsN w' mB mb' s.blobs.recs.length/\∃ A c ps,e=.returned (.slice A l.length c)/\xC w' w.heap.size (.slice A l.length c) ps/\ps.map PR.dat=l
abbrev MU (rd p tk xb:Nat) (x:P1) (wx:World):Prop:=wx.cell? ⟨rd,0,none⟩=some (.pointer (some ⟨p,0,none⟩))/\wx.cell? ⟨p,2,none⟩=some (.pointer (some ⟨tk,0,none⟩)) /\
 wx.cell? ⟨xb,0,none⟩=some (.int .i64 x.key)/\wx.cell? ⟨xb,1,none⟩=some (.int .i64 x.kind)/\wx.cell? ⟨xb,2,none⟩=some (.int .i64 x.num)/\wx.cell? ⟨xb,3,none⟩=some (.int .i64 x.blob)/\wx.cell? ⟨xb,4,none⟩=some (.int .i64 x.prev)/\wx.cell? ⟨xb,5,none⟩=some (.int .i64 x.next)
theorem ZuF {s:St1} {had:List Int} {last:Int} (hok:∀ i d,s.props.at_ i=some d->∃ x,getP d=some x/\FB s.keys x.key≠noText):tJ s had last i mp mb=match LI s i with
 | none=>.error 3
 | some x=>if i.toNat∈mp\/x.prev≠last then .error 101 else if x.key∈had then .error 7 else match val1 s x mb with
   | .error e=>.error e
   | .ok (v,mb)=>.ok (x,v,mb):=by
 unfold tJ LI;by_cases a:i<0
 · rw [gA a,gA a]
 rw [aA a,aA a];cases hd:s.props.at_ i.toNat with
 | none=>rfl
 | some d =>
   obtain ⟨x,b,_⟩:=hok _ _ hd;simp only [b];split
   · rfl
   split
   · rfl
   rcases val1 s x mb with e | ⟨v,c⟩ <;> rfl
theorem ZuG {s:St1} {x:P1} (h:LI s i=some x):0<=i/\∃ d,s.props.at_ i.toNat=some d/\getP d=some x:=by
 unfold LI at h;split at h
 · cases h
 split at h
 · cases h
 rename_i b d a;exact ⟨qO,d,a,h⟩
theorem at_lt {f:YA} {i:Nat} {d:List UInt8} (h:f.at_ i=some d):i<f.recs.length:=uJ (EI.2 ⟨d,h⟩)
theorem ZnC (w0 w:World) {B p rd mP mM mB:Nat} {q:StP} {s:St1} {m1 m2 ch:Value} {br cj:List Nat} (h:RdS w0 w B p rd mP mM mB q s m1 m2 ch br cj) (head:Int) (ck : -1<=head/\head<65536):
 Calls Tryz.prog 77 #[.pointer (some ⟨rd,0,none⟩),.int .i64 head] w (LstR s head br cj w mM mB):=by
 obtain ⟨OR,ag⟩:=qx (LstR s head br cj w mM mB);have a0:Hid (∀ er W,MB s 16 [] (-1) head br cj=.error er->Upd (fun b=>b=mM\/b=mB) w W->OR (cF er) W):=qH fun er W Y h2=>by rw [<- ag];unfold LstR;rw [Y];exact ⟨h2,rfl⟩
 have bw:Hid (∀ l ax ac W A c ps,MB s 16 [] (-1) head br cj=.ok (l,ax,ac)->Upd (fun b=>b=mM\/b=mB) w W->MsN W mM ax s.props.recs.length->MsN W mB ac s.blobs.recs.length->xC W w.heap.size (.slice A l.length c) ps->ps.map PR.dat=l->OR (.returned (.slice A l.length c)) W):=qH fun l ax ac W A c ps Y h2 h3 h4 h5 h6=>by rw [<- ag];unfold LstR;rw [Y];exact ⟨h2,h3,h4,A,c,ps,rfl,h5,h6⟩
 rw [ag];clear ag;have H0:=qH h;have b5:Hid (LsI s head br cj 0 (([]:List Nat).map fun (n:Nat)=>(n:Int)) (-1) head br cj []):=qH LsI.start;have a1:Hid (mM<w.heap.size/\mB<w.heap.size):=qH (by obtain ⟨⟨f,Y,_⟩,_⟩:=h.met;obtain ⟨⟨f',h2,_⟩,_⟩:=h.blob;exact ⟨Y.lt,h2.lt⟩)
 have am:Hid (w0.heap.size<=w.heap.size/\rd<w.heap.size/\mP<w.heap.size):=qH (by obtain ⟨bo,f,Y,_⟩:=h.prop;exact ⟨h.sm.size,h.blk.lt,Y.lt⟩)
 have b6:=qH ck;clear h ck;have cf:=@YG Tryz.prog;go_enter Tryz.func77,Tryz.ntmps77;go_upto_region 2 with fail;have b7:=MsN.made (N:=200) w qO;have b8:=(iA w).alloc (.map #[] 0);have b9:=qH b7;have an:=qH b8;generalize w.alloc (.map #[] 0)=w1 at *;generalize al:w.heap.size=mH at *;have C:=qH al;clear b7 b8 al;have ba:Hid (xC w1 mH (.slice none 0 0) []):=qH (xC.nil_ _ _);have H1:=qH (H0.same an);clear H0;go_wp2_with fail;go_loopg [4,6,7] 16 (fun gh so sl si wr=>∃ (k:Nat) (hd:List Nat) (last id:Int) (mp mb:List Nat) (A:Option Addr) (c:Nat) (ps:List PR),16-k=gh/\so=.slice A k c/\sl=.int .i64 last/\si=.int .i64 id /\
  Hid (LsI s head br cj k (hd.map fun (n:Nat)=>(n:Int)) last id mp mb (ps.map PR.dat))/\Hid (RdS w0 wr B p rd mP mM mB q s m1 m2 ch mp mb)/\Hid (MsN wr mH hd 200)/\Hid (xC wr mH (.slice A k c) ps)/\Hid (Upd (fun b=>b=mM\/b=mB) w wr)/\Hid (-1<=id/\id<65536))
 case atStart=>exact ⟨0,[],-1,head,br,cj,none,0,[],rfl,rfl,rfl,rfl,b5,H1,b9,ba,qH (an.mono qe),b6⟩
 clear b5 H1 b9 ba an b6;obtain ⟨k,hd,last,id,mp,mb,A,c,ps,rfl,rfl,rfl,rfl,P,KR,KH,KO,KU,KI⟩:=hrel;by_cases hid:id = -1
 · have HX:=qH (P.done hid);have HK:Hid ((ps.map PR.dat).length=k):=qH P.len;have hb:(id != -1)=false:=by simp [hid]
   clear P hid;go_wp2;refine (show OR (.returned (.slice A k c)) wr from ?_);have Y:=bw.out _ _ _ wr A c ps HX.out KU.out KR.met KR.blob;rw [HK.out] at Y;exact Y KO rfl
 have hb:(id != -1)=true:=by simp [hid]
 have D:=qH hid;clear hid;by_cases hk:k=16
 · have HX:=qH (P.full D hk);have bx:¬ (k:Int)<16:=qO;clear P hk;go_wp2_with fail;refine (gD wr 64).mono ?_;rintro e Z ⟨rfl,rfl⟩;exact ⟨rfl,a0.out _ _ HX KU⟩
 have bb:k<16:=qt P.le;have U:=qH bb;have bx:(k:Int)<16:=qO;clear hk bb;have q0:=KR.blk.c3;have a2:Hid ((Instr.lookup 82 (.map (some mP)) (.int .i64 id) true).run Tryz.prog wr=.ok (.tuple #[((LI s id).map fun x=>Value.agg x.cells).getD (.agg #[.int .i64 0,.int .i64 0,.int .i64 0,.int .i64 0,.int .i64 0,.int .i64 0]),.bool (LI s id).isSome]) wr):=qH (by obtain ⟨bo,f,Y,h2⟩:=KR.prop;have h3:=(Y.look YZ (ZwT wr) (i:=id) (qh KI)).1;rw [h2 id,Option.isSome_map] at h3;exact h3)
 have o:=qH (ZuF (had:=hd.map fun (n:Nat)=>(n:Int)) (last:=last) (i:=id) (mp:=mp) (mb:=mb) KR.ok);have ad:Hid (∀ x,LI s id=some x->0<=id/\∃ d,s.props.at_ id.toNat=some d/\getP d=some x):=qH fun x hx=>ZuG hx;cases hp:LI s id with
 | none =>
   rw [hp] at a2 o;have a3:=a2.out;simp only [Option.map_none,oN,eS] at a3;have HX:=qH (P.err D U o);clear P a2 o ad hp;go_wp2_with fail;refine (lD wr 64).mono ?_;rintro e Z ⟨rfl,rfl⟩;go_upto_region 7 with fail;have E:=KU.alloc (.cells #[.int .i64 0,.int .i64 0,.int .i64 0,.int .i64 0,.int .i64 0,.int .i64 0] 145);have V:=qH E;generalize wr.alloc (.cells #[.int .i64 0,.int .i64 0,.int .i64 0,.int .i64 0,.int .i64 0,.int .i64 0] 145)=w3 at *;clear E;go_wp2_with fail;refine (gD w3 3).mono ?_;rintro e Z ⟨rfl,rfl⟩;exact ⟨rfl,a0.out _ _ HX V⟩
 | some x =>
   rw [hp] at a2 o ad;obtain ⟨bp,d,ah,ay⟩:=ad.out x rfl;obtain ⟨j,rfl⟩:∃ j:Nat,id=(j:Int):=⟨id.toNat,qO⟩
   rw [XB] at ah o;have bc:=at_lt ah;have a3:=a2.out;simp only [VC,sI,Option.isSome_some] at a3;simp only at o;have ao:=qH ay;have bd:Hid (FB s.keys x.key≠noText):=qH (by obtain ⟨y,hy,hn⟩:=KR.ok _ _ ah;rw [ay] at hy;cases hy;exact hn)
   have bz:=qH bc;clear a2 ad hp ah ay bp bc;obtain ⟨ke,ki,nu,bl,pr,ne⟩:=x;unfold P1.cells at a3;simp only at a3 o bd;go_wp2_with fail;refine (lD wr 64).mono ?_;rintro e Z ⟨rfl,rfl⟩;go_upto_region 7 with fail;have E:=(iA wr).alloc (.cells #[.int .i64 ke,.int .i64 ki,.int .i64 nu,.int .i64 bl,.int .i64 pr,.int .i64 ne] 145);have bf:=jA wr 145 #[.int .i64 ke,.int .i64 ki,.int .i64 nu,.int .i64 bl,.int .i64 pr,.int .i64 ne];have V:=qH E;have ap:=qH bf;generalize wr.alloc (.cells #[.int .i64 ke,.int .i64 ki,.int .i64 nu,.int .i64 bl,.int .i64 pr,.int .i64 ne] 145)=w3 at *;generalize wr.heap.size=xb at *;clear E bf a3 q0;have z:=qH (KR.same V);have bg:=qH (KH.same V);have bh:=qH (KO.same V);have aq:Hid (Upd (fun b=>b=mM\/b=mB) w w3):=qH (KU.same V);clear KR KH KO KU V;go_wp2_with fail;refine (lD w3 3).mono ?_;rintro e Z ⟨rfl,rfl⟩;have q5:=z.blk.c5;by_cases L:j∈mp
   · have HX:=qH (P.err D U (o.trans (gA (.inl L))));obtain ⟨F,w4,ai,G,H⟩:=z.met.twice L;have l1:=F w3 (eA _ w3);have l2:=H w4 (eA _ w4);have q6:=(z.blk.upd G fun e=>z.met.ne z.blk e.symm).c5;have a4:Hid (Upd (fun b=>b=mM\/b=mB) w w4):=qH (aq.trans G fun _ _ e=>.inl e);clear F H G L P o;go_wp2_with fail;refine (gD w4 101).mono ?_;rintro e Z ⟨rfl,rfl⟩;exact ⟨rfl,a0.out _ _ HX a4⟩
   obtain ⟨F,w4,ai,G,bq,H⟩:=z.met.inc bz.out L;have l1:=F w3 (eA _ w3);have l2:=H w4 (eA _ w4);have a4:Hid (Upd (fun b=>b=mM\/b=mB) w w4):=qH (aq.trans G fun _ _ e=>.inl e);have aa:=qH (z.upd G (fun b e=>z.mm (.inl e)) bq (z.blob.upd G z.ne.2.2.symm));have bi:mH≠mM:=qh a1;have X:=qH (bg.upd G bi);have bj:=qH (bh.map G fun b e t cs hb=>z.met.noBlk e hb);have M:=qH ((ap.same (iA w3)).upd G fun e=>z.met.noBlk e ap);have q6:=aa.blk.c5;have x4:=M.c4;have bk:=qH L;clear F H G bq L z bg bh aq ap bi;by_cases ae:pr=last
   case neg =>
    have HX:=qH (P.err D U (o.trans (gA (.inr ae))));have cg:(pr==last)=false:=WC.2 ae;clear P o ae;go_wp2_with fail;refine (gD w4 101).mono ?_;rintro e Z ⟨rfl,rfl⟩;exact ⟨rfl,a0.out _ _ HX a4⟩
   subst ae;have o:=qH (o.trans (aA (by rintro (h | h);exact bk h;exact h rfl)));go_wp2_with fail;refine (lD w4 101).mono ?_;rintro e Z ⟨rfl,rfl⟩;clear ai l1 l2 q5 q6 x4;have bm:=NB.1 (Bool.and_eq_true_iff.1 (LU ao).1).1;have ar:=(LU ao).1;simp only [TD,kB] at ar;have c7:=qH (NB.1 ar.2.2.2.2);clear ar;simp only at bm;obtain ⟨T,rfl⟩:∃ T:Nat,ke=(T:Int):=⟨ke.toNat,qO⟩
   have c8:T<200:=qO;clear bm;have x0:=M.c0;by_cases a5:T∈hd
   · have HX:=qH (P.err D U (o.trans (gA (fC.2 ⟨T,a5,rfl⟩))));obtain ⟨F,I,ai,u,H⟩:=X.twice a5;have l1:=F w4 (eA _ w4);have l2:=H I (eA _ I);have c9:=(M.upd u fun e=>X.noBlk e M).c0;have a6:Hid (Upd (fun b=>b=mM\/b=mB) w I):=qH (a4.trans u fun b hb e=>qh C);clear F H u a5 P o;go_wp2_with fail;refine (gD I 7).mono ?_;rintro e Z ⟨rfl,rfl⟩;exact ⟨rfl,a0.out _ _ HX a6⟩
   obtain ⟨F,I,ai,u,bs,H⟩:=X.inc c8 a5;have l1:=F w4 (eA _ w4);have l2:=H I (eA _ I);have c9:=(M.upd u fun e=>X.noBlk e M).c0;have o:=qH (o.trans (aA (fun h=>a5 (by obtain ⟨a,ha,e⟩:=fC.1 h;rwa [show a=T by omega] at ha))));have a6:Hid (Upd (fun b=>b=mM\/b=mB) w I):=qH (a4.trans u fun b hb e=>qh C);have r:=qH (aa.upd u (fun b e=>by have:=am.out;have:=C.out;omega) (aa.met.upd u (by have:=a1.out;have:=C.out;omega)) (aa.blob.upd u (by have:=a1.out;have:=C.out;omega)));have au:=qH bs;have R:=qH (bj.map u fun b e t cs hb=>X.noBlk e hb);have af:=qH (M.upd u fun e=>X.noBlk e M);clear F H u bs a5 aa X bj a4 M;have HK:Hid (∀ O,Upd (fun b=>b=mB\/(Value.slice A k c).ownBlock=some b) I O->MU rd p q.tk xb ⟨(T:Int),ki,nu,bl,pr,ne⟩ O):=qH fun O hu=>by have b1:=r.blk.upd hu (by rintro (e | e);exact r.blob.noBlk e r.blk;exact r.blk.ne_own R.row qD e);have b2:=r.stm.blk.upd hu (by rintro (e | e);exact r.blob.noBlk e r.stm.blk;exact r.stm.blk.ne_own R.row qD e);have b3:=af.upd hu (by rintro (e | e);exact r.blob.noBlk e af;exact af.ne_own R.row qD e);exact ⟨b1.cell 0,b2.cell 2,b3.cell 0,b3.cell 1,b3.cell 2,b3.cell 3,b3.cell 4,b3.cell 5⟩
   obtain ⟨nm,bt⟩:=qx (FB s.keys (T:Int));have bn:=qH bt;have HN:Hid (∀ O,Upd (fun b=>b=mB\/(Value.slice A k c).ownBlock=some b) I O->Calls Tryz.prog 73 #[.pointer (some ⟨q.tk,0,none⟩),.int .i64 (T:Int)] O fun e w'=>e=.returned (.string nm)/\O=w'):=qH fun O hu=>by
    have Y:StM O B p q s:=r.st.same (r.sm.trans hu fun b hb e=>by
     rcases e with e | e
     · have:=r.lo;omega
     have:=(R.row.lt b e).1;have:=am.out;have:=C.out;omega)
    obtain ⟨f,m,bo,v,nv,l,hP⟩:=Y.tk;refine (sM hP (T:Int)).mono ?_;rintro e w' ⟨hn,rfl⟩;unfold iK at hn;rw [aA bd.out,bn.out] at hn;exact ⟨hn,rfl⟩
   have HV:Hid (∀ O,Same I O->Calls Tryz.prog 128 #[.pointer (some ⟨rd,0,none⟩),.agg #[.int .i64 (T:Int),.int .i64 ki,.int .i64 nu,.int .i64 bl,.int .i64 pr,.int .i64 ne]] O (ValR s ⟨(T:Int),ki,nu,bl,pr,ne⟩ mb O mB)) :=
    qH fun O hs=>Ztc O ao (r.stm.same hs) (r.blk.same hs) (r.blob.same hs)
   have a7:Same I I.drew:=(eA _ I).drew;have a8:Upd (fun b=>b=mB\/(Value.slice A k c).ownBlock=some b) I I.drew:=(eA _ I).drew;clear bt;unfold ValR at HV;rcases hV:val1 s ⟨(T:Int),ki,nu,bl,pr,ne⟩ mb with er | ⟨g,ac⟩
   · rw [hV] at HV o;simp only at HV o;have HX:=qH (P.err D U o);clear P o hV;go_wp2_with fail;refine (lD I 7).mono ?_;rintro e Z ⟨rfl,rfl⟩;go_upto_region 12 with fail;refine eE 17 (fun O=>MU rd p q.tk xb ⟨(T:Int),ki,nu,bl,pr,ne⟩ O) qK (HK.out _ a8) (fun az=>?_);refine tC ?_;refine CD 10 rfl (fun K hK=>?_);go_simp;refine (HN.out _ a8).mono ?_;rintro e w' ⟨rfl,rfl⟩;refine hK _ _ (HK.out _ a8) (fun az=>?_);clear hK K;refine CD 13 rfl (fun K hK=>?_);go_simp;refine (HV.out _ a7).mono ?_;rintro e w' ⟨hu,rfl⟩;exact ⟨rfl,a0.out _ _ HX ((a6.same a7).trans hu fun _ _ e=>.inr e)⟩
   rw [hV] at HV o;simp only at HV o;have ab:=qH (P.step D U o);clear P o hV;go_wp2_with fail;refine (lD I 7).mono ?_;rintro e Z ⟨rfl,rfl⟩;have av:mH<=I.heap.size:=by have:=a6.size;have:=C.out;omega
   go_upto_region 12 with fail
   go_region_held_law (fun O=>MU rd p q.tk xb ⟨(T:Int),ki,nu,bl,pr,ne⟩ O) (first | exact HK _ qA | exact HK _ (OJ qA _)) (first
    | (go_at_call 73;refine (HN.out _ a8).mono ?_;rintro e w' ⟨rfl,rfl⟩)
    | (go_at_call 128;refine (HV.out _ a7).mono ?_;rintro e Z ⟨aj,bu,bv,v,rfl,v1,v2,rfl,b0,b4⟩;obtain ⟨A1,c1,rfl⟩:=WA b0;obtain ⟨A2,c2,rfl⟩:=WA b4;have ca:I.heap.size<=Z.heap.size:=aj.size;have u:Upd (fun b=>b=mB\/(Value.slice A k c).ownBlock=some b) I Z:=a8.trans aj fun _ _ e=>.inl e;have aw:=(R.same a7).map aj fun b e t cs hb=>(r.blob.same a7).noBlk e hb)
    | (refine IK rfl (.tmp 61) (.tmp 76) _ _ rfl mH 53 6 96 _ tN qW rfl (.slice A k c) k _ rfl (World.ownsRow.alloc (by have h:=aw.row;rwa [show ps.length=k from by have:=ab.len;simp at this;exact this] at h) _) rfl (GD tN (Row.pr _ ⟨nm,g,A1,g.nums.length,c1,A2,g.texts.length,c2⟩) (PR.one _)) qM qO qP ?_;intro v' w6 hg;have a9:Upd (fun b=>b=mB\/(Value.slice A k c).ownBlock=some b) I w6:=(u.alloc _).trans hg.upd fun _ _ e=>.inr e))
   have E:=(iA Z).alloc (.cells (PR.cells ⟨nm,g,A1,g.nums.length,c1,A2,g.texts.length,c2⟩).toArray 53);have ak:ps.length=k:=by have:=ab.len;simp at this;exact this
   have hO:=(aw.same E).snoc (x:=⟨nm,g,A1,g.nums.length,c1,A2,g.texts.length,c2⟩) (by rw [ak];exact hg) ⟨RA (mA b0 E) (by simp only [DK];exact av),RA (mA b4 E) (by simp only [DK];exact av),bu⟩;have S:∀ b,(Value.slice A k c).ownBlock=some b->mH<=b:=fun b e=>(R.row.lt b e).1;have cb:=qH (r.upd a9 (fun b e=>by
    rcases e with e | e
    · exact r.mm (.inr e)
    · have:=S b e;have:=am.out;have:=C.out;omega) (r.met.upd a9 (by
    rintro (e | e)
    · exact r.ne.2.2 e
    have:=S _ e;have:=a1.out;have:=C.out;omega)) ((bv.same E).upd hg.upd fun e=>by have:=S _ e;have:=a1.out;have:=C.out;omega))
   have cc:=qH (au.upd a9 (by
    rintro (e | e)
    · have:=a1.out;have:=C.out;omega
    obtain ⟨cs,hb⟩:=LA R.row e;exact au.noBlk rfl hb))
   have cd:Hid (Upd (fun b=>b=mM\/b=mB) w w6):=qH (a6.trans a9 fun b hb e=>by
    rcases e with e | e
    · exact .inr e
    have:=S b e;have:=C.out;omega)
   have ce:=qH hO;have ci:=(HK.out w6 a9).2.2.2.2.2.2.2;obtain ⟨A6,n6,c6,rfl⟩:=DE hg.own;obtain rfl:n6=k+1:=by obtain ⟨A',c',e⟩:=WA hg.own;injection e
   clear E ak hO S hg a9 u bv b0 b4 aw aj ca a7 a8 bu r au R af a6 HK HN HV av;go_upto_region 13 with fail;go_quiet (fail);go_wp2;go_roundg (16-(k+1))
   case measure=>have:=U.out;omega
   case rel=>exact ⟨k+1,T::hd,(j:Int),ne,j::mp,ac,A6,c6,ps++[⟨nm,g,A1,g.nums.length,c1,A2,g.texts.length,c2⟩],rfl,rfl,rfl,rfl,qH (by have h:=ab.out;rw [XB,bn.out] at h;rw [DB];exact h),qH (cb.same ((eA _ w6).drewN nq)),qH (cc.same ((eA _ w6).drewN nq)),qH (ce.same ((eA _ w6).drewN nq)),qH (cd.same ((eA _ w6).drewN nq)),c7⟩
end
section
def GB:Nat->List (Option (List UInt8))->List (Nat×List UInt8)
 | _,[]=>[]
 | i,none::l=>GB (i+1) l
 | i,some d::l=>(i,d)::GB (i+1) l
def aI (e:List UInt8->Int):List (Nat×List UInt8)->Int
 | []=>0
 | x::l=>if e x.2≠0 then e x.2 else aI e l
theorem xJ (e:List UInt8->Int):∀ (rs:List (Option (List UInt8))) (i:Nat),sD e rs=aI e (GB i rs)
 | [],_=>rfl
 | none::l,i=>xJ e l (i+1)
 | some d::l,i=>by rw [sD,GB,aI,xJ e l (i+1)]
theorem NU {e:List UInt8->Int}:∀ {a b:List (Nat×List UInt8)},(∀ x∈a,e x.2=0)->aI e (a++b)=aI e b
 | [],b,_=>rfl
 | x::a,b,h=>by rw [EB,aI,aA (fun c=>c (h x LJ))];exact NU fun y d=>h y (IH _ d)
theorem OU {e:List UInt8->Int} {a:List (Nat×List UInt8)} (h:∀ x∈a,e x.2=0):aI e a=0:=by have:=NU (b:=[]) h;rwa [ZC] at this
theorem WQ {α:Type} {U a:List α} {x:α} (h:a=U.take a.length) (hx:U[a.length]?=some x):U=a++x::U.drop (a.length+1)/\a++[x]=U.take (a.length+1):=by obtain ⟨c,d⟩:=IA.1 hx;have b:=tF a.length U;rw [kE c,d,<-h] at b;refine ⟨b.symm,?_⟩;rw [eD,<-h,hx];rfl
theorem PU {e:List UInt8->Int} {U a:List (Nat×List UInt8)} {x:Nat×List UInt8} (h:a=U.take a.length) (hx:U[a.length]?=some x) (ha:∀ y∈a,e y.2=0) (he:e x.2≠0):aI e U=e x.2:=by rw [(WQ h hx).1,NU ha,aI,gA he]
theorem XQ {L:List L1} {node:Int}:∀ {k:Nat} {last id e:Int},QC L node k last id=.error e->e≠0
 | 0,last,id,e,h=>by
   rw [QC] at h;split at h
   · cases h
   split at h
   · rename_i a;cases h;exact a
   cases h;decide
 | k+1,last,id,e,h=>by
   rw [QC] at h;split at h
   · cases h
   split at h
   · rename_i a;cases h;exact a
   split at h
   · cases h;decide
   split at h
   · cases h;decide
   split at h
   · rename_i a;cases h;exact XQ a
   cases h
def SG (L:List L1):List (Nat×List UInt8)->Int
 | []=>0
 | x::l=>match getN x.2 with
   | none=>41
   | some n=>match QC L x.1 (L.length+1) (-1) n.rel with
     | .error e=>e
     | .ok ids=>if ids.length≠(OB L x.1).length then 101 else SG L l
theorem YQ (L:List L1):∀ (rs:List (Option (List UInt8))) (i:Nat),eG L i rs=SG L (GB i rs)
 | [],_=>rfl
 | none::l,i=>YQ L l (i+1)
 | some d::l,i=>by
   rw [eG,GB,SG,YQ L l (i+1)];simp only;cases getN d with
   | none=>rfl
   | some n =>
     simp only;rcases QC L (i:Int) (L.length+1) (-1) n.rel with e | a <;> rfl
def bI (L:List L1) (x:Nat×List UInt8):Int:=SG L [x]
theorem QU {L:List L1}:∀ {a b:List (Nat×List UInt8)},(∀ x∈a,bI L x=0)->(∀ x∈a,(getN x.2).isSome=true)->SG L (a++b)=SG L b
 | [],b,_,_=>rfl
 | x::a,b,h,hn=>by
   have c:=h x LJ;have f:=hn x LJ;have ih:=QU (b:=b) (fun y d=>h y (IH _ d)) fun y d=>hn y (IH _ d);unfold bI SG at c;rw [EB,SG];cases hg:getN x.2 with
   | none=>rw [hg] at f;cases f
   | some n =>
     rw [hg] at c;simp only at c ⊢;cases hw:QC L x.1 (L.length+1) (-1) n.rel with
     | error e =>
       rw [hw] at c;exact absurd c (XQ hw)
     | ok ids =>
       rw [hw] at c;simp only at c ⊢;by_cases g:ids.length≠(OB L x.1).length
       · rw [gA g] at c;cases c
       rw [aA g,ih]
section
variable {labels types:List ByteArray} {get:List UInt8->Option R1} {f:Int->List Nat->List Nat->Except Int (List GPr×List Nat×List Nat)}
def AH (labels:List ByteArray) (f:Int->List Nat->List Nat->Except Int (List GPr×List Nat×List Nat)) (x:Nat×List UInt8) (mp mb:List Nat):Except Int (NA×List Nat×List Nat):=match getN x.2 with
 | none=>.error 41
 | some n=>match f n.prop mp mb with
   | .error e=>.error e
   | .ok (ps,mp,mb)=>.ok (⟨x.1,n.labels.map (FB labels),ps⟩,mp,mb)
def relU (types:List ByteArray) (get:List UInt8->Option R1) (f:Int->List Nat->List Nat->Except Int (List GPr×List Nat×List Nat)) (x:Nat×List UInt8) (mp mb:List Nat):Except Int (GRel×List Nat×List Nat):=match get x.2 with
 | none=>.error 41
 | some r=>match f r.prop mp mb with
   | .error e=>.error e
   | .ok (ps,mp,mb)=>.ok (⟨x.1,FB types r.type,r.link.src,r.link.dst,ps⟩,mp,mb)
def zC {α β:Type} (g:α->List Nat->List Nat->Except Int (β×List Nat×List Nat)):List α->List Nat->List Nat->Except Int (List β×List Nat×List Nat)
 | [],mp,mb=>.ok ([],mp,mb)
 | x::l,mp,mb=>match g x mp mb with
   | .error e=>.error e
   | .ok (y,mp,mb)=>match zC g l mp mb with
     | .error e=>.error e
     | .ok (ys,mp,mb)=>.ok (y::ys,mp,mb)
theorem yM:∀ (rs:List (Option (List UInt8))) (i:Nat) (mp mb:List Nat),XH labels f i rs mp mb=zC (AH labels f) (GB i rs) mp mb
 | [],_,_,_=>rfl
 | none::l,i,mp,mb=>yM l (i+1) mp mb
 | some d::l,i,mp,mb=>by
   rw [XH,GB,zC,AH];cases getN d with
   | none=>rfl
   | some n =>
     simp only;rcases f n.prop mp mb with e | ⟨h,c,g⟩
     · rfl
     simp only;rw [yM l (i+1)];rcases zC (AH labels f) (GB (i+1) l) c g with e | ⟨j,a,b⟩ <;> rfl
theorem zM:∀ (rs:List (Option (List UInt8))) (i:Nat) (mp mb:List Nat),YH types get f i rs mp mb=zC (relU types get f) (GB i rs) mp mb
 | [],_,_,_=>rfl
 | none::l,i,mp,mb=>zM l (i+1) mp mb
 | some d::l,i,mp,mb=>by
   rw [YH,GB,zC,relU];cases get d with
   | none=>rfl
   | some n =>
     simp only;rcases f n.prop mp mb with e | ⟨h,c,g⟩
     · rfl
     simp only;rw [zM l (i+1)];rcases zC (relU types get f) (GB (i+1) l) c g with e | ⟨j,a,b⟩ <;> rfl
end
section
variable {α β:Type} {g:α->List Nat->List Nat->Except Int (β×List Nat×List Nat)}
theorem RU:∀ {a b:List α} {mp mb:List Nat},zC g (a++b) mp mb=(match zC g a mp mb with
 | .error e=>.error e
 | .ok (ys,mp,mb)=>match zC g b mp mb with
   | .error e=>.error e
   | .ok (zs,mp,mb)=>.ok (ys++zs,mp,mb))
 | [],b,mp,mb=>by rw [SB,zC];simp only;rcases zC g b mp mb with e | ⟨zs,i,j⟩ <;> rfl
 | x::a,b,mp,mb=>by
   rw [EB,zC,zC];rcases g x mp mb with e | ⟨y,c,d⟩
   · rfl
   simp only;rw [RU (a:=a)];rcases zC g a c d with e | ⟨ys,f,h⟩
   · rfl
   simp only;rcases zC g b f h with e | ⟨zs,k,l⟩ <;> rfl
theorem ZkP {a:List α} {x:α} {b c d e:List Nat} {ys:List β} {y:β} (h:zC g a mp mb=.ok (ys,b,c)) (hx:g x b c=.ok (y,d,e)):zC g (a++[x]) mp mb=.ok (ys++[y],d,e):=by rw [RU,h];simp [zC,hx]
theorem ZnD {U a:List α} {x:α} {b c:List Nat} {ys:List β} {er:Int} (ha:a=U.take a.length) (hU:U[a.length]?=some x) (h:zC g a mp mb=.ok (ys,b,c)) (hx:g x b c=.error er):zC g U mp mb=.error er:=by rw [(WQ ha hU).1,RU,h];simp [zC,hx]
end
end
section
open Go.RowKit
theorem ZjN (h2:tmps.getD 8 undef=.pointer (some ⟨g,0,none⟩)) (h3:tmps.getD 9 undef=.int .i64 ee)
 (hb:Blk w g 124 cs) (l:cs.size=9) (hR:R (.returned (.tuple #[.agg #[u0,u1,u2,u3,u4,u5,u6,u7,u8],.int .i64 ee])) (putCs w g 0 [u0,u1,u2,u3,u4,u5,u6,u7,u8])):
 bodyPost Tryz.prog Tryz.f125 R Exit.ret ⟨tmps,[]⟩ (putCs w g 0 [u0,u1,u2,u3,u4,u5,u6,u7,u8]):=by
 have h:=hb.putCs [u0,u1,u2,u3,u4,u5,u6,u7,u8] l;generalize putCs w g 0 [u0,u1,u2,u3,u4,u5,u6,u7,u8]=W at *;have a:=h.cell 0;have b:=h.cell 1;have c:=h.cell 2;have d:=h.cell 3;have e:=h.cell 4;have f:=h.cell 5;have i:=h.cell 6;have j:=h.cell 7;have k:=h.cell 8;simp only [YC,rC,LC] at a b c d e f i j k;refine LD (v:=.tuple #[.agg #[u0,u1,u2,u3,u4,u5,u6,u7,u8],.int .i64 ee]) ?_ rfl hR;simp only [LF] at h2 h3;simp [results,Tryz.results125,go_sem,h2,h3,a,b,c,d,e,f,i,j,k]
theorem ZkQ (h2:tmps.getD 2 undef=.pointer (some ⟨g,0,none⟩)) (h3:tmps.getD 3 undef=.int .i64 ee)
 (hb:Blk w g 124 cs) (l:cs.size=9) (hR:R (.returned (.tuple #[.agg #[u0,u1,u2,u3,u4,u5,u6,u7,u8],.int .i64 ee])) (putCs w g 0 [u0,u1,u2,u3,u4,u5,u6,u7,u8])):
 bodyPost Tryz.prog Tryz.f74 R Exit.ret ⟨tmps,[]⟩ (putCs w g 0 [u0,u1,u2,u3,u4,u5,u6,u7,u8]):=by
 have h:=hb.putCs [u0,u1,u2,u3,u4,u5,u6,u7,u8] l;generalize putCs w g 0 [u0,u1,u2,u3,u4,u5,u6,u7,u8]=W at *;have a:=h.cell 0;have b:=h.cell 1;have c:=h.cell 2;have d:=h.cell 3;have e:=h.cell 4;have f:=h.cell 5;have i:=h.cell 6;have j:=h.cell 7;have k:=h.cell 8;simp only [YC,rC,LC] at a b c d e f i j k;refine LD (v:=.tuple #[.agg #[u0,u1,u2,u3,u4,u5,u6,u7,u8],.int .i64 ee]) ?_ rfl hR;simp only [LF] at h2 h3;simp [results,Tryz.results74,go_sem,h2,h3,a,b,c,d,e,f,i,j,k]
theorem ZnE (w:World) (hb:pA w F A n c bs) (hl:bs.length=30):
 Calls Tryz.prog 125 #[.slice A n c,.int .i64 30,.agg #[.bool true,.int .i64 0,.int .i64 0,.int .i64 0,.int .i64 0,.int .i64 0,.int .i64 0,.int .i64 0,.int .i64 0],.func (.func 108) #[] #[]] w fun e w'=>Same w w' /\
  ((getR bs=none/\e=.returned (.tuple #[.agg #[.bool false,.int .i64 0,.int .i64 0,.int .i64 0,.int .i64 0,.int .i64 0,.int .i64 0,.int .i64 0,.int .i64 0],.int .i64 41])) \/
   ∃ x,getR bs=some x/\e=.returned (.tuple #[.agg x.cells,.int .i64 0])):=by
 have N:n=30:=qt hb.len;subst N;have s:=(((iA w).alloc (.cells #[.bool true,.int .i64 0,.int .i64 0,.int .i64 0,.int .i64 0,.int .i64 0,.int .i64 0,.int .i64 0,.int .i64 0] 124)).alloc (.cells #[.bool false,.int .i64 0,.int .i64 0,.int .i64 0,.int .i64 0,.int .i64 0,.int .i64 0,.int .i64 0,.int .i64 0] 124)).alloc (.cells #[.bool false,.int .i64 0,.int .i64 0,.int .i64 0,.int .i64 0,.int .i64 0,.int .i64 0,.int .i64 0,.int .i64 0] 124);have O:=qH s;have P:=qH (hb.same s);have t:=qH hl;clear hb s hl;go_enter Tryz.func125,Tryz.ntmps125;go_wp2_with fail;have u:=qH ((((jA w 124 #[.bool true,.int .i64 0,.int .i64 0,.int .i64 0,.int .i64 0,.int .i64 0,.int .i64 0,.int .i64 0,.int .i64 0]).alloc (.cells #[.bool false,.int .i64 0,.int .i64 0,.int .i64 0,.int .i64 0,.int .i64 0,.int .i64 0,.int .i64 0,.int .i64 0] 124)).alloc (.cells #[.bool false,.int .i64 0,.int .i64 0,.int .i64 0,.int .i64 0,.int .i64 0,.int .i64 0,.int .i64 0,.int .i64 0] 124)));have v:=(jA (w.alloc (.cells #[.bool true,.int .i64 0,.int .i64 0,.int .i64 0,.int .i64 0,.int .i64 0,.int .i64 0,.int .i64 0,.int .i64 0] 124)) 124 #[.bool false,.int .i64 0,.int .i64 0,.int .i64 0,.int .i64 0,.int .i64 0,.int .i64 0,.int .i64 0,.int .i64 0]).alloc (.cells #[.bool false,.int .i64 0,.int .i64 0,.int .i64 0,.int .i64 0,.int .i64 0,.int .i64 0,.int .i64 0,.int .i64 0] 124);have j:=jA ((w.alloc (.cells #[.bool true,.int .i64 0,.int .i64 0,.int .i64 0,.int .i64 0,.int .i64 0,.int .i64 0,.int .i64 0,.int .i64 0] 124)).alloc (.cells #[.bool false,.int .i64 0,.int .i64 0,.int .i64 0,.int .i64 0,.int .i64 0,.int .i64 0,.int .i64 0,.int .i64 0] 124)) 124 #[.bool false,.int .i64 0,.int .i64 0,.int .i64 0,.int .i64 0,.int .i64 0,.int .i64 0,.int .i64 0,.int .i64 0];simp only [aB] at v j;have y:=qH v;have g:=qH j;clear v j;generalize hz:w.heap.size=z at *;generalize ((w.alloc (.cells #[.bool true,.int .i64 0,.int .i64 0,.int .i64 0,.int .i64 0,.int .i64 0,.int .i64 0,.int .i64 0,.int .i64 0] 124)).alloc (.cells #[.bool false,.int .i64 0,.int .i64 0,.int .i64 0,.int .i64 0,.int .i64 0,.int .i64 0,.int .i64 0,.int .i64 0] 124)).alloc (.cells #[.bool false,.int .i64 0,.int .i64 0,.int .i64 0,.int .i64 0,.int .i64 0,.int .i64 0,.int .i64 0,.int .i64 0] 124)=q at *;refine (gM P qO).mono ?_;rintro e f ⟨r,rfl,hr,C,l⟩;have m:=l.alloc (.cells #[.pointer none,.pointer (some ⟨r,0,none⟩),.bool false] 237);have R:=C.lt;have S:q.heap.size<=f.heap.size:=l.size;have o:=g.lt;have G:Rdr (f.alloc (.cells #[.pointer none,.pointer (some ⟨r,0,none⟩),.bool false] 237)) (fun b=>(q.heap.size<=b/\b≠r)/\b<f.heap.size) r ⟨bs,0⟩:=by obtain ⟨A1,n1,c1,h1,h2⟩:=C;exact ⟨A1,n1,c1,h1.alloc _,(pA.mono h2 fun b hb h=>⟨h,hb⟩).same ((eA _ f).alloc _)⟩
 have T:=qH (show CR (f.alloc (.cells #[.pointer none,.pointer (some ⟨r,0,none⟩),.bool false] 237)) (fun b=>(q.heap.size<=b/\b≠r)/\b<f.heap.size) f.heap.size r bs false from ⟨jA f _ _,G,fun h=>h.1.2 rfl,fun h=>JH _ h.2⟩);have U:=qH m;have u:=qH (u.same m);have y:=qH (y.same m);have g:=qH (g.same m);have k:Hid (z+1≠f.heap.size/\z+1≠r/\z+2≠f.heap.size/\z+2≠r/\z≠f.heap.size/\z≠r/\z<=r/\z<=f.heap.size):=qH qO;have V:=qH (show z+2<q.heap.size from o);have W:(f.alloc (.cells #[.pointer none,.pointer (some ⟨r,0,none⟩),.bool false] 237)).heap.size=f.heap.size+1:=aB _ _;clear G C l m;go_upto_region 5 with fail;generalize a0:f.heap.size=z1 at *;generalize f.alloc (.cells #[.pointer none,.pointer (some ⟨r,0,none⟩),.bool false] 237)=w2 at *;go_wp2_with fail;refine (Zvs T t u (fun h=>by have:=h.1.1;have:=V.out;omega)).mono ?_;rintro e D ⟨rfl,E,M,u3⟩;have hrel:(!cE (relR bs))=(getR bs).isNone:=by rw [WW t.out];cases cE (relR bs) <;> rfl
 rw [hrel] at E;have H:=qH M;have I:Hid (Upd (fun b=>z<=b) w D):=qH (((O.trans U qf).mono (S':=fun b=>z<=b) qe).trans u3 fun b _ h=>qh k);have a:=qH (y.upd u3 (qh k));have d:=qH (g.upd u3 (qh k));have p:=E.cod.c2;clear E M u3;cases hg:getR bs with
 | none =>
   rw [hg] at p;simp only [GP] at p;have X:=d.cell 0;have Y:=a.frozen 0;have Z:=a.cell 0;have d1:=d.cell 1;have e1:=a.frozen 1;have r1:=a.cell 1;have d2:=d.cell 2;have e2:=a.frozen 2;have r2:=a.cell 2;have d3:=d.cell 3;have e3:=a.frozen 3;have r3:=a.cell 3;have d4:=d.cell 4;have e4:=a.frozen 4;have r4:=a.cell 4;have d5:=d.cell 5;have e5:=a.frozen 5;have r5:=a.cell 5;have d6:=d.cell 6;have e6:=a.frozen 6;have r6:=a.cell 6;have d7:=d.cell 7;have e7:=a.frozen 7;have r7:=a.cell 7;have d8:=d.cell 8;have e8:=a.frozen 8;have r8:=a.cell 8;go_wp2;have B:=xH D (z+1) [.bool false,.int .i64 0,.int .i64 0,.int .i64 0,.int .i64 0,.int .i64 0,.int .i64 0,.int .i64 0,.int .i64 0];refine ZjN rfl rfl a rfl ?_;exact ⟨(I.trans B fun b _ h=>qO).mono fun b hb h=>qO,.inl ⟨hg,rfl⟩⟩
 | some x =>
   rw [hg] at p;simp only [mS] at p;have L:x=relR bs:=by
    rw [WW t.out] at hg;split at hg
    · exact (eB hg).symm
    cases hg
   rw [<- L] at H;clear L;have i:=H;have X:=i.c0;have Y:=a.frozen 0;have Z:=a.cell 0;have d1:=i.c1;have e1:=a.frozen 1;have r1:=a.cell 1;have d2:=i.c2;have e2:=a.frozen 2;have r2:=a.cell 2;have d3:=i.c3;have e3:=a.frozen 3;have r3:=a.cell 3;have d4:=i.c4;have e4:=a.frozen 4;have r4:=a.cell 4;have d5:=i.c5;have e5:=a.frozen 5;have r5:=a.cell 5;have d6:=i.c6;have e6:=a.frozen 6;have r6:=a.cell 6;have d7:=i.c7;have e7:=a.frozen 7;have r7:=a.cell 7;have d8:=i.c8;have e8:=a.frozen 8;have r8:=a.cell 8;go_wp2;have B:=xH D (z+1) [.bool x.link.live,.int .i64 x.link.src,.int .i64 x.link.dst,.int .i64 x.link.sprev,.int .i64 x.link.dprev,.int .i64 x.link.snext,.int .i64 x.link.dnext,.int .i64 x.type,.int .i64 x.prop];refine ZjN rfl rfl a rfl ?_;exact ⟨(I.trans B fun b _ h=>qO).mono fun b hb h=>qO,.inr ⟨x,hg,rfl⟩⟩
theorem ZoW (w:World) (hb:pA w F A n c bs) (hl:bs.length=30):
 Calls Tryz.prog 74 #[.slice A n c] w fun e w'=>Same w w' /\
  ((getR bs=none/\e=.returned (.tuple #[.agg #[.bool false,.int .i64 0,.int .i64 0,.int .i64 0,.int .i64 0,.int .i64 0,.int .i64 0,.int .i64 0,.int .i64 0],.int .i64 41])) \/
   ∃ x,getR bs=some x/\e=.returned (.tuple #[.agg x.cells,.int .i64 0])):=by
 have f:=(iA w).alloc (.cells #[.bool false,.int .i64 0,.int .i64 0,.int .i64 0,.int .i64 0,.int .i64 0,.int .i64 0,.int .i64 0,.int .i64 0] 124);have l:=qH f;have m:=qH (ZnE _ (hb.same f) hl);have o:=qH (jA w 124 #[.bool false,.int .i64 0,.int .i64 0,.int .i64 0,.int .i64 0,.int .i64 0,.int .i64 0,.int .i64 0,.int .i64 0]);have p:(w.alloc (.cells #[.bool false,.int .i64 0,.int .i64 0,.int .i64 0,.int .i64 0,.int .i64 0,.int .i64 0,.int .i64 0,.int .i64 0] 124)).heap.size=w.heap.size+1:=aB _ _;clear hb f;go_enter Tryz.func74,Tryz.ntmps74;go_wp2_with fail;refine m.mono ?_;generalize w.alloc (.cells #[.bool false,.int .i64 0,.int .i64 0,.int .i64 0,.int .i64 0,.int .i64 0,.int .i64 0,.int .i64 0,.int .i64 0] 124)=O at *;rintro e k ⟨d,h⟩;have a:=qH (o.same d);have j:=qH (l.trans d qf);clear d;have q:=a.frozen 0;have r:=a.cell 0;have s:=a.frozen 1;have t:=a.cell 1;have u:=a.frozen 2;have v:=a.cell 2;have y:=a.frozen 3;have z:=a.cell 3;have B:=a.frozen 4;have C:=a.cell 4;have D:=a.frozen 5;have E:=a.cell 5;have G:=a.frozen 6;have H:=a.cell 6;have I:=a.frozen 7;have L:=a.cell 7;have M:=a.frozen 8;have N:=a.cell 8;rcases h with ⟨i,rfl⟩ | ⟨x,i,rfl⟩
 · go_wp2;have g:=xH k w.heap.size [.bool false,.int .i64 0,.int .i64 0,.int .i64 0,.int .i64 0,.int .i64 0,.int .i64 0,.int .i64 0,.int .i64 0];refine ZkQ rfl rfl a rfl ?_;exact ⟨((ZI (S':=fun b=>b=w.heap.size) j qe).trans g qf).mono fun b hb h=>qO,.inl ⟨i,rfl⟩⟩
 unfold R1.cells;go_wp2;have g:=xH k w.heap.size [.bool x.link.live,.int .i64 x.link.src,.int .i64 x.link.dst,.int .i64 x.link.sprev,.int .i64 x.link.dprev,.int .i64 x.link.snext,.int .i64 x.link.dnext,.int .i64 x.type,.int .i64 x.prop];refine ZkQ rfl rfl a rfl ?_;exact ⟨((ZI (S':=fun b=>b=w.heap.size) j qe).trans g qf).mono fun b hb h=>qO,.inr ⟨x,i,rfl⟩⟩
theorem Zig (h2:tmps.getD 8 undef=.pointer (some ⟨g,0,none⟩)) (h3:tmps.getD 9 undef=.int .i64 ee)
 (hb:Blk w g 145 cs) (i:cs.size=6) (hR:R (.returned (.tuple #[.agg #[u0,u1,u2,u3,u4,u5],.int .i64 ee])) (putCs w g 0 [u0,u1,u2,u3,u4,u5])):
 bodyPost Tryz.prog Tryz.f126 R Exit.ret ⟨tmps,[]⟩ (putCs w g 0 [u0,u1,u2,u3,u4,u5]):=by
 have h:=hb.putCs [u0,u1,u2,u3,u4,u5] i;generalize putCs w g 0 [u0,u1,u2,u3,u4,u5]=W at *;have a:=h.cell 0;have b:=h.cell 1;have c:=h.cell 2;have d:=h.cell 3;have e:=h.cell 4;have f:=h.cell 5;simp only [YC,rC,LC] at a b c d e f;refine LD (v:=.tuple #[.agg #[u0,u1,u2,u3,u4,u5],.int .i64 ee]) ?_ rfl hR;simp only [LF] at h2 h3;simp [results,Tryz.results126,go_sem,h2,h3,a,b,c,d,e,f]
theorem ZjO (h2:tmps.getD 2 undef=.pointer (some ⟨g,0,none⟩)) (h3:tmps.getD 3 undef=.int .i64 ee)
 (hb:Blk w g 145 cs) (i:cs.size=6) (hR:R (.returned (.tuple #[.agg #[u0,u1,u2,u3,u4,u5],.int .i64 ee])) (putCs w g 0 [u0,u1,u2,u3,u4,u5])):
 bodyPost Tryz.prog Tryz.f75 R Exit.ret ⟨tmps,[]⟩ (putCs w g 0 [u0,u1,u2,u3,u4,u5]):=by
 have h:=hb.putCs [u0,u1,u2,u3,u4,u5] i;generalize putCs w g 0 [u0,u1,u2,u3,u4,u5]=W at *;have a:=h.cell 0;have b:=h.cell 1;have c:=h.cell 2;have d:=h.cell 3;have e:=h.cell 4;have f:=h.cell 5;simp only [YC,rC,LC] at a b c d e f;refine LD (v:=.tuple #[.agg #[u0,u1,u2,u3,u4,u5],.int .i64 ee]) ?_ rfl hR;simp only [LF] at h2 h3;simp [results,Tryz.results75,go_sem,h2,h3,a,b,c,d,e,f]
theorem ZlO (w:World) (hb:pA w F A n c bs) (hl:bs.length=19):
 Calls Tryz.prog 126 #[.slice A n c,.int .i64 19,.agg #[.int .i64 0,.int .i64 0,.int .i64 0,.int .i64 (-1),.int .i64 0,.int .i64 0],.func (.func 127) #[] #[]] w fun e w'=>Same w w' /\
  ((getP bs=none/\e=.returned (.tuple #[.agg #[.int .i64 0,.int .i64 0,.int .i64 0,.int .i64 0,.int .i64 0,.int .i64 0],.int .i64 41])) \/
   ∃ x,getP bs=some x/\e=.returned (.tuple #[.agg x.cells,.int .i64 0])):=by
 have I:n=19:=qt hb.len;subst I;have s:=(((iA w).alloc (.cells #[.int .i64 0,.int .i64 0,.int .i64 0,.int .i64 (-1),.int .i64 0,.int .i64 0] 145)).alloc (.cells #[.int .i64 0,.int .i64 0,.int .i64 0,.int .i64 0,.int .i64 0,.int .i64 0] 145)).alloc (.cells #[.int .i64 0,.int .i64 0,.int .i64 0,.int .i64 0,.int .i64 0,.int .i64 0] 145);have L:=qH s;have M:=qH (hb.same s);have N:=qH hl;clear hb s hl;go_enter Tryz.func126,Tryz.ntmps126;go_wp2_with fail;have t:=qH ((((jA w 145 #[.int .i64 0,.int .i64 0,.int .i64 0,.int .i64 (-1),.int .i64 0,.int .i64 0]).alloc (.cells #[.int .i64 0,.int .i64 0,.int .i64 0,.int .i64 0,.int .i64 0,.int .i64 0] 145)).alloc (.cells #[.int .i64 0,.int .i64 0,.int .i64 0,.int .i64 0,.int .i64 0,.int .i64 0] 145)));have u:=(jA (w.alloc (.cells #[.int .i64 0,.int .i64 0,.int .i64 0,.int .i64 (-1),.int .i64 0,.int .i64 0] 145)) 145 #[.int .i64 0,.int .i64 0,.int .i64 0,.int .i64 0,.int .i64 0,.int .i64 0]).alloc (.cells #[.int .i64 0,.int .i64 0,.int .i64 0,.int .i64 0,.int .i64 0,.int .i64 0] 145);have i:=jA ((w.alloc (.cells #[.int .i64 0,.int .i64 0,.int .i64 0,.int .i64 (-1),.int .i64 0,.int .i64 0] 145)).alloc (.cells #[.int .i64 0,.int .i64 0,.int .i64 0,.int .i64 0,.int .i64 0,.int .i64 0] 145)) 145 #[.int .i64 0,.int .i64 0,.int .i64 0,.int .i64 0,.int .i64 0,.int .i64 0];simp only [aB] at u i;have v:=qH u;have g:=qH i;clear u i;generalize hz:w.heap.size=z at *;generalize ((w.alloc (.cells #[.int .i64 0,.int .i64 0,.int .i64 0,.int .i64 (-1),.int .i64 0,.int .i64 0] 145)).alloc (.cells #[.int .i64 0,.int .i64 0,.int .i64 0,.int .i64 0,.int .i64 0,.int .i64 0] 145)).alloc (.cells #[.int .i64 0,.int .i64 0,.int .i64 0,.int .i64 0,.int .i64 0,.int .i64 0] 145)=q at *;refine (gM M qO).mono ?_;rintro e f ⟨r,rfl,hr,B,k⟩;have m:=k.alloc (.cells #[.pointer none,.pointer (some ⟨r,0,none⟩),.bool false] 237);have O:=B.lt;have P:q.heap.size<=f.heap.size:=k.size;have o:=g.lt;have D:Rdr (f.alloc (.cells #[.pointer none,.pointer (some ⟨r,0,none⟩),.bool false] 237)) (fun b=>(q.heap.size<=b/\b≠r)/\b<f.heap.size) r ⟨bs,0⟩:=by obtain ⟨A1,n1,c1,h1,h2⟩:=B;exact ⟨A1,n1,c1,h1.alloc _,(pA.mono h2 fun b hb h=>⟨h,hb⟩).same ((eA _ f).alloc _)⟩
 have R:=qH (show CR (f.alloc (.cells #[.pointer none,.pointer (some ⟨r,0,none⟩),.bool false] 237)) (fun b=>(q.heap.size<=b/\b≠r)/\b<f.heap.size) f.heap.size r bs false from ⟨jA f _ _,D,fun h=>h.1.2 rfl,fun h=>JH _ h.2⟩);have S:=qH m;have t:=qH (t.same m);have v:=qH (v.same m);have g:=qH (g.same m);have j:Hid (z+1≠f.heap.size/\z+1≠r/\z+2≠f.heap.size/\z+2≠r/\z≠f.heap.size/\z≠r/\z<=r/\z<=f.heap.size):=qH qO;have T:=qH (show z+2<q.heap.size from o);have U:(f.alloc (.cells #[.pointer none,.pointer (some ⟨r,0,none⟩),.bool false] 237)).heap.size=f.heap.size+1:=aB _ _;clear D B k m;go_upto_region 5 with fail;generalize a0:f.heap.size=z1 at *;generalize f.alloc (.cells #[.pointer none,.pointer (some ⟨r,0,none⟩),.bool false] 237)=w2 at *;go_wp2_with fail;refine (ZtV R N t (fun h=>by have:=h.1.1;have:=T.out;omega) (fun b hb h=>qt h.2)).mono ?_;rintro e C ⟨rfl,rest,G,H,h5,u3⟩;have V:=qH H;have E:Hid (Upd (fun b=>z<=b) w C):=qH (((L.trans S qf).mono (S':=fun b=>z<=b) qe).trans u3 fun b _ h=>qh j);have a:=qH (v.upd u3 (qh j));have d:=qH (g.upd u3 (qh j));have p:=G.cod.c2;clear G H u3;cases hg:getP bs with
 | none =>
   rw [hg] at p;simp only [GP] at p;have W:=d.cell 0;have X:=a.frozen 0;have Y:=a.cell 0;have Z:=d.cell 1;have e1:=a.frozen 1;have r1:=a.cell 1;have d2:=d.cell 2;have e2:=a.frozen 2;have r2:=a.cell 2;have d3:=d.cell 3;have e3:=a.frozen 3;have r3:=a.cell 3;have d4:=d.cell 4;have e4:=a.frozen 4;have r4:=a.cell 4;have d5:=d.cell 5;have e5:=a.frozen 5;have r5:=a.cell 5;go_wp2;have y:=xH C (z+1) [.int .i64 0,.int .i64 0,.int .i64 0,.int .i64 0,.int .i64 0,.int .i64 0];refine Zig rfl rfl a rfl ?_;exact ⟨(E.trans y fun b _ h=>qO).mono fun b hb h=>qO,.inl ⟨hg,rfl⟩⟩
 | some x =>
   rw [hg] at p;simp only [mS] at p;have b4:=V.out x hg;have l:=qH b4;have W:=l.c0;have X:=a.frozen 0;have Y:=a.cell 0;have Z:=l.c1;have e1:=a.frozen 1;have r1:=a.cell 1;have d2:=l.c2;have e2:=a.frozen 2;have r2:=a.cell 2;have d3:=l.c3;have e3:=a.frozen 3;have r3:=a.cell 3;have d4:=l.c4;have e4:=a.frozen 4;have r4:=a.cell 4;have d5:=l.c5;have e5:=a.frozen 5;have r5:=a.cell 5;go_wp2;have y:=xH C (z+1) [.int .i64 x.key,.int .i64 x.kind,.int .i64 x.num,.int .i64 x.blob,.int .i64 x.prev,.int .i64 x.next];refine Zig rfl rfl a rfl ?_;exact ⟨(E.trans y fun b _ h=>qO).mono fun b hb h=>qO,.inr ⟨x,hg,rfl⟩⟩
theorem ZnF (w:World) (hb:pA w F A n c bs) (hl:bs.length=19):
 Calls Tryz.prog 75 #[.slice A n c] w fun e w'=>Same w w' /\
  ((getP bs=none/\e=.returned (.tuple #[.agg #[.int .i64 0,.int .i64 0,.int .i64 0,.int .i64 0,.int .i64 0,.int .i64 0],.int .i64 41])) \/
   ∃ x,getP bs=some x/\e=.returned (.tuple #[.agg x.cells,.int .i64 0])):=by
 have f:=(iA w).alloc (.cells #[.int .i64 0,.int .i64 0,.int .i64 0,.int .i64 0,.int .i64 0,.int .i64 0] 145);have l:=qH f;have m:=qH (ZlO _ (hb.same f) hl);have o:=qH (jA w 145 #[.int .i64 0,.int .i64 0,.int .i64 0,.int .i64 0,.int .i64 0,.int .i64 0]);have p:(w.alloc (.cells #[.int .i64 0,.int .i64 0,.int .i64 0,.int .i64 0,.int .i64 0,.int .i64 0] 145)).heap.size=w.heap.size+1:=aB _ _;clear hb f;go_enter Tryz.func75,Tryz.ntmps75;go_wp2_with fail;refine m.mono ?_;generalize w.alloc (.cells #[.int .i64 0,.int .i64 0,.int .i64 0,.int .i64 0,.int .i64 0,.int .i64 0] 145)=G at *;rintro e k ⟨d,h⟩;have a:=qH (o.same d);have j:=qH (l.trans d qf);clear d;have q:=a.frozen 0;have r:=a.cell 0;have s:=a.frozen 1;have t:=a.cell 1;have u:=a.frozen 2;have v:=a.cell 2;have y:=a.frozen 3;have z:=a.cell 3;have B:=a.frozen 4;have C:=a.cell 4;have D:=a.frozen 5;have E:=a.cell 5;rcases h with ⟨i,rfl⟩ | ⟨x,i,rfl⟩
 · go_wp2;have g:=xH k w.heap.size [.int .i64 0,.int .i64 0,.int .i64 0,.int .i64 0,.int .i64 0,.int .i64 0];refine ZjO rfl rfl a rfl ?_;exact ⟨((ZI (S':=fun b=>b=w.heap.size) j qe).trans g qf).mono fun b hb h=>qO,.inl ⟨i,rfl⟩⟩
 unfold P1.cells;go_wp2;have g:=xH k w.heap.size [.int .i64 x.key,.int .i64 x.kind,.int .i64 x.num,.int .i64 x.blob,.int .i64 x.prev,.int .i64 x.next];refine ZjO rfl rfl a rfl ?_;exact ⟨((ZI (S':=fun b=>b=w.heap.size) j qe).trans g qf).mono fun b hb h=>qO,.inr ⟨x,i,rfl⟩⟩
end
end Go.Proofs.YtmkjfhnlnhceiaaGreatDoor
