/- Texts that the claim leans on: walks and plain laws, function by function. -/
import Derived.Test.YtmkjfhnlnhceiaaGreatDoorN32
set_option maxRecDepth 100000
set_option maxHeartbeats 16000000
namespace Go.Proofs.YtmkjfhnlnhceiaaGreatDoor
open Go.RowKit
attribute [local go_sem] Ybq
abbrev Recs:=List (Option (List UInt8))
def Zdm (keys:List ByteArray) (first n i:Nat) (p:GPr) (blob:Int):P1 :=
 ⟨ZaL keys p.key,p.val.kind,if 3<p.val.kind then 0 else p.val.num,blob,if 0<i then (first+i-1:Nat) else -1,if i+1<n then (first+i+1:Nat) else -1⟩
def Zlm (keys:List ByteArray) (first n i:Nat) (p:GPr) (S:Recs×Recs):Recs×Recs :=
 let b:=if 3<p.val.kind then Zbz S.2 (enc p.val) else (S.2,-1)
 (S.1++[some (ZbO (Zdm keys first n i p b.2))],b.1)
theorem Zks (keys:List ByteArray) (first n:Nat) (p:GPr):∀ (ds:List GPr) (i:Nat) (P B:Recs),ZgJ keys first n i (ds++[p]) P B=Zlm keys first n (i+ds.length) p (ZgJ keys first n i ds P B)
 | [],_,_,_=>rfl
 | a::ds,i,P,B=>by rw [YaE,ZgJ,ZgJ];rw [Zks keys first n p ds (i+1),Yao,show i+1+ds.length=i+(ds.length+1) by omega]
theorem ZmI (keys:List ByteArray) (first n:Nat):∀ (ds:List GPr) (i:Nat) (P B:Recs),(ZgJ keys first n i ds P B).1.length=P.length+ds.length
 | [],_,_,_=>rfl
 | a::ds,i,P,B=>by rw [ZgJ];rw [ZmI keys first n ds (i+1),Yaf,Yao,Yao,YaS];omega
theorem ZmJ (P:Recs) (d:List UInt8):putAt P P.length d=P++[some d]:=by unfold putAt;rw [show P.length+1-P.length=1 by omega,List.replicate_one,YcU _ _ (Yae _),YbC,Yam]
structure ZrT (keys:List ByteArray) (x:PR):Prop where
 key:∃ i:Nat,idsF keys x.key=some (.int .i64 (i:Int))/\ZaL keys x.key=i/\i<200
 klen:x.key.size<=40
 kind:1<=x.g.kind/\x.g.kind<9
 text:x.g.text.size<=9223372036854775807
 texts:∀ s∈x.g.texts,s.size<=9223372036854775807
 enc:(enc x.g).length<=140737488355328
structure LayI (w:World) (B:Nat) (q:BuP) (ns:Nat->List ByteArray) (ps:List PR) (i:Nat) (wr:World) (qr:BuP):Prop where
 m:BuM wr B qr ns
 n:BuN w q wr qr
 go:ZgJ (ns 2) (q.l 5).length ps.length 0 ((ps.take i).map PR.dat) ((q.l 5).map BS.rc) ((q.l 6).map BS.rc)=((qr.l 5).map BS.rc,(qr.l 6).map BS.rc)
 all:∀ x∈qr.l 6,x.A≠none
 oth:∀ j,j≠5->j≠6->qr.l j=q.l j
section
variable {w wr wx wy wz:World} {B i:Nat} {q qr qx qy:BuP} {ns:Nat->List ByteArray} {ps:List PR} {x:PR}
theorem LayI.len (h:LayI w B q ns ps i wr qr) (hi:i<=ps.length):(qr.l 5).length=(q.l 5).length+i:=by have:=YaC (fun S=>S.1.length) h.go;simp only at this;rw [ZmI,Yag,Yag,Yag,YaJ] at this;omega
theorem LayI.step (h:LayI w B q ns ps i wr qr) (hx:ps[i]?=some x) :
 ZgJ (ns 2) (q.l 5).length ps.length 0 ((ps.take (i+1)).map PR.dat) ((q.l 5).map BS.rc) ((q.l 6).map BS.rc)=Zlm (ns 2) (q.l 5).length ps.length i x.dat ((qr.l 5).map BS.rc,(qr.l 6).map BS.rc):=by
 have a:i<ps.length:=(Yaq.1 hx).1;rw [Ybo,hx,Yem,YaG,YaF,YcG,Zks,h.go,Yag,YaJ,YbJ,YdD qO]
theorem LayI.num (h:LayI w B q ns ps i wr qr) (hx:ps[i]?=some x) (hk:¬ 3<x.g.kind) (hn:BuN wr qr wz qr) (ha:BuA wz B qr ns 5 (putAt ((qr.l 5).map BS.rc) ((q.l 5).length+i) (ZbO (Zdm (ns 2) (q.l 5).length ps.length i x.dat (-1)))) wx qx):LayI w B q ns ps (i+1) wx qx where
 m:=ha.m
 n:=(h.n.trans hn).trans ha.n
 go:=by
  have b:i<ps.length:=(Yaq.1 hx).1;have a:(q.l 5).length+i=((qr.l 5).map BS.rc).length:=by rw [Yag,h.len qO]
  rw [h.step hx,ha.at_,ha.oth 6 qD,a,ZmJ];unfold Zlm;rw [Yab (show ¬ 3<x.dat.val.kind from hk)]
 all:=by rw [ha.oth 6 qD];exact h.all
 oth j h5 h6:=by rw [ha.oth j h5];exact h.oth j h5 h6
theorem LayI.blob (h:LayI w B q ns ps i wr qr) (hx:ps[i]?=some x) (hk:3<x.g.kind) (h6:(qy.l 6).map BS.rc=(Zbz ((qr.l 6).map BS.rc) (enc x.g)).1) (ho:∀ j,j≠6->qy.l j=qr.l j) (hall:∀ x∈qy.l 6,x.A≠none) (hn:BuN wr qr wz qy)
 (ha:BuA wz B qy ns 5 (putAt ((qr.l 5).map BS.rc) ((q.l 5).length+i) (ZbO (Zdm (ns 2) (q.l 5).length ps.length i x.dat (Zbz ((qr.l 6).map BS.rc) (enc x.g)).2))) wx qx):LayI w B q ns ps (i+1) wx qx where
 m:=ha.m
 n:=(h.n.trans hn).trans ha.n
 go:=by
  have b:i<ps.length:=(Yaq.1 hx).1;have a:(q.l 5).length+i=((qr.l 5).map BS.rc).length:=by rw [Yag,h.len qO]
  rw [h.step hx,ha.at_,ha.oth 6 qD,h6,a,ZmJ];unfold Zlm;rw [Yac (show 3<x.dat.val.kind from hk)];rfl
 all:=by rw [ha.oth 6 qD];exact hall
 oth j h5 h6:=by rw [ha.oth j h5,ho j h6];exact h.oth j h5 h6
end
theorem ZrU {y:P1} (h1:0<=y.key/\y.key<200) (h2:1<=y.kind/\y.kind<9) (h3:y.kind<4->y.blob = -1) (h4:¬ y.kind<4->y.num=0/\0<=y.blob/\y.blob<65536) (h5 : -1<=y.prev/\y.prev<65536) (h6 : -1<=y.next/\y.next<65536):ZbN y=true:=by
 unfold ZbN;rw [Zai.2 h1,Zai.2 h2,Zai.2 h5,Zai.2 h6];by_cases a:y.kind<4
 · rw [Yac a,h3 a];rfl
 rw [Yab a,(h4 a).1,Zai.2 (h4 a).2];rfl
theorem ZmK {keys:List ByteArray} {x:PR} (h:ZrT keys x) {first n i:Nat} (hi:i<n) (hf:first+n<=65536) {b:Int} (hb:if 3<x.g.kind then 0<=b/\b<65536 else b = -1):ZbN (Zdm keys first n i x.dat b)=true:=by
 obtain ⟨k,_,m,j⟩:=h.key;have a:=h.kind;have c:(Zdm keys first n i x.dat b).kind=x.g.kind:=rfl;have e:(Zdm keys first n i x.dat b).num=if 3<x.g.kind then 0 else x.g.num:=rfl;have l:(Zdm keys first n i x.dat b).blob=b:=rfl;refine ZrU (show 0<=ZaL keys x.key/\ZaL keys x.key<200 by omega) (c ▸ a) (fun d=>?_) (fun d=>?_) ?_ ?_
 · rw [c] at d;rw [Yab qO] at hb;exact hb
 · rw [c] at d;have f:3<x.g.kind:=qO;rw [Yac f] at hb e;exact ⟨e,hb⟩
 · show -1<=(if 0<i then ((first+i-1:Nat):Int) else -1)/\(if 0<i then ((first+i-1:Nat):Int) else -1)<65536;split <;> omega
 show -1<=(if i+1<n then ((first+i+1:Nat):Int) else -1)/\(if i+1<n then ((first+i+1:Nat):Int) else -1)<65536;split <;> omega
theorem Zqj {Bl:Recs} (hl:Bl.length<=65536) (d:List UInt8):0<=(Zbz Bl d).2/\(Zbz Bl d).2<65536:=by
 unfold Zbz;split
 · exact ⟨by simp,by simp⟩
 rename_i h;have:(ZaF d.length true Bl.length d).length≠0:=by rw [Zli _ _ _ _ qO];omega
 simp only;omega
def BuP.cells (q:BuP) (c7 c8:Value):Array Value:=#[.pointer (some ⟨q.t 0,0,none⟩),.pointer (some ⟨q.t 1,0,none⟩),.pointer (some ⟨q.t 2,0,none⟩),.pointer (some ⟨q.f 3,0,none⟩),.pointer (some ⟨q.f 4,0,none⟩),.pointer (some ⟨q.f 5,0,none⟩),.pointer (some ⟨q.f 6,0,none⟩),c7,c8]
def LayR (w:World) (B:Nat) (q:BuP) (ns:Nat->List ByteArray) (ps:List PR) (e:Ending) (w':World):Prop :=
 e=.returned (.int .i64 (if ps=[] then -1 else ((q.l 5).length:Int)))/\∃ q',LayI w B q ns ps ps.length w' q'
theorem Zkt (w:World) {B b n c:Nat} {q:BuP} {ns:Nat->List ByteArray} {c7 c8:Value} {A:Option Addr} {ps:List PR} (h:BuM w B q ns) (hB:B<=w.heap.size) (hb:Blk w b 73 (q.cells c7 c8)) (hp:RdPs w (fun b=>b<B) A n c ps)
 (hall:∀ x∈q.l 6,x.A≠none) (hok:∀ x∈ps,ZrT (ns 2) x) (hlen:(q.l 5).length+ps.length<=65536) :
 Calls Tryz.prog 55 #[.pointer (some ⟨b,0,none⟩),.slice A n c] w (LayR w B q ns ps):=by
 obtain ⟨OR,b7⟩:∃ OR,LayR w B q ns ps=OR:=⟨_,rfl⟩
 rw [b7];have bb:=qH b7;clear b7;have hn:=hp.len;subst hn;have HM:=qH h;have HB:=qH hB;have bc:=qH hb;have HP:=qH hp;have bd:=qH hall;have bv:=qH hok;have HC:=qH (Zbl w (h.fl 5 qD));have q5:=hb.c5;obtain ⟨r,b8⟩:∃ r,(q.l 5).length=r:=⟨_,rfl⟩
 rw [b8] at hlen HC;have am:=qH b8;obtain ⟨N,hN⟩:∃ N,ps.length=N:=⟨_,rfl⟩
 rw [hN] at hlen ⊢;have HN:=qH hN;clear h hB hb hp hall hok b8 hN;go_enter Tryz.func55,Tryz.ntmps55;go_wp2_with fail;refine HC.mono ?_;rintro e wc ⟨rfl,rfl⟩;clear q5 HC;go_wp2_with fail;go_loopg [23] N (fun g ci wr=>∃ i:Nat,N-i=g/\i<=N/\ci=.int .i64 (i:Int)/\Hid (∃ E,LayI w B q ns ps i wr E))
 case atStart=>exact ⟨0,rfl,Yah _,rfl,qH ⟨q,HM,YeK _ _,rfl,bd,fun _ _ _=>rfl⟩⟩
 obtain ⟨i,rfl,hi,rfl,I⟩:=hrel;by_cases bf:i<N
 · obtain ⟨E,hK⟩:=I.out;have I:=qH hK;have an:=HP.upd hK.n.up (fun k hk hs=>by have:=(HM.ge hs).1;omega);obtain ⟨bA,o,x,rfl,cj,_,hx,hm,p0,p1,p2,p3,p4,p5⟩:=an.at_ (i:=i) (by rw [HN.out];exact bf);have hok:=bv.out x hm;obtain ⟨H,bt,bu,cl⟩:=hok.key;have W:Blk wr b 73 (q.cells c7 c8):=bc.upd hK.n.up (HM.far bc qD qD);have ac:=qH W;have HF:Hid (∀ O,Same wr O->Calls Tryz.prog 56 #[.pointer (some ⟨q.t 2,0,none⟩),.string x.key] O fun e w'=>e=.returned (.tuple #[.int .i64 (H:Int),.bool true])/\O=w'):=qH fun O hs=>by have:=ZeT ((hK.m.tb 2 qD).same hs) hok.klen;rw [hK.n.t,bt] at this;exact this
   have HX:=qH hx;have s:=qH hok;have ao:=qH bu;have HV:=qH (an.val x hm);have j1:(i:Int)<(N:Int):=qO;clear hK an cj hx hm hok bt bu W;obtain ⟨d,g,A1,n1,R,A2,n2,S⟩:=x;simp only at p0 p1 p2 p3 p4 p5 HF HV s ao;go_upto_region 5 with fail;have ap:=Yad wr 53 #[.string d,.int .i64 g.kind,.int .i64 g.num,.string g.text,.slice A1 n1 R,.slice A2 n2 S];have ad:=(Yaa (fun _=>False) wr).alloc (.cells #[.string d,.int .i64 g.kind,.int .i64 g.num,.string g.text,.slice A1 n1 R,.slice A2 n2 S] 53);generalize wr.alloc (.cells #[.string d,.int .i64 g.kind,.int .i64 g.num,.string g.text,.slice A1 n1 R,.slice A2 n2 S] 53)=w1 at *;generalize wr.heap.size=xb at *;have bw:=qH ap;have bx:=qH ad;have HF:=qH fun O (hs:Same w1 O)=>HF.out O (ad.trans hs fun _ _ f=>f);have r2:=(ac.same ad).c2;have x0:=ap.c0;clear ap ad p0 p1 p2 p3 p4 p5;go_quiet (first | exact Calls.quiet_of_same ((HF.out _ (Yaa _ w1)).mono fun e w' h=>⟨h.1,h.2.symm⟩) | exact Calls.quiet_of_same ((HF.out _ ((Yaa _ w1).drewN _)).mono fun e w' h=>⟨h.1,h.2.symm⟩));have aq:Same wr (w1.drewN nq):=bx.trans ((Yaa (fun _=>False) w1).drewN nq) fun _ _ f=>f;have ae:=bw.same ((Yaa (fun _=>False) w1).drewN nq);generalize w1.drewN nq=w2 at *;have x1:=ae.c1;have x2:=ae.c2;clear r2 x0;go_upto_region 7 with fail;have W:=Yad w2 145 #[.int .i64 H,.int .i64 g.kind,.int .i64 g.num,.int .i64 (-1),.int .i64 (-1),.int .i64 (-1)];have bg:=aq.alloc (.cells #[.int .i64 H,.int .i64 g.kind,.int .i64 g.num,.int .i64 (-1),.int .i64 (-1),.int .i64 (-1)] 145);have ar:=ae.same ((Yaa (fun _=>False) w2).alloc (.cells #[.int .i64 H,.int .i64 g.kind,.int .i64 g.num,.int .i64 (-1),.int .i64 (-1),.int .i64 (-1)] 145));have bh:wr.heap.size<=w2.heap.size:=aq.size;generalize w2.alloc (.cells #[.int .i64 H,.int .i64 g.kind,.int .i64 g.num,.int .i64 (-1),.int .i64 (-1),.int .i64 (-1)] 145)=w3 at *;generalize w2.heap.size=y at *;have af:=qH bg;have ag:=qH W;have ah:=qH ar;have ai:=qH bh;have x1:=ar.c1;clear bg W ar bh aq ae x2;by_cases hk:3<g.kind
   focus
    have x2:=ah.c2;have x3:=ah.c3;have x4:=ah.c4;have x5:=ah.c5;have HE:=qH (Ziy w3 (HV.same af) s.text s.texts);have L:=qH hk;have au:=am;go_wp2_with fail;refine HE.mono ?_;rintro e w4 ⟨v,rfl,p,a9⟩;obtain ⟨A9,c9,rfl⟩:=Zad p;have av:=qH p;have bi:=qH (af.trans a9 fun _ _ f=>f);have X:=qH (ag.same a9);have z2:=(ag.same a9).frozen 2;have s2:=(ag.same a9).c2;clear p a9 x1 x2 x3 x4 x5;go_upto_region 10 with fail;have bj:Blk (w4.setCell ⟨y,2,none⟩ (.int .i64 0)) y 145 #[.int .i64 H,.int .i64 g.kind,.int .i64 0,.int .i64 (-1),.int .i64 (-1),.int .i64 (-1)]:=X.put 2 (.int .i64 0);have Y:=bi.putNew (i:=2) ai.out (.int .i64 0);have bk:=Zae av.out ((Yaa (fun k=>k=y) w4).put1 (i:=2) (.int .i64 0)) fun k hk e=>X.ne_own av.out qD (e ▸ hk);generalize w4.setCell ⟨y,2,none⟩ (.int .i64 0)=w5 at *;have aw:=I.m.same Y;have ax:=qH (ZmC w5 aw (Yaj (Yaj HB I.n.up.size) Y.size) I.all (Zau.base (Zau.of bk rfl) (Yah _)) s.enc);rw [I.n.f] at ax;have r6:=(ac.same Y).c6;have ay:=qH bj;have bz:=qH Y;have bm:=qH aw;clear bj Y bk aw z2 s2;go_wp2_with fail;refine ax.mono ?_;rintro e w6 ⟨er,rfl,qy,b9,aa⟩;have aj:=ay.upd b9.n.up (bm.far ay qD qD);have z3:=aj.frozen 3;have s3:=aj.c3;have T:=qH b9;have Z:=qH aa;have az:=qH aj;obtain ⟨a,F⟩:∃ a,(Zbz ((E.l 6).map BS.rc) (enc g)).2=a:=⟨_,rfl⟩
    rw [F];have b0:=qH F;clear b9 aa aj ax r6 F;go_upto_region 11 with fail;obtain ⟨G,P⟩:∃ G:Int,0=G:=⟨_,rfl⟩
    have a0:Blk (w6.setCell ⟨y,3,none⟩ (.int .i64 a)) y 145 #[.int .i64 H,.int .i64 g.kind,.int .i64 G,.int .i64 a,.int .i64 (-1),.int .i64 (-1)]:=P ▸ az.put 3 (.int .i64 a);have b1:=(Yaa (fun k=>k=y) w6).put1 (i:=3) (.int .i64 a);generalize w6.setCell ⟨y,3,none⟩ (.int .i64 a)=w7 at *;have a1:=qH (T.m.turn az ⟨qD,qD,qD,qD,qD⟩ b1);have a2:=((((YeK wr E).same bz).trans T.n).new b1 ai)
    have a3:=qH a2;have z:=qH a0;have HL:Hid (∀ wz,BuN wr E wz qy->∀ O qx,BuA wz B qy ns 5 (putAt ((E.l 5).map BS.rc) (r+i) (ZbO (Zdm (ns 2) r N i (PR.dat ⟨d,g,A1,n1,R,A2,n2,S⟩) a))) O qx->LayI w B q ns ps (i+1) O qx):=qH fun wz hn O qx ha=>by refine I.blob HX L T.at_ T.oth Z hn ?_;rw [b0.out,au.out,HN.out];exact ha
    have bn:Hid (ZbN (Zdm (ns 2) r N i (PR.dat ⟨d,g,A1,n1,R,A2,n2,S⟩) a)=true):=qH (ZmK s qO qO (by rw [Yac L.out,<-b0.out];exact Zqj (by rw [Yag];exact (I.m.fl 6 qD).len) _))
    have ak:Hid (Zdm (ns 2) r N i (PR.dat ⟨d,g,A1,n1,R,A2,n2,S⟩) a=⟨H,g.kind,G,a,if 0<i then (r+i-1:Nat) else -1,if i+1<N then (r+i+1:Nat) else -1⟩):=qH (by
     have e:(if 3<g.kind then (0:Int) else g.num)=G:=by rw [Yac L.out];exact P
     show P1.mk (ZaL (ns 2) d) g.kind (if 3<g.kind then 0 else g.num) a _ _=_;rw [ao.out,e])
    have HQ:Hid ((qy.l 5).map BS.rc=(E.l 5).map BS.rc):=qH (by rw [T.oth 5 qD]);clear a0 b1 a2 z3 s3 b0 T az Z ay bm av X bi HE P;generalize Zdm (ns 2) r N i (PR.dat ⟨d,g,A1,n1,R,A2,n2,S⟩) a=ch at *
   rotate_left
   focus
    have L:=qH hk;have au:=am;go_upto_region 11 with fail;obtain ⟨G,P⟩:∃ G:Int,g.num=G:=⟨_,rfl⟩
    obtain ⟨a,F⟩:∃ a:Int,-1=a:=⟨_,rfl⟩
    have a0:Blk w3 y 145 #[.int .i64 H,.int .i64 g.kind,.int .i64 G,.int .i64 a,.int .i64 (-1),.int .i64 (-1)]:=by have:=ag.out;rw [P] at this;subst F;exact this
    obtain ⟨qy,ab⟩:∃ qy,E=qy:=⟨_,rfl⟩
    have a1:Hid (BuM w3 B qy ns):=qH (ab ▸ I.m.same af);have a2:BuN wr E w3 qy:=ab ▸ (YeK wr E).same af.out;have a3:=qH a2;have z:=qH a0;have HL:Hid (∀ wz,BuN wr E wz qy->∀ O qx,BuA wz B qy ns 5 (putAt ((E.l 5).map BS.rc) (r+i) (ZbO (Zdm (ns 2) r N i (PR.dat ⟨d,g,A1,n1,R,A2,n2,S⟩) a))) O qx->LayI w B q ns ps (i+1) O qx):=qH fun wz hn O qx ha=>by subst ab;subst F;refine I.num HX L hn ?_;rw [au.out,HN.out];exact ha
    have bn:Hid (ZbN (Zdm (ns 2) r N i (PR.dat ⟨d,g,A1,n1,R,A2,n2,S⟩) a)=true):=qH (ZmK s qO qO (by rw [Yab L.out];exact F.symm))
    have ak:Hid (Zdm (ns 2) r N i (PR.dat ⟨d,g,A1,n1,R,A2,n2,S⟩) a=⟨H,g.kind,G,a,if 0<i then (r+i-1:Nat) else -1,if i+1<N then (r+i+1:Nat) else -1⟩):=qH (by
     have e:(if 3<g.kind then (0:Int) else g.num)=G:=by rw [Yab L.out];exact P
     show P1.mk (ZaL (ns 2) d) g.kind (if 3<g.kind then 0 else g.num) a _ _=_;rw [ao.out,e])
    have HQ:Hid ((qy.l 5).map BS.rc=(E.l 5).map BS.rc):=qH (by rw [ab]);clear a0 a2 F P ab x1;generalize w3=w7 at *;generalize Zdm (ns 2) r N i (PR.dat ⟨d,g,A1,n1,R,A2,n2,S⟩) a=ch at *
   rotate_left
   all_goals
    obtain ⟨U,V⟩:∃ U:Int,(if 0<i then ((r+i-1:Nat):Int) else -1)=U:=⟨_,rfl⟩
    obtain ⟨nx,u⟩:∃ nx:Int,(if i+1<N then ((r+i+1:Nat):Int) else -1)=nx:=⟨_,rfl⟩
    rw [V,u] at ak;have ca:=qH u;clear u;have s4:=z.c4;have z4:=z.frozen 4;by_cases R:0<i
    focus
     rw [Yac R] at V;have e4:(r:Int)+(i:Int)-1=U:=qO;have cb:=qH e4;have b2:(0:Int)<(i:Int):=qO;clear e4 V;go_upto_region 13 with fail;rw [cb.out];have a4:Blk (w7.setCell ⟨y,4,none⟩ (.int .i64 U)) y 145 #[.int .i64 H,.int .i64 g.kind,.int .i64 G,.int .i64 a,.int .i64 U,.int .i64 (-1)]:=z.put 4 (.int .i64 U);have b3:=(Yaa (fun k=>k=y) w7).put1 (i:=4) (.int .i64 U);have a5:=qH (a1.turn z ⟨qD,qD,qD,qD,qD⟩ b3);have a6:=qH (a3.new b3 ai);have C:=qH a4;clear a4 b3 s4 z4 a1 a3 z b2;generalize w7.setCell ⟨y,4,none⟩ (.int .i64 U)=w8 at *
    rotate_left
    focus
     rw [Yab R] at V;have b2:¬ (0:Int)<(i:Int):=qO;have a4:Blk w7 y 145 #[.int .i64 H,.int .i64 g.kind,.int .i64 G,.int .i64 a,.int .i64 U,.int .i64 (-1)]:=V ▸ z.out;have C:=qH a4;have a5:=a1;have a6:=a3;clear a4 V z a1 a3 s4 z4;go_upto_region 13 with fail;clear b2;generalize w7=w8 at *
    rotate_left
   all_goals
    have u:=ca.out;have s5:=C.c5;have z5:=C.frozen 5;by_cases S:i+1<N
    focus
     rw [Yac S] at u;have cc:Hid ((r:Int)+(i:Int)+1=nx):=qH qO;have b4:(i:Int)+1<(N:Int):=qO;clear u;go_upto_region 15 with fail;rw [cc.out];have a7:Blk (w8.setCell ⟨y,5,none⟩ (.int .i64 nx)) y 145 #[.int .i64 H,.int .i64 g.kind,.int .i64 G,.int .i64 a,.int .i64 U,.int .i64 nx]:=C.put 5 (.int .i64 nx);have b5:=(Yaa (fun k=>k=y) w8).put1 (i:=5) (.int .i64 nx);have bo:=qH (a5.turn C ⟨qD,qD,qD,qD,qD⟩ b5);have bp:=qH (a6.new b5 ai);have M:=qH a7;clear a7 b5 s5 z5 a5 a6 C b4;generalize w8.setCell ⟨y,5,none⟩ (.int .i64 nx)=w9 at *
    rotate_left
    focus
     rw [Yab S] at u;have b4:¬ (i:Int)+1<(N:Int):=qO;have a7:Blk w8 y 145 #[.int .i64 H,.int .i64 g.kind,.int .i64 G,.int .i64 a,.int .i64 U,.int .i64 nx]:=u ▸ C.out;have M:=qH a7;have bo:=a5;have bp:=a6;clear a7 u C a5 a6 s5 z5;go_upto_region 15 with fail;clear b4;generalize w8=w9 at *
    rotate_left
   all_goals
    have t0:=M.c0;have t1:=M.c1;have t2:=M.c2;have t3:=M.c3;have t4:=M.c4;have t5:=M.c5;have al:=ZmH w9 (x:=⟨H,g.kind,G,a,U,nx⟩) (ak.out ▸ bn.out);obtain ⟨D,hD⟩:∃ D,ZbO ⟨H,g.kind,G,a,U,nx⟩=D:=⟨_,rfl⟩
    have bq:D.length=19:=hD ▸ ZiN _;rw [hD] at al;have cd:=qH ((YaC ZbO ak.out).trans hD);simp only at al;have br:=qH al;clear al hD;go_wp2_with fail;refine br.mono ?_;rintro e wa ⟨v,rfl,p,ba⟩;obtain ⟨A8,cm,rfl⟩:=Zad p;have bs:=bo.same ba;have a8:=bp.same ba;have b6:=Zhv wa bs (Yaj (Yaj HB I.n.up.size) a8.up.size) (j:=5) qD qD (Zau.of p rfl) (by rw [bq];rfl) (r+i) qO;rw [a8.f,I.n.f,HQ.out,Ygn] at b6;have r5:wa.cell? ⟨b,5,none⟩=some (.pointer (some ⟨q.f 5,0,none⟩)):=(ac.upd a8.up (I.m.far ac qD qD)).cell 5;have ce:=qH b6;have cf:=qH a8;generalize D.length=DL at *;clear bq p ba bs a8 b6 t0 t1 t2 t3 t4 t5 br;go_wp2_with fail;refine (ZbP wa).mono ?_;rintro e wb ⟨rfl,rfl⟩;go_wp2_with fail;refine ce.mono ?_;rintro e wd ⟨rfl,qx,hA⟩;have HA:=qH hA;clear hA r5;go_wp2_with fail;refine (ZbP wd).mono ?_;rintro e we ⟨rfl,rfl⟩;go_wp2;go_roundg (N-(i+1))
    case measure=>omega
    case rel=>exact ⟨i+1,rfl,qO,by go_num,qH ⟨qx,HL.out _ cf _ _ (cd.symm ▸ HA.out)⟩⟩
 have cg:N=i:=qO;subst cg;clear bf hi;have j1:¬ (N:Int)<(N:Int):=qO;by_cases h0:N=0
 · subst h0;go_wp2;refine (show OR (.returned (.int .i64 (-1))) wr from ?_);rw [<- bb.out];obtain ⟨E,hK⟩:=I.out;have:=HN.out;exact ⟨by rw [Yac (YcI.1 this)],E,this.symm ▸ hK⟩
 have ck:((N:Int)=0)=False:=by simp [h0]
 go_wp2;refine (show OR (.returned (.int .i64 (r:Int))) wr from ?_);rw [<- bb.out];obtain ⟨E,hK⟩:=I.out;have hh:=HN.out;exact ⟨by rw [Yab (fun e=>h0 (by rw [<- hh,e];rfl)),am.out],E,hh.symm ▸ hK⟩
end Go.Proofs.YtmkjfhnlnhceiaaGreatDoor
