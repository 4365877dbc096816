/- Lemmas: walks and plain laws. -/
import Derived.Test.YtmkjfhnlnhceiaaGreatDoorF25
set_option maxRecDepth 100000
set_option maxHeartbeats 16000000
namespace Go.Proofs.YtmkjfhnlnhceiaaGreatDoor
variable {w wv wE:World} {B g k rb:Nat} {e:TypeId} {cs:Array Value} {hd:Int} {c0 c1:Value}
section
open Go.RowKit
attribute [local go_sem] oD
abbrev Recs:=List (Option (List UInt8))
def fG (keys:List ByteArray) (first n i:Nat) (p:GPr) (blob:Int):P1 :=
 ⟨jB keys p.key,p.val.kind,if 3<p.val.kind then 0 else p.val.num,blob,if 0<i then (first+i-1:Nat) else -1,if i+1<n then (first+i+1:Nat) else -1⟩
def QQ (keys:List ByteArray) (first n i:Nat) (p:GPr) (S:Recs×Recs):Recs×Recs :=
 let b:=if 3<p.val.kind then iF S.2 (enc p.val) else (S.2,-1)
 (S.1++[some (FC (fG keys first n i p b.2))],b.1)
theorem aZ (keys:List ByteArray) (first n:Nat) (p:GPr):∀ (ds:List GPr) (i:Nat) (P B:Recs),xG keys first n i (ds++[p]) P B=QQ keys first n (i+ds.length) p (xG keys first n i ds P B)
 | [],_,_,_=>rfl
 | a::ds,i,P,B=>by rw [EB,xG,xG];rw [aZ keys first n p ds (i+1),BA,show i+1+ds.length=i+(ds.length+1) by omega]
theorem bZ (keys:List ByteArray) (first n:Nat):∀ (ds:List GPr) (i:Nat) (P B:Recs),(xG keys first n i ds P B).1.length=P.length+ds.length
 | [],_,_,_=>rfl
 | a::ds,i,P,B=>by rw [xG];rw [bZ keys first n ds (i+1),kA,BA,BA,mC];omega
theorem cZ (P:Recs) (d:List UInt8):putAt P P.length d=P++[some d]:=by unfold putAt;rw [show P.length+1-P.length=1 by omega,List.replicate_one,fI _ _ (lA _),SD,CA]
structure uO (keys:List ByteArray) (x:PR):Prop where
 key:∃ i:Nat,idsF keys x.key=some (.int .i64 (i:Int))/\jB keys x.key=i/\i<200
 klen:x.key.size<=40
 kind:1<=x.g.kind/\x.g.kind<9
 text:x.g.text.size<=9223372036854775807
 texts:∀ s∈x.g.texts,s.size<=9223372036854775807
 enc:(enc x.g).length<=140737488355328
structure LayI (w:World) (B:Nat) (q:BuP) (ns:Nat->List ByteArray) (ps:List PR) (i:Nat) (wr:World) (qr:BuP):Prop where
 m:BuM wr B qr ns
 n:BuN w q wr qr
 go:xG (ns 2) (q.l 5).length ps.length 0 ((ps.take i).map PR.dat) ((q.l 5).map BS.rc) ((q.l 6).map BS.rc)=((qr.l 5).map BS.rc,(qr.l 6).map BS.rc)
 all:∀ x∈qr.l 6,x.A≠none
 oth:∀ j,j≠5->j≠6->qr.l j=q.l j
section
variable {w wr wx wy wz:World} {B i:Nat} {q qr qx qy:BuP} {ns:Nat->List ByteArray} {ps:List PR} {x:PR}
theorem LayI.len (h:LayI w B q ns ps i wr qr) (hi:i<=ps.length):(qr.l 5).length=(q.l 5).length+i:=by have:=tB (fun S=>S.1.length) h.go;simp only at this;rw [bZ,nA,nA,nA,RB] at this;omega
theorem LayI.step (h:LayI w B q ns ps i wr qr) (hx:ps[i]?=some x):
 xG (ns 2) (q.l 5).length ps.length 0 ((ps.take (i+1)).map PR.dat) ((q.l 5).map BS.rc) ((q.l 6).map BS.rc)=QQ (ns 2) (q.l 5).length ps.length i x.dat ((qr.l 5).map BS.rc,(qr.l 6).map BS.rc):=by
 have a:i<ps.length:=(IA.1 hx).1;rw [eD,hx,wL,DB,CB,TG,aZ,h.go,nA,RB,AE,IJ qO]
theorem LayI.num (h:LayI w B q ns ps i wr qr) (hx:ps[i]?=some x) (hk:¬ 3<x.g.kind) (hn:BuN wr qr wz qr) (ha:BuA wz B qr ns 5 (putAt ((qr.l 5).map BS.rc) ((q.l 5).length+i) (FC (fG (ns 2) (q.l 5).length ps.length i x.dat (-1)))) wx qx):LayI w B q ns ps (i+1) wx qx where
 m:=ha.m
 n:=(h.n.trans hn).trans ha.n
 go:=by
  have b:i<ps.length:=(IA.1 hx).1;have a:(q.l 5).length+i=((qr.l 5).map BS.rc).length:=by rw [nA,h.len qO]
  rw [h.step hx,ha.at_,ha.oth 6 qD,a,cZ];unfold QQ;rw [aA (show ¬ 3<x.dat.val.kind from hk)]
 all:=by rw [ha.oth 6 qD];exact h.all
 oth j h5 h6:=by rw [ha.oth j h5];exact h.oth j h5 h6
theorem LayI.blob (h:LayI w B q ns ps i wr qr) (hx:ps[i]?=some x) (hk:3<x.g.kind) (h6:(qy.l 6).map BS.rc=(iF ((qr.l 6).map BS.rc) (enc x.g)).1) (ho:∀ j,j≠6->qy.l j=qr.l j) (c:∀ x∈qy.l 6,x.A≠none) (hn:BuN wr qr wz qy)
 (ha:BuA wz B qy ns 5 (putAt ((qr.l 5).map BS.rc) ((q.l 5).length+i) (FC (fG (ns 2) (q.l 5).length ps.length i x.dat (iF ((qr.l 6).map BS.rc) (enc x.g)).2))) wx qx):LayI w B q ns ps (i+1) wx qx where
 m:=ha.m
 n:=(h.n.trans hn).trans ha.n
 go:=by
  have b:i<ps.length:=(IA.1 hx).1;have a:(q.l 5).length+i=((qr.l 5).map BS.rc).length:=by rw [nA,h.len qO]
  rw [h.step hx,ha.at_,ha.oth 6 qD,h6,a,cZ];unfold QQ;rw [gA (show 3<x.dat.val.kind from hk)];rfl
 all:=by rw [ha.oth 6 qD];exact c
 oth j h5 h6:=by rw [ha.oth j h5,ho j h6];exact h.oth j h5 h6
end
theorem ZsK {y:P1} (h1:0<=y.key/\y.key<200) (h2:1<=y.kind/\y.kind<9) (h3:y.kind<4->y.blob = -1) (h4:¬ y.kind<4->y.num=0/\0<=y.blob/\y.blob<65536) (h5 : -1<=y.prev/\y.prev<65536) (h6 : -1<=y.next/\y.next<65536):TD y=true:=by
 unfold TD;rw [NB.2 h1,NB.2 h2,NB.2 h5,NB.2 h6];by_cases a:y.kind<4
 · rw [gA a,h3 a];rfl
 rw [aA a,(h4 a).1,NB.2 (h4 a).2];rfl
theorem dZ {keys:List ByteArray} {x:PR} (h:uO keys x) {first n i:Nat} (hi:i<n) (hf:first+n<=65536) {b:Int} (hb:if 3<x.g.kind then 0<=b/\b<65536 else b = -1):TD (fG keys first n i x.dat b)=true:=by
 obtain ⟨k,_,m,j⟩:=h.key;have a:=h.kind;have c:(fG keys first n i x.dat b).kind=x.g.kind:=rfl;have e:(fG keys first n i x.dat b).num=if 3<x.g.kind then 0 else x.g.num:=rfl;have l:(fG keys first n i x.dat b).blob=b:=rfl;refine ZsK (show 0<=jB keys x.key/\jB keys x.key<200 by omega) (c ▸ a) (fun d=>?_) (fun d=>?_) ?_ ?_
 · rw [c] at d;rw [aA qO] at hb;exact hb
 · rw [c] at d;have f:3<x.g.kind:=qO;rw [gA f] at hb e;exact ⟨e,hb⟩
 · show -1<=(if 0<i then ((first+i-1:Nat):Int) else -1)/\(if 0<i then ((first+i-1:Nat):Int) else -1)<65536;split <;> omega
 show -1<=(if i+1<n then ((first+i+1:Nat):Int) else -1)/\(if i+1<n then ((first+i+1:Nat):Int) else -1)<65536;split <;> omega
theorem ZqV {Bl:Recs} (hl:Bl.length<=65536) (d:List UInt8):0<=(iF Bl d).2/\(iF Bl d).2<65536:=by
 unfold iF;split
 · exact ⟨qS,qS⟩
 rename_i h;have:(eC d.length true Bl.length d).length≠0:=by rw [jU _ _ _ _ qO];omega
 simp only;omega
def BuP.cells (q:BuP) (c7 c8:Value):Array Value:=#[.pointer (some ⟨q.t 0,0,none⟩),.pointer (some ⟨q.t 1,0,none⟩),.pointer (some ⟨q.t 2,0,none⟩),.pointer (some ⟨q.f 3,0,none⟩),.pointer (some ⟨q.f 4,0,none⟩),.pointer (some ⟨q.f 5,0,none⟩),.pointer (some ⟨q.f 6,0,none⟩),c7,c8]
def LayR (w:World) (B:Nat) (q:BuP) (ns:Nat->List ByteArray) (ps:List PR) (e:Ending) (w':World):Prop :=
 e=.returned (.int .i64 (if ps=[] then -1 else ((q.l 5).length:Int)))/\∃ q',LayI w B q ns ps ps.length w' q'
theorem eZ (w:World) {B b n c:Nat} {q:BuP} {ns:Nat->List ByteArray} {c7 c8:Value} {A:Option Addr} {ps:List PR} (h:BuM w B q ns) (hB:B<=w.heap.size) (hb:Blk w b 73 (q.cells c7 c8)) (hp:RdPs w (fun b=>b<B) A n c ps)
 (hall:∀ x∈q.l 6,x.A≠none) (hok:∀ x∈ps,uO (ns 2) x) (hlen:(q.l 5).length+ps.length<=65536) :
 Calls Tryz.prog 55 #[.pointer (some ⟨b,0,none⟩),.slice A n c] w (LayR w B q ns ps):=by
 obtain ⟨OR,bb⟩:∃ OR,LayR w B q ns ps=OR:=⟨_,rfl⟩
 rw [bb];have bg:=qH bb;clear bb;have hn:=hp.len;subst hn;have HM:=qH h;have HB:=qH hB;have bh:=qH hb;have HP:=qH hp;have bi:=qH hall;have c0:=qH hok;have HC:=qH (TJ w (h.fl 5 (by decide)));have q5:w.cell? ⟨b,5,none⟩=some (.pointer (some ⟨q.f 5,0,none⟩)):=hb.cell 5;obtain ⟨s,bc⟩:∃ s,(q.l 5).length=s:=⟨_,rfl⟩
 rw [bc] at hlen HC;have aq:=qH bc;obtain ⟨N,hN⟩:∃ N,ps.length=N:=⟨_,rfl⟩
 rw [hN] at hlen ⊢;have HN:=qH hN;clear h hB hb hp hall hok bc hN;go_enter Tryz.func55,Tryz.ntmps55;go_wp2_with fail;refine HC.out.mono ?_;rintro e wc ⟨rfl,rfl⟩;clear q5 HC;go_wp2_with fail;go_loopg [23] N (fun g ch wr=>∃ i:Nat,N-i=g/\i<=N/\ch=.int .i64 (i:Int)/\Hid (∃ F,LayI w B q ns ps i wr F))
 case atStart=>exact ⟨0,rfl,oA _,rfl,qH ⟨q,HM.out,tO _ _,rfl,bi.out,fun _ _ _=>rfl⟩⟩
 obtain ⟨i,rfl,hi,rfl,I⟩:=hrel;by_cases bj:i<N
 · obtain ⟨F,hK⟩:=I.out;have I:=qH hK;have ar:=HP.out.upd hK.n.up (fun k hk hs=>by have:=(HM.out.ge hs).1;omega);obtain ⟨bA,o,x,rfl,ci,_,hx,hm,p0,p1,p2,p3,p4,p5⟩:=ar.at_ (i:=i) (by rw [HN.out];exact bj);have hok:=c0.out x hm;obtain ⟨G,bx,bz,ck⟩:=hok.key;have a0:Blk wr b 73 (q.cells c7 c8):=bh.out.upd hK.n.up (HM.out.far bh.out (by decide) (by decide));have ag:=qH a0;have HF:Hid (∀ R,Same wr R->Calls Tryz.prog 56 #[.pointer (some ⟨q.t 2,0,none⟩),.string x.key] R fun e w'=>e=.returned (.tuple #[.int .i64 (G:Int),.bool true])/\R=w'):=qH fun R hs=>by have:=FT ((hK.m.tb 2 (by decide)).same hs) hok.klen;rw [hK.n.t,bx] at this;exact this
   have HX:=qH hx;have u:=qH hok;have au:=qH bz;have HV:=qH (ar.val x hm);have j1:(i:Int)<(N:Int):=by omega
   clear hK ar ci hx hm hok bx bz a0;obtain ⟨p,g,W,X,M,Y,Z,O⟩:=x;simp only at p0 p1 p2 p3 p4 p5 HF HV u au;go_upto_region 5 with fail;have av:=jA wr 53 #[.string p,.int .i64 g.kind,.int .i64 g.num,.string g.text,.slice W X M,.slice Y Z O];have ah:=(eA (fun _=>False) wr).alloc (.cells #[.string p,.int .i64 g.kind,.int .i64 g.num,.string g.text,.slice W X M,.slice Y Z O] 53);generalize wr.alloc (.cells #[.string p,.int .i64 g.kind,.int .i64 g.num,.string g.text,.slice W X M,.slice Y Z O] 53)=w1 at *;generalize wr.heap.size=xb at *;have c3:=qH av;have c4:=qH ah;have HF:=qH fun R (hs:Same w1 R)=>HF.out R (ah.trans hs fun _ _ f=>f);have r2:w1.cell? ⟨b,2,none⟩=some (.pointer (some ⟨q.t 2,0,none⟩)):=(ag.out.same ah).cell 2;have x0:w1.cell? ⟨xb,0,none⟩=some (.string p):=av.cell 0;clear av ah p0 p1 p2 p3 p4 p5;go_quiet (first | exact Calls.quiet_of_same ((HF.out _ (eA _ w1)).mono fun e w' h=>⟨h.1,h.2.symm⟩) | exact Calls.quiet_of_same ((HF.out _ ((eA _ w1).drewN _)).mono fun e w' h=>⟨h.1,h.2.symm⟩));have aw:Same wr (w1.drewN nq):=c4.out.trans ((eA (fun _=>False) w1).drewN nq) fun _ _ f=>f;have ai:=c3.out.same ((eA (fun _=>False) w1).drewN nq);generalize w1.drewN nq=w2 at *;have x1:w2.cell? ⟨xb,1,none⟩=some (.int .i64 g.kind):=ai.cell 1;have x2:w2.cell? ⟨xb,2,none⟩=some (.int .i64 g.num):=ai.cell 2;clear r2 x0;go_upto_region 7 with fail;have a0:=jA w2 145 #[.int .i64 G,.int .i64 g.kind,.int .i64 g.num,.int .i64 (-1),.int .i64 (-1),.int .i64 (-1)];have bk:=aw.alloc (.cells #[.int .i64 G,.int .i64 g.kind,.int .i64 g.num,.int .i64 (-1),.int .i64 (-1),.int .i64 (-1)] 145);have ax:=ai.same ((eA (fun _=>False) w2).alloc (.cells #[.int .i64 G,.int .i64 g.kind,.int .i64 g.num,.int .i64 (-1),.int .i64 (-1),.int .i64 (-1)] 145));have bm:wr.heap.size<=w2.heap.size:=aw.size;generalize w2.alloc (.cells #[.int .i64 G,.int .i64 g.kind,.int .i64 g.num,.int .i64 (-1),.int .i64 (-1),.int .i64 (-1)] 145)=w3 at *;generalize w2.heap.size=a at *;have aj:=qH bk;have ak:=qH a0;have al:=qH ax;have am:=qH bm;have x1:w3.cell? ⟨xb,1,none⟩=some (.int .i64 g.kind):=ax.cell 1;clear bk a0 ax bm aw ai x2;by_cases hk:3<g.kind
   focus
    have x2:w3.cell? ⟨xb,2,none⟩=some (.int .i64 g.num):=al.out.cell 2;have x3:w3.cell? ⟨xb,3,none⟩=some (.string g.text):=al.out.cell 3;have x4:w3.cell? ⟨xb,4,none⟩=some (.slice W X M):=al.out.cell 4;have x5:w3.cell? ⟨xb,5,none⟩=some (.slice Y Z O):=al.out.cell 5;have HE:=qH (GV w3 (HV.out.same aj.out) u.out.text u.out.texts);have L:=qH hk;have ay:=aq;go_wp2_with fail;refine HE.out.mono ?_;rintro e w4 ⟨v,rfl,r,ad⟩;obtain ⟨A9,c9,rfl⟩:=WA r;have az:=qH r;have bn:=qH (aj.out.trans ad fun _ _ f=>f);have a1:=qH (ak.out.same ad);have z2:w4.frozen? ⟨a,2,none⟩=false:=(ak.out.same ad).frozen 2;have s2:w4.cell? ⟨a,2,none⟩=some (.int .i64 g.num):=(ak.out.same ad).cell 2;clear r ad x1 x2 x3 x4 x5;go_upto_region 10 with fail;have bo:Blk (w4.setCell ⟨a,2,none⟩ (.int .i64 0)) a 145 #[.int .i64 G,.int .i64 g.kind,.int .i64 0,.int .i64 (-1),.int .i64 (-1),.int .i64 (-1)]:=a1.out.put 2 (.int .i64 0);have a2:=bn.out.putNew (i:=2) am.out (.int .i64 0);have bp:=GA az.out ((eA (fun k=>k=a) w4).put1 (i:=2) (.int .i64 0)) fun k hk e=>a1.out.ne_own az.out (by decide) (e ▸ hk);generalize w4.setCell ⟨a,2,none⟩ (.int .i64 0)=w5 at *;have b0:=I.out.m.same a2;have b1:=qH (Zne w5 b0 (tA (tA HB.out I.out.n.up.size) a2.size) I.out.all (IB.base (IB.of bp rfl) (oA _)) u.out.enc);rw [I.out.n.f] at b1;have r6:w5.cell? ⟨b,6,none⟩=some (.pointer (some ⟨q.f 6,0,none⟩)):=(ag.out.same a2).cell 6;have b2:=qH bo;have c5:=qH a2;have bq:=qH b0;clear bo a2 bp b0 z2 s2;go_wp2_with fail;refine b1.out.mono ?_;rintro e w6 ⟨er,rfl,qy,bd,ae⟩;have an:=b2.out.upd bd.n.up (bq.out.far b2.out (by decide) (by decide));have z3:w6.frozen? ⟨a,3,none⟩=false:=an.frozen 3;have s3:w6.cell? ⟨a,3,none⟩=some (.int .i64 (-1)):=an.cell 3;have U:=qH bd;have a3:=qH ae;have b3:=qH an;obtain ⟨d,H⟩:∃ d,(iF ((F.l 6).map BS.rc) (enc g)).2=d:=⟨_,rfl⟩
    rw [H];have b4:=qH H;clear bd ae an b1 r6 H;go_upto_region 11 with fail;obtain ⟨z,S⟩:∃ z:Int,0=z:=⟨_,rfl⟩
    have a4:Blk (w6.setCell ⟨a,3,none⟩ (.int .i64 d)) a 145 #[.int .i64 G,.int .i64 g.kind,.int .i64 z,.int .i64 d,.int .i64 (-1),.int .i64 (-1)]:=S ▸ b3.out.put 3 (.int .i64 d);have b5:=(eA (fun k=>k=a) w6).put1 (i:=3) (.int .i64 d);generalize w6.setCell ⟨a,3,none⟩ (.int .i64 d)=w7 at *;have a5:=qH (U.out.m.turn b3.out ⟨by decide,by decide,by decide,by decide,by decide⟩ b5);have a6:=((((tO wr F).same c5.out).trans U.out.n).new b5 am.out)
    have a7:=qH a6;have C:=qH a4;have HL:Hid (∀ wz,BuN wr F wz qy->∀ R qx,BuA wz B qy ns 5 (putAt ((F.l 5).map BS.rc) (s+i) (FC (fG (ns 2) s N i (PR.dat ⟨p,g,W,X,M,Y,Z,O⟩) d))) R qx->LayI w B q ns ps (i+1) R qx):=qH fun wz hn R qx ha=>by refine I.out.blob HX.out L.out U.out.at_ U.out.oth a3.out hn ?_;rw [b4.out,ay.out,HN.out];exact ha
    have br:Hid (TD (fG (ns 2) s N i (PR.dat ⟨p,g,W,X,M,Y,Z,O⟩) d)=true):=qH (dZ u.out (by omega) (by omega) (by rw [gA L.out,<-b4.out];exact ZqV (by rw [nA];exact (I.out.m.fl 6 (by decide)).len) _))
    have ao:Hid (fG (ns 2) s N i (PR.dat ⟨p,g,W,X,M,Y,Z,O⟩) d=⟨G,g.kind,z,d,if 0<i then (s+i-1:Nat) else -1,if i+1<N then (s+i+1:Nat) else -1⟩):=qH (by
     have e:(if 3<g.kind then (0:Int) else g.num)=z:=by rw [gA L.out];exact S
     show P1.mk (jB (ns 2) p) g.kind (if 3<g.kind then 0 else g.num) d _ _=_;rw [au.out,e])
    have HQ:Hid ((qy.l 5).map BS.rc=(F.l 5).map BS.rc):=qH (by rw [U.out.oth 5 (by decide)]);clear a4 b5 a6 z3 s3 b4 U b3 a3 b2 bq az a1 bn HE S;generalize fG (ns 2) s N i (PR.dat ⟨p,g,W,X,M,Y,Z,O⟩) d=cg at *
   rotate_left
   focus
    have L:=qH hk;have ay:=aq;go_upto_region 11 with fail;obtain ⟨z,S⟩:∃ z:Int,g.num=z:=⟨_,rfl⟩
    obtain ⟨d,H⟩:∃ d:Int,-1=d:=⟨_,rfl⟩
    have a4:Blk w3 a 145 #[.int .i64 G,.int .i64 g.kind,.int .i64 z,.int .i64 d,.int .i64 (-1),.int .i64 (-1)]:=by have:=ak.out;rw [S] at this;subst H;exact this
    obtain ⟨qy,af⟩:∃ qy,F=qy:=⟨_,rfl⟩
    have a5:Hid (BuM w3 B qy ns):=qH (af ▸ I.out.m.same aj.out);have a6:BuN wr F w3 qy:=af ▸ (tO wr F).same aj.out;have a7:=qH a6;have C:=qH a4;have HL:Hid (∀ wz,BuN wr F wz qy->∀ R qx,BuA wz B qy ns 5 (putAt ((F.l 5).map BS.rc) (s+i) (FC (fG (ns 2) s N i (PR.dat ⟨p,g,W,X,M,Y,Z,O⟩) d))) R qx->LayI w B q ns ps (i+1) R qx):=qH fun wz hn R qx ha=>by subst af;subst H;refine I.out.num HX.out L.out hn ?_;rw [ay.out,HN.out];exact ha
    have br:Hid (TD (fG (ns 2) s N i (PR.dat ⟨p,g,W,X,M,Y,Z,O⟩) d)=true):=qH (dZ u.out (by omega) (by omega) (by rw [aA L.out];exact H.symm))
    have ao:Hid (fG (ns 2) s N i (PR.dat ⟨p,g,W,X,M,Y,Z,O⟩) d=⟨G,g.kind,z,d,if 0<i then (s+i-1:Nat) else -1,if i+1<N then (s+i+1:Nat) else -1⟩):=qH (by
     have e:(if 3<g.kind then (0:Int) else g.num)=z:=by rw [aA L.out];exact S
     show P1.mk (jB (ns 2) p) g.kind (if 3<g.kind then 0 else g.num) d _ _=_;rw [au.out,e])
    have HQ:Hid ((qy.l 5).map BS.rc=(F.l 5).map BS.rc):=qH (by rw [af]);clear a4 a6 H S af x1;generalize w3=w7 at *;generalize fG (ns 2) s N i (PR.dat ⟨p,g,W,X,M,Y,Z,O⟩) d=cg at *
   rotate_left
   all_goals
    obtain ⟨T,V⟩:∃ T:Int,(if 0<i then ((s+i-1:Nat):Int) else -1)=T:=⟨_,rfl⟩
    obtain ⟨nx,y⟩:∃ nx:Int,(if i+1<N then ((s+i+1:Nat):Int) else -1)=nx:=⟨_,rfl⟩
    rw [V,y] at ao;have c6:=qH y;clear y;have s4:w7.cell? ⟨a,4,none⟩=some (.int .i64 (-1)):=C.out.cell 4;have z4:w7.frozen? ⟨a,4,none⟩=false:=C.out.frozen 4;by_cases M:0<i
    focus
     rw [gA M] at V;have e4:(s:Int)+(i:Int)-1=T:=by omega
     have ca:=qH e4;have b6:(0:Int)<(i:Int):=by omega
     clear e4 V;go_upto_region 13 with fail;rw [ca.out];have a8:Blk (w7.setCell ⟨a,4,none⟩ (.int .i64 T)) a 145 #[.int .i64 G,.int .i64 g.kind,.int .i64 z,.int .i64 d,.int .i64 T,.int .i64 (-1)]:=C.out.put 4 (.int .i64 T);have b7:=(eA (fun k=>k=a) w7).put1 (i:=4) (.int .i64 T);have a9:=qH (a5.out.turn C.out ⟨by decide,by decide,by decide,by decide,by decide⟩ b7);have aa:=qH (a7.out.new b7 am.out);have E:=qH a8;clear a8 b7 s4 z4 a5 a7 C b6;generalize w7.setCell ⟨a,4,none⟩ (.int .i64 T)=w8 at *
    rotate_left
    focus
     rw [aA M] at V;have b6:¬ (0:Int)<(i:Int):=by omega
     have a8:Blk w7 a 145 #[.int .i64 G,.int .i64 g.kind,.int .i64 z,.int .i64 d,.int .i64 T,.int .i64 (-1)]:=V ▸ C.out;have E:=qH a8;have a9:=a5;have aa:=a7;clear a8 V C a5 a7 s4 z4;go_upto_region 13 with fail;clear b6;generalize w7=w8 at *
    rotate_left
   all_goals
    have y:=c6.out;have s5:w8.cell? ⟨a,5,none⟩=some (.int .i64 (-1)):=E.out.cell 5;have z5:w8.frozen? ⟨a,5,none⟩=false:=E.out.frozen 5;by_cases O:i+1<N
    focus
     rw [gA O] at y;have cb:Hid ((s:Int)+(i:Int)+1=nx):=qH (by omega);have b8:(i:Int)+1<(N:Int):=by omega
     clear y;go_upto_region 15 with fail;rw [cb.out];have ab:Blk (w8.setCell ⟨a,5,none⟩ (.int .i64 nx)) a 145 #[.int .i64 G,.int .i64 g.kind,.int .i64 z,.int .i64 d,.int .i64 T,.int .i64 nx]:=E.out.put 5 (.int .i64 nx);have b9:=(eA (fun k=>k=a) w8).put1 (i:=5) (.int .i64 nx);have bs:=qH (a9.out.turn E.out ⟨by decide,by decide,by decide,by decide,by decide⟩ b9);have bt:=qH (aa.out.new b9 am.out);have P:=qH ab;clear ab b9 s5 z5 a9 aa E b8;generalize w8.setCell ⟨a,5,none⟩ (.int .i64 nx)=w9 at *
    rotate_left
    focus
     rw [aA O] at y;have b8:¬ (i:Int)+1<(N:Int):=by omega
     have ab:Blk w8 a 145 #[.int .i64 G,.int .i64 g.kind,.int .i64 z,.int .i64 d,.int .i64 T,.int .i64 nx]:=y ▸ E.out;have P:=qH ab;have bs:=a9;have bt:=aa;clear ab y E a9 aa s5 z5;go_upto_region 15 with fail;clear b8;generalize w8=w9 at *
    rotate_left
   all_goals
    have t0:w9.cell? ⟨a,0,none⟩=some (.int .i64 G):=P.out.cell 0;have t1:w9.cell? ⟨a,1,none⟩=some (.int .i64 g.kind):=P.out.cell 1;have t2:w9.cell? ⟨a,2,none⟩=some (.int .i64 z):=P.out.cell 2;have t3:w9.cell? ⟨a,3,none⟩=some (.int .i64 d):=P.out.cell 3;have t4:w9.cell? ⟨a,4,none⟩=some (.int .i64 T):=P.out.cell 4;have t5:w9.cell? ⟨a,5,none⟩=some (.int .i64 nx):=P.out.cell 5;have ap:=Znj w9 (x:=⟨G,g.kind,z,d,T,nx⟩) (ao.out ▸ br.out);obtain ⟨D,hD⟩:∃ D,FC ⟨G,g.kind,z,d,T,nx⟩=D:=⟨_,rfl⟩
    have bu:D.length=19:=hD ▸ jT _;rw [hD] at ap;have cc:=qH ((tB FC ao.out).trans hD);simp only at ap;have bv:=qH ap;clear ap hD;go_wp2_with fail;refine bv.out.mono ?_;rintro e wa ⟨v,rfl,r,bf⟩;obtain ⟨A8,cl,rfl⟩:=WA r;have bw:=bs.out.same bf;have ac:=bt.out.same bf;have ba:=lU wa bw (tA (tA HB.out I.out.n.up.size) ac.up.size) (j:=5) (by decide) (by decide) (IB.of r rfl) (by rw [bu];rfl) (s+i) (by omega);rw [ac.f,I.out.n.f,HQ.out,dS] at ba;have r5:wa.cell? ⟨b,5,none⟩=some (.pointer (some ⟨q.f 5,0,none⟩)):=(ag.out.upd ac.up (I.out.m.far ag.out (by decide) (by decide))).cell 5;have cd:=qH ba;have ce:=qH ac;generalize D.length=DL at *;clear bu r bf bw ac ba t0 t1 t2 t3 t4 t5 bv;go_wp2_with fail;refine (zF wa).mono ?_;rintro e wb ⟨rfl,rfl⟩;go_wp2_with fail;refine cd.out.mono ?_;rintro e wd ⟨rfl,qx,hA⟩;have HA:=qH hA;clear hA r5;go_wp2_with fail;refine (zF wd).mono ?_;rintro e we ⟨rfl,rfl⟩;go_wp2;go_roundg (N-(i+1))
    case measure=>omega
    case rel=>exact ⟨i+1,rfl,by omega,by go_num,qH ⟨qx,HL.out _ ce.out _ _ (cc.out.symm ▸ HA.out)⟩⟩
 have cf:N=i:=by omega
 subst cf;clear bj hi;have j1:¬ (N:Int)<(N:Int):=by omega
 by_cases h0:N=0
 · subst h0;go_wp2;refine (show OR (.returned (.int .i64 (-1))) wr from ?_);rw [<- bg.out];obtain ⟨F,hK⟩:=I.out;have:=HN.out;exact ⟨by rw [gA (EH.1 this)],F,this.symm ▸ hK⟩
 have cj:((N:Int)=0)=False:=by simp [h0]
 go_wp2;refine (show OR (.returned (.int .i64 (s:Int))) wr from ?_);rw [<- bg.out];obtain ⟨F,hK⟩:=I.out;have hh:=HN.out;exact ⟨by rw [aA (fun e=>h0 (by rw [<- hh,e];rfl)),aq.out],F,hh.symm ▸ hK⟩
end
section
open Go.RowKit
attribute [local go_sem] oD
def BuP.bs (q:BuP):Bs1:=⟨(q.l 3).map BS.rc,(q.l 4).map BS.rc,(q.l 5).map BS.rc,(q.l 6).map BS.rc⟩
theorem BuM.farM {n:Nat} {k:TypeId} {q:BuP} {ns:Nat->List ByteArray} {f:Lit->Option Value} (h:BuM w B q ns) (hm:MpK w k g n f):¬ BuS q g:=by
 rintro ⟨j,_,a,e | e⟩
 · exact hm.ne (h.fl j a).blk e
 obtain ⟨c,b⟩:=LA (h.fl j a).own.row e;exact hm.ne b rfl
theorem BuM.farO {B' n:Nat} {q:BuP} {ns:Nat->List ByteArray} {v:Value} {xs:List Value} (h:BuM w B q ns) (ho:w.ownsRow B' e k v n xs) (h1:e≠171) (h2:39≠e):∀ g,v.ownBlock=some g->¬ BuS q g:=fun g a=>by obtain ⟨c,b⟩:=LA ho a;exact h.far b h1 h2
structure FiI (w:World) (B:Nat) (q:BuP) (ns:Nat->List ByteArray) (wr:World) (qr:BuP):Prop where
 m:BuM wr B qr ns
 n:BuN w q wr qr
 all:∀ x∈qr.l 6,x.A≠none
 tabs:∀ i,i<3->qr.l i=q.l i
section
variable {w wr wx wy wz:World} {B i K:Nat} {q qr qx qy qz:BuP} {ns:Nat->List ByteArray} {ps:List PR}
theorem FiI.same (h:FiI w B q ns wr qr) (hs:Same wr wx):FiI w B q ns wx qr:=⟨h.m.same hs,h.n.same hs,h.all,h.tabs⟩
theorem FiI.lay (h:FiI w B q ns wr qr) (k:LayI wr B qr ns ps ps.length wx qx):FiI w B q ns wx qx:=⟨k.m,h.n.trans k.n,k.all,fun i a=>(k.oth i qO qO).trans (h.tabs i a)⟩
theorem FiI.turn (h:FiI w B q ns wr qr) (hb:Blk wr g e cs) (he:Oth e) (hg:w.heap.size<=g) (hu:Upd (fun k=>k=g) wr wx):FiI w B q ns wx qr:=⟨h.m.turn hb he hu,h.n.new hu hg,h.all,h.tabs⟩
theorem FiI.put (h:FiI w B q ns wr qr) {j:Nat} {R:Recs} (hj:3<=j/\j≠6) (k:BuA wr B qr ns j R wx qx):FiI w B q ns wx qx:=⟨k.m,h.n.trans k.n,by rw [k.oth 6 hj.2.symm];exact h.all,fun i a=>(k.oth i qO).trans (h.tabs i a)⟩
theorem FiI.cells (h:FiI w B q ns wr qr) (c7 c8:Value):q.cells c7 c8=qr.cells c7 c8:=by unfold BuP.cells;rw [h.n.f,h.n.t]
theorem LayI.lay (h:LayI w B q ns ps ps.length wr qr):layP (ns 2) (ps.map PR.dat) q.bs.props q.bs.blobs=((qr.bs.props,qr.bs.blobs),if ps=[] then -1 else ((q.l 5).length:Int)):=by
 have a:=h.go;rw [cB (lA _)] at a;have e:(if ps.map PR.dat=[] then (-1:Int) else (((q.l 5).map BS.rc).length:Int))=if ps=[] then -1 else ((q.l 5).length:Int):=by
  rw [nA];cases ps with
  | nil=>rfl
  | cons p ps=>rw [aA (NJ _ _),CB,aA (NJ _ _)]
 show (xG (ns 2) ((q.l 5).map BS.rc).length (ps.map PR.dat).length 0 (ps.map PR.dat) ((q.l 5).map BS.rc) ((q.l 6).map BS.rc),if ps.map PR.dat=[] then (-1:Int) else (((q.l 5).map BS.rc).length:Int))=_;rw [e,nA,nA,a];rfl
structure NdOk (ns:Nat->List ByteArray) (f:Int->Option Value) (x:ND) (hd:Int):Prop where
 head:f x.id=some (.int .i64 hd)
 id:0<=x.id/\x.id<65536
 props:∀ p∈x.props,uO (ns 2) p
 labs:∀ t∈x.labels,∃ i:Nat,idsF (ns 0) t=some (.int .i64 (i:Int))/\jB (ns 0) t=i/\t.size<=40
 nlab:x.labels.length<=8
 ok:∀ f:Int,-1<=f->f<65536->bE ⟨hd,f,x.labels.map (jB (ns 0))⟩=true
structure RlOk (ns:Nat->List ByteArray) (L:List L1) (x:RL):Prop where
 id:0<=x.id/\x.id<65536
 props:∀ p∈x.props,uO (ns 2) p
 type:∃ i:Nat,idsF (ns 1) x.type=some (.int .i64 (i:Int))/\jB (ns 1) x.type=i/\x.type.size<=40
 ok:∃ l,L[x.id.toNat]?=some l/\∀ f:Int,-1<=f->f<65536->cE ⟨l,jB (ns 1) x.type,f⟩=true
theorem ZqW {x:ND} (k:LayI wr B qr ns x.props x.props.length wx qx)
 (a:BuA wy B qx ns 3 (putAt ((qx.l 3).map BS.rc) x.id.toNat (PD ⟨hd,if x.props=[] then -1 else ((qr.l 5).length:Int),x.labels.map (jB (ns 0))⟩)) wz qz) (zs:List (NA×Int)):
 yG (ns 0) (ns 2) ((x.dat,hd)::zs) qr.bs=yG (ns 0) (ns 2) zs qz.bs:=by
 rw [yG,show layP (ns 2) x.dat.props qr.bs.props qr.bs.blobs=_ from k.lay];congr 1;unfold BuP.bs;rw [a.at_,a.oth 4 qD,a.oth 5 qD,a.oth 6 qD,k.oth 3 qD qD,k.oth 4 qD qD];rfl
theorem ZqX {x:RL} {l:L1} {L:List L1} (hl:L[x.id.toNat]?=some l) (k:LayI wr B qr ns x.props x.props.length wx qx)
 (a:BuA wy B qx ns 4 (putAt ((qx.l 4).map BS.rc) x.id.toNat (relB ⟨l,jB (ns 1) x.type,if x.props=[] then -1 else ((qr.l 5).length:Int)⟩)) wz qz) (rs:List GRel):
 zG (ns 1) (ns 2) L (x.dat::rs) qr.bs=zG (ns 1) (ns 2) L rs qz.bs:=by
 rw [zG,show layP (ns 2) x.dat.props qr.bs.props qr.bs.blobs=_ from k.lay,show L[x.dat.id.toNat]?=some l from hl];congr 1;unfold BuP.bs;rw [a.at_,a.oth 3 qD,a.oth 5 qD,a.oth 6 qD,k.oth 3 qD qD,k.oth 4 qD qD];rfl
structure FiN (w:World) (B:Nat) (q:BuP) (ns:Nat->List ByteArray) (zs:List (ND×Int)) (T:Bs1) (K i:Nat) (wr:World) (qr:BuP):Prop where
 f:FiI w B q ns wr qr
 go:yG (ns 0) (ns 2) ((zs.drop i).map fun x=>(x.1.dat,x.2)) qr.bs=T
 cnt:(qr.l 5).length+((zs.drop i).map fun x=>x.1.props.length).sum=K
theorem FiN.next {zs:List (ND×Int)} {T:Bs1} {x:ND} (h:FiN w B q ns zs T K i wr qr) (hx:zs[i]?=some (x,hd)) (k:LayI wv B qr ns x.props x.props.length wx qx) (hf:FiI w B q ns wz qz)
 (a:BuA wy B qx ns 3 (putAt ((qx.l 3).map BS.rc) x.id.toNat (PD ⟨hd,if x.props=[] then -1 else ((qr.l 5).length:Int),x.labels.map (jB (ns 0))⟩)) wz qz):FiN w B q ns zs T K (i+1) wz qz:=by
 obtain ⟨c,f⟩:=IA.1 hx;have hd:=kE c;rw [f] at hd;have b:=h.go;have d:=h.cnt;rw [hd,CB] at b d;rw [ZqW k a] at b;refine ⟨hf,b,?_⟩;have e:=k.len (lA _);rw [a.oth 5 qD,e];simp only [nI] at d;omega
theorem FiN.room {zs:List (ND×Int)} {T:Bs1} {x:ND} (h:FiN w B q ns zs T K i wr qr) (hx:zs[i]?=some (x,hd)):(qr.l 5).length+x.props.length<=K:=by obtain ⟨a,c⟩:=IA.1 hx;have hd:=kE a;rw [c] at hd;have b:=h.cnt;rw [hd,CB] at b;simp only [nI] at b;omega
structure FiR (w:World) (B:Nat) (q:BuP) (ns:Nat->List ByteArray) (L:List L1) (rs:List RL) (T:Bs1) (K i:Nat) (wr:World) (qr:BuP):Prop where
 f:FiI w B q ns wr qr
 go:zG (ns 1) (ns 2) L ((rs.drop i).map RL.dat) qr.bs=T
 cnt:(qr.l 5).length+((rs.drop i).map fun x=>x.props.length).sum=K
theorem FiR.next {L:List L1} {rs:List RL} {T:Bs1} {x:RL} {l:L1} (h:FiR w B q ns L rs T K i wr qr) (hx:rs[i]?=some x) (hl:L[x.id.toNat]?=some l) (k:LayI wv B qr ns x.props x.props.length wx qx) (hf:FiI w B q ns wz qz)
 (a:BuA wy B qx ns 4 (putAt ((qx.l 4).map BS.rc) x.id.toNat (relB ⟨l,jB (ns 1) x.type,if x.props=[] then -1 else ((qr.l 5).length:Int)⟩)) wz qz):FiR w B q ns L rs T K (i+1) wz qz:=by
 obtain ⟨c,g⟩:=IA.1 hx;have d:=kE c;rw [g] at d;have b:=h.go;have e:=h.cnt;rw [d,CB] at b e;rw [ZqX hl k a] at b;refine ⟨hf,b,?_⟩;have f:=k.len (lA _);rw [a.oth 5 qD,f];simp only [nI] at e;omega
theorem FiR.room {L:List L1} {rs:List RL} {T:Bs1} {x:RL} (h:FiR w B q ns L rs T K i wr qr) (hx:rs[i]?=some x):(qr.l 5).length+x.props.length<=K:=by obtain ⟨a,d⟩:=IA.1 hx;have b:=kE a;rw [d] at b;have c:=h.cnt;rw [b,CB] at c;simp only [nI] at c;omega
end
structure LbI (wE wr:World) (rb:Nat) (c0 c1:Value) (xs:List Int) (k:Nat) (A:Option Addr) (c:Nat):Prop where
 up:Upd (fun b=>b=rb) wE wr
 blk:Blk wr rb 115 #[c0,c1,.slice A k c]
 row:wr.ownsRow wE.heap.size 3 1 (.slice A k c) k ((xs.take k).map (Value.int .i64))
theorem LbI.snoc {wr wa w9:World} {c c9:Nat} {xs:List Int} {A A9:Option Addr} {y:Int} (h:LbI wE wr rb c0 c1 xs k A c) (hs:Same wr wa)
 (hg:Grew wa wE.heap.size 3 1 (.slice A k c) (k+1) ((xs.take k).map (Value.int .i64)++[.int .i64 y]) (.slice A9 (k+1) c9) w9) (hn:xs[k]?=some y):LbI wE (w9.setCell ⟨rb,2,none⟩ (.slice A9 (k+1) c9)) rb c0 c1 xs (k+1) A9 c9:=by
 obtain ⟨a,d,f⟩:=aH (i:=2) h.blk h.row qD hs hg;refine ⟨h.up.trans f fun b g e=>?_,a,?_⟩
 · rcases e with e | e
   · exact e
   have:=(h.row.lt b e).1;omega
 rw [eD,hn,DB];exact d
theorem fZ:Oth 115:=⟨qD,qD,qD,qD,qD⟩
theorem gZ {w1 wz:World} {xb:Nat} {q qx:BuP} {ns:Nat->List ByteArray} (h:FiI w1 B q ns wz qx) (hb:Blk wz rb 115 #[.int .i64 0,.int .i64 0,.slice none 0 0]) (hr:w1.heap.size<=rb) (hx:Blk wz xb 56 cs)
 (he:((wz.setCell ⟨rb,0,none⟩ c0).setCell ⟨rb,1,none⟩ c1).setCell ⟨rb,2,none⟩ (.slice none 0 0)=wE):FiI w1 B q ns wE qx/\Blk wE rb 115 #[c0,c1,.slice none 0 0]/\Blk wE xb 56 cs:=by
 have a:Upd (fun k=>k=rb) wz wE:=by rw [<- he];exact (((eA (fun k=>k=rb) wz).put1 _).put1 _).put1 _
 refine ⟨h.turn hb fZ hr a,?_,hx.upd a (hx.ne hb qD)⟩;rw [<- he];exact ((hb.put 0 c0).put 1 c1).put 2 (.slice none 0 0)
structure FiK (wr:World) (B b hm nC cnt:Nat) (AC:Option Addr) (cC:Nat) (L:List L1) (f:Int->Option Value) (q:BuP) (g:GR):Prop where
 blk:Blk wr b 73 (q.cells (.slice AC nC cC) (.map (some hm)))
 map:MpI wr hm cnt f
 ch:wr.ownsRow B 109 7 (.slice AC nC cC) nC (L.flatMap L1.cells)
 gr:RdG wr (fun b=>b<B) g
section
variable {w wr wx:World} {B b hm nC cnt cC:Nat} {AC:Option Addr} {L:List L1} {f:Int->Option Value} {q qr:BuP} {ns:Nat->List ByteArray} {g:GR}
theorem FiK.mv (h:FiK w B b hm nC cnt AC cC L f q g) (hM:BuM w B q ns) (hu:Upd (BuS q) w wr):FiK wr B b hm nC cnt AC cC L f q g :=
 ⟨h.blk.upd hu (hM.far h.blk qD qD),MpK.upd h.map hu (hM.farM h.map),GA h.ch hu (hM.farO h.ch qD qD),h.gr.upd hu fun k c a=>by have:=(hM.ge a).1;omega⟩
theorem FiK.same (h:FiK w B b hm nC cnt AC cC L f q g) (hs:Same w wx):FiK wx B b hm nC cnt AC cC L f q g:=⟨h.blk.same hs,MpK.same h.map hs,mA h.ch hs,h.gr.same hs⟩
end
theorem ZoP (w:World) {B b hm nC cnt cC:Nat} {AC:Option Addr} {L:List L1} {f:Int->Option Value} {q:BuP} {ns:Nat->List ByteArray} {g:GR} {zs:List (ND×Int)} (h:BuM w B q ns) (hB:B<=w.heap.size) (hk:FiK w B b hm nC cnt AC cC L f q g)
 (hall:∀ x∈q.l 6,x.A≠none) (hz:zs.map Prod.fst=g.ns) (hN:∀ x∈zs,NdOk ns f x.1 x.2) (hR:∀ x∈g.rs,RlOk ns L x) (hK:(q.l 5).length+(zs.map fun x=>x.1.props.length).sum+(g.rs.map fun x=>x.props.length).sum<=65536) :
 Calls Tryz.prog 27 #[.pointer (some ⟨b,0,none⟩),g.agg] w fun e w'=>e=.returned (.tuple #[]) /\
  ∃ q',FiI w B q ns w' q'/\q'.bs=zG (ns 1) (ns 2) L (g.rs.map RL.dat) (yG (ns 0) (ns 2) (zs.map fun x=>(x.1.dat,x.2)) q.bs):=by
 obtain ⟨OR,ca⟩:∃ OR:Ending->World->Prop,(fun e w'=>e=.returned (.tuple #[])/\∃ q',FiI w B q ns w' q'/\q'.bs=zG (ns 1) (ns 2) L (g.rs.map RL.dat) (yG (ns 0) (ns 2) (zs.map fun x=>(x.1.dat,x.2)) q.bs))=OR:=⟨_,rfl⟩
 rw [ca];have cj:=qH ca;clear ca;obtain ⟨dq,AN,nN,cN,ao,AR,nR,cR⟩:=g;simp only at hz hR hK cj;have HM:=qH h;have HB:=qH hB;have HK:=qH hk;have bh:=qH hall;have HZ:=qH hz;have HN:=qH hN;have HR:=qH hR;have HC:=qH hK;have d3:=qH hk.gr.nodes.len;have d4:=qH hk.gr.rels.len;have dm:nN<=9223372036854775807:=by have s:=hk.gr.nodes.row.max;have h2:=hk.gr.nodes.row.le;unfold maxLen at s;simp only at s h2;omega
 have dn:nR<=9223372036854775807:=by have s:=hk.gr.rels.row.max;have h2:=hk.gr.rels.row.le;unfold maxLen at s;simp only at s h2;omega
 obtain ⟨T,hT⟩:∃ T,yG (ns 0) (ns 2) (zs.map fun x=>(x.1.dat,x.2)) q.bs=T:=⟨_,rfl⟩
 have HT:=qH hT;clear h hB hk hall hz hN hR hK hT;unfold GR.agg;simp only;go_enter Tryz.func27,Tryz.ntmps27;go_upto_region 2 with fail;have ck:=jA w 26 #[.slice AN nN cN,.slice AR nR cR];have bl:=(eA (fun _=>False) w).alloc (.cells #[.slice AN nN cN,.slice AR nR cR] 26);have b3:Hid (B<=(w.alloc (.cells #[.slice AN nN cN,.slice AR nR cR] 26)).heap.size):=qH (tA HB.out bl.size);generalize w.alloc (.cells #[.slice AN nN cN,.slice AR nR cR] 26)=w1 at *;generalize w.heap.size=gB at *;have bm:=qH ck;have bn:=qH bl;clear ck bl;have ai:=qH (HM.out.same bn.out);have ap:=qH (HK.out.same bn.out);have d5:Hid (∀ k,k<B->¬ BuS q k):=qH fun k hk hs=>by have:=(ai.out.ge hs).1;omega
 obtain ⟨K1,cb⟩:∃ K1,(q.l 5).length+(zs.map fun x=>x.1.props.length).sum=K1:=⟨_,rfl⟩
 have aq:Hid (K1+(ao.map fun x=>x.props.length).sum<=65536):=qH (by rw [<- cb];exact HC.out);have cl:Hid (FiN w1 B q ns zs T K1 0 w1 q):=qH ⟨⟨ai.out,tO _ _,bh.out,fun _ _=>rfl⟩,HT.out,cb⟩;have g0:w1.cell? ⟨gB,0,none⟩=some (.slice AN nN cN):=bm.out.cell 0;clear HC HM HK HB bh cb;go_wp2_with fail;clear g0;go_loopg [22] nN (fun g dh wr=>∃ i:Nat,nN-i=g/\i<=nN/\dh=.int .i64 (i:Int)/\Hid (∃ qr,FiN w1 B q ns zs T K1 i wr qr))
 case atStart=>exact ⟨0,rfl,oA _,rfl,qH ⟨q,cl.out⟩⟩
 obtain ⟨i,rfl,hi,rfl,HI⟩:=hrel;by_cases ar:i<nN
 · obtain ⟨qr,R⟩:=HI.out;have hk:=ap.out.mv ai.out R.f.n.up;obtain ⟨bA,o,x,rfl,cc,_,hx,a7,p0,p1,p2⟩:=hk.gr.nodes.at_ (i:=i) ar;obtain ⟨⟨x',hd⟩,bd,di⟩:∃ y:ND×Int,zs[i]?=some y/\y.1=x:=by rw [<- HZ.out,MA] at hx;exact GH.1 hx
   obtain rfl:x'=x:=di;have b4:=HN.out _ (OC bd);simp only at b4;have HX:=qH bd;have a8:=qH b4;have a1:=qH (R.room bd);have aj:=qH R;have cm:=qH hk;have a9:=qH (hk.gr.nodes.pro x' a7);have cn:=qH (ap.out.gr.nodes.lab x' a7);have co:x'.labels.length=x'.nL:=by have h9:=(ap.out.gr.nodes.lab x' a7).len;simpa using h9
   have au:=qH co;have d6:x'.nL<=8:=by have:=b4.nlab;omega
   have j1:(i:Int)<(nN:Int):=by omega
   clear R hk cc hx a7 b4 bd HI co;obtain ⟨b1,z,AL,nL,cL,props,AP,nP,cP⟩:=x';obtain ⟨id,rfl⟩:∃ id:Nat,b1=(id:Int):=⟨b1.toNat,by have:=a8.out.id.1;simp only at this;omega⟩
   simp only at p0 p1 p2 a9 cn a1 au d6;have av:id<65536:=by have:=a8.out.id.2;simp only at this;omega
   go_upto_region 4 with fail;have aa:=jA wr 56 #[.int .i64 id,.slice AL nL cL,.slice AP nP cP];have W:=(eA (fun _=>False) wr).alloc (.cells #[.int .i64 id,.slice AL nL cL,.slice AP nP cP] 56);have cp:w1.heap.size<=wr.heap.size:=aj.out.f.n.up.size;generalize wr.alloc (.cells #[.int .i64 id,.slice AL nL cL,.slice AP nP cP] 56)=N at *;generalize wr.heap.size=xb at *;have a2:=qH aa;have cq:=qH W;have d7:=qH cp;have C:=qH (aj.out.f.same W);have I:=qH (cm.out.same W);have H:Hid (¬ BuS qr b/\¬ BuS qr xb/\¬ BuS qr hm):=qH ⟨C.out.m.far I.out.blk (by decide) (by decide),C.out.m.far aa (by decide) (by decide),C.out.m.farM I.out.map⟩;have ak:Hid (∀ (S:Nat->Prop) d,Upd S N d->¬ S b->¬ S xb->¬ S hm->d.cell? ⟨b,8,none⟩=some (.map (some hm))/\d.cell? ⟨xb,0,none⟩=some (.int .i64 (id:Int))/\d.cell? ⟨xb,2,none⟩=some (.slice AP nP cP)/\(Instr.lookup 71 (.map (some hm)) (.int .i64 (id:Int)) false).run Tryz.prog d=.ok (.int .i64 hd) d):=qH fun S d hu s h2 h3 =>
    ⟨(I.out.blk.upd hu s).cell 8,(a2.out.upd hu h2).cell 0,(a2.out.upd hu h2).cell 2,by have h4:=((MpI.upd I.out.map hu h3).look vE (aF d) (i:=(id:Int)) (by omega)).2;rw [a8.out.head] at h4;exact h4⟩
   obtain ⟨F,a0⟩:∃ F:Int,(if props=[] then -1 else ((qr.l 5).length:Int))=F:=⟨_,rfl⟩
   have U : -1<=F/\F<65536:=by
    have h5:=(C.out.m.fl 5 (by decide)).len;have h6:=a1.out;have h7:=aq.out;rw [<- a0];cases props with
    | nil=>rw [gA rfl];omega
    | cons p ps=>rw [aA (NJ _ _)];simp only [BA] at h6;omega
   have b5:=qH U;have bo:=qH a0;have V:Hid (∀ d,Same N d->Calls Tryz.prog 55 #[.pointer (some ⟨b,0,none⟩),.slice AP nP cP] d fun e w'=>e=.returned (.int .i64 F)/\∃ qx,LayI d B qr ns props props.length w' qx):=qH fun d hs=>by have s:=eZ d (c7:=.slice AC nC cC) (c8:=.map (some hm)) (C.out.m.same hs) (tA b3.out (tA C.out.n.up.size hs.size)) (by rw [<- C.out.cells];exact I.out.blk.same hs) ((a9.out.same cq.out).same hs) C.out.all a8.out.props (tA a1.out (by have:=aq.out;omega));unfold LayR at s;rw [a0] at s;exact s
   clear aa W cp a0 U p0 p1 p2;refine eE 13 (fun d=>d.cell? ⟨b,8,none⟩=some (.map (some hm))/\d.cell? ⟨xb,0,none⟩=some (.int .i64 (id:Int))/\d.cell? ⟨xb,2,none⟩=some (.slice AP nP cP)/\(Instr.lookup 71 (.map (some hm)) (.int .i64 (id:Int)) false).run Tryz.prog d=.ok (.int .i64 hd) d) (by kernel_rfl) (ak.out _ _ (eA (fun _=>False) N).drew (fun f=>f) (fun f=>f) (fun f=>f)) (fun a=>?_);refine tC ?_;refine ESt.br2 10 12 rfl rfl (fun K hK=>?_) (fun K hK=>?_)
   focus
    go_simp;have b6:Same N N.drew:=(eA _ N).drew;refine (V.out _ b6).mono ?_;rintro e w3 ⟨rfl,qx,hL⟩;have a3:Upd (BuS qr) N w3:=(b6.mono fun _ _ f=>f.elim).trans hL.n.up fun _ _ e=>e;have bp:=(C.out.same b6).lay hL;refine hK.out _ _ (ak.out _ _ a3 H.1 H.2.1 H.2.2) (fun a=>?_);clear hK K;refine tC ?_;refine CD 12 rfl (fun K hK=>?_);go_simp;have r:=jA w3 115 #[.int .i64 0,.int .i64 0,.slice none 0 0];have b7:=(eA (fun _=>False) w3).alloc (.cells #[.int .i64 0,.int .i64 0,.slice none 0 0] 115);have aw:=bp.same b7;have ax:=(a2.out.upd a3 H.2.1).same b7;have Z:w1.heap.size<=w3.heap.size:=bp.n.up.size;refine hK.out _ _ (ak.out _ _ (a3.same b7) H.1 H.2.1 H.2.2) (fun a=>?_);clear hK K b6;generalize w3.alloc (.cells #[.int .i64 0,.int .i64 0,.slice none 0 0] 115)=wz at *;obtain ⟨E,b2⟩:∃ E,w3.heap.size=E:=⟨_,rfl⟩
    rw [b2] at r Z ⊢;clear bp b7 a3;have c0:wz.cell? ⟨E,0,none⟩=some (.int .i64 0):=r.cell 0;have bq:wz.cell? ⟨E,1,none⟩=some (.int .i64 0):=r.cell 1;have bt:wz.cell? ⟨E,2,none⟩=some (.slice none 0 0):=r.cell 2;have f0:wz.frozen? ⟨E,0,none⟩=false:=r.frozen 0;have f1:wz.frozen? ⟨E,1,none⟩=false:=r.frozen 1;have f2:wz.frozen? ⟨E,2,none⟩=false:=r.frozen 2;refine bD rfl (fun K hK=>?_);go_simp;refine hK.out _ _ ?_;clear hK K a c0 bq bt f0 f1 f2;obtain ⟨wE,ag⟩:∃ wE,(((wz.setCell ⟨E,0,none⟩ (.int .i64 hd)).setCell ⟨E,1,none⟩ (.int .i64 F)).setCell ⟨E,2,none⟩ (.slice none 0 0))=wE:=⟨_,rfl⟩
    rw [ag];have a4:=qH (gZ aw r Z ax ag);have cr:=qH Z;have cs:Hid (∃ X Y,LayI X B qr ns props props.length Y qx):=qH ⟨_,_,hL⟩;clear ag aw r Z ax hL b2
   rotate_left
   focus
    go_simp;have bi:=jA N 115 #[.int .i64 0,.int .i64 0,.slice none 0 0];have al:=((eA (fun _=>False) N).alloc (.cells #[.int .i64 0,.int .i64 0,.slice none 0 0] 115)).drew;have ah:=bi.same (eA (fun _=>False) _).drew;refine hK.out _ _ (ak.out _ _ al (fun f=>f) (fun f=>f) (fun f=>f)) (fun a=>?_);clear hK K bi;generalize (N.alloc (.cells #[.int .i64 0,.int .i64 0,.slice none 0 0] 115)).drew=wn at *;have Z:w1.heap.size<=N.heap.size:=C.out.n.up.size;obtain ⟨E,b2⟩:∃ E,N.heap.size=E:=⟨_,rfl⟩
    rw [b2] at ah Z ⊢;refine CD 10 rfl (fun K hK=>?_);go_simp;refine (V.out _ al).mono ?_;rintro e wz ⟨rfl,qx,hL⟩;have a3:Upd (BuS qr) N wz:=(al.mono fun _ _ f=>f.elim).trans hL.n.up fun _ _ e=>e;have aw:=(C.out.same al).lay hL;have ax:=a2.out.upd a3 H.2.1;have r:=ah.upd hL.n.up ((C.out.same al).m.far ah (by decide) (by decide));refine hK.out _ _ (ak.out _ _ a3 H.1 H.2.1 H.2.2) (fun a=>?_);clear hK K;refine tC ?_;clear ah a3 al;have c0:wz.cell? ⟨E,0,none⟩=some (.int .i64 0):=r.cell 0;have bq:wz.cell? ⟨E,1,none⟩=some (.int .i64 0):=r.cell 1;have bt:wz.cell? ⟨E,2,none⟩=some (.slice none 0 0):=r.cell 2;have f0:wz.frozen? ⟨E,0,none⟩=false:=r.frozen 0;have f1:wz.frozen? ⟨E,1,none⟩=false:=r.frozen 1;have f2:wz.frozen? ⟨E,2,none⟩=false:=r.frozen 2;refine bD rfl (fun K hK=>?_);go_simp;refine hK.out _ _ ?_;clear hK K a c0 bq bt f0 f1 f2;obtain ⟨wE,ag⟩:∃ wE,(((wz.setCell ⟨E,0,none⟩ (.int .i64 hd)).setCell ⟨E,1,none⟩ (.int .i64 F)).setCell ⟨E,2,none⟩ (.slice none 0 0))=wE:=⟨_,rfl⟩
    rw [ag];have a4:=qH (gZ aw r Z ax ag);have cr:=qH Z;have cs:Hid (∃ X Y,LayI X B qr ns props props.length Y qx):=qH ⟨_,_,hL⟩;clear ag aw r Z ax hL b2
   rotate_left
   all_goals
    clear ak V H cq a2 d7 a1 a9 I C cm;have x1:wE.cell? ⟨xb,1,none⟩=some (.slice AL nL cL):=a4.2.2.cell 1;go_wp2_with fail;clear x1;generalize wr=wo at *;have ct:Hid (LbI wE wE E (.int .i64 hd) (.int .i64 F) (z.map (jB (ns 0))) 0 none 0):=qH ⟨eA _ _,a4.2.1,iC _ _ _ _⟩;go_loopg [41] nL (fun gh dj wr=>∃ (k:Nat) (A:Option Addr) (c:Nat),nL-k=gh/\k<=nL/\dj=.int .i64 (k:Int)/\Hid (LbI wE wr E (.int .i64 hd) (.int .i64 F) (z.map (jB (ns 0))) k A c))
    case atStart=>exact ⟨0,none,0,rfl,oA _,rfl,ct⟩
    obtain ⟨k,A,c,rfl,dr,rfl,HJ⟩:=hrel;have ab:=a4.1.turn a4.2.1 fZ cr.out HJ.out.up;have a5:=ap.out.mv ai.out ab.n.up;have bu:=a4.2.2.upd HJ.out.up (a4.2.2.ne a4.2.1 (by decide));by_cases cu:k<nL
    · obtain ⟨bL,oL,u,rfl,_,_,hu,hc⟩:=(cn.out.upd ab.n.up d5.out).at_ cu;rw [MA] at hu;obtain ⟨tx,cd,rfl⟩:=GH.1 hu;obtain ⟨ii,e1,e2,e3⟩:=a8.out.labs tx (OC cd);have d8:Hid (Calls Tryz.prog 56 #[.pointer (some ⟨q.t 0,0,none⟩),.string tx] wr fun e w'=>e=.returned (.tuple #[.int .i64 (ii:Int),.bool true])/\wr=w'):=qH (by have s:=FT (ab.m.tb 0 (by decide)) e3;rw [ab.n.t,e1] at s;exact s)
      have d9:Hid ((z.map (jB (ns 0)))[k]?=some (ii:Int)):=qH (by rw [MA,cd,<-e2];rfl);have r0:wr.cell? ⟨b,0,none⟩=some (.pointer (some ⟨q.t 0,0,none⟩)):=a5.blk.cell 0;have s2:wr.cell? ⟨E,2,none⟩=some (.slice A k c):=HJ.out.blk.cell 2;have dp:wE.heap.size<=wr.heap.size:=HJ.out.up.size;have j2:(k:Int)<(nL:Int):=by omega
      clear ab a5 bu hu cd e1 e2 e3;go_wp2_with fail;refine d8.out.mono ?_;rintro e wq ⟨rfl,rfl⟩;go_wp2_with (at_builtin;go_must (refine XD rfl (.tmp 56) (.tmp 58) _ _ rfl wE.heap.size 3 1 8 _ mG jK rfl (.slice A k c) k _ rfl (HJ.out.row.alloc _) rfl (GD mG (tI _ _ _) (by simp [Value.oneCell'])) (by unfold maxLen;omega) (by omega) (by simp;omega) ?_);intro v7 w7 bf;obtain ⟨A7,c7,rfl⟩:=WA bf.own;have da:=qH bf;have bv:=bf.blk (HJ.out.blk.alloc _) (HJ.out.blk.ne_own HJ.out.row (by decide));have s7:w7.cell? ⟨E,2,none⟩=some (.slice A k c):=bv.cell 2;have z7:w7.frozen? ⟨E,2,none⟩=false:=bv.frozen 2;clear bf bv s2);go_roundg (nL-(k+1))
      case measure=>omega
      case rel=>exact ⟨k+1,A7,c7,rfl,by omega,by go_num,qH (HJ.out.snoc ((eA _ wr).alloc _) da.out d9.out)⟩
    obtain rfl:k=nL:=by omega
    have s0:wr.cell? ⟨E,0,none⟩=some (.int .i64 hd):=HJ.out.blk.cell 0;have s1:wr.cell? ⟨E,1,none⟩=some (.int .i64 F):=HJ.out.blk.cell 1;have s2:wr.cell? ⟨E,2,none⟩=some (.slice A k c):=HJ.out.blk.cell 2;have b8:=Znh (x:=⟨hd,F,z.map (jB (ns 0))⟩) wr (by have s:=HJ.out.row;rw [cB (by rw [nA,au.out];exact lA _)] at s;exact s) (a8.out.ok F b5.1 b5.2)
    have a6:(PD ⟨hd,F,z.map (jB (ns 0))⟩).length=16:=eT (a8.out.ok F b5.1 b5.2);obtain ⟨D,hD⟩:∃ D,PD ⟨hd,F,z.map (jB (ns 0))⟩=D:=⟨_,rfl⟩
    rw [hD] at b8 a6;simp only at b8;have cv:=qH b8;have HD:=qH hD;have db:=qH ab;have I:=qH a5;have dc:=qH bu;have j2:¬ (k:Int)<(k:Int):=by omega
    clear b8 hD ab a5 bu;go_wp2_with fail;refine cv.out.mono ?_;rintro e wa ⟨v,rfl,O,bg⟩;obtain ⟨A8,c8,rfl⟩:=WA O;have M:=(db.out.same bg).same (eA (fun _=>False) wa).drew;have cw:=(I.out.same bg).same (eA (fun _=>False) wa).drew;have ay:=(dc.out.same bg).same (eA (fun _=>False) wa).drew;have ac:=lU wa.drew M.m (tA b3.out M.n.up.size) (j:=3) (by decide) (by decide) (IB.of (mA O (eA (fun _=>False) wa).drew) rfl) (by rw [a6];rfl) id av;rw [M.n.f] at ac;have bw:=qH ac;have ad:=qH M;have ae:=qH ay;have bx:=qH cw;generalize D.length=DL at *;clear a6 O bg M cw ay ac s0 s1 s2 cv;go_wp2_with fail;refine (zF wa).mono ?_;rintro e wb ⟨rfl,rfl⟩;go_upto_region 13 with fail;refine eE 9 (fun d=>d.cell? ⟨b,3,none⟩=some (.pointer (some ⟨q.f 3,0,none⟩))/\d.cell? ⟨xb,0,none⟩=some (.int .i64 (id:Int))) (by kernel_rfl) ⟨bx.out.blk.cell 3,ae.out.cell 0⟩ (fun a=>?_);refine tC ?_;refine CD 8 rfl (fun K hK=>?_);go_simp;refine bw.out.mono ?_;rintro e wd ⟨rfl,qz,hA⟩;refine hK.out _ _ ⟨(bx.out.blk.upd hA.n.up (ad.out.m.far bx.out.blk (by decide) (by decide))).cell 3,(ae.out.upd hA.n.up (ad.out.m.far ae.out (by decide) (by decide))).cell 0⟩ (fun a=>?_);clear hK K;refine bD rfl (fun K hK=>?_);go_simp;refine (zF wd).mono ?_;rintro e we ⟨rfl,rfl⟩;refine hK.out _ _ ?_;have HA:=qH hA;clear hK K a hA;go_wp2;go_roundg (nN-(i+1))
    case measure=>omega
    obtain ⟨X,Y,hL⟩:=cs.out;exact ⟨i+1,rfl,by omega,by go_num,qH ⟨qz,aj.out.next HX.out hL (ad.out.put (by decide) HA.out) (by have s:=HA.out;rw [<- HD.out,<-bo.out] at s;exact s)⟩⟩
 obtain rfl:i=nN:=by omega
 obtain ⟨qN,R⟩:=HI.out;have dd:zs.length=i:=by rw [<- d3.out,<-HZ.out,nA]
 have am:=R.go;have bz:=R.cnt;rw [BC (by omega),TG] at am bz;obtain ⟨T2,ce⟩:∃ T2,zG (ns 1) (ns 2) L (ao.map RL.dat) T=T2:=⟨_,rfl⟩
 have de:=qH ce;have cx:Hid (FiR w1 B q ns L ao T2 (K1+(ao.map fun x=>x.props.length).sum) 0 wr qN):=qH ⟨R.f,by rw [<- ce,<-am];rfl,by rw [<- bz];rfl⟩;have g1:wr.cell? ⟨gB,1,none⟩=some (.slice AR nR cR):=(bm.out.upd R.f.n.up (ai.out.far bm.out (by decide) (by decide))).cell 1;have j1:¬ (i:Int)<(i:Int):=by omega
 obtain ⟨K2,d2⟩:∃ K2,K1+(ao.map fun x=>x.props.length).sum=K2:=⟨_,rfl⟩
 rw [d2] at cx aq;clear R dd am bz ce d2 cl HN HZ HI;go_wp2_with fail;clear g1 j1 ar;go_loopg [83] nR (fun g dk wr=>∃ i:Nat,nR-i=g/\i<=nR/\dk=.int .i64 (i:Int)/\Hid (∃ qr,FiR w1 B q ns L ao T2 K2 i wr qr))
 case atStart=>exact ⟨0,rfl,oA _,rfl,qH ⟨qN,cx.out⟩⟩
 obtain ⟨i,rfl,hi,rfl,HI⟩:=hrel;by_cases ar:i<nR
 · obtain ⟨qr,R⟩:=HI.out;have hk:=ap.out.mv ai.out R.f.n.up;obtain ⟨bA,o,x,rfl,cc,_,hx,a7,p0,p1,p2,p3,p4⟩:=hk.gr.rels.at_ (i:=i) ar;have an:=HR.out x a7;have HX:=qH hx;have df:=qH an;have a1:=qH (R.room hx);have aj:=qH R;have a9:=qH (hk.gr.rels.pro x a7);have j1:(i:Int)<(nR:Int):=by omega
   clear cc hx a7 R HI;obtain ⟨l,hl,cf⟩:=an.ok;obtain ⟨ti,t1,t2,t3⟩:=an.type;obtain ⟨b1,G,cg,dst,props,AP,nP,cP⟩:=x;obtain ⟨id,rfl⟩:∃ id:Nat,b1=(id:Int):=⟨b1.toNat,by have:=an.id.1;simp only at this;omega⟩
   simp only at p0 p1 p2 p3 p4 a9 a1 hl cf t1 t2 t3;rw [XB] at hl;have av:id<65536:=by have:=an.id.2;simp only at this;omega
   have dg:L.length=nC:=by have s:=hk.ch.1;rw [KG OF] at s;omega
   have dl:id<nC:=by have:=(IA.1 hl).1;omega
   obtain ⟨gC,_,rfl,_⟩:=jJ hk.ch (i:=id*7) (by omega);go_upto_region 18 with fail;have aa:=jA wr 60 #[.int .i64 (id:Int),.string G,.int .i64 cg,.int .i64 dst,.slice AP nP cP];have W:=(eA (fun _=>False) wr).alloc (.cells #[.int .i64 (id:Int),.string G,.int .i64 cg,.int .i64 dst,.slice AP nP cP] 60);generalize wr.alloc (.cells #[.int .i64 (id:Int),.string G,.int .i64 cg,.int .i64 dst,.slice AP nP cP] 60)=N at *;generalize wr.heap.size=xb at *;have b9:=aj.out.f.same W;have a5:=hk.same W;have HF:Hid (∀ d,Same N d->Calls Tryz.prog 56 #[.pointer (some ⟨q.t 1,0,none⟩),.string G] d fun e w'=>e=.returned (.tuple #[.int .i64 (ti:Int),.bool true])/\d=w'):=qH fun d hs=>by have s:=FT ((b9.m.tb 1 (by decide)).same hs) t3;rw [b9.n.t,t1] at s;exact s
   have bj:=qH (a9.out.same W);have C:=qH b9;have I:=qH a5;have a2:=qH aa;have cy:=qH cf;have bk:=qH t2;have au:=qH hl;have r1:N.cell? ⟨b,1,none⟩=some (.pointer (some ⟨q.t 1,0,none⟩)):=a5.blk.cell 1;have x1:N.cell? ⟨xb,1,none⟩=some (.string G):=aa.cell 1;clear b9 a5 aa W cf t1 t2 t3 an hk p0 p1 p2 p3 p4 hl dg a9;go_quiet (first | exact Calls.quiet_of_same ((HF.out _ (eA _ N)).mono fun e w' h=>⟨h.1,h.2.symm⟩) | exact Calls.quiet_of_same ((HF.out _ ((eA _ N).drewN _)).mono fun e w' h=>⟨h.1,h.2.symm⟩));have az:Same N (N.drewN nq):=(eA (fun _=>False) N).drewN nq;generalize N.drewN nq=w3 at *;clear r1 x1;go_upto_region 19 with fail;have P:=qH ((C.out.same az).same (eA (fun _=>False) w3).drew);have af:=qH ((I.out.same az).same (eA (fun _=>False) w3).drew);have ba:=qH ((a2.out.same az).same (eA (fun _=>False) w3).drew);have bb:Hid (∀ d,Upd (BuS qr) w3.drew d->d.cell? ⟨b,7,none⟩=some (.slice (some ⟨gC,0,none⟩) nC cC)/\d.cell? ⟨xb,0,none⟩=some (.int .i64 (id:Int))/\d.cell? ⟨xb,4,none⟩=some (.slice AP nP cP)/\d.cell? ⟨gC,id*7,none⟩=some (.bool l.live)/\d.cell? ⟨gC,id*7+1,none⟩=some (.int .i64 l.src)/\d.cell? ⟨gC,id*7+2,none⟩=some (.int .i64 l.dst)/\d.cell? ⟨gC,id*7+3,none⟩=some (.int .i64 l.sprev)/\d.cell? ⟨gC,id*7+4,none⟩=some (.int .i64 l.dprev)/\d.cell? ⟨gC,id*7+5,none⟩=some (.int .i64 l.snext)/\d.cell? ⟨gC,id*7+6,none⟩=some (.int .i64 l.dnext)):=qH fun d hu=>by have s:=(af.out.blk.upd hu (P.out.m.far af.out.blk (by decide) (by decide))).cell 7;have h2:=ba.out.upd hu (P.out.m.far ba.out (by decide) (by decide));obtain ⟨c0,c1,c2,c3,c4,c5,c6⟩:=(oO (GA af.out.ch hu (P.out.m.farO af.out.ch (by decide) (by decide))) au.out).1;exact ⟨s,h2.cell 0,h2.cell 4,c0,c1,c2,c3,c4,c5,c6⟩
   obtain ⟨F,a0⟩:∃ F:Int,(if props=[] then -1 else ((qr.l 5).length:Int))=F:=⟨_,rfl⟩
   have U : -1<=F/\F<65536:=by
    have h6:=a1.out;have h7:=aq.out;rw [<- a0];cases props with
    | nil=>rw [gA rfl];omega
    | cons p ps=>rw [aA (NJ _ _)];simp only [BA] at h6;omega
   have bo:=qH a0;have V:Hid (Calls Tryz.prog 55 #[.pointer (some ⟨b,0,none⟩),.slice AP nP cP] w3.drew fun e w'=>e=.returned (.int .i64 F)/\∃ qx,LayI w3.drew B qr ns props props.length w' qx):=qH (by have s:=eZ w3.drew (c7:=.slice (some ⟨gC,0,none⟩) nC cC) (c8:=.map (some hm)) P.out.m (tA b3.out P.out.n.up.size) (by rw [<- P.out.cells];exact af.out.blk) ((bj.out.same az).same (eA (fun _=>False) w3).drew) P.out.all df.out.props (tA a1.out aq.out);unfold LayR at s;rw [a0] at s;exact s)
   have cz:=qH (cy.out F U.1 U.2);clear a0 U az C I a2 HF bj cy;refine eE 19 (fun d=>d.cell? ⟨b,7,none⟩=some (.slice (some ⟨gC,0,none⟩) nC cC)/\d.cell? ⟨xb,0,none⟩=some (.int .i64 (id:Int))/\d.cell? ⟨xb,4,none⟩=some (.slice AP nP cP)/\d.cell? ⟨gC,id*7,none⟩=some (.bool l.live)/\d.cell? ⟨gC,id*7+1,none⟩=some (.int .i64 l.src)/\d.cell? ⟨gC,id*7+2,none⟩=some (.int .i64 l.dst)/\d.cell? ⟨gC,id*7+3,none⟩=some (.int .i64 l.sprev)/\d.cell? ⟨gC,id*7+4,none⟩=some (.int .i64 l.dprev)/\d.cell? ⟨gC,id*7+5,none⟩=some (.int .i64 l.snext)/\d.cell? ⟨gC,id*7+6,none⟩=some (.int .i64 l.dnext)) (by kernel_rfl) (bb.out _ (eA _ _)) (fun a=>?_);refine tC ?_;refine CD 12 rfl (fun K hK=>?_);go_simp;refine V.out.mono ?_;rintro e w4 ⟨rfl,qx,hL⟩;refine hK.out _ _ (bb.out _ hL.n.up) (fun a=>?_);clear hK K;refine tC ?_;refine CD 14 rfl (fun K hK=>?_);go_simp;have b0:=ZoO (x:=⟨l,jB (ns 1) G,F⟩) w4 cz.out;have a6:(relB ⟨l,jB (ns 1) G,F⟩).length=30:=gT _;rw [bk.out] at b0 a6;simp only at b0;obtain ⟨D,hD⟩:∃ D,relB ⟨l,(ti:Int),F⟩=D:=⟨_,rfl⟩
   rw [hD] at b0 a6;have HD:Hid (relB ⟨l,jB (ns 1) G,F⟩=D):=qH (by rw [bk.out,hD]);have d0:=qH a6;clear a6;refine b0.mono ?_;rintro e w5 ⟨v,rfl,O,ci⟩;obtain ⟨A8,c8,rfl⟩:=WA O;have bc:=hL.n.up.same ci;refine hK.out _ _ (bb.out _ bc) (fun a=>?_);clear hK K b0 hD;refine tC ?_;refine bD rfl (fun K hK=>?_);go_simp;refine hK.out _ _ ?_;clear hK K a;have M:=((P.out.lay hL).same ci).same (eA (fun _=>False) w5).drew;have d1:=(af.out.blk.upd bc (P.out.m.far af.out.blk (by decide) (by decide))).same (eA (fun _=>False) w5).drew;have ay:=(ba.out.upd bc (P.out.m.far ba.out (by decide) (by decide))).same (eA (fun _=>False) w5).drew;have ac:=lU w5.drew M.m (tA b3.out M.n.up.size) (j:=4) (by decide) (by decide) (IB.of (mA O (eA (fun _=>False) w5).drew) rfl) (by rw [d0.out];rfl) id av;rw [M.n.f] at ac;have bw:=qH ac;have ad:=qH M;have ae:=qH ay;have c9:=qH d1;have HL:=qH hL;generalize D.length=DL at *;clear d0 O ci M d1 ay ac bc hL V bb cz;go_wp2_with fail;refine (zF w5).mono ?_;rintro e wb ⟨rfl,rfl⟩;go_upto_region 21 with fail;refine eE 9 (fun d=>d.cell? ⟨b,4,none⟩=some (.pointer (some ⟨q.f 4,0,none⟩))/\d.cell? ⟨xb,0,none⟩=some (.int .i64 (id:Int))) (by kernel_rfl) ⟨c9.out.cell 4,ae.out.cell 0⟩ (fun a=>?_);refine tC ?_;refine CD 8 rfl (fun K hK=>?_);go_simp;refine bw.out.mono ?_;rintro e wd ⟨rfl,qz,hA⟩;refine hK.out _ _ ⟨(c9.out.upd hA.n.up (ad.out.m.far c9.out (by decide) (by decide))).cell 4,(ae.out.upd hA.n.up (ad.out.m.far ae.out (by decide) (by decide))).cell 0⟩ (fun a=>?_);clear hK K;refine bD rfl (fun K hK=>?_);go_simp;refine (zF wd).mono ?_;rintro e we ⟨rfl,rfl⟩;refine hK.out _ _ ?_;have HA:=qH hA;clear hK K a hA;go_wp2;go_roundg (nR-(i+1))
   case measure=>omega
   case rel=>exact ⟨i+1,rfl,by omega,by go_num,qH ⟨qz,aj.out.next HX.out au.out HL.out (ad.out.put (by decide) HA.out) (by have s:=HA.out;rw [<- HD.out,<-bo.out] at s;exact s)⟩⟩
 obtain rfl:i=nR:=by omega
 have j1:¬ (i:Int)<(i:Int):=by omega
 clear ar;go_wp2;go_end0;rw [<- cj.out];obtain ⟨qr,R⟩:=HI.out;have am:=R.go;rw [BC (by have:=d4.out;omega),TG] at am;refine ⟨rfl,qr,⟨R.f.m,((tO w q).same bn.out).trans R.f.n,R.f.all,R.f.tabs⟩,?_⟩;rw [HT.out,de.out];exact am
end
end Go.Proofs.YtmkjfhnlnhceiaaGreatDoor
