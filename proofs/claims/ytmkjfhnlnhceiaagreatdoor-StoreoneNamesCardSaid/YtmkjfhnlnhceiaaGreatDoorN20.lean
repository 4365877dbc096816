/- Texts that the claim leans on: walks and plain laws, function by function. -/
import Derived.Maps.OwnIn
import Derived.Test.YtmkjfhnlnhceiaaGreatDoorN11
import Derived.Test.YtmkjfhnlnhceiaaGreatDoorN15
set_option maxRecDepth 100000
set_option maxHeartbeats 16000000
namespace Go.Proofs.YtmkjfhnlnhceiaaGreatDoor
section
open Go.RowKit Go.Shelf
attribute [local go_sem] Ybq
def allP (g:GR):List PR:=g.ns.flatMap ND.props++g.rs.flatMap RL.props
theorem ZeU {α β:Type} {f:α->List β} {l:List α} {i:Nat} {x:α} (h:l[i]?=some x):(l.take (i+1)).flatMap f=(l.take i).flatMap f++f x:=by rw [Ybo,h,Yem,YbS];simp
theorem ZnK {α β:Type} {f:α->List β} {l:List α} {i:Nat} {x:α} (h:l[i]?=some x):((l.take i).flatMap f).length+(f x).length<=(l.flatMap f).length:=by
 have a:(l.take (i+1)).flatMap f++(l.drop (i+1)).flatMap f=l.flatMap f:=by rw [<- YbS,YbT]
 rw [<- a,ZeU h,Yaf,Yaf];omega
theorem ZoU {α β:Type} {f:α->List β} {l:List α} {i:Nat} {x:α} (h:l[i]?=some x) (j:Nat):((l.take i).flatMap f++(f x).take j) <+: l.flatMap f:=by refine ⟨(f x).drop j++(l.drop (i+1)).flatMap f,?_⟩;rw [Yak,<-Yak ((f x).take j),YbT,<-Yak,<-ZeU h,<-YbS,YbT]
theorem ZkZ {β:Type} {B:Nat} {J:β->World->Prop} (hJ:AbidesFrom B J) {s:β} {W:World} (o:Obj) (h:J s W):J s (W.alloc o) :=
 hJ s W (W.alloc o) none h (World.grownBy_alloc W o none) (fun r e=>by cases e)
theorem Zei {α:Type} {l:List α} {j:Nat} {y:α} (h:l[j]?=some y):l.take (j+1)=l.take j++[y]:=by rw [Ybo,h,Yem]
theorem Zrz (F:Fence) (n:Nat) (h7:F.fn 140) (hro:F.round=none) (hn:1<=n) (l Bs:Nat) (g:GR) (S Fg:Nat->Prop) (hSb:¬ S Bs) (hFS:∀ b,Fg b->¬ S b) (J Jx:List PR->World->Prop) (W:World) (hJ:AbidesFrom W.heap.size J) (hJx:AbidesFrom W.heap.size Jx) (hnew:∀ b,W.heap.size<=b->S b)
 (hY:∀ pre x W1,J pre W1->pre++[x] <+: allP g->YieldAt F (n-1) Tryz.prog l #[PR.agg x] W1 fun e W' =>
   (e=.returned (.bool true)/\J (pre++[x]) W'/\Upd S W1 W')\/(e=.returned (.bool false)/\Jx (pre++[x]) W'))
 (hB:Blk W Bs 26 #[.slice g.AN g.nN g.cN,.slice g.AR g.nR g.cR]) (hR:RdG W Fg g) (h0:J [] W) :
 CallsIn F n Tryz.prog 140 #[.func (.yield l) #[] #[],.pointer (some ⟨Bs,0,none⟩)] W fun e W'=>(∃ v,e=.returned v) /\
  ((∃ ys,ys=allP g/\J ys W')\/(∃ pre,pre <+: allP g/\Jx pre W')):=by
 obtain ⟨d,AN,nN,cN,B,AR,nR,cR⟩:=g;simp only at hB;have a7:=hR.nodes.row.max;have ae:=hR.nodes.row.le;have a1:=hR.rels.row.max;have a8:=hR.rels.row.le;unfold maxLen at a7 a1;simp only at a7 ae a1 a8;have HL:=qH (show d.length=nN from hR.nodes.len);have af:=qH (show B.length=nR from hR.rels.len);have T:=qH hR;have a9:=qH hB;have HA:=qH (show allP ⟨d,AN,nN,cN,B,AR,nR,cR⟩=d.flatMap ND.props++B.flatMap RL.props from rfl);have U:=qH hJ;have an:=qH hJx;have am:=qH hnew;have HY:=qH hY;have V:=qH hFS;clear hR hB hJ hJx hnew hY hFS;refine callsIn_of_wp Tryz.func140 rfl h7 ?_ hro;simp only [Tryz.ntmps140,YbV,Yao,YaS,Nat.reduceAdd,Nat.reduceSub,Yda,Ydb,Ydc,Ydd,YaK,YaE];have p0:=a9.c0;gi_wp2;clear p0
 gi_loopw [14] (fun C wr=>∃ i:Nat,i<=nN/\C=.int .i64 i/\Hid (J ((d.take i).flatMap ND.props) wr)/\Hid (Upd S W wr)) (fun C _=>nN-(intOf C).toNat)
 case atStart=>exact ⟨0,Yah _,rfl,qH (by simpa using h0),qH (Yaa _ _)⟩
 obtain ⟨i,hi,rfl,E,k⟩:=hrel;by_cases X:i<nN
 · obtain ⟨b,o,x,rfl,hb,_,Y,M,r0,r1,r2⟩:=(T.upd k V).nodes.at_ X;have HP:=qH (fun (w9:World) (hu:Upd S W w9)=>(T.upd hu V).nodes.pro x M);have a2:=qH (ZeU (f:=ND.props) Y);have ag:=qH (ZnK (f:=ND.props) Y);have H:=qH (ZoU (f:=ND.props) Y);clear Y M;obtain ⟨C,lb,AL,nL,cL,D,AP,r,N⟩:=x;simp only at r0 r1 r2;have c:=qH (ZkZ U (.cells #[.int .i64 C,.slice AL nL cL,.slice AP r N] 56) E);have m:=qH (k.alloc (.cells #[.int .i64 C,.slice AL nL cL,.slice AP r N] 56));have p:=HP.out wr k.out;have a3:N<=maxLen:=p.row.max;have ah:r<=N:=p.row.le;have I:=qH (show D.length=r from p.len);unfold maxLen at a3;clear p;obtain ⟨R,rfl⟩:∃ R:World,R=wr:=⟨_,rfl⟩
   gi_wp2;clear r0 r1 r2;generalize R.alloc (.cells #[.int .i64 C,.slice AL nL cL,.slice AP r N] 56)=w7 at *
   gi_loopw [21] (fun jx wr=>∃ j:Nat,j<=r/\jx=.int .i64 j/\Hid (J ((d.take i).flatMap ND.props++D.take j) wr)/\Hid (Upd S W wr)) (fun jx _=>r-(intOf jx).toNat)
   case atStart=>exact ⟨0,Yah _,rfl,qH (by simpa using c.out),m⟩
   clear c m E k;obtain ⟨j,hj,rfl,E,k⟩:=hrel;by_cases L:j<r
   · obtain ⟨b2,o2,y,rfl,_,_,hy,_,q0,q1,q2,q3,q4,q5⟩:=(HP.out wr k).at_ L;have aa:j<D.length:=by rw [I.out];exact L
     have hT:=Zei hy;have HT:=qH hT;obtain ⟨Z,⟨y0,y1,y2,y3,y4⟩,yA,yn,yc,s,t,u⟩:=y;simp only at q0 q1 q2 q3 q4 q5;have c:=ZkZ U.out (.cells #[.string Z,.int .i64 y0,.int .i64 y1,.string y2,.slice yA yn yc,.slice s t u] 53) E.out;have m:=qH (k.alloc (.cells #[.string Z,.int .i64 y0,.int .i64 y1,.string y2,.slice yA yn yc,.slice s t u] 53));have w:(d.take i).flatMap ND.props++D.take j++[⟨Z,⟨y0,y1,y2,y3,y4⟩,yA,yn,yc,s,t,u⟩] <+: allP ⟨d,some ⟨b,o,none⟩,nN,cN,B,AR,nR,cR⟩:=by rw [HA.out,Yak,<-hT];exact (H.out (j+1)).trans (Ydq _ _)
     obtain ⟨fn,ac,a0,ad,al,a6⟩:=HY.out _ ⟨Z,⟨y0,y1,y2,y3,y4⟩,yA,yn,yc,s,t,u⟩ _ c w;clear hy hT c w;gi_wp2;refine a6.mono ?_;rintro e W3 (⟨rfl,O,P⟩ | ⟨rfl,A⟩)
     · have a:=qH (show J ((d.take i).flatMap ND.props++D.take (j+1)) W3 from by rw [HT.out,<-Yak];exact O);have a4:=qH (m.trans P fun _ _ h=>h);clear O P q0 q1 q2 q3 q4 q5;gi_wp2
       go_roundw
       case rel=>exact ⟨j+1,qO,by simp,a,a4⟩
       case measure=>simp [intOf];omega
     have z:=H.out (j+1);have a:=qH (show ∃ pre,pre <+: allP ⟨d,some ⟨b,o,none⟩,nN,cN,B,AR,nR,cR⟩/\Jx pre W3 from ⟨(d.take i).flatMap ND.props++D.take (j+1),by rw [HA.out];exact z.trans (Ydq _ _),by rw [HT.out,<-Yak];exact A⟩);clear A z q0 q1 q2 q3 q4 q5;gi_wp2;refine YbB (Ycp rfl _ _ _) rfl ?_;exact ⟨⟨_,rfl⟩,.inr a⟩
   have a5:j=r:=qO;subst a5;have a:=qH (show J ((d.take (i+1)).flatMap ND.props) wr from by rw [a2.out];have G:=E.out;rw [YaB (l:=D) (by rw [I.out];exact Yae _)] at G;exact G)
   gi_wp2
   go_roundw
   case rel=>exact ⟨i+1,qO,by simp,a,k⟩
   case measure=>simp [intOf];omega
 have ai:i=nN:=qO;subst ai;have p1:=(a9.upd k hSb).c1;have ab:=qH (show J (d.flatMap ND.props++(B.take 0).flatMap RL.props) wr from by have G:=E.out;rw [YaB (by rw [HL.out];exact Yae _)] at G;simpa using G)
 have aj:((d.flatMap ND.props).length)<=(allP ⟨d,AN,i,cN,B,AR,nR,cR⟩).length:=by rw [HA.out,Yaf];omega
 clear X aj E;obtain ⟨R,rfl⟩:∃ R:World,R=wr:=⟨_,rfl⟩
 gi_wp2;clear p1
 gi_loopw [34] (fun C wr=>∃ i:Nat,i<=nR/\C=.int .i64 i/\Hid (J (d.flatMap ND.props++(B.take i).flatMap RL.props) wr)/\Hid (Upd S W wr)) (fun C _=>nR-(intOf C).toNat)
 case atStart=>exact ⟨0,Yah _,rfl,ab,k⟩
 clear ab k;obtain ⟨q,hq,rfl,E,k⟩:=hrel;by_cases X:q<nR
 · obtain ⟨b,o,x,rfl,hb,_,Y,M,r0,r1,r2,r3,r4⟩:=(T.upd k V).rels.at_ X;have HP:=qH (fun (w9:World) (hu:Upd S W w9)=>(T.upd hu V).rels.pro x M);have a2:=qH (ZeU (f:=RL.props) Y);have ag:=qH (ZnK (f:=RL.props) Y);have H:=qH (ZoU (f:=RL.props) Y);clear Y M;obtain ⟨C,tx,sx,dx,D,AP,r,N⟩:=x;simp only at r0 r1 r2 r3 r4;have c:=qH (ZkZ U (.cells #[.int .i64 C,.string tx,.int .i64 sx,.int .i64 dx,.slice AP r N] 60) E);have m:=qH (k.alloc (.cells #[.int .i64 C,.string tx,.int .i64 sx,.int .i64 dx,.slice AP r N] 60));have p:=HP.out wr k.out;have a3:N<=maxLen:=p.row.max;have ah:r<=N:=p.row.le;have I:=qH (show D.length=r from p.len);unfold maxLen at a3;clear p;obtain ⟨R,rfl⟩:∃ R:World,R=wr:=⟨_,rfl⟩
   gi_wp2;clear r0 r1 r2 r3 r4;generalize R.alloc (.cells #[.int .i64 C,.string tx,.int .i64 sx,.int .i64 dx,.slice AP r N] 60)=w7 at *
   gi_loopw [41] (fun jx wr=>∃ j:Nat,j<=r/\jx=.int .i64 j/\Hid (J (d.flatMap ND.props++(B.take q).flatMap RL.props++D.take j) wr)/\Hid (Upd S W wr)) (fun jx _=>r-(intOf jx).toNat)
   case atStart=>exact ⟨0,Yah _,rfl,qH (by simpa using c.out),m⟩
   clear c m E k;obtain ⟨j,hj,rfl,E,k⟩:=hrel;by_cases L:j<r
   · obtain ⟨b2,o2,y,rfl,_,_,hy,_,q0,q1,q2,q3,q4,q5⟩:=(HP.out wr k).at_ L;have aa:j<D.length:=by rw [I.out];exact L
     have hT:=Zei hy;have HT:=qH hT;obtain ⟨Z,⟨y0,y1,y2,y3,y4⟩,yA,yn,yc,s,t,u⟩:=y;simp only at q0 q1 q2 q3 q4 q5;have c:=ZkZ U.out (.cells #[.string Z,.int .i64 y0,.int .i64 y1,.string y2,.slice yA yn yc,.slice s t u] 53) E.out;have m:=qH (k.alloc (.cells #[.string Z,.int .i64 y0,.int .i64 y1,.string y2,.slice yA yn yc,.slice s t u] 53));have w:d.flatMap ND.props++(B.take q).flatMap RL.props++D.take j++[⟨Z,⟨y0,y1,y2,y3,y4⟩,yA,yn,yc,s,t,u⟩] <+: allP ⟨d,AN,i,cN,B,some ⟨b,o,none⟩,nR,cR⟩:=by rw [HA.out,Yak,Yak,<-hT];exact (Ygz _).2 (H.out (j+1))
     obtain ⟨fn,ac,a0,ad,al,a6⟩:=HY.out _ ⟨Z,⟨y0,y1,y2,y3,y4⟩,yA,yn,yc,s,t,u⟩ _ c w;clear hy hT c w;gi_wp2;refine a6.mono ?_;rintro e W3 (⟨rfl,O,P⟩ | ⟨rfl,A⟩)
     · have a:=qH (show J (d.flatMap ND.props++(B.take q).flatMap RL.props++D.take (j+1)) W3 from by rw [HT.out,<-Yak];exact O);have a4:=qH (m.trans P fun _ _ h=>h);clear O P q0 q1 q2 q3 q4 q5;gi_wp2
       go_roundw
       case rel=>exact ⟨j+1,qO,by simp,a,a4⟩
       case measure=>simp [intOf];omega
     have z:=H.out (j+1);have a:=qH (show ∃ pre,pre <+: allP ⟨d,AN,i,cN,B,some ⟨b,o,none⟩,nR,cR⟩/\Jx pre W3 from ⟨d.flatMap ND.props++(B.take q).flatMap RL.props++D.take (j+1),by rw [HA.out,Yak];exact (Ygz _).2 z,by rw [HT.out,<-Yak];exact A⟩);clear A z q0 q1 q2 q3 q4 q5;gi_wp2;refine YbB (Ycp rfl _ _ _) rfl ?_;exact ⟨⟨_,rfl⟩,.inr a⟩
   have a5:j=r:=qO;subst a5;have a:=qH (show J (d.flatMap ND.props++(B.take (q+1)).flatMap RL.props) wr from by rw [a2.out];have G:=E.out;rw [YaB (l:=D) (by rw [I.out];exact Yae _),Yak] at G;exact G)
   gi_wp2
   go_roundw
   case rel=>exact ⟨q+1,qO,by simp,a,k⟩
   case measure=>simp [intOf];omega
 have ak:q=nR:=qO;subst ak;have G:=E.out;rw [YaB (by rw [af.out];exact Yae _),<-HA.out] at G;have a:=qH G;clear G;gi_wp2;go_end0;exact ⟨⟨_,rfl⟩,.inl ⟨_,rfl,a⟩⟩
theorem Zje (F:Fence) (n:Nat) (h7:F.fn 140) (hro:F.round=none) (hn:1<=n) (Bs:Nat) (g:GR) (S Fg:Nat->Prop) (hSb:¬ S Bs) (hFS:∀ b,Fg b->¬ S b) (w:World) (hnew:∀ b,w.heap.size<=b->S b)
 (hB:Blk w Bs 26 #[.slice g.AN g.nN g.cN,.slice g.AR g.nR g.cR]) (hR:RdG w Fg g) :
 SeqStopsK F n Tryz.prog 140 #[.pointer (some ⟨Bs,0,none⟩)] (fun x:{ x:PR // x∈allP g }=>#[PR.agg x.1]) (Upd S) (fun ys=>ys.map (fun x=>x.1)=allP g) (fun pre=>pre.map (fun x=>x.1) <+: allP g) (allP g).length w:=fun l J H W D I r L M =>
 have z:Same w W:=Yfe D
 (Zrz F n h7 hro hn l Bs g S Fg hSb hFS (fun pre W=>∃ q,q.map (fun x:{ x:PR // x∈allP g }=>x.1)=pre/\J q W) (fun pre W=>∃ q,q.map (fun x:{ x:PR // x∈allP g }=>x.1)=pre/\H q W) W
   (fun s A B d c t u=>by obtain ⟨q,f,j⟩:=c;exact ⟨q,f,I q A B d j t u⟩) (fun s A B d c t u=>by obtain ⟨q,f,j⟩:=c;exact ⟨q,f,r q A B d j t u⟩) (fun b N=>hnew b (Yaj D.size N))
   (fun pre x O c E=>by
     obtain ⟨q,f,j⟩:=c;have p:x∈allP g:=E.subset (by simp);have G:q.length<(allP g).length:=by have C:=E.length_le;rw [<- f] at C;simp only [Yaf,Yag,Ycs] at C;omega
     obtain ⟨fn,k,a,m,P,hR⟩:=L q ⟨x,p⟩ O j G;refine ⟨fn,k,a,m,P,hR.mono fun e R h=>?_⟩;rcases h with ⟨v,i,T⟩ | ⟨v,i⟩
     · exact .inl ⟨v,⟨q++[⟨x,p⟩],by rw [YaG,f];rfl,i⟩,T⟩
     exact .inr ⟨v,⟨q++[⟨x,p⟩],by rw [YaG,f];rfl,i⟩⟩)
   (hB.same z) (hR.same z) ⟨[],rfl,M⟩).mono fun e R c=>⟨c.1,by
     rcases c.2 with ⟨ys,rfl,q,y,i⟩ | ⟨pre,o,q,y,i⟩
     · exact .inl ⟨q,y,i⟩
     exact .inr ⟨q,by simp only [y];exact o,i⟩⟩
end
section
open Go.RowKit Go.Shelf Go.Maps
attribute [local go_sem] Ybq
theorem Zez {F:Fence} {nF:Nat} {P:Program} {w w':World} {ops:Array Oper} {rest:List Oper} {o:Oper} {a:Act} {Q:Exit->Act->World->Prop}
 (hg:o.guard=none) (m x v:Operand) (t:TypeId) (hop:o.op=Op.mapUpdate t m x v) {mv xv vv:Value} (hm:a.eval m=mv) (hx:a.eval x=xv) (hv:a.eval v=vv)
 (hrun:(Instr.mapUpdate t mv xv vv).run P w=.ok () w') (hK:wpListIn F nF P ops Q rest (a.put o.dst undef) w'):wpListIn F nF P ops Q (o::rest) a w:=by
 refine wpListIn_plain hg fun e b=>?_;unfold Oper.wpIn;refine ⟨by simp [Oper.about,hop],?_⟩;rw [Oper.semAt_plain F _ _ (by rw [hop];intro c d;cases d)];simp [execOp,hop,hm,hx,hv,hrun,Result.andThen];exact b _ _ hK
theorem ZpS (g:GR) (w:World):Calls Tryz.prog 84 #[g.agg] w fun e w'=>e=.returned (.func (.func 140) #[] #[.pointer (some ⟨w.heap.size,0,none⟩)])/\w'=w.alloc (.cells #[.slice g.AN g.nN g.cN,.slice g.AR g.nR g.cR] 26):=by obtain ⟨a,AN,nN,cN,b,AR,nR,cR⟩:=g;go_enter Tryz.func84,Tryz.ntmps84;go_wp2;go_ret;exact ⟨rfl,rfl⟩
theorem Zmn {β:Type} {B:Nat} {I:β->World->Prop} (h:∀ s W W',I s W->Upd (fun k=>B<=k) W W'->I s W'):OwnFrom B I:=fun s W W' b c a d =>
 h s W W' c ⟨a.os,a.tape,a.output,a.size,fun k _ f=>a.block k qA fun e=>f (d k e.symm).1⟩
theorem Zla {S:Nat->Prop} {B:Nat} {W W':World} (hu:Upd S W W') (h:∀ k,S k->k<B):KeepsFrom B W W' :=
 ⟨hu.size,fun k o c a _=>(hu.block k (YaX.1 a).1 fun b=>absurd (h k b) qO).trans a⟩
theorem Zto (g:GR):(allP g).map (fun x=>x.key)=Zam g.dat 3:=by unfold allP Zam;rw [Yab qD,Yab qD,Yac rfl];simp only [YaG,List.map_flatMap,GR.dat,YeZ,ND.dat,RL.dat,Ybf];rfl
theorem ZnL {F:Nat->Prop} (w:World) (g:GR) (h:RdG w F g) (hT:(Zam g.dat 3).length<=8796093022208) (hk:∀ x∈allP g,x.key.size<=9223372036854775807) :
 Calls Tryz.prog 39 #[g.agg,.int .i64 3] w fun e w'=>∃ (v:Value) (l:List (List UInt8)),e=.returned v/\ZcT (Zam g.dat 3) l/\w'.ownsRow w.heap.size 9 1 v l.length (l.map strV)/\Same w w':=by
 have j:=Zto g;have an:(allP g).length<=8796093022208:=by rw [<- j,Yag] at hT;exact hT
 have a2:g.agg=.agg #[.slice g.AN g.nN g.cN,.slice g.AR g.nR g.cR]:=rfl;have t:=(((Yaa (fun _=>False) w).alloc (.cells #[.slice g.AN g.nN g.cN,.slice g.AR g.nR g.cR] 26)).alloc (.map #[] 0)).alloc (.cells #[.map (some (w.heap.size+1))] 154);have u:=(Yff (w.alloc (.cells #[.slice g.AN g.nN g.cN,.slice g.AR g.nR g.cR] 26))).same ((Yaa (fun _=>False) _).alloc (.cells #[.map (some (w.heap.size+1))] 154));have N:=((Yad w 26 #[.slice g.AN g.nN g.cN,.slice g.AR g.nR g.cR]).alloc (.map #[] 0)).alloc (.cells #[.map (some (w.heap.size+1))] 154);have y:=Yad ((w.alloc (.cells #[.slice g.AN g.nN g.cN,.slice g.AR g.nR g.cR] 26)).alloc (.map #[] 0)) 154 #[.map (some (w.heap.size+1))];have a3:=@YcC Tryz.prog;simp only [Yav] at u y;have p:(((w.alloc (.cells #[.slice g.AN g.nN g.cN,.slice g.AR g.nR g.cR] 26)).alloc (.map #[] 0)).alloc (.cells #[.map (some (w.heap.size+1))] 154)).heap.size=w.heap.size+1+1+1:=by simp only [Yav]
 have a4:=qH p;clear p;have a5:=qH t;have a6:=qH u;have ao:=qH N;have O:=qH y;have a7:=qH ((h.mono (F':=fun b=>b<w.heap.size) fun b i _=>by first | exact i | exact i).same t);have P:=qH j;have HK:=qH hk;clear h t u N y j hk hT;rw [a2];refine (YaO (n:=5)).1 ?_;have ap:Fence.wide.fn 84:=trivial;have R:Fence.wide.fn 140:=trivial;have aq:Fence.wide.fn 86:=trivial;have ar:Fence.wide.fn 85:=trivial;refine callsIn_of_wp_marks Tryz.func39 rfl trivial ?_ rfl;simp only [Tryz.ntmps39,YbV,Yao,YaS,Nat.reduceAdd,Nat.reduceSub,Yda,Ydb,Ydc,Ydd,YaK,YaE];gi_wp2_with (gi_at_call 84;refine (YaO.2 (ZpS g _)).mono ?_;rintro e r ⟨rfl,rfl⟩);clear a3;generalize ((w.alloc (.cells #[.slice g.AN g.nN g.cN,.slice g.AR g.nR g.cR] 26)).alloc (.map #[] 0)).alloc (.cells #[.map (some (w.heap.size+1))] 154)=X at *;have p:=a4.out;have L:=(Yaa (fun _=>False) X).alloc (.cells #[.slice g.AN g.nN g.cN,.slice g.AR g.nR g.cR] 26);have z:=Yad X 26 #[.slice g.AN g.nN g.cN,.slice g.AR g.nR g.cR];rw [p] at z;have S:=a7.same L;have T:=a6.same L;have U:=O.same L;have hz:=O.lt;have a8:=L.size;have V:Same w (X.alloc (.cells #[.slice g.AN g.nN g.cN,.slice g.AR g.nR g.cR] 26)):=a5.same L;obtain ⟨r,C⟩:∃ r,X.alloc (.cells #[.slice g.AN g.nN g.cN,.slice g.AR g.nR g.cR] 26)=r:=⟨_,rfl⟩
 rw [C] at L z S T U a8 V ⊢;have au:X.heap.size+1=r.heap.size:=by rw [<- C,Yav]
 clear C;refine wpIn_rangeFunc_ownH rfl qO (gf:=140) (lb:=#[.pointer (some ⟨w.heap.size+1+1+1,0,none⟩)]) rfl R (enters_of Tryz.func140 (by kernel_rfl) rfl)
  (Zje Fence.wide _ R rfl qO (w.heap.size+1+1+1) g (fun k=>k=w.heap.size+1\/r.heap.size<=k) (fun b=>b<w.heap.size) qO (fun b i=>qO) r (fun b i=>.inr i) z S) ZtW (ZtX fun k hk=>.inr hk) (YdX _ _) (fun _=>rfl)
  (fun d W=>Hid (MapS W (w.heap.size+1) d.length (d.map fun x=>x.1.key))/\Hid (Blk W (w.heap.size+1+1) 154 #[.map (some (w.heap.size+1))])/\Hid (Upd (fun k=>k=w.heap.size+1) r W))
  (fun _ _ _=>False)
  (Zmn fun d W W' ⟨q,m,E⟩ f=>⟨qH (q.upd f qO),qH (m.upd f qO),qH (E.trans f fun b i hh=>qO)⟩)
  (fun _ _ _ _ _ hs _ _=>hs)
  ⟨qH T,qH U,qH (Yaa _ _)⟩
  (fun x a' W=>∃ G:Nat,a'={ tmps:=#[.agg #[.slice g.AN g.nN g.cN,.slice g.AR g.nR g.cR],.int .i64 3,.pointer (some ⟨w.heap.size,0,none⟩),undef,.slice none 0 0,.pointer (some ⟨w.heap.size+1+1,0,none⟩),undef,undef,undef,undef,undef,undef,.pointer (some ⟨G,0,none⟩),.map (some (w.heap.size+1)),.int .i64 3,.bool false,.bool false,undef,undef,undef,undef,undef,undef,undef,undef,undef,undef,undef,undef,undef,undef,undef,undef,undef,undef,undef,undef,.bool false,.bool false,undef,undef,undef,undef,undef,undef,undef,undef,undef,undef,undef,undef,undef,.bool true,.bool true,.agg #[.slice g.AN g.nN g.cN,.slice g.AR g.nR g.cR],.func (.func 140) #[] #[.pointer (some ⟨w.heap.size+1+1+1,0,none⟩)],PR.agg x.1,undef,undef,undef,undef,undef,undef,undef,undef],defers:=[] }/\Hid (Blk W G 53 x.1.cells.toArray))
  (fun x a'=>fun _ W W' aw ⟨G,q,h2⟩ hg hr=>⟨G,q,qH ((hg.block G h2.lt fun e=>by obtain ⟨o,ho,hc⟩:=(hr G e.symm).2;have m:=h2.out;unfold Blk at m;rw [m] at ho;cases ho;cases hc).trans h2)⟩) ?assign ?body ?done ?stop
 case assign =>
  rintro l d x W K ⟨q,m,E⟩ M;have A:=(Yaa (fun k=>r.heap.size<=k) W).alloc (.cells x.1.cells.toArray 53);have a9:=qH (M _ (W.alloc (.cells x.1.cells.toArray 53)) (KeepsOthers.from (KeepsOthers.alloc W _) _) ((Yaa _ W).alloc _) ⟨qH (q.upd A qO),qH (m.upd A qO),qH (E.alloc _)⟩ ⟨_,rfl,qH (Yad W _ _)⟩);clear M A;gi_wp2;exact a9
 case body =>
  rintro l' d x a' W ax ah ⟨q,m,E⟩ ⟨G,rfl,ak⟩ ay;have hx:=HK.out x.1 x.2;obtain ⟨c,W',al,s,Y,Z⟩:=q.put (x:=x.1.key) (by unfold maxLen;omega) (by unfold maxLen;omega);obtain ⟨c1,am⟩:∃ c1,IntKind.i64.wrap (c+1)=c1:=⟨_,rfl⟩
  rw [am] at s;have aa:=qH Y;have ab:=qH Z;have p1:=ak.c0;have p5:=m.c0;clear Y Z;gi_wp2_with (gi_at_mapUpdate;go_must (refine Zez rfl _ _ _ _ rfl rfl rfl rfl s ?_));have f:=ab.out;exact ⟨Zla f fun k hk=>qO,⟨f.os,f.tape,f.output,f.size,fun k hk hn=>f.block k hk fun e=>hn (.inl e)⟩,qH (by rw [Yaf,YaG];exact aa),qH (m.upd f qO),qH (E.trans f fun b i hh=>hh)⟩
 case done =>
  rintro D ys W hD I ⟨q,m,E⟩ M;have ac:ys.length<=8796093022208:=by have h9:=YaC List.length I;rw [Yag] at h9;omega
  have HY:=qH (show ys.map (fun x=>x.1.key)=Zam g.dat 3 by have h9:=YaC (List.map fun x=>x.key) I;rw [Ybf] at h9;exact h9.trans P);have HD:=qH (YaX.1 M).1;have ad:=qH M;have p5:=m.c0;have ae:=qH (show w.heap.size<=D by omega);clear M I hD;gi_wp2_with (gi_at_call 86;refine (YaO.2 (Zgw _ _)).mono ?_;rintro e w8 ⟨rfl,rfl⟩);gi_wp2_with (gi_at_call 85;refine (YaO.2 (Zeg _ q ac)).mono ?_;rintro e w9 ⟨v,l,rfl,a0,a,a1⟩;have H:=qH (And.intro a0 (And.intro a a1));clear a0 a a1);have af:w9.heap[D]?=some (.deferred (some [])):=(H.2.2.block D HD fun h=>h).trans ad.out;refine ⟨by simp,.inl ⟨_,_,rfl,run_takeDeferred af,?_⟩⟩;have hW:Same w W:=(V.trans E fun b i hh=>qO)
  have ag:=hW.trans H.2.2 fun _ _ h=>h;have ah:=ae.out;have ai:=(Yaa (fun k=>k=D) w9).grown (grownBy_putObj' w9 D (.deferred none)) fun k hk=>.inl (by injection hk with hk;exact hk.symm);have a:=H.2.1;have av:=HD.out;have aj:=hW.size;have B:=a.kept (grownBy_putObj' w9 D (.deferred none)) (by
   by_cases i:v.ownBlock=some D
   · have h8:=(a.lt D i).1;omega
   exact .inr i)
  refine ⟨v,?_,v,l,rfl,by rw [<- HY.out];exact H.1,Zac B aj,ag.trans ai fun b i hh=>qO⟩;simp [results,Tryz.f39,go_sem]
 rintro D c d W _ _ h _;exact h.elim
end
section
open Go.RowKit Go.Shelf Go.Maps
theorem ZpT (g:GR):g.ns.flatMap ND.labels=Zam g.dat 1:=by unfold Zam;rw [Yac rfl];simp only [GR.dat,YeZ];rfl
theorem ZnM {F:Nat->Prop} (w:World) (g:GR) (h:RdG w F g) (ht:ZhL g) (hT:(Zam g.dat 1).length<=8796093022208) :
 Calls Tryz.prog 39 #[g.agg,.int .i64 1] w fun e w'=>∃ (v:Value) (l:List (List UInt8)),e=.returned v/\ZcT (Zam g.dat 1) l/\w'.ownsRow w.heap.size 9 1 v l.length (l.map strV)/\Same w w':=by
 rw [<- ZpT] at hT ⊢;obtain ⟨ns,AN,n,cN,rs,AR,nR,cR⟩:=g;have L:=h.nodes.row.max;have a6:=h.nodes.row.le;unfold maxLen at L;have HL:=qH h.nodes.len;have HT:=qH ht.label;simp only at L a6 HL HT hT ⊢;have M:=(Yaa (fun _=>False) w).alloc (.cells #[.slice AN n cN,.slice AR nR cR] 26);have N:=M.alloc (.map #[] 0);have t:=N.alloc (.cells #[.map (some (w.heap.size+1))] 154);have y:=(Yff (w.alloc (.cells #[.slice AN n cN,.slice AR nR cR] 26))).same ((Yaa (fun _=>False) _).alloc (.cells #[.map (some (w.heap.size+1))] 154));have O:=((Yad w 26 #[.slice AN n cN,.slice AR nR cR]).alloc (.map #[] 0)).alloc (.cells #[.map (some (w.heap.size+1))] 154);have z:=Yad ((w.alloc (.cells #[.slice AN n cN,.slice AR nR cR] 26)).alloc (.map #[] 0)) 154 #[.map (some (w.heap.size+1))];have P:=qH ((h.mono (F':=fun b=>b<w.heap.size) fun b G _=>G).nodes.same t);simp only [Yav] at y z;have a7:=@YcC Tryz.prog;have a8:=qH t;have a9:=qH y;have aa:=qH O;have R:=qH z;have S:=qH hT;clear h ht M N t y O z hT;go_enter Tryz.func39,Tryz.ntmps39;go_upto_region 2 with fail;clear a7;generalize ((w.alloc (.cells #[.slice AN n cN,.slice AR nR cR] 26)).alloc (.map #[] 0)).alloc (.cells #[.map (some (w.heap.size+1))] 154)=w1 at *;simp only at P;have p1:=aa.c0;go_wp2_with fail;clear p1;go_loopg [20] n (fun gh ix wr=>∃ i:Nat,n-i=gh/\i<=n/\ix=.int .i64 i/\Hid (MapS wr (w.heap.size+1) ((ns.take i).flatMap ND.labels).length ((ns.take i).flatMap ND.labels))/\Hid (Upd (fun k=>k=w.heap.size+1) w1 wr))
 case atStart=>exact ⟨0,rfl,Yah _,rfl,a9,qH (Yaa _ _)⟩
 obtain ⟨i,rfl,hi,rfl,KM,I⟩:=hrel;have A:=qH (P.upd I fun b G hh=>qO);by_cases T:i<n
 · obtain ⟨b,o,x,rfl,G,_,hx,C,r0,r1,r2⟩:=A.at_ T;have U:=qH (HT.out x C);have V:=qH (ZeU (f:=ND.labels) hx);have W:=qH (ZnK (f:=ND.labels) hx);have a:=qH (A.lab x C);clear hx C A;obtain ⟨ix,D,AL,p,cL,px,AP,nP,cP⟩:=x;simp only at r0 r1 r2 a V W U;have d:=(Yaa (fun _=>False) wr).alloc (.cells #[.int .i64 ix,.slice AL p cL,.slice AP nP cP] 56);have ab:=qH (Yad wr 56 #[.int .i64 ix,.slice AL p cL,.slice AP nP cP]);have X:=qH ((R.upd I qO).same d);have ac:=qH (KM.same d);have ad:=qH (I.same d);have ae:=qH (a.upd d fun b G hh=>hh);have af:=a.max;have aq:=a.le;unfold maxLen at af;have Y:=qH (show D.length=p by have h9:=a.len;simpa using h9);clear d KM I;go_upto_region 7 with fail;clear r0 r1 r2;generalize wr.alloc (.cells #[.int .i64 ix,.slice AL p cL,.slice AP nP cP] 56)=w6 at *;generalize wr.heap.size=g6 at *;have p7:=ab.c1;go_wp2_with fail;clear p7;generalize hK:(List.flatMap ND.labels (List.take i ns))=q at *;go_loopg [27] p (fun gh jx wr=>∃ j:Nat,p-j=gh/\j<=p/\jx=.int .i64 j/\Hid (MapS wr (w.heap.size+1) (q++D.take j).length (q++D.take j))/\Hid (Upd (fun k=>k=w.heap.size+1) w1 wr)/\Hid (Upd (fun k=>k=w.heap.size+1) w6 wr))
   case atStart=>exact ⟨0,rfl,Yah _,rfl,qH (by simpa using ac.out),ad,qH (Yaa _ _)⟩
   obtain ⟨j,rfl,hj,rfl,JM,JU,JV⟩:=hrel;by_cases B:j<p
   · obtain ⟨b2,o2,u,rfl,ar,_,hu,q0⟩:=(ae.upd JV fun b G hh=>qO).at_ B;rw [Yau] at hu;obtain ⟨tx,a2,rfl⟩:=YcJ.1 hu;have ao:j<D.length:=by rw [Y.out];exact B
     have Z:tx∈D:=Ybe a2;have ap:=U.out tx Z;have ag:=qH (show q++D.take (j+1)=(q++D.take j)++[tx] from by rw [Zei a2,Yak]);have p5:wr.cell? ⟨w.heap.size+1+1,0,none⟩=some (.map (some (w.heap.size+1))):=(X.upd JV qO).cell 0;obtain ⟨c,w7,lk,r,a3,E⟩:=JM.put (x:=tx) (by have h1:=W.out;have h2:=S.out;rw [Yaf,YaJ];unfold maxLen;omega) (by unfold maxLen;omega)
     obtain ⟨c1,an⟩:∃ c1,IntKind.i64.wrap (c+1)=c1:=⟨_,rfl⟩
     rw [an] at r;have ah:=qH a3;have ai:=qH (JU.trans E fun _ _ h=>h);have aj:=qH (JV.trans E fun _ _ h=>h);clear a3 E JM JU JV hu Z;go_wp2_with (at_mapUpdate;go_must (refine Zbr rfl _ _ _ _ rfl rfl rfl rfl r ?_));go_roundg (p-(j+1))
     case measure=>omega
     case rel=>exact ⟨j+1,rfl,qO,by go_num,qH (by rw [ag.out,Yaf];exact ah),ai,aj⟩
   have ak:j=p:=qO;subst ak;rw [YaB (by rw [Y.out];exact Yae _),<-V.out] at JM;clear B;go_wp2_with fail;go_roundg (n-(i+1))
   case measure=>omega
   case rel=>exact ⟨i+1,rfl,qO,by go_num,JM,JU⟩
 have al:i=n:=qO;subst al;have m:(ns.take i).flatMap ND.labels=ns.flatMap ND.labels:=by rw [YaB (by rw [HL.out];exact Yae _)]
 rw [m] at KM;have a0:=qH (R.upd I qO);have p5:=a0.c0;have a1:=qH (show Same w wr from a8.trans I.out fun b G hh=>qO);have am:=a1.size;clear m T;go_wp2_with fail;refine (Zgw _ _).mono ?_;rintro e w8 ⟨rfl,rfl⟩;go_wp2_with fail;refine (Zeg _ KM S).mono ?_;rintro e w9 ⟨v,l,rfl,a4,s,a5⟩;have H:=qH (And.intro a4 (And.intro s a5));clear a4 s a5;go_wp2;go_ret;exact ⟨v,l,rfl,H.1,Zac H.2.1 am,a1.same H.2.2⟩
theorem ZnN {F:Nat->Prop} (w:World) (g:GR) (_h:RdG w F g) (k:Int) (h1:k≠1) (h2:k≠2) (h3:k≠3) :
 Calls Tryz.prog 39 #[g.agg,.int .i64 k] w fun e w'=>∃ (v:Value) (l:List (List UInt8)),e=.returned v/\ZcT (Zam g.dat k) l/\w'.ownsRow w.heap.size 9 1 v l.length (l.map strV)/\Same w w':=by
 have a:Zam g.dat k=[]:=by unfold Zam;rw [Yab h1,Yab h2,Yab h3]
 rw [a];obtain ⟨E,o,p,q,G,r,s,t⟩:=g;have f:=(Yaa (fun _=>False) w).alloc (.cells #[.slice o p q,.slice r s t] 26);have h:=f.alloc (.map #[] 0);have i:=h.alloc (.cells #[.map (some (w.heap.size+1))] 154);have c:=(Yff (w.alloc (.cells #[.slice o p q,.slice r s t] 26))).same ((Yaa (fun _=>False) _).alloc (.cells #[.map (some (w.heap.size+1))] 154));have d:=Yad ((w.alloc (.cells #[.slice o p q,.slice r s t] 26)).alloc (.map #[] 0)) 154 #[.map (some (w.heap.size+1))];simp only [Yav] at c d;have u:=@YcC Tryz.prog;have j:=qH i;have x:=qH c;have y:=qH d;have z:(k==1)=false:=by simpa using h1
 have A:(k==2)=false:=by simpa using h2
 have B:(k==3)=false:=by simpa using h3
 clear f h i c d a h1 h2 h3 _h;go_enter Tryz.func39,Tryz.ntmps39;go_upto_region 2 with fail;clear u;generalize ((w.alloc (.cells #[.slice o p q,.slice r s t] 26)).alloc (.map #[] 0)).alloc (.cells #[.map (some (w.heap.size+1))] 154)=D at *;have C:=y.c0;go_wp2_with fail;refine (Zgw _ _).mono ?_;rintro e I ⟨rfl,rfl⟩;go_wp2_with fail;refine (Zeg _ x qO).mono ?_;rintro e L ⟨v,l,rfl,m,b,n⟩;have H:=qH (And.intro m (And.intro b n));clear m b n;go_wp2;go_ret;exact ⟨v,l,rfl,H.1,Zac H.2.1 j.size,j.same H.2.2⟩
theorem ZpU {F:Nat->Prop} (w:World) (g:GR) (h:RdG w F g) (ht:ZhL g) (k:Int) (hT:(Zam g.dat k).length<=8796093022208) :
 Calls Tryz.prog 39 #[g.agg,.int .i64 k] w fun e w'=>∃ (v:Value) (l:List (List UInt8)),e=.returned v/\ZcT (Zam g.dat k) l/\w'.ownsRow w.heap.size 9 1 v l.length (l.map strV)/\Same w w':=by
 by_cases d:k=1
 · subst d;exact ZnM w g h ht hT
 by_cases f:k=2
 · subst f;refine ZnE w g h ht ?_;have j:=h.rels.len;unfold Zam at hT;rw [Yab qD,Yac rfl,Yag] at hT;simp only [GR.dat,Yag] at hT;omega
 by_cases i:k=3
 · subst i;refine ZnL w g h hT fun x b=>?_;unfold allP at b;rcases YaR.1 b with b | b
   · obtain ⟨y,c,a⟩:=Yby.1 b;exact ht.key1 y c x a
   obtain ⟨y,c,a⟩:=Yby.1 b;exact ht.key2 y c x a
 exact ZnN w g h k d f i
end
section
open Go.RowKit
theorem ZaX {w:World} {B k n g:Nat} {e:TypeId} {v a b:Value} {xs:List Value} (h:w.ownsRow B e k v n xs) (hg:v.ownBlock≠some g):((w.setCell ⟨g,0,none⟩ a).setCell ⟨g,1,none⟩ b).ownsRow B e k v n xs :=
 Zae h (((Yaa (fun x=>x=g) w).put1 (i:=0) a).put1 (i:=1) b) fun x c d=>hg (by rw [c,d])
theorem keepC {w1 wx:World} {g:Nat} {t:TypeId} {a b:Value} (hb:Hid (Blk w1 g t #[a,b])) (h:Same w1 wx):Same w1 wx/\wx.cell? ⟨g,0,none⟩=some a/\wx.cell? ⟨g,1,none⟩=some b:=⟨h,(hb.same h).cell 0,(hb.same h).cell 1⟩
end
end Go.Proofs.YtmkjfhnlnhceiaaGreatDoor
