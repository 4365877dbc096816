/- Lemmas: walks and plain laws. -/
import Derived.Maps.OwnIn
import Derived.Test.YtmkjfhnlnhceiaaGreatDoorF09
import Derived.Test.YtmkjfhnlnhceiaaGreatDoorF12
set_option maxRecDepth 100000
set_option maxHeartbeats 16000000
namespace Go.Proofs.YtmkjfhnlnhceiaaGreatDoor
variable {i B g:Nat} {W w:World} {F:Nat->Prop} {a b:Value}
section
open Go.RowKit Go.Shelf
attribute [local go_sem] oD
def allP (g:GR):List PR:=g.ns.flatMap ND.props++g.rs.flatMap RL.props
theorem iO {α β:Type} {f:α->List β} {l:List α} {x:α} (h:l[i]?=some x):(l.take (i+1)).flatMap f=(l.take i).flatMap f++f x:=by rw [eD,h,wL,jF];simp
theorem NT {α β:Type} {f:α->List β} {l:List α} {x:α} (h:l[i]?=some x):((l.take i).flatMap f).length+(f x).length<=(l.flatMap f).length:=by
 have a:(l.take (i+1)).flatMap f++(l.drop (i+1)).flatMap f=l.flatMap f:=by rw [<- jF,tF]
 rw [<- a,iO h,kA,kA];omega
theorem VX {α β:Type} {f:α->List β} {l:List α} {x:α} (h:l[i]?=some x) (j:Nat):((l.take i).flatMap f++(f x).take j) <+: l.flatMap f:=by refine ⟨(f x).drop j++(l.drop (i+1)).flatMap f,?_⟩;rw [vA,<-vA ((f x).take j),tF,<-vA,<-iO h,<-jF,tF]
theorem zQ {β:Type} {J:β->World->Prop} (hJ:AbidesFrom B J) {s:β} (o:Obj) (h:J s W):J s (W.alloc o) :=
 hJ s W (W.alloc o) none h (World.grownBy_alloc W o none) (fun r e=>by cases e)
theorem OT {α:Type} {l:List α} {j:Nat} {y:α} (h:l[j]?=some y):l.take (j+1)=l.take j++[y]:=by rw [eD,h,wL]
theorem Zsm (F:Fence) (n:Nat) (h7:F.fn 140) (an:F.round=none) (hn:1<=n) (l Bs:Nat) (g:GR) (S Fg:Nat->Prop) (ao:¬ S Bs) (am:∀ b,Fg b->¬ S b) (J Jx:List PR->World->Prop) (W:World) (hJ:AbidesFrom W.heap.size J) (_ap:AbidesFrom W.heap.size Jx) (_aq:∀ b,W.heap.size<=b->S b)
 (hY:∀ pre x W1,J pre W1->pre++[x] <+: allP g->YieldAt F (n-1) Tryz.prog l #[PR.agg x] W1 fun e W' =>
   (e=.returned (.bool true)/\J (pre++[x]) W'/\Upd S W1 W')\/(e=.returned (.bool false)/\Jx (pre++[x]) W'))
 (hB:Blk W Bs 26 #[.slice g.AN g.nN g.cN,.slice g.AR g.nR g.cR]) (hR:RdG W Fg g) (h0:J [] W):
 CallsIn F n Tryz.prog 140 #[.func (.yield l) #[] #[],.pointer (some ⟨Bs,0,none⟩)] W fun e W'=>(∃ v,e=.returned v) /\
  ((∃ ys,ys=allP g/\J ys W')\/(∃ pre,pre <+: allP g/\Jx pre W')):=by
 obtain ⟨d,AN,nN,cN,A,AR,nR,cR⟩:=g;simp only at hB;have a7:=hR.nodes.row.max;have ae:=hR.nodes.row.le;have a1:=hR.rels.row.max;have a8:=hR.rels.row.le;unfold maxLen at a7 a1;simp only at a7 ae a1 a8;have HL:=qH (show d.length=nN from hR.nodes.len);have af:=qH (show A.length=nR from hR.rels.len);have P:=qH hR;have a9:=qH hB;have HA:=qH (show allP ⟨d,AN,nN,cN,A,AR,nR,cR⟩=d.flatMap ND.props++A.flatMap RL.props from rfl);have R:=qH hJ;have HY:=qH hY;have T:=qH am;clear hR hB hJ _ap _aq hY am;refine callsIn_of_wp Tryz.func140 rfl h7 ?_ an;simp only [Tryz.ntmps140,GF,BA,mC,Nat.reduceAdd,Nat.reduceSub,oI,pI,qI,rI,SB,EB];have p0:=a9.c0;gi_wp2;clear p0
 gi_loopw [14] (fun B wr=>∃ i:Nat,i<=nN/\B=.int .i64 i/\Hid (J ((d.take i).flatMap ND.props) wr)/\Hid (Upd S W wr)) (fun B _=>nN-(intOf B).toNat)
 case atStart=>exact ⟨0,oA _,rfl,qH (by simpa using h0),qH (eA _ _)⟩
 obtain ⟨i,hi,rfl,D,h⟩:=hrel;by_cases U:i<nN
 · obtain ⟨b,o,x,rfl,hb,_,V,L,r0,r1,r2⟩:=(P.upd h T).nodes.at_ U;have HP:=qH (fun (w9:World) (hu:Upd S W w9)=>(P.upd hu T).nodes.pro x L);have a2:=qH (iO (f:=ND.props) V);have ag:=qH (NT (f:=ND.props) V);have G:=qH (VX (f:=ND.props) V);clear V L;obtain ⟨B,lb,AL,nL,cL,C,AP,p,M⟩:=x;simp only at r0 r1 r2;have c:=qH (zQ R (.cells #[.int .i64 B,.slice AL nL cL,.slice AP p M] 56) D);have k:=qH (h.alloc (.cells #[.int .i64 B,.slice AL nL cL,.slice AP p M] 56));have m:=HP.out wr h.out;have a3:M<=maxLen:=m.row.max;have ah:p<=M:=m.row.le;have H:=qH (show C.length=p from m.len);unfold maxLen at a3;clear m;obtain ⟨wo,rfl⟩:=qy wr;gi_wp2;clear r0 r1 r2;generalize wo.alloc (.cells #[.int .i64 B,.slice AL nL cL,.slice AP p M] 56)=w7 at *
   gi_loopw [21] (fun jx wr=>∃ j:Nat,j<=p/\jx=.int .i64 j/\Hid (J ((d.take i).flatMap ND.props++C.take j) wr)/\Hid (Upd S W wr)) (fun jx _=>p-(intOf jx).toNat)
   case atStart=>exact ⟨0,oA _,rfl,qH (by simpa using c.out),k⟩
   clear c k D h;obtain ⟨j,hj,rfl,D,h⟩:=hrel;by_cases I:j<p
   · obtain ⟨b2,o2,y,rfl,_,_,hy,_,q0,q1,q2,q3,q4,q5⟩:=(HP.out wr h).at_ I;have aa:j<C.length:=by rw [H.out];exact I
     have hT:=OT hy;have HT:=qH hT;obtain ⟨X,⟨Y,Z,y2,y3,y4⟩,yA,yn,yc,r,s,t⟩:=y;simp only at q0 q1 q2 q3 q4 q5;have c:=zQ R.out (.cells #[.string X,.int .i64 Y,.int .i64 Z,.string y2,.slice yA yn yc,.slice r s t] 53) D.out;have k:=qH (h.alloc (.cells #[.string X,.int .i64 Y,.int .i64 Z,.string y2,.slice yA yn yc,.slice r s t] 53));have u:(d.take i).flatMap ND.props++C.take j++[⟨X,⟨Y,Z,y2,y3,y4⟩,yA,yn,yc,r,s,t⟩] <+: allP ⟨d,some ⟨b,o,none⟩,nN,cN,A,AR,nR,cR⟩:=by rw [HA.out,vA,<-hT];exact (G.out (j+1)).trans (VI _ _)
     obtain ⟨fn,ac,a0,ad,al,a6⟩:=HY.out _ ⟨X,⟨Y,Z,y2,y3,y4⟩,yA,yn,yc,r,s,t⟩ _ c u;clear hy hT c u;gi_wp2;refine a6.mono ?_;rintro e W3 (⟨rfl,N,O⟩ | ⟨rfl,z⟩)
     · have a:=qH (show J ((d.take i).flatMap ND.props++C.take (j+1)) W3 from by rw [HT.out,<-vA];exact N);have a4:=qH (k.trans O qf);clear N O q0 q1 q2 q3 q4 q5;gi_wp2
       go_roundw
       case rel=>exact ⟨j+1,qO,qS,a,a4⟩
       case measure=>simp [intOf];omega
     have w:=G.out (j+1);have a:=qH (show ∃ pre,pre <+: allP ⟨d,some ⟨b,o,none⟩,nN,cN,A,AR,nR,cR⟩/\Jx pre W3 from ⟨(d.take i).flatMap ND.props++C.take (j+1),by rw [HA.out];exact w.trans (VI _ _),by rw [HT.out,<-vA];exact z⟩);clear z w q0 q1 q2 q3 q4 q5;gi_wp2;refine LD (DG rfl _ _ _) rfl ?_;exact ⟨⟨_,rfl⟩,.inr a⟩
   have a5:j=p:=qO;subst a5;have a:=qH (show J ((d.take (i+1)).flatMap ND.props) wr from by rw [a2.out];have E:=D.out;rw [cB (l:=C) (by rw [H.out];exact lA _)] at E;exact E)
   gi_wp2
   go_roundw
   case rel=>exact ⟨i+1,qO,qS,a,h⟩
   case measure=>simp [intOf];omega
 have ai:i=nN:=qO;subst ai;have p1:=(a9.upd h ao).c1;have ab:=qH (show J (d.flatMap ND.props++(A.take 0).flatMap RL.props) wr from by have E:=D.out;rw [cB (by rw [HL.out];exact lA _)] at E;simpa using E)
 have aj:((d.flatMap ND.props).length)<=(allP ⟨d,AN,i,cN,A,AR,nR,cR⟩).length:=by rw [HA.out,kA];omega
 clear U aj D;obtain ⟨wo,rfl⟩:=qy wr;gi_wp2;clear p1
 gi_loopw [34] (fun B wr=>∃ i:Nat,i<=nR/\B=.int .i64 i/\Hid (J (d.flatMap ND.props++(A.take i).flatMap RL.props) wr)/\Hid (Upd S W wr)) (fun B _=>nR-(intOf B).toNat)
 case atStart=>exact ⟨0,oA _,rfl,ab,h⟩
 clear ab h;obtain ⟨q,hq,rfl,D,h⟩:=hrel;by_cases U:q<nR
 · obtain ⟨b,o,x,rfl,hb,_,V,L,r0,r1,r2,r3,r4⟩:=(P.upd h T).rels.at_ U;have HP:=qH (fun (w9:World) (hu:Upd S W w9)=>(P.upd hu T).rels.pro x L);have a2:=qH (iO (f:=RL.props) V);have ag:=qH (NT (f:=RL.props) V);have G:=qH (VX (f:=RL.props) V);clear V L;obtain ⟨B,tx,sx,dx,C,AP,p,M⟩:=x;simp only at r0 r1 r2 r3 r4;have c:=qH (zQ R (.cells #[.int .i64 B,.string tx,.int .i64 sx,.int .i64 dx,.slice AP p M] 60) D);have k:=qH (h.alloc (.cells #[.int .i64 B,.string tx,.int .i64 sx,.int .i64 dx,.slice AP p M] 60));have m:=HP.out wr h.out;have a3:M<=maxLen:=m.row.max;have ah:p<=M:=m.row.le;have H:=qH (show C.length=p from m.len);unfold maxLen at a3;clear m;obtain ⟨wo,rfl⟩:=qy wr;gi_wp2;clear r0 r1 r2 r3 r4;generalize wo.alloc (.cells #[.int .i64 B,.string tx,.int .i64 sx,.int .i64 dx,.slice AP p M] 60)=w7 at *
   gi_loopw [41] (fun jx wr=>∃ j:Nat,j<=p/\jx=.int .i64 j/\Hid (J (d.flatMap ND.props++(A.take q).flatMap RL.props++C.take j) wr)/\Hid (Upd S W wr)) (fun jx _=>p-(intOf jx).toNat)
   case atStart=>exact ⟨0,oA _,rfl,qH (by simpa using c.out),k⟩
   clear c k D h;obtain ⟨j,hj,rfl,D,h⟩:=hrel;by_cases I:j<p
   · obtain ⟨b2,o2,y,rfl,_,_,hy,_,q0,q1,q2,q3,q4,q5⟩:=(HP.out wr h).at_ I;have aa:j<C.length:=by rw [H.out];exact I
     have hT:=OT hy;have HT:=qH hT;obtain ⟨X,⟨Y,Z,y2,y3,y4⟩,yA,yn,yc,r,s,t⟩:=y;simp only at q0 q1 q2 q3 q4 q5;have c:=zQ R.out (.cells #[.string X,.int .i64 Y,.int .i64 Z,.string y2,.slice yA yn yc,.slice r s t] 53) D.out;have k:=qH (h.alloc (.cells #[.string X,.int .i64 Y,.int .i64 Z,.string y2,.slice yA yn yc,.slice r s t] 53));have u:d.flatMap ND.props++(A.take q).flatMap RL.props++C.take j++[⟨X,⟨Y,Z,y2,y3,y4⟩,yA,yn,yc,r,s,t⟩] <+: allP ⟨d,AN,i,cN,A,some ⟨b,o,none⟩,nR,cR⟩:=by rw [HA.out,vA,vA,<-hT];exact (lV _).2 (G.out (j+1))
     obtain ⟨fn,ac,a0,ad,al,a6⟩:=HY.out _ ⟨X,⟨Y,Z,y2,y3,y4⟩,yA,yn,yc,r,s,t⟩ _ c u;clear hy hT c u;gi_wp2;refine a6.mono ?_;rintro e W3 (⟨rfl,N,O⟩ | ⟨rfl,z⟩)
     · have a:=qH (show J (d.flatMap ND.props++(A.take q).flatMap RL.props++C.take (j+1)) W3 from by rw [HT.out,<-vA];exact N);have a4:=qH (k.trans O qf);clear N O q0 q1 q2 q3 q4 q5;gi_wp2
       go_roundw
       case rel=>exact ⟨j+1,qO,qS,a,a4⟩
       case measure=>simp [intOf];omega
     have w:=G.out (j+1);have a:=qH (show ∃ pre,pre <+: allP ⟨d,AN,i,cN,A,some ⟨b,o,none⟩,nR,cR⟩/\Jx pre W3 from ⟨d.flatMap ND.props++(A.take q).flatMap RL.props++C.take (j+1),by rw [HA.out,vA];exact (lV _).2 w,by rw [HT.out,<-vA];exact z⟩);clear z w q0 q1 q2 q3 q4 q5;gi_wp2;refine LD (DG rfl _ _ _) rfl ?_;exact ⟨⟨_,rfl⟩,.inr a⟩
   have a5:j=p:=qO;subst a5;have a:=qH (show J (d.flatMap ND.props++(A.take (q+1)).flatMap RL.props) wr from by rw [a2.out];have E:=D.out;rw [cB (l:=C) (by rw [H.out];exact lA _),vA] at E;exact E)
   gi_wp2
   go_roundw
   case rel=>exact ⟨q+1,qO,qS,a,h⟩
   case measure=>simp [intOf];omega
 have ak:q=nR:=qO;subst ak;have E:=D.out;rw [cB (by rw [af.out];exact lA _),<-HA.out] at E;have a:=qH E;clear E;gi_wp2;go_end0;exact ⟨⟨_,rfl⟩,.inl ⟨_,rfl,a⟩⟩
theorem WX (F:Fence) (n:Nat) (h7:F.fn 140) (U:F.round=none) (hn:1<=n) (Bs:Nat) (g:GR) (S Fg:Nat->Prop) (V:¬ S Bs) (X:∀ b,Fg b->¬ S b) (w:World) (Y:∀ b,w.heap.size<=b->S b)
 (hB:Blk w Bs 26 #[.slice g.AN g.nN g.cN,.slice g.AR g.nR g.cR]) (hR:RdG w Fg g):
 SeqStopsK F n Tryz.prog 140 #[.pointer (some ⟨Bs,0,none⟩)] (fun x:{ x:PR // x∈allP g }=>#[PR.agg x.1]) (Upd S) (fun ys=>ys.map (fun x=>x.1)=allP g) (fun pre=>pre.map (fun x=>x.1) <+: allP g) (allP g).length w:=fun l J H W D I r L M =>
 have z:Same w W:=JP D
 (Zsm F n h7 U hn l Bs g S Fg V X (fun pre W=>∃ q,q.map (fun x:{ x:PR // x∈allP g }=>x.1)=pre/\J q W) (fun pre W=>∃ q,q.map (fun x:{ x:PR // x∈allP g }=>x.1)=pre/\H q W) W
   (fun s A B d c t u=>by obtain ⟨q,f,j⟩:=c;exact ⟨q,f,I q A B d j t u⟩) (fun s A B d c t u=>by obtain ⟨q,f,j⟩:=c;exact ⟨q,f,r q A B d j t u⟩) (fun b N=>Y b (tA D.size N))
   (fun pre x O c E=>by
     obtain ⟨q,f,j⟩:=c;have p:x∈allP g:=E.subset qS;have G:q.length<(allP g).length:=by have C:=E.length_le;rw [<- f] at C;simp only [kA,nA,GG] at C;omega
     obtain ⟨fn,k,a,m,P,hR⟩:=L q ⟨x,p⟩ O j G;refine ⟨fn,k,a,m,P,hR.mono fun e R h=>?_⟩;rcases h with ⟨v,i,T⟩ | ⟨v,i⟩
     · exact .inl ⟨v,⟨q++[⟨x,p⟩],by rw [DB,f];rfl,i⟩,T⟩
     exact .inr ⟨v,⟨q++[⟨x,p⟩],by rw [DB,f];rfl,i⟩⟩)
   (hB.same z) (hR.same z) ⟨[],rfl,M⟩).mono fun e R c=>⟨c.1,by
     rcases c.2 with ⟨ys,rfl,q,y,i⟩ | ⟨pre,o,q,y,i⟩
     · exact .inl ⟨q,y,i⟩
     exact .inr ⟨q,by simp only [y];exact o,i⟩⟩
end
section
open Go.RowKit Go.Shelf Go.Maps
attribute [local go_sem] oD
theorem ZeM {F:Fence} {nF:Nat} {P:Program} {w':World} {g:Array Oper} {rest:List Oper} {o:Oper} {a:Act} {Q:Exit->Act->World->Prop}
 (hg:o.guard=none) (m x v:Operand) (t:TypeId) (f:o.op=Op.mapUpdate t m x v) {mv xv vv:Value} (hm:a.eval m=mv) (hx:a.eval x=xv) (hv:a.eval v=vv)
 (h:(Instr.mapUpdate t mv xv vv).run P w=.ok () w') (hK:wpListIn F nF P g Q rest (a.put o.dst undef) w'):wpListIn F nF P g Q (o::rest) a w:=by
 refine wpListIn_plain hg fun e b=>?_;unfold Oper.wpIn;refine ⟨by simp [Oper.about,f],?_⟩;rw [Oper.semAt_plain F _ _ (by rw [f];intro c d;cases d)];simp [execOp,f,hm,hx,hv,h,Result.andThen];exact b _ _ hK
theorem ZqD (g:GR) (w:World):Calls Tryz.prog 84 #[g.agg] w fun e w'=>e=.returned (.func (.func 140) #[] #[.pointer (some ⟨w.heap.size,0,none⟩)])/\w'=w.alloc (.cells #[.slice g.AN g.nN g.cN,.slice g.AR g.nR g.cR] 26):=by obtain ⟨a,AN,nN,cN,b,AR,nR,cR⟩:=g;go_enter Tryz.func84,Tryz.ntmps84;go_wp2;go_ret;exact ⟨rfl,rfl⟩
theorem ZmO {β:Type} {I:β->World->Prop} (h:∀ s W W',I s W->Upd (fun k=>B<=k) W W'->I s W'):OwnFrom B I:=fun s W W' b c a d =>
 h s W W' c ⟨a.os,a.tape,a.output,a.size,fun k _ f=>a.block k qA fun e=>f (d k e.symm).1⟩
theorem Zlt {S:Nat->Prop} {W':World} (hu:Upd S W W') (h:∀ k,S k->k<B):KeepsFrom B W W' :=
 ⟨hu.size,fun k o c a _=>(hu.block k (sC.1 a).1 fun b=>absurd (h k b) qO).trans a⟩
theorem Zui (g:GR):(allP g).map (fun x=>x.key)=SC g.dat 3:=by unfold allP SC;rw [aA qD,aA qD,gA rfl];simp only [DB,List.map_flatMap,GR.dat,jN,ND.dat,RL.dat,MC];rfl
theorem Zos (w:World) (g:GR) (h:RdG w F g) (hT:(SC g.dat 3).length<=8796093022208) (hk:∀ x∈allP g,x.key.size<=9223372036854775807):
 Calls Tryz.prog 39 #[g.agg,.int .i64 3] w fun e w'=>∃ (v:Value) (l:List (List UInt8)),e=.returned v/\oH (SC g.dat 3) l/\w'.ownsRow w.heap.size 9 1 v l.length (l.map strV)/\Same w w':=by
 have j:=Zui g;have an:(allP g).length<=8796093022208:=by rw [<- j,nA] at hT;exact hT
 have a1:g.agg=.agg #[.slice g.AN g.nN g.cN,.slice g.AR g.nR g.cR]:=rfl;have s:=(((iA w).alloc (.cells #[.slice g.AN g.nN g.cN,.slice g.AR g.nR g.cR] 26)).alloc (.map #[] 0)).alloc (.cells #[.map (some (w.heap.size+1))] 154);have t:=(sQ (w.alloc (.cells #[.slice g.AN g.nN g.cN,.slice g.AR g.nR g.cR] 26))).same ((iA _).alloc (.cells #[.map (some (w.heap.size+1))] 154));have a2:=((jA w 26 #[.slice g.AN g.nN g.cN,.slice g.AR g.nR g.cR]).alloc (.map #[] 0)).alloc (.cells #[.map (some (w.heap.size+1))] 154);have u:=jA ((w.alloc (.cells #[.slice g.AN g.nN g.cN,.slice g.AR g.nR g.cR] 26)).alloc (.map #[] 0)) 154 #[.map (some (w.heap.size+1))];have a3:=@YG Tryz.prog;simp only [aB] at t u;have p:(((w.alloc (.cells #[.slice g.AN g.nN g.cN,.slice g.AR g.nR g.cR] 26)).alloc (.map #[] 0)).alloc (.cells #[.map (some (w.heap.size+1))] 154)).heap.size=w.heap.size+1+1+1:=by simp only [aB]
 have a4:=qH p;clear p;have a5:=qH s;have a6:=qH t;have N:=qH u;have a7:=qH ((h.mono (F':=fun b=>b<w.heap.size) fun b i _=>by first | exact i | exact i).same s);have O:=qH j;have HK:=qH hk;clear h s t a2 u j hk hT;rw [a1];refine (ZB (n:=5)).1 ?_;have ao:Fence.wide.fn 84:=trivial;have P:Fence.wide.fn 140:=trivial;have ap:Fence.wide.fn 86:=trivial;have aq:Fence.wide.fn 85:=trivial;refine callsIn_of_wp_marks yP rfl trivial ?_ rfl;simp only [zP,GF,BA,mC,Nat.reduceAdd,Nat.reduceSub,oI,pI,qI,rI,SB,EB];gi_wp2_with (gi_at_call 84;refine (ZB.2 (ZqD g _)).mono ?_;rintro e L ⟨rfl,rfl⟩);clear a3;generalize ((w.alloc (.cells #[.slice g.AN g.nN g.cN,.slice g.AR g.nR g.cR] 26)).alloc (.map #[] 0)).alloc (.cells #[.map (some (w.heap.size+1))] 154)=V at *;have p:=a4.out;have I:=(iA V).alloc (.cells #[.slice g.AN g.nN g.cN,.slice g.AR g.nR g.cR] 26);have y:=jA V 26 #[.slice g.AN g.nN g.cN,.slice g.AR g.nR g.cR];rw [p] at y;have R:=a7.same I;have S:=a6.same I;have T:=N.same I;have hz:=N.lt;have a8:=I.size;have U:Same w (V.alloc (.cells #[.slice g.AN g.nN g.cN,.slice g.AR g.nR g.cR] 26)):=a5.same I;obtain ⟨L,B⟩:=qx (V.alloc (.cells #[.slice g.AN g.nN g.cN,.slice g.AR g.nR g.cR] 26));rw [B] at I y R S T a8 U ⊢;have ar:V.heap.size+1=L.heap.size:=by rw [<- B,aB]
 clear B;refine wpIn_rangeFunc_ownH rfl qO (gf:=140) (lb:=#[.pointer (some ⟨w.heap.size+1+1+1,0,none⟩)]) rfl P (enters_of Tryz.func140 qK rfl)
  (WX Fence.wide _ P rfl qO (w.heap.size+1+1+1) g (fun k=>k=w.heap.size+1\/L.heap.size<=k) (fun b=>b<w.heap.size) qO (fun b i=>qO) L (fun b i=>.inr i) y R) fX (iX fun k hk=>.inr hk) (CK _ _) (fun _=>rfl)
  (fun d W=>Hid (MapS W (w.heap.size+1) d.length (d.map fun x=>x.1.key))/\Hid (Blk W (w.heap.size+1+1) 154 #[.map (some (w.heap.size+1))])/\Hid (Upd (fun k=>k=w.heap.size+1) L W))
  (fun _ _ _=>False)
  (ZmO fun d W W' ⟨q,m,C⟩ f=>⟨qH (q.upd f qO),qH (m.upd f qO),qH (C.trans f fun b i hh=>qO)⟩)
  (fun _ _ _ _ _ hs _ _=>hs)
  ⟨qH S,qH T,qH (eA _ _)⟩
  (fun x a' W=>∃ E:Nat,a'={ tmps:=#[.agg #[.slice g.AN g.nN g.cN,.slice g.AR g.nR g.cR],.int .i64 3,.pointer (some ⟨w.heap.size,0,none⟩),undef,.slice none 0 0,.pointer (some ⟨w.heap.size+1+1,0,none⟩),undef,undef,undef,undef,undef,undef,.pointer (some ⟨E,0,none⟩),.map (some (w.heap.size+1)),.int .i64 3,.bool false,.bool false,undef,undef,undef,undef,undef,undef,undef,undef,undef,undef,undef,undef,undef,undef,undef,undef,undef,undef,undef,undef,.bool false,.bool false,undef,undef,undef,undef,undef,undef,undef,undef,undef,undef,undef,undef,undef,.bool true,.bool true,.agg #[.slice g.AN g.nN g.cN,.slice g.AR g.nR g.cR],.func (.func 140) #[] #[.pointer (some ⟨w.heap.size+1+1+1,0,none⟩)],PR.agg x.1,undef,undef,undef,undef,undef,undef,undef,undef],defers:=[] }/\Hid (Blk W E 53 x.1.cells.toArray))
  (fun x a'=>fun _ W W' av ⟨E,q,h2⟩ hg hr=>⟨E,q,qH ((hg.block E h2.lt fun e=>by obtain ⟨o,ho,hc⟩:=(hr E e.symm).2;have m:=h2.out;unfold Blk at m;rw [m] at ho;cases ho;cases hc).trans h2)⟩) ?assign ?body ?done ?stop
 case assign =>
  rintro l d x W K ⟨q,m,C⟩ M;have z:=(eA (fun k=>L.heap.size<=k) W).alloc (.cells x.1.cells.toArray 53);have a9:=qH (M _ (W.alloc (.cells x.1.cells.toArray 53)) (KeepsOthers.from (KeepsOthers.alloc W _) _) ((eA _ W).alloc _) ⟨qH (q.upd z qO),qH (m.upd z qO),qH (C.alloc _)⟩ ⟨_,rfl,qH (jA W _ _)⟩);clear M z;gi_wp2;exact a9
 case body =>
  rintro l' d x a' W aw ah ⟨q,m,C⟩ ⟨E,rfl,ak⟩ ax;have hx:=HK.out x.1 x.2;obtain ⟨c,W',al,r,X,Y⟩:=q.put (x:=x.1.key) qM qM;obtain ⟨c1,am⟩:=qx (IntKind.i64.wrap (c+1));rw [am] at r;have aa:=qH X;have ab:=qH Y;have p1:=ak.c0;have p5:=m.c0;clear X Y;gi_wp2_with (gi_at_mapUpdate;go_must (refine ZeM rfl _ _ _ _ rfl rfl rfl rfl r ?_));have f:=ab.out;exact ⟨Zlt f fun k hk=>qO,⟨f.os,f.tape,f.output,f.size,fun k hk hn=>f.block k hk fun e=>hn (.inl e)⟩,qH (by rw [kA,DB];exact aa),qH (m.upd f qO),qH (C.trans f fun b i hh=>hh)⟩
 case done =>
  rintro D ys W hD G ⟨q,m,C⟩ M;have ac:ys.length<=8796093022208:=by have h9:=tB List.length G;rw [nA] at h9;omega
  have HY:=qH (show ys.map (fun x=>x.1.key)=SC g.dat 3 by have h9:=tB (List.map fun x=>x.key) G;rw [MC] at h9;exact h9.trans O);have HD:=qH (sC.1 M).1;have ad:=qH M;have p5:=m.c0;have ae:=qH (show w.heap.size<=D by omega);clear M G hD;gi_wp2_with (gi_at_call 86;refine (ZB.2 (tQ _ _)).mono ?_;rintro e w8 ⟨rfl,rfl⟩);gi_wp2_with (gi_at_call 85;refine (ZB.2 (uQ _ q ac)).mono ?_;rintro e w9 ⟨v,l,rfl,Z,a,a0⟩;have H:=qH (And.intro Z (And.intro a a0));clear Z a a0);have af:w9.heap[D]?=some (.deferred (some [])):=(H.2.2.block D HD fun h=>h).trans ad.out;refine ⟨qS,.inl ⟨_,_,rfl,run_takeDeferred af,?_⟩⟩;have hW:Same w W:=(U.trans C fun b i hh=>qO)
  have ag:=hW.trans H.2.2 qf;have ah:=ae.out;have ai:=(eA (fun k=>k=D) w9).grown (grownBy_putObj' w9 D (.deferred none)) fun k hk=>.inl (by injection hk with hk;exact hk.symm);have a:=H.2.1;have au:=HD.out;have aj:=hW.size;have A:=a.kept (grownBy_putObj' w9 D (.deferred none)) (by
   by_cases i:v.ownBlock=some D
   · have h8:=(a.lt D i).1;omega
   exact .inr i)
  refine ⟨v,?_,v,l,rfl,by rw [<- HY.out];exact H.1,RA A aj,ag.trans ai fun b i hh=>qO⟩;simp [results,Tryz.f39,go_sem]
 rintro D c d W _ _ h _;exact h.elim
end
section
open Go.RowKit Go.Shelf Go.Maps
theorem ZqE (g:GR):g.ns.flatMap ND.labels=SC g.dat 1:=by unfold SC;rw [gA rfl];simp only [GR.dat,jN];rfl
theorem Zot (w:World) (g:GR) (h:RdG w F g) (ht:ZJ g) (hT:(SC g.dat 1).length<=8796093022208):
 Calls Tryz.prog 39 #[g.agg,.int .i64 1] w fun e w'=>∃ (v:Value) (l:List (List UInt8)),e=.returned v/\oH (SC g.dat 1) l/\w'.ownsRow w.heap.size 9 1 v l.length (l.map strV)/\Same w w':=by
 rw [<- ZqE] at hT ⊢;obtain ⟨ns,AN,n,cN,rs,AR,nR,cR⟩:=g;have L:=h.nodes.row.max;have a6:=h.nodes.row.le;unfold maxLen at L;have HL:=qH h.nodes.len;have HT:=qH ht.label;simp only at L a6 HL HT hT ⊢;have M:=(iA w).alloc (.cells #[.slice AN n cN,.slice AR nR cR] 26);have N:=M.alloc (.map #[] 0);have t:=N.alloc (.cells #[.map (some (w.heap.size+1))] 154);have y:=(sQ (w.alloc (.cells #[.slice AN n cN,.slice AR nR cR] 26))).same ((iA _).alloc (.cells #[.map (some (w.heap.size+1))] 154));have O:=((jA w 26 #[.slice AN n cN,.slice AR nR cR]).alloc (.map #[] 0)).alloc (.cells #[.map (some (w.heap.size+1))] 154);have z:=jA ((w.alloc (.cells #[.slice AN n cN,.slice AR nR cR] 26)).alloc (.map #[] 0)) 154 #[.map (some (w.heap.size+1))];have P:=qH ((h.mono (F':=fun b=>b<w.heap.size) fun b G _=>G).nodes.same t);simp only [aB] at y z;have a7:=@YG Tryz.prog;have a8:=qH t;have a9:=qH y;have aa:=qH O;have R:=qH z;have S:=qH hT;clear h ht M N t y O z hT;go_enter yP,zP;go_upto_region 2 with fail;clear a7;generalize ((w.alloc (.cells #[.slice AN n cN,.slice AR nR cR] 26)).alloc (.map #[] 0)).alloc (.cells #[.map (some (w.heap.size+1))] 154)=w1 at *;simp only at P;have p1:=aa.c0;go_wp2_with fail;clear p1;go_loopg [20] n (fun gh ix wr=>∃ i:Nat,n-i=gh/\i<=n/\ix=.int .i64 i/\Hid (MapS wr (w.heap.size+1) ((ns.take i).flatMap ND.labels).length ((ns.take i).flatMap ND.labels))/\Hid (Upd (fun k=>k=w.heap.size+1) w1 wr))
 case atStart=>exact ⟨0,rfl,oA _,rfl,a9,qH (eA _ _)⟩
 obtain ⟨i,rfl,hi,rfl,KM,I⟩:=hrel;have A:=qH (P.upd I fun b G hh=>qO);by_cases T:i<n
 · obtain ⟨b,o,x,rfl,G,_,hx,C,r0,r1,r2⟩:=A.at_ T;have U:=qH (HT.out x C);have V:=qH (iO (f:=ND.labels) hx);have W:=qH (NT (f:=ND.labels) hx);have a:=qH (A.lab x C);clear hx C A;obtain ⟨ix,D,AL,p,cL,px,AP,nP,cP⟩:=x;simp only at r0 r1 r2 a V W U;have d:=(iA wr).alloc (.cells #[.int .i64 ix,.slice AL p cL,.slice AP nP cP] 56);have ab:=qH (jA wr 56 #[.int .i64 ix,.slice AL p cL,.slice AP nP cP]);have X:=qH ((R.upd I qO).same d);have ac:=qH (KM.same d);have ad:=qH (I.same d);have ae:=qH (a.upd d fun b G hh=>hh);have af:=a.max;have aq:=a.le;unfold maxLen at af;have Y:=qH (show D.length=p by have h9:=a.len;simpa using h9);clear d KM I;go_upto_region 7 with fail;clear r0 r1 r2;generalize wr.alloc (.cells #[.int .i64 ix,.slice AL p cL,.slice AP nP cP] 56)=w6 at *;generalize wr.heap.size=g6 at *;have p7:=ab.c1;go_wp2_with fail;clear p7;generalize hK:(List.flatMap ND.labels (List.take i ns))=q at *;go_loopg [27] p (fun gh jx wr=>∃ j:Nat,p-j=gh/\j<=p/\jx=.int .i64 j/\Hid (MapS wr (w.heap.size+1) (q++D.take j).length (q++D.take j))/\Hid (Upd (fun k=>k=w.heap.size+1) w1 wr)/\Hid (Upd (fun k=>k=w.heap.size+1) w6 wr))
   case atStart=>exact ⟨0,rfl,oA _,rfl,qH (by simpa using ac.out),ad,qH (eA _ _)⟩
   obtain ⟨j,rfl,hj,rfl,JM,JU,JV⟩:=hrel;by_cases B:j<p
   · obtain ⟨b2,o2,u,rfl,ar,_,hu,q0⟩:=(ae.upd JV fun b G hh=>qO).at_ B;rw [MA] at hu;obtain ⟨tx,a2,rfl⟩:=GH.1 hu;have ao:j<D.length:=by rw [Y.out];exact B
     have Z:tx∈D:=OC a2;have ap:=U.out tx Z;have ag:=qH (show q++D.take (j+1)=(q++D.take j)++[tx] from by rw [OT a2,vA]);have p5:wr.cell? ⟨w.heap.size+1+1,0,none⟩=some (.map (some (w.heap.size+1))):=(X.upd JV qO).cell 0;obtain ⟨c,w7,lk,r,a3,E⟩:=JM.put (x:=tx) (by have h1:=W.out;have h2:=S.out;rw [kA,RB];unfold maxLen;omega) qM
     obtain ⟨c1,an⟩:=qx (IntKind.i64.wrap (c+1));rw [an] at r;have ah:=qH a3;have ai:=qH (JU.trans E qf);have aj:=qH (JV.trans E qf);clear a3 E JM JU JV hu Z;go_wp2_with (at_mapUpdate;go_must (refine dQ rfl _ _ _ _ rfl rfl rfl rfl r ?_));go_roundg (p-(j+1))
     case measure=>omega
     case rel=>exact ⟨j+1,rfl,qO,qN,qH (by rw [ag.out,kA];exact ah),ai,aj⟩
   have ak:j=p:=qO;subst ak;rw [cB (by rw [Y.out];exact lA _),<-V.out] at JM;clear B;go_wp2_with fail;go_roundg (n-(i+1))
   case measure=>omega
   case rel=>exact ⟨i+1,rfl,qO,qN,JM,JU⟩
 have al:i=n:=qO;subst al;have m:(ns.take i).flatMap ND.labels=ns.flatMap ND.labels:=by rw [cB (by rw [HL.out];exact lA _)]
 rw [m] at KM;have a0:=qH (R.upd I qO);have p5:=a0.c0;have a1:=qH (show Same w wr from a8.trans I.out fun b G hh=>qO);have am:=a1.size;clear m T;go_wp2_with fail;refine (tQ _ _).mono ?_;rintro e w8 ⟨rfl,rfl⟩;go_wp2_with fail;refine (uQ _ KM S).mono ?_;rintro e w9 ⟨v,l,rfl,a4,s,a5⟩;have H:=qH (And.intro a4 (And.intro s a5));clear a4 s a5;go_wp2;go_ret;exact ⟨v,l,rfl,H.1,RA H.2.1 am,a1.same H.2.2⟩
theorem Zou (w:World) (g:GR) (_h:RdG w F g) (k:Int) (h1:k≠1) (h2:k≠2) (h3:k≠3):
 Calls Tryz.prog 39 #[g.agg,.int .i64 k] w fun e w'=>∃ (v:Value) (l:List (List UInt8)),e=.returned v/\oH (SC g.dat k) l/\w'.ownsRow w.heap.size 9 1 v l.length (l.map strV)/\Same w w':=by
 have a:SC g.dat k=[]:=by unfold SC;rw [aA h1,aA h2,aA h3]
 rw [a];obtain ⟨E,o,p,q,G,r,s,t⟩:=g;have f:=(iA w).alloc (.cells #[.slice o p q,.slice r s t] 26);have h:=f.alloc (.map #[] 0);have i:=h.alloc (.cells #[.map (some (w.heap.size+1))] 154);have c:=(sQ (w.alloc (.cells #[.slice o p q,.slice r s t] 26))).same ((iA _).alloc (.cells #[.map (some (w.heap.size+1))] 154));have d:=jA ((w.alloc (.cells #[.slice o p q,.slice r s t] 26)).alloc (.map #[] 0)) 154 #[.map (some (w.heap.size+1))];simp only [aB] at c d;have u:=@YG Tryz.prog;have j:=qH i;have x:=qH c;have y:=qH d;have z:(k==1)=false:=by simpa using h1
 have A:(k==2)=false:=by simpa using h2
 have B:(k==3)=false:=by simpa using h3
 clear f h i c d a h1 h2 h3 _h;go_enter yP,zP;go_upto_region 2 with fail;clear u;generalize ((w.alloc (.cells #[.slice o p q,.slice r s t] 26)).alloc (.map #[] 0)).alloc (.cells #[.map (some (w.heap.size+1))] 154)=D at *;have C:=y.c0;go_wp2_with fail;refine (tQ _ _).mono ?_;rintro e I ⟨rfl,rfl⟩;go_wp2_with fail;refine (uQ _ x qO).mono ?_;rintro e L ⟨v,l,rfl,m,b,n⟩;have H:=qH (And.intro m (And.intro b n));clear m b n;go_wp2;go_ret;exact ⟨v,l,rfl,H.1,RA H.2.1 j.size,j.same H.2.2⟩
theorem ZqF (w:World) (g:GR) (h:RdG w F g) (ht:ZJ g) (k:Int) (hT:(SC g.dat k).length<=8796093022208):
 Calls Tryz.prog 39 #[g.agg,.int .i64 k] w fun e w'=>∃ (v:Value) (l:List (List UInt8)),e=.returned v/\oH (SC g.dat k) l/\w'.ownsRow w.heap.size 9 1 v l.length (l.map strV)/\Same w w':=by
 by_cases d:k=1
 · subst d;exact Zot w g h ht hT
 by_cases f:k=2
 · subst f;refine Zoj w g h ht ?_;have j:=h.rels.len;unfold SC at hT;rw [aA qD,gA rfl,nA] at hT;simp only [GR.dat,nA] at hT;omega
 by_cases i:k=3
 · subst i;refine Zos w g h hT fun x b=>?_;unfold allP at b;rcases YB.1 b with b | b
   · obtain ⟨y,c,a⟩:=ED.1 b;exact ht.key1 y c x a
   obtain ⟨y,c,a⟩:=ED.1 b;exact ht.key2 y c x a
 exact Zou w g h k d f i
end
section
open Go.RowKit
theorem ME {k n:Nat} {e:TypeId} {v:Value} {xs:List Value} (h:w.ownsRow B e k v n xs) (hg:v.ownBlock≠some g):((w.setCell ⟨g,0,none⟩ a).setCell ⟨g,1,none⟩ b).ownsRow B e k v n xs :=
 GA h (((eA (fun x=>x=g) w).put1 (i:=0) a).put1 (i:=1) b) fun x c d=>hg (by rw [c,d])
theorem keepC {w1 wx:World} {t:TypeId} (hb:Hid (Blk w1 g t #[a,b])) (h:Same w1 wx):Same w1 wx/\wx.cell? ⟨g,0,none⟩=some a/\wx.cell? ⟨g,1,none⟩=some b:=⟨h,(hb.same h).cell 0,(hb.same h).cell 1⟩
end
end Go.Proofs.YtmkjfhnlnhceiaaGreatDoor
