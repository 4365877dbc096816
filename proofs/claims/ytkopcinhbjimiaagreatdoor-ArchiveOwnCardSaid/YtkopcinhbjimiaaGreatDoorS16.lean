/- Texts that the claim leans on: walks and plain laws, function by function. -/
import Derived.Maps.OwnIn
import Derived.Test.YtkopcinhbjimiaaGreatDoorRows
import Derived.ProofKit
import Derived.SizedLaws
import Derived.SliceStrings
import Derived.Deep.Fields
import Derived.Carry
import Derived.OpenShut
import Derived.Deep.Slices
import Derived.OrdersHeld
import Derived.StillTail
import Derived.Deep.RegionHeldLaw
import Derived.Test.YtkopcinhbjimiaaGreatDoorS12
set_option maxRecDepth 100000
set_option maxHeartbeats 16000000
namespace Go.Proofs.YtkopcinhbjimiaaGreatDoor
open Go.RowKit Go.Shelf
attribute [local go_sem] Oper.semAt_some
def allP (g:GR):List PR:=g.ns.flatMap ND.props++g.rs.flatMap RL.props
theorem ZdC {α β:Type} {f:α->List β} {l:List α} {i:Nat} {x:α} (h:l[i]?=some x):(l.take (i+1)).flatMap f=(l.take i).flatMap f++f x:=by
 rw [List.take_add_one,h,Option.toList_some,List.flatMap_append]
 simp
theorem Zko {α β:Type} {f:α->List β} {l:List α} {i:Nat} {x:α} (h:l[i]?=some x):((l.take i).flatMap f).length+(f x).length<=(l.flatMap f).length:=by
 have h1:(l.take (i+1)).flatMap f++(l.drop (i+1)).flatMap f=l.flatMap f:=by rw [<- List.flatMap_append,List.take_append_drop]
 rw [<- h1,ZdC h,List.length_append,List.length_append]
 omega
theorem Zly {α β:Type} {f:α->List β} {l:List α} {i:Nat} {x:α} (h:l[i]?=some x) (j:Nat):((l.take i).flatMap f++(f x).take j) <+: l.flatMap f:=by
 refine ⟨(f x).drop j++(l.drop (i+1)).flatMap f,?_⟩
 rw [List.append_assoc,<-List.append_assoc ((f x).take j),List.take_append_drop,<-List.append_assoc,<-ZdC h,<-List.flatMap_append,List.take_append_drop]
theorem Zih {β:Type} {B:Nat} {J:β->World->Prop} (hJ:AbidesFrom B J) {s:β} {W:World} (o:Obj) (h:J s W):J s (W.alloc o) :=
 hJ s W (W.alloc o) none h (World.grownBy_alloc W o none) (fun r e=>by cases e)
theorem Zdk {α:Type} {l:List α} {j:Nat} {y:α} (h:l[j]?=some y):l.take (j+1)=l.take j++[y]:=by rw [List.take_add_one,h,Option.toList_some]
theorem Znu (F:Fence) (n:Nat) (h7:F.fn 134) (hro:F.round=none) (hn:1<=n) (l Bs:Nat) (g:GR) (S Fg:Nat->Prop) (hSb:¬ S Bs) (hFS:∀ b,Fg b->¬ S b) (J Jx:List PR->World->Prop) (W:World) (hJ:AbidesFrom W.heap.size J) (hJx:AbidesFrom W.heap.size Jx) (hnew:∀ b,W.heap.size<=b->S b)
 (hY:∀ pre x W1,J pre W1->pre++[x] <+: allP g->YieldAt F (n-1) Tryz.prog l #[PR.agg x] W1 fun e W' =>
   (e=.returned (.bool true)/\J (pre++[x]) W'/\Upd S W1 W')\/(e=.returned (.bool false)/\Jx (pre++[x]) W'))
 (hB:Blk W Bs 26 #[.slice g.AN g.nN g.cN,.slice g.AR g.nR g.cR]) (hR:RdG W Fg g) (h0:J [] W) :
 CallsIn F n Tryz.prog 134 #[.func (.yield l) #[] #[],.pointer (some ⟨Bs,0,none⟩)] W fun e W'=>(∃ v,e=.returned v) /\
  ((∃ ys,ys=allP g/\J ys W')\/(∃ pre,pre <+: allP g/\Jx pre W')):=by
 obtain ⟨ns,AN,nN,cN,rs,AR,nR,cR⟩:=g
 simp only at hB
 have hmx:=hR.nodes.row.max
 have hle:=hR.nodes.row.le
 have hmx':=hR.rels.row.max
 have hle':=hR.rels.row.le
 unfold maxLen at hmx hmx'
 simp only at hmx hle hmx' hle'
 have HL:=qH (show ns.length=nN from hR.nodes.len)
 have HL':=qH (show rs.length=nR from hR.rels.len)
 have HRg:=qH hR
 have HBg:=qH hB
 have HA:=qH (show allP ⟨ns,AN,nN,cN,rs,AR,nR,cR⟩=ns.flatMap ND.props++rs.flatMap RL.props from rfl)
 have HJa:=qH hJ
 have HJb:=qH hJx
 have HNew:=qH hnew
 have HY:=qH hY
 have HFS:=qH hFS
 clear hR hB hJ hJx hnew hY hFS
 refine callsIn_of_wp Tryz.func134 rfl h7 ?_ hro
 simp only [Tryz.ntmps134,List.size_toArray,List.length_cons,List.length_nil,Nat.reduceAdd,Nat.reduceSub,Array.replicate_succ,Array.replicate_zero,List.push_toArray,List.append_toArray,List.nil_append,List.cons_append]
 have p0:W.cell? ⟨Bs,0,none⟩=some (.slice AN nN cN):=HBg.out.cell 0
 gi_wp2
 clear p0
 gi_loopw [14] (fun ix wr=>∃ i:Nat,i<=nN/\ix=.int .i64 i/\Hid (J ((ns.take i).flatMap ND.props) wr)/\Hid (Upd S W wr)) (fun ix _=>nN-(intOf ix).toNat)
 case atStart=>exact ⟨0,Nat.zero_le _,rfl,qH (by simpa using h0),qH (Upd.refl _ _)⟩
 obtain ⟨i,hi,rfl,KJ,KU⟩:=hrel
 by_cases hlt:i<nN
 · obtain ⟨b,o,x,rfl,hb,_,hx,hxm,r0,r1,r2⟩:=(HRg.out.upd KU.out HFS.out).nodes.at_ hlt
   have HP:=qH (fun (w9:World) (hu:Upd S W w9)=>(HRg.out.upd hu HFS.out).nodes.pro x hxm)
   have HX1:=qH (ZdC (f:=ND.props) hx)
   have HX2:=qH (Zko (f:=ND.props) hx)
   have HX3:=qH (Zly (f:=ND.props) hx)
   clear hx hxm
   obtain ⟨ix,lb,AL,nL,cL,ps,AP,nP,cP⟩:=x
   simp only at r0 r1 r2
   have KJ1:=qH (Zih HJa.out (.cells #[.int .i64 ix,.slice AL nL cL,.slice AP nP cP] 43) KJ.out)
   have KU1:=qH (KU.out.alloc (.cells #[.int .i64 ix,.slice AL nL cL,.slice AP nP cP] 43))
   have hP0:=HP.out wr KU.out
   have hmp:cP<=maxLen:=hP0.row.max
   have hlp:nP<=cP:=hP0.row.le
   have HPl:=qH (show ps.length=nP from hP0.len)
   unfold maxLen at hmp
   clear hP0
   obtain ⟨wo,rfl⟩:∃ wo:World,wo=wr:=⟨_,rfl⟩
   gi_wp2
   clear r0 r1 r2
   generalize wo.alloc (.cells #[.int .i64 ix,.slice AL nL cL,.slice AP nP cP] 43)=w7 at *
   gi_loopw [21] (fun jx wr=>∃ j:Nat,j<=nP/\jx=.int .i64 j/\Hid (J ((ns.take i).flatMap ND.props++ps.take j) wr)/\Hid (Upd S W wr)) (fun jx _=>nP-(intOf jx).toNat)
   case atStart=>exact ⟨0,Nat.zero_le _,rfl,qH (by simpa using KJ1.out),KU1⟩
   clear KJ1 KU1 KJ KU
   obtain ⟨j,hj,rfl,KJ,KU⟩:=hrel
   by_cases hjl:j<nP
   · obtain ⟨b2,o2,y,rfl,_,_,hy,_,q0,q1,q2,q3,q4,q5⟩:=(HP.out wr KU.out).at_ hjl
     have hjps:j<ps.length:=by rw [HPl.out];exact hjl
     have hT:=Zdk hy
     have HT:=qH hT
     obtain ⟨yk,⟨y0,y1,y2,y3,y4⟩,yA,yn,yc,yA2,yn2,yc2⟩:=y
     simp only at q0 q1 q2 q3 q4 q5
     have KJ1:=Zih HJa.out (.cells #[.string yk,.int .i64 y0,.int .i64 y1,.string y2,.slice yA yn yc,.slice yA2 yn2 yc2] 48) KJ.out
     have KU1:=qH (KU.out.alloc (.cells #[.string yk,.int .i64 y0,.int .i64 y1,.string y2,.slice yA yn yc,.slice yA2 yn2 yc2] 48))
     have hlen:(ns.take i).flatMap ND.props++ps.take j++[⟨yk,⟨y0,y1,y2,y3,y4⟩,yA,yn,yc,yA2,yn2,yc2⟩] <+: allP ⟨ns,some ⟨b,o,none⟩,nN,cN,rs,AR,nR,cR⟩:=by
      rw [HA.out,List.append_assoc,<-hT]
      exact (HX3.out (j+1)).trans (List.prefix_append _ _)
     obtain ⟨fn,tmps,assign,body,hy9,hR9⟩:=HY.out _ ⟨yk,⟨y0,y1,y2,y3,y4⟩,yA,yn,yc,yA2,yn2,yc2⟩ _ KJ1 hlen
     clear hy hT KJ1 hlen
     gi_wp2
     refine hR9.mono ?_
     rintro e W3 (⟨rfl,hJ3,hk3⟩ | ⟨rfl,hJx3⟩)
     · have KJ3:=qH (show J ((ns.take i).flatMap ND.props++ps.take (j+1)) W3 from by rw [HT.out,<-List.append_assoc];exact hJ3)
       have KU3:=qH (KU1.out.trans hk3 fun _ _ h=>h)
       clear hJ3 hk3 q0 q1 q2 q3 q4 q5
       gi_wp2
       go_roundw
       case rel=>exact ⟨j+1,by omega,by simp,KJ3,KU3⟩
       case measure=>simp [intOf];omega
     have hpre:=HX3.out (j+1)
     have KJ3:=qH (show ∃ pre,pre <+: allP ⟨ns,some ⟨b,o,none⟩,nN,cN,rs,AR,nR,cR⟩/\Jx pre W3 from ⟨(ns.take i).flatMap ND.props++ps.take (j+1),by rw [HA.out];exact hpre.trans (List.prefix_append _ _),by rw [HT.out,<-List.append_assoc];exact hJx3⟩)
     clear hJx3 hpre q0 q1 q2 q3 q4 q5
     gi_wp2
     refine bodyPost_ret (results_none rfl _ _ _) rfl ?_
     exact ⟨⟨_,rfl⟩,.inr KJ3.out⟩
   have hjn:j=nP:=by omega
   subst hjn
   have KJ3:=qH (show J ((ns.take (i+1)).flatMap ND.props) wr from by
    rw [HX1.out]
    have h1:=KJ.out
    rw [List.take_of_length_le (l:=ps) (by rw [HPl.out];exact Nat.le_refl _)] at h1
    exact h1)
   gi_wp2
   go_roundw
   case rel=>exact ⟨i+1,by omega,by simp,KJ3,KU⟩
   case measure=>simp [intOf];omega
 have hin:i=nN:=by omega
 subst hin
 have p1:wr.cell? ⟨Bs,1,none⟩=some (.slice AR nR cR):=(HBg.out.upd KU.out hSb).cell 1
 have KJ2:=qH (show J (ns.flatMap ND.props++(rs.take 0).flatMap RL.props) wr from by
  have h1:=KJ.out
  rw [List.take_of_length_le (by rw [HL.out];exact Nat.le_refl _)] at h1
  simpa using h1)
 have hNl:((ns.flatMap ND.props).length)<=(allP ⟨ns,AN,i,cN,rs,AR,nR,cR⟩).length:=by rw [HA.out,List.length_append];omega
 clear hlt hNl KJ
 obtain ⟨wo,rfl⟩:∃ wo:World,wo=wr:=⟨_,rfl⟩
 gi_wp2
 clear p1
 gi_loopw [34] (fun ix wr=>∃ i:Nat,i<=nR/\ix=.int .i64 i/\Hid (J (ns.flatMap ND.props++(rs.take i).flatMap RL.props) wr)/\Hid (Upd S W wr)) (fun ix _=>nR-(intOf ix).toNat)
 case atStart=>exact ⟨0,Nat.zero_le _,rfl,KJ2,KU⟩
 clear KJ2 KU
 obtain ⟨q,hq,rfl,KJ,KU⟩:=hrel
 by_cases hlt:q<nR
 · obtain ⟨b,o,x,rfl,hb,_,hx,hxm,r0,r1,r2,r3,r4⟩:=(HRg.out.upd KU.out HFS.out).rels.at_ hlt
   have HP:=qH (fun (w9:World) (hu:Upd S W w9)=>(HRg.out.upd hu HFS.out).rels.pro x hxm)
   have HX1:=qH (ZdC (f:=RL.props) hx)
   have HX2:=qH (Zko (f:=RL.props) hx)
   have HX3:=qH (Zly (f:=RL.props) hx)
   clear hx hxm
   obtain ⟨ix,tx,sx,dx,ps,AP,nP,cP⟩:=x
   simp only at r0 r1 r2 r3 r4
   have KJ1:=qH (Zih HJa.out (.cells #[.int .i64 ix,.string tx,.int .i64 sx,.int .i64 dx,.slice AP nP cP] 50) KJ.out)
   have KU1:=qH (KU.out.alloc (.cells #[.int .i64 ix,.string tx,.int .i64 sx,.int .i64 dx,.slice AP nP cP] 50))
   have hP0:=HP.out wr KU.out
   have hmp:cP<=maxLen:=hP0.row.max
   have hlp:nP<=cP:=hP0.row.le
   have HPl:=qH (show ps.length=nP from hP0.len)
   unfold maxLen at hmp
   clear hP0
   obtain ⟨wo,rfl⟩:∃ wo:World,wo=wr:=⟨_,rfl⟩
   gi_wp2
   clear r0 r1 r2 r3 r4
   generalize wo.alloc (.cells #[.int .i64 ix,.string tx,.int .i64 sx,.int .i64 dx,.slice AP nP cP] 50)=w7 at *
   gi_loopw [41] (fun jx wr=>∃ j:Nat,j<=nP/\jx=.int .i64 j/\Hid (J (ns.flatMap ND.props++(rs.take q).flatMap RL.props++ps.take j) wr)/\Hid (Upd S W wr)) (fun jx _=>nP-(intOf jx).toNat)
   case atStart=>exact ⟨0,Nat.zero_le _,rfl,qH (by simpa using KJ1.out),KU1⟩
   clear KJ1 KU1 KJ KU
   obtain ⟨j,hj,rfl,KJ,KU⟩:=hrel
   by_cases hjl:j<nP
   · obtain ⟨b2,o2,y,rfl,_,_,hy,_,q0,q1,q2,q3,q4,q5⟩:=(HP.out wr KU.out).at_ hjl
     have hjps:j<ps.length:=by rw [HPl.out];exact hjl
     have hT:=Zdk hy
     have HT:=qH hT
     obtain ⟨yk,⟨y0,y1,y2,y3,y4⟩,yA,yn,yc,yA2,yn2,yc2⟩:=y
     simp only at q0 q1 q2 q3 q4 q5
     have KJ1:=Zih HJa.out (.cells #[.string yk,.int .i64 y0,.int .i64 y1,.string y2,.slice yA yn yc,.slice yA2 yn2 yc2] 48) KJ.out
     have KU1:=qH (KU.out.alloc (.cells #[.string yk,.int .i64 y0,.int .i64 y1,.string y2,.slice yA yn yc,.slice yA2 yn2 yc2] 48))
     have hlen:ns.flatMap ND.props++(rs.take q).flatMap RL.props++ps.take j++[⟨yk,⟨y0,y1,y2,y3,y4⟩,yA,yn,yc,yA2,yn2,yc2⟩] <+: allP ⟨ns,AN,i,cN,rs,some ⟨b,o,none⟩,nR,cR⟩:=by
      rw [HA.out,List.append_assoc,List.append_assoc,<-hT]
      exact (List.prefix_append_right_inj _).2 (HX3.out (j+1))
     obtain ⟨fn,tmps,assign,body,hy9,hR9⟩:=HY.out _ ⟨yk,⟨y0,y1,y2,y3,y4⟩,yA,yn,yc,yA2,yn2,yc2⟩ _ KJ1 hlen
     clear hy hT KJ1 hlen
     gi_wp2
     refine hR9.mono ?_
     rintro e W3 (⟨rfl,hJ3,hk3⟩ | ⟨rfl,hJx3⟩)
     · have KJ3:=qH (show J (ns.flatMap ND.props++(rs.take q).flatMap RL.props++ps.take (j+1)) W3 from by rw [HT.out,<-List.append_assoc];exact hJ3)
       have KU3:=qH (KU1.out.trans hk3 fun _ _ h=>h)
       clear hJ3 hk3 q0 q1 q2 q3 q4 q5
       gi_wp2
       go_roundw
       case rel=>exact ⟨j+1,by omega,by simp,KJ3,KU3⟩
       case measure=>simp [intOf];omega
     have hpre:=HX3.out (j+1)
     have KJ3:=qH (show ∃ pre,pre <+: allP ⟨ns,AN,i,cN,rs,some ⟨b,o,none⟩,nR,cR⟩/\Jx pre W3 from ⟨ns.flatMap ND.props++(rs.take q).flatMap RL.props++ps.take (j+1),by rw [HA.out,List.append_assoc];exact (List.prefix_append_right_inj _).2 hpre,by rw [HT.out,<-List.append_assoc];exact hJx3⟩)
     clear hJx3 hpre q0 q1 q2 q3 q4 q5
     gi_wp2
     refine bodyPost_ret (results_none rfl _ _ _) rfl ?_
     exact ⟨⟨_,rfl⟩,.inr KJ3.out⟩
   have hjn:j=nP:=by omega
   subst hjn
   have KJ3:=qH (show J (ns.flatMap ND.props++(rs.take (q+1)).flatMap RL.props) wr from by
    rw [HX1.out]
    have h1:=KJ.out
    rw [List.take_of_length_le (l:=ps) (by rw [HPl.out];exact Nat.le_refl _),List.append_assoc] at h1
    exact h1)
   gi_wp2
   go_roundw
   case rel=>exact ⟨q+1,by omega,by simp,KJ3,KU⟩
   case measure=>simp [intOf];omega
 have hqn:q=nR:=by omega
 subst hqn
 have h1:=KJ.out
 rw [List.take_of_length_le (by rw [HL'.out];exact Nat.le_refl _),<-HA.out] at h1
 have KJ3:=qH h1
 clear h1
 gi_wp2
 go_end0
 exact ⟨⟨_,rfl⟩,.inl ⟨_,rfl,KJ3.out⟩⟩
theorem ZgK (F:Fence) (n:Nat) (h7:F.fn 134) (hro:F.round=none) (hn:1<=n) (Bs:Nat) (g:GR) (S Fg:Nat->Prop) (hSb:¬ S Bs) (hFS:∀ b,Fg b->¬ S b) (w:World) (hnew:∀ b,w.heap.size<=b->S b)
 (hB:Blk w Bs 26 #[.slice g.AN g.nN g.cN,.slice g.AR g.nR g.cR]) (hR:RdG w Fg g) :
 SeqStopsK F n Tryz.prog 134 #[.pointer (some ⟨Bs,0,none⟩)] (fun x:{ x:PR // x∈allP g }=>#[PR.agg x.1]) (Upd S) (fun ys=>ys.map (fun x=>x.1)=allP g) (fun pre=>pre.map (fun x=>x.1) <+: allP g) (allP g).length w:=fun l J Jx W hW hJ hJx hY h0 =>
 have hs:Same w W:=Same.of_below hW
 (Znu F n h7 hro hn l Bs g S Fg hSb hFS (fun pre W=>∃ q,q.map (fun x:{ x:PR // x∈allP g }=>x.1)=pre/\J q W) (fun pre W=>∃ q,q.map (fun x:{ x:PR // x∈allP g }=>x.1)=pre/\Jx q W) W
   (fun s A B row hh hg hr=>by obtain ⟨q,h1,h2⟩:=hh;exact ⟨q,h1,hJ q A B row h2 hg hr⟩) (fun s A B row hh hg hr=>by obtain ⟨q,h1,h2⟩:=hh;exact ⟨q,h1,hJx q A B row h2 hg hr⟩) (fun b hb=>hnew b (Nat.le_trans hW.size hb))
   (fun pre x W1 hh hp=>by
     obtain ⟨q,h1,h2⟩:=hh
     have hm:x∈allP g:=hp.subset (by simp)
     have hl:q.length<(allP g).length:=by
      have h3:=hp.length_le
      rw [<- h1] at h3
      simp only [List.length_append,List.length_map,List.length_singleton] at h3
      omega
     obtain ⟨fn,tmps,assign,body,hy,hR⟩:=hY q ⟨x,hm⟩ W1 h2 hl
     refine ⟨fn,tmps,assign,body,hy,hR.mono fun e W' h=>?_⟩
     rcases h with ⟨he,hj,hk⟩ | ⟨he,hj⟩
     · exact .inl ⟨he,⟨q++[⟨x,hm⟩],by rw [List.map_append,h1];rfl,hj⟩,hk⟩
     exact .inr ⟨he,⟨q++[⟨x,hm⟩],by rw [List.map_append,h1];rfl,hj⟩⟩)
   (hB.same hs) (hR.same hs) ⟨[],rfl,h0⟩).mono fun e W' hh=>⟨hh.1,by
     rcases hh.2 with ⟨ys,rfl,q,hq,hj⟩ | ⟨pre,hpre,q,hq,hj⟩
     · exact .inl ⟨q,hq,hj⟩
     exact .inr ⟨q,by simp only [hq];exact hpre,hj⟩⟩
end Go.Proofs.YtkopcinhbjimiaaGreatDoor
namespace Go.Proofs.YtkopcinhbjimiaaGreatDoor
open Go.RowKit Go.Shelf Go.Maps
attribute [local go_sem] Oper.semAt_some
theorem Zds {F:Fence} {nF:Nat} {P:Program} {w w':World} {ops:Array Oper} {rest:List Oper} {o:Oper} {a:Act} {Q:Exit->Act->World->Prop}
 (hg:o.guard=none) (m x v:Operand) (t:TypeId) (hop:o.op=Op.mapUpdate t m x v) {mv xv vv:Value} (hm:a.eval m=mv) (hx:a.eval x=xv) (hv:a.eval v=vv)
 (hrun:(Instr.mapUpdate t mv xv vv).run P w=.ok () w') (hK:wpListIn F nF P ops Q rest (a.put o.dst undef) w'):wpListIn F nF P ops Q (o::rest) a w:=by
 refine wpListIn_plain hg fun K' hK'=>?_
 unfold Oper.wpIn
 refine ⟨by simp [Oper.about,hop],?_⟩
 rw [Oper.semAt_plain F _ _ (by rw [hop];intro c hc';cases hc')]
 simp [execOp,hop,hm,hx,hv,hrun,Result.andThen]
 exact hK' _ _ hK
theorem Zmo (g:GR) (w:World):Calls Tryz.prog 101 #[g.agg] w fun e w'=>e=.returned (.func (.func 134) #[] #[.pointer (some ⟨w.heap.size,0,none⟩)])/\w'=w.alloc (.cells #[.slice g.AN g.nN g.cN,.slice g.AR g.nR g.cR] 26):=by
 obtain ⟨ns,AN,nN,cN,rs,AR,nR,cR⟩:=g
 go_enter Tryz.func101,Tryz.ntmps101
 go_wp2
 go_ret
 exact ⟨rfl,rfl⟩
theorem Zjm {β:Type} {B:Nat} {I:β->World->Prop} (h:∀ s W W',I s W->Upd (fun k=>B<=k) W W'->I s W'):OwnFrom B I:=fun s W W' row hs hg hr =>
 h s W W' hs ⟨hg.os,hg.tape,hg.output,hg.size,fun k _ hn=>hg.block k (by assumption) fun e=>hn (hr k e.symm).1⟩
theorem Zii {S:Nat->Prop} {B:Nat} {W W':World} (hu:Upd S W W') (h:∀ k,S k->k<B):KeepsFrom B W W' :=
 ⟨hu.size,fun k o hB hk _=>(hu.block k (Array.getElem?_eq_some_iff.1 hk).1 fun hs=>absurd (h k hs) (by omega)).trans hk⟩
theorem ZoO (g:GR):(allP g).map (fun x=>x.key)=Zaf g.dat 3:=by
 unfold allP Zaf
 rw [if_neg (by decide),if_neg (by decide),if_pos rfl]
 simp only [List.map_append,List.map_flatMap,GR.dat,List.flatMap_map,ND.dat,RL.dat,List.map_map]
 rfl
theorem Zkp {F:Nat->Prop} (w:World) (g:GR) (h:RdG w F g) (hT:(Zaf g.dat 3).length<=8796093022208) (hk:∀ x∈allP g,x.key.size<=9223372036854775807) :
 Calls Tryz.prog 58 #[g.agg,.int .i64 3] w fun e w'=>∃ (v:Value) (l:List (List UInt8)),e=.returned v/\Zcv (Zaf g.dat 3) l/\w'.ownsRow w.heap.size 9 1 v l.length (l.map strV)/\Same w w':=by
 have hall:=ZoO g
 have hlen:(allP g).length<=8796093022208:=by rw [<- hall,List.length_map] at hT;exact hT
 have hag:g.agg=.agg #[.slice g.AN g.nN g.cN,.slice g.AR g.nR g.cR]:=rfl
 have hs0:=(((Upd.refl (fun _=>False) w).alloc (.cells #[.slice g.AN g.nN g.cN,.slice g.AR g.nR g.cR] 26)).alloc (.map #[] 0)).alloc (.cells #[.map (some (w.heap.size+1))] 151)
 have hm0:=(MapS.made (w.alloc (.cells #[.slice g.AN g.nN g.cN,.slice g.AR g.nR g.cR] 26))).same ((Upd.refl (fun _=>False) _).alloc (.cells #[.map (some (w.heap.size+1))] 151))
 have hb0:=((Blk.new w 26 #[.slice g.AN g.nN g.cN,.slice g.AR g.nR g.cR]).alloc (.map #[] 0)).alloc (.cells #[.map (some (w.heap.size+1))] 151)
 have hb5:=Blk.new ((w.alloc (.cells #[.slice g.AN g.nN g.cN,.slice g.AR g.nR g.cR] 26)).alloc (.map #[] 0)) 151 #[.map (some (w.heap.size+1))]
 have hmm:=@run_makeMap Tryz.prog
 simp only [World.size_alloc] at hm0 hb5
 have hsz:(((w.alloc (.cells #[.slice g.AN g.nN g.cN,.slice g.AR g.nR g.cR] 26)).alloc (.map #[] 0)).alloc (.cells #[.map (some (w.heap.size+1))] 151)).heap.size=w.heap.size+1+1+1:=by simp only [World.size_alloc]
 have HSZ:=qH hsz
 clear hsz
 have HS1:=qH hs0
 have HM1:=qH hm0
 have HB0:=qH hb0
 have HB5:=qH hb5
 have HR1:=qH ((h.mono (F':=fun b=>b<w.heap.size) fun b hb _=>by first | exact hb | exact hb).same hs0)
 have HAll:=qH hall
 have HK:=qH hk
 clear h hs0 hm0 hb0 hb5 hall hk hT
 rw [hag]
 refine (callsIn_wide (n:=5)).1 ?_
 have hf1:Fence.wide.fn 101:=trivial
 have hf2:Fence.wide.fn 134:=trivial
 have hf3:Fence.wide.fn 103:=trivial
 have hf4:Fence.wide.fn 102:=trivial
 refine callsIn_of_wp_marks Tryz.func58 rfl trivial ?_ rfl
 simp only [Tryz.ntmps58,List.size_toArray,List.length_cons,List.length_nil,Nat.reduceAdd,Nat.reduceSub,Array.replicate_succ,Array.replicate_zero,List.push_toArray,List.append_toArray,List.nil_append,List.cons_append]
 gi_wp2_with (gi_at_call 101;refine (callsIn_wide.2 (Zmo g _)).mono ?_;rintro e w2 ⟨rfl,rfl⟩)
 clear hmm
 generalize ((w.alloc (.cells #[.slice g.AN g.nN g.cN,.slice g.AR g.nR g.cR] 26)).alloc (.map #[] 0)).alloc (.cells #[.map (some (w.heap.size+1))] 151)=w1 at *
 have hsz:=HSZ.out
 have sA:=(Upd.refl (fun _=>False) w1).alloc (.cells #[.slice g.AN g.nN g.cN,.slice g.AR g.nR g.cR] 26)
 have hBn:=Blk.new w1 26 #[.slice g.AN g.nN g.cN,.slice g.AR g.nR g.cR]
 rw [hsz] at hBn
 have hR2:=HR1.out.same sA
 have hM2:=HM1.out.same sA
 have hB5:=HB5.out.same sA
 have hz:=HB5.out.lt
 have hzw:=sA.size
 have hS2:Same w (w1.alloc (.cells #[.slice g.AN g.nN g.cN,.slice g.AR g.nR g.cR] 26)):=HS1.out.same sA
 obtain ⟨w2,hw2⟩:∃ w2,w1.alloc (.cells #[.slice g.AN g.nN g.cN,.slice g.AR g.nR g.cR] 26)=w2:=⟨_,rfl⟩
 rw [hw2] at sA hBn hR2 hM2 hB5 hzw hS2 ⊢
 have hz2:w1.heap.size+1=w2.heap.size:=by rw [<- hw2,World.size_alloc]
 clear hw2
 refine wpIn_rangeFunc_ownH rfl (by omega) (gf:=134) (lb:=#[.pointer (some ⟨w.heap.size+1+1+1,0,none⟩)]) rfl hf2 (enters_of Tryz.func134 (by kernel_rfl) rfl)
  (ZgK Fence.wide _ hf2 rfl (by omega) (w.heap.size+1+1+1) g (fun k=>k=w.heap.size+1\/w2.heap.size<=k) (fun b=>b<w.heap.size) (by omega) (fun b hb=>by omega) w2 (fun b hb=>.inr hb) hBn hR2) Zpg (Zph fun k hk=>.inr hk) (Below.refl _ _) (fun _=>rfl)
  (fun pre W=>Hid (MapS W (w.heap.size+1) pre.length (pre.map fun x=>x.1.key))/\Hid (Blk W (w.heap.size+1+1) 151 #[.map (some (w.heap.size+1))])/\Hid (Upd (fun k=>k=w.heap.size+1) w2 W))
  (fun _ _ _=>False)
  (Zjm fun pre W W' ⟨h1,h3,h4⟩ hu=>⟨qH (h1.out.upd hu (by omega)),qH (h3.out.upd hu (by omega)),qH (h4.out.trans hu fun b hb hh=>by omega)⟩)
  (fun _ _ _ _ _ hs _ _=>hs)
  ⟨qH hM2,qH hB5,qH (Upd.refl _ _)⟩
  (fun x a' W=>∃ bp:Nat,a'={ tmps:=#[.agg #[.slice g.AN g.nN g.cN,.slice g.AR g.nR g.cR],.int .i64 3,.pointer (some ⟨w.heap.size,0,none⟩),undef,.slice none 0 0,.pointer (some ⟨w.heap.size+1+1,0,none⟩),undef,undef,undef,undef,undef,undef,.pointer (some ⟨bp,0,none⟩),.map (some (w.heap.size+1)),.int .i64 3,.bool false,.bool false,undef,undef,undef,undef,undef,undef,undef,undef,undef,undef,undef,undef,undef,undef,undef,undef,undef,undef,undef,undef,.bool false,.bool false,undef,undef,undef,undef,undef,undef,undef,undef,undef,undef,undef,undef,undef,.bool true,.bool true,.agg #[.slice g.AN g.nN g.cN,.slice g.AR g.nR g.cR],.func (.func 134) #[] #[.pointer (some ⟨w.heap.size+1+1+1,0,none⟩)],PR.agg x.1,undef,undef,undef,undef,undef,undef,undef,undef],defers:=[] }/\Hid (Blk W bp 48 x.1.cells.toArray))
  (fun x a'=>fun _ W W' row ⟨bp,h1,h2⟩ hg hr=>⟨bp,h1,qH ((hg.block bp h2.out.lt fun e=>by
    obtain ⟨o,ho,hc⟩:=(hr bp e.symm).2
    have h3:=h2.out
    unfold Blk at h3
    rw [h3] at ho
    cases ho
    cases hc).trans h2.out)⟩) ?assign ?body ?done ?stop
 case assign =>
  rintro l pre x W K ⟨h1,h3,h4⟩ hK
  have hAl:=(Upd.refl (fun k=>w2.heap.size<=k) W).alloc (.cells x.1.cells.toArray 48)
  have HKK:=qH (hK _ (W.alloc (.cells x.1.cells.toArray 48)) (KeepsOthers.from (KeepsOthers.alloc W _) _) ((Upd.refl _ W).alloc _) ⟨qH (h1.out.upd hAl (by omega)),qH (h3.out.upd hAl (by omega)),qH (h4.out.alloc _)⟩ ⟨_,rfl,qH (Blk.new W _ _)⟩)
  clear hK hAl
  gi_wp2
  exact HKK.out
 case body =>
  rintro l' pre x a' W hl' hlo ⟨h1,h3,h4⟩ ⟨bp,rfl,hbx⟩ hlt
  have hx:=HK.out x.1 x.2
  obtain ⟨c,W',hlook,hput,hm',hu'⟩:=h1.out.put (x:=x.1.key) (by unfold maxLen;omega) (by unfold maxLen;omega)
  obtain ⟨c1,hc1⟩:∃ c1,IntKind.i64.wrap (c+1)=c1:=⟨_,rfl⟩
  rw [hc1] at hput
  have HM7:=qH hm'
  have HU7:=qH hu'
  have p1:W.cell? ⟨bp,0,none⟩=some (.string x.1.key):=hbx.out.cell 0
  have p5:W.cell? ⟨w.heap.size+1+1,0,none⟩=some (.map (some (w.heap.size+1))):=h3.out.cell 0
  clear hm' hu'
  gi_wp2_with (gi_at_mapUpdate;go_must (refine Zds rfl _ _ _ _ rfl rfl rfl rfl hput ?_))
  have hu:=HU7.out
  exact ⟨Zii hu fun k hk=>by omega,⟨hu.os,hu.tape,hu.output,hu.size,fun k hk hn=>hu.block k hk fun e=>hn (.inl e)⟩,qH (by rw [List.length_append,List.map_append];exact HM7.out),qH (h3.out.upd hu (by omega)),qH (h4.out.trans hu fun b hb hh=>hh)⟩
 case done =>
  rintro D ys W hD hys ⟨h1,h3,h4⟩ hK
  have hyl:ys.length<=8796093022208:=by
   have h9:=congrArg List.length hys
   rw [List.length_map] at h9
   omega
  have HY:=qH (show ys.map (fun x=>x.1.key)=Zaf g.dat 3 by have h9:=congrArg (List.map fun x=>x.key) hys;rw [List.map_map] at h9;exact h9.trans HAll.out)
  have HD:=qH (Array.getElem?_eq_some_iff.1 hK).1
  have HKd:=qH hK
  have p5:W.cell? ⟨w.heap.size+1+1,0,none⟩=some (.map (some (w.heap.size+1))):=h3.out.cell 0
  have HLo:=qH (show w.heap.size<=D by omega)
  clear hK hys hD
  gi_wp2_with (gi_at_call 103;refine (callsIn_wide.2 (ZeI _ _)).mono ?_;rintro e w8 ⟨rfl,rfl⟩)
  gi_wp2_with (gi_at_call 102;refine (callsIn_wide.2 (Zdi _ h1.out hyl)).mono ?_;rintro e w9 ⟨v,l,rfl,hnm,hrow,hs9⟩;have H:=qH (And.intro hnm (And.intro hrow hs9));clear hnm hrow hs9)
  have hK':w9.heap[D]?=some (.deferred (some [])):=(H.2.2.block D HD.out fun h=>h).trans HKd.out
  refine ⟨by simp,.inl ⟨_,_,rfl,run_takeDeferred hK',?_⟩⟩
  have hW:Same w W:=(hS2.trans h4.out fun b hb hh=>by omega)
  have hW9:=hW.trans H.2.2 fun _ _ h=>h
  have hlo:=HLo.out
  have hup:=(Upd.refl (fun k=>k=D) w9).grown (grownBy_putObj' w9 D (.deferred none)) fun k hk=>.inl (by injection hk with hk;exact hk.symm)
  have hrow:=H.2.1
  have hDl:=HD.out
  have hzW:=hW.size
  have hrow':=hrow.kept (grownBy_putObj' w9 D (.deferred none)) (by
   by_cases hb:v.ownBlock=some D
   · have h8:=(hrow.lt D hb).1
     omega
   exact .inr hb)
  refine ⟨v,?_,v,l,rfl,by rw [<- HY.out];exact H.1,Zad hrow' hzW,hW9.trans hup fun b hb hh=>by omega⟩
  simp [results,Tryz.f58,go_sem]
 rintro D c pre W _ _ h _
 exact h.elim
end Go.Proofs.YtkopcinhbjimiaaGreatDoor
namespace Go.Proofs.YtkopcinhbjimiaaGreatDoor
open Go.RowKit Go.Shelf Go.Maps
theorem Zmp (g:GR):g.ns.flatMap ND.labels=Zaf g.dat 1:=by
 unfold Zaf
 rw [if_pos rfl]
 simp only [GR.dat,List.flatMap_map]
 rfl
theorem Zkq {F:Nat->Prop} (w:World) (g:GR) (h:RdG w F g) (ht:ZgG g) (hT:(Zaf g.dat 1).length<=8796093022208) :
 Calls Tryz.prog 58 #[g.agg,.int .i64 1] w fun e w'=>∃ (v:Value) (l:List (List UInt8)),e=.returned v/\Zcv (Zaf g.dat 1) l/\w'.ownsRow w.heap.size 9 1 v l.length (l.map strV)/\Same w w':=by
 rw [<- Zmp] at hT ⊢
 obtain ⟨ns,AN,nN,cN,rs,AR,nR,cR⟩:=g
 have hmx:=h.nodes.row.max
 have hle:=h.nodes.row.le
 unfold maxLen at hmx
 have HL:=qH h.nodes.len
 have HT:=qH ht.label
 simp only at hmx hle HL HT hT ⊢
 have hs0:=(Upd.refl (fun _=>False) w).alloc (.cells #[.slice AN nN cN,.slice AR nR cR] 26)
 have hs1:=hs0.alloc (.map #[] 0)
 have hs2:=hs1.alloc (.cells #[.map (some (w.heap.size+1))] 151)
 have hm0:=(MapS.made (w.alloc (.cells #[.slice AN nN cN,.slice AR nR cR] 26))).same ((Upd.refl (fun _=>False) _).alloc (.cells #[.map (some (w.heap.size+1))] 151))
 have hb0:=((Blk.new w 26 #[.slice AN nN cN,.slice AR nR cR]).alloc (.map #[] 0)).alloc (.cells #[.map (some (w.heap.size+1))] 151)
 have hb5:=Blk.new ((w.alloc (.cells #[.slice AN nN cN,.slice AR nR cR] 26)).alloc (.map #[] 0)) 151 #[.map (some (w.heap.size+1))]
 have HR1:=qH ((h.mono (F':=fun b=>b<w.heap.size) fun b hb _=>hb).nodes.same hs2)
 simp only [World.size_alloc] at hm0 hb5
 have hmm:=@run_makeMap Tryz.prog
 have HS1:=qH hs2
 have HM1:=qH hm0
 have HB0:=qH hb0
 have HB5:=qH hb5
 have HTt:=qH hT
 clear h ht hs0 hs1 hs2 hm0 hb0 hb5 hT
 go_enter Tryz.func58,Tryz.ntmps58
 go_upto_region 2 with fail
 clear hmm
 generalize ((w.alloc (.cells #[.slice AN nN cN,.slice AR nR cR] 26)).alloc (.map #[] 0)).alloc (.cells #[.map (some (w.heap.size+1))] 151)=w1 at *
 simp only at HR1
 have p1:w1.cell? ⟨w.heap.size,0,none⟩=some (.slice AN nN cN):=HB0.out.cell 0
 go_wp2_with fail
 clear p1
 go_loopg [20] nN (fun gh ix wr=>∃ i:Nat,nN-i=gh/\i<=nN/\ix=.int .i64 i/\Hid (MapS wr (w.heap.size+1) ((ns.take i).flatMap ND.labels).length ((ns.take i).flatMap ND.labels))/\Hid (Upd (fun k=>k=w.heap.size+1) w1 wr))
 case atStart=>exact ⟨0,rfl,Nat.zero_le _,rfl,HM1,qH (Upd.refl _ _)⟩
 obtain ⟨i,rfl,hi,rfl,KM,KU⟩:=hrel
 have HRw:=qH (HR1.out.upd KU.out fun b hb hh=>by omega)
 by_cases hlt:i<nN
 · obtain ⟨b,o,x,rfl,hb,_,hx,hxm,r0,r1,r2⟩:=HRw.out.at_ hlt
   have HTx:=qH (HT.out x hxm)
   have HX1:=qH (ZdC (f:=ND.labels) hx)
   have HX2:=qH (Zko (f:=ND.labels) hx)
   have HXL:=qH (HRw.out.lab x hxm)
   clear hx hxm HRw
   obtain ⟨ix,lb,AL,nL,cL,px,AP,nP,cP⟩:=x
   simp only at r0 r1 r2 HXL HX1 HX2 HTx
   have hsA:=(Upd.refl (fun _=>False) wr).alloc (.cells #[.int .i64 ix,.slice AL nL cL,.slice AP nP cP] 43)
   have HBA:=qH (Blk.new wr 43 #[.int .i64 ix,.slice AL nL cL,.slice AP nP cP])
   have HB5A:=qH ((HB5.out.upd KU.out (by omega)).same hsA)
   have HMA:=qH (KM.out.same hsA)
   have HUA:=qH (KU.out.same hsA)
   have HXA:=qH (HXL.out.upd hsA fun b hb hh=>hh)
   have hmp:=HXL.out.max
   have hlp:=HXL.out.le
   unfold maxLen at hmp
   have HLn:=qH (show lb.length=nL by have h9:=HXL.out.len;simpa using h9)
   clear hsA KM KU
   go_upto_region 7 with fail
   clear r0 r1 r2
   generalize wr.alloc (.cells #[.int .i64 ix,.slice AL nL cL,.slice AP nP cP] 43)=w6 at *
   generalize wr.heap.size=g6 at *
   have p7:w6.cell? ⟨g6,1,none⟩=some (.slice AL nL cL):=HBA.out.cell 1
   go_wp2_with fail
   clear p7
   generalize hK:(List.flatMap ND.labels (List.take i ns))=pre at *
   go_loopg [27] nL (fun gh jx wr=>∃ j:Nat,nL-j=gh/\j<=nL/\jx=.int .i64 j/\Hid (MapS wr (w.heap.size+1) (pre++lb.take j).length (pre++lb.take j))/\Hid (Upd (fun k=>k=w.heap.size+1) w1 wr)/\Hid (Upd (fun k=>k=w.heap.size+1) w6 wr))
   case atStart=>exact ⟨0,rfl,Nat.zero_le _,rfl,qH (by simpa using HMA.out),HUA,qH (Upd.refl _ _)⟩
   obtain ⟨j,rfl,hj,rfl,JM,JU,JV⟩:=hrel
   by_cases hjl:j<nL
   · obtain ⟨b2,o2,u,rfl,hb2,_,hu,q0⟩:=(HXA.out.upd JV.out fun b hb hh=>by omega).at_ hjl
     rw [List.getElem?_map] at hu
     obtain ⟨tx,htx,rfl⟩:=Option.map_eq_some_iff.1 hu
     have hjlb:j<lb.length:=by rw [HLn.out];exact hjl
     have htm:tx∈lb:=List.mem_of_getElem? htx
     have htx2:=HTx.out tx htm
     have HTk:=qH (show pre++lb.take (j+1)=(pre++lb.take j)++[tx] from by rw [Zdk htx,List.append_assoc])
     have p5:wr.cell? ⟨w.heap.size+1+1,0,none⟩=some (.map (some (w.heap.size+1))):=(HB5A.out.upd JV.out (by omega)).cell 0
     obtain ⟨c,w7,lk,lput,hm7,hu7⟩:=JM.out.put (x:=tx) (by
      have h1:=HX2.out
      have h2:=HTt.out
      rw [List.length_append,List.length_take]
      unfold maxLen
      omega) (by unfold maxLen;omega)
     obtain ⟨c1,hc1⟩:∃ c1,IntKind.i64.wrap (c+1)=c1:=⟨_,rfl⟩
     rw [hc1] at lput
     have HM7:=qH hm7
     have HU7:=qH (JU.out.trans hu7 fun _ _ h=>h)
     have HV7:=qH (JV.out.trans hu7 fun _ _ h=>h)
     clear hm7 hu7 JM JU JV hu htm
     go_wp2_with (at_mapUpdate;go_must (refine Zbf rfl _ _ _ _ rfl rfl rfl rfl lput ?_))
     go_roundg (nL-(j+1))
     case measure=>omega
     case rel=>exact ⟨j+1,rfl,by omega,by go_num,qH (by rw [HTk.out,List.length_append];exact HM7.out),HU7,HV7⟩
   have hjn:j=nL:=by omega
   subst hjn
   rw [List.take_of_length_le (by rw [HLn.out];exact Nat.le_refl _),<-HX1.out] at JM
   clear hjl
   go_wp2_with fail
   go_roundg (nN-(i+1))
   case measure=>omega
   case rel=>exact ⟨i+1,rfl,by omega,by go_num,JM,JU⟩
 have hin:i=nN:=by omega
 subst hin
 have hseen:(ns.take i).flatMap ND.labels=ns.flatMap ND.labels:=by rw [List.take_of_length_le (by rw [HL.out];exact Nat.le_refl _)]
 rw [hseen] at KM
 have HB5w:=qH (HB5.out.upd KU.out (by omega))
 have p5:wr.cell? ⟨w.heap.size+1+1,0,none⟩=some (.map (some (w.heap.size+1))):=HB5w.out.cell 0
 have HSw:=qH (show Same w wr from HS1.out.trans KU.out fun b hb hh=>by omega)
 have hzw:=HSw.out.size
 clear hseen hlt
 go_wp2_with fail
 refine (ZeI _ _).mono ?_
 rintro e w8 ⟨rfl,rfl⟩
 go_wp2_with fail
 refine (Zdi _ KM.out HTt.out).mono ?_
 rintro e w9 ⟨v,l,rfl,hnm,hrow,hs9⟩
 have H:=qH (And.intro hnm (And.intro hrow hs9))
 clear hnm hrow hs9
 go_wp2
 go_ret
 exact ⟨v,l,rfl,H.1,Zad H.2.1 hzw,HSw.out.same H.2.2⟩
theorem Zkr {F:Nat->Prop} (w:World) (g:GR) (_h:RdG w F g) (k:Int) (h1:k≠1) (h2:k≠2) (h3:k≠3) :
 Calls Tryz.prog 58 #[g.agg,.int .i64 k] w fun e w'=>∃ (v:Value) (l:List (List UInt8)),e=.returned v/\Zcv (Zaf g.dat k) l/\w'.ownsRow w.heap.size 9 1 v l.length (l.map strV)/\Same w w':=by
 have hall:Zaf g.dat k=[]:=by
  unfold Zaf
  rw [if_neg h1,if_neg h2,if_neg h3]
 rw [hall]
 obtain ⟨ns,AN,nN,cN,rs,AR,nR,cR⟩:=g
 have hs0:=(Upd.refl (fun _=>False) w).alloc (.cells #[.slice AN nN cN,.slice AR nR cR] 26)
 have hs1:=hs0.alloc (.map #[] 0)
 have hs2:=hs1.alloc (.cells #[.map (some (w.heap.size+1))] 151)
 have hm0:=(MapS.made (w.alloc (.cells #[.slice AN nN cN,.slice AR nR cR] 26))).same ((Upd.refl (fun _=>False) _).alloc (.cells #[.map (some (w.heap.size+1))] 151))
 have hb5:=Blk.new ((w.alloc (.cells #[.slice AN nN cN,.slice AR nR cR] 26)).alloc (.map #[] 0)) 151 #[.map (some (w.heap.size+1))]
 simp only [World.size_alloc] at hm0 hb5
 have hmm:=@run_makeMap Tryz.prog
 have HS1:=qH hs2
 have HM1:=qH hm0
 have HB5:=qH hb5
 have b1:(k==1)=false:=by simpa using h1
 have b2:(k==2)=false:=by simpa using h2
 have b3:(k==3)=false:=by simpa using h3
 clear hs0 hs1 hs2 hm0 hb5 hall h1 h2 h3 _h
 go_enter Tryz.func58,Tryz.ntmps58
 go_upto_region 2 with fail
 clear hmm
 generalize ((w.alloc (.cells #[.slice AN nN cN,.slice AR nR cR] 26)).alloc (.map #[] 0)).alloc (.cells #[.map (some (w.heap.size+1))] 151)=w1 at *
 have p5:w1.cell? ⟨w.heap.size+1+1,0,none⟩=some (.map (some (w.heap.size+1))):=HB5.out.cell 0
 go_wp2_with fail
 refine (ZeI _ _).mono ?_
 rintro e w8 ⟨rfl,rfl⟩
 go_wp2_with fail
 refine (Zdi _ HM1.out (by omega)).mono ?_
 rintro e w9 ⟨v,l,rfl,hnm,hrow,hs9⟩
 have H:=qH (And.intro hnm (And.intro hrow hs9))
 clear hnm hrow hs9
 go_wp2
 go_ret
 exact ⟨v,l,rfl,H.1,Zad H.2.1 HS1.out.size,HS1.out.same H.2.2⟩
theorem Zmq {F:Nat->Prop} (w:World) (g:GR) (h:RdG w F g) (ht:ZgG g) (k:Int) (hT:(Zaf g.dat k).length<=8796093022208) :
 Calls Tryz.prog 58 #[g.agg,.int .i64 k] w fun e w'=>∃ (v:Value) (l:List (List UInt8)),e=.returned v/\Zcv (Zaf g.dat k) l/\w'.ownsRow w.heap.size 9 1 v l.length (l.map strV)/\Same w w':=by
 by_cases h1:k=1
 · subst h1
   exact Zkq w g h ht hT
 by_cases h2:k=2
 · subst h2
   refine Zkj w g h ht ?_
   have h9:=h.rels.len
   unfold Zaf at hT
   rw [if_neg (by decide),if_pos rfl,List.length_map] at hT
   simp only [GR.dat,List.length_map] at hT
   omega
 by_cases h3:k=3
 · subst h3
   refine Zkp w g h hT fun x hx=>?_
   unfold allP at hx
   rcases List.mem_append.1 hx with hx | hx
   · obtain ⟨y,hy,hxy⟩:=List.mem_flatMap.1 hx
     exact ht.key1 y hy x hxy
   obtain ⟨y,hy,hxy⟩:=List.mem_flatMap.1 hx
   exact ht.key2 y hy x hxy
 exact Zkr w g h k h1 h2 h3
end Go.Proofs.YtkopcinhbjimiaaGreatDoor
namespace Go.Proofs.YtkopcinhbjimiaaGreatDoor
open Go.RowKit
theorem Znv (w:World) (A:Option Addr) (n c:Nat) (fv:Value) (hn:n<=1):Calls Tryz.prog 151 #[.slice A n c,.int .i64 0,.int .i64 n,fv] w fun e w'=>e=.returned (.tuple #[])/\w'=w:=by
 go_enter Tryz.func151,Tryz.ntmps151
 go_wp2_with fail
 go_loopg [8] 0 (fun gh s8 wr=>s8=.int .i64 1/\wr=w)
 case atStart=>exact ⟨rfl,rfl⟩
 obtain ⟨rfl,rfl⟩:=hrel
 have h1:¬ (1:Int)<n:=by omega
 go_wp2
 go_end0
 exact ⟨rfl,rfl⟩
theorem Zmr (w:World) (A:Option Addr) (n c:Nat) (fv:Value) (hn:n<=1):Calls Tryz.prog 112 #[.slice A n c,.int .i64 n,fv] w fun e w'=>e=.returned (.tuple #[])/\w'=w:=by
 have h20:¬ (20:Int)<=(n:Int):=by omega
 have h21:¬ (20:Int)<(n:Int):=by omega
 go_enter Tryz.func112,Tryz.ntmps112
 go_wp2_with fail
 go_loopg [7,8] 0 (fun gh s7 s8 wr=>s7=.int .i64 0/\s8=.int .i64 20/\wr=w)
 case atStart=>exact ⟨rfl,rfl,rfl⟩
 obtain ⟨rfl,rfl,rfl⟩:=hrel
 go_wp2_with fail
 refine (Znv _ A n c fv hn).mono ?_
 rintro e w2 ⟨rfl,rfl⟩
 go_wp2_with fail
 go_loopg [6,7,8,9] 0 (fun gh s6 s7 s8 s9 wr=>s6=.int .i64 20/\wr=w2)
 case atStart=>exact ⟨rfl,rfl⟩
 obtain ⟨rfl,rfl⟩:=hrel
 go_wp2
 go_end0
 exact ⟨rfl,rfl⟩
theorem Zjn (w:World) (A:Option Addr) (n c:Nat) (fv:Value) (hn:n<=1):Calls Tryz.prog 68 #[.slice A n c,fv] w fun e w'=>e=.returned (.tuple #[])/\w'=w:=by
 go_enter Tryz.func68,Tryz.ntmps68
 go_wp2_with fail
 refine (Zmr _ A n c fv hn).mono ?_
 rintro e w2 ⟨rfl,rfl⟩
 go_wp2
 go_end0
 exact ⟨rfl,rfl⟩
theorem ZoP (w:World) (A:Option Addr) (n c:Nat) (fv:Value) (hn:n<=1):Calls Tryz.prog 153 #[.slice A n c,.int .i64 0,.int .i64 n,fv] w fun e w'=>e=.returned (.tuple #[])/\w'=w:=by
 go_enter Tryz.func153,Tryz.ntmps153
 go_wp2_with fail
 go_loopg [8] 0 (fun gh s8 wr=>s8=.int .i64 1/\wr=w)
 case atStart=>exact ⟨rfl,rfl⟩
 obtain ⟨rfl,rfl⟩:=hrel
 have h1:¬ (1:Int)<n:=by omega
 go_wp2
 go_end0
 exact ⟨rfl,rfl⟩
theorem Znw (w:World) (A:Option Addr) (n c:Nat) (fv:Value) (hn:n<=1):Calls Tryz.prog 114 #[.slice A n c,.int .i64 n,fv] w fun e w'=>e=.returned (.tuple #[])/\w'=w:=by
 have h20:¬ (20:Int)<=(n:Int):=by omega
 have h21:¬ (20:Int)<(n:Int):=by omega
 go_enter Tryz.func114,Tryz.ntmps114
 go_wp2_with fail
 go_loopg [7,8] 0 (fun gh s7 s8 wr=>s7=.int .i64 0/\s8=.int .i64 20/\wr=w)
 case atStart=>exact ⟨rfl,rfl,rfl⟩
 obtain ⟨rfl,rfl,rfl⟩:=hrel
 go_wp2_with fail
 refine (ZoP _ A n c fv hn).mono ?_
 rintro e w2 ⟨rfl,rfl⟩
 go_wp2_with fail
 go_loopg [6,7,8,9] 0 (fun gh s6 s7 s8 s9 wr=>s6=.int .i64 20/\wr=w2)
 case atStart=>exact ⟨rfl,rfl⟩
 obtain ⟨rfl,rfl⟩:=hrel
 go_wp2
 go_end0
 exact ⟨rfl,rfl⟩
theorem Zks (w:World) (A:Option Addr) (n c:Nat) (fv:Value) (hn:n<=1):Calls Tryz.prog 71 #[.slice A n c,fv] w fun e w'=>e=.returned (.tuple #[])/\w'=w:=by
 go_enter Tryz.func71,Tryz.ntmps71
 go_wp2_with fail
 refine (Znw _ A n c fv hn).mono ?_
 rintro e w2 ⟨rfl,rfl⟩
 go_wp2
 go_end0
 exact ⟨rfl,rfl⟩
theorem Znx (w:World) (A:Option Addr) (n c:Nat) (fv:Value) (hn:n<=1):Calls Tryz.prog 179 #[.slice A n c,.int .i64 0,.int .i64 n,fv] w fun e w'=>e=.returned (.tuple #[])/\w'=w:=by
 go_enter Tryz.func179,Tryz.ntmps179
 go_wp2_with fail
 go_loopg [8] 0 (fun gh s8 wr=>s8=.int .i64 1/\wr=w)
 case atStart=>exact ⟨rfl,rfl⟩
 obtain ⟨rfl,rfl⟩:=hrel
 have h1:¬ (1:Int)<n:=by omega
 go_wp2
 go_end0
 exact ⟨rfl,rfl⟩
theorem Zms (w:World) (A:Option Addr) (n c:Nat) (fv:Value) (hn:n<=1):Calls Tryz.prog 149 #[.slice A n c,.int .i64 n,fv] w fun e w'=>e=.returned (.tuple #[])/\w'=w:=by
 have h20:¬ (20:Int)<=(n:Int):=by omega
 have h21:¬ (20:Int)<(n:Int):=by omega
 go_enter Tryz.func149,Tryz.ntmps149
 go_wp2_with fail
 go_loopg [7,8] 0 (fun gh s7 s8 wr=>s7=.int .i64 0/\s8=.int .i64 20/\wr=w)
 case atStart=>exact ⟨rfl,rfl,rfl⟩
 obtain ⟨rfl,rfl,rfl⟩:=hrel
 go_wp2_with fail
 refine (Znx _ A n c fv hn).mono ?_
 rintro e w2 ⟨rfl,rfl⟩
 go_wp2_with fail
 go_loopg [6,7,8,9] 0 (fun gh s6 s7 s8 s9 wr=>s6=.int .i64 20/\wr=w2)
 case atStart=>exact ⟨rfl,rfl⟩
 obtain ⟨rfl,rfl⟩:=hrel
 go_wp2
 go_end0
 exact ⟨rfl,rfl⟩
theorem Zjo (w:World) (A:Option Addr) (n c:Nat) (fv:Value) (hn:n<=1):Calls Tryz.prog 109 #[.slice A n c,fv] w fun e w'=>e=.returned (.tuple #[])/\w'=w:=by
 go_enter Tryz.func109,Tryz.ntmps109
 go_wp2_with fail
 refine (Zms _ A n c fv hn).mono ?_
 rintro e w2 ⟨rfl,rfl⟩
 go_wp2
 go_end0
 exact ⟨rfl,rfl⟩
theorem ZaM {w:World} {B k n g:Nat} {e:TypeId} {v a b:Value} {xs:List Value} (h:w.ownsRow B e k v n xs) (hg:v.ownBlock≠some g):((w.setCell ⟨g,0,none⟩ a).setCell ⟨g,1,none⟩ b).ownsRow B e k v n xs :=
 Zam h (((Upd.refl (fun x=>x=g) w).put1 (i:=0) a).put1 (i:=1) b) fun x hx hh=>hg (by rw [hx,hh])
theorem keepC {w1 wx:World} {g:Nat} {t:TypeId} {a b:Value} (hb:Hid (Blk w1 g t #[a,b])) (h:Same w1 wx):Same w1 wx/\wx.cell? ⟨g,0,none⟩=some a/\wx.cell? ⟨g,1,none⟩=some b:=⟨h,(hb.out.same h).cell 0,(hb.out.same h).cell 1⟩
theorem ZhH {s m:List ByteArray} (h:Srt s m):Zcv s (m.map fun x=>x.data.toList) where
 sorted:=by
  rw [List.pairwise_map]
  exact h.sorted.imp fun {a b} (hh:ltS a b)=>List.le_of_lt hh
 nodup:=by
  rw [List.nodup_iff_pairwise_ne,List.pairwise_map]
  refine h.sorted.imp fun {a b} (hh:ltS a b) e=>?_
  have h2:a.data.toList<b.data.toList:=hh
  rw [e] at h2
  exact List.lt_irrefl _ h2
 mem:=fun x=>by
  rw [List.mem_map,<-h.mem]
  constructor
  · rintro ⟨y,hy,rfl⟩
    simpa using hy
  intro hx
  exact ⟨_,hx,by simp⟩
theorem Zlz {s m:List ByteArray} {l:List (List UInt8)} (h:Zcv s l) (h':Srt s m):l.map strV=m.map Value.string/\l.length=m.length:=by
 rw [h.unique (ZhH h'),List.map_map,List.length_map]
 exact ⟨List.map_congr_left fun x _=>by simp [strV],rfl⟩
theorem ZoQ {F:Nat->Prop} (w0 w:World) (g:GR) (hs:Same w0 w) (h:RdG w0 F g) (ht:ZgG g) (k:Int) (hT:(Zaf g.dat k).length<=8796093022208) {m:List ByteArray} (hm:Srt (Zaf g.dat k) m) :
 Calls Tryz.prog 58 #[g.agg,.int .i64 k] w fun e w'=>∃ (A:Option Addr) (c:Nat),e=.returned (.slice A m.length c)/\Hid (w'.ownsRow w.heap.size 9 1 (.slice A m.length c) m.length (m.map Value.string))/\Same w w'/\Same w0 w':=by
 refine (Zmq w g (h.same hs) ht k hT).mono ?_
 rintro e w' ⟨v,l,rfl,h1,h2,h3⟩
 obtain ⟨h4,h5⟩:=Zlz h1 hm
 rw [h4,h5] at h2
 obtain ⟨A,c,rfl⟩:=Zac h2
 exact ⟨A,c,rfl,qH h2,h3,hs.same h3⟩
end Go.Proofs.YtkopcinhbjimiaaGreatDoor
