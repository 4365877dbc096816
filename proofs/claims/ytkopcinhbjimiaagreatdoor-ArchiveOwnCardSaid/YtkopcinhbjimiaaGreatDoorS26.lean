/- Texts that the claim leans on: walks and plain laws, function by function. -/
import Derived.Laws.IdiomStrings
import Derived.Test.YtkopcinhbjimiaaGreatDoorS09
import Derived.Test.YtkopcinhbjimiaaGreatDoorS25
set_option maxRecDepth 100000
set_option maxHeartbeats 16000000
namespace Go.Proofs.YtkopcinhbjimiaaGreatDoor
open Go.RowKit Go.Shelf
attribute [local go_sem] Oper.semAt_some
def FR.args (x:FR):Array Value:=#[.agg #[.int .i64 (x.type:Int),.slice x.A x.n x.c]]
structure FrAt (L:List GFr) (pre:List FR) (x:FR) (W:World):Prop where
 at_:L[pre.length]?=some x.dat
 row:Bytes W (TyB W 0) x.A x.n x.c x.data
 type:x.type<=255
 le:x.n<=1048576
theorem OwnB.tyb {w:World} {B n c:Nat} {A:Option Addr} {bs:List UInt8} (hn:bs.length=n) (h:OwnB w B (.slice A n c) bs):Bytes w (TyB w 0) A n c bs :=
 Row.mono (Zau hn h) fun b hl hb=>⟨Nat.zero_le _,hl,by
  obtain ⟨cs,h1⟩:=Zaq h (g:=b) (by have h9:A=some ⟨b,0,none⟩:=hb.1;rw [h9];rfl)
  exact ⟨cs,_,h1⟩⟩
theorem ZpO (g:Zak):(frs g)[0]?=some ⟨1,[0,1]⟩:=rfl
theorem ZpP {g:Zak} {i:Nat} {x:ZaO} (h:g.nodes[i]?=some x):(frs g)[1+i]?=some ⟨2,Zbr x⟩:=by
 unfold frs
 rw [Nat.add_comm,List.getElem?_cons_succ,List.getElem?_append_left (by have:=(List.getElem?_eq_some_iff.1 h).1;simpa using this),List.getElem?_map,h]
 rfl
theorem ZpQ {g:Zak} {i:Nat} {x:GRel} (h:g.rels[i]?=some x):(frs g)[1+g.nodes.length+i]?=some ⟨3,Zbx x⟩:=by
 unfold frs
 rw [show 1+g.nodes.length+i=(g.nodes.length+i)+1 by omega,List.getElem?_cons_succ,List.getElem?_append_right (by simp),List.length_map,Nat.add_sub_cancel_left,List.getElem?_map,h]
 rfl
theorem ZnK (g:Zak):(frs g).length=1+g.nodes.length+g.rels.length:=by
 unfold frs
 simp
 omega
theorem Zfm {α β:Type} {f:α->β} {L:List β} {pre:List α} {k:Nat} {x:α} (h:pre.map f=L.take k) (hx:L[k]?=some (f x)):(pre++[x]).map f=L.take (k+1):=by
 rw [List.map_append,h,List.take_add_one,hx]
 rfl
theorem ZkF {α β:Type} {f:α->β} {L:List β} {pre:List α} {k:Nat} (h:pre.map f=L.take k) (hk:k<=L.length):pre.length=k:=by
 have h1:=congrArg List.length h
 rw [List.length_map,List.length_take] at h1
 omega
theorem Zmx (n:Nat) (hn:1<=n) (w:World) (B0 gB:Nat) (g:GR) (hR:RdG w (fun b=>b<B0) g) (hRt:Zce g.dat) (hz:ZbJ g)
 (hB:Blk w gB 26 #[.slice g.AN g.nN g.cN,.slice g.AR g.nR g.cR]) (U:TypeId->Prop) (hU:¬ U 26) :
 SeqR (fun _=>False) Fence.wide n Tryz.prog 74 #[.pointer (some ⟨gB,0,none⟩)] FR.args (fun _ W W'=>Upd (ZaD U B0 W) W W') (FrAt (frs g.dat))
  (fun xs=>xs.map FR.dat=frs g.dat) (fun pre=>∃ k,pre.map FR.dat=(frs g.dat).take k) w:=fun l J Jx W hW hJ hJx hY h0=>by
 obtain ⟨ns,AN,nN,cN,rs,AR,nR,cR⟩:=g
 have hs0:Same w W:=Same.of_below hW
 have HRG:=qH (hR.same hs0)
 have HB:=qH (hB.same hs0)
 have HRt:=qH hRt
 have HZ:=qH hz
 have HJ:=qH hJ
 have HY:=qH hY
 have H0:=qH h0
 have hnn:nN<=1024:=by have h1:=hRt.nN;have h2:ns.length=nN:=hR.nodes.len;simp only [GR.dat,List.length_map] at h1;omega
 have hnr:nR<=2048:=by have h1:=hRt.nR;have h2:rs.length=nR:=hR.rels.len;simp only [GR.dat,List.length_map] at h1;omega
 have HLN:Hid (ns.length=nN):=qH hR.nodes.len
 have HLR:Hid (rs.length=nR):=qH hR.rels.len
 have HFL:Hid ((frs (GR.dat ⟨ns,AN,nN,cN,rs,AR,nR,cR⟩)).length=1+nN+nR):=qH (by rw [ZnK];simp [GR.dat,HLN.out,HLR.out])
 have HLD:Hid ((GR.dat ⟨ns,AN,nN,cN,rs,AR,nR,cR⟩).nodes.length=nN):=qH (by simp [GR.dat,HLN.out])
 have HNA:Hid (∀ i x,ns[i]?=some x->(frs (GR.dat ⟨ns,AN,nN,cN,rs,AR,nR,cR⟩))[1+i]?=some ⟨2,Zbr x.dat⟩):=qH fun i x hx=>ZpP (by simp [GR.dat,hx])
 have HRA:Hid (∀ i x,rs[i]?=some x->(frs (GR.dat ⟨ns,AN,nN,cN,rs,AR,nR,cR⟩))[1+nN+i]?=some ⟨3,Zbx x.dat⟩):=qH fun i x hx=>by
  have h1:=ZpQ (g:=GR.dat ⟨ns,AN,nN,cN,rs,AR,nR,cR⟩) (i:=i) (x:=x.dat) (by simp [GR.dat,hx])
  rwa [HLD.out] at h1
 have HF0:Hid ((frs (GR.dat ⟨ns,AN,nN,cN,rs,AR,nR,cR⟩))[0]?=some ⟨1,[0,1]⟩):=qH (ZpO _)
 obtain ⟨L,hL⟩:∃ L,frs (GR.dat ⟨ns,AN,nN,cN,rs,AR,nR,cR⟩)=L:=⟨_,rfl⟩
 rw [hL] at HFL HNA HRA HF0 HY ⊢
 have HNd:=qH fun x (hx:x∈ns)=>hRt.nd (x:=x.dat) (List.mem_map_of_mem hx)
 have HRl:=qH fun x (hx:x∈rs)=>hRt.rl (x:=x.dat) (List.mem_map_of_mem hx)
 have s1:=(Upd.refl (fun _=>False) W).alloc (.cells #[.int .u8 0,.int .u8 1] 5)
 have hb1:Bytes (W.alloc (.cells #[.int .u8 0,.int .u8 1] 5)) (TyB (W.alloc (.cells #[.int .u8 0,.int .u8 1] 5)) 0) (some ⟨W.heap.size,0,none⟩) 2 2 [0,1] :=
  Row.mono (Row.of_blk (Blk.new W 5 #[.int .u8 0,.int .u8 1]) rfl (Nat.le_refl _) (by simp [maxLen])) fun b hl hb=>⟨Nat.zero_le _,hl,by subst hb;exact ⟨_,_,Blk.new W _ _⟩⟩
 have HY1:=qH (hY [] ⟨1,[0,1],some ⟨W.heap.size,0,none⟩,2,2⟩ _ (hJ _ _ _ h0 s1.it) ⟨by rw [hL];exact HF0.out,hb1,(show 1<=255 by decide),(show 2<=1048576 by decide)⟩)
 have HR1:=qH (HRG.out.same s1)
 have HB1:=qH (HB.out.same s1)
 clear hR hRt hz hB hW hs0 hJ hY h0 hJx hL s1 hb1 HRG HB
 refine callsIn_wide.2 ?_
 go_enter Tryz.func74,Tryz.ntmps74
 refine (wpIn_wide (n:=n)).1 ?_
 obtain ⟨fn,tmps,assign,body,hy,hR⟩:=HY1.out
 have hy1:(Instr.yield l #[.agg #[.int .i64 1,.slice (some ⟨W.heap.size,0,none⟩) 2 2]]).run Tryz.prog (W.alloc (.cells #[.int .u8 0,.int .u8 1] 5))=.ok (.round l fn tmps assign body) (W.alloc (.cells #[.int .u8 0,.int .u8 1] 5)):=hy
 clear hy HY1
 gi_wp2
 refine hR.mono ?_
 clear hy1 hR
 rintro e W1 ⟨hkf,h⟩
 rcases h with ⟨rfl,hJ1,hk1⟩ | ⟨rfl,hJx1⟩
 case inr =>
  gi_wp2
  refine bodyPost_ret (results_none rfl _ _ _) rfl ?_
  exact ⟨⟨_,rfl⟩,.inr ⟨_,⟨1,Zfm (f:=FR.dat) (pre:=[]) (k:=0) (x:=⟨1,[0,1],some ⟨W.heap.size,0,none⟩,2,2⟩) rfl HF0.out⟩,hJx1⟩⟩
 have HP1:Hid ([(⟨1,[0,1],some ⟨W.heap.size,0,none⟩,2,2⟩:FR)].map FR.dat=L.take 1):=qH (Zfm (f:=FR.dat) (pre:=[]) (k:=0) (x:=⟨1,[0,1],some ⟨W.heap.size,0,none⟩,2,2⟩) rfl HF0.out)
 have HJ1:=qH hJ1
 have HW1:=qH (show W.heap.size<=W1.heap.size from Nat.le_trans (by rw [World.size_alloc];omega) hk1.size)
 replace HR1:=qH (HR1.out.upd hk1 fun b hb hs=>by have:=hs.1;omega)
 replace HB1:=qH (HB1.out.it hk1 hU)
 have q0:W1.cell? ⟨gB,0,none⟩=some (.slice AN nN cN):=HB1.out.cell 0
 clear hJ1 hk1 hkf
 gi_wp2_with fail
 clear q0
 refine wpIn_wide.2 ?_
 go_loopg [15] nN (fun gh s wr=>∃ (i:Nat) (pre:List FR),nN-i=gh/\i<=nN/\s=.int .i64 (i:Int)/\Hid (pre.map FR.dat=L.take (1+i))/\Hid (J pre wr)/\Hid (RdG wr (fun b=>b<B0) ⟨ns,AN,nN,cN,rs,AR,nR,cR⟩)/\Hid (Blk wr gB 26 #[.slice AN nN cN,.slice AR nR cR])/\Hid (W.heap.size<=wr.heap.size))
 case atStart=>exact ⟨0,_,rfl,Nat.zero_le _,rfl,HP1,HJ1,HR1,HB1,HW1⟩
 clear HP1 HJ1 HR1 HB1 HW1
 obtain ⟨i,pre,rfl,hi,rfl,KP,KJ,HRw,KB,KW⟩:=hrel
 by_cases hin:i<nN
 case pos =>
  have j1:(i:Int)<(nN:Int):=by omega
  have hwi:IntKind.i64.wrap ((i:Int)+1)=((i+1:Nat):Int):=by rw [IntKind.wrap_i64];omega
  obtain ⟨b,o,x,hA,hb,hF,hx,hm,x0,x1,x2⟩:=HRw.out.nodes.at_ hin
  simp only at hA
  subst hA
  have hwr:=HNd.out x hm
  have hzx:=HZ.out.ns x hm
  have HWR:=qH hwr.2
  have HX:=qH (HNA.out i x hx)
  have HSP:=qH (fun wx (hs:Same wr wx)=>Zir wx x ((HRw.out.nodes.lab x hm).same hs) ((HRw.out.nodes.pro x hm).same hs) hwr.1 hzx.pro.fit hwr.2)
  clear hwr hzx hm hx
  obtain ⟨xi,xl,xAL,xnL,xcL,xp,xAP,xnP,xcP⟩:=x
  simp only at x0 x1 x2 HSP
  go_upto_region 4 with fail
  have HZR:=qH (Nat.le_refl wr.heap.size)
  generalize hgn:wr.heap.size=gn at HSP ⊢
  have HKB:Hid (Blk (wr.alloc (.cells #[.int .i64 xi,.slice xAL xnL xcL,.slice xAP xnP xcP] 43)) gn 43 #[.int .i64 xi,.slice xAL xnL xcL,.slice xAP xnP xcP]):=qH (by rw [<- hgn];exact Blk.new _ _ _)
  have HSB:Hid (Same wr (wr.alloc (.cells #[.int .i64 xi,.slice xAL xnL xcL,.slice xAP xnP xcP] 43))):=qH (Upd.refl _ wr).alloc _
  generalize (wr.alloc (.cells #[.int .i64 xi,.slice xAL xnL xcL,.slice xAP xnP xcP] 43))=wB at *
  have d0:wB.cell? ⟨gn,0,none⟩=some (.int .i64 xi):=HKB.out.cell 0
  have d1:wB.cell? ⟨gn,1,none⟩=some (.slice xAL xnL xcL):=HKB.out.cell 1
  have d2:wB.cell? ⟨gn,2,none⟩=some (.slice xAP xnP xcP):=HKB.out.cell 2
  have HC:=qH (HSP.out wB HSB.out)
  have HRB:=qH (HRw.out.same HSB.out)
  have HBB:=qH (KB.out.same HSB.out)
  obtain ⟨D,hD⟩:∃ D,Zbr (ND.dat ⟨xi,xl,xAL,xnL,xcL,xp,xAP,xnP,xcP⟩)=D:=⟨_,rfl⟩
  rw [hD] at HWR HX
  have hdl:D.length<=1048576:=HWR.out
  have HLT:=qH ((List.getElem?_eq_some_iff.1 HX.out).1)
  have hpl:pre.length=1+i:=ZkF KP.out (by have:=HLT.out;omega)
  have HPL:=qH hpl
  have HTK:=qH fun (y:FR) (hy:y.dat=⟨2,D⟩)=>Zfm (f:=FR.dat) (x:=y) KP.out (by rw [HX.out,hy])
  clear x0 x1 x2 hpl
  refine (wpIn_wide (n:=n)).1 ?_
  gi_wp2_with (refine ⟨trivial,?_⟩;gi_at_call 75;refine (callsIn_wide.2 HC.out).mono ?_;rintro e5 w5 ⟨v5,rfl,hO5,hs5⟩;obtain ⟨A7,c7,rfl⟩:=Zac hO5.out;rw [hD] at hO5 ⊢;have HO5:=qH hO5.out;have HS5:=qH (HSB.out.trans hs5 fun _ _ f=>f);have HRB5:=qH (HRB.out.same hs5);have HBB5:=qH (HBB.out.same hs5);clear hO5 hs5;obtain ⟨fn,tmps,assign,body,hy,hR⟩:=HY.out pre ⟨2,D,A7,D.length,c7⟩ w5 (HJ.out _ _ _ KJ.out (HS5.out.mono fun _ _ f=>f.elim)) ⟨by rw [HPL.out];exact HX.out,OwnB.tyb rfl HO5.out,(show 2<=255 by decide),hdl⟩;have hy1:(Instr.yield l #[.agg #[.int .i64 2,.slice A7 D.length c7]]).run Tryz.prog w5=.ok (.round l fn tmps assign body) w5:=hy;clear hy)
  refine hR.mono ?_
  clear hy1 hR
  rintro e W2 ⟨hkf,h⟩
  rcases h with ⟨rfl,hJ2,hk2⟩ | ⟨rfl,hJx2⟩
  case inr =>
   gi_wp2
   go_wp2_with fail
   refine bodyPost_ret (results_none rfl _ _ _) rfl ?_
   exact ⟨⟨_,rfl⟩,.inr ⟨_,⟨_,HTK.out _ rfl⟩,hJx2⟩⟩
  have HP2:=qH (HTK.out ⟨2,D,A7,D.length,c7⟩ rfl)
  have HJ2:=qH hJ2
  have HR2:=qH (HRB5.out.upd hk2 fun b hb hs=>by have:=hs.1;omega)
  have HB2:=qH (HBB5.out.it hk2 hU)
  have HW2:=qH (Nat.le_trans KW.out (Nat.le_trans HS5.out.size hk2.size))
  clear hJ2 hk2 hkf HRB5 HBB5 HO5 HRB HBB HSB HKB
  gi_wp2
  go_wp2_with fail
  go_roundg (nN-(i+1))
  case measure=>omega
  case rel=>exact ⟨i+1,_,rfl,by omega,by go_num,HP2,HJ2,HR2,HB2,HW2⟩
 obtain rfl:i=nN:=by omega
 clear hin hi
 generalize i=nN at *
 go_wp2_with fail
 refine wpIn_wide.2 ?_
 have q1:wr.cell? ⟨gB,1,none⟩=some (.slice AR nR cR):=KB.out.cell 1
 go_wp2_with fail
 clear q1
 generalize wr=wA at *
 go_loopg [29] nR (fun gh s wr=>∃ (i:Nat) (pre:List FR),nR-i=gh/\i<=nR/\s=.int .i64 (i:Int)/\Hid (pre.map FR.dat=L.take (1+nN+i))/\Hid (J pre wr)/\Hid (RdG wr (fun b=>b<B0) ⟨ns,AN,nN,cN,rs,AR,nR,cR⟩)/\Hid (Blk wr gB 26 #[.slice AN nN cN,.slice AR nR cR])/\Hid (W.heap.size<=wr.heap.size))
 case atStart=>exact ⟨0,pre,rfl,Nat.zero_le _,rfl,KP,KJ,HRw,KB,KW⟩
 clear KP KJ HRw KB KW
 obtain ⟨i,pre,rfl,hi,rfl,KP,KJ,HRw,KB,KW⟩:=hrel
 by_cases hin:i<nR
 case pos =>
  have j1:(i:Int)<(nR:Int):=by omega
  have hwi:IntKind.i64.wrap ((i:Int)+1)=((i+1:Nat):Int):=by rw [IntKind.wrap_i64];omega
  obtain ⟨b,o,x,hA,hb,hF,hx,hm,x0,x1,x2,x3,x4⟩:=HRw.out.rels.at_ hin
  simp only at hA
  subst hA
  have hwr:=HRl.out x hm
  have hzx:=HZ.out.rs x hm
  have HWR:=qH hwr.2
  have HX:=qH (HRA.out i x hx)
  have HSP:=qH (fun wx (hs:Same wr wx)=>Zjz wx x ((HRw.out.rels.pro x hm).same hs) hwr.1 hzx.pro.fit hwr.2)
  clear hwr hzx hm hx
  obtain ⟨xi,xt,xs,xd,xp,xAP,xnP,xcP⟩:=x
  simp only at x0 x1 x2 x3 x4 HSP
  go_upto_region 9 with fail
  have HZR:=qH (Nat.le_refl wr.heap.size)
  generalize hgn:wr.heap.size=gn at HSP ⊢
  have HKB:Hid (Blk (wr.alloc (.cells #[.int .i64 xi,.string xt,.int .i64 xs,.int .i64 xd,.slice xAP xnP xcP] 50)) gn 50 #[.int .i64 xi,.string xt,.int .i64 xs,.int .i64 xd,.slice xAP xnP xcP]):=qH (by rw [<- hgn];exact Blk.new _ _ _)
  have HSB:Hid (Same wr (wr.alloc (.cells #[.int .i64 xi,.string xt,.int .i64 xs,.int .i64 xd,.slice xAP xnP xcP] 50))):=qH (Upd.refl _ wr).alloc _
  generalize (wr.alloc (.cells #[.int .i64 xi,.string xt,.int .i64 xs,.int .i64 xd,.slice xAP xnP xcP] 50))=wB at *
  have d0:wB.cell? ⟨gn,0,none⟩=some (.int .i64 xi):=HKB.out.cell 0
  have d1:wB.cell? ⟨gn,1,none⟩=some (.string xt):=HKB.out.cell 1
  have d2:wB.cell? ⟨gn,2,none⟩=some (.int .i64 xs):=HKB.out.cell 2
  have d3:wB.cell? ⟨gn,3,none⟩=some (.int .i64 xd):=HKB.out.cell 3
  have d4:wB.cell? ⟨gn,4,none⟩=some (.slice xAP xnP xcP):=HKB.out.cell 4
  have HC:=qH (HSP.out wB HSB.out)
  have HRB:=qH (HRw.out.same HSB.out)
  have HBB:=qH (KB.out.same HSB.out)
  obtain ⟨D,hD⟩:∃ D,Zbx (RL.dat ⟨xi,xt,xs,xd,xp,xAP,xnP,xcP⟩)=D:=⟨_,rfl⟩
  rw [hD] at HWR HX
  have hdl:D.length<=1048576:=HWR.out
  have HLT:=qH ((List.getElem?_eq_some_iff.1 HX.out).1)
  have hpl:pre.length=1+nN+i:=ZkF KP.out (by have:=HLT.out;omega)
  have HPL:=qH hpl
  have HTK:=qH fun (y:FR) (hy:y.dat=⟨3,D⟩)=>Zfm (f:=FR.dat) (x:=y) KP.out (by rw [HX.out,hy])
  clear x0 x1 x2 x3 x4 hpl
  refine (wpIn_wide (n:=n)).1 ?_
  gi_wp2_with (refine ⟨trivial,?_⟩;gi_at_call 76;refine (callsIn_wide.2 HC.out).mono ?_;rintro e5 w5 ⟨v5,rfl,hO5,hs5⟩;obtain ⟨A7,c7,rfl⟩:=Zac hO5.out;rw [hD] at hO5 ⊢;have HO5:=qH hO5.out;have HS5:=qH (HSB.out.trans hs5 fun _ _ f=>f);have HRB5:=qH (HRB.out.same hs5);have HBB5:=qH (HBB.out.same hs5);clear hO5 hs5;obtain ⟨fn,tmps,assign,body,hy,hR⟩:=HY.out pre ⟨3,D,A7,D.length,c7⟩ w5 (HJ.out _ _ _ KJ.out (HS5.out.mono fun _ _ f=>f.elim)) ⟨by rw [HPL.out];exact HX.out,OwnB.tyb rfl HO5.out,(show 3<=255 by decide),hdl⟩;have hy1:(Instr.yield l #[.agg #[.int .i64 3,.slice A7 D.length c7]]).run Tryz.prog w5=.ok (.round l fn tmps assign body) w5:=hy;clear hy)
  refine hR.mono ?_
  clear hy1 hR
  rintro e W2 ⟨hkf,h⟩
  rcases h with ⟨rfl,hJ2,hk2⟩ | ⟨rfl,hJx2⟩
  case inr =>
   gi_wp2
   go_wp2_with fail
   refine bodyPost_ret (results_none rfl _ _ _) rfl ?_
   exact ⟨⟨_,rfl⟩,.inr ⟨_,⟨_,HTK.out _ rfl⟩,hJx2⟩⟩
  have HP2:=qH (HTK.out ⟨3,D,A7,D.length,c7⟩ rfl)
  have HJ2:=qH hJ2
  have HR2:=qH (HRB5.out.upd hk2 fun b hb hs=>by have:=hs.1;omega)
  have HB2:=qH (HBB5.out.it hk2 hU)
  have HW2:=qH (Nat.le_trans KW.out (Nat.le_trans HS5.out.size hk2.size))
  clear hJ2 hk2 hkf HRB5 HBB5 HO5 HRB HBB HSB HKB
  gi_wp2
  go_wp2_with fail
  go_roundg (nR-(i+1))
  case measure=>omega
  case rel=>exact ⟨i+1,_,rfl,by omega,by go_num,HP2,HJ2,HR2,HB2,HW2⟩
 obtain rfl:i=nR:=by omega
 go_wp2
 go_end0
 exact ⟨⟨_,rfl⟩,.inl ⟨pre,by rw [KP.out];exact List.take_of_length_le (by rw [HFL.out];exact Nat.le_refl _),KJ.out⟩⟩
end Go.Proofs.YtkopcinhbjimiaaGreatDoor
namespace Go.Proofs.YtkopcinhbjimiaaGreatDoor
open Go.RowKit
theorem ZcV {F:Nat->Prop} (w:World) (g:GR) (h:RdG w F g) (hf:GFit g) {T:Nat} (hT:g.dat.wt=T) (hs:T<=4294967295) (hn1:g.nN<=4294967295) (hn2:g.nR<=4294967295) (all:List UInt8) :
 Calls Tryz.prog 41 #[g.agg,.int .u32 ((crcS all).toNat:Int)] w fun e w'=>∃ v,e=.returned v/\Hid (OwnB w' w.heap.size v (ZaY g.nN g.nR T all))/\Same w w':=by
 rw [ZlL] at hT
 have hs0:=(Upd.refl (fun _=>False) w).alloc (.cells #[.slice g.AN g.nN g.cN,.slice g.AR g.nR g.cR] 26)
 have HB0:=qH (Blk.new w 26 #[.slice g.AN g.nN g.cN,.slice g.AR g.nR g.cR])
 have HR0:=qH ((h.mono (F':=fun b=>b<w.heap.size) fun b h _=>h).same hs0)
 have HF:=qH hf
 have HS0:=qH hs0
 have HZ0:=qH (show w.heap.size<(w.alloc (.cells #[.slice g.AN g.nN g.cN,.slice g.AR g.nR g.cR] 26)).heap.size by rw [World.size_alloc];omega)
 have HWT:=qH hT
 have HWL:=qH (show wsum (g.ns.flatMap ND.props)+wsum (g.rs.flatMap RL.props)<=4611686018427387904 by omega)
 obtain ⟨S,hS⟩:∃ S,crcS all=S:=⟨_,rfl⟩
 have HE:Hid (ZaY g.nN g.nR T all=beb 4 g.nN++beb 4 g.nR++beb 4 T++beb 4 S.toNat):=qH (by
  unfold ZaY
  rw [hS]
  simp only [List.append_assoc])
 rw [hS]
 have hS32:=S.isLt
 clear h hf hT hs0 hS
 obtain ⟨ns,AN,nN,cN,rs,AR,nR,cR⟩:=g
 simp only at hn1 hn2 HB0 HS0 HZ0 HE ⊢
 go_enter Tryz.func41,Tryz.ntmps41
 go_wp2_with fail
 generalize w.alloc (.cells #[.slice AN nN cN,.slice AR nR cR] 26)=w1 at *
 generalize hg:w.heap.size=g at *
 refine (ZbK w1).mono ?_
 rintro e w2 ⟨r,rfl,hw2,hs2⟩
 obtain ⟨v2,hv2⟩:=hw2.open
 have HV2:=qH hv2
 have HS2:=qH (HS0.out.same hs2)
 have HB2:=qH (HB0.out.same hs2)
 have HR2:=qH (HR0.out.same hs2)
 have HO2:=qH (WOn.of hv2)
 have HZ2:=qH hs2.size
 have HUB:=qH fun (bs:List UInt8) (wx:World) (h:WOn w2 w1.heap.size r v2 bs wx)=>HB2.out.upd (h.upd2 HV2.out) (by have:=HZ0.out;omega)
 clear hw2 hs2 hv2 HB0 HR0
 have c0:=HB2.out.cell 0
 go_wp2_with fail
 refine (HO2.out.call fun v3 h3=>ZfX h3 4 nN (by decide) (by simp)).mono ?_
 rintro e w3 ⟨rfl,hw3⟩
 have HO3:=qH hw3
 have c1:w3.cell? ⟨g,1,none⟩=some (.slice AR nR cR):=(HUB.out _ _ hw3).cell 1
 clear c0 hw3 HO2
 go_wp2_with fail
 refine (HO3.out.call fun v3 h3=>ZfX h3 4 nR (by decide) (by simp [Zab])).mono ?_
 rintro e w4 ⟨rfl,hw4⟩
 have HO4:=qH hw4
 have c0:w4.cell? ⟨g,0,none⟩=some (.slice AN nN cN):=(HUB.out _ _ hw4).cell 0
 have c1':w4.cell? ⟨g,1,none⟩=some (.slice AR nR cR):=(HUB.out _ _ hw4).cell 1
 have HR4:=qH (HR2.out.upd (hw4.upd2 HV2.out) fun b hb hs=>by have:=HZ0.out;omega)
 clear c1 hw4 HO3
 go_wp2_with fail
 refine (ZfE w4 ⟨ns,AN,nN,cN,rs,AR,nR,cR⟩ HR4.out HF.out HWL.out).mono ?_
 rintro e w5 ⟨rfl,hs5⟩
 rw [HWT.out]
 have HO5:=qH (HO4.out.same hs5)
 clear c0 c1' hs5 HO4 HR4
 go_wp2_with fail
 refine (HO5.out.call fun v3 h3=>ZfX h3 4 T (by decide) (by simp [Zab])).mono ?_
 rintro e w6 ⟨rfl,hw6⟩
 have HO6:=qH hw6
 clear hw6 HO5
 go_wp2_with fail
 refine (HO6.out.call fun v3 h3=>ZfX h3 4 S.toNat (by decide) (by simp [Zab])).mono ?_
 rintro e w7 ⟨rfl,hw7⟩
 have HO7:Hid (WOn w2 w1.heap.size r v2 (beb 4 nN++beb 4 nR++beb 4 T++beb 4 S.toNat) w7):=qH hw7
 clear hw7
 obtain ⟨⟨v7,hW7,-⟩,hU7⟩:=HO7.out
 go_wp2_with fail
 refine (ZbB hW7.wtr (by simp [Zab])).mono ?_
 rintro e w8 ⟨v8,rfl,hO8,hs8⟩
 have hz6:=hU7.size
 have hz2:=HZ2.out
 have hz0:=HZ0.out
 have hS:Same w w8:=HS2.out.trans ((HO7.out.upd2 HV2.out).same hs8) fun k hk hs=>by omega
 have HO8:=qH (Zad (base':=w.heap.size) hO8 (by omega))
 have HS8:=qH hS
 clear hO8 hs8 hW7 hU7 hS
 go_wp2
 go_ret
 exact ⟨_,rfl,qH (by rw [<- hg,HE.out];exact HO8.out),HS8.out⟩
theorem Grew.ext {w w1 w2:World} {base k n:Nat} {e:TypeId} {v v':Value} {xs:List Value} (h:Grew w base e k v n xs v' w1) (hu:Same w1 w2):Grew w base e k v n xs v' w2:=⟨Zaa h.own hu,h.upd.same hu,h.block⟩
theorem Zbw.ext {w w1 w2:World} {B:Nat} {v v':Value} {bs:List UInt8} (h:Zbw w B v bs v' w1) (hu:Same w1 w2):Zbw w B v bs v' w2:=Grew.ext h hu
theorem Zbw.next {w w1 w2:World} {B:Nat} {v v1 v2:Value} {bs bs1:List UInt8} (h:Zbw w B v bs v1 w1) (h':Zbw w1 B v1 bs1 v2 w2):Zbw w B v bs1 v2 w2:=Grew.trans h h'
theorem ZoW (w:World) (s:ByteArray) (hs:s.size<=140737488355328):∃ c w',(convert 9 28 (.string s)).run Tryz.prog w=.ok (.slice (some ⟨w.heap.size,0,none⟩) s.size c) w'/\Bytes w' (fun b=>b=w.heap.size) (some ⟨w.heap.size,0,none⟩) s.size c s.data.toList/\Same w w':=by
 refine ⟨_,_,run_bytes_of_string w 9 28 5 s Tryz.underlying9 Tryz.underlying28 Tryz.underlying5,?_,((Upd.refl _ w).drew).alloc _⟩
 have hmx:=grownCap_le_maxLen w s.size 0 5 (by unfold maxLen;omega)
 have hge:=grownCap_ge w s.size 0 5
 generalize grownCap w s.size 0 5=c at *
 refine ⟨by rw [List.length_map,Zbd];omega,hge,hmx,(by rintro ⟨⟩),?_⟩
 rintro a ha
 injection ha with ha
 subst ha
 refine ⟨rfl,by simp,rfl,fun i u hu=>?_⟩
 rw [List.getElem?_map] at hu
 obtain ⟨x,hx,rfl⟩:=Option.map_eq_some_iff.1 hu
 have hi:i<s.data.size:=by
  have:=(List.getElem?_eq_some_iff.1 hx).1
  simpa using this
 have hb:(w.drew.alloc (.cells (bytesRow s c) 5 ((bytesRow s c).size,(bytesRow s c).size+1))).heap[w.heap.size]?=some (.cells (bytesRow s c) 5 ((bytesRow s c).size,(bytesRow s c).size+1)):=heap_alloc_new w.drew _
 rw [cell_of_row _ _ _ _ _ _ hb]
 unfold bytesRow
 simp only [Nat.zero_add]
 rw [Array.getElem?_append_left (by simpa using hi),Array.getElem?_map]
 rw [<- Array.getElem?_toList,hx]
 rfl
theorem Zfn {B:Nat} {v:Value} {bs:List UInt8} (w:World) (hv:OwnB w B v bs) (hB:B<=w.heap.size) (s:ByteArray) (hs:s.size<=255) (hl:bs.length<=70368744177664) :
 Calls Tryz.prog 84 #[v,.string s] w fun e w'=>∃ v',e=.returned v'/\Zbw w B v (bs++Zap s) v' w':=by
 have HV:=qH hv
 have HBT:=qH (Zgd s.size hs)
 clear hv
 go_enter Tryz.func84,Tryz.ntmps84
 go_wp2_with (at_builtin;go_must (refine Zag rfl (.tmp 5) (.tmp 9) _ _ rfl B _ _ _ _ Tryz.underlying28 ZaR rfl v _ _ rfl (HV.out.alloc _) rfl (Zal Tryz.underlying28 (Row.one _ _ _) (by simp [Value.oneCell'])) (by unfold maxLen;omega) (by omega) (by simp;omega) ?_);intro v' w1 hg;have HG:=qH hg;clear hg;obtain ⟨c2,w2,hcv,hby,hsm⟩:=ZoW w1 s (by omega);have HY:=qH hby;have HSM:=qH hsm;clear hby hsm)
 have HG1:Hid (Zbw w B v (bs++beb 1 s.size) v' w2):=qH (by
  unfold Zbw
  rw [List.length_append,Zab,List.map_append,HBT.out]
  exact (((Grew.refl HV.out).alloc _).trans HG.out).ext HSM.out)
 have HLt:=qH fun b (hb:v'.ownBlock=some b)=>(HG.out.own.lt b hb).2
 have hz:=HG1.out.size
 clear HG
 refine (Zbt w2 HG1.out.own (by omega) HY.out (fun b hb e=>by have:=HLt.out b e;omega) (by rw [List.length_append,Zab];omega)).mono ?_
 rintro e w3 ⟨v3,rfl,hg3⟩
 have HG3:=qH hg3
 clear hg3
 go_wp2
 go_ret
 refine ⟨_,rfl,?_⟩
 have h1:=HG1.out.next HG3.out
 unfold Zap
 rw [List.append_assoc] at h1
 exact h1
theorem ZoX (n:Nat) (w0 w:World) (hs:Same w0 w) (hn:n<18446744073709551616) :
 Calls Tryz.prog 83 #[.int .i64 2,.int .u64 (n:Int)] w fun e w'=>∃ A c,e=.returned (.slice A 2 c)/\Hid (OwnB w' w.heap.size (.slice A 2 c) (beb 2 n))/\Same w w'/\Same w0 w':=Zne 2 n w0 w hs (by decide) hn
theorem ZgV {F:Nat->Prop} {B:Nat} {v:Value} {bs:List UInt8} {A:Option Addr} {n c:Nat} {ps:List PR} (w:World) (hv:OwnB w B v bs) (hB:B<=w.heap.size) (hp:RdPs w F A n c ps) (hF:∀ b,F b->b<B) (hx:∀ x∈ps,x.dat.Wr) (hf:Zel ps) (hn:n<=255) (hl:bs.length+(ZbD (ps.map PR.dat)).length<=70368744177664) :
 Calls Tryz.prog 85 #[v,.slice A n c] w fun e w'=>∃ v',e=.returned v'/\Zbw w B v (bs++ZbD (ps.map PR.dat)) v' w':=by
 have HR:=qH hp
 have HX:=qH hx
 have HFi:=qH hf
 have HF:=qH hF
 have HL:=qH hp.len
 have hmx:=hp.row.max
 have hle:=hp.row.le
 have hl':bs.length+1+((ps.map PR.dat).flatMap Zbj).length<=70368744177664:=by
  have e:(ZbD (ps.map PR.dat)).length=1+((ps.map PR.dat).flatMap Zbj).length:=by unfold ZbD;rw [List.length_append,Zab]
  omega
 have HLen:=qH hl'
 have HV:=qH hv
 have HBT:=qH (Zgd n hn)
 have hb0:bs.length<=70368744177664:=by omega
 unfold maxLen at hmx
 clear hv hp hx hf hF hl hl'
 go_enter Tryz.func85,Tryz.ntmps85
 go_wp2_with (at_builtin;go_must (refine Zag rfl (.tmp 7) (.tmp 11) _ _ rfl B _ _ _ _ Tryz.underlying28 ZaR rfl v _ _ rfl (HV.out.alloc _) rfl (Zal Tryz.underlying28 (Row.one _ _ _) (by simp [Value.oneCell'])) (by unfold maxLen;omega) (by omega) (by simp;omega) ?_);intro v' w1 hg;have HG:=qH hg;clear hg)
 have HG1:Hid (Zbw w B v (bs++beb 1 n) v' w1):=qH (by
  unfold Zbw
  rw [List.length_append,Zab,List.map_append,HBT.out]
  exact ((Grew.refl HV.out).alloc _).trans HG.out)
 clear HG
 go_loopg [5,0] n (fun gh ix y wr=>∃ i:Nat,n-i=gh/\i<=n/\ix=.int .i64 i/\Hid (Zbw w B v (bs++beb 1 n++((ps.take i).map PR.dat).flatMap Zbj) y wr))
 case atStart=>exact ⟨0,rfl,Nat.zero_le _,rfl,qH (by simpa using HG1.out)⟩
 obtain ⟨i,rfl,hi,rfl,KG⟩:=hrel
 by_cases hlt:i<n
 · have HUr:=qH (KG.out.upd.mono (S':=fun b=>B<=b) fun b _ hb=>(HV.out.lt b hb).1)
   have HRw:=qH (HR.out.upd HUr.out fun b hb hs=>by have:=HF.out b hb;omega)
   obtain ⟨b,o,x,rfl,hb,hbF,hxi,hxm,r0,r1,r2,r3,r4,r5⟩:=HRw.out.at_ hlt
   have HV0:=qH (HRw.out.val x hxm)
   have HX1:=qH (HFi.out x hxm).1
   have HX2:=qH (HFi.out x hxm).2
   have HWr:=qH (HX.out x hxm)
   have HT:=qH (Zee PR.dat Zbj hxi)
   have HTl:=qH (ZgU PR.dat Zbj ps (i+1))
   obtain ⟨kx,⟨x0,x1,x2,x3,x4⟩,X1,a1,b1,X2,a2,b2⟩:=x
   simp only at r0 r1 r2 r3 r4 r5
   have hks:kx.size<=255:=HWr.1
   have hEl:(enc ⟨x0,x1,x2,x3,x4⟩).length<=65535:=HWr.2.2.2
   have hsz:=HUr.out.size
   have hbB:b<B:=HF.out b hbF
   obtain ⟨pre,hpre⟩:∃ pre,pre=bs++beb 1 n++((ps.take i).map PR.dat).flatMap Zbj:=⟨_,rfl⟩
   have hpl:pre.length+(Zbj (PR.dat ⟨kx,⟨x0,x1,x2,x3,x4⟩,X1,a1,b1,X2,a2,b2⟩)).length<=70368744177664:=by
    have h1:=HTl.out
    have h2:=HLen.out
    rw [HT.out,List.length_append] at h1
    rw [hpre,List.length_append,List.length_append,Zab]
    omega
   have HPL:Hid (pre.length+(1+kx.size+(2+(enc ⟨x0,x1,x2,x3,x4⟩).length))<=70368744177664):=qH (by
    have e:(Zbj (PR.dat ⟨kx,⟨x0,x1,x2,x3,x4⟩,X1,a1,b1,X2,a2,b2⟩)).length=1+kx.size+(2+(enc ⟨x0,x1,x2,x3,x4⟩).length):=by
     unfold Zbj PR.dat
     rw [List.length_append,List.length_append,Zbn,Zab]
    omega)
   rw [<- hpre] at KG
   have HE:Hid (pre++Zap kx++beb 2 (enc ⟨x0,x1,x2,x3,x4⟩).length++enc ⟨x0,x1,x2,x3,x4⟩=bs++beb 1 n++((ps.take (i+1)).map PR.dat).flatMap Zbj):=qH (by
    rw [HT.out,hpre]
    unfold Zbj PR.dat
    simp only [List.append_assoc])
   have HLv:=qH KG.out.own.lt
   clear hpre hpl hxi hxm HRw
   go_wp2_with fail
   refine (Zfn wr KG.out.own (by omega) kx hks (by have:=HPL.out;omega)).mono ?_
   rintro e w2 ⟨v2,rfl,hg2⟩
   have HG2:=qH (KG.out.next hg2)
   have hu2:Upd (fun b=>B<=b) wr w2:=hg2.upd.mono fun b _ hb=>(HLv.out b hb).1
   have q1:w2.cell? ⟨b,o+i*6+1,none⟩=some (.int .i64 x0):=(hu2.cell (p:=⟨b,o+i*6+1,none⟩) hb (by simp only;omega)).trans r1
   have q2:w2.cell? ⟨b,o+i*6+2,none⟩=some (.int .i64 x1):=(hu2.cell (p:=⟨b,o+i*6+2,none⟩) hb (by simp only;omega)).trans r2
   have q3:w2.cell? ⟨b,o+i*6+3,none⟩=some (.string x2):=(hu2.cell (p:=⟨b,o+i*6+3,none⟩) hb (by simp only;omega)).trans r3
   have q4:w2.cell? ⟨b,o+i*6+4,none⟩=some (.slice X1 a1 b1):=(hu2.cell (p:=⟨b,o+i*6+4,none⟩) hb (by simp only;omega)).trans r4
   have q5:w2.cell? ⟨b,o+i*6+5,none⟩=some (.slice X2 a2 b2):=(hu2.cell (p:=⟨b,o+i*6+5,none⟩) hb (by simp only;omega)).trans r5
   have HV2:=qH (HV0.out.upd hu2 fun b hb hs=>by have:=HF.out b hb;omega)
   clear hg2 hu2 r0 r1 r2 r3 r4 r5 HV0 KG HLv HUr
   go_wp2_with fail
   refine (Zfy w2 HV2.out HX1.out HX2.out).mono ?_
   rintro e w3 ⟨v3,rfl,hO3,hs3⟩
   clear q1 q2 q3 q4 q5 HV2
   obtain ⟨A3,c3,rfl⟩:=Zac hO3
   obtain ⟨E,hE⟩:∃ E,enc ⟨x0,x1,x2,x3,x4⟩=E:=⟨_,rfl⟩
   rw [hE] at hO3 HPL HE hEl ⊢
   have HY3:=qH ((ZaG hO3).mono (F':=fun b=>w2.heap.size<=b/\b<w3.heap.size) fun b hb hh=>⟨hh.2,hb⟩)
   have HG3:=qH (HG2.out.ext hs3)
   have HLv:=qH fun g (hg:v2.ownBlock=some g)=>(HG2.out.own.lt g hg).2
   have hz3:=hs3.size
   have hz2:=HG2.out.size
   clear hO3 hs3 HG2 hE
   go_wp2_with fail
   refine (ZoX E.length w3 _ (Upd.refl _ _) (by omega)).mono ?_
   rintro e w4 ⟨A4,c4,rfl,HO4,hs4,_⟩
   have HG4:=qH (HG3.out.ext hs4)
   have HY4:=qH (HY3.out.same hs4)
   have hz4:=hs4.size
   clear hs4 HG3 HY3
   go_wp2_with fail
   refine (Zbt w4 HG4.out.own (by omega) (Zau (Zab 2 _) HO4.out) (fun b hb e=>by have:=HLv.out b e;have:=hb.2;omega) (by have:=HPL.out;rw [List.length_append,Zbn];omega)).mono ?_
   rintro e w5 ⟨v5,rfl,hg5⟩
   have HG5:=qH (HG4.out.next hg5)
   have HY5:=qH (HY4.out.upd hg5.upd fun b hb e=>by have:=HLv.out b e;omega)
   have HB5:=qH hg5.block
   have hz5:=hg5.size
   clear hg5 HG4 HY4 HO4
   go_wp2_with fail
   refine (Zbt w5 HG5.out.own (by omega) HY5.out (fun b hb e=>by
    rcases HB5.out with h | ⟨g,h,h2⟩
    · rw [h] at e;have:=HLv.out b e;omega
    rw [h] at e;injection e with e;omega) (by have:=HPL.out;rw [List.length_append,List.length_append,Zbn,Zab];omega)).mono ?_
   rintro e w6 ⟨v6,rfl,hg6⟩
   have HG6:=qH (HG5.out.next hg6)
   clear hg6 HG5 HY5
   go_wp2
   go_roundg (n-(i+1))
   case measure=>omega
   case rel=>exact ⟨i+1,rfl,by omega,by go_num,qH (by rw [<- HE.out];exact HG6.out)⟩
 obtain rfl:i=n:=by omega
 go_wp2
 go_ret
 refine ⟨_,rfl,?_⟩
 have h1:=KG.out
 rw [List.take_of_length_le (by rw [HL.out];exact Nat.le_refl _),List.append_assoc] at h1
 unfold ZbD
 rw [List.length_map,HL.out]
 exact h1
theorem ZgW {w w1 w2:World} {B:Nat} {v1 v2:Value} {bs0 bs:List UInt8} (ho:OwnB w1 B v1 bs0) (hs:Same w w1) (hB:w.heap.size<=B) (hg:Zbw w1 B v1 bs v2 w2):OwnB w2 B v2 bs/\Same w w2 :=
 ⟨hg.own,hs.trans hg.upd fun b hb hh=>by have:=(ho.lt b hh).1;omega⟩
theorem Zhl {F:Nat->Prop} (w:World) (x:ND) (hlab:WRow w F 1 x.AL x.nL x.cL (x.labels.map Value.string)) (hp:RdPs w F x.AP x.nP x.cP x.props) (hw:x.dat.Wr) (hf:Zel x.props) (hl:(Zbr x.dat).length<=1048576) :
 Calls Tryz.prog 44 #[x.agg] w fun e w'=>∃ v,e=.returned v/\Hid (OwnB w' w.heap.size v (Zbr x.dat))/\Same w w':=by
 obtain ⟨id,lab,AL,nL,cL,ps,AP,nP,cP⟩:=x
 simp only at hlab hp hf
 obtain ⟨m,rfl,hm,hm32⟩:=ZfJ hw.id
 replace hm:u64 (m:Int)=m:=hm
 have hn1:lab.length=nL:=by have:=hlab.len;simpa using this
 have hn2:=hp.len
 have hLL:nL<=255:=by have:=hw.n;rw [<- hn1];exact this
 have hPP:nP<=255:=by have:=hw.np;rw [<- hn2];simpa [ND.dat] using this
 have HE:Hid (Zbr (ND.dat ⟨(m:Int),lab,AL,nL,cL,ps,AP,nP,cP⟩)=beb 4 m++beb 1 nL++lab.flatMap Zap++ZbD (ps.map PR.dat)):=qH (by
  unfold Zbr ND.dat
  simp only [hm,hn1,List.append_assoc])
 have HLab:=qH hw.lab
 have HPW:=qH (show ∀ y∈ps,y.dat.Wr from fun y hy=>hw.pr _ (List.mem_map_of_mem hy))
 rw [HE.out] at hl ⊢
 have HLen:Hid (5+(lab.flatMap Zap).length+(ZbD (ps.map PR.dat)).length<=1048576):=qH (by
  simp only [List.length_append,Zab] at hl
  omega)
 have HN1:=qH hn1
 have hs0:=(Upd.refl (fun _=>False) w).alloc (.cells #[.int .i64 (m:Int),.slice AL nL cL,.slice AP nP cP] 43)
 have HB0:=qH (Blk.new w 43 #[.int .i64 (m:Int),.slice AL nL cL,.slice AP nP cP])
 have HR0:=qH ((hlab.mono (F':=fun b=>b<w.heap.size) fun b h _=>h).same hs0)
 have HP0:=qH ((hp.mono (F':=fun b=>b<w.heap.size) fun b h _=>h).same hs0)
 have HFi:=qH hf
 have HS0:=qH hs0
 have HZ0:=qH (show w.heap.size<(w.alloc (.cells #[.int .i64 (m:Int),.slice AL nL cL,.slice AP nP cP] 43)).heap.size by rw [World.size_alloc];omega)
 have HBT:=qH (Zgd nL hLL)
 clear hlab hp hw hf hl hm hs0 hn1 hn2
 go_enter Tryz.func44,Tryz.ntmps44
 go_wp2_with fail
 generalize w.alloc (.cells #[.int .i64 (m:Int),.slice AL nL cL,.slice AP nP cP] 43)=w1 at *
 generalize hg:w.heap.size=g at *
 refine (Zcn m w1 _ (Upd.refl _ _) (by omega)).mono ?_
 rintro e w2 ⟨A2,c2,rfl,HO2,hs2,_⟩
 have HO2':Hid (OwnB w2 w1.heap.size (.slice A2 4 c2) (beb 4 m)):=HO2
 have HS2:=qH (HS0.out.same hs2)
 have HB2:=qH (HB0.out.same hs2)
 have HR2:=qH (HR0.out.same hs2)
 have HP2:=qH (HP0.out.same hs2)
 have HZ2:=qH hs2.size
 have HUB:=qH fun (bs:List UInt8) (v:Value) (wx:World) (h:Zbw w2 w1.heap.size (.slice A2 4 c2) bs v wx)=>HB2.out.upd h.upd (fun e=>by have:=(HO2'.out.lt _ e).1;have:=HZ0.out;omega)
 have HUL:=qH fun (bs:List UInt8) (v:Value) (wx:World) (h:Zbw w2 w1.heap.size (.slice A2 4 c2) bs v wx)=>(h.upd.mono (S':=fun b=>w1.heap.size<=b) fun b _ e=>(HO2'.out.lt _ e).1)
 clear hs2 HB0 HR0 HP0 HO2
 have c1:=HB2.out.cell 1
 simp only [List.getElem?_toArray,List.getElem?_cons_succ,List.getElem?_cons_zero] at c1
 have hz2:=HZ2.out
 go_wp2_with (at_builtin;go_must (refine Zag rfl (.tmp 9) (.tmp 14) _ _ rfl w1.heap.size _ _ _ _ Tryz.underlying28 ZaR rfl (.slice A2 4 c2) _ _ rfl (by have h1:=HO2'.out;unfold OwnB at h1;rw [Zab] at h1;exact h1.alloc _) rfl (Zal Tryz.underlying28 (Row.one _ _ _) (by simp [Value.oneCell'])) (by unfold maxLen;omega) (by omega) (by simp;omega) ?_);intro v' w3 hg;have HG:=qH hg;clear hg)
 have HG3:Hid (Zbw w2 w1.heap.size (.slice A2 4 c2) (beb 4 m++beb 1 nL) v' w3):=qH (by
  unfold Zbw
  rw [List.length_append,Zab,Zab,List.map_append,HBT.out]
  have h1:=HO2'.out
  unfold OwnB at h1
  rw [Zab] at h1
  exact ((Grew.refl h1).alloc _).trans HG.out)
 clear HG c1
 have hmx:=HR2.out.max
 have hle:=HR2.out.le
 unfold maxLen at hmx
 go_loopg [4,3] nL (fun gh ix y wr=>∃ i:Nat,nL-i=gh/\i<=nL/\ix=.int .i64 i/\Hid (Zbw w2 w1.heap.size (.slice A2 4 c2) (beb 4 m++beb 1 nL++(lab.take i).flatMap Zap) y wr))
 case atStart=>exact ⟨0,rfl,Nat.zero_le _,rfl,qH (by simpa using HG3.out)⟩
 obtain ⟨i,rfl,hi,rfl,KG⟩:=hrel
 have c1:=(HUB.out _ _ _ KG.out).cell 1
 simp only [List.getElem?_toArray,List.getElem?_cons_succ,List.getElem?_cons_zero] at c1
 have hzr:=KG.out.size
 by_cases hlt:i<nL
 · obtain ⟨b,o,u,rfl,hbl,hbF,hu,hc⟩:=(HR2.out.upd (HUL.out _ _ _ KG.out) fun b hb hs=>by have:=HZ0.out;omega).at_ hlt
   have hkl:i<lab.length:=by rw [HN1.out];exact hlt
   simp only [List.getElem?_map,List.getElem?_eq_getElem hkl,Option.map_some,Option.some.injEq] at hu
   subst hu
   have HT:=qH (ZaV Zap lab i hkl)
   have HSz:=qH (HLab.out lab[i] (List.getElem_mem hkl))
   have HLt:=qH (ZdF Zap lab i)
   generalize lab[i]=s at *
   go_wp2_with fail
   refine (Zfn wr KG.out.own (by omega) s HSz.out (by
    have h1:=HLt.out
    have h2:=HLen.out
    rw [List.length_append,List.length_append,Zab,Zab]
    omega)).mono ?_
   rintro e w5 ⟨v5,rfl,hg5⟩
   have HG5:=qH (KG.out.next hg5)
   clear hg5 c1
   go_wp2
   go_roundg (nL-(i+1))
   case measure=>omega
   case rel=>exact ⟨i+1,rfl,by omega,by go_num,qH (by rw [HT.out,<-List.append_assoc];exact HG5.out)⟩
 obtain rfl:i=nL:=by omega
 have HG5:Hid (Zbw w2 w1.heap.size (.slice A2 4 c2) (beb 4 m++beb 1 i++lab.flatMap Zap) u3 wr):=qH (by
  have h1:=KG.out
  rwa [List.take_of_length_le (by rw [HN1.out];exact Nat.le_refl _)] at h1)
 have c2':=(HUB.out _ _ _ KG.out).cell 2
 simp only [List.getElem?_toArray,List.getElem?_cons_succ,List.getElem?_cons_zero] at c2'
 have HPr:=qH (HP2.out.upd (HUL.out _ _ _ KG.out) fun b hb hs=>by have:=HZ0.out;omega)
 clear KG
 go_wp2_with fail
 refine (ZgV wr HG5.out.own (by omega) HPr.out (fun b hb=>by have:=HZ0.out;omega) HPW.out HFi.out hPP (by
  have h2:=HLen.out
  rw [List.length_append,List.length_append,Zab,Zab]
  omega)).mono ?_
 rintro e w6 ⟨v6,rfl,hg6⟩
 have HG6:=qH (HG5.out.next hg6)
 clear c1 c2' hg6
 go_wp2
 go_ret
 have h1:=ZgW HO2'.out HS2.out (by rw [hg];have:=HZ0.out;omega) HG6.out
 exact ⟨_,rfl,qH (by rw [<- hg];exact Zad h1.1 (by rw [hg];have:=HZ0.out;omega)),h1.2⟩
theorem Zis {F:Nat->Prop} (w:World) (x:RL) (hp:RdPs w F x.AP x.nP x.cP x.props) (hw:x.dat.Wr) (hf:Zel x.props) (hl:(Zbx x.dat).length<=1048576) :
 Calls Tryz.prog 45 #[x.agg] w fun e w'=>∃ v,e=.returned v/\Hid (OwnB w' w.heap.size v (Zbx x.dat))/\Same w w':=by
 obtain ⟨id,ty,src,dst,ps,AP,nP,cP⟩:=x
 simp only at hp hf
 obtain ⟨m,rfl,hm,hm32⟩:=ZfJ hw.id
 obtain ⟨m1,rfl,hm1,hm132⟩:=ZfJ (show Id32 src from hw.src)
 obtain ⟨m2,rfl,hm2,hm232⟩:=ZfJ (show Id32 dst from hw.dst)
 have hn2:=hp.len
 replace hm:u64 (m:Int)=m:=hm
 have hPP:nP<=255:=by have:=hw.np;rw [<- hn2];simpa [RL.dat] using this
 have hty:ty.size<=255:=hw.type
 have HE:Hid (Zbx (RL.dat ⟨(m:Int),ty,(m1:Int),(m2:Int),ps,AP,nP,cP⟩)=beb 4 m++beb 4 m1++beb 4 m2++Zap ty++ZbD (ps.map PR.dat)):=qH (by
  unfold Zbx RL.dat
  simp only [hm,hm1,hm2,List.append_assoc])
 have HPW:=qH (show ∀ y∈ps,y.dat.Wr from fun y hy=>hw.pr _ (List.mem_map_of_mem hy))
 rw [HE.out] at hl ⊢
 have HLen:Hid (12+(Zap ty).length+(ZbD (ps.map PR.dat)).length<=1048576):=qH (by
  simp only [List.length_append,Zab] at hl
  omega)
 have hs0:=(Upd.refl (fun _=>False) w).alloc (.cells #[.int .i64 (m:Int),.string ty,.int .i64 (m1:Int),.int .i64 (m2:Int),.slice AP nP cP] 50)
 have HB0:=qH (Blk.new w 50 #[.int .i64 (m:Int),.string ty,.int .i64 (m1:Int),.int .i64 (m2:Int),.slice AP nP cP])
 have HP0:=qH ((hp.mono (F':=fun b=>b<w.heap.size) fun b h _=>h).same hs0)
 have HFi:=qH hf
 have HS0:=qH hs0
 have HZ0:=qH (show w.heap.size<(w.alloc (.cells #[.int .i64 (m:Int),.string ty,.int .i64 (m1:Int),.int .i64 (m2:Int),.slice AP nP cP] 50)).heap.size by rw [World.size_alloc];omega)
 clear hp hw hf hl hm hm1 hm2 hs0 hn2
 go_enter Tryz.func45,Tryz.ntmps45
 go_wp2_with fail
 generalize w.alloc (.cells #[.int .i64 (m:Int),.string ty,.int .i64 (m1:Int),.int .i64 (m2:Int),.slice AP nP cP] 50)=w1 at *
 generalize hg:w.heap.size=g at *
 refine (Zcn m w1 _ (Upd.refl _ _) (by omega)).mono ?_
 rintro e w2 ⟨A2,c2,rfl,HO2,hs2,_⟩
 have HO2':Hid (OwnB w2 w1.heap.size (.slice A2 4 c2) (beb 4 m)):=HO2
 have HS2:=qH (HS0.out.same hs2)
 have HB2:=qH (HB0.out.same hs2)
 have HP2:=qH (HP0.out.same hs2)
 have HZ2:=qH hs2.size
 have HUB:=qH fun (bs:List UInt8) (v:Value) (wx:World) (h:Zbw w2 w1.heap.size (.slice A2 4 c2) bs v wx)=>HB2.out.upd h.upd (fun e=>by have:=(HO2'.out.lt _ e).1;have:=HZ0.out;omega)
 have HUL:=qH fun (bs:List UInt8) (v:Value) (wx:World) (h:Zbw w2 w1.heap.size (.slice A2 4 c2) bs v wx)=>(h.upd.mono (S':=fun b=>w1.heap.size<=b) fun b _ e=>(HO2'.out.lt _ e).1)
 have HG2:Hid (Zbw w2 w1.heap.size (.slice A2 4 c2) (beb 4 m) (.slice A2 4 c2) w2):=qH (Grew.refl HO2'.out)
 have hz2:=HZ2.out
 clear hs2 HB0 HP0 HO2
 have c2':=HB2.out.cell 2
 simp only [List.getElem?_toArray,List.getElem?_cons_succ,List.getElem?_cons_zero] at c2'
 go_wp2_with fail
 refine (Zcn m1 w2 _ (Upd.refl _ _) (by omega)).mono ?_
 rintro e w3 ⟨A3,c3,rfl,HO3,hs3,_⟩
 have HG3:=qH (HG2.out.ext hs3)
 have HL2:=qH fun g (hg:(Value.slice A2 4 c2).ownBlock=some g)=>(HO2'.out.lt g hg).2
 have hz3:=hs3.size
 clear hs3 c2' HG2
 go_wp2_with fail
 refine (Zbt w3 HG3.out.own (by omega) (Zau (Zab 4 _) HO3.out) (fun b hb e=>by have:=HL2.out b e;have:=hb.2;omega) (by simp [Zab])).mono ?_
 rintro e w4 ⟨v4,rfl,hg4⟩
 have HG4:=qH (HG3.out.next hg4)
 have hz4:=hg4.size
 have HL4:=qH fun g (hg:v4.ownBlock=some g)=>(HG4.out.own.lt g hg).2
 have c3':=(HUB.out _ _ _ HG4.out).cell 3
 simp only [List.getElem?_toArray,List.getElem?_cons_succ,List.getElem?_cons_zero] at c3'
 clear hg4 HO3 HG3
 go_wp2_with fail
 refine (Zcn m2 w4 _ (Upd.refl _ _) (by omega)).mono ?_
 rintro e w5 ⟨A5,c5,rfl,HO5,hs5,_⟩
 have HG5:=qH (HG4.out.ext hs5)
 have hz5:=hs5.size
 clear hs5 c3' HG4
 go_wp2_with fail
 refine (Zbt w5 HG5.out.own (by omega) (Zau (Zab 4 _) HO5.out) (fun b hb e=>by have:=HL4.out b e;have:=hb.2;omega) (by simp [Zab])).mono ?_
 rintro e w6 ⟨v6,rfl,hg6⟩
 have HG6:=qH (HG5.out.next hg6)
 have hz6:=hg6.size
 have c1':=(HUB.out _ _ _ HG6.out).cell 1
 simp only [List.getElem?_toArray,List.getElem?_cons_succ,List.getElem?_cons_zero] at c1'
 clear hg6 HO5 HG5
 go_wp2_with fail
 refine (Zfn w6 HG6.out.own (by omega) ty hty (by simp [Zab])).mono ?_
 rintro e w7 ⟨v7,rfl,hg7⟩
 have HG7:=qH (HG6.out.next hg7)
 have hz7:=hg7.size
 have c4':=(HUB.out _ _ _ HG7.out).cell 4
 simp only [List.getElem?_toArray,List.getElem?_cons_succ,List.getElem?_cons_zero] at c4'
 have HPr:=qH (HP2.out.upd (HUL.out _ _ _ HG7.out) fun b hb hs=>by have:=HZ0.out;omega)
 clear hg7 HG6 c1'
 go_wp2_with fail
 refine (ZgV w7 HG7.out.own (by omega) HPr.out (fun b hb=>by have:=HZ0.out;omega) HPW.out HFi.out hPP (by
  have h2:=HLen.out
  simp only [List.length_append,Zab]
  omega)).mono ?_
 rintro e w8 ⟨v8,rfl,hg8⟩
 have HG8:=qH (HG7.out.next hg8)
 clear c4' hg8
 go_wp2
 go_ret
 have h1:=ZgW HO2'.out HS2.out (by rw [hg];have:=HZ0.out;omega) HG8.out
 exact ⟨_,rfl,qH (by rw [<- hg];exact Zad h1.1 (by rw [hg];have:=HZ0.out;omega)),h1.2⟩
theorem ZkG {F:Nat->Prop} {A:Option Addr} {n c:Nat} {all:List UInt8} (w:World) (n1 n2 n3:Nat) (h1:n1<=4294967295) (h2:n2<=4294967295) (h3:n3<=4294967295) (hb:Bytes w F A n c all) :
 Calls Tryz.prog 46 #[.int .i64 (n1:Int),.int .i64 (n2:Int),.int .i64 (n3:Int),.slice A n c] w fun e w'=>∃ v,e=.returned v/\Hid (OwnB w' w.heap.size v (ZaY n1 n2 n3 all))/\Same w w':=by
 have HY:=qH (hb.mono (F':=fun b=>b<w.heap.size) fun b h _=>h)
 obtain ⟨S,hS⟩:∃ S,crcS all=S:=⟨_,rfl⟩
 have HE:Hid (ZaY n1 n2 n3 all=beb 4 n1++beb 4 n2++beb 4 n3++beb 4 S.toNat):=qH (by
  unfold ZaY
  rw [hS]
  simp only [List.append_assoc])
 have HSS:=qH hS
 have hS32:=S.isLt
 clear hb hS
 go_enter Tryz.func46,Tryz.ntmps46
 go_wp2_with fail
 refine (Zcn n1 w _ (Upd.refl _ _) (by omega)).mono ?_
 rintro e w2 ⟨A2,c2,rfl,HO2,hs2,_⟩
 have HO2':Hid (OwnB w2 w.heap.size (.slice A2 4 c2) (beb 4 n1)):=HO2
 have HS2:=qH hs2
 have HG2:Hid (Zbw w2 w.heap.size (.slice A2 4 c2) (beb 4 n1) (.slice A2 4 c2) w2):=qH (Grew.refl HO2'.out)
 have HL2:=qH fun g (hg:(Value.slice A2 4 c2).ownBlock=some g)=>(HO2'.out.lt g hg).2
 have hz2:=hs2.size
 clear hs2 HO2
 go_wp2_with fail
 refine (Zcn n2 w2 _ (Upd.refl _ _) (by omega)).mono ?_
 rintro e w3 ⟨A3,c3,rfl,HO3,hs3,_⟩
 have HG3:=qH (HG2.out.ext hs3)
 have hz3:=hs3.size
 clear hs3 HG2
 go_wp2_with fail
 refine (Zbt w3 HG3.out.own (by omega) (Zau (Zab 4 _) HO3.out) (fun b hb e=>by have:=HL2.out b e;have:=hb.2;omega) (by simp [Zab])).mono ?_
 rintro e w4 ⟨v4,rfl,hg4⟩
 have HG4:=qH (HG3.out.next hg4)
 have hz4:=hg4.size
 have HL4:=qH fun g (hg:v4.ownBlock=some g)=>(HG4.out.own.lt g hg).2
 clear hg4 HO3 HG3
 go_wp2_with fail
 refine (Zcn n3 w4 _ (Upd.refl _ _) (by omega)).mono ?_
 rintro e w5 ⟨A5,c5,rfl,HO5,hs5,_⟩
 have HG5:=qH (HG4.out.ext hs5)
 have hz5:=hs5.size
 clear hs5 HG4
 go_wp2_with fail
 refine (Zbt w5 HG5.out.own (by omega) (Zau (Zab 4 _) HO5.out) (fun b hb e=>by have:=HL4.out b e;have:=hb.2;omega) (by simp [Zab])).mono ?_
 rintro e w6 ⟨v6,rfl,hg6⟩
 have HG6:=qH (HG5.out.next hg6)
 have hz6:=hg6.size
 have HY6:=qH ((HY.out.same HS2.out).upd HG6.out.upd fun b hb e=>by have:=(HO2'.out.lt b e).1;omega)
 have HL6:=qH fun g (hg:v6.ownBlock=some g)=>(HG6.out.own.lt g hg).2
 clear hg6 HO5 HG5
 go_wp2_with fail
 refine (Zfz w6 HY6.out).mono ?_
 rintro e w' ⟨rfl,rfl⟩
 rw [HSS.out]
 go_wp2_with fail
 refine (Zcn S.toNat w6 _ (Upd.refl _ _) (by omega)).mono ?_
 rintro e w7 ⟨A7,c7,rfl,HO7,hs7,_⟩
 have HG7:=qH (HG6.out.ext hs7)
 have hz7:=hs7.size
 clear hs7 HG6
 go_wp2_with fail
 refine (Zbt w7 HG7.out.own (by omega) (Zau (Zab 4 _) HO7.out) (fun b hb e=>by have:=HL6.out b e;have:=hb.2;omega) (by simp [Zab])).mono ?_
 rintro e w8 ⟨v8,rfl,hg8⟩
 have HG8:=qH (HG7.out.next hg8)
 clear hg8
 go_wp2
 go_ret
 have h1:=ZgW HO2'.out HS2.out (Nat.le_refl _) HG8.out
 exact ⟨_,rfl,qH (by rw [HE.out];exact h1.1),h1.2⟩
theorem ZcK {F:Nat->Prop} {A:Option Addr} {n c:Nat} {bs:List UInt8} (w:World) (t:Nat) (ht:t<=255) (hb:Bytes w F A n c bs) (hn:n<=1048576) :
 Calls Tryz.prog 43 #[.int .i64 (t:Int),.slice A n c] w fun e w'=>∃ v,e=.returned v/\Hid (OwnB w' w.heap.size v (Zai t bs))/\Same w w':=by
 have HY:=qH hb
 clear hb
 go_enter Tryz.func43,Tryz.ntmps43
 go_wp2_with fail
 refine (Zkd w t ht HY.out hn).mono ?_
 rintro e w1 ⟨v1,rfl,HO1,hs1⟩
 have HS1:=qH hs1
 clear hs1
 go_wp2
 go_ret
 exact ⟨_,rfl,HO1,HS1.out⟩
end Go.Proofs.YtkopcinhbjimiaaGreatDoor
