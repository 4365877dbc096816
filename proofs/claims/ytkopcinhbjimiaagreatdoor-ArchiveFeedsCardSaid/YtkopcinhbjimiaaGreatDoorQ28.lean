/- Texts that the claim leans on: walks and plain laws, function by function. -/
import Derived.Laws.IdiomStrings
import Derived.Test.YtkopcinhbjimiaaGreatDoorQ27
set_option maxRecDepth 100000
set_option maxHeartbeats 16000000
namespace Go.Proofs.YtkopcinhbjimiaaGreatDoor
open Go.RowKit Go.Shelf
attribute [local go_sem] Oper.semAt_some
def FR.args (x:FR):Array Value:=#[.agg #[.int .i64 (x.type:Int),.slice x.A x.n x.c]]
structure FrAt (L:List GFr) (pre:List FR) (x:FR) (W:World):Prop where
 at_:L[pre.length]?=some x.dat
 row:Bytes W (TyB W 0) x.A x.n x.c x.data
 type:x.type<=255
 le:x.n<=1048576
theorem OwnB.tyb {w:World} {B n c:Nat} {A:Option Addr} {bs:List UInt8} (hn:bs.length=n) (h:OwnB w B (.slice A n c) bs):Bytes w (TyB w 0) A n c bs :=
 Row.mono (ZaB hn h) fun b hl hb=>⟨Nat.zero_le _,hl,by
  obtain ⟨cs,h1⟩:=Zap h (g:=b) (by have h9:A=some ⟨b,0,none⟩:=hb.1;rw [h9];rfl)
  exact ⟨cs,_,h1⟩⟩
theorem ZpZ (g:Zak):(frs g)[0]?=some ⟨1,[0,1]⟩:=rfl
theorem Zqa {g:Zak} {i:Nat} {x:ZaP} (h:g.nodes[i]?=some x):(frs g)[1+i]?=some ⟨2,Zca x⟩:=by
 unfold frs
 rw [Nat.add_comm,List.getElem?_cons_succ,List.getElem?_append_left (by have:=(List.getElem?_eq_some_iff.1 h).1;simpa using this),List.getElem?_map,h]
 rfl
theorem Zqb {g:Zak} {i:Nat} {x:GRel} (h:g.rels[i]?=some x):(frs g)[1+g.nodes.length+i]?=some ⟨3,Zcb x⟩:=by
 unfold frs
 rw [show 1+g.nodes.length+i=(g.nodes.length+i)+1 by omega,List.getElem?_cons_succ,List.getElem?_append_right (by simp),List.length_map,Nat.add_sub_cancel_left,List.getElem?_map,h]
 rfl
theorem ZnH (g:Zak):(frs g).length=1+g.nodes.length+g.rels.length:=by
 unfold frs
 simp
 omega
theorem Zfs {α β:Type} {f:α->β} {L:List β} {pre:List α} {k:Nat} {x:α} (h:pre.map f=L.take k) (hx:L[k]?=some (f x)):(pre++[x]).map f=L.take (k+1):=by
 rw [List.map_append,h,List.take_add_one,hx]
 rfl
theorem ZkO {α β:Type} {f:α->β} {L:List β} {pre:List α} {k:Nat} (h:pre.map f=L.take k) (hk:k<=L.length):pre.length=k:=by
 have h1:=congrArg List.length h
 rw [List.length_map,List.length_take] at h1
 omega
theorem ZmA (n:Nat) (hn:1<=n) (w:World) (B0 gB:Nat) (g:GR) (hR:RdG w (fun b=>b<B0) g) (hRt:Zcc g.dat) (hz:ZcW g)
 (hB:Blk w gB 26 #[.slice g.AN g.nN g.cN,.slice g.AR g.nR g.cR]) (U:TypeId->Prop) (hU:¬ U 26) :
 SeqR (fun _=>False) Fence.wide n Tryz.prog 74 #[.pointer (some ⟨gB,0,none⟩)] FR.args (fun _ W W'=>Upd (ZaH U B0 W) W W') (FrAt (frs g.dat))
  (fun xs=>xs.map FR.dat=frs g.dat) (fun pre=>∃ k,pre.map FR.dat=(frs g.dat).take k) w:=fun l J Jx W hW hJ hJx hY h0=>by
 obtain ⟨ns,AN,nN,cN,rs,AR,nR,cR⟩:=g
 have hs0:Same w W:=Same.of_below hW
 have HRG:=qH (hR.same hs0)
 have HB:=qH (hB.same hs0)
 have HRt:=qH hRt
 have HZ:=qH hz
 have HJ:=qH hJ
 have HY:=qH hY
 have H0:=qH h0
 have hnn:nN<=1024:=by have h1:=hRt.nN;have h2:ns.length=nN:=hR.nodes.len;simp only [GR.dat,List.length_map] at h1;omega
 have hnr:nR<=2048:=by have h1:=hRt.nR;have h2:rs.length=nR:=hR.rels.len;simp only [GR.dat,List.length_map] at h1;omega
 have HLN:Hid (ns.length=nN):=qH hR.nodes.len
 have HLR:Hid (rs.length=nR):=qH hR.rels.len
 have HFL:Hid ((frs (GR.dat ⟨ns,AN,nN,cN,rs,AR,nR,cR⟩)).length=1+nN+nR):=qH (by rw [ZnH];simp [GR.dat,HLN.out,HLR.out])
 have HLD:Hid ((GR.dat ⟨ns,AN,nN,cN,rs,AR,nR,cR⟩).nodes.length=nN):=qH (by simp [GR.dat,HLN.out])
 have HNA:Hid (∀ i x,ns[i]?=some x->(frs (GR.dat ⟨ns,AN,nN,cN,rs,AR,nR,cR⟩))[1+i]?=some ⟨2,Zca x.dat⟩):=qH fun i x hx=>Zqa (by simp [GR.dat,hx])
 have HRA:Hid (∀ i x,rs[i]?=some x->(frs (GR.dat ⟨ns,AN,nN,cN,rs,AR,nR,cR⟩))[1+nN+i]?=some ⟨3,Zcb x.dat⟩):=qH fun i x hx=>by
  have h1:=Zqb (g:=GR.dat ⟨ns,AN,nN,cN,rs,AR,nR,cR⟩) (i:=i) (x:=x.dat) (by simp [GR.dat,hx])
  rwa [HLD.out] at h1
 have HF0:Hid ((frs (GR.dat ⟨ns,AN,nN,cN,rs,AR,nR,cR⟩))[0]?=some ⟨1,[0,1]⟩):=qH (ZpZ _)
 obtain ⟨L,hL⟩:∃ L,frs (GR.dat ⟨ns,AN,nN,cN,rs,AR,nR,cR⟩)=L:=⟨_,rfl⟩
 rw [hL] at HFL HNA HRA HF0 HY ⊢
 have HNd:=qH fun x (hx:x∈ns)=>hRt.nd (x:=x.dat) (List.mem_map_of_mem hx)
 have HRl:=qH fun x (hx:x∈rs)=>hRt.rl (x:=x.dat) (List.mem_map_of_mem hx)
 have s1:=(Upd.refl (fun _=>False) W).alloc (.cells #[.int .u8 0,.int .u8 1] 5)
 have hb1:Bytes (W.alloc (.cells #[.int .u8 0,.int .u8 1] 5)) (TyB (W.alloc (.cells #[.int .u8 0,.int .u8 1] 5)) 0) (some ⟨W.heap.size,0,none⟩) 2 2 [0,1] :=
  Row.mono (Row.of_blk (Blk.new W 5 #[.int .u8 0,.int .u8 1]) rfl (Nat.le_refl _) (by simp [maxLen])) fun b hl hb=>⟨Nat.zero_le _,hl,by subst hb;exact ⟨_,_,Blk.new W _ _⟩⟩
 have HY1:=qH (hY [] ⟨1,[0,1],some ⟨W.heap.size,0,none⟩,2,2⟩ _ (hJ _ _ _ h0 s1.it) ⟨by rw [hL];exact HF0.out,hb1,(show 1<=255 by decide),(show 2<=1048576 by decide)⟩)
 have HR1:=qH (HRG.out.same s1)
 have HB1:=qH (HB.out.same s1)
 clear hR hRt hz hB hW hs0 hJ hY h0 hJx hL s1 hb1 HRG HB
 refine callsIn_wide.2 ?_
 go_enter Tryz.func74,Tryz.ntmps74
 refine (wpIn_wide (n:=n)).1 ?_
 obtain ⟨fn,tmps,assign,body,hy,hR⟩:=HY1.out
 have hy1:(Instr.yield l #[.agg #[.int .i64 1,.slice (some ⟨W.heap.size,0,none⟩) 2 2]]).run Tryz.prog (W.alloc (.cells #[.int .u8 0,.int .u8 1] 5))=.ok (.round l fn tmps assign body) (W.alloc (.cells #[.int .u8 0,.int .u8 1] 5)):=hy
 clear hy HY1
 gi_wp2
 refine hR.mono ?_
 clear hy1 hR
 rintro e W1 ⟨hkf,h⟩
 rcases h with ⟨rfl,hJ1,hk1⟩ | ⟨rfl,hJx1⟩
 case inr =>
  gi_wp2
  refine bodyPost_ret (results_none rfl _ _ _) rfl ?_
  exact ⟨⟨_,rfl⟩,.inr ⟨_,⟨1,Zfs (f:=FR.dat) (pre:=[]) (k:=0) (x:=⟨1,[0,1],some ⟨W.heap.size,0,none⟩,2,2⟩) rfl HF0.out⟩,hJx1⟩⟩
 have HP1:Hid ([(⟨1,[0,1],some ⟨W.heap.size,0,none⟩,2,2⟩:FR)].map FR.dat=L.take 1):=qH (Zfs (f:=FR.dat) (pre:=[]) (k:=0) (x:=⟨1,[0,1],some ⟨W.heap.size,0,none⟩,2,2⟩) rfl HF0.out)
 have HJ1:=qH hJ1
 have HW1:=qH (show W.heap.size<=W1.heap.size from Nat.le_trans (by rw [World.size_alloc];omega) hk1.size)
 replace HR1:=qH (HR1.out.upd hk1 fun b hb hs=>by have:=hs.1;omega)
 replace HB1:=qH (HB1.out.it hk1 hU)
 have q0:W1.cell? ⟨gB,0,none⟩=some (.slice AN nN cN):=HB1.out.cell 0
 clear hJ1 hk1 hkf
 gi_wp2_with fail
 clear q0
 refine wpIn_wide.2 ?_
 go_loopg [15] nN (fun gh s wr=>∃ (i:Nat) (pre:List FR),nN-i=gh/\i<=nN/\s=.int .i64 (i:Int)/\Hid (pre.map FR.dat=L.take (1+i))/\Hid (J pre wr)/\Hid (RdG wr (fun b=>b<B0) ⟨ns,AN,nN,cN,rs,AR,nR,cR⟩)/\Hid (Blk wr gB 26 #[.slice AN nN cN,.slice AR nR cR])/\Hid (W.heap.size<=wr.heap.size))
 case atStart=>exact ⟨0,_,rfl,Nat.zero_le _,rfl,HP1,HJ1,HR1,HB1,HW1⟩
 clear HP1 HJ1 HR1 HB1 HW1
 obtain ⟨i,pre,rfl,hi,rfl,KP,KJ,HRw,KB,KW⟩:=hrel
 by_cases hin:i<nN
 case pos =>
  have j1:(i:Int)<(nN:Int):=by omega
  have hwi:IntKind.i64.wrap ((i:Int)+1)=((i+1:Nat):Int):=by rw [IntKind.wrap_i64];omega
  obtain ⟨b,o,x,hA,hb,hF,hx,hm,x0,x1,x2⟩:=HRw.out.nodes.at_ hin
  simp only at hA
  subst hA
  have hwr:=HNd.out x hm
  have hzx:=HZ.out.ns x hm
  have HWR:=qH hwr.2
  have HX:=qH (HNA.out i x hx)
  have HSP:=qH (fun wx (hs:Same wr wx)=>Ziw wx x ((HRw.out.nodes.lab x hm).same hs) ((HRw.out.nodes.pro x hm).same hs) hwr.1 hzx.pro.fit hwr.2)
  clear hwr hzx hm hx
  obtain ⟨xi,xl,xAL,xnL,xcL,xp,xAP,xnP,xcP⟩:=x
  simp only at x0 x1 x2 HSP
  go_upto_region 4 with fail
  have HZR:=qH (Nat.le_refl wr.heap.size)
  generalize hgn:wr.heap.size=gn at HSP ⊢
  have HKB:Hid (Blk (wr.alloc (.cells #[.int .i64 xi,.slice xAL xnL xcL,.slice xAP xnP xcP] 43)) gn 43 #[.int .i64 xi,.slice xAL xnL xcL,.slice xAP xnP xcP]):=qH (by rw [<- hgn];exact Blk.new _ _ _)
  have HSB:Hid (Same wr (wr.alloc (.cells #[.int .i64 xi,.slice xAL xnL xcL,.slice xAP xnP xcP] 43))):=qH (Upd.refl _ wr).alloc _
  generalize (wr.alloc (.cells #[.int .i64 xi,.slice xAL xnL xcL,.slice xAP xnP xcP] 43))=wB at *
  have d0:wB.cell? ⟨gn,0,none⟩=some (.int .i64 xi):=HKB.out.cell 0
  have d1:wB.cell? ⟨gn,1,none⟩=some (.slice xAL xnL xcL):=HKB.out.cell 1
  have d2:wB.cell? ⟨gn,2,none⟩=some (.slice xAP xnP xcP):=HKB.out.cell 2
  have HC:=qH (HSP.out wB HSB.out)
  have HRB:=qH (HRw.out.same HSB.out)
  have HBB:=qH (KB.out.same HSB.out)
  obtain ⟨D,hD⟩:∃ D,Zca (ND.dat ⟨xi,xl,xAL,xnL,xcL,xp,xAP,xnP,xcP⟩)=D:=⟨_,rfl⟩
  rw [hD] at HWR HX
  have hdl:D.length<=1048576:=HWR.out
  have HLT:=qH ((List.getElem?_eq_some_iff.1 HX.out).1)
  have hpl:pre.length=1+i:=ZkO KP.out (by have:=HLT.out;omega)
  have HPL:=qH hpl
  have HTK:=qH fun (y:FR) (hy:y.dat=⟨2,D⟩)=>Zfs (f:=FR.dat) (x:=y) KP.out (by rw [HX.out,hy])
  clear x0 x1 x2 hpl
  refine (wpIn_wide (n:=n)).1 ?_
  gi_wp2_with (refine ⟨trivial,?_⟩;gi_at_call 75;refine (callsIn_wide.2 HC.out).mono ?_;rintro e5 w5 ⟨v5,rfl,hO5,hs5⟩;obtain ⟨A7,c7,rfl⟩:=Zad hO5.out;rw [hD] at hO5 ⊢;have HO5:=qH hO5.out;have HS5:=qH (HSB.out.trans hs5 fun _ _ f=>f);have HRB5:=qH (HRB.out.same hs5);have HBB5:=qH (HBB.out.same hs5);clear hO5 hs5;obtain ⟨fn,tmps,assign,body,hy,hR⟩:=HY.out pre ⟨2,D,A7,D.length,c7⟩ w5 (HJ.out _ _ _ KJ.out (HS5.out.mono fun _ _ f=>f.elim)) ⟨by rw [HPL.out];exact HX.out,OwnB.tyb rfl HO5.out,(show 2<=255 by decide),hdl⟩;have hy1:(Instr.yield l #[.agg #[.int .i64 2,.slice A7 D.length c7]]).run Tryz.prog w5=.ok (.round l fn tmps assign body) w5:=hy;clear hy)
  refine hR.mono ?_
  clear hy1 hR
  rintro e W2 ⟨hkf,h⟩
  rcases h with ⟨rfl,hJ2,hk2⟩ | ⟨rfl,hJx2⟩
  case inr =>
   gi_wp2
   go_wp2_with fail
   refine bodyPost_ret (results_none rfl _ _ _) rfl ?_
   exact ⟨⟨_,rfl⟩,.inr ⟨_,⟨_,HTK.out _ rfl⟩,hJx2⟩⟩
  have HP2:=qH (HTK.out ⟨2,D,A7,D.length,c7⟩ rfl)
  have HJ2:=qH hJ2
  have HR2:=qH (HRB5.out.upd hk2 fun b hb hs=>by have:=hs.1;omega)
  have HB2:=qH (HBB5.out.it hk2 hU)
  have HW2:=qH (Nat.le_trans KW.out (Nat.le_trans HS5.out.size hk2.size))
  clear hJ2 hk2 hkf HRB5 HBB5 HO5 HRB HBB HSB HKB
  gi_wp2
  go_wp2_with fail
  go_roundg (nN-(i+1))
  case measure=>omega
  case rel=>exact ⟨i+1,_,rfl,by omega,by go_num,HP2,HJ2,HR2,HB2,HW2⟩
 obtain rfl:i=nN:=by omega
 clear hin hi
 generalize i=nN at *
 go_wp2_with fail
 refine wpIn_wide.2 ?_
 have q1:wr.cell? ⟨gB,1,none⟩=some (.slice AR nR cR):=KB.out.cell 1
 go_wp2_with fail
 clear q1
 generalize wr=wA at *
 go_loopg [29] nR (fun gh s wr=>∃ (i:Nat) (pre:List FR),nR-i=gh/\i<=nR/\s=.int .i64 (i:Int)/\Hid (pre.map FR.dat=L.take (1+nN+i))/\Hid (J pre wr)/\Hid (RdG wr (fun b=>b<B0) ⟨ns,AN,nN,cN,rs,AR,nR,cR⟩)/\Hid (Blk wr gB 26 #[.slice AN nN cN,.slice AR nR cR])/\Hid (W.heap.size<=wr.heap.size))
 case atStart=>exact ⟨0,pre,rfl,Nat.zero_le _,rfl,KP,KJ,HRw,KB,KW⟩
 clear KP KJ HRw KB KW
 obtain ⟨i,pre,rfl,hi,rfl,KP,KJ,HRw,KB,KW⟩:=hrel
 by_cases hin:i<nR
 case pos =>
  have j1:(i:Int)<(nR:Int):=by omega
  have hwi:IntKind.i64.wrap ((i:Int)+1)=((i+1:Nat):Int):=by rw [IntKind.wrap_i64];omega
  obtain ⟨b,o,x,hA,hb,hF,hx,hm,x0,x1,x2,x3,x4⟩:=HRw.out.rels.at_ hin
  simp only at hA
  subst hA
  have hwr:=HRl.out x hm
  have hzx:=HZ.out.rs x hm
  have HWR:=qH hwr.2
  have HX:=qH (HRA.out i x hx)
  have HSP:=qH (fun wx (hs:Same wr wx)=>ZjE wx x ((HRw.out.rels.pro x hm).same hs) hwr.1 hzx.pro.fit hwr.2)
  clear hwr hzx hm hx
  obtain ⟨xi,xt,xs,xd,xp,xAP,xnP,xcP⟩:=x
  simp only at x0 x1 x2 x3 x4 HSP
  go_upto_region 9 with fail
  have HZR:=qH (Nat.le_refl wr.heap.size)
  generalize hgn:wr.heap.size=gn at HSP ⊢
  have HKB:Hid (Blk (wr.alloc (.cells #[.int .i64 xi,.string xt,.int .i64 xs,.int .i64 xd,.slice xAP xnP xcP] 50)) gn 50 #[.int .i64 xi,.string xt,.int .i64 xs,.int .i64 xd,.slice xAP xnP xcP]):=qH (by rw [<- hgn];exact Blk.new _ _ _)
  have HSB:Hid (Same wr (wr.alloc (.cells #[.int .i64 xi,.string xt,.int .i64 xs,.int .i64 xd,.slice xAP xnP xcP] 50))):=qH (Upd.refl _ wr).alloc _
  generalize (wr.alloc (.cells #[.int .i64 xi,.string xt,.int .i64 xs,.int .i64 xd,.slice xAP xnP xcP] 50))=wB at *
  have d0:wB.cell? ⟨gn,0,none⟩=some (.int .i64 xi):=HKB.out.cell 0
  have d1:wB.cell? ⟨gn,1,none⟩=some (.string xt):=HKB.out.cell 1
  have d2:wB.cell? ⟨gn,2,none⟩=some (.int .i64 xs):=HKB.out.cell 2
  have d3:wB.cell? ⟨gn,3,none⟩=some (.int .i64 xd):=HKB.out.cell 3
  have d4:wB.cell? ⟨gn,4,none⟩=some (.slice xAP xnP xcP):=HKB.out.cell 4
  have HC:=qH (HSP.out wB HSB.out)
  have HRB:=qH (HRw.out.same HSB.out)
  have HBB:=qH (KB.out.same HSB.out)
  obtain ⟨D,hD⟩:∃ D,Zcb (RL.dat ⟨xi,xt,xs,xd,xp,xAP,xnP,xcP⟩)=D:=⟨_,rfl⟩
  rw [hD] at HWR HX
  have hdl:D.length<=1048576:=HWR.out
  have HLT:=qH ((List.getElem?_eq_some_iff.1 HX.out).1)
  have hpl:pre.length=1+nN+i:=ZkO KP.out (by have:=HLT.out;omega)
  have HPL:=qH hpl
  have HTK:=qH fun (y:FR) (hy:y.dat=⟨3,D⟩)=>Zfs (f:=FR.dat) (x:=y) KP.out (by rw [HX.out,hy])
  clear x0 x1 x2 x3 x4 hpl
  refine (wpIn_wide (n:=n)).1 ?_
  gi_wp2_with (refine ⟨trivial,?_⟩;gi_at_call 76;refine (callsIn_wide.2 HC.out).mono ?_;rintro e5 w5 ⟨v5,rfl,hO5,hs5⟩;obtain ⟨A7,c7,rfl⟩:=Zad hO5.out;rw [hD] at hO5 ⊢;have HO5:=qH hO5.out;have HS5:=qH (HSB.out.trans hs5 fun _ _ f=>f);have HRB5:=qH (HRB.out.same hs5);have HBB5:=qH (HBB.out.same hs5);clear hO5 hs5;obtain ⟨fn,tmps,assign,body,hy,hR⟩:=HY.out pre ⟨3,D,A7,D.length,c7⟩ w5 (HJ.out _ _ _ KJ.out (HS5.out.mono fun _ _ f=>f.elim)) ⟨by rw [HPL.out];exact HX.out,OwnB.tyb rfl HO5.out,(show 3<=255 by decide),hdl⟩;have hy1:(Instr.yield l #[.agg #[.int .i64 3,.slice A7 D.length c7]]).run Tryz.prog w5=.ok (.round l fn tmps assign body) w5:=hy;clear hy)
  refine hR.mono ?_
  clear hy1 hR
  rintro e W2 ⟨hkf,h⟩
  rcases h with ⟨rfl,hJ2,hk2⟩ | ⟨rfl,hJx2⟩
  case inr =>
   gi_wp2
   go_wp2_with fail
   refine bodyPost_ret (results_none rfl _ _ _) rfl ?_
   exact ⟨⟨_,rfl⟩,.inr ⟨_,⟨_,HTK.out _ rfl⟩,hJx2⟩⟩
  have HP2:=qH (HTK.out ⟨3,D,A7,D.length,c7⟩ rfl)
  have HJ2:=qH hJ2
  have HR2:=qH (HRB5.out.upd hk2 fun b hb hs=>by have:=hs.1;omega)
  have HB2:=qH (HBB5.out.it hk2 hU)
  have HW2:=qH (Nat.le_trans KW.out (Nat.le_trans HS5.out.size hk2.size))
  clear hJ2 hk2 hkf HRB5 HBB5 HO5 HRB HBB HSB HKB
  gi_wp2
  go_wp2_with fail
  go_roundg (nR-(i+1))
  case measure=>omega
  case rel=>exact ⟨i+1,_,rfl,by omega,by go_num,HP2,HJ2,HR2,HB2,HW2⟩
 obtain rfl:i=nR:=by omega
 go_wp2
 go_end0
 exact ⟨⟨_,rfl⟩,.inl ⟨pre,by rw [KP.out];exact List.take_of_length_le (by rw [HFL.out];exact Nat.le_refl _),KJ.out⟩⟩
end Go.Proofs.YtkopcinhbjimiaaGreatDoor
namespace Go.Proofs.YtkopcinhbjimiaaGreatDoor
open Go.RowKit
theorem ZcP {F:Nat->Prop} (w:World) (g:GR) (h:RdG w F g) (hf:GFit g) {T:Nat} (hT:g.dat.wt=T) (hs:T<=4294967295) (hn1:g.nN<=4294967295) (hn2:g.nR<=4294967295) (all:List UInt8) :
 Calls Tryz.prog 41 #[g.agg,.int .u32 ((crcS all).toNat:Int)] w fun e w'=>∃ v,e=.returned v/\Hid (OwnB w' w.heap.size v (ZaS g.nN g.nR T all))/\Same w w':=by
 rw [ZlT] at hT
 have hs0:=(Upd.refl (fun _=>False) w).alloc (.cells #[.slice g.AN g.nN g.cN,.slice g.AR g.nR g.cR] 26)
 have HB0:=qH (Blk.new w 26 #[.slice g.AN g.nN g.cN,.slice g.AR g.nR g.cR])
 have HR0:=qH ((h.mono (F':=fun b=>b<w.heap.size) fun b h _=>h).same hs0)
 have HF:=qH hf
 have HS0:=qH hs0
 have HZ0:=qH (show w.heap.size<(w.alloc (.cells #[.slice g.AN g.nN g.cN,.slice g.AR g.nR g.cR] 26)).heap.size by rw [World.size_alloc];omega)
 have HWT:=qH hT
 have HWL:=qH (show wsum (g.ns.flatMap ND.props)+wsum (g.rs.flatMap RL.props)<=4611686018427387904 by omega)
 obtain ⟨S,hS⟩:∃ S,crcS all=S:=⟨_,rfl⟩
 have HE:Hid (ZaS g.nN g.nR T all=beb 4 g.nN++beb 4 g.nR++beb 4 T++beb 4 S.toNat):=qH (by
  unfold ZaS
  rw [hS]
  simp only [List.append_assoc])
 rw [hS]
 have hS32:=S.isLt
 clear h hf hT hs0 hS
 obtain ⟨ns,AN,nN,cN,rs,AR,nR,cR⟩:=g
 simp only at hn1 hn2 HB0 HS0 HZ0 HE ⊢
 go_enter Tryz.func41,Tryz.ntmps41
 go_wp2_with fail
 generalize w.alloc (.cells #[.slice AN nN cN,.slice AR nR cR] 26)=w1 at *
 generalize hg:w.heap.size=g at *
 refine (ZbL w1).mono ?_
 rintro e w2 ⟨r,rfl,hw2,hs2⟩
 obtain ⟨v2,hv2⟩:=hw2.open
 have HV2:=qH hv2
 have HS2:=qH (HS0.out.same hs2)
 have HB2:=qH (HB0.out.same hs2)
 have HR2:=qH (HR0.out.same hs2)
 have HO2:=qH (WOn.of hv2)
 have HZ2:=qH hs2.size
 have HUB:=qH fun (bs:List UInt8) (wx:World) (h:WOn w2 w1.heap.size r v2 bs wx)=>HB2.out.upd (h.upd2 HV2.out) (by have:=HZ0.out;omega)
 clear hw2 hs2 hv2 HB0 HR0
 have c0:=HB2.out.cell 0
 go_wp2_with fail
 refine (HO2.out.call fun v3 h3=>Zgc h3 4 nN (by decide) (by simp)).mono ?_
 rintro e w3 ⟨rfl,hw3⟩
 have HO3:=qH hw3
 have c1:w3.cell? ⟨g,1,none⟩=some (.slice AR nR cR):=(HUB.out _ _ hw3).cell 1
 clear c0 hw3 HO2
 go_wp2_with fail
 refine (HO3.out.call fun v3 h3=>Zgc h3 4 nR (by decide) (by simp [Zac])).mono ?_
 rintro e w4 ⟨rfl,hw4⟩
 have HO4:=qH hw4
 have c0:w4.cell? ⟨g,0,none⟩=some (.slice AN nN cN):=(HUB.out _ _ hw4).cell 0
 have c1':w4.cell? ⟨g,1,none⟩=some (.slice AR nR cR):=(HUB.out _ _ hw4).cell 1
 have HR4:=qH (HR2.out.upd (hw4.upd2 HV2.out) fun b hb hs=>by have:=HZ0.out;omega)
 clear c1 hw4 HO3
 go_wp2_with fail
 refine (ZfQ w4 ⟨ns,AN,nN,cN,rs,AR,nR,cR⟩ HR4.out HF.out HWL.out).mono ?_
 rintro e w5 ⟨rfl,hs5⟩
 rw [HWT.out]
 have HO5:=qH (HO4.out.same hs5)
 clear c0 c1' hs5 HO4 HR4
 go_wp2_with fail
 refine (HO5.out.call fun v3 h3=>Zgc h3 4 T (by decide) (by simp [Zac])).mono ?_
 rintro e w6 ⟨rfl,hw6⟩
 have HO6:=qH hw6
 clear hw6 HO5
 go_wp2_with fail
 refine (HO6.out.call fun v3 h3=>Zgc h3 4 S.toNat (by decide) (by simp [Zac])).mono ?_
 rintro e w7 ⟨rfl,hw7⟩
 have HO7:Hid (WOn w2 w1.heap.size r v2 (beb 4 nN++beb 4 nR++beb 4 T++beb 4 S.toNat) w7):=qH hw7
 clear hw7
 obtain ⟨⟨v7,hW7,-⟩,hU7⟩:=HO7.out
 go_wp2_with fail
 refine (ZbF hW7.wtr (by simp [Zac])).mono ?_
 rintro e w8 ⟨v8,rfl,hO8,hs8⟩
 have hz6:=hU7.size
 have hz2:=HZ2.out
 have hz0:=HZ0.out
 have hS:Same w w8:=HS2.out.trans ((HO7.out.upd2 HV2.out).same hs8) fun k hk hs=>by omega
 have HO8:=qH (Zae (base':=w.heap.size) hO8 (by omega))
 have HS8:=qH hS
 clear hO8 hs8 hW7 hU7 hS
 go_wp2
 go_ret
 exact ⟨_,rfl,qH (by rw [<- hg,HE.out];exact HO8.out),HS8.out⟩
theorem Grew.ext {w w1 w2:World} {base k n:Nat} {e:TypeId} {v v':Value} {xs:List Value} (h:Grew w base e k v n xs v' w1) (hu:Same w1 w2):Grew w base e k v n xs v' w2:=⟨Zaa h.own hu,h.upd.same hu,h.block⟩
theorem Zdo.ext {w w1 w2:World} {B:Nat} {v v':Value} {bs:List UInt8} (h:Zdo w B v bs v' w1) (hu:Same w1 w2):Zdo w B v bs v' w2:=Grew.ext h hu
theorem Zdo.next {w w1 w2:World} {B:Nat} {v v1 v2:Value} {bs bs1:List UInt8} (h:Zdo w B v bs v1 w1) (h':Zdo w1 B v1 bs1 v2 w2):Zdo w B v bs1 v2 w2:=Grew.trans h h'
theorem ZnI {w w1 w2:World} {B:Nat} {v1 v2:Value} {bs0 bs:List UInt8} (ho:OwnB w1 B v1 bs0) (hs:Same w w1) (hB:w.heap.size<=B) (hg:Zdo w1 B v1 bs v2 w2):OwnB w2 B v2 bs/\Same w w2 :=
 ⟨hg.own,hs.trans hg.upd fun b hb hh=>by have:=(ho.lt b hh).1;omega⟩
theorem ZkP {F:Nat->Prop} {A:Option Addr} {n c:Nat} {all:List UInt8} (w:World) (n1 n2 n3:Nat) (h1:n1<=4294967295) (h2:n2<=4294967295) (h3:n3<=4294967295) (hb:Bytes w F A n c all) :
 Calls Tryz.prog 46 #[.int .i64 (n1:Int),.int .i64 (n2:Int),.int .i64 (n3:Int),.slice A n c] w fun e w'=>∃ v,e=.returned v/\Hid (OwnB w' w.heap.size v (ZaS n1 n2 n3 all))/\Same w w':=by
 have HY:=qH (hb.mono (F':=fun b=>b<w.heap.size) fun b h _=>h)
 obtain ⟨S,hS⟩:∃ S,crcS all=S:=⟨_,rfl⟩
 have HE:Hid (ZaS n1 n2 n3 all=beb 4 n1++beb 4 n2++beb 4 n3++beb 4 S.toNat):=qH (by
  unfold ZaS
  rw [hS]
  simp only [List.append_assoc])
 have HSS:=qH hS
 have hS32:=S.isLt
 clear hb hS
 go_enter Tryz.func46,Tryz.ntmps46
 go_wp2_with fail
 refine (ZdV n1 w _ (Upd.refl _ _) (by omega)).mono ?_
 rintro e w2 ⟨A2,c2,rfl,HO2,hs2,_⟩
 have HO2':Hid (OwnB w2 w.heap.size (.slice A2 4 c2) (beb 4 n1)):=HO2
 have HS2:=qH hs2
 have HG2:Hid (Zdo w2 w.heap.size (.slice A2 4 c2) (beb 4 n1) (.slice A2 4 c2) w2):=qH (Grew.refl HO2'.out)
 have HL2:=qH fun g (hg:(Value.slice A2 4 c2).ownBlock=some g)=>(HO2'.out.lt g hg).2
 have hz2:=hs2.size
 clear hs2 HO2
 go_wp2_with fail
 refine (ZdV n2 w2 _ (Upd.refl _ _) (by omega)).mono ?_
 rintro e w3 ⟨A3,c3,rfl,HO3,hs3,_⟩
 have HG3:=qH (HG2.out.ext hs3)
 have hz3:=hs3.size
 clear hs3 HG2
 go_wp2_with fail
 refine (Zfj w3 HG3.out.own (by omega) (ZaB (Zac 4 _) HO3.out) (fun b hb e=>by have:=HL2.out b e;have:=hb.2;omega) (by simp [Zac])).mono ?_
 rintro e w4 ⟨v4,rfl,hg4⟩
 have HG4:=qH (HG3.out.next hg4)
 have hz4:=hg4.size
 have HL4:=qH fun g (hg:v4.ownBlock=some g)=>(HG4.out.own.lt g hg).2
 clear hg4 HO3 HG3
 go_wp2_with fail
 refine (ZdV n3 w4 _ (Upd.refl _ _) (by omega)).mono ?_
 rintro e w5 ⟨A5,c5,rfl,HO5,hs5,_⟩
 have HG5:=qH (HG4.out.ext hs5)
 have hz5:=hs5.size
 clear hs5 HG4
 go_wp2_with fail
 refine (Zfj w5 HG5.out.own (by omega) (ZaB (Zac 4 _) HO5.out) (fun b hb e=>by have:=HL4.out b e;have:=hb.2;omega) (by simp [Zac])).mono ?_
 rintro e w6 ⟨v6,rfl,hg6⟩
 have HG6:=qH (HG5.out.next hg6)
 have hz6:=hg6.size
 have HY6:=qH ((HY.out.same HS2.out).upd HG6.out.upd fun b hb e=>by have:=(HO2'.out.lt b e).1;omega)
 have HL6:=qH fun g (hg:v6.ownBlock=some g)=>(HG6.out.own.lt g hg).2
 clear hg6 HO5 HG5
 go_wp2_with fail
 refine (ZfN w6 HY6.out).mono ?_
 rintro e w' ⟨rfl,rfl⟩
 rw [HSS.out]
 go_wp2_with fail
 refine (ZdV S.toNat w6 _ (Upd.refl _ _) (by omega)).mono ?_
 rintro e w7 ⟨A7,c7,rfl,HO7,hs7,_⟩
 have HG7:=qH (HG6.out.ext hs7)
 have hz7:=hs7.size
 clear hs7 HG6
 go_wp2_with fail
 refine (Zfj w7 HG7.out.own (by omega) (ZaB (Zac 4 _) HO7.out) (fun b hb e=>by have:=HL6.out b e;have:=hb.2;omega) (by simp [Zac])).mono ?_
 rintro e w8 ⟨v8,rfl,hg8⟩
 have HG8:=qH (HG7.out.next hg8)
 clear hg8
 go_wp2
 go_ret
 have h1:=ZnI HO2'.out HS2.out (Nat.le_refl _) HG8.out
 exact ⟨_,rfl,qH (by rw [HE.out];exact h1.1),h1.2⟩
end Go.Proofs.YtkopcinhbjimiaaGreatDoor
namespace Go.Proofs.YtkopcinhbjimiaaGreatDoor
theorem Zqc {l r:List UInt8} {f:GFr} (h:oneP l=.ok (some (f,r))):l=Zal f.type f.data++r:=by
 obtain ⟨hp,hr,_⟩:=ZdA h
 rw [hp,hr,List.take_append_drop]
theorem Zpa {l r:List UInt8} {f:GFr} (h:oneP l=.ok (some (f,r))) (c:List UInt8):oneP (l++c)=.ok (some (f,r++c)):=by
 obtain ⟨-,-,-,ht,hd⟩:=ZdA h
 rw [Zqc h,List.append_assoc]
 exact Zgj ht hd
theorem ZkQ (n:Nat):∀ (l c:List UInt8),l.length<=n->(Zab l).2.2=0->Zab (l++c)=((Zab l).1++(Zab ((Zab l).2.1++c)).1,(Zab ((Zab l).2.1++c)).2):=by
 induction n with
 | zero =>
   intro l c hl _
   obtain rfl:l=[]:=List.length_eq_zero_iff.1 (by omega)
   rw [Zbf]
   rfl
 | succ n ih =>
   intro l c hl h
   cases hx:oneP l with
   | error e =>
     rw [Zbs hx] at h
     simp only at h
     have:=Zki hx
     omega
   | ok o =>
     cases o with
     | none=>rw [ZaN hx];rfl
     | some p =>
       obtain ⟨f,r⟩:=p
       have hr:=Zii hx
       rw [ZaG hx] at h ⊢
       rw [ZaG (Zpa hx c),ih r c (by omega) h]
       rfl
theorem ZhV:∀ (fs gs:List GFr) (s:PSt),Zat (fs++gs) s=(match Zat fs s with | .error e=>.error e | .ok s'=>Zat gs s')
 | [],_,_=>rfl
 | f::fs,gs,s=>by
   rw [List.cons_append]
   simp only [Zat]
   cases Zav s f with
   | error e=>rfl
   | ok s1=>exact ZhV fs gs s1
theorem ZfV {l:List UInt8}:∀ (n:Nat),l.length<=n->(Zab l).2.2≠0->(Zab l).2.1≠[]:=by
 intro n
 induction n generalizing l with
 | zero =>
   intro hl h
   obtain rfl:l=[]:=List.length_eq_zero_iff.1 (by omega)
   rw [Zbf] at h
   exact absurd rfl h
 | succ n ih =>
   intro hl h
   cases hx:oneP l with
   | error e =>
     rw [Zbs hx]
     intro he
     subst he
     cases hx
   | ok o =>
     cases o with
     | none=>rw [ZaN hx] at h;exact absurd rfl h
     | some p =>
       obtain ⟨f,r⟩:=p
       have hr:=Zii hx
       rw [ZaG hx] at h ⊢
       exact ih (by omega) h
def Zeg (s:PSt) (l:List UInt8):Except Int PSt :=
 match Zat (Zab l).1 s with
 | .error e=>.error e
 | .ok s' =>
   if s'.state=3 then (if (Zab l).2.1≠[] then .error 11 else .ok s')
   else if (Zab l).2.2≠0 then .error (Zab l).2.2 else .ok s'
def ZcC (b:List UInt8):List UInt8:=(Zab (b.drop 8)).2.1
theorem ZnJ {b:List UInt8} (h:b.length<=16777216) (h8:8<=b.length) (hm:b.take 8=Zau):fedP b=Zeg ⟨0,noG,Zau⟩ (b.drop 8):=by
 unfold fedP Zeg
 rw [if_neg (by omega),if_neg (by omega),if_neg (by simp [hm])]
 cases Zat (Zab (b.drop 8)).1 ⟨0,noG,Zau⟩ <;> rfl
theorem ZcZ {b:List UInt8} (h8:b.length<8):fedP b=.ok ⟨0,noG,b⟩:=by
 unfold fedP
 rw [if_neg (by omega),if_pos h8]
theorem Zft {b:List UInt8} (h:b.length<=16777216) (h8:8<=b.length) (hm:b.take 8≠Zau):fedP b=.error 90:=by
 unfold fedP
 rw [if_neg (by omega),if_neg (by omega),if_pos hm]
theorem Zda {b:List UInt8} (h:16777216<b.length):fedP b=.error 1:=by
 unfold fedP
 rw [if_pos h]
theorem Zey {b:List UInt8} (h8:b.length<=8):ZcC b=[]:=by
 unfold ZcC
 rw [List.drop_of_length_le h8,Zbf]
theorem Zha {b:List UInt8} {s:PSt} (h:fedP b=.ok s) (h8:8<=b.length):b.length<=16777216/\b.take 8=Zau/\(Zab (b.drop 8)).2.2=0/\Zat (Zab (b.drop 8)).1 ⟨0,noG,Zau⟩=.ok s/\(s.state=3->ZcC b=[]):=by
 have h1:b.length<=16777216:=by
  by_cases h1:b.length<=16777216
  · exact h1
  rw [Zda (by omega)] at h;cases h
 have hm:b.take 8=Zau:=by
  by_cases hm:b.take 8=Zau
  · exact hm
  rw [Zft h1 h8 hm] at h;cases h
 rw [ZnJ h1 h8 hm] at h
 unfold Zeg at h
 cases hx:Zat (Zab (b.drop 8)).1 ⟨0,noG,Zau⟩ with
 | error e=>rw [hx] at h;cases h
 | ok s' =>
   rw [hx] at h
   simp only at h
   by_cases hs:s'.state=3
   · rw [if_pos hs] at h
     by_cases hr:(Zab (b.drop 8)).2.1≠[]
     · rw [if_pos hr] at h;cases h
     rw [if_neg hr] at h
     injection h with h
     subst h
     refine ⟨h1,hm,?_,rfl,fun _=>Decidable.not_not.1 hr⟩
     by_cases h2:(Zab (b.drop 8)).2.2=0
     · exact h2
     exact absurd (Decidable.not_not.1 hr) (ZfV _ (Nat.le_refl _) h2)
   rw [if_neg hs] at h
   by_cases he:(Zab (b.drop 8)).2.2≠0
   · rw [if_pos he] at h;cases h
   rw [if_neg he] at h
   injection h with h
   subst h
   exact ⟨h1,hm,Decidable.not_not.1 he,rfl,fun h3=>absurd h3 hs⟩
theorem ZnK {b c:List UInt8} {s:PSt} (h:fedP b=.ok s) (h8:8<=b.length) (hl:(b++c).length<=16777216):fedP (b++c)=Zeg s (ZcC b++c)/\ZcC (b++c)=(Zab (ZcC b++c)).2.1:=by
 obtain ⟨h1,hm,he,ht,hr⟩:=Zha h h8
 have hd:(b++c).drop 8=b.drop 8++c:=List.drop_append_of_le_length h8
 have hf:=ZkQ (b.drop 8).length (b.drop 8) c (Nat.le_refl _) he
 constructor
 · rw [ZnJ hl (by rw [List.length_append];omega) (by rw [List.take_append_of_le_length h8];exact hm),hd]
   unfold Zeg
   rw [hf]
   simp only
   rw [ZhV,ht]
   rfl
 unfold ZcC
 rw [hd,hf]
theorem Zgm {b:List UInt8} {s:PSt} (h:fedP b=.ok s):s.all++ZcC b=b:=by
 by_cases h8:b.length<8
 · rw [ZcZ h8] at h
   injection h with h
   rw [<- h,Zey (by omega)]
   simp
 obtain ⟨h1,hm,he,ht,hr⟩:=Zha h (by omega)
 have hall:=ZhU _ _ _ ht
 have hfl:=ZdI (b.drop 8).length (b.drop 8) (Nat.le_refl _)
 unfold ZcC
 rw [hall,List.append_assoc,<-hfl]
 simp only
 rw [<- hm,List.take_append_drop]
end Go.Proofs.YtkopcinhbjimiaaGreatDoor
namespace Go.Proofs.YtkopcinhbjimiaaGreatDoor
open Go.RowKit
theorem RS.num_lt (s:RS) (k:Nat):(s.num k).1<256 ^ k:=by
 unfold RS.num
 simp only
 have h1:=Zdp (s.take (k:Int) (Zam k)).1
 have h2:(s.take (k:Int) (Zam k)).1.length<=k:=by
  unfold RS.take
  split
  · split
    · simp
    split
    · simp
    simp only [List.length_take]
    omega
  simp
 exact Nat.lt_of_lt_of_le h1 (Nat.pow_le_pow_right (by omega) h2)
theorem RS.num1_lt (s:RS):(s.num 1).1<256:=RS.num_lt s 1
theorem RS.num2_lt (s:RS):(s.num 2).1<65536:=RS.num_lt s 2
theorem RS.num4_lt (s:RS):(s.num 4).1<4294967296:=RS.num_lt s 4
theorem RS.take_left_le (s:RS) (n:Int) (b:Bool):(s.take n b).2.left.length<=s.left.length:=by
 unfold RS.take
 split
 · split
   · simp
   split
   · simp
   simp
 simp
theorem RS.num_left_le (s:RS) (n:Int):(s.num n).2.left.length<=s.left.length:=RS.take_left_le s n _
theorem RS.name_left_le (s:RS):s.name.2.left.length<=s.left.length:=Nat.le_trans (RS.take_left_le _ _ _) (RS.num_left_le s 1)
theorem RS.raw2_left_le (s:RS):s.raw2.2.left.length<=s.left.length:=Nat.le_trans (RS.take_left_le _ _ _) (RS.num_left_le s 2)
theorem ZdK {w:World} {F:Nat->Prop} {r:Nat} {s:RS} (h:Rdr w F r s) (hF:¬ F r) (hs:s.left.length<=140737488355328) :
 Calls Tryz.prog 164 #[.pointer (some ⟨r,0,none⟩)] w fun e w'=>e=.returned (.string s.name.1)/\Rdr w' F r s.name.2/\Upd (fun b=>b=r) w w':=by
 have HR:=qH h
 have HF:=qH hF
 have hlt:=RS.num1_lt s
 have hll:=RS.num_left_le s 1
 have HN:=qH (show s.name=(⟨((s.num 1).2.take ((s.num 1).1:Int) true).1.toArray⟩,((s.num 1).2.take ((s.num 1).1:Int) true).2) from rfl)
 generalize s.name=nm at HN ⊢
 clear h hF
 go_enter Tryz.func164,Tryz.ntmps164
 go_wp2_with fail
 refine (Zbb HR.out HF.out 1).mono ?_
 rintro e w1 ⟨rfl,hr1,hu1⟩
 have HR1:=qH hr1
 have HU1:=qH hu1
 clear hr1 hu1 HR
 generalize s.num 1=S1 at *
 obtain ⟨k,s1⟩:=S1
 simp only at hlt hll HN HR1 ⊢
 go_wp2_with fail
 refine (Zge HR1.out HF.out (by omega) (k:Int)).mono ?_
 rintro e w2 ⟨v2,rfl,hO,hr2,hu2⟩
 obtain ⟨A2,c2,rfl⟩:=Zad hO
 have hcv:=Zay (ZaM hO)
 have HR2:=qH hr2
 have HU2:=qH (HU1.out.trans hu2 fun _ _ hh=>hh)
 clear hO hr2 hu2
 go_wp2
 go_ret
 refine ⟨?_,by rw [HN.out];exact HR2.out,HU2.out⟩
 rw [HN.out]
 rfl
theorem Zpb {w:World} {F:Nat->Prop} {r:Nat} {s:RS} (h:Rdr w F r s) {E:Int} (hE:(if s.err=0/\s.left≠[] then 11 else s.err)=E) :
 Calls Tryz.prog 190 #[.pointer (some ⟨r,0,none⟩)] w fun e w'=>e=.returned (.int .i64 E)/\Same w w':=by
 obtain ⟨A,n,c,hb,hy⟩:=h
 have h0:=hb.cell 0
 have h1:=hb.cell 1
 have hl:=hy.len
 obtain ⟨left,err⟩:=s
 simp only [List.getElem?_toArray,List.getElem?_cons_succ,List.getElem?_cons_zero] at h0 h1 hl hE
 have HS:=qH (Upd.refl (fun _=>False) w)
 by_cases he:err=0
 · subst he
   by_cases hn:n=0
   · subst hn
     rw [if_neg (by simp [List.length_eq_zero_iff.1 hl])] at hE
     subst hE
     have hd:decide ((0:Int)<((0:Nat):Int))=false:=by decide
     have hd2:decide (0<0)=false:=by decide
     clear hl hb hy
     go_enter Tryz.func190,Tryz.ntmps190
     go_wp2
     go_ret
     exact ⟨rfl,HS.out⟩
   have hpos:0<n:=by omega
   rw [if_pos ⟨rfl,by intro e;rw [e] at hl;simp at hl;omega⟩] at hE
   subst hE
   have hposI:(0:Int)<(n:Int):=by omega
   clear hl hb hy
   go_enter Tryz.func190,Tryz.ntmps190
   go_wp2
   go_ret
   exact ⟨rfl,HS.out⟩
 rw [if_neg (by simp [he])] at hE
 subst hE
 have he':(err==0)=false:=by simpa using he
 clear hl hb hy
 go_enter Tryz.func190,Tryz.ntmps190
 go_wp2
 go_ret
 exact ⟨rfl,HS.out⟩
theorem Zqd {w:World} {F:Nat->Prop} {r:Nat} {s:RS} (h:Rdr w F r s):OfT w 235 r:=by
 obtain ⟨A,n,c,hb,_⟩:=h
 exact ⟨_,hb⟩
theorem Rdr.narrow {w:World} {F:Nat->Prop} {r:Nat} {s:RS} (h:Rdr w F r s):Rdr w (fun b=>F b/\b<w.heap.size) r s:=by
 obtain ⟨A,n,c,hb,hy⟩:=h
 exact ⟨A,n,c,hb,Row.mono hy fun b h1 h2=>⟨h2,h1⟩⟩
def Zix (s:RS) (w:World) (v:Value) (ok:Bool) (w':World):Prop :=
 ∃ ps,ZbJ w' w.heap.size v ps/\(ok=true->s.props=some (ps.map PR.dat))/\(ok=false->s.props=none)
theorem ZeV {w:World} {F:Nat->Prop} {r:Nat} {s:RS} (h:Rdr w F r s) (hF:¬ F r) (hs:s.left.length<=140737488355328) :
 Calls Tryz.prog 165 #[.pointer (some ⟨r,0,none⟩)] w fun e w'=>∃ v ok,e=.returned (.tuple #[v,.bool ok])/\Hid (Zix s w v ok w')/\Upd (fun b=>b=r) w w':=by
 have HR:=qH h.narrow
 have HF:=qH (fun h:F r/\r<w.heap.size=>hF h.1)
 have hlt:=RS.num1_lt s
 have hll:=RS.num_left_le s 1
 have HrL:=qH h.lt
 have HP:=qH (show s.props=if (RS.prs (s.num 1).1 (s.num 1).2).2.err=0/\(RS.prs (s.num 1).1 (s.num 1).2).2.left=[] then (RS.prs (s.num 1).1 (s.num 1).2).1 else none from rfl)
 have HPR:=qH (show ∀ v ok w',Zix s w v ok w'↔∃ ps,ZbJ w' w.heap.size v ps/\(ok=true->s.props=some (ps.map PR.dat))/\(ok=false->s.props=none) from fun v ok w'=>Iff.rfl)
 generalize Zix s w=PRes at HPR ⊢
 generalize s.props=prs at HP HPR
 clear h hF
 go_enter Tryz.func165,Tryz.ntmps165
 go_wp2_with fail
 refine (Zbb HR.out HF.out 1).mono ?_
 rintro e w1 ⟨rfl,hr1,hu1⟩
 have HR1:=qH hr1
 have HU1:=qH hu1
 clear hr1 hu1
 generalize s.num 1=S1 at *
 obtain ⟨n,s1⟩:=S1
 simp only at hlt hll HP HR1 ⊢
 go_wp2_with fail
 go_loopg [9,2] n (fun gh ix s2 wr=>∃ (k:Nat) (Ao:Option Addr) (co:Nat) (sk:RS) (ps:List PR),n-k=gh/\k<=n/\ix=.int .u64 k/\s2=.slice Ao k co/\Hid (ps.length=k)/\Hid (Rdr wr (fun b=>F b/\b<w.heap.size) r sk)/\Hid (sk.left.length<=140737488355328)/\Hid (ZbJ wr w.heap.size (.slice Ao k co) ps)/\Hid (RS.prs n s1=((RS.prs (n-k) sk).1.map ((ps.map PR.dat)++·),(RS.prs (n-k) sk).2))/\Hid (Upd (fun b=>b=r) w wr))
 case atStart=>exact ⟨0,none,0,s1,[],rfl,Nat.zero_le _,rfl,rfl,qH rfl,HR1,qH (by omega),qH (ZbJ.nil_ _ _),qH (by simp),HU1⟩
 obtain ⟨k,Ao,co,sk,ps,rfl,hk,rfl,rfl,KL,KR,KLn,KO,KP,KU⟩:=hrel
 by_cases hlk:k<n
 · have hnk:n-k=(n-(k+1))+1:=by omega
   have HK:=qH (show RS.prs n s1=(if (decA sk.name.2.raw2.1).2≠0 then (none,sk.name.2.raw2.2) else (((RS.prs (n-(k+1)) sk.name.2.raw2.2).1.map (⟨sk.name.1,(decA sk.name.2.raw2.1).1⟩::·)).map ((ps.map PR.dat)++·),(RS.prs (n-(k+1)) sk.name.2.raw2.2).2)) by
    rw [KP.out,hnk]
    simp only [RS.prs]
    split <;> rfl)
   have hnl:=RS.name_left_le sk
   have hrl:=RS.raw2_left_le sk.name.2
   have HKL:=KLn.out
   clear hnk
   go_wp2_with fail
   refine (ZdK KR.out HF.out KLn.out).mono ?_
   rintro e w2 ⟨rfl,hr2,hu2⟩
   have HR2:=qH hr2
   have HU2:=qH hu2
   have hlt2:=RS.num2_lt sk.name.2
   have hll2:=RS.num_left_le sk.name.2 2
   have HRW:=qH (show sk.name.2.raw2=(sk.name.2.num 2).2.take ((sk.name.2.num 2).1:Int) true from rfl)
   clear hr2 hu2
   generalize sk.name=NM at *
   obtain ⟨key,s2⟩:=NM
   simp only at hnl hrl hlt2 hll2 HK HR2 HRW ⊢
   go_wp2_with fail
   refine (Zbb HR2.out HF.out 2).mono ?_
   rintro e w3 ⟨rfl,hr3,hu3⟩
   have HR3:=qH hr3
   have HU3:=qH (HU2.out.trans hu3 fun _ _ hh=>hh)
   clear hr3 hu3
   generalize s2.num 2=S3 at *
   obtain ⟨m,s3⟩:=S3
   simp only at hlt2 hll2 HRW HR3 ⊢
   go_wp2_with fail
   refine (Zge HR3.out HF.out (by omega) (m:Int)).mono ?_
   rintro e w4 ⟨v4,rfl,hO,hr4,hu4⟩
   rw [<- HRW.out] at hO hr4
   generalize s2.raw2=S4 at *
   obtain ⟨bs,s4⟩:=S4
   simp only at hO hr4 hrl HK
   obtain ⟨A4,c4,rfl⟩:=Zad hO
   have HY4:=qH (ZaM hO)
   have HR4:=qH hr4
   have HU4:=qH (HU3.out.trans hu4 fun _ _ hh=>hh)
   clear hO hr4 hu4
   have HD:=qH (show decD bs.length (decP (bs.take 40082))=decA bs by rw [ZmU _ (Nat.le_refl _)];rfl)
   generalize hdv:decA bs=D at *
   obtain ⟨g,er⟩:=D
   simp only at HK
   have HDV:=qH hdv
   clear hdv
   go_wp2_with fail
   refine (Zka w4 HY4.out (g,er) HD.out).mono ?_
   rintro e w5 ⟨v5,rfl,hN5,hs5⟩
   obtain ⟨A1,c1,A2,c2,rfl,-⟩:=(show ∃ A1 c1 A2 c2,v5=g.val A1 g.nums.length c1 A2 g.texts.length c2/\True from by
    obtain ⟨v1,v2,rfl,h1,h2⟩:=hN5
    obtain ⟨A1,c1,rfl⟩:=Zad h1
    obtain ⟨A2,c2,rfl⟩:=Zad h2
    exact ⟨A1,c1,A2,c2,rfl,trivial⟩)
   have HN5:=qH hN5
   have HR5:=qH (HR4.out.same hs5)
   have HU5:=qH (HU4.out.same hs5)
   have HO5:=qH (KO.out.type HU5.out (fun b _ hb=>by rw [hb];exact Zqd KR.out) (by decide) (by decide) (by decide))
   have HZ5:=qH (Nat.le_trans HU4.out.size (Nat.le_refl _))
   have HZw:=qH KU.out.size
   clear hN5 hs5 HY4 HR4 HR3 HU3 HR2 HU2 HU4 KR KO
   go_upto_region 5 with fail
   have hsa:=(Upd.refl (fun _=>False) w5).alloc (.cells #[.int .i64 g.kind,.int .i64 g.num,.string g.text,.slice A1 g.nums.length c1,.slice A2 g.texts.length c2] 46)
   have HB6:=qH (Blk.new w5 46 #[.int .i64 g.kind,.int .i64 g.num,.string g.text,.slice A1 g.nums.length c1,.slice A2 g.texts.length c2])
   have HR6:=qH (HR5.out.same hsa)
   have HU6:=qH (HU5.out.same hsa)
   have HO6:=qH (HO5.out.same hsa)
   have HN6:Hid (er=0->ZbC (w5.alloc (.cells #[.int .i64 g.kind,.int .i64 g.num,.string g.text,.slice A1 g.nums.length c1,.slice A2 g.texts.length c2] 46)) w.heap.size ⟨key,g,A1,g.nums.length,c1,A2,g.texts.length,c2⟩):=qH fun he=>by
    obtain ⟨v1,v2,hv,h1,h2⟩:=HN5.out
    injection hv with hv
    simp only [Array.mk.injEq,List.cons.injEq,and_true,true_and] at hv
    obtain ⟨rfl,rfl⟩:=hv
    have hf:=(ZeK (l:=bs) (by rw [HDV.out];exact he)).2.1
    rw [HDV.out] at hf
    have hz:w.heap.size<=w4.heap.size:=Nat.le_trans HZw.out HZ5.out
    exact ⟨Zaa (Zae h1 hz) hsa,Zaa (Zae h2 hz) hsa,⟨hf.kind,hf.num,hf.range⟩⟩
   clear hsa HN5 HR5 HU5 HO5
   generalize w5.alloc (.cells #[.int .i64 g.kind,.int .i64 g.num,.string g.text,.slice A1 g.nums.length c1,.slice A2 g.texts.length c2] 46)=w6 at *
   generalize w5.heap.size=g6 at *
   by_cases he:er=0
   · subst he
     have HX6:=qH (HN6.out rfl)
     have HK2:=qH (HK.out.trans (if_neg (by simp)))
     have p0:=HB6.out.cell 0
     have p1:=HB6.out.cell 1
     have p2:=HB6.out.cell 2
     have p3:=HB6.out.cell 3
     have p4:=HB6.out.cell 4
     simp only [List.getElem?_toArray,List.getElem?_cons_succ,List.getElem?_cons_zero] at p0 p1 p2 p3 p4
     obtain ⟨x,hx⟩:∃ x:PR,x=⟨key,g,A1,g.nums.length,c1,A2,g.texts.length,c2⟩:=⟨_,rfl⟩
     have hsa:=(Upd.refl (fun _=>False) w6).alloc (.cells x.cells.toArray 48)
     have HXd:=qH (show x.dat=⟨key,g⟩ by rw [hx];rfl)
     have HOa:=qH (HO6.out.same hsa)
     have HXa:=qH (show ZbC (w6.alloc (.cells x.cells.toArray 48)) w.heap.size x by rw [hx];exact (by have h1:=HX6.out.same hsa;rw [hx] at h1;exact h1))
     have HRa:=qH (HR6.out.same hsa)
     have HUa:=qH (HU6.out.same hsa)
     have hrow:(w6.alloc (.cells x.cells.toArray 48)).ownsRow w.heap.size 48 6 (.slice Ao k co) k (ps.flatMap PR.cells):=by have h1:=HOa.out.row;rw [KL.out] at h1;exact h1
     have HROW:=qH hrow
     have hxc:x.cells.toArray=#[.string key,.int .i64 g.kind,.int .i64 g.num,.string g.text,.slice A1 g.nums.length c1,.slice A2 g.texts.length c2]:=by rw [hx];rfl
     have HROW2:=HROW.out
     rw [hxc] at HROW2
     have HROW2:=qH HROW2
     have HSRC:=qH (Row.pr w6 x)
     have HXC:=qH hxc
     have hk255:k<255:=by omega
     have hzz:w.heap.size<=w6.heap.size:=Nat.le_trans HZw.out HU6.out.size
     clear hsa hrow hxc hx HN6 HK HDV
     go_wp2_with (at_builtin;go_must (refine Zaf rfl (.tmp 24) (.tmp 28) _ _ rfl w.heap.size 48 6 96 _ Tryz.underlying41 ZgE rfl (.slice Ao k co) k _ rfl HROW2.out rfl (Zan Tryz.underlying41 (by have h1:=HSRC.out;rw [HXC.out] at h1;exact h1) (PR.one x)) (by unfold maxLen;omega) (by omega) (by simp;omega) ?_);intro v9 w9 hg;rw [<- HXC.out] at hg;have HG:=qH hg;clear hg)
     obtain ⟨A9,c9,rfl⟩:=Zad HG.out.own
     have HOn:=qH (HOa.out.snoc (x:=x) (by rw [KL.out];exact HG.out) HXa.out)
     have HRn:=qH (HRa.out.upd HG.out.upd (fun hh=>by
      have h1:=HROW.out.lt _ hh
      have h2:=HrL.out
      omega) (fun b hb hh=>by have:=(HROW.out.lt _ hh).1;omega))
     have HUn:=qH ((KU.out.trans HUa.out fun _ _ hh=>hh).trans HG.out.upd fun b hb hh=>by have:=(HROW.out.lt _ hh).1;omega)
     have HKn:Hid (RS.prs n s1=((RS.prs (n-(k+1)) s4).1.map (((ps++[x]).map PR.dat)++·),(RS.prs (n-(k+1)) s4).2)):=qH (by
      rw [HK2.out]
      simp only [Option.map_map,List.map_append,List.map_cons,List.map_nil,HXd.out]
      congr 2
      funext l
      simp)
     have hl4:s4.left.length<=140737488355328:=by omega
     go_wp2
     go_roundg (n-(k+1))
     case measure=>omega
     case rel=>exact ⟨k+1,A9,c9,s4,ps++[x],rfl,by omega,by go_num,rfl,qH (by simp [KL.out]),HRn,qH hl4,HOn,HKn,HUn⟩
   have hne:(er != 0)=true:=by rw [bne_iff_ne];exact he
   have HK2:=qH (HK.out.trans (if_pos he))
   go_wp2
   go_ret2
   refine ⟨_,_,rfl,qH ((HPR.out _ _ _).2 ⟨[],ZbJ.nil_ _ _,(fun h=>by cases h),fun _=>?_⟩),KU.out.trans HU6.out fun _ _ hh=>hh⟩
   rw [HP.out,HK2.out]
   simp
 obtain rfl:k=n:=by omega
 obtain ⟨E,hE⟩:∃ E,(if sk.err=0/\sk.left≠[] then 11 else sk.err)=E:=⟨_,rfl⟩
 have HE:=qH hE
 have HK:=qH (show prs=if sk.err=0/\sk.left=[] then some (ps.map PR.dat) else none by
  rw [HP.out,KP.out,Nat.sub_self]
  simp [RS.prs])
 clear hE
 go_wp2_with fail
 refine (Zpb KR.out HE.out).mono ?_
 rintro e w2 ⟨rfl,hs2⟩
 have HO2:=qH (KO.out.same hs2)
 have HU2:=qH (KU.out.same hs2)
 clear hs2
 by_cases he:E=0
 · subst he
   have HY:=qH (show prs=some (ps.map PR.dat) by
    rw [HK.out,if_pos]
    have h1:=HE.out
    by_cases h2:sk.err=0
    · refine ⟨h2,?_⟩
      by_cases h3:sk.left=[]
      · exact h3
      rw [if_pos ⟨h2,h3⟩] at h1;cases h1
    rw [if_neg (by simp [h2])] at h1;exact absurd h1 h2)
   go_wp2
   go_ret2
   exact ⟨_,_,rfl,qH ((HPR.out _ _ _).2 ⟨ps,HO2.out,(fun _=>HY.out),(fun h=>by cases h)⟩),HU2.out⟩
 have hne:(E==0)=false:=by simpa using he
 have HY:=qH (show prs=none by
  rw [HK.out,if_neg]
  rintro ⟨h2,h3⟩
  have h1:=HE.out
  rw [if_neg (by simp [h3]),h2] at h1
  exact he h1.symm)
 clear he
 go_wp2
 go_ret2
 exact ⟨_,_,rfl,qH ((HPR.out _ _ _).2 ⟨ps,HO2.out,(fun h=>by cases h),fun _=>HY.out⟩),HU2.out⟩
end Go.Proofs.YtkopcinhbjimiaaGreatDoor
