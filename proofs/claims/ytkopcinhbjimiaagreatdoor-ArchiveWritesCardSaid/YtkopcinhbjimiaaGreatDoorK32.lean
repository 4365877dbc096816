/- Texts that the claim leans on: walks and plain laws, function by function. -/
import Derived.Test.YtkopcinhbjimiaaGreatDoorK11
import Derived.Test.YtkopcinhbjimiaaGreatDoorK30
import Derived.Test.YtkopcinhbjimiaaGreatDoorK31
import Derived.Test.YtkopcinhbjimiaaGreatDoorK10
import Derived.Test.YtkopcinhbjimiaaGreatDoorK15
import Derived.Laws.IdiomStrings
import Derived.Test.YtkopcinhbjimiaaGreatDoorK01
set_option maxRecDepth 100000
set_option maxHeartbeats 16000000
namespace Go.Proofs.YtkopcinhbjimiaaGreatDoor
open Go.RowKit Go.Shelf
attribute [local go_sem] Oper.semAt_some
def FR.args (x:FR):Array Value:=#[.agg #[.int .i64 (x.type:Int),.slice x.A x.n x.c]]
structure FrAt (L:List GFr) (pre:List FR) (x:FR) (W:World):Prop where
 at_:L[pre.length]?=some x.dat
 row:Bytes W (TyB W 0) x.A x.n x.c x.data
 type:x.type<=255
 le:x.n<=1048576
theorem OwnB.tyb {w:World} {B n c:Nat} {A:Option Addr} {bs:List UInt8} (hn:bs.length=n) (h:OwnB w B (.slice A n c) bs):Bytes w (TyB w 0) A n c bs :=
 Row.mono (own_bytes_n hn h) fun b hl hb=>⟨Nat.zero_le _,hl,by
  obtain ⟨cs,h1⟩:=own_ofT h (g:=b) (by have h9:A=some ⟨b,0,none⟩:=hb.1;rw [h9];rfl)
  exact ⟨cs,_,h1⟩⟩
theorem frs_at0 (g:GGraph):(frs g)[0]?=some ⟨1,[0,1]⟩:=rfl
theorem frs_atN {g:GGraph} {i:Nat} {x:GNode} (h:g.nodes[i]?=some x):(frs g)[1+i]?=some ⟨2,encNd x⟩:=by
 unfold frs
 rw [Nat.add_comm,List.getElem?_cons_succ,List.getElem?_append_left (by have:=(List.getElem?_eq_some_iff.1 h).1;simpa using this),List.getElem?_map,h]
 rfl
theorem frs_atR {g:GGraph} {i:Nat} {x:GRel} (h:g.rels[i]?=some x):(frs g)[1+g.nodes.length+i]?=some ⟨3,encRl x⟩:=by
 unfold frs
 rw [show 1+g.nodes.length+i=(g.nodes.length+i)+1 by omega,List.getElem?_cons_succ,List.getElem?_append_right (by simp),List.length_map,Nat.add_sub_cancel_left,List.getElem?_map,h]
 rfl
theorem frs_len (g:GGraph):(frs g).length=1+g.nodes.length+g.rels.length:=by
 unfold frs
 simp
 omega
theorem take_at {α β:Type} {f:α->β} {L:List β} {pre:List α} {k:Nat} {x:α} (h:pre.map f=L.take k) (hx:L[k]?=some (f x)):(pre++[x]).map f=L.take (k+1):=by
 rw [List.map_append,h,List.take_add_one,hx]
 rfl
theorem pre_len {α β:Type} {f:α->β} {L:List β} {pre:List α} {k:Nat} (h:pre.map f=L.take k) (hk:k<=L.length):pre.length=k:=by
 have h1:=congrArg List.length h
 rw [List.length_map,List.length_take] at h1
 omega
theorem frames_seq (n:Nat) (hn:1<=n) (w:World) (B0 gB:Nat) (g:GR) (hR:RdG w (fun b=>b<B0) g) (hRt:RightD g.dat) (hz:GSized g)
 (hB:Blk w gB 26 #[.slice g.AN g.nN g.cN,.slice g.AR g.nR g.cR]) (U:TypeId->Prop) (hU:¬ U 26) :
 SeqR (fun _=>False) Fence.wide n Tryz.prog 74 #[.pointer (some ⟨gB,0,none⟩)] FR.args (fun _ W W'=>Upd (ItSet U B0 W) W W') (FrAt (frs g.dat))
  (fun xs=>xs.map FR.dat=frs g.dat) (fun pre=>∃ k,pre.map FR.dat=(frs g.dat).take k) w:=fun l J Jx W hW hJ hJx hY h0=>by
 obtain ⟨ns,AN,nN,cN,rs,AR,nR,cR⟩:=g
 have hs0:Same w W:=Same.of_below hW
 have HRG:=qH (hR.same hs0)
 have HB:=qH (hB.same hs0)
 have HRt:=qH hRt
 have HZ:=qH hz
 have HJ:=qH hJ
 have HY:=qH hY
 have H0:=qH h0
 have hnn:nN<=1024:=by have h1:=hRt.nN;have h2:ns.length=nN:=hR.nodes.len;simp only [GR.dat,List.length_map] at h1;omega
 have hnr:nR<=2048:=by have h1:=hRt.nR;have h2:rs.length=nR:=hR.rels.len;simp only [GR.dat,List.length_map] at h1;omega
 have HLN:Hid (ns.length=nN):=qH hR.nodes.len
 have HLR:Hid (rs.length=nR):=qH hR.rels.len
 have HFL:Hid ((frs (GR.dat ⟨ns,AN,nN,cN,rs,AR,nR,cR⟩)).length=1+nN+nR):=qH (by rw [frs_len];simp [GR.dat,HLN.out,HLR.out])
 have HLD:Hid ((GR.dat ⟨ns,AN,nN,cN,rs,AR,nR,cR⟩).nodes.length=nN):=qH (by simp [GR.dat,HLN.out])
 have HNA:Hid (∀ i x,ns[i]?=some x->(frs (GR.dat ⟨ns,AN,nN,cN,rs,AR,nR,cR⟩))[1+i]?=some ⟨2,encNd x.dat⟩):=qH fun i x hx=>frs_atN (by simp [GR.dat,hx])
 have HRA:Hid (∀ i x,rs[i]?=some x->(frs (GR.dat ⟨ns,AN,nN,cN,rs,AR,nR,cR⟩))[1+nN+i]?=some ⟨3,encRl x.dat⟩):=qH fun i x hx=>by
  have h1:=frs_atR (g:=GR.dat ⟨ns,AN,nN,cN,rs,AR,nR,cR⟩) (i:=i) (x:=x.dat) (by simp [GR.dat,hx])
  rwa [HLD.out] at h1
 have HF0:Hid ((frs (GR.dat ⟨ns,AN,nN,cN,rs,AR,nR,cR⟩))[0]?=some ⟨1,[0,1]⟩):=qH (frs_at0 _)
 obtain ⟨L,hL⟩:∃ L,frs (GR.dat ⟨ns,AN,nN,cN,rs,AR,nR,cR⟩)=L:=⟨_,rfl⟩
 rw [hL] at HFL HNA HRA HF0 HY ⊢
 have HNd:=qH fun x (hx:x∈ns)=>hRt.nd (x:=x.dat) (List.mem_map_of_mem hx)
 have HRl:=qH fun x (hx:x∈rs)=>hRt.rl (x:=x.dat) (List.mem_map_of_mem hx)
 have s1:=(Upd.refl (fun _=>False) W).alloc (.cells #[.int .u8 0,.int .u8 1] 5)
 have hb1:Bytes (W.alloc (.cells #[.int .u8 0,.int .u8 1] 5)) (TyB (W.alloc (.cells #[.int .u8 0,.int .u8 1] 5)) 0) (some ⟨W.heap.size,0,none⟩) 2 2 [0,1] :=
  Row.mono (Row.of_blk (Blk.new W 5 #[.int .u8 0,.int .u8 1]) rfl (Nat.le_refl _) (by simp [maxLen])) fun b hl hb=>⟨Nat.zero_le _,hl,by subst hb;exact ⟨_,_,Blk.new W _ _⟩⟩
 have HY1:=qH (hY [] ⟨1,[0,1],some ⟨W.heap.size,0,none⟩,2,2⟩ _ (hJ _ _ _ h0 s1.it) ⟨by rw [hL];exact HF0.out,hb1,(show 1<=255 by decide),(show 2<=1048576 by decide)⟩)
 have HR1:=qH (HRG.out.same s1)
 have HB1:=qH (HB.out.same s1)
 clear hR hRt hz hB hW hs0 hJ hY h0 hJx hL s1 hb1 HRG HB
 refine callsIn_wide.2 ?_
 go_enter Tryz.func74,Tryz.ntmps74
 refine (wpIn_wide (n:=n)).1 ?_
 obtain ⟨fn,tmps,assign,body,hy,hR⟩:=HY1.out
 have hy1:(Instr.yield l #[.agg #[.int .i64 1,.slice (some ⟨W.heap.size,0,none⟩) 2 2]]).run Tryz.prog (W.alloc (.cells #[.int .u8 0,.int .u8 1] 5))=.ok (.round l fn tmps assign body) (W.alloc (.cells #[.int .u8 0,.int .u8 1] 5)):=hy
 clear hy HY1
 gi_wp2
 refine hR.mono ?_
 clear hy1 hR
 rintro e W1 ⟨hkf,h⟩
 rcases h with ⟨rfl,hJ1,hk1⟩ | ⟨rfl,hJx1⟩
 case inr =>
  gi_wp2
  refine bodyPost_ret (results_none rfl _ _ _) rfl ?_
  exact ⟨⟨_,rfl⟩,.inr ⟨_,⟨1,take_at (f:=FR.dat) (pre:=[]) (k:=0) (x:=⟨1,[0,1],some ⟨W.heap.size,0,none⟩,2,2⟩) rfl HF0.out⟩,hJx1⟩⟩
 have HP1:Hid ([(⟨1,[0,1],some ⟨W.heap.size,0,none⟩,2,2⟩:FR)].map FR.dat=L.take 1):=qH (take_at (f:=FR.dat) (pre:=[]) (k:=0) (x:=⟨1,[0,1],some ⟨W.heap.size,0,none⟩,2,2⟩) rfl HF0.out)
 have HJ1:=qH hJ1
 have HW1:=qH (show W.heap.size<=W1.heap.size from Nat.le_trans (by rw [World.size_alloc];omega) hk1.size)
 replace HR1:=qH (HR1.out.upd hk1 fun b hb hs=>by have:=hs.1;omega)
 replace HB1:=qH (HB1.out.it hk1 hU)
 have q0:W1.cell? ⟨gB,0,none⟩=some (.slice AN nN cN):=HB1.out.cell 0
 clear hJ1 hk1 hkf
 gi_wp2_with fail
 clear q0
 refine wpIn_wide.2 ?_
 go_loopg [15] nN (fun gh s wr=>∃ (i:Nat) (pre:List FR),nN-i=gh/\i<=nN/\s=.int .i64 (i:Int)/\Hid (pre.map FR.dat=L.take (1+i))/\Hid (J pre wr)/\Hid (RdG wr (fun b=>b<B0) ⟨ns,AN,nN,cN,rs,AR,nR,cR⟩)/\Hid (Blk wr gB 26 #[.slice AN nN cN,.slice AR nR cR])/\Hid (W.heap.size<=wr.heap.size))
 case atStart=>exact ⟨0,_,rfl,Nat.zero_le _,rfl,HP1,HJ1,HR1,HB1,HW1⟩
 clear HP1 HJ1 HR1 HB1 HW1
 obtain ⟨i,pre,rfl,hi,rfl,KP,KJ,HRw,KB,KW⟩:=hrel
 by_cases hin:i<nN
 case pos =>
  have j1:(i:Int)<(nN:Int):=by omega
  have hwi:IntKind.i64.wrap ((i:Int)+1)=((i+1:Nat):Int):=by rw [IntKind.wrap_i64];omega
  obtain ⟨b,o,x,hA,hb,hF,hx,hm,x0,x1,x2⟩:=HRw.out.nodes.at_ hin
  simp only at hA
  subst hA
  have hwr:=HNd.out x hm
  have hzx:=HZ.out.ns x hm
  have HWR:=qH hwr.2
  have HX:=qH (HNA.out i x hx)
  have HSP:=qH (fun wx (hs:Same wr wx)=>nodeData_spec wx x ((HRw.out.nodes.lab x hm).same hs) ((HRw.out.nodes.pro x hm).same hs) hwr.1 hzx.pro.fit hwr.2)
  clear hwr hzx hm hx
  obtain ⟨xi,xl,xAL,xnL,xcL,xp,xAP,xnP,xcP⟩:=x
  simp only at x0 x1 x2 HSP
  go_upto_region 4 with fail
  have HZR:=qH (Nat.le_refl wr.heap.size)
  generalize hgn:wr.heap.size=gn at HSP ⊢
  have HKB:Hid (Blk (wr.alloc (.cells #[.int .i64 xi,.slice xAL xnL xcL,.slice xAP xnP xcP] 43)) gn 43 #[.int .i64 xi,.slice xAL xnL xcL,.slice xAP xnP xcP]):=qH (by rw [<- hgn];exact Blk.new _ _ _)
  have HSB:Hid (Same wr (wr.alloc (.cells #[.int .i64 xi,.slice xAL xnL xcL,.slice xAP xnP xcP] 43))):=qH (Upd.refl _ wr).alloc _
  generalize (wr.alloc (.cells #[.int .i64 xi,.slice xAL xnL xcL,.slice xAP xnP xcP] 43))=wB at *
  have d0:wB.cell? ⟨gn,0,none⟩=some (.int .i64 xi):=HKB.out.cell 0
  have d1:wB.cell? ⟨gn,1,none⟩=some (.slice xAL xnL xcL):=HKB.out.cell 1
  have d2:wB.cell? ⟨gn,2,none⟩=some (.slice xAP xnP xcP):=HKB.out.cell 2
  have HC:=qH (HSP.out wB HSB.out)
  have HRB:=qH (HRw.out.same HSB.out)
  have HBB:=qH (KB.out.same HSB.out)
  obtain ⟨D,hD⟩:∃ D,encNd (ND.dat ⟨xi,xl,xAL,xnL,xcL,xp,xAP,xnP,xcP⟩)=D:=⟨_,rfl⟩
  rw [hD] at HWR HX
  have hdl:D.length<=1048576:=HWR.out
  have HLT:=qH ((List.getElem?_eq_some_iff.1 HX.out).1)
  have hpl:pre.length=1+i:=pre_len KP.out (by have:=HLT.out;omega)
  have HPL:=qH hpl
  have HTK:=qH fun (y:FR) (hy:y.dat=⟨2,D⟩)=>take_at (f:=FR.dat) (x:=y) KP.out (by rw [HX.out,hy])
  clear x0 x1 x2 hpl
  refine (wpIn_wide (n:=n)).1 ?_
  gi_wp2_with (refine ⟨trivial,?_⟩;gi_at_call 75;refine (callsIn_wide.2 HC.out).mono ?_;rintro e5 w5 ⟨v5,rfl,hO5,hs5⟩;obtain ⟨A7,c7,rfl⟩:=own_form hO5.out;rw [hD] at hO5 ⊢;have HO5:=qH hO5.out;have HS5:=qH (HSB.out.trans hs5 fun _ _ f=>f);have HRB5:=qH (HRB.out.same hs5);have HBB5:=qH (HBB.out.same hs5);clear hO5 hs5;obtain ⟨fn,tmps,assign,body,hy,hR⟩:=HY.out pre ⟨2,D,A7,D.length,c7⟩ w5 (HJ.out _ _ _ KJ.out (HS5.out.mono fun _ _ f=>f.elim)) ⟨by rw [HPL.out];exact HX.out,OwnB.tyb rfl HO5.out,(show 2<=255 by decide),hdl⟩;have hy1:(Instr.yield l #[.agg #[.int .i64 2,.slice A7 D.length c7]]).run Tryz.prog w5=.ok (.round l fn tmps assign body) w5:=hy;clear hy)
  refine hR.mono ?_
  clear hy1 hR
  rintro e W2 ⟨hkf,h⟩
  rcases h with ⟨rfl,hJ2,hk2⟩ | ⟨rfl,hJx2⟩
  case inr =>
   gi_wp2
   go_wp2_with fail
   refine bodyPost_ret (results_none rfl _ _ _) rfl ?_
   exact ⟨⟨_,rfl⟩,.inr ⟨_,⟨_,HTK.out _ rfl⟩,hJx2⟩⟩
  have HP2:=qH (HTK.out ⟨2,D,A7,D.length,c7⟩ rfl)
  have HJ2:=qH hJ2
  have HR2:=qH (HRB5.out.upd hk2 fun b hb hs=>by have:=hs.1;omega)
  have HB2:=qH (HBB5.out.it hk2 hU)
  have HW2:=qH (Nat.le_trans KW.out (Nat.le_trans HS5.out.size hk2.size))
  clear hJ2 hk2 hkf HRB5 HBB5 HO5 HRB HBB HSB HKB
  gi_wp2
  go_wp2_with fail
  go_roundg (nN-(i+1))
  case measure=>omega
  case rel=>exact ⟨i+1,_,rfl,by omega,by go_num,HP2,HJ2,HR2,HB2,HW2⟩
 obtain rfl:i=nN:=by omega
 clear hin hi
 generalize i=nN at *
 go_wp2_with fail
 refine wpIn_wide.2 ?_
 have q1:wr.cell? ⟨gB,1,none⟩=some (.slice AR nR cR):=KB.out.cell 1
 go_wp2_with fail
 clear q1
 generalize wr=wA at *
 go_loopg [29] nR (fun gh s wr=>∃ (i:Nat) (pre:List FR),nR-i=gh/\i<=nR/\s=.int .i64 (i:Int)/\Hid (pre.map FR.dat=L.take (1+nN+i))/\Hid (J pre wr)/\Hid (RdG wr (fun b=>b<B0) ⟨ns,AN,nN,cN,rs,AR,nR,cR⟩)/\Hid (Blk wr gB 26 #[.slice AN nN cN,.slice AR nR cR])/\Hid (W.heap.size<=wr.heap.size))
 case atStart=>exact ⟨0,pre,rfl,Nat.zero_le _,rfl,KP,KJ,HRw,KB,KW⟩
 clear KP KJ HRw KB KW
 obtain ⟨i,pre,rfl,hi,rfl,KP,KJ,HRw,KB,KW⟩:=hrel
 by_cases hin:i<nR
 case pos =>
  have j1:(i:Int)<(nR:Int):=by omega
  have hwi:IntKind.i64.wrap ((i:Int)+1)=((i+1:Nat):Int):=by rw [IntKind.wrap_i64];omega
  obtain ⟨b,o,x,hA,hb,hF,hx,hm,x0,x1,x2,x3,x4⟩:=HRw.out.rels.at_ hin
  simp only at hA
  subst hA
  have hwr:=HRl.out x hm
  have hzx:=HZ.out.rs x hm
  have HWR:=qH hwr.2
  have HX:=qH (HRA.out i x hx)
  have HSP:=qH (fun wx (hs:Same wr wx)=>relData_spec wx x ((HRw.out.rels.pro x hm).same hs) hwr.1 hzx.pro.fit hwr.2)
  clear hwr hzx hm hx
  obtain ⟨xi,xt,xs,xd,xp,xAP,xnP,xcP⟩:=x
  simp only at x0 x1 x2 x3 x4 HSP
  go_upto_region 9 with fail
  have HZR:=qH (Nat.le_refl wr.heap.size)
  generalize hgn:wr.heap.size=gn at HSP ⊢
  have HKB:Hid (Blk (wr.alloc (.cells #[.int .i64 xi,.string xt,.int .i64 xs,.int .i64 xd,.slice xAP xnP xcP] 50)) gn 50 #[.int .i64 xi,.string xt,.int .i64 xs,.int .i64 xd,.slice xAP xnP xcP]):=qH (by rw [<- hgn];exact Blk.new _ _ _)
  have HSB:Hid (Same wr (wr.alloc (.cells #[.int .i64 xi,.string xt,.int .i64 xs,.int .i64 xd,.slice xAP xnP xcP] 50))):=qH (Upd.refl _ wr).alloc _
  generalize (wr.alloc (.cells #[.int .i64 xi,.string xt,.int .i64 xs,.int .i64 xd,.slice xAP xnP xcP] 50))=wB at *
  have d0:wB.cell? ⟨gn,0,none⟩=some (.int .i64 xi):=HKB.out.cell 0
  have d1:wB.cell? ⟨gn,1,none⟩=some (.string xt):=HKB.out.cell 1
  have d2:wB.cell? ⟨gn,2,none⟩=some (.int .i64 xs):=HKB.out.cell 2
  have d3:wB.cell? ⟨gn,3,none⟩=some (.int .i64 xd):=HKB.out.cell 3
  have d4:wB.cell? ⟨gn,4,none⟩=some (.slice xAP xnP xcP):=HKB.out.cell 4
  have HC:=qH (HSP.out wB HSB.out)
  have HRB:=qH (HRw.out.same HSB.out)
  have HBB:=qH (KB.out.same HSB.out)
  obtain ⟨D,hD⟩:∃ D,encRl (RL.dat ⟨xi,xt,xs,xd,xp,xAP,xnP,xcP⟩)=D:=⟨_,rfl⟩
  rw [hD] at HWR HX
  have hdl:D.length<=1048576:=HWR.out
  have HLT:=qH ((List.getElem?_eq_some_iff.1 HX.out).1)
  have hpl:pre.length=1+nN+i:=pre_len KP.out (by have:=HLT.out;omega)
  have HPL:=qH hpl
  have HTK:=qH fun (y:FR) (hy:y.dat=⟨3,D⟩)=>take_at (f:=FR.dat) (x:=y) KP.out (by rw [HX.out,hy])
  clear x0 x1 x2 x3 x4 hpl
  refine (wpIn_wide (n:=n)).1 ?_
  gi_wp2_with (refine ⟨trivial,?_⟩;gi_at_call 76;refine (callsIn_wide.2 HC.out).mono ?_;rintro e5 w5 ⟨v5,rfl,hO5,hs5⟩;obtain ⟨A7,c7,rfl⟩:=own_form hO5.out;rw [hD] at hO5 ⊢;have HO5:=qH hO5.out;have HS5:=qH (HSB.out.trans hs5 fun _ _ f=>f);have HRB5:=qH (HRB.out.same hs5);have HBB5:=qH (HBB.out.same hs5);clear hO5 hs5;obtain ⟨fn,tmps,assign,body,hy,hR⟩:=HY.out pre ⟨3,D,A7,D.length,c7⟩ w5 (HJ.out _ _ _ KJ.out (HS5.out.mono fun _ _ f=>f.elim)) ⟨by rw [HPL.out];exact HX.out,OwnB.tyb rfl HO5.out,(show 3<=255 by decide),hdl⟩;have hy1:(Instr.yield l #[.agg #[.int .i64 3,.slice A7 D.length c7]]).run Tryz.prog w5=.ok (.round l fn tmps assign body) w5:=hy;clear hy)
  refine hR.mono ?_
  clear hy1 hR
  rintro e W2 ⟨hkf,h⟩
  rcases h with ⟨rfl,hJ2,hk2⟩ | ⟨rfl,hJx2⟩
  case inr =>
   gi_wp2
   go_wp2_with fail
   refine bodyPost_ret (results_none rfl _ _ _) rfl ?_
   exact ⟨⟨_,rfl⟩,.inr ⟨_,⟨_,HTK.out _ rfl⟩,hJx2⟩⟩
  have HP2:=qH (HTK.out ⟨3,D,A7,D.length,c7⟩ rfl)
  have HJ2:=qH hJ2
  have HR2:=qH (HRB5.out.upd hk2 fun b hb hs=>by have:=hs.1;omega)
  have HB2:=qH (HBB5.out.it hk2 hU)
  have HW2:=qH (Nat.le_trans KW.out (Nat.le_trans HS5.out.size hk2.size))
  clear hJ2 hk2 hkf HRB5 HBB5 HO5 HRB HBB HSB HKB
  gi_wp2
  go_wp2_with fail
  go_roundg (nR-(i+1))
  case measure=>omega
  case rel=>exact ⟨i+1,_,rfl,by omega,by go_num,HP2,HJ2,HR2,HB2,HW2⟩
 obtain rfl:i=nR:=by omega
 go_wp2
 go_end0
 exact ⟨⟨_,rfl⟩,.inl ⟨pre,by rw [KP.out];exact List.take_of_length_le (by rw [HFL.out];exact Nat.le_refl _),KJ.out⟩⟩
end Go.Proofs.YtkopcinhbjimiaaGreatDoor
namespace Go.Proofs.YtkopcinhbjimiaaGreatDoor
open Go.RowKit
theorem trailData_spec {F:Nat->Prop} (w:World) (g:GR) (h:RdG w F g) (hf:GFit g) {T:Nat} (hT:g.dat.wt=T) (hs:T<=4294967295) (hn1:g.nN<=4294967295) (hn2:g.nR<=4294967295) (all:List UInt8) :
 Calls Tryz.prog 41 #[g.agg,.int .u32 ((crcS all).toNat:Int)] w fun e w'=>∃ v,e=.returned v/\Hid (OwnB w' w.heap.size v (trailP g.nN g.nR T all))/\Same w w':=by
 rw [wt_dat] at hT
 have hs0:=(Upd.refl (fun _=>False) w).alloc (.cells #[.slice g.AN g.nN g.cN,.slice g.AR g.nR g.cR] 26)
 have HB0:=qH (Blk.new w 26 #[.slice g.AN g.nN g.cN,.slice g.AR g.nR g.cR])
 have HR0:=qH ((h.mono (F':=fun b=>b<w.heap.size) fun b h _=>h).same hs0)
 have HF:=qH hf
 have HS0:=qH hs0
 have HZ0:=qH (show w.heap.size<(w.alloc (.cells #[.slice g.AN g.nN g.cN,.slice g.AR g.nR g.cR] 26)).heap.size by rw [World.size_alloc];omega)
 have HWT:=qH hT
 have HWL:=qH (show wsum (g.ns.flatMap ND.props)+wsum (g.rs.flatMap RL.props)<=4611686018427387904 by omega)
 obtain ⟨S,hS⟩:∃ S,crcS all=S:=⟨_,rfl⟩
 have HE:Hid (trailP g.nN g.nR T all=beb 4 g.nN++beb 4 g.nR++beb 4 T++beb 4 S.toNat):=qH (by
  unfold trailP
  rw [hS]
  simp only [List.append_assoc])
 rw [hS]
 have hS32:=S.isLt
 clear h hf hT hs0 hS
 obtain ⟨ns,AN,nN,cN,rs,AR,nR,cR⟩:=g
 simp only at hn1 hn2 HB0 HS0 HZ0 HE ⊢
 go_enter Tryz.func41,Tryz.ntmps41
 go_wp2_with fail
 generalize w.alloc (.cells #[.slice AN nN cN,.slice AR nR cR] 26)=w1 at *
 generalize hg:w.heap.size=g at *
 refine (newWriter_spec w1).mono ?_
 rintro e w2 ⟨r,rfl,hw2,hs2⟩
 obtain ⟨v2,hv2⟩:=hw2.open
 have HV2:=qH hv2
 have HS2:=qH (HS0.out.same hs2)
 have HB2:=qH (HB0.out.same hs2)
 have HR2:=qH (HR0.out.same hs2)
 have HO2:=qH (WOn.of hv2)
 have HZ2:=qH hs2.size
 have HUB:=qH fun (bs:List UInt8) (wx:World) (h:WOn w2 w1.heap.size r v2 bs wx)=>HB2.out.upd (h.upd2 HV2.out) (by have:=HZ0.out;omega)
 clear hw2 hs2 hv2 HB0 HR0
 have c0:=HB2.out.cell 0
 go_wp2_with fail
 refine (HO2.out.call fun v3 h3=>wnumN h3 4 nN (by decide) (by simp)).mono ?_
 rintro e w3 ⟨rfl,hw3⟩
 have HO3:=qH hw3
 have c1:w3.cell? ⟨g,1,none⟩=some (.slice AR nR cR):=(HUB.out _ _ hw3).cell 1
 clear c0 hw3 HO2
 go_wp2_with fail
 refine (HO3.out.call fun v3 h3=>wnumN h3 4 nR (by decide) (by simp [beb_len])).mono ?_
 rintro e w4 ⟨rfl,hw4⟩
 have HO4:=qH hw4
 have c0:w4.cell? ⟨g,0,none⟩=some (.slice AN nN cN):=(HUB.out _ _ hw4).cell 0
 have c1':w4.cell? ⟨g,1,none⟩=some (.slice AR nR cR):=(HUB.out _ _ hw4).cell 1
 have HR4:=qH (HR2.out.upd (hw4.upd2 HV2.out) fun b hb hs=>by have:=HZ0.out;omega)
 clear c1 hw4 HO3
 go_wp2_with fail
 refine (weightG_spec w4 ⟨ns,AN,nN,cN,rs,AR,nR,cR⟩ HR4.out HF.out HWL.out).mono ?_
 rintro e w5 ⟨rfl,hs5⟩
 rw [HWT.out]
 have HO5:=qH (HO4.out.same hs5)
 clear c0 c1' hs5 HO4 HR4
 go_wp2_with fail
 refine (HO5.out.call fun v3 h3=>wnumN h3 4 T (by decide) (by simp [beb_len])).mono ?_
 rintro e w6 ⟨rfl,hw6⟩
 have HO6:=qH hw6
 clear hw6 HO5
 go_wp2_with fail
 refine (HO6.out.call fun v3 h3=>wnumN h3 4 S.toNat (by decide) (by simp [beb_len])).mono ?_
 rintro e w7 ⟨rfl,hw7⟩
 have HO7:Hid (WOn w2 w1.heap.size r v2 (beb 4 nN++beb 4 nR++beb 4 T++beb 4 S.toNat) w7):=qH hw7
 clear hw7
 obtain ⟨⟨v7,hW7,-⟩,hU7⟩:=HO7.out
 go_wp2_with fail
 refine (wbytes_spec hW7.wtr (by simp [beb_len])).mono ?_
 rintro e w8 ⟨v8,rfl,hO8,hs8⟩
 have hz6:=hU7.size
 have hz2:=HZ2.out
 have hz0:=HZ0.out
 have hS:Same w w8:=HS2.out.trans ((HO7.out.upd2 HV2.out).same hs8) fun k hk hs=>by omega
 have HO8:=qH (own_base (base':=w.heap.size) hO8 (by omega))
 have HS8:=qH hS
 clear hO8 hs8 hW7 hU7 hS
 go_wp2
 go_ret
 exact ⟨_,rfl,qH (by rw [<- hg,HE.out];exact HO8.out),HS8.out⟩
theorem Grew.ext {w w1 w2:World} {base k n:Nat} {e:TypeId} {v v':Value} {xs:List Value} (h:Grew w base e k v n xs v' w1) (hu:Same w1 w2):Grew w base e k v n xs v' w2:=⟨own_same h.own hu,h.upd.same hu,h.block⟩
theorem GrewB.ext {w w1 w2:World} {B:Nat} {v v':Value} {bs:List UInt8} (h:GrewB w B v bs v' w1) (hu:Same w1 w2):GrewB w B v bs v' w2:=Grew.ext h hu
theorem GrewB.next {w w1 w2:World} {B:Nat} {v v1 v2:Value} {bs bs1:List UInt8} (h:GrewB w B v bs v1 w1) (h':GrewB w1 B v1 bs1 v2 w2):GrewB w B v bs1 v2 w2:=Grew.trans h h'
end Go.Proofs.YtkopcinhbjimiaaGreatDoor
namespace Go.Proofs.YtkopcinhbjimiaaGreatDoor
theorem oneP_eq {l r:List UInt8} {f:GFr} (h:oneP l=.ok (some (f,r))):l=packP f.type f.data++r:=by
 obtain ⟨hp,hr,_⟩:=oneP_pack h
 rw [hp,hr,List.take_append_drop]
theorem oneP_app {l r:List UInt8} {f:GFr} (h:oneP l=.ok (some (f,r))) (c:List UInt8):oneP (l++c)=.ok (some (f,r++c)):=by
 obtain ⟨-,-,-,ht,hd⟩:=oneP_pack h
 rw [oneP_eq h,List.append_assoc]
 exact oneP_enc ht hd
theorem framesP_app (n:Nat):∀ (l c:List UInt8),l.length<=n->(framesP l).2.2=0->framesP (l++c)=((framesP l).1++(framesP ((framesP l).2.1++c)).1,(framesP ((framesP l).2.1++c)).2):=by
 induction n with
 | zero =>
   intro l c hl _
   obtain rfl:l=[]:=List.length_eq_zero_iff.1 (by omega)
   rw [framesP_nil]
   rfl
 | succ n ih =>
   intro l c hl h
   cases hx:oneP l with
   | error e =>
     rw [framesP_err hx] at h
     simp only at h
     have:=oneP_ne hx
     omega
   | ok o =>
     cases o with
     | none=>rw [framesP_none hx];rfl
     | some p =>
       obtain ⟨f,r⟩:=p
       have hr:=oneP_lt hx
       rw [framesP_some hx] at h ⊢
       rw [framesP_some (oneP_app hx c),ih r c (by omega) h]
       rfl
theorem takesP_app:∀ (fs gs:List GFr) (s:PSt),takesP (fs++gs) s=(match takesP fs s with | .error e=>.error e | .ok s'=>takesP gs s')
 | [],_,_=>rfl
 | f::fs,gs,s=>by
   rw [List.cons_append]
   simp only [takesP]
   cases takeP s f with
   | error e=>rfl
   | ok s1=>exact takesP_app fs gs s1
theorem framesP_left {l:List UInt8}:∀ (n:Nat),l.length<=n->(framesP l).2.2≠0->(framesP l).2.1≠[]:=by
 intro n
 induction n generalizing l with
 | zero =>
   intro hl h
   obtain rfl:l=[]:=List.length_eq_zero_iff.1 (by omega)
   rw [framesP_nil] at h
   exact absurd rfl h
 | succ n ih =>
   intro hl h
   cases hx:oneP l with
   | error e =>
     rw [framesP_err hx]
     intro he
     subst he
     cases hx
   | ok o =>
     cases o with
     | none=>rw [framesP_none hx] at h;exact absurd rfl h
     | some p =>
       obtain ⟨f,r⟩:=p
       have hr:=oneP_lt hx
       rw [framesP_some hx] at h ⊢
       exact ih (by omega) h
def feedP (s:PSt) (l:List UInt8):Except Int PSt :=
 match takesP (framesP l).1 s with
 | .error e=>.error e
 | .ok s' =>
   if s'.state=3 then (if (framesP l).2.1≠[] then .error 11 else .ok s')
   else if (framesP l).2.2≠0 then .error (framesP l).2.2 else .ok s'
def restP (b:List UInt8):List UInt8:=(framesP (b.drop 8)).2.1
theorem fedP_8 {b:List UInt8} (h:b.length<=16777216) (h8:8<=b.length) (hm:b.take 8=magicP):fedP b=feedP ⟨0,noG,magicP⟩ (b.drop 8):=by
 unfold fedP feedP
 rw [if_neg (by omega),if_neg (by omega),if_neg (by simp [hm])]
 cases takesP (framesP (b.drop 8)).1 ⟨0,noG,magicP⟩ <;> rfl
theorem fedP_short {b:List UInt8} (h8:b.length<8):fedP b=.ok ⟨0,noG,b⟩:=by
 unfold fedP
 rw [if_neg (by omega),if_pos h8]
theorem fedP_magic {b:List UInt8} (h:b.length<=16777216) (h8:8<=b.length) (hm:b.take 8≠magicP):fedP b=.error 90:=by
 unfold fedP
 rw [if_neg (by omega),if_neg (by omega),if_pos hm]
theorem fedP_long {b:List UInt8} (h:16777216<b.length):fedP b=.error 1:=by
 unfold fedP
 rw [if_pos h]
theorem restP_short {b:List UInt8} (h8:b.length<=8):restP b=[]:=by
 unfold restP
 rw [List.drop_of_length_le h8,framesP_nil]
theorem fedP_ok {b:List UInt8} {s:PSt} (h:fedP b=.ok s) (h8:8<=b.length):b.length<=16777216/\b.take 8=magicP/\(framesP (b.drop 8)).2.2=0/\takesP (framesP (b.drop 8)).1 ⟨0,noG,magicP⟩=.ok s/\(s.state=3->restP b=[]):=by
 have h1:b.length<=16777216:=by
  by_cases h1:b.length<=16777216
  · exact h1
  rw [fedP_long (by omega)] at h;cases h
 have hm:b.take 8=magicP:=by
  by_cases hm:b.take 8=magicP
  · exact hm
  rw [fedP_magic h1 h8 hm] at h;cases h
 rw [fedP_8 h1 h8 hm] at h
 unfold feedP at h
 cases hx:takesP (framesP (b.drop 8)).1 ⟨0,noG,magicP⟩ with
 | error e=>rw [hx] at h;cases h
 | ok s' =>
   rw [hx] at h
   simp only at h
   by_cases hs:s'.state=3
   · rw [if_pos hs] at h
     by_cases hr:(framesP (b.drop 8)).2.1≠[]
     · rw [if_pos hr] at h;cases h
     rw [if_neg hr] at h
     injection h with h
     subst h
     refine ⟨h1,hm,?_,rfl,fun _=>Decidable.not_not.1 hr⟩
     by_cases h2:(framesP (b.drop 8)).2.2=0
     · exact h2
     exact absurd (Decidable.not_not.1 hr) (framesP_left _ (Nat.le_refl _) h2)
   rw [if_neg hs] at h
   by_cases he:(framesP (b.drop 8)).2.2≠0
   · rw [if_pos he] at h;cases h
   rw [if_neg he] at h
   injection h with h
   subst h
   exact ⟨h1,hm,Decidable.not_not.1 he,rfl,fun h3=>absurd h3 hs⟩
theorem fedP_more {b c:List UInt8} {s:PSt} (h:fedP b=.ok s) (h8:8<=b.length) (hl:(b++c).length<=16777216):fedP (b++c)=feedP s (restP b++c)/\restP (b++c)=(framesP (restP b++c)).2.1:=by
 obtain ⟨h1,hm,he,ht,hr⟩:=fedP_ok h h8
 have hd:(b++c).drop 8=b.drop 8++c:=List.drop_append_of_le_length h8
 have hf:=framesP_app (b.drop 8).length (b.drop 8) c (Nat.le_refl _) he
 constructor
 · rw [fedP_8 hl (by rw [List.length_append];omega) (by rw [List.take_append_of_le_length h8];exact hm),hd]
   unfold feedP
   rw [hf]
   simp only
   rw [takesP_app,ht]
   rfl
 unfold restP
 rw [hd,hf]
theorem fedP_all {b:List UInt8} {s:PSt} (h:fedP b=.ok s):s.all++restP b=b:=by
 by_cases h8:b.length<8
 · rw [fedP_short h8] at h
   injection h with h
   rw [<- h,restP_short (by omega)]
   simp
 obtain ⟨h1,hm,he,ht,hr⟩:=fedP_ok h (by omega)
 have hall:=takesP_all _ _ _ ht
 have hfl:=framesP_flat (b.drop 8).length (b.drop 8) (Nat.le_refl _)
 unfold restP
 rw [hall,List.append_assoc,<-hfl]
 simp only
 rw [<- hm,List.take_append_drop]
end Go.Proofs.YtkopcinhbjimiaaGreatDoor
