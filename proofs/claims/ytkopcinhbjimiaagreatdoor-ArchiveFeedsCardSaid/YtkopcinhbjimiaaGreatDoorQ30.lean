/- Texts that the claim leans on: walks and plain laws, function by function. -/
import Derived.Lib.SlBytesConst
import Derived.Test.YtkopcinhbjimiaaGreatDoorQ29
set_option maxRecDepth 100000
set_option maxHeartbeats 16000000
namespace Go.Proofs.YtkopcinhbjimiaaGreatDoor
open Go.RowKit Go.Shelf
attribute [local go_sem] Oper.semAt_some
theorem YieldAt.deep {F:Fence} (hd:F.depth=none) {m:Nat} (m':Nat) {P:Program} {l:Nat} {args:Array Value} {W:World} {R:Ending->World->Prop} (h:YieldAt F m P l args W R):YieldAt F m' P l args W R:=by
 obtain ⟨fn,tmps,assign,body,hy,h1,h2⟩:=h
 exact ⟨fn,tmps,assign,body,hy,h1,fun c cs _=>h2 c cs fun d h=>by rw [hd] at h;cases h⟩
theorem YieldAt.inRound {F:Fence} {m:Nat} (l':Nat) {P:Program} {l:Nat} {args:Array Value} {W:World} {R:Ending->World->Prop} (h:YieldAt F m P l args W R):YieldAt (F.inRound l') m P l args W R:=h
def FzB (w:World) (x:BS):Prop:=∀ a,x.A=some a->a.off=0/\∃ cs fr,w.heap[a.block]?=some (.cells cs 5 fr)/\(fr.1=fr.2\/cs.size<=fr.1)
theorem FzB.of {w:World} {B n c:Nat} {A:Option Addr} {bs:List UInt8} (h:OwnB w B (.slice A n c) bs):FzB w ⟨bs,A,n,c⟩:=fun a ha=>by
 rcases h.2 with ⟨hv,_⟩ | ⟨g,cap,cur,hv,_,hg,_⟩
 · injection hv with h1
   rw [show A=some a from ha] at h1
   cases h1
 injection hv with h1
 rw [show A=some a from ha] at h1
 injection h1 with h1
 subst h1
 exact ⟨rfl,_,_,hg,.inl rfl⟩
theorem FzB.upd {S:Nat->Prop} {w w':World} {x:BS} (h:FzB w x) (hu:Upd S w w') (hS:∀ b cs fr,w.heap[b]?=some (.cells cs 5 fr)->¬ S b):FzB w' x:=fun a ha=>by
 obtain ⟨h0,cs,fr,h1,h2⟩:=h a ha
 exact ⟨h0,cs,fr,(hu.block _ (Array.getElem?_eq_some_iff.1 h1).1 (hS _ _ _ h1)).trans h1,h2⟩
theorem FzB.lit (w:World) (l:List UInt8) {cs:Array Value} {fr:Nat×Nat} (hc:cs.size<=fr.1) {n:Nat}:FzB (w.alloc (.cells cs 5 fr)) ⟨l,some ⟨w.heap.size,0,none⟩,n,n⟩:=fun a ha=>by
 cases ha
 exact ⟨rfl,cs,fr,World.alloc_heap_new w _,.inr hc⟩
theorem ZqJ {w:World} {d:Nat} {bs:List UInt8} (h:Dig w d bs):∀ b cs fr,w.heap[b]?=some (.cells cs 5 fr)->¬ b=d:=fun b cs fr h1 e=>by
 subst e
 have h2:w.heap[b]?=some (.cells _ _ _):=h
 rw [h1] at h2
 injection h2 with h2
 injection h2 with _ h3
 exact absurd h3 (by decide)
structure StU (U:TypeId->Prop):Prop where
 g:¬ U 26
 d:¬ U 121
 p:¬ U 77
 y:¬ U 58
def TDig (t:TypeId):Prop:=t=121
theorem Dig.it {T:TypeId->Prop} {B d:Nat} {bs:List UInt8} {W W':World} (h:Dig W d bs) (hu:Upd (ZaH T B W) W W') (ht:¬ T 121):Dig W' d bs:=Blk.it h hu ht
theorem Nib.it {T:TypeId->Prop} {B:Nat} {W W':World} (h:Nib W) (hu:Upd (ZaH T B W) W W') (hB:1<B):Nib W':=h.upd hu fun hs=>by have:=hs.1;omega
theorem RdG.it {T:TypeId->Prop} {B B0:Nat} {W W':World} {g:GR} (h:RdG W (fun b=>b<B0) g) (hu:Upd (ZaH T B W) W W') (hB:B0<=B):RdG W' (fun b=>b<B0) g:=h.upd hu fun b hb hs=>by have:=hs.1;omega
theorem ZjJ (w:World) (g:GR):Calls Tryz.prog 39 #[g.agg] w fun e w'=>e=.returned (.func (.func 74) #[] #[.pointer (some ⟨w.heap.size,0,none⟩)])/\w'=w.alloc (.cells #[.slice g.AN g.nN g.cN,.slice g.AR g.nR g.cR] 26):=by
 have hmf:∀ (fn:Fn) (first cap:Array Value) (w:World),(Instr.makeFunc fn first cap).run Tryz.prog w=.ok (.func fn first cap) w:=fun _ _ _ _=>rfl
 obtain ⟨ns,AN,nN,cN,rs,AR,nR,cR⟩:=g
 go_enter Tryz.func39,Tryz.ntmps39
 go_wp2
 go_ret
 exact ⟨rfl,rfl⟩
structure StI (J:List BS->World->Prop) (H:List (List UInt8)) (F0:List GFr) (B0 g0 gB dB d l:Nat) (G:GR) (pre:List FR) (preO:List BS) (W:World):Prop where
 j:J preO W
 prf:pre.map FR.dat=F0.take pre.length
 out:preO.map BS.data=H.take (1+pre.length)
 y:Blk W g0 58 #[.func (.yield l) #[] #[]]
 g:Blk W gB 26 #[.slice G.AN G.nN G.cN,.slice G.AR G.nR G.cR]
 p:Blk W dB 77 #[.pointer (some ⟨d,0,none⟩)]
 d:Dig W d (H.take (1+pre.length)).flatten
 rd:RdG W (fun b=>b<B0) G
 n:Nib W
theorem StI.it {J:List BS->World->Prop} {H:List (List UInt8)} {F0:List GFr} {B0 g0 gB dB d l:Nat} {G:GR} {pre:List FR} {preO:List BS} {W W':World} (hJ:AbR TDig g0 J) {m:Nat} (hm:g0<=m) (hB:B0<=g0) (hn:1<B0)
 (h:StI J H F0 B0 g0 gB dB d l G pre preO W) (hu:Upd (ZaH (fun _=>False) m W) W W'):StI J H F0 B0 g0 gB dB d l G pre preO W' :=
 ⟨hJ _ _ _ h.j (hu.mono fun _ _ hs=>hs.mono hm fun _ f=>f.elim),h.prf,h.out,h.y.it hu fun f=>f,h.g.it hu fun f=>f,h.p.it hu fun f=>f,h.d.it hu fun f=>f,h.rd.it hu (by omega),h.n.it hu (by omega)⟩
theorem ZjK (L:List (List UInt8)) (k:Nat):(L.take k).flatten.length<=L.flatten.length:=by
 have h:=congrArg (fun L:List (List UInt8)=>L.flatten.length) (List.take_append_drop k L)
 simp only [List.flatten_append,List.length_append] at h
 omega
theorem Zhd (g:Zak):(ZaE g).length=1+(frs g).length:=by
 unfold ZaE frs
 simp
 omega
theorem Ziz {g:Zak} {i:Nat} {f:GFr} (h:(frs g)[i]?=some f):(ZaE g)[1+i]?=some (Zal f.type f.data):=by
 have e:ZaE g=Zau::(frs g).map fun f=>Zal f.type f.data:=by
  unfold ZaE frs
  simp
  rfl
 rw [e,Nat.add_comm,List.getElem?_cons_succ,List.getElem?_map,h]
 rfl
theorem ZaH.or {U:TypeId->Prop} {B:Nat} {W W1 W2:World} (h1:Upd (ZaH (fun t=>U t\/t=121) B W) W W1) (h2:Upd (ZaH U B W1) W1 W2):Upd (ZaH (fun t=>U t\/t=121) B W) W W2 :=
 ZaH.trans h1 (h2.mono fun _ _ h=>h.mono (Nat.le_refl _) fun _ h=>.inl h)
theorem ZmB {U:TypeId->Prop} (hU:StU U) (w:World) (B0 eB gB:Nat) (g:GR) (e:Int) (hRG:RdG w (fun b=>b<B0) g) (hz:e=0->ZcW g) (hRt:e=0->Zcc g.dat)
 (hEB:Blk w eB 29 #[.int .i64 e]) (hGB:Blk w gB 26 #[.slice g.AN g.nN g.cN,.slice g.AR g.nR g.cR]) (hN:Nib w) (hNB:1<B0) (hB0:B0<=w.heap.size) :
 SeqR TDig Fence.wide 4 Tryz.prog 36 #[.pointer (some ⟨eB,0,none⟩),.pointer (some ⟨gB,0,none⟩)] BS.args (fun _ W W'=>Upd (ZaH U B0 W) W W') (fun pre x W=>PcR (if e=0 then ZbA g.dat else []) w.heap.size pre x W/\FzB W x)
  (fun xs=>xs.map BS.data=if e=0 then ZbA g.dat else []) (fun pre=>∃ k,pre.map BS.data=(if e=0 then ZbA g.dat else []).take k) w:=fun l J Jx W hW hJ hJx hY h0=>by
 have hs0:Same w W:=Same.of_below hW
 obtain ⟨ns,AN,nN,cN,rs,AR,nR,cR⟩:=g
 have HU:=qH hU
 have HRG:=qH (hRG.same hs0)
 have HEB:=qH (hEB.same hs0)
 have HGB:=qH (hGB.same hs0)
 have HN:=qH (hN.same hs0)
 have HZ:=qH hz
 have HJ:=qH hJ
 have HJX:=qH hJx
 have HY:=qH hY
 have HB:Hid (w.heap.size<=W.heap.size):=qH hs0.size
 have HB0:Hid (B0<=W.heap.size):=qH (Nat.le_trans hB0 hs0.size)
 have HRt:=qH hRt
 have s1:=(Upd.refl (fun _=>False) W).alloc (.cells #[.func (.yield l) #[] #[]] 58)
 have HE1:=qH (HEB.out.same s1)
 have HG1:=qH (HGB.out.same s1)
 have HY1:=qH (Blk.new W 58 #[.func (.yield l) #[] #[]])
 have HS1:=qH s1
 have HJ1:=qH (hJ _ _ _ h0 s1.it)
 have hzW:(W.alloc (.cells #[.func (.yield l) #[] #[]] 58)).heap.size=W.heap.size+1:=World.size_alloc _ _
 obtain ⟨L,hL⟩:∃ L,(if e=0 then ZbA (GR.dat ⟨ns,AN,nN,cN,rs,AR,nR,cR⟩) else [])=L:=⟨_,rfl⟩
 have HL:=qH hL
 rw [hL] at HY ⊢
 clear hL
 clear hU hRG hEB hGB hN hz hJ hJx hY hRt hs0 hW s1 h0 hB0
 refine callsIn_of_wp_marks Tryz.func36 rfl trivial ?_ rfl
 simp only [Tryz.ntmps36,List.size_toArray,List.length_cons,List.length_nil,Nat.reduceAdd,Nat.reduceSub,Array.replicate_succ,Array.replicate_zero,List.push_toArray,List.append_toArray,List.nil_append,List.cons_append]
 refine wpIn_wide.2 ?_
 go_upto_region 1 with fail
 generalize hWA:W.alloc (.cells #[.func (.yield l) #[] #[]] 58)=WA at *
 have e1:WA.cell? ⟨eB,0,none⟩=some (.int .i64 e):=HE1.out.cell 0
 generalize hg0:W.heap.size=g0 at *
 by_cases he:e=0
 case neg =>
  have nz:(e != 0)=true:=by rw [bne_iff_ne];exact he
  have HL0:Hid (L=[]):=qH (by rw [<- HL.out,if_neg he])
  go_wp2_with fail
  exact ⟨_,results_none rfl _ _ _,⟨_,rfl⟩,.inl ⟨[],HL0.out.symm,HJ1.out⟩⟩
 subst he
 have HRd:=qH (HRt.out rfl)
 replace HZ:=qH (HZ.out rfl)
 have HL1:Hid (ZbA (GR.dat ⟨ns,AN,nN,cN,rs,AR,nR,cR⟩)=L):=qH (by rw [<- HL.out,if_pos rfl])
 clear HL
 have kc:=fun (w:World) (C:Array Value) (n c:Nat)=>Lib.run_convert_bytes_const (P:=Tryz.prog) w 28 5 C n c Tryz.underlying28 Tryz.underlying5
 have sA:=(Upd.refl (fun _=>False) WA).alloc (.cells #[.int .u8 83,.int .u8 65,.int .u8 84,.int .u8 67,.int .u8 72,.int .u8 69,.int .u8 76,.int .u8 49] 5 (8,9))
 have hMg:Zbx (WA.alloc (.cells #[.int .u8 83,.int .u8 65,.int .u8 84,.int .u8 67,.int .u8 72,.int .u8 69,.int .u8 76,.int .u8 49] 5 (8,9))) w.heap.size ⟨Zau,some ⟨WA.heap.size,0,none⟩,8,8⟩ :=
  Zbx.lit WA (by have:=HB.out;omega) Zau rfl
 have HZA:=qH hzW
 clear hzW
 obtain ⟨fn,tmps,assign,body,hy,hR⟩:=HY.out [] _ _ (HJ.out _ _ _ HJ1.out sA.it) ⟨⟨by rw [<- HL1.out];rfl,hMg⟩,FzB.lit WA Zau (Nat.le_refl _)⟩
 have hy1:(Instr.yield l #[.slice (some ⟨WA.heap.size,0,none⟩) 8 8]).run Tryz.prog (WA.alloc (.cells #[.int .u8 83,.int .u8 65,.int .u8 84,.int .u8 67,.int .u8 72,.int .u8 69,.int .u8 76,.int .u8 49] 5 (8,9)))=.ok (.round l fn tmps assign body) (WA.alloc (.cells #[.int .u8 83,.int .u8 65,.int .u8 84,.int .u8 67,.int .u8 72,.int .u8 69,.int .u8 76,.int .u8 49] 5 (8,9))):=hy
 have y1:WA.cell? ⟨g0,0,none⟩=some (.func (.yield l) #[] #[]):=HY1.out.cell 0
 have HSA:=qH sA
 clear hy sA hMg
 refine (wpIn_wide (n:=4)).1 ?_
 gi_wp2
 refine hR.mono ?_
 clear hy1 hR
 rintro e W2 ⟨hkf,h⟩
 rcases h with ⟨rfl,hJ2,hk2⟩ | ⟨rfl,hJx2⟩
 case inr =>
  gi_wp2
  go_wp2_with fail
  exact ⟨_,results_none rfl _ _ _,⟨_,rfl⟩,.inr ⟨_,⟨1,by rw [<- HL1.out];rfl⟩,hJx2⟩⟩
 have HJ2:=qH hJ2
 have HK2:Hid (Upd (ZaH U B0 WA) WA W2):=qH (HSA.out.it.trans hk2 fun b hb hs=>by
  obtain ⟨h1,o,h2,h3⟩:=hs
  exact ⟨h1,o,by rw [<- HSA.out.block b hb fun f=>f];exact h2,h3⟩)
 have HY2:=qH (HY1.out.it HK2.out HU.out.y)
 have HG2:=qH (HG1.out.it HK2.out HU.out.g)
 have HR2:=qH ((HRG.out.same HS1.out).it HK2.out (Nat.le_refl _))
 have HN2:=qH ((HN.out.same HS1.out).it HK2.out hNB)
 have HZ2:=qH (show g0<W2.heap.size by have:=HK2.out.size;have:=HZA.out;omega)
 clear hJ2 hk2 hkf y1
 gi_wp2
 go_wp2_with fail
 refine (ZgF W2).mono ?_
 rintro e W3 ⟨d,rfl,hD3,hd3,hs3⟩
 have s4:=hs3.alloc (.cells #[.pointer (some ⟨d,0,none⟩)] 77)
 have HP4:=qH (Blk.new W3 77 #[.pointer (some ⟨d,0,none⟩)])
 have HD4:=qH (show Dig _ d [] from Blk.alloc hD3 (.cells #[.pointer (some ⟨d,0,none⟩)] 77))
 have HY4:=qH (HY2.out.same s4)
 have HG4:=qH (HG2.out.same s4)
 have HR4:=qH (HR2.out.same s4)
 have HN4:=qH (HN2.out.same s4)
 have HS4:=qH s4
 have HdB:Hid (g0<d/\d<W3.heap.size):=qH ⟨by rw [hd3];exact HZ2.out,hD3.lt⟩
 have HZ4:=qH (show W3.heap.size<(W3.alloc (.cells #[.pointer (some ⟨d,0,none⟩)] 77)).heap.size by rw [World.size_alloc];omega)
 have HJ4:=qH (HJ.out _ _ _ HJ2.out s4.it)
 clear hD3 hd3 hs3 s4
 go_upto_region 3 with fail
 generalize W3.alloc (.cells #[.pointer (some ⟨d,0,none⟩)] 77)=W4 at *
 generalize W3.heap.size=dB at *
 have sB:=(Upd.refl (fun _=>False) W4).alloc (.cells #[.int .u8 83,.int .u8 65,.int .u8 84,.int .u8 67,.int .u8 72,.int .u8 69,.int .u8 76,.int .u8 49] 5 (8,9))
 have hMg4:Zbx (W4.alloc (.cells #[.int .u8 83,.int .u8 65,.int .u8 84,.int .u8 67,.int .u8 72,.int .u8 69,.int .u8 76,.int .u8 49] 5 (8,9))) 0 ⟨Zau,some ⟨W4.heap.size,0,none⟩,8,8⟩ :=
  Zbx.lit W4 (Nat.zero_le _) Zau rfl
 have HMg4:=qH hMg4
 have HSB:=qH sB
 clear sB hMg4
 have p4:W4.cell? ⟨dB,0,none⟩=some (.pointer (some ⟨d,0,none⟩)):=HP4.out.cell 0
 go_wp2_with fail
 refine (ZaV _ (Blk.same HD4.out HSB.out) HMg4.out (HN4.out.same HSB.out) (by simp)).mono ?_
 rintro e W5 ⟨rfl,hd5,hu5⟩
 have HU5:=qH (show Upd (fun b=>b=d) W4 W5 from (HSB.out.mono fun _ _ f=>f.elim).trans hu5 fun _ _ h=>h)
 have HD5:Hid (Dig W5 d Zau):=qH hd5
 have hg5:W5.cell? ⟨gB,0,none⟩=some (.slice AN nN cN):=(HG4.out.upd HU5.out fun e=>by subst e;exact absurd (OfT.ne (w:=W4) ⟨_,HG4.out⟩ ⟨_,HD4.out⟩) (by decide)).cell 0
 have hg51:W5.cell? ⟨gB,1,none⟩=some (.slice AR nR cR):=(HG4.out.upd HU5.out fun e=>by subst e;exact absurd (OfT.ne (w:=W4) ⟨_,HG4.out⟩ ⟨_,HD4.out⟩) (by decide)).cell 1
 clear hd5 hu5 p4
 go_wp2_with fail
 refine (ZjJ W5 ⟨ns,AN,nN,cN,rs,AR,nR,cR⟩).mono ?_
 rintro e W6 ⟨rfl,hw6⟩
 clear hg5 hg51
 have hs6:Same W5 W6:=by rw [hw6];exact (Upd.refl _ W5).alloc _
 have HB6:Hid (Blk W6 W5.heap.size 26 #[.slice AN nN cN,.slice AR nR cR]):=qH (by rw [hw6];exact Blk.new W5 _ _)
 have HU6:Hid (Upd (fun b=>b=d) W4 W6):=qH (HU5.out.same hs6)
 have hdne:∀ {b:Nat} {t:TypeId} {cs:Array Value},Blk W4 b t cs->t≠121->¬ b=d:=fun hb ht e=>ht (by subst e;exact OfT.ne (w:=W4) ⟨_,hb⟩ ⟨_,HD4.out⟩)
 have HI0:Hid (StI J (ZaE (GR.dat ⟨ns,AN,nN,cN,rs,AR,nR,cR⟩)) (frs (GR.dat ⟨ns,AN,nN,cN,rs,AR,nR,cR⟩)) B0 g0 gB dB d l ⟨ns,AN,nN,cN,rs,AR,nR,cR⟩ [] [⟨Zau,some ⟨WA.heap.size,0,none⟩,8,8⟩] W6):=qH
  ⟨HJ.out _ _ _ HJ4.out (HU6.out.mono fun b hb e=>by subst e;exact OfT.itSet ⟨_,HD4.out⟩ (by have:=HdB.out;omega) rfl),rfl,rfl,HY4.out.upd HU6.out (hdne HY4.out (by decide)),HG4.out.upd HU6.out (hdne HG4.out (by decide)),HP4.out.upd HU6.out (hdne HP4.out (by decide)),
   (by have h9:=Blk.same HD5.out hs6;show Dig W6 d (Zau++[]);rw [List.append_nil];exact h9),HR4.out.upd HU6.out (fun b hb e=>by have:=HdB.out;have:=HB0.out;omega),HN4.out.upd HU6.out (by have:=HdB.out;have:=HB0.out;omega)⟩
 have HZ6:Hid (g0<W6.heap.size):=qH (by have:=HU6.out.size;have:=HZ4.out;have:=HdB.out;omega)
 have HR6:=qH HI0.out.rd
 have HdM:Hid (d<W6.heap.size/\g0<d):=qH ⟨HI0.out.d.lt,HdB.out.1⟩
 have HLN:Hid (nN<=4294967295/\nR<=4294967295):=qH ⟨by have h1:=HRd.out.nN;have h2:ns.length=nN:=HR6.out.nodes.len;simp only [GR.dat,List.length_map] at h1;omega,by have h1:=HRd.out.nR;have h2:rs.length=nR:=HR6.out.rels.len;simp only [GR.dat,List.length_map] at h1;omega⟩
 generalize WA.heap.size=zA at *
 generalize W4.heap.size=z4 at *
 generalize W5.heap.size=z5 at *
 clear hw6 hs6 hdne HU6 HU5 HD5 HN4 HR4 HG4 HY4 HD4 HP4 HJ4 HS4 HMg4 HSB HJ2 HY2 HG2 HR2 HN2 HZ2 HK2
 go_wp2_with fail
 refine (wpIn_wide (n:=4)).1 ?_
 generalize hm:W6.heap.size=m at *
 refine Zdj (T:=fun _=>False) (n:=4) rfl (by omega) (gf:=74) (lb:=#[.pointer (some ⟨z5,0,none⟩)]) rfl trivial (enters_of Tryz.func74 (by kernel_rfl) rfl)
  (ZmA 3 (by omega) W6 B0 z5 ⟨ns,AN,nN,cN,rs,AR,nR,cR⟩ HR6.out HRd.out HZ.out HB6.out (fun t=>U t\/t=121) (fun h=>h.elim HU.out.g (by decide)))
  ZaH.trans (fun x W l o o' hl ho hc=>(Upd.refl _ W).grown (grownBy_putObj' W l o') fun k e=>.inl (by cases e;exact ZaH.nc ho hc (by have:=HB0.out;have:=HZ6.out;omega))) (Below.refl _ _) (fun _=>rfl)
  (fun pre W=>∃ preO,StI J (ZaE (GR.dat ⟨ns,AN,nN,cN,rs,AR,nR,cR⟩)) (frs (GR.dat ⟨ns,AN,nN,cN,rs,AR,nR,cR⟩)) B0 g0 gB dB d l ⟨ns,AN,nN,cN,rs,AR,nR,cR⟩ pre preO W)
  (fun c _ W=>c=.ret/\∃ preO k,preO.map BS.data=L.take k/\Jx preO W)
  (fun pre W W' ⟨preO,h⟩ hu=>⟨preO,h.it HJ.out (Nat.le_of_lt HZ6.out) HB0.out hNB (hm ▸ hu)⟩)
  (fun c pre W W' ⟨h1,preO,k,h2,h3⟩ hu=>⟨h1,preO,k,h2,HJX.out _ _ _ h3 (hu.mono fun _ _ hs=>hs.mono (by have:=HZ6.out;omega) fun _ f=>f.elim)⟩)
  ⟨_,HI0.out⟩
  (fun pre x a' W=>∃ fb,a'={ tmps:=#[.func (.yield l) #[] #[],.pointer (some ⟨eB,0,none⟩),.pointer (some ⟨gB,0,none⟩),.pointer (some ⟨g0,0,none⟩),.pointer (some ⟨dB,0,none⟩),.pointer (some ⟨fb,0,none⟩),undef,undef,undef,undef,.int .i64 0,.bool false,.bool false,.func (.yield l) #[] #[],.slice (some ⟨zA,0,none⟩) 8 8,.slice (some ⟨zA,0,none⟩) 8 8,.bool true,.bool false,.bool false,.pointer (some ⟨d,0,none⟩),.pointer (some ⟨d,0,none⟩),.slice (some ⟨z4,0,none⟩) 8 8,.slice (some ⟨z4,0,none⟩) 8 8,.tuple #[],.agg #[.slice AN nN cN,.slice AR nR cR],.func (.func 74) #[] #[.pointer (some ⟨z5,0,none⟩)],.agg #[.int .i64 (x.type:Int),.slice x.A x.n x.c],undef,undef,undef,undef,undef,undef,undef,undef,undef,undef,undef,undef,undef,undef,undef,undef,undef,undef,undef,undef,undef,undef,undef,undef],defers:=[] }/\Blk W fb 84 #[.int .i64 (x.type:Int),.slice x.A x.n x.c]/\FrAt (frs (GR.dat ⟨ns,AN,nN,cN,rs,AR,nR,cR⟩)) pre x W)
  (fun pre x a' W l o o' hl ho hc ⟨fb,h1,h2,h3⟩=>by
    have hu:=(Upd.refl (ZaH (fun _=>False) 0 W) W).grown (grownBy_putObj' W l o') fun k e=>.inl (by injection e with e;subst e;exact ZaH.nc ho hc (Nat.zero_le _))
    exact ⟨fb,h1,h2.it hu fun f=>f,h3.at_,(Row.upd h3.row hu fun b ⟨_,_,_,_,h1⟩ hs=>hs.cells h1).mono fun b _ hb=>hb.upd hu fun hs=>by obtain ⟨_,_,_,_,h1⟩:=hb;exact hs.cells h1,h3.type,h3.le⟩) ?assign ?body ?done ?stop
 case assign =>
  rintro l' pre x W9 K ⟨preO,hi⟩ hr hK
  dsimp only [FR.args]
  gi_wp2
  have s9:=(Upd.refl (fun _=>False) W9).alloc (.cells #[.int .i64 (x.type:Int),.slice x.A x.n x.c] 84)
  exact hK _ _ (ZcL s9 fun _ f=>f.elim) s9.it ⟨preO,hi.it HJ.out (Nat.le_of_lt HZ6.out) HB0.out hNB s9.it⟩ ⟨_,rfl,Blk.new W9 _ _,hr.at_,(Row.same hr.row s9).mono fun b _ hb=>hb.upd s9 fun f=>f,hr.type,hr.le⟩
 case body =>
  rintro l' pre x a' Wb hl hlo ⟨preO,HI⟩ ⟨fb,rfl,hX,hF⟩
  have hR0:=hF.row
  have HX:=qH hX
  have HF:=qH hF
  have HI:=qH HI
  obtain ⟨xt,xd,xA,xn,xc⟩:=x
  simp only at hR0
  have hty:xt<=255:=hF.type
  have hle:xn<=1048576:=hF.le
  have hxl:xd.length=xn:=Bytes.len hR0
  have HPL:=qH (show (Zal xt xd).length=xn+9 by rw [ZaT,hxl])
  have HA:=qH (hF.at_)
  have HC:=qH (ZbP Wb xt hty hR0 hle HI.out.n)
  have a0:Wb.cell? ⟨fb,0,none⟩=some (.int .i64 (xt:Int)):=hX.cell 0
  have a1:Wb.cell? ⟨fb,1,none⟩=some (.slice xA xn xc):=hX.cell 1
  clear hF hR0 hX hxl
  have hall:((ZaE (GR.dat ⟨ns,AN,nN,cN,rs,AR,nR,cR⟩)).take (1+pre.length)).flatten.length+(xn+9)<=9223372036854775807:=by
   have h1:=HRd.out.head_len
   have h2:=ZjK (ZaE (GR.dat ⟨ns,AN,nN,cN,rs,AR,nR,cR⟩)) (1+pre.length)
   omega
  gi_wp2_with (refine ⟨trivial,?_⟩;gi_at_call 40;refine (CallsIn.inRound l' (callsIn_wide.2 HC.out)).mono ?_;rintro e5 w5 ⟨v5,rfl,hO5,hs5⟩;obtain ⟨A5,c5,rfl⟩:=Zad hO5.out;rw [HPL.out] at hO5 ⊢;have HO5:=hO5;have HS5:=qH hs5;have p5:w5.cell? ⟨dB,0,none⟩=some (.pointer (some ⟨d,0,none⟩)):=(HI.out.p.same hs5).cell 0;clear hO5 hs5)
  refine ⟨trivial,?_⟩
  refine (CallsIn.inRound l' (callsIn_wide.2 (ZaV w5 (Blk.same HI.out.d HS5.out) (ZaB HPL.out HO5.out) (HI.out.n.same HS5.out) hall))).mono ?_
  rintro e6 w6 ⟨rfl,hd6,hu6⟩
  have HU6:=qH (show Upd (fun b=>b=d) Wb w6 from (HS5.out.mono fun _ _ f=>f.elim).trans hu6 fun _ _ h=>h)
  have hdne:∀ {b:Nat} {t:TypeId} {cs:Array Value},Blk Wb b t cs->t≠121->¬ b=d:=fun hb ht e=>ht (by subst e;exact OfT.ne (w:=Wb) ⟨_,hb⟩ ⟨_,HI.out.d⟩)
  have y6:w6.cell? ⟨g0,0,none⟩=some (.func (.yield l) #[] #[]):=(HI.out.y.upd HU6.out (hdne HI.out.y (by decide))).cell 0
  have HD6:=qH hd6
  have hP6:Zbx w6 w.heap.size ⟨Zal xt xd,A5,xn+9,c5⟩:=((Zbx.of HO5.out HPL.out).base (by have:=HB.out;have:=HZ6.out;have:=HI.out.d.lt;have:=HdM.out;omega)).upd hu6 fun b hb e=>by
   subst e
   exact absurd (hb.ne ⟨_,Blk.same HI.out.d HS5.out⟩) (by decide)
  have HLP:Hid (1+pre.length<(ZaE (GR.dat ⟨ns,AN,nN,cN,rs,AR,nR,cR⟩)).length):=qH (by rw [Zhd];have:=(List.getElem?_eq_some_iff.1 HA.out).1;omega)
  have hpl:preO.length=1+pre.length:=ZkO HI.out.out (Nat.le_of_lt HLP.out)
  have hat:L[preO.length]?=some (Zal xt xd):=by
   rw [<- HL1.out,hpl]
   unfold ZbA
   rw [List.getElem?_append_left HLP.out]
   exact Ziz HA.out
  have HIS:Hid (Upd (ZaH (fun t=>U t\/t=121) B0 Wb) Wb w6):=qH (HU6.out.mono fun b hb e=>by subst e;exact OfT.itSet ⟨_,HI.out.d⟩ (by have:=HdM.out;have:=HB0.out;omega) (.inr rfl))
  obtain ⟨fn,tmps,assign,body,hy,hR⟩:=YieldAt.inRound l' (YieldAt.deep (F:=Fence.wide) rfl (m:=3) 1 (HY.out preO ⟨Zal xt xd,A5,xn+9,c5⟩ w6 (HJ.out _ _ _ HI.out.j (HU6.out.mono fun b hb e=>by subst e;exact OfT.itSet ⟨_,HI.out.d⟩ (by have:=HdM.out;omega) rfl)) ⟨⟨hat,hP6⟩,(FzB.of HO5.out).upd hu6 (ZqJ (Blk.same HI.out.d HS5.out))⟩))
  have hy1:(Instr.yield l #[.slice A5 (xn+9) c5]).run Tryz.prog w6=.ok (.round l fn tmps assign body) w6:=hy
  clear hy hP6
  gi_wp2
  refine hR.mono ?_
  clear hy1 hR
  rintro e W7 ⟨hkf,h⟩
  have hkF:KeepsFrom W6.heap.size Wb W7:=by
   rw [hm]
   exact (ZcL HU6.out fun k hk _ o ho=>by subst hk;exact OfT.cells ⟨_,HI.out.d⟩ ho).trans ⟨hkf.size,fun k o hk=>hkf.same k o (by have:=HZ6.out;omega)⟩
  have HPO:Hid ((preO++[(⟨Zal xt xd,A5,xn+9,c5⟩:BS)]).map BS.data=(ZaE (GR.dat ⟨ns,AN,nN,cN,rs,AR,nR,cR⟩)).take (1+pre.length+1)):=qH (Zfs (f:=BS.data) HI.out.out (Ziz HA.out))
  rcases h with ⟨rfl,hJ7,hk7⟩ | ⟨rfl,hJx7⟩
  case inr =>
   gi_wp2
   refine ⟨hkF,rfl,_,1+pre.length+1,?_,hJx7⟩
   rw [HPO.out,<-HL1.out]
   unfold ZbA
   rw [List.take_append_of_le_length (by have:=HLP.out;omega)]
  gi_wp2
  have hl1:(pre++[(⟨xt,xd,xA,xn,xc⟩:FR)]).length=pre.length+1:=by simp
  have e1:1+(pre.length+1)=1+pre.length+1:=by omega
  have h6:Upd (ZaH (fun t=>U t\/t=121) B0 Wb) Wb W7:=ZaH.or HIS.out hk7
  have hd7:Dig w6 d ((ZaE (GR.dat ⟨ns,AN,nN,cN,rs,AR,nR,cR⟩)).take (1+pre.length+1)).flatten:=by
   have e2:((ZaE (GR.dat ⟨ns,AN,nN,cN,rs,AR,nR,cR⟩)).take (1+pre.length+1)).flatten=((ZaE (GR.dat ⟨ns,AN,nN,cN,rs,AR,nR,cR⟩)).take (1+pre.length)).flatten++Zal xt xd:=by
    rw [List.take_add_one,List.flatten_append,show (ZaE (GR.dat ⟨ns,AN,nN,cN,rs,AR,nR,cR⟩))[1+pre.length]?=some (Zal xt xd) from Ziz HA.out]
    simp
   rw [e2]
   exact HD6.out
  refine ⟨hkF,h6,_,hJ7,?_,?_,?_,?_,?_,?_,?_,?_⟩
  · rw [hl1];exact Zfs (f:=FR.dat) HI.out.prf HA.out
  · rw [hl1,e1];exact HPO.out
  · exact (HI.out.y.upd HU6.out (hdne HI.out.y (by decide))).it hk7 HU.out.y
  · exact (HI.out.g.upd HU6.out (hdne HI.out.g (by decide))).it hk7 HU.out.g
  · exact (HI.out.p.upd HU6.out (hdne HI.out.p (by decide))).it hk7 HU.out.p
  · rw [hl1,e1];exact Dig.it hd7 hk7 HU.out.d
  · exact HI.out.rd.it h6 (Nat.le_refl _)
  exact HI.out.n.it h6 hNB
 case done =>
  rintro D xs Wd hD hS ⟨preO,HI⟩ hK
  have HI:=qH HI
  have hxl:xs.length=(frs (GR.dat ⟨ns,AN,nN,cN,rs,AR,nR,cR⟩)).length:=by rw [<- hS,List.length_map]
  obtain ⟨all,hall⟩:∃ all,(ZaE (GR.dat ⟨ns,AN,nN,cN,rs,AR,nR,cR⟩)).flatten=all:=⟨_,rfl⟩
  have hta:(ZaE (GR.dat ⟨ns,AN,nN,cN,rs,AR,nR,cR⟩)).take (1+xs.length)=ZaE (GR.dat ⟨ns,AN,nN,cN,rs,AR,nR,cR⟩):=List.take_of_length_le (by rw [Zhd,hxl];exact Nat.le_refl _)
  have HD:Hid (Dig Wd d all):=qH (by have h9:=HI.out.d;rw [hta,hall] at h9;exact h9)
  have HPO:Hid (preO.map BS.data=ZaE (GR.dat ⟨ns,AN,nN,cN,rs,AR,nR,cR⟩)):=qH (by rw [HI.out.out,hta])
  have HK:=qH hK
  clear hxl hta hS
  gi_wp2_with fail
  have s0:Same Wd Wd.drew:=(Upd.refl _ Wd).drew
  have HCT:=qH (fun wx (hs:Same Wd wx)=>ZcP wx ⟨ns,AN,nN,cN,rs,AR,nR,cR⟩ (HI.out.rd.same hs) HZ.out.fit rfl (by have:=HRd.out.wt;omega) (by have:=HLN.out;simp only;omega) (by have:=HLN.out;simp only;omega) all)
  have hKeep:Hid (∀ wx,Same Wd wx->wx.cell? ⟨gB,0,none⟩=some (.slice AN nN cN)/\wx.cell? ⟨gB,1,none⟩=some (.slice AR nR cR)/\wx.cell? ⟨dB,0,none⟩=some (.pointer (some ⟨d,0,none⟩))):=qH fun wx hs=>⟨(HI.out.g.same hs).cell 0,(HI.out.g.same hs).cell 1,(HI.out.p.same hs).cell 0⟩
  go_upto_region 9 with fail
  refine wp_region_noPanic ?_
  refine Zbg 10 (fun wx=>wx.cell? ⟨gB,0,none⟩=some (.slice AN nN cN)/\wx.cell? ⟨gB,1,none⟩=some (.slice AR nR cR)/\wx.cell? ⟨dB,0,none⟩=some (.pointer (some ⟨d,0,none⟩))) (by kernel_rfl) (hKeep.out _ s0) (fun hHeld=>?_)
  refine ESt.take (i:=0) (v:=?_) (by decide +kernel) rfl (by decide +kernel) (fun _ _ _ h=>h) (Or.inl ⟨by rfl,?_⟩) (by assumption) ?_
  rotate_left
  · intro wx hSw
    obtain ⟨h0,h1,h2⟩:=hSw
    go_simp
    try with_reducible rfl
  simp only [Act.put]
  refine ESt.take (i:=1) (v:=?_) (by decide +kernel) rfl (by decide +kernel) (fun _ _ _ h=>h) (Or.inl ⟨by rfl,?_⟩) (by assumption) ?_
  rotate_left
  · intro wx hSw
    obtain ⟨h0,h1,h2⟩:=hSw
    go_simp
    try with_reducible rfl
  simp only [Act.put]
  refine ESt.branch (rs:=[2]) (by decide +kernel) (by decide +kernel) ?_
  refine AllE.cons rfl (fun K hK=>?_) AllE.nil
  go_simp
  refine (Zes _ (Blk.same HD.out s0)).mono ?_
  rintro e w1 ⟨rfl,rfl⟩
  go_wp2_with fail
  refine hK.out _ _ (hKeep.out _ s0) (fun hHeld=>?_)
  clear hK K
  refine ESt.branch (rs:=[3]) (by decide +kernel) (by decide +kernel) ?_
  refine AllE.cons rfl (fun K hK=>?_) AllE.nil
  go_simp
  refine (HCT.out _ s0).mono ?_
  rintro e w2 ⟨v2,rfl,hO2,hs2⟩
  obtain ⟨A2,c2,rfl⟩:=Zad hO2.out
  have HS2:=qH (s0.trans hs2 fun _ _ f=>f)
  have HO2:=hO2
  clear hO2 hs2
  rw [ZbQ] at HO2 ⊢
  go_wp2_with fail
  refine hK.out _ _ (hKeep.out _ HS2.out) (fun hHeld=>?_)
  clear hK K
  refine ESt.take (i:=4) (v:=?_) (by decide +kernel) rfl (by decide +kernel) (fun _ _ _ h=>h) (Or.inl ⟨by rfl,?_⟩) (by assumption) ?_
  rotate_left
  · intro wx hSw
    obtain ⟨h0,h1,h2⟩:=hSw
    go_simp
    try with_reducible rfl
  simp only [Act.put]
  refine ESt.branch (rs:=[5]) (by decide +kernel) (by decide +kernel) ?_
  refine AllE.cons rfl (fun K hK=>?_) AllE.nil
  go_simp
  refine (ZbP w2 4 (by omega) (ZaB (ZbQ _ _ _ _) HO2.out) (by omega) (HI.out.n.same HS2.out)).mono ?_
  rintro e w3 ⟨v3,rfl,HO3,hs3⟩
  obtain ⟨A3,c3,rfl⟩:=Zad HO3.out
  have HS3:=qH (HS2.out.trans hs3 fun _ _ f=>f)
  clear hs3
  rw [show (Zal 4 (ZaS nN nR (GR.dat ⟨ns,AN,nN,cN,rs,AR,nR,cR⟩).wt all)).length=25 by rw [ZaT,ZbQ]] at HO3 ⊢
  go_wp2_with fail
  refine hK.out _ _ (hKeep.out _ HS3.out) (fun hHeld=>?_)
  clear hK K
  refine ESt.take (i:=6) (v:=?_) (by decide +kernel) rfl (by decide +kernel) (fun _ _ _ h=>h) (Or.inl ⟨by rfl,?_⟩) (by assumption) ?_
  rotate_left
  · intro wx hSw
    obtain ⟨h0,h1,h2⟩:=hSw
    go_simp
    try with_reducible rfl
  simp only [Act.put]
  refine ESt.take (i:=7) (v:=?_) (by decide +kernel) rfl (by decide +kernel) (fun _ _ _ h=>h) (Or.inl ⟨by rfl,?_⟩) (by assumption) ?_
  rotate_left
  · intro wx hSw
    obtain ⟨h0,h1,h2⟩:=hSw
    go_simp
    try with_reducible rfl
  simp only [Act.put]
  refine ESt.take (i:=8) (v:=?_) (by decide +kernel) rfl (by decide +kernel) (fun _ _ _ h=>h) (Or.inl ⟨by rfl,?_⟩) (by assumption) ?_
  rotate_left
  · intro wx hSw
    obtain ⟨h0,h1,h2⟩:=hSw
    go_simp
    try with_reducible rfl
  simp only [Act.put]
  refine ESt.take (i:=9) (v:=?_) (by decide +kernel) rfl (by decide +kernel) (fun _ _ _ h=>h) (Or.inl ⟨by rfl,?_⟩) (by assumption) ?_
  rotate_left
  · intro wx hSw
    obtain ⟨h0,h1,h2⟩:=hSw
    go_simp
    try with_reducible rfl
  simp only [Act.put]
  refine ESt.last (by decide +kernel) (by decide +kernel) rfl (fun K hK=>?_) _
  go_simp
  refine hK.out _ _ ?_
  clear hK K hHeld
  refine NoPanic.normal ?_
  have hln:ns.length=nN:=HR6.out.nodes.len
  have hlr:rs.length=nR:=HR6.out.rels.len
  have hPT:Zal 4 (ZaS nN nR (GR.dat ⟨ns,AN,nN,cN,rs,AR,nR,cR⟩).wt all)=Zcr (GR.dat ⟨ns,AN,nN,cN,rs,AR,nR,cR⟩):=by
   unfold Zcr
   rw [hall]
   simp [GR.dat,hln,hlr]
  have HO4:Hid (OwnB w3 w2.heap.size (.slice A3 25 c3) (Zcr (GR.dat ⟨ns,AN,nN,cN,rs,AR,nR,cR⟩))):=qH (by rw [<- hPT];exact HO3.out)
  have HLP:Hid (preO.length=(ZaE (GR.dat ⟨ns,AN,nN,cN,rs,AR,nR,cR⟩)).length):=qH (by rw [<- HPO.out,List.length_map])
  have hat:L[preO.length]?=some (Zcr (GR.dat ⟨ns,AN,nN,cN,rs,AR,nR,cR⟩)):=by
   rw [<- HL1.out,HLP.out]
   unfold ZbA
   rw [List.getElem?_append_right (Nat.le_refl _),Nat.sub_self]
   rfl
  have hsz2:=HS2.out.size
  have hP3:Zbx w3 w.heap.size ⟨Zcr (GR.dat ⟨ns,AN,nN,cN,rs,AR,nR,cR⟩),A3,25,c3⟩:=(Zbx.of HO4.out (ZeU _)).base (by have:=HB.out;have:=HZ6.out;have:=HI.out.d.lt;have:=HdM.out;omega)
  obtain ⟨fn,tmps,assign,body,hy,hR⟩:=HY.out preO ⟨Zcr (GR.dat ⟨ns,AN,nN,cN,rs,AR,nR,cR⟩),A3,25,c3⟩ w3 (HJ.out _ _ _ HI.out.j HS3.out.it) ⟨⟨hat,hP3⟩,FzB.of HO4.out⟩
  have hy1:(Instr.yield l #[.slice A3 25 c3]).run Tryz.prog w3=.ok (.round l fn tmps assign body) w3:=hy
  have y3:w3.cell? ⟨g0,0,none⟩=some (.func (.yield l) #[] #[]):=(HI.out.y.same HS3.out).cell 0
  clear hy hP3 hat hPT hln hlr HO3
  gi_wp2_with fail
  refine (wpIn_wide (n:=4)).1 ?_
  gi_wp2
  refine hR.mono ?_
  clear hy1 hR y3
  rintro e W7 ⟨hkf,h⟩
  have hgD:g0<=D:=by have:=HZ6.out;omega
  have hK3:w3.heap[D]?=some (.deferred (some [])):=(HS3.out.block D (Array.getElem?_eq_some_iff.1 HK.out).1 fun f=>f).trans HK.out
  have hK7:W7.heap[D]?=some (.deferred (some [])):=hkf.same D _ hgD hK3 rfl
  have hu:=(Upd.refl (ZaH TDig g0 W7) W7).grown (grownBy_putObj' W7 D (.deferred none)) fun k e=>.inl (by cases e;exact ZaH.nc hK7 rfl hgD)
  have hAll:(preO++[(⟨Zcr (GR.dat ⟨ns,AN,nN,cN,rs,AR,nR,cR⟩),A3,25,c3⟩:BS)]).map BS.data=L:=by
   rw [List.map_append,HPO.out,<-HL1.out]
   rfl
  rcases h with ⟨rfl,hJ7,hk7⟩ | ⟨rfl,hJx7⟩
  · gi_wp2
    refine ⟨by simp,.inl ⟨_,_,rfl,run_takeDeferred hK7,?_⟩⟩
    exact ⟨_,results_none rfl _ _ _,⟨_,rfl⟩,.inl ⟨_,hAll,HJ.out _ _ _ hJ7 hu⟩⟩
  gi_wp2
  refine ⟨by simp,.inl ⟨_,_,rfl,run_takeDeferred hK7,?_⟩⟩
  exact ⟨_,results_none rfl _ _ _,⟨_,rfl⟩,.inr ⟨_,⟨L.length,by rw [hAll,List.take_length]⟩,HJX.out _ _ _ hJx7 hu⟩⟩
 rintro D c pre Wd hD hSp ⟨rfl,preO,k,h2,h3⟩ hK
 gi_wp2
 refine ⟨by simp,.inl ⟨_,_,rfl,run_takeDeferred hK,?_⟩⟩
 have hu:=(Upd.refl (ZaH TDig g0 Wd) Wd).grown (grownBy_putObj' Wd D (.deferred none)) fun k e=>.inl (by cases e;exact ZaH.nc hK rfl (by have:=HZ6.out;omega))
 exact ⟨_,results_none rfl _ _ _,⟨_,rfl⟩,.inr ⟨preO,⟨k,h2⟩,HJX.out _ _ _ h3 hu⟩⟩
theorem SeqR.weak {α:Type} {T:TypeId->Prop} {F:Fence} {n:Nat} {P:Program} {g:Nat} {lb:Array Value} {encs:α->Array Value} {Kp:α->World->World->Prop} {R R':List α->α->World->Prop} {S Sp:List α->Prop} {w:World}
 (h:SeqR T F n P g lb encs Kp R S Sp w) (hR:∀ pre x W,R pre x W->R' pre x W):SeqR T F n P g lb encs Kp R' S Sp w:=fun l J Jx W h1 h2 h3 hY h0=>h l J Jx W h1 h2 h3 (fun pre x W1 hj hr=>hY pre x W1 hj (hR _ _ _ hr)) h0
end Go.Proofs.YtkopcinhbjimiaaGreatDoor
namespace Go.Proofs.YtkopcinhbjimiaaGreatDoor
open Go.RowKit Go.Shelf
theorem OwnG.ofGr {S:Nat->Prop} {w w':World} {B:Nat} {g:GR} (h:OwnG w B g) (hu:Upd S w w') (hT:∀ k,k<w.heap.size->S k->OfT w 26 k):OwnG w' B g :=
 ⟨h.nodes.type hu hT (by decide) (by decide) (by decide) (by decide),h.rels.type hu hT (by decide) (by decide) (by decide) (by decide)⟩
def ZlU (G:Zak) (w:World) (e:Ending) (w':World):Prop :=
 ∃ (eB gB:Nat) (g':GR),e=.returned (.func (.func 36) #[] #[.pointer (some ⟨eB,0,none⟩),.pointer (some ⟨gB,0,none⟩)])/\Blk w' eB 29 #[.int .i64 (chkP G).1]/\Blk w' gB 26 #[.slice g'.AN g'.nN g'.cN,.slice g'.AR g'.nR g'.cR]/\OwnG w' w.heap.size g'/\g'.dat=ZdG G/\Same w w'/\w.heap.size<=eB/\w.heap.size<=gB
theorem ZjL {F:Nat->Prop} (w:World) (g:GR) (h:RdG w F g) (hz:ZcW g):Calls Tryz.prog 18 #[g.agg] w (ZlU g.dat w):=by
 have hmf:∀ (fn:Fn) (first cap:Array Value) (w:World),(Instr.makeFunc fn first cap).run Tryz.prog w=.ok (.func fn first cap) w:=fun _ _ _ _=>rfl
 obtain ⟨e,at_,hE⟩:∃ e at_,chkP g.dat=(e,at_):=⟨_,_,rfl⟩
 have HNR:=qH (show ∀ x w',ZlU g.dat w x w'↔∃ (eB gB:Nat) (g':GR),x=.returned (.func (.func 36) #[] #[.pointer (some ⟨eB,0,none⟩),.pointer (some ⟨gB,0,none⟩)])/\Blk w' eB 29 #[.int .i64 e]/\Blk w' gB 26 #[.slice g'.AN g'.nN g'.cN,.slice g'.AR g'.nR g'.cR]/\OwnG w' w.heap.size g'/\g'.dat=ZdG g.dat/\Same w w'/\w.heap.size<=eB/\w.heap.size<=gB from fun _ _=>by unfold ZlU;rw [hE])
 generalize ZlU g.dat w=NRes at HNR ⊢
 have s1:=(Upd.refl (fun _=>False) w).alloc (.cells #[.slice g.AN g.nN g.cN,.slice g.AR g.nR g.cR] 26)
 have HB1:=qH (Blk.new w 26 #[.slice g.AN g.nN g.cN,.slice g.AR g.nR g.cR])
 have HS1:=qH s1
 have HRG:=qH (h.same s1)
 have HC:=qH (ZdL _ g (h.same s1) hz hE)
 have HZ:=qH hz
 clear h hz hE s1
 obtain ⟨ns,AN,nN,cN,rs,AR,nR,cR⟩:=g
 simp only at HB1 HS1 HRG HC
 go_enter Tryz.func18,Tryz.ntmps18
 go_upto_region 1 with fail
 generalize w.alloc (.cells #[.slice AN nN cN,.slice AR nR cR] 26)=w1 at *
 generalize hg0:w.heap.size=g0 at *
 have c0:w1.cell? ⟨g0,0,none⟩=some (.slice AN nN cN):=HB1.out.cell 0
 have c1:w1.cell? ⟨g0,1,none⟩=some (.slice AR nR cR):=HB1.out.cell 1
 go_wp2_with fail
 refine HC.out.mono ?_
 rintro x w2 ⟨rfl,hs2⟩
 have s3:=hs2.alloc (.cells #[.int .i64 e] 29)
 have HE3:=qH (Blk.new w2 29 #[.int .i64 e])
 have HS3:=qH s3
 have hz2:=hs2.size
 have hz1:=HB1.out.lt
 clear c0 c1 hs2 s3
 go_upto_region 2 with fail
 generalize w2.alloc (.cells #[.int .i64 e] 29)=w3 at *
 have HB3:=qH (HB1.out.same HS3.out)
 have c0:w3.cell? ⟨g0,0,none⟩=some (.slice AN nN cN):=HB3.out.cell 0
 have c1:w3.cell? ⟨g0,1,none⟩=some (.slice AR nR cR):=HB3.out.cell 1
 go_wp2_with fail
 refine (ZgU w3 ⟨ns,AN,nN,cN,rs,AR,nR,cR⟩ (HRG.out.same HS3.out) HZ.out).mono ?_
 rintro x w4 ⟨⟨ns',AN',nN',cN',rs',AR',nR',cR'⟩,rfl,HD4,HO4,-,hs4⟩
 have HB4:=qH (HB3.out.same hs4)
 have HE4:=qH (HE3.out.same hs4)
 have HS4:=qH (HS3.out.trans hs4 fun _ _ f=>f)
 have hzz:=HS3.out.size
 have b0:w4.cell? ⟨g0,0,none⟩=some (.slice AN nN cN):=HB4.out.cell 0
 have b1:w4.cell? ⟨g0,1,none⟩=some (.slice AR nR cR):=HB4.out.cell 1
 have f0:=HB4.out.frozen 0
 have f1:=HB4.out.frozen 1
 clear c0 c1 hs4
 go_wp2
 refine (HNR.out _ _).2 ⟨w2.heap.size,g0,⟨ns',AN',nN',cN',rs',AR',nR',cR'⟩,rfl,?_,?_,?_,HD4.out,?_,by omega,by omega⟩
 · exact (HE4.out.far (p:=⟨g0,0,none⟩) (by simp only;omega) _).far (p:=⟨g0,1,none⟩) (by simp only;omega) _
 · exact (HB4.out.put 0 _).put 1 _
 · have hu:=((Upd.refl (fun b=>b=g0) w4).put1 (i:=0) (.slice AN' nN' cN')).put1 (i:=1) (.slice AR' nR' cR')
   exact (HO4.out.ofGr hu fun b _ e=>e ▸ ⟨_,HB4.out⟩).base (by omega)
 exact Upd.putNew (Upd.putNew (HS1.out.trans HS4.out fun _ _ f=>f) (by omega) _) (by omega) _
def UW (t:TypeId):Prop:=t=5\/t=28\/t=51\/t=3\/t=4
theorem UW_st:StU UW:=⟨by unfold UW;decide,by unfold UW;decide,by unfold UW;decide,by unfold UW;decide⟩
theorem Zqf {F:Nat->Prop} {w:World} {g:GR} (h:RdG w F g) {w5:World} {eB gB:Nat} {g':GR} (he:Blk w5 eB 29 #[.int .i64 (chkP g.dat).1]) (hg:Blk w5 gB 26 #[.slice g'.AN g'.nN g'.cN,.slice g'.AR g'.nR g'.cR])
 (hO:OwnG w5 w.heap.size g') (hD:g'.dat=ZdG g.dat) (hN:Nib w5) (B0:Nat) (hB:w5.heap.size<=B0) (hNB:1<B0) (w1:World) (hs:Same w5 w1) (hB1:B0<=w1.heap.size) :
 SeqR TDig Fence.wide 4 Tryz.prog 36 #[.pointer (some ⟨eB,0,none⟩),.pointer (some ⟨gB,0,none⟩)] BS.args (fun _ W W'=>Upd (ZaH UW B0 W) W W') (fun pre x W=>PcR (if (chkP g.dat).1=0 then ZbA g.dat else []) w1.heap.size pre x W/\FzB W x)
  (fun xs=>xs.map BS.data=if (chkP g.dat).1=0 then ZbA g.dat else []) (fun pre=>∃ k,pre.map BS.data=(if (chkP g.dat).1=0 then ZbA g.dat else []).take k) w1:=by
 have hr:(chkP g.dat).1=0->Zcc g.dat/\g'.dat=g.dat:=fun h0=>by
  obtain ⟨h1,h2⟩:=Zec h0 (ZkR h)
  exact ⟨h1,hD.trans h2⟩
 have hq:=ZmB UW_st w1 B0 eB gB g' (chkP g.dat).1 ((hO.rd.mono (F':=fun b=>b<B0) fun b _ hb=>by have:=hb.2;omega).same hs)
  (fun h0=>by
    obtain ⟨h1,h2⟩:=hr h0
    refine Zdb hO ⟨?_,?_⟩ ?_ ?_
    · rw [h2];exact fun x hx=>(h1.nodes x hx).1
    · rw [h2];exact fun x hx=>(h1.rels x hx).1
    · have h3:=h1.nN;rw [<- h2] at h3;simp only [GR.dat,List.length_map] at h3;omega
    have h3:=h1.nR;rw [<- h2] at h3;simp only [GR.dat,List.length_map] at h3;omega)
  (fun h0=>by rw [(hr h0).2];exact (hr h0).1) (he.same hs) (hg.same hs) (hN.same hs) hNB hB1
 have e:(if (chkP g.dat).1=0 then ZbA g'.dat else [])=if (chkP g.dat).1=0 then ZbA g.dat else []:=by
  split
  · rename_i h0
    rw [(hr h0).2]
  rfl
 rw [e] at hq
 exact hq
def ZlV (G:Zak) (w:World) (e:Ending) (w':World):Prop :=
 ∃ v,e=.returned (.tuple #[v,.int .i64 (chkP G).1])/\Same w w'/\((chkP G).1≠0->v=.slice none 0 0)/\((chkP G).1=0->Lib.FreshBytes w.heap.size w' v (arcP G))
theorem ZkU {F:Nat->Prop} (w:World) (g:GR) (h:RdG w F g) (hz:ZcW g) (hN:Nib w):Calls Tryz.prog 14 #[g.agg] w (ZlV g.dat w):=by
 obtain ⟨e,at_,hE⟩:∃ e at_,chkP g.dat=(e,at_):=⟨_,_,rfl⟩
 have he1:(chkP g.dat).1=e:=by rw [hE]
 have HNR:=qH (show ∀ x w',ZlV g.dat w x w'↔∃ v,x=.returned (.tuple #[v,.int .i64 e])/\Same w w'/\(e≠0->v=.slice none 0 0)/\(e=0->Lib.FreshBytes w.heap.size w' v (arcP g.dat)) from fun _ _=>by unfold ZlV;rw [he1])
 generalize ZlV g.dat w=NRes at HNR ⊢
 have s1:=(Upd.refl (fun _=>False) w).alloc (.cells #[.slice g.AN g.nN g.cN,.slice g.AR g.nR g.cR] 26)
 have HB1:=qH (Blk.new w 26 #[.slice g.AN g.nN g.cN,.slice g.AR g.nR g.cR])
 have HS1:=qH s1
 have HRG:=qH (h.same s1)
 have HC:=qH (ZdL _ g (h.same s1) hz hE)
 have HE1:=qH he1
 have HZ:=qH hz
 have HN:=qH hN
 clear h hz hE he1 s1 hN
 obtain ⟨ns,AN,nN,cN,rs,AR,nR,cR⟩:=g
 simp only at HB1 HS1 HRG HC
 go_enter Tryz.func14,Tryz.ntmps14
 go_upto_region 1 with fail
 generalize w.alloc (.cells #[.slice AN nN cN,.slice AR nR cR] 26)=w1 at *
 generalize hg0:w.heap.size=g0 at *
 have c0:w1.cell? ⟨g0,0,none⟩=some (.slice AN nN cN):=HB1.out.cell 0
 have c1:w1.cell? ⟨g0,1,none⟩=some (.slice AR nR cR):=HB1.out.cell 1
 go_wp2_with fail
 refine HC.out.mono ?_
 rintro x w2 ⟨rfl,hs2⟩
 have HS2:=qH hs2
 have HB2:=qH (HB1.out.same hs2)
 clear c0 c1 hs2
 by_cases h0:e=0
 case neg =>
  have nz:(e != 0)=true:=by rw [bne_iff_ne];exact h0
  go_wp2
  exact (HNR.out _ _).2 ⟨_,rfl,HS1.out.trans HS2.out fun _ _ f=>f,fun _=>rfl,fun h=>absurd h h0⟩
 subst h0
 have c0:w2.cell? ⟨g0,0,none⟩=some (.slice AN nN cN):=HB2.out.cell 0
 have c1:w2.cell? ⟨g0,1,none⟩=some (.slice AR nR cR):=HB2.out.cell 1
 go_wp2_with fail
 refine (ZjL w2 ⟨ns,AN,nN,cN,rs,AR,nR,cR⟩ (HRG.out.same HS2.out) HZ.out).mono ?_
 rintro x w5 ⟨eB,gB,g',rfl,hEB,hGB,hOG,hDG,hs5,_,_⟩
 have HS5:=qH hs5
 have HSQ:=qH (Zqf (HRG.out.same HS2.out) hEB hGB hOG hDG ((HN.out.same HS1.out).same (HS2.out.trans hs5 fun _ _ f=>f)) w5.heap.size (Nat.le_refl _) (by have h1:=HN.1;have:=HS1.out.size;have:=HS2.out.size;have:=hs5.size;omega))
 have HR:=qH (Zec HE1.out (ZkR HRG.out)).1
 rw [if_pos HE1.out] at HSQ
 clear c0 c1 hEB hGB hOG hDG hs5
 have hPL:(ZbA (GR.dat ⟨ns,AN,nN,cN,rs,AR,nR,cR⟩)).length=3+nN+nR:=by
  have h1:ns.length=nN:=HRG.out.nodes.len
  have h2:rs.length=nR:=HRG.out.rels.len
  unfold ZbA
  rw [List.length_append,Zhd,ZnH]
  simp [GR.dat,h1,h2]
  omega
 have hP1:3+nN+nR<=100000:=by
  have h1:=HR.out.nN
  have h2:=HR.out.nR
  have h3:ns.length=nN:=HRG.out.nodes.len
  have h4:rs.length=nR:=HRG.out.rels.len
  simp only [GR.dat,List.length_map] at h1 h2
  omega
 have HP:=qH hPL
 clear hPL
 go_wp2_with fail
 refine (Zja (T:=TDig) (U:=UW) (by unfold TDig;decide) (by unfold TDig;decide) (by unfold TDig;decide) (.inr (.inl rfl)) (.inr (.inr (.inl rfl))) (enters_of Tryz.func36 (by kernel_rfl) rfl) w5 w5.heap.size (Nat.le_refl _) (ZbA (GR.dat ⟨ns,AN,nN,cN,rs,AR,nR,cR⟩)) (by rw [HP.out];exact hP1)
  (fun w1 hs=>(HSQ.out w1 hs hs.size).weak fun pre x W hp=>⟨hp.1.at_,hp.1.row.base hs.size⟩)).mono ?_
 rintro x w6 ⟨A,c,l,rfl,hO6,hL6,hs6⟩
 have hll:l.length=3+nN+nR:=by rw [<- HP.out,<-hL6,List.length_map]
 have HL:=qH hll
 rw [hll] at hO6 ⊢
 have HJ:=qH (ZnQ w6 hO6 hll (by omega) hP1 (by rw [hL6];have:=HR.out.arc_len;unfold arcP at this;omega))
 rw [hL6] at HJ
 have HS6:=qH hs6
 clear hll hO6 hL6 hs6
 go_wp2_with fail
 refine HJ.out.mono ?_
 rintro x w7 ⟨v,rfl,hF,hs7⟩
 have hS7:Same w w7:=(((HS1.out.trans HS2.out fun _ _ f=>f).trans HS5.out fun _ _ f=>f).trans HS6.out fun _ _ f=>f).trans hs7 fun _ _ f=>f
 have hSz:g0<=w6.heap.size:=by rw [<- hg0];exact (((HS1.out.trans HS2.out fun _ _ f=>f).trans HS5.out fun _ _ f=>f).trans HS6.out fun _ _ f=>f).size
 obtain ⟨q,hq⟩:∃ q,arcP (GR.dat ⟨ns,AN,nN,cN,rs,AR,nR,cR⟩)=q:=⟨_,rfl⟩
 have HF:Hid (Lib.FreshBytes w6.heap.size w7 v q):=qH (by rw [<- hq];exact hF)
 have HQ:=qH hq
 clear hF hs7 hq
 obtain ⟨A7,c7,z7,rfl,hB7,hr7⟩:=HF.out
 go_wp2
 exact (HNR.out _ _).2 ⟨_,rfl,hS7,fun h=>absurd rfl h,fun _=>by rw [HQ.out];exact ⟨A7,c7,z7,rfl,Nat.le_trans hSz hB7,hr7⟩⟩
end Go.Proofs.YtkopcinhbjimiaaGreatDoor
