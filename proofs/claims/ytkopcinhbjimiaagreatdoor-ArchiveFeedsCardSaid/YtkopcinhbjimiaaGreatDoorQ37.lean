/- Texts that the claim leans on: walks and plain laws, function by function. -/
import Derived.Test.YtkopcinhbjimiaaGreatDoorQ36
set_option maxRecDepth 100000
set_option maxHeartbeats 16000000
namespace Go.Proofs.YtkopcinhbjimiaaGreatDoor
open Go.RowKit
theorem Zbd {tmps:Array Value} {W:World} {g:Nat} {v0 v1 v2:Value} {R:Ending->World->Prop} (h2:tmps.getD 2 undef=.pointer (some ⟨g,0,none⟩)) (h3:tmps.getD 3 undef=v2) (hb:Blk W g 26 #[v0,v1])
 (hR:R (.returned (.tuple #[.agg #[v0,v1],v2])) W) :
 bodyPost Tryz.prog Tryz.f48 R Exit.ret { tmps:=tmps,defers:=[] } W:=by
 have c0:=hb.cell 0
 have c1:=hb.cell 1
 refine bodyPost_ret (v:=.tuple #[.agg #[v0,v1],v2]) ?_ rfl hR
 simp only [Array.getD_eq_getD_getElem?] at h2 h3
 simp [results,Tryz.results48,go_sem,h2,h3,c0,c1]
def ZiB (bs:List UInt8) (w:World) (e:Ending) (w':World):Prop :=
 ∃ (g:GR) (er:Int),e=.returned (.tuple #[.agg #[.slice g.AN g.nN g.cN,.slice g.AR g.nR g.cR],.int .i64 er])/\OwnG w' w.heap.size g/\(er=0->Zbo bs=.ok g.dat)/\(er≠0->Zbo bs=.error er)/\Same w w'
theorem Zef.at_ {w:World} {B:Nat} {A:Option Addr} {n c:Nat} {fs:List FR} (h:Zef w B (.slice A n c) fs) (hl:fs.length=n) {i:Nat} (hi:i<n):∃ b o x,A=some ⟨b,o,none⟩/\b<w.heap.size/\fs[i]?=some x/\x∈fs /\
 w.cell? ⟨b,o+i*2,none⟩=some (.int .i64 (x.type:Int))/\w.cell? ⟨b,o+i*2+1,none⟩=some (.slice x.A x.n x.c):=by
 have hr:=h.row
 rw [hl] at hr
 obtain ⟨b,o,x,hA,hb,_,hx,hm,hc⟩:=(ZbK hr).atF FR.two (by omega) hi
 exact ⟨b,o,x,hA,hb,hx,hm,hc 0 _ rfl,hc 1 _ rfl⟩
theorem Zoa {l:List FR} {i:Nat} {x:FR} (h:l[i]?=some x):l.drop i=x::l.drop (i+1):=by
 obtain ⟨h1,h2⟩:=List.getElem?_eq_some_iff.1 h
 rw [List.drop_eq_getElem_cons h1,h2]
theorem Zlc {F:Nat->Prop} (w0 w:World) (hs:Same w0 w) (g:GR) (h:RdG w0 F g) (hf:GFit g) {T:Nat} (hT:g.dat.wt=T) (hl:T<=16777216) :
 Calls Tryz.prog 47 #[g.agg] w fun e w'=>e=.returned (.int .i64 (T:Int))/\Same w w'/\Same w0 w':=by
 subst hT
 rw [ZlT] at hl ⊢
 exact (ZfP w g (h.same hs) hf (by omega)).mono fun _ _ ⟨h1,h2⟩=>⟨h1,h2,hs.same h2⟩
theorem Zob {F:Nat->Prop} {A:Option Addr} {n c:Nat} {all:List UInt8} (w0 w:World) (hs:Same w0 w) (n1 n2 n3:Nat) (h1:n1<=4294967295) (h2:n2<=4294967295) (h3:n3<=4294967295) (hb:Bytes w0 F A n c all) :
 Calls Tryz.prog 46 #[.int .i64 (n1:Int),.int .i64 (n2:Int),.int .i64 (n3:Int),.slice A n c] w fun e w'=>∃ A' c',e=.returned (.slice A' 16 c')/\Hid (OwnB w' w.heap.size (.slice A' 16 c') (ZaS n1 n2 n3 all))/\Same w w'/\Same w0 w' :=
 (ZkP w n1 n2 n3 h1 h2 h3 (hb.same hs)).mono fun _ _ ⟨v,h4,h5,h6⟩=>by
   obtain ⟨A',c',rfl⟩:=Zad h5.out
   rw [ZbQ] at h4 h5
   exact ⟨A',c',h4,h5,h6,hs.same h6⟩
theorem Zph {w5 wx:World} {gf gB:Nat} {t t':TypeId} {a0 a1 b0 b1:Value} {v s:Value} (hf:Hid (Blk w5 gf t #[a0,a1])) (hb:Hid (Blk w5 gB t' #[b0,b1])) (hc:Hid (∀ wx,Same w5 wx->(convert 28 9 v).run Tryz.prog wx=.ok s wx)) (hs:Same w5 wx) :
 Same w5 wx/\wx.cell? ⟨gf,1,none⟩=some a1/\wx.cell? ⟨gB,0,none⟩=some b0/\wx.cell? ⟨gB,1,none⟩=some b1/\(convert 28 9 v).run Tryz.prog wx=.ok s wx :=
 ⟨hs,(hf.out.same hs).cell 1,(hb.out.same hs).cell 0,(hb.out.same hs).cell 1,hc.out wx hs⟩
theorem ZjR {w w1:World} {g B base k n:Nat} {t e e1:TypeId} {cs:Array Value} {v:Value} {xs:List Value} (h:w.ownsRow base e k v n xs) (kb:Blk w g t cs) (hu:Upd (fun b=>b=g\/(OfT w e1 b/\B<=b)) w w1) (h1:e≠t) (h2:e≠e1):w1.ownsRow base e k v n xs :=
 Zai h hu fun b hb hS=>by
  have ho:=Zap h hb
  rcases hS with rfl | ⟨hS,_⟩
  · exact h1 (OfT.ne ho ⟨_,kb⟩)
  exact h2 (OfT.ne ho hS)
theorem Zef.grown {w w1:World} {g B base:Nat} {t e1:TypeId} {cs:Array Value} {v:Value} {fs:List FR} (h:Zef w base v fs) (kb:Blk w g t cs) (hu:Upd (fun b=>b=g\/(OfT w e1 b/\B<=b)) w w1) (h1:84≠t) (h2:84≠e1) (h3:5≠t) (h4:5≠e1):Zef w1 base v fs :=
 ⟨ZjR h.row kb hu h1 h2,fun x hx=>⟨ZjR (h.each x hx).row kb hu h3 h4,(h.each x hx).ty,(h.each x hx).len,(h.each x hx).max⟩⟩
def ZjS (fs:List FR):List UInt8:=(fs.map fun x=>Zal x.type x.data).flatten
theorem Zld (x:FR) (fs:List FR):ZjS (x::fs)=Zal x.type x.data++ZjS fs:=by unfold ZjS;simp
structure StR (bs:List UInt8) (er:Int) (fs:List FR) (rest:List UInt8) (i at_:Nat) (g:Zak):Prop where
 eq:Zbo bs=Zdl bs er ((fs.drop i).map FR.dat) (i==0) g at_
 inv:∃ st,InvP ⟨st,g,bs.take at_⟩/\(st=0↔i=0)/\st≠3/\(st=2->0<g.rels.length)
 left:bs.drop at_=ZjS (fs.drop i)++rest
theorem StR.next {bs:List UInt8} {er:Int} {fs:List FR} {rest:List UInt8} {i at_:Nat} {g:Zak} (h:StR bs er fs rest i at_ g) {x:FR} (hx:fs[i]?=some x) (ha:at_<=bs.length) :
 at_+(x.data.length+9)<=bs.length/\bs.drop (at_+(x.data.length+9))=ZjS (fs.drop (i+1))++rest/\bs.take (at_+(x.data.length+9))=bs.take at_++Zal x.type x.data:=by
 have h1:=h.left
 rw [Zoa hx,Zld,List.append_assoc] at h1
 have hl:(Zal x.type x.data).length=x.data.length+9:=ZaT _ _
 have h2:at_+(x.data.length+9)<=bs.length:=by
  have:=congrArg List.length h1
  rw [List.length_drop,List.length_append,hl] at this
  omega
 refine ⟨h2,?_,?_⟩
 · rw [<- List.drop_drop,h1,<-hl,List.drop_left]
 rw [List.take_add,h1,<-hl,List.take_left]
theorem Zhh {F:Nat->Prop} {A:Option Addr} {n c:Nat} {bs:List UInt8} (w:World) (hb:Bytes w F A n c bs) (hn:n<=16777216) :
 Calls Tryz.prog 48 #[.slice A n c] w (ZiB bs w):=by
 have hL:=hb.len
 have hle:=Row.le hb
 have hmx:=Row.max hb
 unfold maxLen at hmx
 have HNR:=qH (show ∀ e w',ZiB bs w e w'↔∃ (g:GR) (er:Int),e=.returned (.tuple #[.agg #[.slice g.AN g.nN g.cN,.slice g.AR g.nR g.cR],.int .i64 er])/\OwnG w' w.heap.size g/\(er=0->Zbo bs=.ok g.dat)/\(er≠0->Zbo bs=.error er)/\Same w w' from fun _ _=>Iff.rfl)
 generalize ZiB bs w=NRes at HNR ⊢
 have hs0:=((Upd.refl (fun _=>False) w).alloc (.cells #[.slice none 0 0,.slice none 0 0] 26)).alloc (.cells #[.slice none 0 0,.slice none 0 0] 26)
 have hb0:=(Blk.new w 26 #[.slice none 0 0,.slice none 0 0]).alloc (.cells #[.slice none 0 0,.slice none 0 0] 26)
 have hc0:=Blk.new (w.alloc (.cells #[.slice none 0 0,.slice none 0 0] 26)) 26 #[.slice none 0 0,.slice none 0 0]
 rw [World.size_alloc] at hc0
 obtain ⟨gR,hgR⟩:∃ gR,w.heap.size=gR:=⟨_,rfl⟩
 rw [hgR] at hb0 hc0
 have HR0:=qH hb0
 have HB0:=qH hc0
 have HS0:=qH hs0
 have HY:=qH ((hb.mono (F':=fun b=>b<gR) fun b h _=>by rw [<- hgR];exact h).same hs0)
 have HYw:=qH (hb.mono (F':=fun b=>b<w.heap.size) fun b h _=>h)
 have HL:=qH hL
 have HFin:Hid (∀ (W0:World) (gr:GR) (er:Int) (a0 a1:Value),Same w W0->Blk W0 gR 26 #[a0,a1]->OwnG W0 gR gr->(er=0->Zbo bs=.ok gr.dat)->(er≠0->Zbo bs=.error er) ->
  Blk ((W0.setCell ⟨gR,0,none⟩ (.slice gr.AN gr.nN gr.cN)).setCell ⟨gR,1,none⟩ (.slice gr.AR gr.nR gr.cR)) gR 26 #[.slice gr.AN gr.nN gr.cN,.slice gr.AR gr.nR gr.cR]/\NRes (.returned (.tuple #[.agg #[.slice gr.AN gr.nN gr.cN,.slice gr.AR gr.nR gr.cR],.int .i64 er])) ((W0.setCell ⟨gR,0,none⟩ (.slice gr.AN gr.nN gr.cN)).setCell ⟨gR,1,none⟩ (.slice gr.AR gr.nR gr.cR))):=qH (by
  intro W0 gr er a0 a1 hs hB hO h1 h2
  have hu:=((Upd.refl (fun b=>b=gR) W0).put1 (i:=0) (.slice gr.AN gr.nN gr.cN)).put1 (i:=1) (.slice gr.AR gr.nR gr.cR)
  have hT:∀ g,g<W0.heap.size->g=gR->OfT W0 26 g:=fun g _ e=>by rw [e];exact ⟨_,hB⟩
  refine ⟨(hB.put 0 _).put 1 _,(HNR.out _ _).2 ⟨gr,er,rfl,⟨?_,?_⟩,h1,h2,hs.trans hu fun k hk e=>by omega⟩⟩
  · rw [hgR];exact hO.nodes.type hu hT (by decide) (by decide) (by decide) (by decide)
  rw [hgR];exact hO.rels.type hu hT (by decide) (by decide) (by decide) (by decide))
 clear hb hs0 hb0 hc0 hL
 go_enter Tryz.func48,Tryz.ntmps48
 go_upto_region 2 with fail
 generalize (w.alloc (.cells #[.slice none 0 0,.slice none 0 0] 26)).alloc (.cells #[.slice none 0 0,.slice none 0 0] 26)=w1 at *
 have HG:=qH hgR
 clear hgR
 have c0:=HB0.out.cell 0
 have c1:=HB0.out.cell 1
 have d0:=HR0.out.cell 0
 have d1:=HR0.out.cell 1
 have f0:=HR0.out.frozen 0
 have f1:=HR0.out.frozen 1
 simp only [List.getElem?_toArray,List.getElem?_cons_succ,List.getElem?_cons_zero] at c0 c1 d0 d1
 by_cases h8:n<8
 · have HE:=qH (show Zbo bs=.error 10 by unfold Zbo;rw [if_pos (by rw [HL.out];exact h8)])
   go_wp2
   obtain ⟨e1,e2⟩:=HFin.out w1 ⟨[],none,0,0,[],none,0,0⟩ 10 _ _ HS0.out HR0.out (OwnG.nil_ _ _) (fun h=>by cases h) (fun _=>HE.out)
   exact Zbd rfl rfl e1 e2
 obtain ⟨b,o,rfl,hbl,hbF,-⟩:=HY.out.at_ (i:=0) (by omega)
 have hcv:=Zay (HY.out.head (m:=8) (by omega))
 have k8:(8:Int)<=(c:Int):=by omega
 by_cases hm:bs.take 8=Zau
 case neg =>
  have HE:=qH (show Zbo bs=.error 90 by unfold Zbo;rw [if_neg (by rw [HL.out];omega),if_pos hm])
  have hmb:(bs.take 8==[83,65,84,67,72,69,76,49])=false:=by
   rw [beq_eq_false_iff_ne]
   exact hm
  clear hm
  go_wp2_with fail
  obtain ⟨e1,e2⟩:=HFin.out w1 ⟨[],none,0,0,[],none,0,0⟩ 90 _ _ HS0.out HR0.out (OwnG.nil_ _ _) (fun h=>by cases h) (fun _=>HE.out)
  exact Zbd rfl rfl e1 e2
 have hmb:(bs.take 8==[83,65,84,67,72,69,76,49])=true:=by
  rw [beq_iff_eq]
  exact hm
 have HM:=qH hm
 clear hm
 go_upto_region 6 with fail
 clear hcv hmb
 have HBr:=qH (HY.out.rest (j:=8) (by omega))
 go_cut [5,6,7] from 26 to 32 (fun s5 s6 s7 wx=>∃ (Af:Option Addr) (nf cf:Nat) (fs:List FR) (en:Nat) (er:Int),s5=.slice Af nf cf/\s6=.int .i64 (en:Int)/\s7=.int .i64 er/\Hid (fs.length=nf)/\Hid (Zef wx w1.heap.size (.slice Af nf cf) fs)/\Hid (Zab (bs.drop 8)=(fs.map FR.dat,(bs.drop 8).drop en,er))/\Hid (Same w1 wx))
 case first =>
  by_cases hc8:c=8
  · have hn8:n=8:=by omega
    have HBr2:=HBr.out
    rw [if_pos hc8,hn8,hc8] at HBr2
    simp only [Nat.sub_self] at HBr2
    have HBr2:=qH HBr2
    subst hn8
    subst hc8
    go_wp2_with fail
    refine (ZfO w1 HBr2.out (by omega)).mono ?_
    rintro e w2 ⟨Af,cf,fs,en,er,rfl,HO,HP,hs2⟩
    have HS2:=qH hs2
    clear hs2
    go_wp2
    go_meet
    exact ⟨Af,fs.length,cf,fs,en,er,rfl,rfl,rfl,qH rfl,HO,qH HP.1,HS2⟩
  have HBr2:=HBr.out
  rw [if_neg hc8,Option.map_some,ZbB] at HBr2
  have HBr2:=qH HBr2
  go_wp2_with fail
  refine (ZfO w1 HBr2.out (by omega)).mono ?_
  rintro e w2 ⟨Af,cf,fs,en,er,rfl,HO,HP,hs2⟩
  have HS2:=qH hs2
  clear hs2
  go_wp2
  go_meet
  exact ⟨Af,fs.length,cf,fs,en,er,rfl,rfl,rfl,qH rfl,HO,qH HP.1,HS2⟩
 obtain ⟨Af,nf,cf,fs,en,er,rfl,rfl,rfl,HFL,HFO,HFP,HS2⟩:=hcut
 obtain ⟨w2,rfl⟩:∃ w2:World,w2=wc:=⟨_,rfl⟩
 have HSw:=qH (HS0.out.same HS2.out)
 have HR2:=qH (HR0.out.same HS2.out)
 have HB2:=qH (HB0.out.same HS2.out)
 have HZ1:=qH (show gR<=w1.heap.size by rw [<- HG.out];exact HS0.out.size)
 have HST:Hid (StR bs er fs ((bs.drop 8).drop en) 0 8 noG):=qH (by
  have h1:Zbo bs=Zdl bs er (fs.map FR.dat) true noG 8:=by
   unfold Zbo
   rw [if_neg (by rw [HL.out];omega),if_neg (by simp [HM.out]),HFP.out]
  refine ⟨h1,⟨0,⟨⟨by simp [noG],by simp [noG]⟩,.inl ⟨rfl,rfl,HM.out⟩⟩,by simp,by omega,by omega⟩,?_⟩
  have h2:=ZdI (bs.drop 8).length (bs.drop 8) (Nat.le_refl _)
  rw [HFP.out] at h2
  simp only [List.map_map] at h2
  exact h2)
 clear c0 c1 d0 d1 f0 f1 HR0 HB0 HBr HS2 HS0
 go_wp2_with fail
 go_loopg [8,9] nf (fun gh s8 s9 wr=>∃ (i at_:Nat) (gr:GR),nf-i=gh/\i<=nf/\at_<=n/\s8=.int .i64 at_/\s9=.int .i64 i/\Hid (StR bs er fs ((bs.drop 8).drop en) i at_ gr.dat)/\Hid (OwnG wr gR gr)/\Hid (Blk wr gR 26 #[.slice none 0 0,.slice none 0 0])/\Hid (Blk wr (gR+1) 26 #[.slice gr.AN gr.nN gr.cN,.slice gr.AR gr.nR gr.cR])/\Hid (Zef wr w1.heap.size (.slice Af nf cf) fs)/\Hid (Same w wr))
 case atStart=>exact ⟨0,8,⟨[],none,0,0,[],none,0,0⟩,rfl,Nat.zero_le _,by omega,rfl,rfl,HST,qH (OwnG.nil_ _ _),HR2,HB2,HFO,HSw⟩
 clear HST HR2 HB2 HFO HSw
 obtain ⟨i,at_,gr,rfl,hi,hat,rfl,rfl,KST,KO,KR,KB,KF,KS⟩:=hrel
 have c0:=KB.out.cell 0
 have c1:=KB.out.cell 1
 have d0:=KR.out.cell 0
 have d1:=KR.out.cell 1
 have f0:=KR.out.frozen 0
 have f1:=KR.out.frozen 1
 simp only [List.getElem?_toArray,List.getElem?_cons_succ,List.getElem?_cons_zero] at c0 c1 d0 d1
 by_cases hlt:i<nf
 · obtain ⟨bF,oF,x,rfl,hbF2,hxi,hxm,p0,p1⟩:=KF.out.at_ HFL.out hlt
   have HXO:=qH (KF.out.each x hxm)
   have hnf1:=(ZbK (n:=nf) (by have h1:=KF.out.row;rw [HFL.out] at h1;exact h1)).le
   have hnf2:=(ZbK (n:=nf) (by have h1:=KF.out.row;rw [HFL.out] at h1;exact h1)).max
   unfold maxLen at hnf2
   obtain ⟨hnx1,hnx2,hnx3⟩:=KST.out.next hxi (by rw [HL.out];exact hat)
   have hEq:=KST.out.eq
   rw [Zoa hxi] at hEq
   simp only [List.map_cons,FR.dat,Zdl] at hEq
   obtain ⟨st,hInv,hst,hst3,hst2⟩:=KST.out.inv
   have HInv:=qH hInv
   have HSt:=qH hst
   have HSt3:=qH hst3
   have HSt2:=qH hst2
   have HNx:=qH (And.intro hnx2 hnx3)
   rw [HL.out] at hnx1
   have hlr:gr.rs.length=gr.nR:=KO.out.rels.rd.len
   have hln:gr.ns.length=gr.nN:=KO.out.nodes.rd.len
   have hrl:gr.dat.rels.length=gr.nR:=by unfold GR.dat;simp only [List.length_map];exact hlr
   have hnl:gr.dat.nodes.length=gr.nN:=by unfold GR.dat;simp only [List.length_map];exact hln
   rw [hrl,hnl] at hEq
   have hbd:=Zed hInv
   simp only [hrl,hnl,List.length_take] at hbd
   obtain ⟨tx,d,Ax,m,cx⟩:=x
   simp only at p0 p1 hEq hnx1 hnx2 hnx3
   have hdl:d.length=m:=HXO.out.len
   have htx:tx<=255:=HXO.out.ty
   rw [hdl] at hnx1
   have hsa:=(Upd.refl (fun _=>False) wr).alloc (.cells #[.int .i64 (tx:Int),.slice Ax m cx] 84)
   have HF5:=qH (Blk.new wr 84 #[.int .i64 (tx:Int),.slice Ax m cx])
   have KS5:=qH (KS.out.same hsa)
   have KO5:=qH (KO.out.same hsa)
   have KR5:=qH (KR.out.same hsa)
   have KB5:=qH (KB.out.same hsa)
   have KF5:=qH (KF.out.same hsa)
   have HD5:=qH (show Bytes (wr.alloc (.cells #[.int .i64 (tx:Int),.slice Ax m cx] 84)) (fun b=>w1.heap.size<=b/\b<(wr.alloc (.cells #[.int .i64 (tx:Int),.slice Ax m cx] 84)).heap.size) Ax m cx d from (HXO.out.same hsa).bytes)
   have HZr:=qH KS.out.size
   have HZ5:=qH (show wr.heap.size<(wr.alloc (.cells #[.int .i64 (tx:Int),.slice Ax m cx] 84)).heap.size by rw [World.size_alloc];omega)
   have HEq:=qH hEq
   have HDL:=qH hdl
   have HRL:=qH (And.intro hrl hnl)
   have hbd2:gr.nR<=16777216:=by omega
   have hbd1:gr.nN<=16777216:=by omega
   have HWt:=qH (show gr.dat.wt<=16777216 by omega)
   clear hsa hxi hxm hnx2 hnx3 hInv hst hst3 hst2 hEq hlr hln hrl hnl hbd hdl KS KO KR KB KF
   go_upto_region 12 with fail
   clear c0 c1 d0 d1 f0 f1 p0 p1
   generalize wr.alloc (.cells #[.int .i64 (tx:Int),.slice Ax m cx] 84)=w5 at *
   generalize hgf:wr.heap.size=gf at *
   have HGF:=qH hgf
   clear hgf
   have c0:=KB5.out.cell 0
   have c1:=KB5.out.cell 1
   have d0:=KR5.out.cell 0
   have d1:=KR5.out.cell 1
   have f0:=KR5.out.frozen 0
   have f1:=KR5.out.frozen 1
   have p0:=HF5.out.cell 0
   have p1:=HF5.out.cell 1
   simp only [List.getElem?_toArray,List.getElem?_cons_succ,List.getElem?_cons_zero] at c0 c1 d0 d1 p0 p1
   have hgw5:gR<w5.heap.size:=KR5.out.lt
   by_cases hbad:(i=0/\tx≠1)\/(0<i/\(tx<2\/4<tx))\/(0<i/\tx=2/\0<gr.nR)
   · have HE:=qH (show Zbo bs=.error 200 by
      rw [HEq.out,if_pos]
      rcases hbad with h | h | h
      · exact .inl ⟨by simp [h.1],h.2⟩
      · exact .inr (.inl ⟨by simp;omega,h.2⟩)
      exact .inr (.inr ⟨h.2.1,h.2.2⟩))
     rcases hbad with ⟨rfl,h⟩ | ⟨h0,h | h⟩ | ⟨h0,rfl,h⟩
     · have q1:((tx:Int) != 1)=true:=by rw [bne_iff_ne];omega
       clear h
       go_wp2_with fail
       obtain ⟨e1,e2⟩:=HFin.out w5 gr 200 _ _ KS5.out KR5.out KO5.out (fun h=>by cases h) (fun _=>HE.out)
       refine Zbd (v2:=.int .i64 200) rfl rfl e1 ?_
       exact e2
     · have q1:((i:Int)==0)=false:=by rw [beq_eq_false_iff_ne];omega
       have q2:(0:Int)<(i:Int):=by omega
       have q3:(tx:Int)<2:=by omega
       clear h
       go_wp2_with fail
       obtain ⟨e1,e2⟩:=HFin.out w5 gr 200 _ _ KS5.out KR5.out KO5.out (fun h=>by cases h) (fun _=>HE.out)
       refine Zbd (v2:=.int .i64 200) rfl rfl e1 ?_
       exact e2
     · have q1:((i:Int)==0)=false:=by rw [beq_eq_false_iff_ne];omega
       have q2:(0:Int)<(i:Int):=by omega
       have q3:¬ (tx:Int)<2:=by omega
       have q4:(4:Int)<(tx:Int):=by omega
       clear h
       go_wp2_with fail
       obtain ⟨e1,e2⟩:=HFin.out w5 gr 200 _ _ KS5.out KR5.out KO5.out (fun h=>by cases h) (fun _=>HE.out)
       refine Zbd (v2:=.int .i64 200) rfl rfl e1 ?_
       exact e2
     have q1:((i:Int)==0)=false:=by rw [beq_eq_false_iff_ne];omega
     have q2:(0:Int)<(i:Int):=by omega
     have q3:(0:Int)<(gr.nR:Int):=by omega
     clear h
     go_wp2_with fail
     obtain ⟨e1,e2⟩:=HFin.out w5 gr 200 _ _ KS5.out KR5.out KO5.out (fun h=>by cases h) (fun _=>HE.out)
     refine Zbd (v2:=.int .i64 200) rfl rfl e1 ?_
     exact e2
   by_cases hi0:i=0
   · subst hi0
     obtain rfl:tx=1:=by
      by_cases h:tx=1
      · exact h
      exact absurd (.inl ⟨rfl,h⟩) hbad
     have hst0:st=0:=HSt.2 rfl
     subst hst0
     clear hbad
     have hcv:=Zay HD5.out
     by_cases hd:d=[0,1]
     · have hdb:(d==[0,1])=true:=by rw [beq_iff_eq];exact hd
       have HSTn:Hid (StR bs er fs ((bs.drop 8).drop en) 1 (at_+(m+9)) gr.dat):=qH (by
        have h2:=HNx.out
        simp only [HDL.out] at h2
        have he:Zav ⟨0,gr.dat,bs.take at_⟩ ⟨1,d⟩=.ok ⟨1,gr.dat,bs.take at_++Zal 1 d⟩:=by
         unfold Zav
         simp [hd]
        have hi:=ZdJ HInv.out he
        rw [<- h2.2] at hi
        refine ⟨?_,⟨1,hi,by simp,by omega,by omega⟩,h2.1⟩
        rw [HEq.out,if_neg (by simp),if_pos rfl,if_pos hd,HDL.out]
        rfl)
       clear hd
       go_wp2_with fail
       go_roundg (nf-(0+1))
       case measure=>omega
       case rel=>exact ⟨0+1,at_+(m+9),gr,rfl,by omega,by omega,by go_num,by go_num,HSTn,KO5,KR5,KB5,KF5,KS5⟩
     have hdb:(d==[0,1])=false:=by rw [beq_eq_false_iff_ne];exact hd
     have HE:=qH (show Zbo bs=.error 8 by rw [HEq.out,if_neg (by simp),if_pos rfl,if_neg hd])
     clear hd
     go_wp2_with fail
     obtain ⟨e1,e2⟩:=HFin.out w5 gr 8 _ _ KS5.out KR5.out KO5.out (fun h=>by cases h) (fun _=>HE.out)
     refine Zbd (v2:=.int .i64 8) rfl rfl e1 ?_
     exact e2
   have hst0:st≠0:=fun h=>hi0 (HSt.1 h)
   have hi1:0<i:=by omega
   have ht:tx=2\/tx=3\/tx=4:=by
    have h1:¬ (tx<2\/4<tx):=fun h=>hbad (.inr (.inl ⟨hi1,h⟩))
    omega
   have hr2:tx=2->gr.nR=0:=fun h=>by
    by_cases h2:gr.nR=0
    · exact h2
    exact absurd (.inr (.inr ⟨hi1,h,by omega⟩)) hbad
   have q1:((i:Int)==0)=false:=by rw [beq_eq_false_iff_ne];omega
   have q2:(0:Int)<(i:Int):=by omega
   have hib:(i==0)=false:=by rw [beq_eq_false_iff_ne];exact hi0
   have HIB:=qH hib
   have HW:=qH HInv.1
   have HGs:=qH (Zdb KO5.out HW.out (by have:=KO5.out.nodes.rd.len;omega) (by have:=KO5.out.rels.rd.len;omega))
   clear hbad hib
   rcases ht with rfl | rfl | rfl
   · have hnR0:=hr2 rfl
     have hst1:st=1:=by
      rcases HInv.2 with h | h | h | h
      · exact absurd h.1 hst0
      · exact h.1
      · have:=HSt2.out h.1
        rw [HRL.1] at this
        omega
      exact absurd h.1 HSt3.out
     subst hst1
     have q3:¬ (0:Int)<(gr.nR:Int):=by omega
     have HN0:=qH hnR0
     clear hnR0 hr2
     go_wp2_with fail
     refine (ZmG w5 HD5.out (by omega)).mono ?_
     rintro e w6 ⟨⟨xi,xl,xAL,xnL,xcL,xp,xAP,xnP,xcP⟩,ok,rfl,hx6,hok,hno,hs6⟩
     have HOk:=qH (And.intro hok hno)
     have HX6:=qH (hx6.base (B':=gR) (by omega))
     have hsa:=(hs6.alloc (.cells #[.int .i64 xi,.slice xAL xnL xcL,.slice xAP xnP xcP] 43)).alloc (.cells #[.int .i64 xi,.slice xAL xnL xcL,.slice xAP xnP xcP] 43)
     have hsb:=(Upd.refl (fun _=>False) w6).alloc (.cells #[.int .i64 xi,.slice xAL xnL xcL,.slice xAP xnP xcP] 43)
     have HSA:=qH hsa
     have HN7:=qH (Blk.new w6 43 #[.int .i64 xi,.slice xAL xnL xcL,.slice xAP xnP xcP])
     have HKB:=qH ((KB5.out.same (hs6.alloc (.cells #[.int .i64 xi,.slice xAL xnL xcL,.slice xAP xnP xcP] 43))))
     have hc0:=HKB.out.cell 0
     simp only [List.getElem?_toArray,List.getElem?_cons_zero] at hc0
     have hrow:=Zaa KO5.out.nodes.row hsa
     rw [show gr.ns.length=gr.nN from KO5.out.nodes.rd.len] at hrow
     have HROW:=qH hrow
     have hsrc:=Zan Tryz.underlying23 (Row.nd (w6.alloc (.cells #[.int .i64 xi,.slice xAL xnL xcL,.slice xAP xnP xcP] 43)) ⟨xi,xl,xAL,xnL,xcL,xp,xAP,xnP,xcP⟩) (ND.one _)
     rw [World.size_alloc] at hsrc
     have HSRC:=qH hsrc
     have hzz:gR<=w6.heap.size:=by have:=hs6.size;omega
     clear c0 c1 d0 d1 f0 f1 p0 p1 hok hno hx6 hs6 hsa hsb hrow hsrc
     go_upto_region 27 with (at_builtin;go_must (refine Zaf rfl (.tmp 123) (.tmp 125) _ _ rfl gR 43 3 56 _ Tryz.underlying23 ZgD rfl (.slice gr.AN gr.nN gr.cN) gr.nN _ rfl HROW.out rfl HSRC.out (by unfold maxLen;omega) (by omega) (by simp;omega) ?_);intro v9 w9 hg;obtain ⟨A9,c9,rfl,hO9,hB9,hB9',hU9⟩:=ZhX (i:=0) (x:=⟨xi,xl,xAL,xnL,xcL,xp,xAP,xnP,xcP⟩) KO5.out KB5.out (by decide) (by decide) (by decide) (by decide) (by decide) HSA.out (HX6.out.same (((Upd.refl (fun _=>False) w6).alloc _).alloc _)) hg;have HO9:=qH hO9;have HB9:=qH hB9;have HB9':=qH hB9';have HU9:=qH hU9;have f0':=hB9'.frozen 0;have c0':=hB9'.cell 0;simp only [List.getElem?_toArray,List.getElem?_cons_zero] at c0';have HFW:=qH (ZnO KB5.out hU9 HF5.out (by decide) (by decide));have HRW:=qH (KR5.out.upd hU9 (fun hh=>hh.elim (fun e=>by omega) fun e=>absurd (OfT.ne e.1 ⟨_,KR5.out⟩) (by decide)));have KFW:=qH (KF5.out.grown KB5.out hU9 (by decide) (by decide) (by decide) (by decide));have KSW:=qH (KS5.out.trans hU9 (by have:=HG.out;rintro b hb (e | ⟨_,e⟩) <;> omega));clear hg hO9 hB9 hB9' hU9)
     cases ok with
     | false =>
       have HE:=qH (show Zbo bs=.error 201 by
        rw [HEq.out];simp [HIB.out,HN0.out,HOk.2 rfl])
       have d0:=HRW.out.cell 0
       have d1:=HRW.out.cell 1
       have f0:=HRW.out.frozen 0
       have f1:=HRW.out.frozen 1
       have e0:(w9.setCell ⟨gR+1,0,none⟩ (.slice A9 (gr.nN+1) c9)).cell? ⟨gR+1,0,none⟩=some (.slice A9 (gr.nN+1) c9):=HB9.out.cell 0
       have e1:(w9.setCell ⟨gR+1,0,none⟩ (.slice A9 (gr.nN+1) c9)).cell? ⟨gR+1,1,none⟩=some (.slice gr.AR gr.nR gr.cR):=HB9.out.cell 1
       simp only [List.getElem?_toArray,List.getElem?_cons_succ,List.getElem?_cons_zero] at d0 d1
       generalize w9.setCell ⟨gR+1,0,none⟩ (.slice A9 (gr.nN+1) c9)=wz at *
       go_wp2_with fail
       obtain ⟨e1,e2⟩:=HFin.out wz ⟨gr.ns++[⟨xi,xl,xAL,xnL,xcL,xp,xAP,xnP,xcP⟩],A9,gr.nN+1,c9,gr.rs,gr.AR,gr.nR,gr.cR⟩ 201 _ _ KSW.out HRW.out HO9.out (fun h=>by cases h) (fun _=>HE.out)
       refine Zbd (v2:=.int .i64 201) rfl rfl e1 ?_
       exact e2
     | true =>
       have hok1:=HOk.1 rfl
       have HSTn:Hid (StR bs er fs ((bs.drop 8).drop en) (i+1) (at_+(m+9)) (GR.dat ⟨gr.ns++[⟨xi,xl,xAL,xnL,xcL,xp,xAP,xnP,xcP⟩],A9,gr.nN+1,c9,gr.rs,gr.AR,gr.nR,gr.cR⟩)):=qH (by
        have h2:=HNx.out
        simp only [HDL.out] at h2
        have he:Zav ⟨1,gr.dat,bs.take at_⟩ ⟨2,d⟩=.ok ⟨1,⟨gr.dat.nodes++[ND.dat ⟨xi,xl,xAL,xnL,xcL,xp,xAP,xnP,xcP⟩],gr.dat.rels⟩,bs.take at_++Zal 2 d⟩:=by
         unfold Zav
         simp [hok1]
        have hi:=ZdJ HInv.out he
        rw [<- h2.2] at hi
        have hgd:GR.dat ⟨gr.ns++[⟨xi,xl,xAL,xnL,xcL,xp,xAP,xnP,xcP⟩],A9,gr.nN+1,c9,gr.rs,gr.AR,gr.nR,gr.cR⟩=⟨gr.dat.nodes++[ND.dat ⟨xi,xl,xAL,xnL,xcL,xp,xAP,xnP,xcP⟩],gr.dat.rels⟩:=by unfold GR.dat;simp
        rw [hgd]
        refine ⟨?_,⟨1,hi,by omega,by omega,by omega⟩,h2.1⟩
        rw [HEq.out]
        simp [HIB.out,HN0.out,hok1,HDL.out])
       have p1:=HFW.out.cell 1
       simp only [List.getElem?_toArray,List.getElem?_cons_succ,List.getElem?_cons_zero] at p1
       clear hok1
       go_wp2_with fail
       go_roundg (nf-(i+1))
       case measure=>omega
       case rel=>exact ⟨i+1,at_+(m+9),⟨gr.ns++[⟨xi,xl,xAL,xnL,xcL,xp,xAP,xnP,xcP⟩],A9,gr.nN+1,c9,gr.rs,gr.AR,gr.nR,gr.cR⟩,rfl,by omega,by omega,by go_num,by go_num,HSTn,HO9,HRW,HB9,KFW,KSW⟩
   · clear hr2
     go_wp2_with fail
     refine (ZnZ w5 HD5.out (by omega)).mono ?_
     rintro e w6 ⟨⟨xi,xt,xs,xd,xp,xAP,xnP,xcP⟩,ok,rfl,hx6,hok,hno,hs6⟩
     have HOk:=qH (And.intro hok hno)
     have HX6:=qH (hx6.base (B':=gR) (by omega))
     have hsa:=(hs6.alloc (.cells #[.int .i64 xi,.string xt,.int .i64 xs,.int .i64 xd,.slice xAP xnP xcP] 50)).alloc (.cells #[.int .i64 xi,.string xt,.int .i64 xs,.int .i64 xd,.slice xAP xnP xcP] 50)
     have hsb:=(Upd.refl (fun _=>False) w6).alloc (.cells #[.int .i64 xi,.string xt,.int .i64 xs,.int .i64 xd,.slice xAP xnP xcP] 50)
     have HSA:=qH hsa
     have HN7:=qH (Blk.new w6 50 #[.int .i64 xi,.string xt,.int .i64 xs,.int .i64 xd,.slice xAP xnP xcP])
     have HKB:=qH ((KB5.out.same (hs6.alloc (.cells #[.int .i64 xi,.string xt,.int .i64 xs,.int .i64 xd,.slice xAP xnP xcP] 50))))
     have hc0:=HKB.out.cell 1
     simp only [List.getElem?_toArray,List.getElem?_cons_succ,List.getElem?_cons_zero] at hc0
     have hrow:=Zaa KO5.out.rels.row hsa
     rw [show gr.rs.length=gr.nR from KO5.out.rels.rd.len] at hrow
     have HROW:=qH hrow
     have hsrc:=Zan Tryz.underlying24 (Row.rl (w6.alloc (.cells #[.int .i64 xi,.string xt,.int .i64 xs,.int .i64 xd,.slice xAP xnP xcP] 50)) ⟨xi,xt,xs,xd,xp,xAP,xnP,xcP⟩) (RL.one _)
     rw [World.size_alloc] at hsrc
     have HSRC:=qH hsrc
     have hzz:gR<=w6.heap.size:=by have:=hs6.size;omega
     clear c0 c1 d0 d1 f0 f1 p0 p1 hok hno hx6 hs6 hsa hsb hrow hsrc
     go_upto_region 31 with (at_builtin;go_must (refine Zaf rfl (.tmp 138) (.tmp 140) _ _ rfl gR 50 5 64 _ Tryz.underlying24 Zgh rfl (.slice gr.AR gr.nR gr.cR) gr.nR _ rfl HROW.out rfl HSRC.out (by unfold maxLen;omega) (by omega) (by simp;omega) ?_);intro v9 w9 hg;obtain ⟨A9,c9,rfl,hO9,hB9,hB9',hU9⟩:=Zhc (i:=1) (x:=⟨xi,xt,xs,xd,xp,xAP,xnP,xcP⟩) KO5.out KB5.out (by decide) (by decide) (by decide) (by decide) (by decide) HSA.out (HX6.out.same (((Upd.refl (fun _=>False) w6).alloc _).alloc _)) hg;have HO9:=qH hO9;have HB9:=qH hB9;have HB9':=qH hB9';have HU9:=qH hU9;have f0':=hB9'.frozen 1;have c0':=hB9'.cell 1;simp only [List.getElem?_toArray,List.getElem?_cons_succ,List.getElem?_cons_zero] at c0';have HFW:=qH (ZnO KB5.out hU9 HF5.out (by decide) (by decide));have HRW:=qH (KR5.out.upd hU9 (fun hh=>hh.elim (fun e=>by omega) fun e=>absurd (OfT.ne e.1 ⟨_,KR5.out⟩) (by decide)));have KFW:=qH (KF5.out.grown KB5.out hU9 (by decide) (by decide) (by decide) (by decide));have KSW:=qH (KS5.out.trans hU9 (by have:=HG.out;rintro b hb (e | ⟨_,e⟩) <;> omega));clear hg hO9 hB9 hB9' hU9)
     cases ok with
     | false =>
       have HE:=qH (show Zbo bs=.error 201 by
        rw [HEq.out];simp [HIB.out,HOk.2 rfl])
       have d0:=HRW.out.cell 0
       have d1:=HRW.out.cell 1
       have f0:=HRW.out.frozen 0
       have f1:=HRW.out.frozen 1
       have e0:(w9.setCell ⟨gR+1,1,none⟩ (.slice A9 (gr.nR+1) c9)).cell? ⟨gR+1,0,none⟩=some (.slice gr.AN gr.nN gr.cN):=HB9.out.cell 0
       have e1:(w9.setCell ⟨gR+1,1,none⟩ (.slice A9 (gr.nR+1) c9)).cell? ⟨gR+1,1,none⟩=some (.slice A9 (gr.nR+1) c9):=HB9.out.cell 1
       simp only [List.getElem?_toArray,List.getElem?_cons_succ,List.getElem?_cons_zero] at d0 d1
       generalize w9.setCell ⟨gR+1,1,none⟩ (.slice A9 (gr.nR+1) c9)=wz at *
       go_wp2_with fail
       obtain ⟨e1,e2⟩:=HFin.out wz ⟨gr.ns,gr.AN,gr.nN,gr.cN,gr.rs++[⟨xi,xt,xs,xd,xp,xAP,xnP,xcP⟩],A9,gr.nR+1,c9⟩ 201 _ _ KSW.out HRW.out HO9.out (fun h=>by cases h) (fun _=>HE.out)
       refine Zbd (v2:=.int .i64 201) rfl rfl e1 ?_
       exact e2
     | true =>
       have hok1:=HOk.1 rfl
       have HSTn:Hid (StR bs er fs ((bs.drop 8).drop en) (i+1) (at_+(m+9)) (GR.dat ⟨gr.ns,gr.AN,gr.nN,gr.cN,gr.rs++[⟨xi,xt,xs,xd,xp,xAP,xnP,xcP⟩],A9,gr.nR+1,c9⟩)):=qH (by
        have h2:=HNx.out
        simp only [HDL.out] at h2
        have he:Zav ⟨st,gr.dat,bs.take at_⟩ ⟨3,d⟩=.ok ⟨2,⟨gr.dat.nodes,gr.dat.rels++[RL.dat ⟨xi,xt,xs,xd,xp,xAP,xnP,xcP⟩]⟩,bs.take at_++Zal 3 d⟩:=by
         unfold Zav
         rw [if_neg HSt3.out,if_neg (by simp),if_neg (by simp),if_pos ⟨hst0,rfl⟩,hok1]
        have hi:=ZdJ HInv.out he
        rw [<- h2.2] at hi
        have hgd:GR.dat ⟨gr.ns,gr.AN,gr.nN,gr.cN,gr.rs++[⟨xi,xt,xs,xd,xp,xAP,xnP,xcP⟩],A9,gr.nR+1,c9⟩=⟨gr.dat.nodes,gr.dat.rels++[RL.dat ⟨xi,xt,xs,xd,xp,xAP,xnP,xcP⟩]⟩:=by unfold GR.dat;simp
        rw [hgd]
        refine ⟨?_,⟨2,hi,by omega,by omega,by simp⟩,h2.1⟩
        rw [HEq.out]
        simp [HIB.out,hok1,HDL.out])
       have p1:=HFW.out.cell 1
       simp only [List.getElem?_toArray,List.getElem?_cons_succ,List.getElem?_cons_zero] at p1
       clear hok1
       go_wp2_with fail
       go_roundg (nf-(i+1))
       case measure=>omega
       case rel=>exact ⟨i+1,at_+(m+9),⟨gr.ns,gr.AN,gr.nN,gr.cN,gr.rs++[⟨xi,xt,xs,xd,xp,xAP,xnP,xcP⟩],A9,gr.nR+1,c9⟩,rfl,by omega,by omega,by go_num,by go_num,HSTn,HO9,HRW,HB9,KFW,KSW⟩
   clear hr2
   go_upto_region 16 with (fail)
   obtain ⟨T,hT⟩:∃ T,ZaS gr.nN gr.nR gr.dat.wt (bs.take at_)=T:=⟨_,rfl⟩
   have HT:=qH hT
   have hTl:T.length=16:=by rw [<- hT];exact ZbQ _ _ _ _
   have HCV:Hid (∀ wx,Same w5 wx->(convert 28 9 (.slice Ax m cx)).run Tryz.prog wx=.ok (.string ⟨d.toArray⟩) wx):=qH fun wx hs=>Zay (HD5.out.same hs)
   have HYh:=qH ((HYw.out.same KS5.out).head (m:=at_) hat)
   have k1:(0:Int)<=(at_:Int):=by omega
   have k2:(at_:Int)<=(c:Int):=by omega
   obtain ⟨wt,hwt⟩:∃ wt,gr.dat.wt=wt:=⟨_,rfl⟩
   have HWT:=qH hwt
   have hwl:wt<=16777216:=by rw [<- hwt];exact HWt.out
   have HT2:Hid (ZaS gr.nN gr.nR wt (bs.take at_)=T):=qH (by rw [<- hwt];exact hT)
   clear hT hwt d0 d1 f0 f1 p0 p1 c0 c1
   have h00:Same w5 w5.drew:=(Upd.refl _ w5).drew
   go_cut [94] from 78 to 152 (fun s94 wx=>∃ q:Bool,s94=.bool q/\Hid (q=!(d==T))/\Hid (Same w5 wx))
   case first =>
    have c0:=KB5.out.cell 0
    have c1:=KB5.out.cell 1
    have p1:=HF5.out.cell 1
    simp only [List.getElem?_toArray,List.getElem?_cons_succ,List.getElem?_cons_zero] at c0 c1 p1
    refine Zbg 16 (fun wx=>Same w5 wx/\wx.cell? ⟨gf,1,none⟩=some (.slice Ax m cx)/\wx.cell? ⟨gR+1,0,none⟩=some (.slice gr.AN gr.nN gr.cN)/\wx.cell? ⟨gR+1,1,none⟩=some (.slice gr.AR gr.nR gr.cR)/\(convert 28 9 (.slice Ax m cx)).run Tryz.prog wx=.ok (.string ⟨d.toArray⟩) wx) (by kernel_rfl) (Zph HF5 KB5 HCV h00) (fun hHeld=>?_)
    clear c0 c1 p1
    repeat
     first
      | refine ESt.take (i:=0) (v:=?_) (by decide +kernel) rfl (by decide +kernel) (fun _ _ _ h=>h) (Or.inl ⟨by rfl,?_⟩) (by assumption) ?_
      | refine ESt.take (i:=1) (v:=?_) (by decide +kernel) rfl (by decide +kernel) (fun _ _ _ h=>h) (Or.inl ⟨by rfl,?_⟩) (by assumption) ?_
      | refine ESt.take (i:=2) (v:=?_) (by decide +kernel) rfl (by decide +kernel) (fun _ _ _ h=>h) (Or.inl ⟨by rfl,?_⟩) (by assumption) ?_
      | refine ESt.take (i:=3) (v:=?_) (by decide +kernel) rfl (by decide +kernel) (fun _ _ _ h=>h) (Or.inl ⟨by rfl,?_⟩) (by assumption) ?_
      | refine ESt.take (i:=4) (v:=?_) (by decide +kernel) rfl (by decide +kernel) (fun _ _ _ h=>h) (Or.inl ⟨by rfl,?_⟩) (by assumption) ?_
      | refine ESt.take (i:=5) (v:=?_) (by decide +kernel) rfl (by decide +kernel) (fun _ _ _ h=>h) (Or.inl ⟨by rfl,?_⟩) (by assumption) ?_
      | refine ESt.take (i:=6) (v:=?_) (by decide +kernel) rfl (by decide +kernel) (fun _ _ _ h=>h) (Or.inl ⟨by rfl,?_⟩) (by assumption) ?_
      | refine ESt.take (i:=7) (v:=?_) (by decide +kernel) rfl (by decide +kernel) (fun _ _ _ h=>h) (Or.inl ⟨by rfl,?_⟩) (by assumption) ?_
      | refine ESt.take (i:=8) (v:=?_) (by decide +kernel) rfl (by decide +kernel) (fun _ _ _ h=>h) (Or.inl ⟨by rfl,?_⟩) (by assumption) ?_
      | refine ESt.take (i:=9) (v:=?_) (by decide +kernel) rfl (by decide +kernel) (fun _ _ _ h=>h) (Or.inl ⟨by rfl,?_⟩) (by assumption) ?_
      | refine ESt.take (i:=11) (v:=?_) (by decide +kernel) rfl (by decide +kernel) (fun _ _ _ h=>h) (Or.inl ⟨by rfl,?_⟩) (by assumption) ?_
      | refine ESt.take (i:=12) (v:=?_) (by decide +kernel) rfl (by decide +kernel) (fun _ _ _ h=>h) (Or.inl ⟨by rfl,?_⟩) (by assumption) ?_
      | refine ESt.take (i:=13) (v:=?_) (by decide +kernel) rfl (by decide +kernel) (fun _ _ _ h=>h) (Or.inl ⟨by rfl,?_⟩) (by assumption) ?_
     rotate_left
     · intro wx hSw;obtain ⟨h0,h1,h2,h3,h4⟩:=hSw;go_simp;try with_reducible rfl
     simp only [Act.put,List.setIfInBounds_toArray]
    refine ESt.branch (rs:=[10]) (by decide +kernel) (by decide +kernel) ?_
    refine AllE.cons rfl (fun K hK=>?_) AllE.nil
    go_simp
    refine (Zlc w5 _ h00 gr KO5.out.rd HGs.out.fit HWT.out hwl).mono ?_
    rintro e w6 ⟨rfl,hs6,hsa6⟩
    go_wp2_with fail
    refine hK.out _ _ (Zph HF5 KB5 HCV hsa6) (fun hHeld=>?_)
    clear hK K
    refine ESt.branch (rs:=[14]) (by decide +kernel) (by decide +kernel) ?_
    refine AllE.cons rfl (fun K hK=>?_) AllE.nil
    go_simp
    refine (Zob w5 _ hsa6 gr.nN gr.nR wt (by omega) (by omega) (by omega) HYh.out).mono ?_
    rintro e w7 ⟨A7,c7,rfl,HO7,hs7,hsa7⟩
    have hcv7:=Zay (ZaB hTl (by have h1:=HO7.out;rw [HT2.out] at h1;exact h1))
    go_wp2_with fail
    refine hK.out _ _ (Zph HF5 KB5 HCV hsa7) (fun hHeld=>?_)
    clear hK K
    refine ESt.branch (rs:=[15]) (by decide +kernel) (by decide +kernel) ?_
    refine AllE.cons rfl (fun K hK=>?_) AllE.nil
    go_simp
    refine hK.out _ _ (Zph HF5 KB5 HCV hsa7) (fun hHeld=>?_)
    clear hK K
    refine ESt.last (by decide +kernel) (by decide +kernel) rfl (fun K hK=>?_) _
    go_simp
    refine hK.out _ _ ?_
    clear hK K
    go_wp2
    go_meet
    exact ⟨_,rfl,qH rfl,qH hsa7⟩
   obtain ⟨q,rfl,HQ,KS7⟩:=hcut
   obtain ⟨w7,rfl⟩:∃ w7:World,w7=wc:=⟨_,rfl⟩
   have KS8:=qH (KS5.out.same KS7.out)
   have KO8:=qH (KO5.out.same KS7.out)
   have KR8:=qH (KR5.out.same KS7.out)
   have KB8:=qH (KB5.out.same KS7.out)
   have HF8:=qH (HF5.out.same KS7.out)
   have c0:=KB8.out.cell 0
   have c1:=KB8.out.cell 1
   have d0:=KR8.out.cell 0
   have d1:=KR8.out.cell 1
   have f0:=KR8.out.frozen 0
   have f1:=KR8.out.frozen 1
   have p1:=HF8.out.cell 1
   simp only [List.getElem?_toArray,List.getElem?_cons_succ,List.getElem?_cons_zero] at c0 c1 d0 d1 p1
   clear h00 k1 k2 hgw5
   cases q with
   | false =>
     have hdT:d=T:=by have:=HQ.out;simpa using this
     have HdT:=qH (show d=ZaS gr.nN gr.nR gr.dat.wt (bs.take at_) by rw [hdT,HT.out])
     clear hdT
     by_cases hend:at_+(m+9)<n
     · have HE:=qH (show Zbo bs=.error 11 by
        rw [HEq.out,if_neg (by simp [HIB.out]),if_neg (by simp),if_neg (by simp),if_neg (by simp),if_pos HdT.out,if_pos (by rw [HDL.out,HL.out];exact hend)])
       have hend':(at_:Int)+(m:Int)+9<(n:Int):=by omega
       go_wp2_with fail
       obtain ⟨e1,e2⟩:=HFin.out w7 gr 11 _ _ KS8.out KR8.out KO8.out (fun h=>by cases h) (fun _=>HE.out)
       refine Zbd (v2:=.int .i64 11) rfl rfl e1 ?_
       exact e2
     have HE:=qH (show Zbo bs=.ok gr.dat by
      rw [HEq.out,if_neg (by simp [HIB.out]),if_neg (by simp),if_neg (by simp),if_neg (by simp),if_pos HdT.out,if_neg (by rw [HDL.out,HL.out];exact hend)])
     have hend':¬ (at_:Int)+(m:Int)+9<(n:Int):=by omega
     go_wp2_with fail
     obtain ⟨e1,e2⟩:=HFin.out w7 gr 0 _ _ KS8.out KR8.out KO8.out (fun _=>HE.out) (fun h=>absurd rfl h)
     refine Zbd (v2:=.int .i64 0) rfl rfl e1 ?_
     exact e2
   | true =>
     have hdT:d≠T:=by have:=HQ.out;simpa using this
     have HE:=qH (show Zbo bs=.error 202 by
      rw [HEq.out,if_neg (by simp [HIB.out]),if_neg (by simp),if_neg (by simp),if_neg (by simp),if_neg (by rw [HT.out];exact hdT)])
     clear hdT
     go_wp2_with fail
     obtain ⟨e1,e2⟩:=HFin.out w7 gr 202 _ _ KS8.out KR8.out KO8.out (fun h=>by cases h) (fun _=>HE.out)
     refine Zbd (v2:=.int .i64 202) rfl rfl e1 ?_
     exact e2
 obtain rfl:i=nf:=by omega
 have HE:=qH (show Zbo bs=.error (if er≠0 then er else 10) by
  rw [KST.out.eq,List.drop_of_length_le (by rw [HFL.out];exact Nat.le_refl _)]
  rfl)
 have hen:¬ (en:Int)<0:=by omega
 by_cases he:er=0
 · subst he
   go_wp2_with fail
   obtain ⟨e1,e2⟩:=HFin.out _ gr 10 _ _ KS.out KR.out KO.out (fun h=>by cases h) (fun _=>HE.out)
   exact Zbd rfl rfl e1 e2
 have hne:(er != 0)=true:=by rw [bne_iff_ne];exact he
 have HE2:=HE.out
 rw [if_pos he] at HE2
 have HE2:=qH HE2
 have HNe:=qH he
 clear he
 go_wp2_with fail
 obtain ⟨e1,e2⟩:=HFin.out _ gr er _ _ KS.out KR.out KO.out (fun h=>absurd h HNe.out) (fun _=>HE2.out)
 exact Zbd rfl rfl e1 e2
end Go.Proofs.YtkopcinhbjimiaaGreatDoor
