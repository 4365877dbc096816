/- Texts that the claim leans on: walks and plain laws, function by function. -/
import Derived.Test.YtkopcinhbjimiaaGreatDoorS28
set_option maxRecDepth 100000
set_option maxHeartbeats 16000000
namespace Go.Proofs.YtkopcinhbjimiaaGreatDoor
open Go.RowKit Go.Shelf
theorem OwnG.ofGr {S:Nat->Prop} {w w':World} {B:Nat} {g:GR} (h:OwnG w B g) (hu:Upd S w w') (hT:∀ k,k<w.heap.size->S k->OfT w 26 k):OwnG w' B g :=
 ⟨h.nodes.type hu hT (by decide) (by decide) (by decide) (by decide),h.rels.type hu hT (by decide) (by decide) (by decide) (by decide)⟩
def ZlM (G:Zak) (w:World) (e:Ending) (w':World):Prop :=
 ∃ (eB gB:Nat) (g':GR),e=.returned (.func (.func 36) #[] #[.pointer (some ⟨eB,0,none⟩),.pointer (some ⟨gB,0,none⟩)])/\Blk w' eB 29 #[.int .i64 (chkP G).1]/\Blk w' gB 26 #[.slice g'.AN g'.nN g'.cN,.slice g'.AR g'.nR g'.cR]/\OwnG w' w.heap.size g'/\g'.dat=ZdD G/\Same w w'/\w.heap.size<=eB/\w.heap.size<=gB
theorem ZfM {F:Nat->Prop} (w:World) (g:GR) (h:RdG w F g) (hz:ZbJ g):Calls Tryz.prog 18 #[g.agg] w (ZlM g.dat w):=by
 have hmf:∀ (fn:Fn) (first cap:Array Value) (w:World),(Instr.makeFunc fn first cap).run Tryz.prog w=.ok (.func fn first cap) w:=fun _ _ _ _=>rfl
 obtain ⟨e,at_,hE⟩:∃ e at_,chkP g.dat=(e,at_):=⟨_,_,rfl⟩
 have HNR:=qH (show ∀ x w',ZlM g.dat w x w'↔∃ (eB gB:Nat) (g':GR),x=.returned (.func (.func 36) #[] #[.pointer (some ⟨eB,0,none⟩),.pointer (some ⟨gB,0,none⟩)])/\Blk w' eB 29 #[.int .i64 e]/\Blk w' gB 26 #[.slice g'.AN g'.nN g'.cN,.slice g'.AR g'.nR g'.cR]/\OwnG w' w.heap.size g'/\g'.dat=ZdD g.dat/\Same w w'/\w.heap.size<=eB/\w.heap.size<=gB from fun _ _=>by unfold ZlM;rw [hE])
 generalize ZlM g.dat w=NRes at HNR ⊢
 have s1:=(Upd.refl (fun _=>False) w).alloc (.cells #[.slice g.AN g.nN g.cN,.slice g.AR g.nR g.cR] 26)
 have HB1:=qH (Blk.new w 26 #[.slice g.AN g.nN g.cN,.slice g.AR g.nR g.cR])
 have HS1:=qH s1
 have HRG:=qH (h.same s1)
 have HC:=qH (ZdH _ g (h.same s1) hz hE)
 have HZ:=qH hz
 clear h hz hE s1
 obtain ⟨ns,AN,nN,cN,rs,AR,nR,cR⟩:=g
 simp only at HB1 HS1 HRG HC
 go_enter Tryz.func18,Tryz.ntmps18
 go_upto_region 1 with fail
 generalize w.alloc (.cells #[.slice AN nN cN,.slice AR nR cR] 26)=w1 at *
 generalize hg0:w.heap.size=g0 at *
 have c0:w1.cell? ⟨g0,0,none⟩=some (.slice AN nN cN):=HB1.out.cell 0
 have c1:w1.cell? ⟨g0,1,none⟩=some (.slice AR nR cR):=HB1.out.cell 1
 go_wp2_with fail
 refine HC.out.mono ?_
 rintro x w2 ⟨rfl,hs2⟩
 have s3:=hs2.alloc (.cells #[.int .i64 e] 29)
 have HE3:=qH (Blk.new w2 29 #[.int .i64 e])
 have HS3:=qH s3
 have hz2:=hs2.size
 have hz1:=HB1.out.lt
 clear c0 c1 hs2 s3
 go_upto_region 2 with fail
 generalize w2.alloc (.cells #[.int .i64 e] 29)=w3 at *
 have HB3:=qH (HB1.out.same HS3.out)
 have c0:w3.cell? ⟨g0,0,none⟩=some (.slice AN nN cN):=HB3.out.cell 0
 have c1:w3.cell? ⟨g0,1,none⟩=some (.slice AR nR cR):=HB3.out.cell 1
 go_wp2_with fail
 refine (ZgO w3 ⟨ns,AN,nN,cN,rs,AR,nR,cR⟩ (HRG.out.same HS3.out) HZ.out).mono ?_
 rintro x w4 ⟨⟨ns',AN',nN',cN',rs',AR',nR',cR'⟩,rfl,HD4,HO4,-,hs4⟩
 have HB4:=qH (HB3.out.same hs4)
 have HE4:=qH (HE3.out.same hs4)
 have HS4:=qH (HS3.out.trans hs4 fun _ _ f=>f)
 have hzz:=HS3.out.size
 have b0:w4.cell? ⟨g0,0,none⟩=some (.slice AN nN cN):=HB4.out.cell 0
 have b1:w4.cell? ⟨g0,1,none⟩=some (.slice AR nR cR):=HB4.out.cell 1
 have f0:=HB4.out.frozen 0
 have f1:=HB4.out.frozen 1
 clear c0 c1 hs4
 go_wp2
 refine (HNR.out _ _).2 ⟨w2.heap.size,g0,⟨ns',AN',nN',cN',rs',AR',nR',cR'⟩,rfl,?_,?_,?_,HD4.out,?_,by omega,by omega⟩
 · exact (HE4.out.far (p:=⟨g0,0,none⟩) (by simp only;omega) _).far (p:=⟨g0,1,none⟩) (by simp only;omega) _
 · exact (HB4.out.put 0 _).put 1 _
 · have hu:=((Upd.refl (fun b=>b=g0) w4).put1 (i:=0) (.slice AN' nN' cN')).put1 (i:=1) (.slice AR' nR' cR')
   exact (HO4.out.ofGr hu fun b _ e=>e ▸ ⟨_,HB4.out⟩).base (by omega)
 exact Upd.putNew (Upd.putNew (HS1.out.trans HS4.out fun _ _ f=>f) (by omega) _) (by omega) _
def UW (t:TypeId):Prop:=t=5\/t=28\/t=51\/t=3\/t=4
theorem UW_st:StU UW:=⟨by unfold UW;decide,by unfold UW;decide,by unfold UW;decide,by unfold UW;decide⟩
theorem ZnT {F:Nat->Prop} {w:World} {g:GR} (h:RdG w F g) {w5:World} {eB gB:Nat} {g':GR} (he:Blk w5 eB 29 #[.int .i64 (chkP g.dat).1]) (hg:Blk w5 gB 26 #[.slice g'.AN g'.nN g'.cN,.slice g'.AR g'.nR g'.cR])
 (hO:OwnG w5 w.heap.size g') (hD:g'.dat=ZdD g.dat) (hN:Nib w5) (B0:Nat) (hB:w5.heap.size<=B0) (hNB:1<B0) (w1:World) (hs:Same w5 w1) (hB1:B0<=w1.heap.size) :
 SeqR TDig Fence.wide 4 Tryz.prog 36 #[.pointer (some ⟨eB,0,none⟩),.pointer (some ⟨gB,0,none⟩)] BS.args (fun _ W W'=>Upd (ZaD UW B0 W) W W') (fun pre x W=>PcR (if (chkP g.dat).1=0 then Zba g.dat else []) w1.heap.size pre x W/\FzB W x)
  (fun xs=>xs.map BS.data=if (chkP g.dat).1=0 then Zba g.dat else []) (fun pre=>∃ k,pre.map BS.data=(if (chkP g.dat).1=0 then Zba g.dat else []).take k) w1:=by
 have hr:(chkP g.dat).1=0->Zce g.dat/\g'.dat=g.dat:=fun h0=>by
  obtain ⟨h1,h2⟩:=Zck h0 (Zfq h)
  exact ⟨h1,hD.trans h2⟩
 have hq:=Zmz UW_st w1 B0 eB gB g' (chkP g.dat).1 ((hO.rd.mono (F':=fun b=>b<B0) fun b _ hb=>by have:=hb.2;omega).same hs)
  (fun h0=>by
    obtain ⟨h1,h2⟩:=hr h0
    refine ZeQ hO ⟨?_,?_⟩ ?_ ?_
    · rw [h2];exact fun x hx=>(h1.nodes x hx).1
    · rw [h2];exact fun x hx=>(h1.rels x hx).1
    · have h3:=h1.nN;rw [<- h2] at h3;simp only [GR.dat,List.length_map] at h3;omega
    have h3:=h1.nR;rw [<- h2] at h3;simp only [GR.dat,List.length_map] at h3;omega)
  (fun h0=>by rw [(hr h0).2];exact (hr h0).1) (he.same hs) (hg.same hs) (hN.same hs) hNB hB1
 have e:(if (chkP g.dat).1=0 then Zba g'.dat else [])=if (chkP g.dat).1=0 then Zba g.dat else []:=by
  split
  · rename_i h0
    rw [(hr h0).2]
  rfl
 rw [e] at hq
 exact hq
def ZlN (G:Zak) (w:World) (e:Ending) (w':World):Prop :=
 ∃ v,e=.returned (.tuple #[v,.int .i64 (chkP G).1])/\Same w w'/\((chkP G).1≠0->v=.slice none 0 0)/\((chkP G).1=0->Lib.FreshBytes w.heap.size w' v (arcP G))
theorem Zeq {F:Nat->Prop} (w:World) (g:GR) (h:RdG w F g) (hz:ZbJ g) (hN:Nib w):Calls Tryz.prog 14 #[g.agg] w (ZlN g.dat w):=by
 obtain ⟨e,at_,hE⟩:∃ e at_,chkP g.dat=(e,at_):=⟨_,_,rfl⟩
 have he1:(chkP g.dat).1=e:=by rw [hE]
 have HNR:=qH (show ∀ x w',ZlN g.dat w x w'↔∃ v,x=.returned (.tuple #[v,.int .i64 e])/\Same w w'/\(e≠0->v=.slice none 0 0)/\(e=0->Lib.FreshBytes w.heap.size w' v (arcP g.dat)) from fun _ _=>by unfold ZlN;rw [he1])
 generalize ZlN g.dat w=NRes at HNR ⊢
 have s1:=(Upd.refl (fun _=>False) w).alloc (.cells #[.slice g.AN g.nN g.cN,.slice g.AR g.nR g.cR] 26)
 have HB1:=qH (Blk.new w 26 #[.slice g.AN g.nN g.cN,.slice g.AR g.nR g.cR])
 have HS1:=qH s1
 have HRG:=qH (h.same s1)
 have HC:=qH (ZdH _ g (h.same s1) hz hE)
 have HE1:=qH he1
 have HZ:=qH hz
 have HN:=qH hN
 clear h hz hE he1 s1 hN
 obtain ⟨ns,AN,nN,cN,rs,AR,nR,cR⟩:=g
 simp only at HB1 HS1 HRG HC
 go_enter Tryz.func14,Tryz.ntmps14
 go_upto_region 1 with fail
 generalize w.alloc (.cells #[.slice AN nN cN,.slice AR nR cR] 26)=w1 at *
 generalize hg0:w.heap.size=g0 at *
 have c0:w1.cell? ⟨g0,0,none⟩=some (.slice AN nN cN):=HB1.out.cell 0
 have c1:w1.cell? ⟨g0,1,none⟩=some (.slice AR nR cR):=HB1.out.cell 1
 go_wp2_with fail
 refine HC.out.mono ?_
 rintro x w2 ⟨rfl,hs2⟩
 have HS2:=qH hs2
 have HB2:=qH (HB1.out.same hs2)
 clear c0 c1 hs2
 by_cases h0:e=0
 case neg =>
  have nz:(e != 0)=true:=by rw [bne_iff_ne];exact h0
  go_wp2
  exact (HNR.out _ _).2 ⟨_,rfl,HS1.out.trans HS2.out fun _ _ f=>f,fun _=>rfl,fun h=>absurd h h0⟩
 subst h0
 have c0:w2.cell? ⟨g0,0,none⟩=some (.slice AN nN cN):=HB2.out.cell 0
 have c1:w2.cell? ⟨g0,1,none⟩=some (.slice AR nR cR):=HB2.out.cell 1
 go_wp2_with fail
 refine (ZfM w2 ⟨ns,AN,nN,cN,rs,AR,nR,cR⟩ (HRG.out.same HS2.out) HZ.out).mono ?_
 rintro x w5 ⟨eB,gB,g',rfl,hEB,hGB,hOG,hDG,hs5,_,_⟩
 have HS5:=qH hs5
 have HSQ:=qH (ZnT (HRG.out.same HS2.out) hEB hGB hOG hDG ((HN.out.same HS1.out).same (HS2.out.trans hs5 fun _ _ f=>f)) w5.heap.size (Nat.le_refl _) (by have h1:=HN.1;have:=HS1.out.size;have:=HS2.out.size;have:=hs5.size;omega))
 have HR:=qH (Zck HE1.out (Zfq HRG.out)).1
 rw [if_pos HE1.out] at HSQ
 clear c0 c1 hEB hGB hOG hDG hs5
 have hPL:(Zba (GR.dat ⟨ns,AN,nN,cN,rs,AR,nR,cR⟩)).length=3+nN+nR:=by
  have h1:ns.length=nN:=HRG.out.nodes.len
  have h2:rs.length=nR:=HRG.out.rels.len
  unfold Zba
  rw [List.length_append,ZgZ,ZnK]
  simp [GR.dat,h1,h2]
  omega
 have hP1:3+nN+nR<=100000:=by
  have h1:=HR.out.nN
  have h2:=HR.out.nR
  have h3:ns.length=nN:=HRG.out.nodes.len
  have h4:rs.length=nR:=HRG.out.rels.len
  simp only [GR.dat,List.length_map] at h1 h2
  omega
 have HP:=qH hPL
 clear hPL
 go_wp2_with fail
 refine (ZiU (T:=TDig) (U:=UW) (by unfold TDig;decide) (by unfold TDig;decide) (by unfold TDig;decide) (.inr (.inl rfl)) (.inr (.inr (.inl rfl))) (enters_of Tryz.func36 (by kernel_rfl) rfl) w5 w5.heap.size (Nat.le_refl _) (Zba (GR.dat ⟨ns,AN,nN,cN,rs,AR,nR,cR⟩)) (by rw [HP.out];exact hP1)
  (fun w1 hs=>(HSQ.out w1 hs hs.size).weak fun pre x W hp=>⟨hp.1.at_,hp.1.row.base hs.size⟩)).mono ?_
 rintro x w6 ⟨A,c,l,rfl,hO6,hL6,hs6⟩
 have hll:l.length=3+nN+nR:=by rw [<- HP.out,<-hL6,List.length_map]
 have HL:=qH hll
 rw [hll] at hO6 ⊢
 have HJ:=qH (ZnS w6 hO6 hll (by omega) hP1 (by rw [hL6];have:=HR.out.arc_len;unfold arcP at this;omega))
 rw [hL6] at HJ
 have HS6:=qH hs6
 clear hll hO6 hL6 hs6
 go_wp2_with fail
 refine HJ.out.mono ?_
 rintro x w7 ⟨v,rfl,hF,hs7⟩
 have hS7:Same w w7:=(((HS1.out.trans HS2.out fun _ _ f=>f).trans HS5.out fun _ _ f=>f).trans HS6.out fun _ _ f=>f).trans hs7 fun _ _ f=>f
 have hSz:g0<=w6.heap.size:=by rw [<- hg0];exact (((HS1.out.trans HS2.out fun _ _ f=>f).trans HS5.out fun _ _ f=>f).trans HS6.out fun _ _ f=>f).size
 obtain ⟨q,hq⟩:∃ q,arcP (GR.dat ⟨ns,AN,nN,cN,rs,AR,nR,cR⟩)=q:=⟨_,rfl⟩
 have HF:Hid (Lib.FreshBytes w6.heap.size w7 v q):=qH (by rw [<- hq];exact hF)
 have HQ:=qH hq
 clear hF hs7 hq
 obtain ⟨A7,c7,z7,rfl,hB7,hr7⟩:=HF.out
 go_wp2
 exact (HNR.out _ _).2 ⟨_,rfl,hS7,fun h=>absurd rfl h,fun _=>by rw [HQ.out];exact ⟨A7,c7,z7,rfl,Nat.le_trans hSz hB7,hr7⟩⟩
end Go.Proofs.YtkopcinhbjimiaaGreatDoor
namespace Go.Proofs.YtkopcinhbjimiaaGreatDoor
open Go.RowKit
structure FRd (w:World) (B fr:Nat) (v1 v2:Value) (rest:List UInt8) (ready:List FR) (er:Int):Prop where
 base:B<=fr
 blk:Blk w fr 142 #[v1,v2,.int .i64 er]
 orest:Off w B 5 1 v1 rest.length (rest.map u8v)
 oready:Off w B 84 2 v2 ready.length (ready.flatMap FR.cells)
 each:∀ x∈ready,ZcQ w B x
theorem Zbi {w:World} {B k n:Nat} {e:TypeId} {v:Value} {xs:List Value} (h:Off w B e k v n xs) {g:Nat} (hg:v.ownBlock=some g):OfT w e g:=by
 rcases h.2 with ⟨rfl,_⟩ | ⟨b,o,cap,cur,rfl,_,h2,_⟩
 · cases hg
 injection hg with hg
 subst hg
 exact ⟨_,h2⟩
theorem Off.bytes {w:World} {B n c:Nat} {A:Option Addr} {bs:List UInt8} (h:Off w B 5 1 (.slice A n c) bs.length (bs.map u8v)) (hn:bs.length=n):Bytes w (fun b=>(Value.slice A n c).ownBlock=some b) A n c bs:=by
 subst hn
 exact h.row.mono fun b _ hb=>hb.2
theorem ZcL {w:World} {B k n g:Nat} {e t:TypeId} {v:Value} {xs:List Value} {cs:Array Value} (h:Off w B e k v n xs) (hb:Blk w g t cs) (hne:e≠t):v.ownBlock≠some g:=fun hh=>hne (OfT.ne (Zbi h hh) ⟨_,hb⟩)
theorem ZmA (w:World):Calls Tryz.prog 49 #[] w fun e w'=>e=.returned (.pointer (some ⟨w.heap.size,0,none⟩))/\FRd w' w.heap.size w.heap.size (.slice none 0 0) (.slice none 0 0) [] [] 0/\Same w w':=by
 go_enter Tryz.func49,Tryz.ntmps49
 go_wp2
 go_ret
 exact ⟨rfl,⟨Nat.le_refl _,Blk.new _ _ _,Off.nil_ _ _ _ _,Off.nil_ _ _ _ _,by simp⟩,(Upd.refl _ w).alloc _⟩
def ZkK (B fr:Nat) (v1 v2:Value) (l:List UInt8) (w:World) (e:Ending) (w':World):Prop :=
 ∃ v1' v2' fs,e=.returned (.int .i64 (Zae l).2.2)/\fs.map FR.dat=(Zae l).1/\FRd w' B fr v1' v2' (if (Zae l).2.2=0 then (Zae l).2.1 else []) fs (Zae l).2.2 /\
  Upd (fun b=>b=fr\/v1.ownBlock=some b\/v2.ownBlock=some b) w w'/\(v1'.ownBlock=v1.ownBlock\/v1'.ownBlock=none\/∃ g,v1'.ownBlock=some g/\w.heap.size<=g)/\(v2'.ownBlock=v2.ownBlock\/∃ g,v2'.ownBlock=some g/\w.heap.size<=g)
theorem ZkL {F:Nat->Prop} {B fr:Nat} {v1 v2:Value} {rest bs:List UInt8} {A:Option Addr} {n c:Nat} (w:World) (h:FRd w B fr v1 v2 rest [] 0) (hb:Bytes w F A n c bs) (hl:rest.length+n<=16777216) (hN:Nib w) (hG:1<B) :
 Calls Tryz.prog 92 #[.pointer (some ⟨fr,0,none⟩),.slice A n c] w (ZkK B fr v1 v2 (rest++bs) w):=by
 obtain ⟨l0,hl0⟩:∃ l0,rest++bs=l0:=⟨_,rfl⟩
 rw [hl0]
 have HNR:=qH (show ∀ e w',ZkK B fr v1 v2 l0 w e w'↔∃ v1' v2' fs,e=.returned (.int .i64 (Zae l0).2.2)/\fs.map FR.dat=(Zae l0).1/\FRd w' B fr v1' v2' (if (Zae l0).2.2=0 then (Zae l0).2.1 else []) fs (Zae l0).2.2 /\
  Upd (fun b=>b=fr\/v1.ownBlock=some b\/v2.ownBlock=some b) w w'/\(v1'.ownBlock=v1.ownBlock\/v1'.ownBlock=none\/∃ g,v1'.ownBlock=some g/\w.heap.size<=g)/\(v2'.ownBlock=v2.ownBlock\/∃ g,v2'.ownBlock=some g/\w.heap.size<=g) from fun _ _=>Iff.rfl)
 generalize ZkK B fr v1 v2 l0 w=NRes at HNR ⊢
 have HB:=qH h.base
 have hfr:=h.blk.lt
 have HK:=qH h.blk
 have HO1:=qH h.orest
 have HO2:=qH h.oready
 have HY:=qH hb
 have HL:=qH hb.len
 have HN:=qH hN
 obtain ⟨A1,c1,rfl⟩:=h.orest.form
 have hp0:=h.blk.cell 0
 have hp1:=h.blk.cell 1
 have hp2:=h.blk.cell 2
 simp only [List.getElem?_toArray,List.getElem?_cons_succ,List.getElem?_cons_zero] at hp0 hp1 hp2
 have hBw:B<=w.heap.size:=by have:=h.base;omega
 clear h hb hN
 generalize hrl:rest.length=rl at *
 go_enter Tryz.func92,Tryz.ntmps92
 go_upto_region 4 with (at_builtin;go_must (refine ZjZ rfl (.tmp 21) (.tmp 22) _ _ rfl B _ _ _ _ Tryz.underlying28 ZaR rfl (.slice A1 rl c1) rl (rest.map u8v) rfl HO1.out rfl (Zal Tryz.underlying28 HY.out (ZcC bs)) (by unfold maxLen;omega) (by omega) hBw ?_);intro v3 w3 hg;obtain ⟨A3,c3,rfl⟩:=hg.own.form;have HG:=qH hg;have HK3:=qH (HK.out.upd hg.upd (ZcL HO1.out HK.out (by decide)));have q0:=HK3.out.cell 0;have g0:=HK3.out.frozen 0;simp only [List.getElem?_toArray,List.getElem?_cons_zero] at q0;clear hg)
 have hu3:=HG.out.upd
 have hs4:=(Upd.refl (fun b=>b=fr) w3).put1 (i:=0) (.slice A3 (rl+n) c3)
 have HK4:Hid (Blk (w3.setCell ⟨fr,0,none⟩ (.slice A3 (rl+n) c3)) fr 142 #[.slice A3 (rl+n) c3,v2,.int .i64 0]):=qH (HK3.out.put 0 _)
 have HU4:Hid (Upd (fun b=>b=fr\/(Value.slice A1 rl c1).ownBlock=some b\/v2.ownBlock=some b) w (w3.setCell ⟨fr,0,none⟩ (.slice A3 (rl+n) c3))):=qH ((hu3.mono (S':=fun b=>b=fr\/(Value.slice A1 rl c1).ownBlock=some b\/v2.ownBlock=some b) fun _ _ e=>.inr (.inl e)).trans hs4 fun _ _ e=>.inl e)
 have HO4:Hid (Off (w3.setCell ⟨fr,0,none⟩ (.slice A3 (rl+n) c3)) B 5 1 (.slice A3 (rl+n) c3) (rl+n) (l0.map u8v)):=qH (by
  rw [<- hl0,List.map_append]
  exact HG.out.own.upd hs4 fun b hb e=>ZcL HG.out.own HK3.out (by decide) (e ▸ hb))
 have HR4:Hid (Off (w3.setCell ⟨fr,0,none⟩ (.slice A3 (rl+n) c3)) B 84 2 v2 0 []):=qH ((HO2.out.upd hu3 fun b hb e=>absurd (OfT.ne (Zbi HO2.out hb) (Zbi HO1.out e)) (by decide)).upd hs4 fun b hb e=>ZcL (HO2.out.upd hu3 fun b hb e=>absurd (OfT.ne (Zbi HO2.out hb) (Zbi HO1.out e)) (by decide)) HK3.out (by decide) (e ▸ hb))
 have HN4:Hid (Nib (w3.setCell ⟨fr,0,none⟩ (.slice A3 (rl+n) c3))):=qH (HN.out.upd HU4.out (by
  have h1:=HB.out
  rintro (e | e | e)
  · omega
  · have:=(HO1.out.lt _ e).1;omega
  have:=(HO2.out.lt _ e).1;omega))
 have HW4:=qH HG.out.block
 have hll:l0.length=rl+n:=by rw [<- hl0,List.length_append,hrl,HL.out]
 have HLL:=qH hll
 clear hs4 hu3 HG HK3 q0 g0 hp0 hp1 hp2
 generalize w3.setCell ⟨fr,0,none⟩ (.slice A3 (rl+n) c3)=w4 at *
 go_loopg [] (l0.length) (fun gh wr=>∃ (w1 w2:Value) (l:List UInt8) (fs:List FR),l.length=gh/\Hid (Blk wr fr 142 #[w1,w2,.int .i64 0])/\Hid (Off wr B 5 1 w1 l.length (l.map u8v))/\Hid (Off wr B 84 2 w2 fs.length (fs.flatMap FR.cells))/\Hid (∀ x∈fs,ZcQ wr B x)/\Hid (Zae l0=(fs.map FR.dat++(Zae l).1,(Zae l).2))/\Hid (Nib wr)/\Hid (Upd (fun b=>b=fr\/(Value.slice A1 rl c1).ownBlock=some b\/v2.ownBlock=some b) w wr)/\Hid (w1.ownBlock=(Value.slice A1 rl c1).ownBlock\/w1.ownBlock=none\/∃ g,w1.ownBlock=some g/\w.heap.size<=g)/\Hid (w2.ownBlock=v2.ownBlock\/∃ g,w2.ownBlock=some g/\w.heap.size<=g)/\l.length<=16777216/\fs.length+l.length<=16777216)
 case atStart=>exact ⟨.slice A3 (rl+n) c3,v2,l0,[],rfl,HK4,qH (by rw [HLL.out];exact HO4.out),HR4,qH (by simp),qH rfl,HN4,HU4,qH (HW4.out.imp_right .inr),qH (.inl rfl),by omega,by simp;omega⟩
 clear HK4 HO4 HR4 HN4 HU4 HW4
 obtain ⟨x1,x2,l,fs,rfl,KK,KO,KR,KE,KP,KN,KU,KW1,KW2,hl16,hfl⟩:=hrel
 obtain ⟨AL,cL,rfl⟩:=KO.out.form
 obtain ⟨AR,cR,rfl⟩:=KR.out.form
 have KY:=qH (KO.out.bytes rfl)
 have p0:=KK.out.cell 0
 have p1:=KK.out.cell 1
 simp only [List.getElem?_toArray,List.getElem?_cons_succ,List.getElem?_cons_zero] at p0 p1
 have hfrr:=KK.out.lt
 have hszr:=KU.out.size
 cases hx:oneP l with
 | error er =>
   have HX:=qH hx
   have hne:(er != 0)=true:=by have:=Zkc hx;rw [bne_iff_ne];omega
   have hner:=qH (show er≠0 by have:=Zkc hx;omega)
   have HFr:=qH (show Zae l0=(fs.map FR.dat,l,er) by rw [KP.out,Zdh hx];simp)
   clear hx
   go_wp2_with fail
   refine (Zpv wr KY.out (by omega) KN.out HX.out).mono ?_
   rintro e w5 ⟨rfl,hs5⟩
   have hsa:=hs5.alloc (.cells #[.int .i64 0,.slice none 0 0] 84)
   have HSA:=qH hsa
   have hk6:=KK.out.same hsa
   have HK6:=qH hk6
   have g0:=hk6.frozen 0
   have g2:=hk6.frozen 2
   have k0:=hk6.cell 0
   have k2:=hk6.cell 2
   simp only [List.getElem?_toArray,List.getElem?_cons_succ,List.getElem?_cons_zero] at k0 k2
   clear hs5 hsa hk6 p0 p1
   go_upto_region 5 with fail
   generalize w5.alloc (.cells #[.int .i64 0,.slice none 0 0] 84)=w6 at *
   go_wp2_with fail
   have hp:=((Upd.refl (fun b=>b=fr) w6).put1 (i:=2) (.int .i64 er)).put1 (i:=0) (.slice none 0 0)
   have hkp:=(HK6.out.put 2 (.int .i64 er)).put 0 (.slice none 0 0)
   have hR:=(KR.out.same HSA.out).upd hp fun b hb e=>ZcL (KR.out.same HSA.out) HK6.out (by decide) (e ▸ hb)
   have hE:∀ x∈fs,ZcQ ((w6.setCell ⟨fr,2,none⟩ (.int .i64 er)).setCell ⟨fr,0,none⟩ (.slice none 0 0)) B x:=fun x hx=>((KE.out x hx).same HSA.out).type hp (fun b _ e=>by rw [e];exact ⟨_,HK6.out⟩) (by decide)
   refine (HNR.out _ _).2 ⟨.slice none 0 0,.slice AR fs.length cR,fs,by rw [HFr.out];rfl,by rw [HFr.out],?_,(KU.out.same HSA.out).trans hp fun _ _ e=>.inl e,.inr (.inl rfl),KW2.out⟩
   rw [HFr.out]
   simp only
   rw [if_neg hner.out]
   exact ⟨HB.out,hkp,Off.nil_ _ _ _ _,hR,hE⟩
 | ok o =>
   cases o with
   | none =>
     have HX:=qH hx
     have HFr:=qH (show Zae l0=(fs.map FR.dat,l,0) by rw [KP.out,ZbS hx];simp)
     clear hx
     go_wp2_with fail
     refine (ZoA wr KY.out (by omega) KN.out HX.out).mono ?_
     rintro e w5 ⟨rfl,hs5⟩
     have hsa:=hs5.alloc (.cells #[.int .i64 0,.slice none 0 0] 84)
     have HSA:=qH hsa
     clear hs5 hsa p0 p1
     go_upto_region 5 with fail
     generalize w5.alloc (.cells #[.int .i64 0,.slice none 0 0] 84)=w6 at *
     go_wp2_with fail
     refine (HNR.out _ _).2 ⟨.slice AL l.length cL,.slice AR fs.length cR,fs,by rw [HFr.out];rfl,by rw [HFr.out],?_,KU.out.same HSA.out,KW1.out,KW2.out⟩
     rw [HFr.out]
     simp only
     rw [if_pos trivial]
     exact ⟨HB.out,KK.out.same HSA.out,KO.out.same HSA.out,KR.out.same HSA.out,fun x hx=>(KE.out x hx).same HSA.out⟩
   | some p =>
     obtain ⟨f,r⟩:=p
     have HX:=qH hx
     obtain ⟨-,hr,hlen,hty,hdl⟩:=ZeE hx
     have HFr:=qH (show Zae l0=((fs.map FR.dat++[f])++(Zae r).1,(Zae r).2) by rw [KP.out,Zbk hx];simp)
     have HRr:=qH hr
     clear hx hr
     obtain ⟨ty,d⟩:=f
     simp only at hlen hty hdl HFr HRr
     obtain ⟨bL,oL,rfl,-,-,-⟩:=KY.out.at_ (i:=0) (by omega)
     go_wp2_with fail
     refine (Zpu wr KY.out (by omega) KN.out HX.out).mono ?_
     rintro e w5 ⟨A5,c5,rfl,hO5,hs5⟩
     simp only at hO5 ⊢
     obtain ⟨m,hm⟩:∃ m,d.length=m:=⟨_,rfl⟩
     rw [hm] at hO5 hlen hdl HRr ⊢
     have HM:=qH hm
     have hsa:=hs5.alloc (.cells #[.int .i64 (ty:Int),.slice A5 m c5] 84)
     have hsb:=(Upd.refl (fun _=>False) w5).alloc (.cells #[.int .i64 (ty:Int),.slice A5 m c5] 84)
     have HSA:=qH hsa
     have HF6:=qH (Blk.new w5 84 #[.int .i64 (ty:Int),.slice A5 m c5])
     have HX6:Hid (ZcQ (w5.alloc (.cells #[.int .i64 (ty:Int),.slice A5 m c5] 84)) B ⟨ty,d,A5,m,c5⟩):=qH ⟨by
      have h1:=Zad (base':=B) (Zaa hO5 hsb) (by omega)
      unfold OwnB at h1
      rw [hm] at h1
      exact h1,hty,hm,hdl⟩
     have HK6:=qH (KK.out.same hsa)
     have HO6:=qH (KO.out.same hsa)
     have HR6:=qH (KR.out.same hsa)
     have HE6:=qH fun x hx=>(KE.out x hx).same hsa
     have HN6:=qH (KN.out.same hsa)
     have HU6:=qH (KU.out.same hsa)
     have q1:((m:Int)+9==0)=false:=by rw [beq_eq_false_iff_ne];omega
     have HZ6:=qH (show wr.heap.size<=w5.heap.size from hs5.size)
     have HRL:=qH fun g (hg:(Value.slice AR fs.length cR).ownBlock=some g)=>(KR.out.lt g hg).2
     clear hO5 hs5 hsa hsb hm p0 p1 KK KO KR KE KN KU KY
     go_upto_region 9 with (fail)
     generalize w5.alloc (.cells #[.int .i64 (ty:Int),.slice A5 m c5] 84)=w6 at *
     generalize hgf:w5.heap.size=gf at *
     have hBw6:B<=w6.heap.size:=by have:=HU6.out.size;omega
     have hKeep:Hid (∀ wx,Same w6 wx->wx.cell? ⟨fr,1,none⟩=some (.slice AR fs.length cR)/\wx.cell? ⟨gf,0,none⟩=some (.int .i64 (ty:Int))/\wx.cell? ⟨gf,1,none⟩=some (.slice A5 m c5)):=qH fun wx hs=>⟨(HK6.out.same hs).cell 1,(HF6.out.same hs).cell 0,(HF6.out.same hs).cell 1⟩
     have s0:Same w6 w6.drew:=(Upd.refl _ w6).drew
     clear q1
     refine ZaX 10 (fun wx=>wx.cell? ⟨fr,1,none⟩=some (.slice AR fs.length cR)/\wx.cell? ⟨gf,0,none⟩=some (.int .i64 (ty:Int))/\wx.cell? ⟨gf,1,none⟩=some (.slice A5 m c5)) (by kernel_rfl) (hKeep.out _ s0) (fun hHeld=>?_)
     repeat
      first
       | refine ESt.take (i:=0) (v:=?_) (by decide +kernel) rfl (by decide +kernel) (fun _ _ _ h=>h) (Or.inl ⟨by rfl,?_⟩) (by assumption) ?_
       | refine ESt.take (i:=1) (v:=?_) (by decide +kernel) rfl (by decide +kernel) (fun _ _ _ h=>h) (Or.inl ⟨by rfl,?_⟩) (by assumption) ?_
       | refine ESt.take (i:=2) (v:=?_) (by decide +kernel) rfl (by decide +kernel) (fun _ _ _ h=>h) (Or.inl ⟨by rfl,?_⟩) (by assumption) ?_
       | refine ESt.take (i:=3) (v:=?_) (by decide +kernel) rfl (by decide +kernel) (fun _ _ _ h=>h) (Or.inl ⟨by rfl,?_⟩) (by assumption) ?_
       | refine ESt.take (i:=4) (v:=?_) (by decide +kernel) rfl (by decide +kernel) (fun _ _ _ h=>h) (Or.inl ⟨by rfl,?_⟩) (by assumption) ?_
       | refine ESt.take (i:=5) (v:=?_) (by decide +kernel) rfl (by decide +kernel) (fun _ _ _ h=>h) (Or.inl ⟨by rfl,?_⟩) (by assumption) ?_
      rotate_left
      · intro wx hSw;obtain ⟨h0,h1,h2⟩:=hSw;go_simp;try with_reducible rfl
      simp only [Act.put,List.setIfInBounds_toArray]
     refine ESt.branch (rs:=[6]) (by decide +kernel) (by decide +kernel) ?_
     refine AllE.cons rfl (fun K hK=>?_) AllE.nil
     go_simp
     have sA:=((Upd.refl (fun _=>False) w6).alloc (.cells #[.int .i64 (ty:Int),.slice A5 m c5] 84)).drew
     refine hK.out _ _ (hKeep.out _ sA) (fun hHeld=>?_)
     clear hK K
     refine ESt.branch (rs:=[7]) (by decide +kernel) (by decide +kernel) ?_
     refine AllE.cons rfl (fun K hK=>?_) AllE.nil
     refine ZmV rfl (.tmp 51) (.tmp 53) _ _ rfl B 84 2 32 _ Tryz.underlying134 Zmf rfl (.slice AR fs.length cR) fs.length _ rfl (HR6.out.same sA) rfl (Zal Tryz.underlying134 (Row.fr w6 ⟨ty,d,A5,m,c5⟩).drew (FR.one _)) (by unfold maxLen;omega) (by omega) (by have:=sA.size;omega) ?_
     intro v9 w9 hg9
     have hk9:=(HK6.out.same sA).upd hg9.upd (ZcL (HR6.out.same sA) (HK6.out.same sA) (by decide))
     have hf9:=(HF6.out.same sA).upd hg9.upd fun e=>by have:=HRL.out _ e;have:=HZ6.out;omega
     obtain ⟨A9,c9,rfl⟩:=hg9.own.form
     have HK9:=qH hk9
     have hU9:Upd (fun b=>b=fr\/(Value.slice AR fs.length cR).ownBlock=some b) w6 (w9.setCell ⟨fr,1,none⟩ (.slice A9 (fs.length+1) c9)):=Upd.put ((sA.mono (S':=fun b=>b=fr\/(Value.slice AR fs.length cR).ownBlock=some b) fun _ _ f=>f.elim).trans hg9.upd fun _ _ e=>.inr e) (.inl rfl) _
     have hp:=(Upd.refl (fun b=>b=fr) w9).put1 (i:=1) (.slice A9 (fs.length+1) c9)
     have hOR:Off (w9.setCell ⟨fr,1,none⟩ (.slice A9 (fs.length+1) c9)) B 84 2 (.slice A9 (fs.length+1) c9) (fs++[(⟨ty,d,A5,m,c5⟩:FR)]).length ((fs++[(⟨ty,d,A5,m,c5⟩:FR)]).flatMap FR.cells):=by
      rw [List.length_append,List.flatMap_append]
      simp only [List.length_cons,List.length_nil,List.flatMap_cons,List.flatMap_nil,List.append_nil]
      exact hg9.own.upd hp fun b hb e=>ZcL hg9.own hk9 (by decide) (e ▸ hb)
     have hSf:∀ b,b<w6.heap.size->(b=fr\/(Value.slice AR fs.length cR).ownBlock=some b)->∀ {e:TypeId},OfT w6 e b->e=142\/e=84:=fun b hb hS e he=>by
      rcases hS with rfl | hS
      · exact .inl (OfT.ne he ⟨_,HK6.out⟩)
      exact .inr (OfT.ne he (Zbi HR6.out hS))
     have hOL:Off (w9.setCell ⟨fr,1,none⟩ (.slice A9 (fs.length+1) c9)) B 5 1 (.slice (some ⟨bL,oL,none⟩) l.length cL) l.length (l.map u8v):=HO6.out.upd hU9 fun b hb e=>by
      have h1:=hSf b (HO6.out.lt b hb).2 e (Zbi HO6.out hb)
      exact absurd h1 (by decide)
     have hEa:∀ x∈fs++[(⟨ty,d,A5,m,c5⟩:FR)],ZcQ (w9.setCell ⟨fr,1,none⟩ (.slice A9 (fs.length+1) c9)) B x:=fun x hx=>by
      have h1:ZcQ w6 B x:=by
       rcases List.mem_append.1 hx with hx | hx
       · exact HE6.out x hx
       obtain rfl:x=⟨ty,d,A5,m,c5⟩:=by simpa using hx
       exact HX6.out
      exact h1.upd hU9 fun b hb e=>by
       have h2:=hSf b (h1.row.lt b hb).2 e (Zaq h1.row hb)
       exact absurd h2 (by decide)
     have hNb:Nib (w9.setCell ⟨fr,1,none⟩ (.slice A9 (fs.length+1) c9)):=HN6.out.upd hU9 (by
      have h1:=HB.out
      rintro (e | e)
      · omega
      have:=(HR6.out.lt _ e).1;omega)
     have hUn:Upd (fun b=>b=fr\/(Value.slice A1 rl c1).ownBlock=some b\/v2.ownBlock=some b) w (w9.setCell ⟨fr,1,none⟩ (.slice A9 (fs.length+1) c9)):=HU6.out.trans hU9 (by
      rintro b hb (e | e)
      · exact .inl e
      rcases KW2.out with h | ⟨g,h,h2⟩
      · rw [h] at e;exact .inr (.inr e)
      rw [h] at e;injection e with e;omega)
     have hWn:(Value.slice A9 (fs.length+1) c9).ownBlock=v2.ownBlock\/∃ g,(Value.slice A9 (fs.length+1) c9).ownBlock=some g/\w.heap.size<=g:=by
      rcases hg9.block with h | ⟨g,h,h2⟩
      · rw [h];exact KW2.out
      exact .inr ⟨g,h,by have:=HU6.out.size;have:=sA.size;omega⟩
     have HOR:=qH hOR
     have HOL:=qH hOL
     have HEa:=qH hEa
     have HNb:=qH hNb
     have HUn:=qH hUn
     have HWn:=qH hWn
     have HKn:Hid (Blk (w9.setCell ⟨fr,1,none⟩ (.slice A9 (fs.length+1) c9)) fr 142 #[.slice (some ⟨bL,oL,none⟩) l.length cL,.slice A9 (fs.length+1) c9,.int .i64 0]):=qH (hk9.put 1 _)
     clear hU9 hp hOR hSf hOL hEa hNb hUn hWn hg9 hk9
     refine hK.out _ _ ⟨HK9.out.cell 1,hf9.cell 0,hf9.cell 1⟩ (fun hHeld=>?_)
     clear hK K hf9
     simp only [Act.put]
     repeat
      first
       | refine ESt.take (i:=8) (v:=?_) (by decide +kernel) rfl (by decide +kernel) (fun _ _ _ h=>h) (Or.inl ⟨by rfl,?_⟩) (by assumption) ?_
       | refine ESt.take (i:=9) (v:=?_) (by decide +kernel) rfl (by decide +kernel) (fun _ _ _ h=>h) (Or.inl ⟨by rfl,?_⟩) (by assumption) ?_
      rotate_left
      · intro wx hSw;obtain ⟨h0,h1,h2⟩:=hSw;go_simp;try with_reducible rfl
      simp only [Act.put,List.setIfInBounds_toArray]
     refine ESt.last (by decide +kernel) (by decide +kernel) rfl (fun K hK=>?_) _
     have r3:=HK9.out.cell 1
     have z3:=HK9.out.frozen 1
     go_simp
     refine hK.out _ _ ?_
     clear hK K r3 z3 hHeld sA s0 HK9 HO6 HR6 HE6 HN6 HU6 HK6 HX6 HF6 hKeep
     generalize w9.setCell ⟨fr,1,none⟩ (.slice A9 (fs.length+1) c9)=wa at *
     have k0:=HKn.out.cell 0
     have z0:=HKn.out.frozen 0
     simp only [List.getElem?_toArray,List.getElem?_cons_zero] at k0
     have hDr:=HOL.out.drop_ (j:=m+9) hlen
     rw [Nat.mul_one,<-List.map_drop,<-HRr.out] at hDr
     have hcL:l.length<=cL:=(Off.row HOL.out).le
     have hcM:cL<=maxLen:=(Off.row HOL.out).max
     unfold maxLen at hcM
     have HDr:=qH hDr
     have hrl2:r.length=l.length-(m+9):=by rw [HRr.out,List.length_drop]
     have HRl:=qH hrl2
     clear hDr hrl2
     have HPn:Hid (Zae l0=((fs++[(⟨ty,d,A5,m,c5⟩:FR)]).map FR.dat++(Zae r).1,(Zae r).2)):=qH (by rw [HFr.out];simp [FR.dat])
     have hrL:r.length+(m+9)=l.length:=by have:=HRl.out;omega
     by_cases hck:cL=m+9
     · have hl9:l.length=m+9:=by omega
       have hcz:cL-(m+9)=0:=by omega
       have hr0:r=[]:=List.length_eq_zero_iff.1 (by omega)
       rw [if_pos hck,hcz,hl9,Nat.sub_self,hr0] at HDr
       have hs:=(Upd.refl (fun b=>b=fr) wa).put1 (i:=0) (.slice (some ⟨bL,oL,none⟩) 0 0)
       have HKz:Hid (Blk (wa.setCell ⟨fr,0,none⟩ (.slice (some ⟨bL,oL,none⟩) 0 0)) fr 142 #[.slice (some ⟨bL,oL,none⟩) 0 0,.slice A9 (fs.length+1) c9,.int .i64 0]):=qH (HKn.out.put 0 _)
       have HOz:=qH (HDr.out.upd hs fun b hb e=>ZcL HDr.out HKn.out (by decide) (e ▸ hb))
       have HRz:=qH (HOR.out.upd hs fun b hb e=>ZcL HOR.out HKn.out (by decide) (e ▸ hb))
       have HEz:=qH fun x hx=>(HEa.out x hx).type hs (fun b _ e=>by rw [e];exact ⟨_,HKn.out⟩) (by decide)
       have HNz:=qH (HNb.out.upd hs (by have:=HB.out;omega))
       have HUz:=qH (HUn.out.trans hs fun _ _ e=>.inl e)
       rw [hr0] at HPn
       have HL9:=qH hl9
       have HCK:=qH hck
       rw [hl9] at k0
       rw [hck] at k0
       clear hs HDr HRr HRl hrL hcz hr0 hl9 hck
       go_wp2_with fail
       go_roundg 0
       case measure=>rw [HL9.out];omega
       case rel=>exact ⟨_,.slice A9 (fs.length+1) c9,[],fs++[⟨ty,d,A5,m,c5⟩],rfl,HKz,HOz,HRz,HEz,HPn,HNz,HUz,qH (by have h1:=KW1.out;exact h1),HWn,by simp,by simp;omega⟩
     rw [if_neg hck,Option.map_some,Zcm] at HDr
     have j1:(0:Int)<=(m:Int)+9:=by omega
     have j2:(m:Int)+9<=(l.length:Int):=by omega
     have HDr2:=HDr.out
     rw [<- HRl.out] at HDr2
     have HDr2:=qH HDr2
     have hs:=(Upd.refl (fun b=>b=fr) wa).put1 (i:=0) (.slice (some ⟨bL,oL+(m+9),none⟩) r.length (cL-(m+9)))
     have HKz:Hid (Blk (wa.setCell ⟨fr,0,none⟩ (.slice (some ⟨bL,oL+(m+9),none⟩) r.length (cL-(m+9)))) fr 142 #[.slice (some ⟨bL,oL+(m+9),none⟩) r.length (cL-(m+9)),.slice A9 (fs.length+1) c9,.int .i64 0]):=qH (HKn.out.put 0 _)
     have HOz:=qH (HDr2.out.upd hs fun b hb e=>ZcL HDr2.out HKn.out (by decide) (e ▸ hb))
     have HRz:=qH (HOR.out.upd hs fun b hb e=>ZcL HOR.out HKn.out (by decide) (e ▸ hb))
     have HEz:=qH fun x hx=>(HEa.out x hx).type hs (fun b _ e=>by rw [e];exact ⟨_,HKn.out⟩) (by decide)
     have HNz:=qH (HNb.out.upd hs (by have:=HB.out;omega))
     have HUz:=qH (HUn.out.trans hs fun _ _ e=>.inl e)
     have HRl2:=qH (show l.length-(m+9)=r.length by omega)
     clear hs HDr HDr2
     go_wp2_with fail
     rw [HRl2.out]
     go_roundg r.length
     case measure=>omega
     case rel=>exact ⟨_,.slice A9 (fs.length+1) c9,r,fs++[⟨ty,d,A5,m,c5⟩],rfl,HKz,HOz,HRz,HEz,HPn,HNz,HUz,qH (by have h1:=KW1.out;exact h1),HWn,by omega,by simp;omega⟩
theorem ZkM {tmps:Array Value} {W:World} {g:Nat} {v0 v1 v2:Value} {R:Ending->World->Prop} (h2:tmps.getD 2 undef=.pointer (some ⟨g,0,none⟩)) (h3:tmps.getD 3 undef=v2) (hb:Blk W g 84 #[v0,v1])
 (hR:R (.returned (.tuple #[.agg #[v0,v1],v2])) W) :
 bodyPost Tryz.prog Tryz.f93 R Exit.ret { tmps:=tmps,defers:=[] } W:=by
 have c0:=hb.cell 0
 have c1:=hb.cell 1
 refine bodyPost_ret (v:=.tuple #[.agg #[v0,v1],v2]) ?_ rfl hR
 simp only [Array.getD_eq_getD_getElem?] at h2 h3
 simp [results,Tryz.results93,go_sem,h2,h3,c0,c1]
theorem ZkN {B fr:Nat} {v1 v2:Value} {rest:List UInt8} {ready:List FR} {er:Int} (w:World) (h:FRd w B fr v1 v2 rest ready er) {n:Nat} (hn:rest.length=n) :
 Calls Tryz.prog 95 #[.pointer (some ⟨fr,0,none⟩)] w fun e w'=>e=.returned (.int .i64 (n:Int))/\w=w':=by
 obtain ⟨A1,c1,rfl⟩:=h.orest.form
 have p0:=h.blk.cell 0
 simp only [List.getElem?_toArray,List.getElem?_cons_zero] at p0
 rw [hn] at p0
 clear h hn
 go_enter Tryz.func95,Tryz.ntmps95
 go_wp2
 go_ret
 exact ⟨rfl,rfl⟩
def ZnU (w:World) (e:Ending) (w':World):Prop:=e=.returned (.tuple #[.agg #[.int .i64 0,.slice none 0 0],.bool false])/\Same w w'
theorem ZnV {B fr:Nat} {v1 v2:Value} {rest:List UInt8} {er:Int} (w:World) (h:FRd w B fr v1 v2 rest [] er) :
 Calls Tryz.prog 93 #[.pointer (some ⟨fr,0,none⟩)] w (ZnU w):=by
 obtain ⟨A2,c2,rfl⟩:=h.oready.form
 have hs:=(Upd.refl (fun _=>False) w).alloc (.cells #[.int .i64 0,.slice none 0 0] 84)
 have HB0:=qH (Blk.new w 84 #[.int .i64 0,.slice none 0 0])
 have hk:=h.blk.same hs
 have p1:=hk.cell 1
 simp only [List.getElem?_toArray,List.getElem?_cons_succ,List.getElem?_cons_zero,List.length_nil] at p1
 have HS:=qH hs
 have HNo:=qH (show ∀ e w',ZnU w e w'↔e=.returned (.tuple #[.agg #[.int .i64 0,.slice none 0 0],.bool false])/\Same w w' from fun _ _=>Iff.rfl)
 generalize ZnU w=NN at HNo ⊢
 clear h hs hk
 go_enter Tryz.func93,Tryz.ntmps93
 go_upto_region 1 with fail
 generalize w.alloc (.cells #[.int .i64 0,.slice none 0 0] 84)=w1 at *
 have q0:=HB0.out.cell 0
 have q1:=HB0.out.cell 1
 have f0:=HB0.out.frozen 0
 have f1:=HB0.out.frozen 1
 go_wp2_with fail
 refine ZkM (v0:=.int .i64 0) (v1:=.slice none 0 0) (v2:=.bool false) rfl rfl ((HB0.out.put 0 _).put 1 _) ?_
 exact (HNo.out _ _).2 ⟨rfl,(HS.out.putNew (Nat.le_refl _) _).putNew (Nat.le_refl _) _⟩
def ZkO (B fr:Nat) (v1 v2:Value) (rest:List UInt8) (x:FR) (xs:List FR) (er:Int) (w:World) (e:Ending) (w':World):Prop :=
 ∃ v2',e=.returned (.tuple #[.agg #[.int .i64 (x.type:Int),.slice x.A x.n x.c],.bool true])/\FRd w' B fr v1 v2' rest xs er/\ZcQ w' B x/\Upd (fun b=>b=fr) w w'/\v2'.ownBlock=v2.ownBlock
theorem ZmB {B fr:Nat} {v1 v2:Value} {rest:List UInt8} {x:FR} {xs:List FR} {er:Int} (w:World) (h:FRd w B fr v1 v2 rest (x::xs) er) :
 Calls Tryz.prog 93 #[.pointer (some ⟨fr,0,none⟩)] w (ZkO B fr v1 v2 rest x xs er w):=by
 obtain ⟨A2,c2,rfl⟩:=h.oready.form
 have hrow:=h.oready.row
 obtain ⟨b,o,y,hA,hb,-,hy,-,hc⟩:=hrow.weak.atF FR.two (by omega) (i:=0) (by simp)
 subst hA
 obtain rfl:x=y:=by simpa using hy
 have r0:=hc 0 _ rfl
 have r1:=hc 1 _ rfl
 simp only [Nat.zero_mul,Nat.add_zero] at r0 r1
 have hle:=hrow.le
 have hmx:=hrow.max
 unfold maxLen at hmx
 obtain ⟨n,hn⟩:∃ n,(x::xs).length=n:=⟨_,rfl⟩
 have HLn:=qH hn
 rw [hn] at hle
 have hn1:1<=n:=by rw [<- hn];simp
 have hdr:=h.oready.drop_ (j:=1) (by simp)
 rw [hn] at hdr
 have hxl:xs.length=n-1:=by rw [<- hn];simp
 have hdx:((x::xs).flatMap FR.cells).drop (1*2)=xs.flatMap FR.cells:=by
  rw [List.flatMap_cons,show 1*2=x.cells.length from rfl]
  exact List.drop_left
 rw [hdx,<-hxl] at hdr
 have hs:=(Upd.refl (fun _=>False) w).alloc (.cells #[.int .i64 0,.slice none 0 0] 84)
 have HB0:=qH (Blk.new w 84 #[.int .i64 0,.slice none 0 0])
 have hk:=h.blk.same hs
 have p1:=hk.cell 1
 simp only [List.getElem?_toArray,List.getElem?_cons_succ,List.getElem?_cons_zero] at p1
 rw [hn] at p1
 have s0:(w.alloc (.cells #[.int .i64 0,.slice none 0 0] 84)).cell? ⟨b,o,none⟩=some (.int .i64 (x.type:Int)):=(hs.cell (p:=⟨b,o,none⟩) hb fun f=>f).trans r0
 have s1:(w.alloc (.cells #[.int .i64 0,.slice none 0 0] 84)).cell? ⟨b,o+1,none⟩=some (.slice x.A x.n x.c):=(hs.cell (p:=⟨b,o+1,none⟩) hb fun f=>f).trans r1
 have HS:=qH hs
 have HK:=qH hk
 have HDr:=qH (hdr.same hs)
 have HRe:=qH (h.orest.same hs)
 have HEa:=qH fun y hy=>(h.each y hy).same hs
 have HBs:=qH h.base
 have hfl:=h.blk.lt
 have HXL:=qH hxl
 have HNo:=qH (show ∀ e w',ZkO B fr v1 (.slice (some ⟨b,o,none⟩) (x::xs).length c2) rest x xs er w e w'↔∃ v2',e=.returned (.tuple #[.agg #[.int .i64 (x.type:Int),.slice x.A x.n x.c],.bool true])/\FRd w' B fr v1 v2' rest xs er/\ZcQ w' B x/\Upd (fun b=>b=fr) w w'/\v2'.ownBlock=(Value.slice (some ⟨b,o,none⟩) (x::xs).length c2).ownBlock from fun _ _=>Iff.rfl)
 generalize ZkO B fr v1 (.slice (some ⟨b,o,none⟩) (x::xs).length c2) rest x xs er w=NN at HNo ⊢
 have q1:((n:Int)==0)=false:=by rw [beq_eq_false_iff_ne];omega
 have j1:(0:Int)<(n:Int):=by omega
 clear h hs hk hrow hc hy hdr hdx r0 r1 hn hxl
 go_enter Tryz.func93,Tryz.ntmps93
 go_upto_region 1 with fail
 generalize w.alloc (.cells #[.int .i64 0,.slice none 0 0] 84)=w1 at *
 generalize hgg:w.heap.size=g at *
 go_upto_region 4 with fail
 have hs2:=(Upd.refl (fun _=>False) w1).alloc (.cells #[.int .i64 (x.type:Int),.slice x.A x.n x.c] 84)
 have HB2:=qH (HB0.out.same hs2)
 have HF2:=qH (Blk.new w1 84 #[.int .i64 (x.type:Int),.slice x.A x.n x.c])
 have HK2:=qH (HK.out.same hs2)
 have HD2:=qH (HDr.out.same hs2)
 have HR2:=qH (HRe.out.same hs2)
 have HE2:=qH fun y hy=>(HEa.out y hy).same hs2
 have HS2:=qH (HS.out.same hs2)
 have hgw:g<w1.heap.size:=HB0.out.lt
 clear hs2 s0 s1 p1 HB0 HK HDr HRe HEa HS q1
 generalize w1.alloc (.cells #[.int .i64 (x.type:Int),.slice x.A x.n x.c] 84)=w2 at *
 generalize w1.heap.size=gf at *
 have p1:w2.cell? ⟨fr,1,none⟩=some (.slice (some ⟨b,o,none⟩) n c2):=by
  rw [<- HLn.out]
  exact HK2.out.cell 1
 have g1:=HK2.out.frozen 1
 have hnx:((x::xs).length:Int)=(n:Int):=by have:=HXL.out;simp;omega
 have hfg:fr≠g:=by omega
 have hfin:Hid (∀ (W:World) (v2':Value) (a0 a1:Value),Upd (fun b=>b=fr) w2 W->Blk W fr 142 #[v1,v2',.int .i64 er]->Off w2 B 84 2 v2' xs.length (xs.flatMap FR.cells)->v2'.ownBlock=(Value.slice (some ⟨b,o,none⟩) (x::xs).length c2).ownBlock->Blk W g 84 #[a0,a1] ->
  NN (.returned (.tuple #[.agg #[.int .i64 (x.type:Int),.slice x.A x.n x.c],.bool true])) ((W.setCell ⟨g,0,none⟩ (.int .i64 (x.type:Int))).setCell ⟨g,1,none⟩ (.slice x.A x.n x.c))):=qH (by
  intro W v2' a0 a1 hu hbk ho hv hg
  have hp:=((Upd.refl (fun k=>k=g) W).put1 (i:=0) (.int .i64 (x.type:Int))).put1 (i:=1) (.slice x.A x.n x.c)
  have hT1:∀ k,k<w2.heap.size->k=fr->OfT w2 142 k:=fun k _ e=>by rw [e];exact ⟨_,HK2.out⟩
  have hT2:∀ k,k<W.heap.size->k=g->OfT W 84 k:=fun k _ e=>by rw [e];exact ⟨_,hg⟩
  have hfu:=ho.upd hu fun k hk e=>ZcL ho HK2.out (by decide) (e ▸ hk)
  have hb2:b≠g:=by omega
  refine (HNo.out _ _).2 ⟨v2',rfl,⟨HBs.out,hbk.upd hp (by omega),?_,?_,fun y hy=>?_⟩,?_,?_,hv⟩
  · exact (HR2.out.upd hu fun k hk e=>ZcL HR2.out HK2.out (by decide) (e ▸ hk)).upd hp fun k hk e=>ZcL (HR2.out.upd hu fun k hk e=>ZcL HR2.out HK2.out (by decide) (e ▸ hk)) hg (by decide) (e ▸ hk)
  · refine hfu.upd hp fun k hk e=>?_
    rw [hv] at hk
    injection hk with hk
    have h9:b=k:=hk
    omega
  · exact ((HE2.out y (List.mem_cons_of_mem _ hy)).type hu hT1 (by decide)).type hp hT2 (by decide)
  · exact ((HE2.out x (List.mem_cons_self)).type hu hT1 (by decide)).type hp hT2 (by decide)
  exact (((HS2.out.mono (S':=fun k=>k=fr\/k=g) fun _ _ f=>f.elim).trans hu fun _ _ e=>.inl e).trans hp fun _ _ e=>.inr e).mono fun k hk e=>by
   rcases e with e | e
   · exact e
   omega)
 by_cases hc1:c2=1
 · have hn1':n=1:=by omega
   have HD3:=HD2.out
   rw [if_pos hc1,show c2-1=0 by omega] at HD3
   have HD3:=qH HD3
   subst hc1
   have HXZ:=qH (show xs.length=0 by have:=HXL.out;omega)
   subst hn1'
   clear HD2 hnx
   go_upto_region 5 with fail
   have HKz:Hid (Blk (w2.setCell ⟨fr,1,none⟩ (.slice (some ⟨b,o,none⟩) 0 0)) fr 142 #[v1,.slice (some ⟨b,o,none⟩) 0 0,.int .i64 er]):=qH (HK2.out.put 1 _)
   have hu:=(Upd.refl (fun k=>k=fr) w2).put1 (i:=1) (.slice (some ⟨b,o,none⟩) 0 0)
   have HBz:=qH (HB2.out.upd hu (by omega))
   have HFz:=qH (HF2.out.upd hu (by have:=HK2.out;intro e;rw [e] at HF2;have h1:=HF2.out;unfold Blk at this h1;rw [h1] at this;injection this with this;injection this with _ this _;exact absurd this (by decide)))
   have HUz:=qH hu
   clear hu p1 g1
   generalize w2.setCell ⟨fr,1,none⟩ (.slice (some ⟨b,o,none⟩) 0 0)=w3 at *
   have d0:=HBz.out.cell 0
   have d1:=HBz.out.cell 1
   have f0:=HBz.out.frozen 0
   have f1:=HBz.out.frozen 1
   have k0:=HFz.out.cell 0
   have k1:=HFz.out.cell 1
   simp only [List.getElem?_toArray,List.getElem?_cons_succ,List.getElem?_cons_zero] at d0 d1 k0 k1
   go_wp2_with fail
   refine ZkM (v0:=.int .i64 (x.type:Int)) (v1:=.slice x.A x.n x.c) (v2:=.bool true) rfl rfl ((HBz.out.put 0 _).put 1 _) ?_
   exact hfin.out w3 _ _ _ HUz.out HKz.out (by have h1:=HD3.out;rw [HXZ.out] at h1 ⊢;exact h1) rfl HBz.out
 have HD3:=HD2.out
 rw [if_neg hc1,Option.map_some,Zcm] at HD3
 have HD3:=qH HD3
 have j3:(1:Int)<=(n:Int):=by omega
 have j4:(1:Int)<=(c2:Int):=by omega
 have HXn:=qH (show n-1=xs.length by rw [HXL.out])
 clear HD2 hnx
 go_upto_region 5 with fail
 rw [HXn.out]
 have HKz:Hid (Blk (w2.setCell ⟨fr,1,none⟩ (.slice (some ⟨b,o+1*2,none⟩) xs.length (c2-1))) fr 142 #[v1,.slice (some ⟨b,o+1*2,none⟩) xs.length (c2-1),.int .i64 er]):=qH (HK2.out.put 1 _)
 have hu:=(Upd.refl (fun k=>k=fr) w2).put1 (i:=1) (.slice (some ⟨b,o+1*2,none⟩) xs.length (c2-1))
 have HBz:=qH (HB2.out.upd hu (by omega))
 have HFz:=qH (HF2.out.upd hu (by have:=HK2.out;intro e;rw [e] at HF2;have h1:=HF2.out;unfold Blk at this h1;rw [h1] at this;injection this with this;injection this with _ this _;exact absurd this (by decide)))
 have HUz:=qH hu
 clear hu p1 g1
 generalize hw3:w2.setCell ⟨fr,1,none⟩ (.slice (some ⟨b,o+1*2,none⟩) xs.length (c2-1))=w3 at *
 have d0:=HBz.out.cell 0
 have d1:=HBz.out.cell 1
 have f0:=HBz.out.frozen 0
 have f1:=HBz.out.frozen 1
 have k0:=HFz.out.cell 0
 have k1:=HFz.out.cell 1
 simp only [List.getElem?_toArray,List.getElem?_cons_succ,List.getElem?_cons_zero] at d0 d1 k0 k1
 have HW3:=qH hw3
 clear hw3
 go_wp2_with fail
 refine ZkM (v0:=.int .i64 (x.type:Int)) (v1:=.slice x.A x.n x.c) (v2:=.bool true) rfl rfl ((HBz.out.put 0 _).put 1 _) ?_
 exact hfin.out w3 _ _ _ HUz.out HKz.out HD3.out rfl HBz.out
end Go.Proofs.YtkopcinhbjimiaaGreatDoor
