/- Texts that the claim leans on: walks and plain laws, function by function. -/
import Derived.Test.YtkopcinhbjimiaaGreatDoorQ34
set_option maxRecDepth 100000
set_option maxHeartbeats 16000000
namespace Go.Proofs.YtkopcinhbjimiaaGreatDoor
open Go.RowKit
theorem AOk.inv {w:World} {B r fr d:Nat} {vf v1 v2:Value} {gr:GR} {fed:Nat} {b:List UInt8} {s:PSt} (h:AOk w B r fr d vf v1 v2 gr fed b s) (h3:s.state=3):InvP s:=by
 have h1:=h.ok
 by_cases h8:8<=b.length
 · obtain ⟨-,-,-,ht,-⟩:=Zha h1 h8
   exact Zeb _ _ _ InvP.start ht
 rw [ZcZ (by omega)] at h1
 injection h1 with h1
 rw [<- h1] at h3
 cases h3
theorem AOk.len {w:World} {B r fr d:Nat} {vf v1 v2:Value} {gr:GR} {fed:Nat} {b:List UInt8} {s:PSt} (h:AOk w B r fr d vf v1 v2 gr fed b s):s.all.length<=16777216:=by
 have hall:=congrArg List.length (Zgm h.ok)
 rw [List.length_append] at hall
 by_cases h1:b.length<=16777216
 · omega
 have h2:=h.ok
 rw [Zda (by omega)] at h2
 cases h2
noncomputable def ansP (s:PSt):Int×Zak:=if s.state≠3 then (10,noG) else if (chkP s.g).1≠0 then ((chkP s.g).1,noG) else (0,s.g)
theorem ZeX {tmps:Array Value} {W:World} {g:Nat} {v0 v1 v2:Value} {R:Ending->World->Prop} (h2:tmps.getD 2 undef=.pointer (some ⟨g,0,none⟩)) (h3:tmps.getD 3 undef=v2) (hb:Blk W g 26 #[v0,v1])
 (hR:R (.returned (.tuple #[.agg #[v0,v1],v2])) W) :
 bodyPost Tryz.prog Tryz.f26 R Exit.ret { tmps:=tmps,defers:=[] } W:=by
 have c0:=hb.cell 0
 have c1:=hb.cell 1
 refine bodyPost_ret (v:=.tuple #[.agg #[v0,v1],v2]) ?_ rfl hR
 simp only [Array.getD_eq_getD_getElem?] at h2 h3
 simp [results,Tryz.results26,go_sem,h2,h3,c0,c1]
def ZhY (er:Int) (G:Zak) (w:World) (e:Ending) (w':World):Prop :=
 ∃ g:GR,e=.returned (.tuple #[.agg #[.slice g.AN g.nN g.cN,.slice g.AR g.nR g.cR],.int .i64 er])/\g.dat=G/\OwnG w' w.heap.size g/\Same w w'
theorem ZfW {r:Nat} {a0 a1 a2 a3 a4 a5 a6:Value} {er:Int} (w:World) (h:Blk w r 97 #[a0,a1,a2,a3,a4,a5,a6,.int .i64 er]) (hne:er≠0) :
 Calls Tryz.prog 26 #[.pointer (some ⟨r,0,none⟩)] w (ZhY er noG w):=by
 have n0:(er != 0)=true:=by rw [bne_iff_ne];exact hne
 have s1:=(Upd.refl (fun _=>False) w).alloc (.cells #[.slice none 0 0,.slice none 0 0] 26)
 have hk:=Blk.new w 26 #[.slice none 0 0,.slice none 0 0]
 have p7:(w.alloc (.cells #[.slice none 0 0,.slice none 0 0] 26)).cell? ⟨r,7,none⟩=some (.int .i64 er):=(h.same s1).cell 7
 have HK:=qH hk
 have HS:=qH s1
 have hrl:=h.lt
 have hlt:w.heap.size<(w.alloc (.cells #[.slice none 0 0,.slice none 0 0] 26)).heap.size:=by rw [World.size_alloc];omega
 clear h hne hk s1
 go_enter Tryz.func26,Tryz.ntmps26
 go_upto_region 2 with fail
 generalize w.alloc (.cells #[.slice none 0 0,.slice none 0 0] 26)=w1 at *
 generalize hg0:w.heap.size=g0 at *
 have hne:r≠g0:=by omega
 have hne2:g0≠r:=by omega
 have c0:w1.cell? ⟨g0,0,none⟩=some (.slice none 0 0):=HK.out.cell 0
 have c1:w1.cell? ⟨g0,1,none⟩=some (.slice none 0 0):=HK.out.cell 1
 have f0:=HK.out.frozen 0
 have f1:=HK.out.frozen 1
 have hk2:=((HK.out.put 0 (.slice none 0 0)).put 1 (.slice none 0 0)).same ((Upd.refl (fun _=>False) _).drew)
 have HK2:Hid (Blk ((w1.setCell ⟨g0,0,none⟩ (.slice none 0 0)).setCell ⟨g0,1,none⟩ (.slice none 0 0)).drew g0 26 #[.slice none 0 0,.slice none 0 0]):=qH hk2
 have HS2:Hid (Same w ((w1.setCell ⟨g0,0,none⟩ (.slice none 0 0)).setCell ⟨g0,1,none⟩ (.slice none 0 0)).drew):=qH (HS.out.trans ((((Upd.refl (fun b=>b=g0) w1).put1 _).put1 _).drew) fun b hb e=>by omega)
 clear hk2
 go_region
 generalize ((w1.setCell ⟨g0,0,none⟩ (.slice none 0 0)).setCell ⟨g0,1,none⟩ (.slice none 0 0)).drew=w2 at *
 go_wp2_with fail
 refine ZeX rfl rfl HK2.out ⟨⟨[],none,0,0,[],none,0,0⟩,rfl,rfl,OwnG.nil_ _ _,HS2.out⟩
theorem ZeY {B r fr d:Nat} {vf v1 v2:Value} {gr:GR} {fed:Nat} {b:List UInt8} {s:PSt} (w:World) (h:AOk w B r fr d vf v1 v2 gr fed b s) :
 Calls Tryz.prog 26 #[.pointer (some ⟨r,0,none⟩)] w (ZhY (ansP s).1 (ansP s).2 w):=by
 have s1:=(Upd.refl (fun _=>False) w).alloc (.cells #[.slice none 0 0,.slice none 0 0] 26)
 have hk:=Blk.new w 26 #[.slice none 0 0,.slice none 0 0]
 have hrb:=h.ard.blk.same s1
 have p4:(w.alloc (.cells #[.slice none 0 0,.slice none 0 0] 26)).cell? ⟨r,4,none⟩=some (.int .i64 (s.state:Int)):=hrb.cell 4
 have p5:(w.alloc (.cells #[.slice none 0 0,.slice none 0 0] 26)).cell? ⟨r,5,none⟩=some (.slice gr.AN gr.nN gr.cN):=hrb.cell 5
 have p6:(w.alloc (.cells #[.slice none 0 0,.slice none 0 0] 26)).cell? ⟨r,6,none⟩=some (.slice gr.AR gr.nR gr.cR):=hrb.cell 6
 have p7:(w.alloc (.cells #[.slice none 0 0,.slice none 0 0] 26)).cell? ⟨r,7,none⟩=some (.int .i64 0):=hrb.cell 7
 have HA:=qH h
 have HK:=qH hk
 have HS:=qH s1
 have HRB:=qH hrb
 have hrl:=h.ard.blk.lt
 have hlt:w.heap.size<(w.alloc (.cells #[.slice none 0 0,.slice none 0 0] 26)).heap.size:=by rw [World.size_alloc];omega
 clear h hk s1 hrb
 generalize hq:ansP s=q
 have HQ:=qH hq
 clear hq
 go_enter Tryz.func26,Tryz.ntmps26
 go_upto_region 3 with fail
 generalize w.alloc (.cells #[.slice none 0 0,.slice none 0 0] 26)=w1 at *
 generalize hg0:w.heap.size=g0 at *
 have c0:w1.cell? ⟨g0,0,none⟩=some (.slice none 0 0):=HK.out.cell 0
 have c1:w1.cell? ⟨g0,1,none⟩=some (.slice none 0 0):=HK.out.cell 1
 have f0:=HK.out.frozen 0
 have f1:=HK.out.frozen 1
 by_cases h3:s.state=3
 case neg =>
  have q3:((s.state:Int) != 3)=true:=by rw [bne_iff_ne];omega
  have HQQ:Hid (q=(10,noG)):=qH (by rw [<- HQ.out];unfold ansP;rw [if_pos h3])
  have HK2:Hid (Blk ((w1.setCell ⟨g0,0,none⟩ (.slice none 0 0)).setCell ⟨g0,1,none⟩ (.slice none 0 0)) g0 26 #[.slice none 0 0,.slice none 0 0]):=qH ((HK.out.put 0 (.slice none 0 0)).put 1 (.slice none 0 0))
  have HS2:Hid (Same w ((w1.setCell ⟨g0,0,none⟩ (.slice none 0 0)).setCell ⟨g0,1,none⟩ (.slice none 0 0))):=qH (HS.out.trans (((Upd.refl (fun b=>b=g0) w1).put1 _).put1 _) fun b hb e=>by omega)
  clear h3
  go_wp2_with fail
  generalize (w1.setCell ⟨g0,0,none⟩ (.slice none 0 0)).setCell ⟨g0,1,none⟩ (.slice none 0 0)=w2 at *
  rw [HQQ.out]
  refine ZeX rfl rfl HK2.out ⟨⟨[],none,0,0,[],none,0,0⟩,rfl,rfl,OwnG.nil_ _ _,HS2.out⟩
 have q3:((s.state:Int) != 3)=false:=by rw [bne_eq_false_iff_eq];omega
 have hinv:=HA.out.inv h3
 have hib:=Zed hinv
 have hsl:=HA.out.len
 have hgs:=Zdb (HA.out.ard.own.same HS.out) (by rw [HA.out.dat];exact hinv.1) (by rw [<- HA.out.dat] at hib;simp only [GR.dat,List.length_map] at hib;omega) (by rw [<- HA.out.dat] at hib;simp only [GR.dat,List.length_map] at hib;omega)
 obtain ⟨e,at_,hE⟩:∃ e at_,chkP gr.dat=(e,at_):=⟨_,_,rfl⟩
 have hrd:=(HA.out.ard.own.same HS.out).rd
 have HGS:=qH hgs
 have HRD:=qH hrd
 have HE:=qH hE
 have HCK:=qH (ZdL w1 gr hrd hgs hE)
 have H3:=qH h3
 clear hinv hib hsl hgs hrd hE h3
 go_wp2_with fail
 refine HCK.out.mono ?_
 rintro x w2 ⟨rfl,hs2⟩
 have HS2:=qH hs2
 have k2:=HK.out.same hs2
 have c20:w2.cell? ⟨g0,0,none⟩=some (.slice none 0 0):=k2.cell 0
 have c21:w2.cell? ⟨g0,1,none⟩=some (.slice none 0 0):=k2.cell 1
 have f20:=k2.frozen 0
 have f21:=k2.frozen 1
 have HK2:=qH k2
 by_cases he:e=0
 case neg =>
  have n0:(e != 0)=true:=by rw [bne_iff_ne];exact he
  have HQQ:Hid (q=(e,noG)):=qH (by
   rw [<- HQ.out]
   unfold ansP
   rw [if_neg (by simp [H3.out]),<-HA.out.dat,HE.out,if_pos he])
  have HK3:Hid (Blk ((w2.setCell ⟨g0,0,none⟩ (.slice none 0 0)).setCell ⟨g0,1,none⟩ (.slice none 0 0)) g0 26 #[.slice none 0 0,.slice none 0 0]):=qH ((k2.put 0 (.slice none 0 0)).put 1 (.slice none 0 0))
  have HS3:Hid (Same w ((w2.setCell ⟨g0,0,none⟩ (.slice none 0 0)).setCell ⟨g0,1,none⟩ (.slice none 0 0))):=qH ((HS.out.trans hs2 fun _ _ f=>f).trans (((Upd.refl (fun b=>b=g0) w2).put1 _).put1 _) fun b hb e=>by omega)
  clear he hs2 k2
  go_wp2_with fail
  generalize (w2.setCell ⟨g0,0,none⟩ (.slice none 0 0)).setCell ⟨g0,1,none⟩ (.slice none 0 0)=w3 at *
  rw [HQQ.out]
  refine ZeX rfl rfl HK3.out ⟨⟨[],none,0,0,[],none,0,0⟩,rfl,rfl,OwnG.nil_ _ _,HS3.out⟩
 have n0:(e != 0)=false:=by rw [bne_eq_false_iff_eq];exact he
 have hr2:=HRB.out.same hs2
 have p25:w2.cell? ⟨r,5,none⟩=some (.slice gr.AN gr.nN gr.cN):=hr2.cell 5
 have p26:w2.cell? ⟨r,6,none⟩=some (.slice gr.AR gr.nR gr.cR):=hr2.cell 6
 have HC:Hid ((chkP gr.dat).1=0):=qH (by rw [HE.out];exact he)
 have hcan:=(Zec HC.out (ZkR HRD.out)).2
 have HQQ:Hid (q=(0,gr.dat)):=qH (by
  rw [<- HQ.out]
  unfold ansP
  rw [if_neg (by simp [H3.out]),<-HA.out.dat,if_neg (by simp [HC.out])])
 have HCan:=qH hcan
 have HCN:=qH (ZgU w2 gr (HRD.out.same hs2) HGS.out)
 clear he hs2 k2 hr2 hcan
 go_wp2_with fail
 refine HCN.out.mono ?_
 rintro x w3 ⟨⟨ns,A1,n1,m1,rs,A2,n2,m2⟩,rfl,HD,HO,-,hs3⟩
 have k3:=HK2.out.same hs3
 have c30:w3.cell? ⟨g0,0,none⟩=some (.slice none 0 0):=k3.cell 0
 have c31:w3.cell? ⟨g0,1,none⟩=some (.slice none 0 0):=k3.cell 1
 have f30:=k3.frozen 0
 have f31:=k3.frozen 1
 have HK3:Hid (Blk ((w3.setCell ⟨g0,0,none⟩ (.slice A1 n1 m1)).setCell ⟨g0,1,none⟩ (.slice A2 n2 m2)) g0 26 #[.slice A1 n1 m1,.slice A2 n2 m2]):=qH ((k3.put 0 (.slice A1 n1 m1)).put 1 (.slice A2 n2 m2))
 have hu3:=(((Upd.refl (fun b=>b=g0) w3).put1 (i:=0) (.slice A1 n1 m1)).put1 (i:=1) (.slice A2 n2 m2))
 have HS3:Hid (Same w ((w3.setCell ⟨g0,0,none⟩ (.slice A1 n1 m1)).setCell ⟨g0,1,none⟩ (.slice A2 n2 m2))):=qH (((HS.out.trans HS2.out fun _ _ f=>f).trans hs3 fun _ _ f=>f).trans hu3 fun b hb e=>by omega)
 have hsz2:=HS2.out.size
 have HO3:Hid (OwnG ((w3.setCell ⟨g0,0,none⟩ (.slice A1 n1 m1)).setCell ⟨g0,1,none⟩ (.slice A2 n2 m2)) w.heap.size ⟨ns,A1,n1,m1,rs,A2,n2,m2⟩):=qH (by
  have hT:∀ b,b<w3.heap.size->b=g0->OfT w3 26 b:=fun b _ e=>e ▸ ⟨_,k3⟩
  have h1:=HO.out.base (B':=w.heap.size) (by omega)
  exact ⟨h1.nodes.type hu3 hT (by decide) (by decide) (by decide) (by decide),h1.rels.type hu3 hT (by decide) (by decide) (by decide) (by decide)⟩)
 clear k3 hs3 hu3
 go_wp2_with fail
 generalize (w3.setCell ⟨g0,0,none⟩ (.slice A1 n1 m1)).setCell ⟨g0,1,none⟩ (.slice A2 n2 m2)=w4 at *
 rw [HQQ.out]
 refine ZeX rfl rfl HK3.out ⟨⟨ns,A1,n1,m1,rs,A2,n2,m2⟩,rfl,by rw [HD.out];exact HCan.out,HO3.out,HS3.out⟩
theorem Zpf {tmps:Array Value} {W:World} {g:Nat} {v0 v1 v2:Value} {R:Ending->World->Prop} (h2:tmps.getD 2 undef=.pointer (some ⟨g,0,none⟩)) (h3:tmps.getD 3 undef=v2) (hb:Blk W g 26 #[v0,v1])
 (hR:R (.returned (.tuple #[.agg #[v0,v1],v2])) W) :
 bodyPost Tryz.prog Tryz.f21 R Exit.ret { tmps:=tmps,defers:=[] } W:=by
 have c0:=hb.cell 0
 have c1:=hb.cell 1
 refine bodyPost_ret (v:=.tuple #[.agg #[v0,v1],v2]) ?_ rfl hR
 simp only [Array.getD_eq_getD_getElem?] at h2 h3
 simp [results,Tryz.results21,go_sem,h2,h3,c0,c1]
noncomputable def Zcv (bs:List UInt8):Int×Zak:=match fedP bs with
 | .error e=>(e,noG)
 | .ok s=>ansP s
theorem Zfx {F:Nat->Prop} {A:Option Addr} {n c:Nat} {bs:List UInt8} (w:World) (hb:Bytes w F A n c bs) (hN:Nib w) :
 Calls Tryz.prog 21 #[.slice A n c] w (ZhY (Zcv bs).1 (Zcv bs).2 w):=by
 have hs0:=(Upd.refl (fun _=>False) w).alloc (.cells #[.slice none 0 0,.slice none 0 0] 26)
 have HK:=qH (Blk.new w 26 #[.slice none 0 0,.slice none 0 0])
 have HY:=qH ((hb.mono (F':=fun b=>b<w.heap.size) fun b h _=>h).same hs0)
 have HN:=qH (hN.same hs0)
 have HS:=qH hs0
 have hnb:=hN.1
 have hlt:w.heap.size<(w.alloc (.cells #[.slice none 0 0,.slice none 0 0] 26)).heap.size:=by rw [World.size_alloc];omega
 generalize hq:Zcv bs=q
 have HQ:=qH hq
 clear hb hN hs0 hq
 go_enter Tryz.func21,Tryz.ntmps21
 go_upto_region 1 with fail
 generalize w.alloc (.cells #[.slice none 0 0,.slice none 0 0] 26)=w1 at *
 go_wp2_with fail
 refine (ZeA w1).mono ?_
 rintro e w2 ⟨r,fr,d,rfl,hok,hs2⟩
 have HF:=qH (ZdM (b:=[]) (B:=w1.heap.size) w2 hok (HY.out.same hs2) (fun g hg hS=>by
  have h1:=hok.ard.br
  have h2:=hok.ard.bd
  have h3:=hok.ard.fin.base
  rcases hS with (e | e | ⟨-,e⟩) | e | e | e | e
  · omega
  · omega
  · omega
  · omega
  · cases e
  · cases e
  cases e) (HN.out.same hs2) (by omega))
 have hbr:=hok.ard.br
 have hbd:=hok.ard.bd
 have hbf:=hok.ard.fin.base
 have HS2:=qH (HS.out.trans hs2 fun _ _ f=>f)
 have HK2:=qH (HK.out.same hs2)
 clear hok hs2
 go_wp2_with fail
 refine HF.out.mono ?_
 rintro e w3 ⟨hu3,hres⟩
 have HS3:Hid (Same w w3):=qH (HS2.out.trans hu3 fun g hg hS=>by
  rcases hS with (e | e | ⟨-,e⟩) | e | e | e | e
  · omega
  · omega
  · omega
  · omega
  · cases e
  · cases e
  cases e)
 have hk3:=HK2.out.upd hu3 (fun hS=>by
  rcases hS with (e | e | ⟨-,e⟩) | e | e | e | e
  · omega
  · omega
  · omega
  · omega
  · cases e
  · cases e
  cases e)
 have HK3:=qH hk3
 have HG:Hid (Calls Tryz.prog 26 #[.pointer (some ⟨r,0,none⟩)] w3 (ZhY q.1 q.2 w3)):=qH (by
  rcases hres with ⟨er,a0,a1,a2,a3,a4,a5,a6,hne,htk,-,hk⟩ | ⟨s',vf',v1',v2',gr',-,hok,-⟩
  · have h1:=ZfW w3 hk hne
    rw [<- HQ.out]
    unfold Zcv
    rw [List.nil_append] at htk
    rw [htk]
    exact h1
  have h1:=ZeY w3 hok
  have h2:=hok.ok
  rw [List.nil_append] at h2
  rw [<- HQ.out]
  unfold Zcv
  rw [h2]
  exact h1)
 have he:∃ er:Int,e=.returned (.int .i64 er):=by
  rcases hres with ⟨er,a0,a1,a2,a3,a4,a5,a6,hne,htk,h,hk⟩ | ⟨s',vf',v1',v2',gr',h,hok,-⟩
  · exact ⟨_,h⟩
  exact ⟨_,h⟩
 obtain ⟨er,rfl⟩:=he
 clear hres hu3 hk3
 go_wp2_with fail
 refine HG.out.mono ?_
 rintro e w4 ⟨⟨ns,A1,n1,m1,rs,A2,n2,m2⟩,rfl,hD,hO,hs4⟩
 have hz3:=HS3.out.size
 have k4:=HK3.out.same hs4
 generalize hg0:w.heap.size=g0 at *
 have c40:w4.cell? ⟨g0,0,none⟩=some (.slice none 0 0):=k4.cell 0
 have c41:w4.cell? ⟨g0,1,none⟩=some (.slice none 0 0):=k4.cell 1
 have f40:=k4.frozen 0
 have f41:=k4.frozen 1
 have HK4:Hid (Blk ((w4.setCell ⟨g0,0,none⟩ (.slice A1 n1 m1)).setCell ⟨g0,1,none⟩ (.slice A2 n2 m2)) g0 26 #[.slice A1 n1 m1,.slice A2 n2 m2]):=qH ((k4.put 0 (.slice A1 n1 m1)).put 1 (.slice A2 n2 m2))
 have hu4:=(((Upd.refl (fun b=>b=g0) w4).put1 (i:=0) (.slice A1 n1 m1)).put1 (i:=1) (.slice A2 n2 m2))
 have HS4:Hid (Same w ((w4.setCell ⟨g0,0,none⟩ (.slice A1 n1 m1)).setCell ⟨g0,1,none⟩ (.slice A2 n2 m2))):=qH ((HS3.out.trans hs4 fun _ _ f=>f).trans hu4 fun b hb e=>by omega)
 have HO4:Hid (OwnG ((w4.setCell ⟨g0,0,none⟩ (.slice A1 n1 m1)).setCell ⟨g0,1,none⟩ (.slice A2 n2 m2)) w.heap.size ⟨ns,A1,n1,m1,rs,A2,n2,m2⟩):=qH (by
  have hT:∀ b,b<w4.heap.size->b=g0->OfT w4 26 b:=fun b _ e=>e ▸ ⟨_,k4⟩
  have h1:=hO.base (B':=w.heap.size) (by omega)
  exact ⟨h1.nodes.type hu4 hT (by decide) (by decide) (by decide) (by decide),h1.rels.type hu4 hT (by decide) (by decide) (by decide) (by decide)⟩)
 have HD:=qH hD
 clear k4 hu4 hs4 hO hD
 go_wp2_with fail
 generalize (w4.setCell ⟨g0,0,none⟩ (.slice A1 n1 m1)).setCell ⟨g0,1,none⟩ (.slice A2 n2 m2)=w5 at *
 refine Zpf rfl rfl HK4.out ⟨⟨ns,A1,n1,m1,rs,A2,n2,m2⟩,rfl,HD.out,HO4.out,HS4.out⟩
def Cur (w:World) (F:Nat->Prop) (r:Nat) (b:List UInt8) (s:RS):Prop :=
 ∃ A n c at_ bad,Blk w r 179 #[.slice A n c,.int .i64 ((at_:Nat):Int),.bool bad]/\Bytes w F A n c b/\at_<=n/\bad=decide (s.err≠0)/\(s.err=0->s.left=b.drop at_)
theorem Cur.upd {w w':World} {F S:Nat->Prop} {r:Nat} {b:List UInt8} {s:RS} (h:Cur w F r b s) (hu:Upd S w w') (hr:¬ S r) (hf:∀ b,F b->¬ S b):Cur w' F r b s:=by
 obtain ⟨A,n,c,a,d,h1,h2,h3⟩:=h
 exact ⟨A,n,c,a,d,h1.upd hu hr,h2.upd hu hf,h3⟩
theorem Cur.same {w w':World} {F:Nat->Prop} {r:Nat} {b:List UInt8} {s:RS} (h:Cur w F r b s) (hu:Same w w'):Cur w' F r b s:=h.upd hu (fun f=>f) fun _ _ f=>f
theorem Cur.narrow {w:World} {F:Nat->Prop} {r:Nat} {b:List UInt8} {s:RS} (h:Cur w F r b s):Cur w (fun b=>F b/\b<w.heap.size) r b s:=by
 obtain ⟨A,n,c,a,d,h1,h2,h3⟩:=h
 exact ⟨A,n,c,a,d,h1,Row.mono h2 fun b h1 h2=>⟨h2,h1⟩,h3⟩
theorem Cur.lt {w:World} {F:Nat->Prop} {r:Nat} {b:List UInt8} {s:RS} (h:Cur w F r b s):r<w.heap.size:=by
 obtain ⟨A,n,c,a,d,h1,h2,h3⟩:=h
 exact h1.lt
theorem Zla {w:World} {F:Nat->Prop} {r:Nat} {b:List UInt8} {s:RS} (h:Cur w F r b s):OfT w 179 r:=by
 obtain ⟨A,n,c,a,d,h1,h2,h3⟩:=h
 exact ⟨_,h1⟩
def Zlb (b:List UInt8) (F:Nat->Prop) (r:Nat) (s:RS) (k:Nat) (w:World) (e:Ending) (w':World):Prop :=
 ∃ A' n' c',e=.returned (.slice A' n' c')/\Bytes w' (fun b=>F b\/w.heap.size<=b) A' n' c' (s.take (k:Int) true).1/\Cur w' F r b (s.take (k:Int) true).2/\Upd (fun b=>b=r) w w'
theorem Zfy {w:World} {F:Nat->Prop} {r:Nat} {b:List UInt8} {s:RS} (h:Cur w F r b s) (hF:¬ F r) (hl:b.length<=140737488355328) (k:Nat) (hk:k<=4294967296) :
 Calls Tryz.prog 159 #[.pointer (some ⟨r,0,none⟩),.int .i64 (k:Int)] w (Zlb b F r s k w):=by
 obtain ⟨A,n,c,at_,bad,hb,hy,ha,hbad,hleft⟩:=h
 have hL:=hy.len
 have hle:=Row.le hy
 have hmx:=Row.max hy
 unfold maxLen at hmx
 have HB:=qH hb
 have HY:=qH hy
 have HTR:=qH (show ∀ e w',Zlb b F r s k w e w'↔∃ A' n' c',e=.returned (.slice A' n' c')/\Bytes w' (fun b=>F b\/w.heap.size<=b) A' n' c' (s.take (k:Int) true).1/\Cur w' F r b (s.take (k:Int) true).2/\Upd (fun b=>b=r) w w' from fun _ _=>Iff.rfl)
 generalize Zlb b F r s k w=TR at HTR ⊢
 have c0:=hb.cell 0
 have c1:=hb.cell 1
 have c2:=hb.cell 2
 simp only [List.getElem?_toArray,List.getElem?_cons_succ,List.getElem?_cons_zero] at c0 c1 c2
 have HLF:=qH hleft
 have HBD:=qH hbad
 rw [hL] at hl
 have hw1:IntKind.i64.wrap ((n:Int)-(at_:Int))=(n:Int)-(at_:Int):=by rw [IntKind.wrap_i64];omega
 have hFail:Hid (∀ W:World,Upd (fun b=>b=r) w W->Blk W r 179 #[.slice A n c,.int .i64 (at_:Int),.bool true]->(s.take (k:Int) true).1=[]->(s.take (k:Int) true).2.err≠0->TR (.returned (.slice (some ⟨W.heap.size,0,none⟩) 0 0)) (W.alloc (.cells #[] 5))):=qH (by
  intro W hu hbW h1 h2
  refine (HTR.out _ _).2 ⟨_,_,_,rfl,?_,?_,hu.alloc _⟩
  · rw [h1]
    have ho:(W.alloc (.cells #[] 5)).ownsRow W.heap.size 5 1 (.slice (some ⟨W.heap.size,0,none⟩) 0 0) 0 []:=World.ownsRow_made W #[] 0 (Nat.le_refl _) (Nat.zero_le _) rfl
    exact (Row.of_own ho).mono fun b _ hb=>.inr (Nat.le_trans hu.size hb.2)
  exact ⟨A,n,c,at_,true,hbW.alloc _,(HY.out.upd hu fun b hb e=>hF (e ▸ hb)).same ((Upd.refl _ W).alloc _),ha,by simp [h2],fun e=>absurd e h2⟩)
 clear hb hy hleft hbad hL
 cases bad with
 | true =>
   have he:s.err≠0:=by have:=HBD.out;simpa using this.symm
   have HT1:=qH (RS.take_err he (k:Int) true)
   have HHe:=qH he
   clear he
   go_enter Tryz.func159,Tryz.ntmps159
   go_upto_region 1 with fail
   go_cut [23] from 6 to 23 (fun s23 wx=>s23=.bool true/\∃ d,wx=w.drewN d)
   case first =>
    go_quiet (fail)
    go_wp2
    go_meet
    exact ⟨rfl,_,rfl⟩
   obtain ⟨rfl,d,rfl⟩:=hcut
   have HB1:=qH (HB.out.drewN d)
   have c2':=HB1.out.cell 2
   have f2:=HB1.out.frozen 2
   simp only [List.getElem?_toArray,List.getElem?_cons_succ,List.getElem?_cons_zero] at c2'
   have HU1:=qH ((Upd.refl (fun b=>b=r) w).drewN d)
   clear c0 c1 c2
   generalize w.drewN d=w1 at *
   go_wp2
   have h2:=hFail.out (w1.setCell ⟨r,2,none⟩ (.bool true)) (HU1.out.put1 _) (HB1.out.put 2 _) (by rw [HT1.out]) (by rw [HT1.out];exact HHe.out)
   rw [World.size_setCell] at h2
   exact h2
 | false =>
   have he:s.err=0:=by have:=HBD.out;simpa using this
   have hsl:=HLF.out he
   obtain ⟨left,err⟩:=s
   simp only at he hsl
   subst he hsl
   by_cases hsh:n<at_+k
   · have HT1:=qH (RS.take_short (left:=b.drop at_) (k:=k) (by rw [List.length_drop,HY.out.len];omega))
     have hd:(n:Int)-(at_:Int)<(k:Int):=by omega
     go_enter Tryz.func159,Tryz.ntmps159
     go_upto_region 1 with fail
     go_cut [23] from 6 to 23 (fun s23 wx=>s23=.bool true/\∃ d,wx=w.drewN d)
     case first =>
      go_quiet (fail)
      go_wp2
      go_meet
      exact ⟨rfl,_,rfl⟩
     obtain ⟨rfl,d,rfl⟩:=hcut
     have HB1:=qH (HB.out.drewN d)
     have c2':=HB1.out.cell 2
     have f2:=HB1.out.frozen 2
     simp only [List.getElem?_toArray,List.getElem?_cons_succ,List.getElem?_cons_zero] at c2'
     have HU1:=qH ((Upd.refl (fun b=>b=r) w).drewN d)
     clear c0 c1 c2
     generalize w.drewN d=w1 at *
     go_wp2
     have h2:=hFail.out (w1.setCell ⟨r,2,none⟩ (.bool true)) (HU1.out.put1 _) (HB1.out.put 2 _) (by rw [HT1.out]) (by rw [HT1.out];decide)
     rw [World.size_setCell] at h2
     exact h2
   have HT1:=qH (RS.take_ok (left:=b.drop at_) (k:=k) (by rw [List.length_drop,HY.out.len];omega))
   have hd:¬ (n:Int)-(at_:Int)<(k:Int):=by omega
   have hw2:IntKind.i64.wrap ((at_:Int)+(k:Int))=(at_:Int)+(k:Int):=by rw [IntKind.wrap_i64];omega
   go_enter Tryz.func159,Tryz.ntmps159
   go_upto_region 1 with fail
   go_cut [23] from 6 to 23 (fun s23 wx=>s23=.bool false/\∃ d,wx=w.drewN d)
   case first =>
    go_quiet (fail)
    go_wp2
    go_meet
    exact ⟨rfl,_,rfl⟩
   obtain ⟨rfl,d,rfl⟩:=hcut
   have HB1:=qH (HB.out.drewN d)
   have HU1:=qH ((Upd.refl (fun b=>b=r) w).drewN d)
   have HY1:=qH (HY.out.same ((Upd.refl _ w).drewN d))
   clear c0 c1 c2
   generalize w.drewN d=w1 at *
   have c0:=HB1.out.cell 0
   have c1:=HB1.out.cell 1
   simp only [List.getElem?_toArray,List.getElem?_cons_succ,List.getElem?_cons_zero] at c0 c1
   have k1:(0:Int)<=(at_:Int):=by omega
   have k2:(at_:Int)<=(at_:Int)+(k:Int):=by omega
   have k3:(at_:Int)+(k:Int)<=(c:Int):=by omega
   have k4:((at_:Int)+(k:Int)).toNat=at_+k:=by omega
   have k5:at_+k-at_=k:=by omega
   go_upto_region 4 with fail
   go_cut [5] from 28 to 42 (fun s5 wx=>s5=.slice (if c=at_ then A else A.map (·.add at_)) k (c-at_)/\∃ d,wx=w1.drewN d)
   case first =>
    by_cases hck:c=at_
    · go_quiet (fail)
      go_wp2
      go_meet
      exact ⟨by rw [if_pos hck,show c-at_=0 by omega],_,rfl⟩
    go_quiet (fail)
    go_wp2
    go_meet
    exact ⟨by rw [if_neg hck],_,rfl⟩
   obtain ⟨rfl,d,rfl⟩:=hcut
   have HB2:=qH (HB1.out.drewN d)
   have HU2:=qH (HU1.out.drewN d)
   have HY2:=qH (HY1.out.same ((Upd.refl _ w1).drewN d))
   have HC2:=qH (HY2.out.cut (j:=at_) (m:=at_+k) (by omega) (by omega))
   clear c0 c1
   generalize w1.drewN d=w2 at *
   have c1:=HB2.out.cell 1
   have f1:=HB2.out.frozen 1
   simp only [List.getElem?_toArray,List.getElem?_cons_succ,List.getElem?_cons_zero] at c1
   have HC3:=HC2.out
   rw [k5] at HC3
   have HC3:=qH HC3
   generalize (if c=at_ then A else A.map (·.add at_))=A' at *
   go_wp2
   have hu:=HU2.out.put1 (i:=1) (.int .i64 ((at_:Int)+(k:Int)))
   have hu2:=(Upd.refl (fun b=>b=r) w2).put1 (i:=1) (.int .i64 ((at_:Int)+(k:Int)))
   refine (HTR.out _ _).2 ⟨A',k,c-at_,rfl,?_,?_,hu⟩
   · rw [HT1.out]
     exact (HC3.out.upd hu2 fun b hb e=>hF (e ▸ hb)).mono fun b _ hb=>.inl hb
   rw [HT1.out]
   refine ⟨A,n,c,at_+k,false,?_,HY2.out.upd hu2 fun b hb e=>hF (e ▸ hb),by omega,by simp,fun _=>by rw [List.drop_drop]⟩
   rw [Int.natCast_add]
   exact HB2.out.put 1 _
theorem RS.num_nat (s:RS) (k:Nat) (hk:Zam k=true):s.num k=(be (s.take (k:Int) true).1,(s.take (k:Int) true).2):=by
 unfold RS.num
 rw [hk]
theorem RS.take_len_le (s:RS) (k:Nat):(s.take (k:Int) true).1.length<=k:=by
 unfold RS.take
 split
 · split
   · simp
   split
   · simp
   simp only [List.length_take]
   omega
 simp
theorem Zhe {w:World} {F:Nat->Prop} {r:Nat} {b:List UInt8} {s:RS} (h:Cur w F r b s) (hF:¬ F r) (hl:b.length<=140737488355328) (k:Nat) (hk:Zam k=true) (hk4:k<=4) :
 Calls Tryz.prog 125 #[.pointer (some ⟨r,0,none⟩),.int .i64 (k:Int)] w fun e w'=>e=.returned (.int .i64 (((s.num k).1:Nat):Int))/\Cur w' F r b (s.num k).2/\Upd (fun b=>b=r) w w':=by
 have HC:=qH h
 have HF:=qH hF
 have HL:=qH hl
 rw [RS.num_nat s k hk]
 have h1:=RS.take_len_le s k
 have h2:=Zdp (s.take (k:Int) true).1
 have h3:256 ^ (s.take (k:Int) true).1.length<=256 ^ 4:=Nat.pow_le_pow_right (by omega) (by omega)
 have h4:be (s.take (k:Int) true).1<4294967296:=by omega
 clear h hF hl h2 h3 hk
 go_enter Tryz.func125,Tryz.ntmps125
 go_wp2_with fail
 refine (Zfy HC.out HF.out HL.out k (by omega)).mono ?_
 rintro e w1 ⟨A',n',c',rfl,hy,hc,hu⟩
 have hn':n'<=8:=by have:=hy.len;omega
 have HC1:=qH hc
 have HY1:=qH hy
 have HU1:=qH hu
 clear hy hc hu
 go_wp2_with fail
 refine (Zgg w1 HY1.out hn').mono ?_
 rintro e w' ⟨rfl,rfl⟩
 go_wp2
 go_ret
 exact ⟨rfl,HC1.out,HU1.out⟩
theorem Zfz {w:World} {F:Nat->Prop} {r:Nat} {b:List UInt8} {s:RS} (h:Cur w F r b s) (hF:¬ F r) (hl:b.length<=140737488355328) :
 Calls Tryz.prog 125 #[.pointer (some ⟨r,0,none⟩),.int .i64 1] w fun e w'=>e=.returned (.int .i64 (((s.num 1).1:Nat):Int))/\Cur w' F r b (s.num 1).2/\Upd (fun b=>b=r) w w':=Zhe h hF hl 1 (by decide) (by omega)
theorem ZmF {w:World} {F:Nat->Prop} {r:Nat} {b:List UInt8} {s:RS} (h:Cur w F r b s) (hF:¬ F r) (hl:b.length<=140737488355328) :
 Calls Tryz.prog 125 #[.pointer (some ⟨r,0,none⟩),.int .i64 2] w fun e w'=>e=.returned (.int .i64 (((s.num 2).1:Nat):Int))/\Cur w' F r b (s.num 2).2/\Upd (fun b=>b=r) w w':=Zhe h hF hl 2 (by decide) (by omega)
theorem Zee {w:World} {F:Nat->Prop} {r:Nat} {b:List UInt8} {s:RS} (h:Cur w F r b s) (hF:¬ F r) (hl:b.length<=140737488355328) :
 Calls Tryz.prog 125 #[.pointer (some ⟨r,0,none⟩),.int .i64 4] w fun e w'=>e=.returned (.int .i64 (((s.num 4).1:Nat):Int))/\Cur w' F r b (s.num 4).2/\Upd (fun b=>b=r) w w':=Zhe h hF hl 4 (by decide) (by omega)
theorem ZfA {w:World} {F:Nat->Prop} {r:Nat} {b:List UInt8} {s:RS} (h:Cur w F r b s) (hF:¬ F r) (hl:b.length<=140737488355328) :
 Calls Tryz.prog 126 #[.pointer (some ⟨r,0,none⟩)] w fun e w'=>e=.returned (.string s.name.1)/\Cur w' F r b s.name.2/\Upd (fun b=>b=r) w w':=by
 have HC:=qH h
 have HF:=qH hF
 have HL:=qH hl
 have hlt:=RS.num1_lt s
 have HN:=qH (show s.name=(⟨((s.num 1).2.take ((s.num 1).1:Int) true).1.toArray⟩,((s.num 1).2.take ((s.num 1).1:Int) true).2) from rfl)
 generalize s.name=nm at HN ⊢
 clear h hF hl
 go_enter Tryz.func126,Tryz.ntmps126
 go_wp2_with fail
 refine (Zfz HC.out HF.out HL.out).mono ?_
 rintro e w1 ⟨rfl,hc1,hu1⟩
 have HC1:=qH hc1
 have HU1:=qH hu1
 clear hc1 hu1 HC
 generalize s.num 1=S1 at *
 obtain ⟨k,s1⟩:=S1
 simp only at hlt HN HC1 ⊢
 go_wp2_with fail
 refine (Zfy HC1.out HF.out HL.out k (by omega)).mono ?_
 rintro e w2 ⟨A',n',c',rfl,hy,hc,hu⟩
 have hcv:=Zay hy
 have HC2:=qH hc
 have HU2:=qH (HU1.out.trans hu fun _ _ hh=>hh)
 clear hy hc hu
 go_wp2
 go_ret
 refine ⟨?_,by rw [HN.out];exact HC2.out,HU2.out⟩
 rw [HN.out]
 rfl
theorem RS.take_err_nil {s:RS} {n:Int} {b:Bool} (h:(s.take n b).2.err≠0):(s.take n b).1=[]:=by
 unfold RS.take at h ⊢
 split
 · split
   · rfl
   split
   · rfl
   rename_i h1 h2 h3
   rw [if_pos h1,if_neg h2,if_neg h3] at h
   exact absurd rfl h
 rfl
theorem ZlW:(decA []).2≠0:=by
 intro h
 have h1:=ZeK h
 have h2:=h1.2.2
 unfold enc at h2
 rw [if_pos h1.1] at h2
 have h3:=congrArg List.length h2
 rw [List.length_append,Zac] at h3
 simp at h3
theorem ZnW {n:Nat} {s1:RS} (he:s1.err≠0):(if (RS.prs n s1).2.err=0/\(RS.prs n s1).2.left=[] then (RS.prs n s1).1 else none)=none:=by
 cases n with
 | zero =>
   have h:(RS.prs 0 s1).2=s1:=rfl
   rw [if_neg (by rw [h];simp [he])]
 | succ m =>
   have hn1:s1.name.2.raw2.2.err≠0:=fun h=>he (RS.name_back (RS.raw2_back h).1).1
   have hnil:s1.name.2.raw2.1=[]:=RS.take_err_nil hn1
   have h1:(RS.prs (m+1) s1).1=none:=by
    simp only [RS.prs]
    rw [if_pos (by rw [hnil];exact ZlW)]
   rw [h1]
   split <;> rfl
theorem ZnX (l:List UInt8):(decA l).1.Fits:=by
 by_cases h:(decA l).2=0
 · exact (ZeK h).2.1
 have e:(decA l).1=Zmb:=by
  unfold decA decD at h ⊢
  split
  · rfl
  rename_i h1
  rw [if_neg h1] at h
  simp only at h ⊢
  unfold decP at h ⊢
  split
  · rfl
  rename_i h2
  rw [h2] at h
  exact absurd rfl h
 rw [e]
 exact ⟨by decide,by decide,by simp [Zmb]⟩
def Zhf (s:RS) (r:Nat) (w:World) (e:Ending) (w':World):Prop :=
 ∃ v ps bad a0 a1,e=.returned v/\ZbJ w' w.heap.size v ps/\Blk w' r 179 #[a0,a1,.bool bad]/\(bad=false->s.props=some (ps.map PR.dat))/\(bad=true->s.props=none)/\Upd (fun b=>b=r) w w'
theorem Zhg {w:World} {F:Nat->Prop} {r:Nat} {b:List UInt8} {s:RS} (h:Cur w F r b s) (hF:¬ F r) (hl:b.length<=140737488355328) :
 Calls Tryz.prog 127 #[.pointer (some ⟨r,0,none⟩)] w (Zhf s r w):=by
 have HC:=qH h.narrow
 have HF:=qH (fun h:F r/\r<w.heap.size=>hF h.1)
 have HL:=qH hl
 have HrL:=qH h.lt
 have hlt:=RS.num1_lt s
 have HP:=qH (show s.props=if (RS.prs (s.num 1).1 (s.num 1).2).2.err=0/\(RS.prs (s.num 1).1 (s.num 1).2).2.left=[] then (RS.prs (s.num 1).1 (s.num 1).2).1 else none from rfl)
 have HPR:=qH (show ∀ e w',Zhf s r w e w'↔∃ v ps bad a0 a1,e=.returned v/\ZbJ w' w.heap.size v ps/\Blk w' r 179 #[a0,a1,.bool bad]/\(bad=false->s.props=some (ps.map PR.dat))/\(bad=true->s.props=none)/\Upd (fun b=>b=r) w w' from fun _ _=>Iff.rfl)
 generalize Zhf s r w=PRes at HPR ⊢
 generalize s.props=prs at HP HPR
 have hs0:=(Upd.refl (fun _=>False) w).alloc (.cells #[] 48)
 have HO0:Hid (ZbJ (w.alloc (.cells #[] 48)) w.heap.size (.slice (some ⟨w.heap.size,0,none⟩) 0 0) []):=qH ⟨World.ownsRow_made w #[] 0 (Nat.le_refl _) (Nat.zero_le _) rfl,by simp⟩
 have HC0:=qH (HC.out.same hs0)
 have HU0:=qH (hs0.mono (S':=fun b=>b=r) fun _ _ f=>f.elim)
 clear h hF hl hs0 HC
 go_enter Tryz.func127,Tryz.ntmps127
 go_wp2_with fail
 generalize w.alloc (.cells #[] 48)=w0 at *
 generalize hg0:w.heap.size=g0 at *
 refine (Zfz HC0.out HF.out HL.out).mono ?_
 rintro e w1 ⟨rfl,hc1,hu1⟩
 have HC1:=qH hc1
 have HU1:=qH (HU0.out.trans hu1 fun _ _ hh=>hh)
 have HO1:=qH (HO0.out.type hu1 (fun b _ e=>by rw [e];exact Zla HC0.out) (by decide) (by decide) (by decide))
 clear hc1 hu1 HC0 HO0 HU0
 generalize s.num 1=S1 at *
 obtain ⟨n,s1⟩:=S1
 simp only at hlt HP HC1 ⊢
 go_wp2_with fail
 go_loopg [5,3] n (fun gh ix s3 wr=>∃ (k:Nat) (Ao:Option Addr) (co:Nat) (sk:RS) (ps:List PR),n-k=gh/\k<=n/\ix=.int .i64 k/\s3=.slice Ao k co/\Hid (ps.length=k)/\Hid (Cur wr (fun b=>F b/\b<g0) r b sk)/\Hid (ZbJ wr g0 (.slice Ao k co) ps)/\Hid (sk.err≠0->prs=none)/\Hid (sk.err=0->RS.prs n s1=((RS.prs (n-k) sk).1.map ((ps.map PR.dat)++·),(RS.prs (n-k) sk).2))/\Hid (Upd (fun b=>b=r) w wr))
 case atStart =>
  refine ⟨0,_,_,s1,[],rfl,Nat.zero_le _,rfl,rfl,qH rfl,HC1,HO1,qH fun he=>?_,qH fun _=>by simp,HU1⟩
  rw [HP.out]
  exact ZnW he
 obtain ⟨k,Ao,co,sk,ps,rfl,hk,rfl,rfl,KL,KC,KO,KN,KP,KU⟩:=hrel
 have HZr:=qH KU.out.size
 obtain ⟨A,nb,c,at_,bad,hb,hy,ha,hbad,hleft⟩:=KC.out
 have HY:=qH hy
 have HLF:=qH hleft
 have HBD:=qH hbad
 have HB:=qH hb
 have hbl:=hy.len
 have c2:=hb.cell 2
 simp only [List.getElem?_toArray,List.getElem?_cons_succ,List.getElem?_cons_zero] at c2
 clear hb hy hleft hbad
 have hEnd:Hid (∀ W:World,Upd (fun b=>b=r) wr W->Blk W r 179 #[.slice A nb c,.int .i64 (at_:Int),.bool true]->prs=none->PRes (.returned (.slice Ao k co)) W):=qH (by
  intro W hu hbW hn
  exact (HPR.out _ _).2 ⟨_,ps,true,_,_,rfl,KO.out.type hu (fun b _ e=>by rw [e];exact Zla KC.out) (by decide) (by decide) (by decide),hbW,(fun h=>by cases h),fun _=>hn,KU.out.trans hu fun _ _ hh=>hh⟩)
 by_cases hlk:k<n/\bad=false
 · obtain ⟨hlk,rfl⟩:=hlk
   have he:sk.err=0:=by have:=HBD.out;simpa using this
   have hnk:n-k=(n-(k+1))+1:=by omega
   have HK:=qH (show RS.prs n s1=(if (decA sk.name.2.raw2.1).2≠0 then (none,sk.name.2.raw2.2) else (((RS.prs (n-(k+1)) sk.name.2.raw2.2).1.map (⟨sk.name.1,(decA sk.name.2.raw2.1).1⟩::·)).map ((ps.map PR.dat)++·),(RS.prs (n-(k+1)) sk.name.2.raw2.2).2)) by
    rw [KP.out he,hnk]
    simp only [RS.prs]
    split <;> rfl)
   have HE4:=qH (fun h:sk.name.2.raw2.2.err≠0=>(show sk.name.2.raw2.1=[] from RS.take_err_nil h))
   clear hnk he hEnd
   go_wp2_with fail
   refine (ZfA KC.out HF.out HL.out).mono ?_
   rintro e w2 ⟨rfl,hr2,hu2⟩
   have HR2:=qH hr2
   have HU2:=qH hu2
   have hlt2:=RS.num2_lt sk.name.2
   have HRW:=qH (show sk.name.2.raw2=(sk.name.2.num 2).2.take ((sk.name.2.num 2).1:Int) true from rfl)
   clear hr2 hu2 c2
   generalize sk.name=NM at *
   obtain ⟨key,s2⟩:=NM
   simp only at hlt2 HK HR2 HRW HE4 ⊢
   go_wp2_with fail
   refine (ZmF HR2.out HF.out HL.out).mono ?_
   rintro e w3 ⟨rfl,hr3,hu3⟩
   have HR3:=qH hr3
   have HU3:=qH (HU2.out.trans hu3 fun _ _ hh=>hh)
   clear hr3 hu3
   generalize s2.num 2=S3 at *
   obtain ⟨m,s3⟩:=S3
   simp only at hlt2 HRW HR3 ⊢
   go_wp2_with fail
   refine (Zfy HR3.out HF.out HL.out m (by omega)).mono ?_
   rintro e w4 ⟨A4,n4,c4,rfl,hy4,hr4,hu4⟩
   rw [<- HRW.out] at hy4 hr4
   generalize s2.raw2=S4 at *
   obtain ⟨bs,s4⟩:=S4
   simp only at hy4 hr4 HK HE4
   have HN4:=qH hy4.len
   have HY4:=qH hy4
   have HR4:=qH hr4
   have HU4:=qH (HU3.out.trans hu4 fun _ _ hh=>hh)
   clear hy4 hr4 hu4
   have HD:=qH (show decD n4 (decP bs)=decA bs by rw [<- HN4.out];rfl)
   generalize hdv:decA bs=D at *
   obtain ⟨g,er⟩:=D
   simp only at HK
   have HDV:=qH hdv
   clear hdv
   go_wp2_with fail
   refine (ZiM w4 HY4.out (g,er) HD.out).mono ?_
   rintro e w5 ⟨v5,rfl,hN5,hs5⟩
   obtain ⟨A1,c1,A2,c2,rfl,h1,h2⟩:=(show ∃ A1 c1 A2 c2,v5=g.val A1 g.nums.length c1 A2 g.texts.length c2/\w5.ownsRow w4.heap.size 2 1 (.slice A1 g.nums.length c1) g.nums.length (g.nums.map (Value.int .i64))/\w5.ownsRow w4.heap.size 9 1 (.slice A2 g.texts.length c2) g.texts.length (g.texts.map Value.string) from by
    obtain ⟨v1,v2,rfl,h1,h2⟩:=hN5
    obtain ⟨A1,c1,rfl⟩:=Zad h1
    obtain ⟨A2,c2,rfl⟩:=Zad h2
    exact ⟨A1,c1,A2,c2,rfl,h1,h2⟩)
   have HN5:=qH (And.intro h1 h2)
   have HR5:=qH (HR4.out.same hs5)
   have HU5:=qH (HU4.out.same hs5)
   have HO5:=qH (KO.out.type HU5.out (fun b _ hb=>by rw [hb];exact Zla KC.out) (by decide) (by decide) (by decide))
   have HZ5:=qH HU4.out.size
   clear hN5 h1 h2 hs5 HY4 HR4 HR3 HU3 HR2 HU2 HU4 KC KO
   have hfits:=ZnX bs
   rw [HDV.out] at hfits
   simp only at hfits
   have HFt:=qH hfits
   go_upto_if 37 with (fail)
   have hsa:=(Upd.refl (fun _=>False) w5).alloc (.cells #[.int .i64 g.kind,.int .i64 g.num,.string g.text,.slice A1 g.nums.length c1,.slice A2 g.texts.length c2] 46)
   have HB6:=qH (Blk.new w5 46 #[.int .i64 g.kind,.int .i64 g.num,.string g.text,.slice A1 g.nums.length c1,.slice A2 g.texts.length c2])
   have HR6:=qH (HR5.out.same hsa)
   have HU6:=qH (HU5.out.same hsa)
   have HO6:=qH (HO5.out.same hsa)
   have hz:w.heap.size<=w4.heap.size:=Nat.le_trans HZr.out HZ5.out
   have HX6:Hid (ZbC (w5.alloc (.cells #[.int .i64 g.kind,.int .i64 g.num,.string g.text,.slice A1 g.nums.length c1,.slice A2 g.texts.length c2] 46)) g0 ⟨key,g,A1,g.nums.length,c1,A2,g.texts.length,c2⟩):=qH ⟨Zaa (Zae HN5.1 (by rw [<- hg0];exact hz)) hsa,Zaa (Zae HN5.2 (by rw [<- hg0];exact hz)) hsa,HFt.out⟩
   clear hsa HN5 HR5 HU5 HO5 hfits
   generalize w5.alloc (.cells #[.int .i64 g.kind,.int .i64 g.num,.string g.text,.slice A1 g.nums.length c1,.slice A2 g.texts.length c2] 46)=w6 at *
   generalize w5.heap.size=g6 at *
   obtain ⟨A6,n6,c6,at6,bad6,hb6,hy6,ha6,hbad6,hleft6⟩:=HR6.out
   have HC6:=qH hb6
   have HY6:=qH hy6
   have HL6:=qH hleft6
   have HD6:=qH hbad6
   have HA6:=qH ha6
   have p2:=hb6.cell 2
   have f2:=hb6.frozen 2
   simp only [List.getElem?_toArray,List.getElem?_cons_succ,List.getElem?_cons_zero] at p2
   have hneB:g6≠r:=by
    have h1:=HB6.out
    rintro rfl
    have h2:=HC6.out
    unfold Blk at h1 h2
    rw [h1] at h2
    injection h2 with h2
    injection h2 with _ h2 _
    exact absurd h2 (by decide)
   clear hb6 hy6 hbad6 hleft6 ha6
   go_cut [] from 38 to 46 (fun wx=>Hid (Upd (fun b=>b=r) w6 wx)/\Hid (Blk wx r 179 #[.slice A6 n6 c6,.int .i64 ((at6:Nat):Int),.bool (bad6 || decide (er≠0))]))
   case first =>
    by_cases he:er=0
    · subst he
      go_wp2
      go_meet
      exact ⟨qH (Upd.refl _ _),qH (by simpa using HC6.out)⟩
    have hne:(er != 0)=true:=by rw [bne_iff_ne];exact he
    have HE:=qH he
    clear he
    go_wp2
    go_meet
    refine ⟨qH ((Upd.refl _ _).put1 _),qH ?_⟩
    have h1:=HC6.out.put 2 (.bool true)
    have e1:(bad6 || decide (er≠0))=true:=by simp [HE.out]
    rw [e1]
    exact h1
   obtain ⟨KU7,KB7⟩:=hcut
   obtain ⟨w7,rfl⟩:∃ w7:World,w7=wc:=⟨_,rfl⟩
   have HB7:=qH (HB6.out.upd KU7.out hneB)
   have HO7:=qH (HO6.out.type KU7.out (fun b _ hb=>by rw [hb];exact ⟨_,HC6.out⟩) (by decide) (by decide) (by decide))
   have HX7:=qH (HX6.out.type KU7.out (fun b _ hb=>by rw [hb];exact ⟨_,HC6.out⟩) (by decide) (by decide))
   have HU7:=qH (HU6.out.trans KU7.out fun _ _ hh=>hh)
   have HY7:=qH (HY6.out.upd KU7.out fun b hb e=>HF.out (e ▸ hb))
   clear p2 f2 HR6 HU6 HO6 HX6 HB6 HY6
   have p0:=HB7.out.cell 0
   have p1:=HB7.out.cell 1
   have p2:=HB7.out.cell 2
   have p3:=HB7.out.cell 3
   have p4:=HB7.out.cell 4
   simp only [List.getElem?_toArray,List.getElem?_cons_succ,List.getElem?_cons_zero] at p0 p1 p2 p3 p4
   obtain ⟨x,hx⟩:∃ x:PR,x=⟨key,g,A1,g.nums.length,c1,A2,g.texts.length,c2⟩:=⟨_,rfl⟩
   have hsa:=(Upd.refl (fun _=>False) w7).alloc (.cells x.cells.toArray 48)
   have HXd:=qH (show x.dat=⟨key,g⟩ by rw [hx];rfl)
   have HOa:=qH (HO7.out.same hsa)
   have HXa:=qH (show ZbC (w7.alloc (.cells x.cells.toArray 48)) g0 x by
    have h1:=HX7.out.same hsa
    rw [<- hx] at h1
    exact h1)
   have HCa:=qH (KB7.out.same hsa)
   have HYa:=qH (HY7.out.same hsa)
   have HUa:=qH (HU7.out.same hsa)
   have hrow:(w7.alloc (.cells x.cells.toArray 48)).ownsRow g0 48 6 (.slice Ao k co) k (ps.flatMap PR.cells):=by have h1:=HOa.out.row;rw [KL.out] at h1;exact h1
   have HROW:=qH hrow
   have hxc:x.cells.toArray=#[.string key,.int .i64 g.kind,.int .i64 g.num,.string g.text,.slice A1 g.nums.length c1,.slice A2 g.texts.length c2]:=by rw [hx];rfl
   have HROW2:=HROW.out
   rw [hxc] at HROW2
   have HROW2:=qH HROW2
   have HSRC:=qH (Row.pr w7 x)
   have HXC:=qH hxc
   have hzz:g0<=w7.heap.size:=by rw [<- hg0];exact Nat.le_trans HZr.out HU7.out.size
   have hk255:k<255:=by omega
   clear hsa hrow hxc hx hz
   go_wp2_with (at_builtin;go_must (refine Zaf rfl (.tmp 41) (.tmp 45) _ _ rfl g0 48 6 96 _ Tryz.underlying41 ZgE rfl (.slice Ao k co) k _ rfl HROW2.out rfl (Zan Tryz.underlying41 (by have h1:=HSRC.out;rw [HXC.out] at h1;exact h1) (PR.one x)) (by unfold maxLen;omega) (by omega) (by simp;omega) ?_);intro v9 w9 hg;rw [<- HXC.out] at hg;have HG:=qH hg;clear hg)
   obtain ⟨A9,c9,rfl⟩:=Zad HG.out.own
   have HOn:=qH (HOa.out.snoc (x:=x) (by rw [KL.out];exact HG.out) HXa.out)
   have hown:=HROW.out.lt
   have HCn:=qH (HCa.out.upd HG.out.upd (fun e=>by
    have h1:=(hown _ e).1
    have h2:=HrL.out
    omega))
   have HYn:=qH (HYa.out.upd HG.out.upd (fun b hb e=>by have:=(hown _ e).1;omega))
   have HUn:=qH ((KU.out.trans HUa.out fun _ _ hh=>hh).trans HG.out.upd fun b hb hh=>by have:=(hown _ hh).1;omega)
   clear hown
   go_wp2
   go_roundg (n-(k+1))
   case measure=>omega
   by_cases he:er=0
   · have hs4:s4.err=0:=by
      by_cases h:s4.err=0
      · exact h
      have h1:=HE4.out h
      have h2:=HDV.out
      rw [h1] at h2
      exact absurd (by rw [h2];exact he) ZlW
     have hb6:bad6=false:=by rw [HD6.out,hs4];rfl
     have e1:(bad6 || decide (er≠0))=false:=by rw [hb6];simp [he]
     have HCn':=HCn.out
     rw [e1] at HCn'
     refine ⟨k+1,A9,c9,s4,ps++[x],rfl,by omega,by go_num,rfl,qH (by simp [KL.out]),qH ⟨A6,n6,c6,at6,false,HCn',HYn.out,HA6.out,by simp [hs4],HL6.out⟩,HOn,qH fun h=>absurd hs4 h,qH fun _=>?_,HUn⟩
     rw [HK.out,if_neg (by simp [he])]
     simp only [Option.map_map,List.map_append,List.map_cons,List.map_nil,HXd.out]
     congr 2
     funext l
     simp
   have e1:(bad6 || decide (er≠0))=true:=by simp [he]
   have HCn':=HCn.out
   rw [e1] at HCn'
   refine ⟨k+1,A9,c9,⟨[],10⟩,ps++[x],rfl,by omega,by go_num,rfl,qH (by simp [KL.out]),qH ⟨A6,n6,c6,at6,true,HCn',HYn.out,HA6.out,by simp,fun h=>by simp at h⟩,HOn,qH fun _=>?_,qH fun h=>by simp at h,HUn⟩
   rw [HP.out,HK.out,if_pos he]
   split <;> rfl
 have c0:=HB.out.cell 0
 have c1:=HB.out.cell 1
 have f2:=HB.out.frozen 2
 simp only [List.getElem?_toArray,List.getElem?_cons_succ,List.getElem?_cons_zero] at c0 c1
 cases bad with
 | true =>
   have he:sk.err≠0:=by have:=HBD.out;simpa using this.symm
   have HN:=qH (KN.out he)
   clear he
   by_cases hkn:k<n
   all_goals
    clear hlk
    go_upto_region 12 with fail
    obtain ⟨wo,rfl⟩:∃ wo:World,wo=wr:=⟨_,rfl⟩
    go_cut [56] from 47 to 56 (fun s56 wx=>(∃ q:Bool,s56=.bool q)/\∃ d,wx=wo.drewN d)
    case first =>
     go_quiet (fail)
     go_wp2
     go_meet
     exact ⟨⟨_,rfl⟩,_,rfl⟩
    obtain ⟨⟨q,rfl⟩,d,rfl⟩:=hcut
    have HS:=qH ((Upd.refl (fun b=>b=r) wo).drewN d)
    have HBW:=qH (HB.out.drewN d)
    clear c0 c1 c2 f2
    have f2:=HBW.out.frozen 2
    have c2:=HBW.out.cell 2
    simp only [List.getElem?_toArray,List.getElem?_cons_succ,List.getElem?_cons_zero] at c2
    generalize wo.drewN d=w2 at *
    cases q with
    | true =>
      go_wp2
      exact hEnd.out (w2.setCell ⟨r,2,none⟩ (.bool true)) (HS.out.put1 _) (HBW.out.put 2 _) HN.out
    | false =>
      go_wp2
      exact hEnd.out w2 HS.out HBW.out HN.out
 | false =>
   obtain rfl:k=n:=by
    by_cases h:k<n
    · exact absurd ⟨h,rfl⟩ hlk
    omega
   have he:sk.err=0:=by have:=HBD.out;simpa using this
   have HK:=qH (show prs=if sk.left=[] then some (ps.map PR.dat) else none by
    rw [HP.out,KP.out he,Nat.sub_self]
    simp [RS.prs,he])
   have HLd:=qH (show sk.left=b.drop at_ from HLF.out he)
   clear he hlk
   go_upto_region 12 with fail
   obtain ⟨wo,rfl⟩:∃ wo:World,wo=wr:=⟨_,rfl⟩
   by_cases hat:at_=nb
   · have HN:=qH (show prs=some (ps.map PR.dat) by
      rw [HK.out,HLd.out,if_pos (List.drop_of_length_le (by omega))])
     have hq:((at_:Int) != (nb:Int))=false:=by simp [hat]
     clear hat
     go_cut [56] from 47 to 56 (fun s56 wx=>s56=.bool false/\∃ d,wx=wo.drewN d)
     case first =>
      go_quiet (fail)
      go_wp2
      go_meet
      exact ⟨rfl,_,rfl⟩
     obtain ⟨rfl,d,rfl⟩:=hcut
     have HS:=qH ((Upd.refl (fun b=>b=r) wo).drewN d)
     have HBW:=qH (HB.out.drewN d)
     have HOW:=qH (KO.out.same ((Upd.refl _ wo).drewN d))
     clear c0 c1 c2 f2
     generalize wo.drewN d=w2 at *
     go_wp2
     exact (HPR.out _ _).2 ⟨_,ps,false,_,_,rfl,HOW.out,HBW.out,fun _=>HN.out,(fun h=>by cases h),KU.out.trans HS.out fun _ _ hh=>hh⟩
   have HN:=qH (show prs=none by
    rw [HK.out,HLd.out,if_neg]
    intro h
    have h2:=congrArg List.length h
    rw [List.length_drop] at h2
    simp at h2
    omega)
   have hq:((at_:Int) != (nb:Int))=true:=by rw [bne_iff_ne];omega
   clear hat
   go_cut [56] from 47 to 56 (fun s56 wx=>s56=.bool true/\∃ d,wx=wo.drewN d)
   case first =>
    go_quiet (fail)
    go_wp2
    go_meet
    exact ⟨rfl,_,rfl⟩
   obtain ⟨rfl,d,rfl⟩:=hcut
   have HS:=qH ((Upd.refl (fun b=>b=r) wo).drewN d)
   have HBW:=qH (HB.out.drewN d)
   clear c0 c1 c2 f2
   have f2:=HBW.out.frozen 2
   have c2:=HBW.out.cell 2
   simp only [List.getElem?_toArray,List.getElem?_cons_succ,List.getElem?_cons_zero] at c2
   generalize wo.drewN d=w2 at *
   go_wp2
   exact hEnd.out (w2.setCell ⟨r,2,none⟩ (.bool true)) (HS.out.put1 _) (HBW.out.put 2 _) HN.out
end Go.Proofs.YtkopcinhbjimiaaGreatDoor
