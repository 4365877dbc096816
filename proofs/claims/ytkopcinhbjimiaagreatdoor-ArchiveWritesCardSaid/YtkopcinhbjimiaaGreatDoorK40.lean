/- Texts that the claim leans on: walks and plain laws, function by function. -/
import Derived.Test.YtkopcinhbjimiaaGreatDoorK39
import Derived.Test.YtkopcinhbjimiaaGreatDoorK29
import Derived.Test.YtkopcinhbjimiaaGreatDoorK33
import Derived.Test.YtkopcinhbjimiaaGreatDoorK08
import Derived.Test.YtkopcinhbjimiaaGreatDoorK11
import Derived.Deep.RegionHeld3
import Derived.Test.YtkopcinhbjimiaaGreatDoorK34
import Derived.Test.YtkopcinhbjimiaaGreatDoorK32
import Derived.Lib.SlBytesConst
import Derived.Test.YtkopcinhbjimiaaGreatDoorK36
import Derived.Test.YtkopcinhbjimiaaGreatDoorK10
import Derived.Test.YtkopcinhbjimiaaGreatDoorRows
import Derived.ProofKit
import Derived.LaidMore
import Derived.OpenShut
import Derived.Stop.Joined
import Derived.Test.YtkopcinhbjimiaaGreatDoorK01
set_option maxRecDepth 100000
set_option maxHeartbeats 16000000
namespace Go.Proofs.YtkopcinhbjimiaaGreatDoor
open Go.RowKit
theorem AOk.inv {w:World} {B r fr d:Nat} {vf v1 v2:Value} {gr:GR} {fed:Nat} {b:List UInt8} {s:PSt} (h:AOk w B r fr d vf v1 v2 gr fed b s) (h3:s.state=3):InvP s:=by
 have h1:=h.ok
 by_cases h8:8<=b.length
 · obtain ⟨-,-,-,ht,-⟩:=fedP_ok h1 h8
   exact takesP_inv _ _ _ InvP.start ht
 rw [fedP_short (by omega)] at h1
 injection h1 with h1
 rw [<- h1] at h3
 cases h3
theorem AOk.len {w:World} {B r fr d:Nat} {vf v1 v2:Value} {gr:GR} {fed:Nat} {b:List UInt8} {s:PSt} (h:AOk w B r fr d vf v1 v2 gr fed b s):s.all.length<=16777216:=by
 have hall:=congrArg List.length (fedP_all h.ok)
 rw [List.length_append] at hall
 by_cases h1:b.length<=16777216
 · omega
 have h2:=h.ok
 rw [fedP_long (by omega)] at h2
 cases h2
noncomputable def ansP (s:PSt):Int×GGraph:=if s.state≠3 then (10,noG) else if (chkP s.g).1≠0 then ((chkP s.g).1,noG) else (0,s.g)
theorem graph_end {tmps:Array Value} {W:World} {g:Nat} {v0 v1 v2:Value} {R:Ending->World->Prop} (h2:tmps.getD 2 undef=.pointer (some ⟨g,0,none⟩)) (h3:tmps.getD 3 undef=v2) (hb:Blk W g 26 #[v0,v1])
 (hR:R (.returned (.tuple #[.agg #[v0,v1],v2])) W) :
 bodyPost Tryz.prog Tryz.f26 R Exit.ret { tmps:=tmps,defers:=[] } W:=by
 have c0:=hb.cell 0
 have c1:=hb.cell 1
 refine bodyPost_ret (v:=.tuple #[.agg #[v0,v1],v2]) ?_ rfl hR
 simp only [Array.getD_eq_getD_getElem?] at h2 h3
 simp [results,Tryz.results26,go_sem,h2,h3,c0,c1]
def GraphR (er:Int) (G:GGraph) (w:World) (e:Ending) (w':World):Prop :=
 ∃ g:GR,e=.returned (.tuple #[.agg #[.slice g.AN g.nN g.cN,.slice g.AR g.nR g.cR],.int .i64 er])/\g.dat=G/\OwnG w' w.heap.size g/\Same w w'
theorem ardGraph_err {r:Nat} {a0 a1 a2 a3 a4 a5 a6:Value} {er:Int} (w:World) (h:Blk w r 97 #[a0,a1,a2,a3,a4,a5,a6,.int .i64 er]) (hne:er≠0) :
 Calls Tryz.prog 26 #[.pointer (some ⟨r,0,none⟩)] w (GraphR er noG w):=by
 have n0:(er != 0)=true:=by rw [bne_iff_ne];exact hne
 have s1:=(Upd.refl (fun _=>False) w).alloc (.cells #[.slice none 0 0,.slice none 0 0] 26)
 have hk:=Blk.new w 26 #[.slice none 0 0,.slice none 0 0]
 have p7:(w.alloc (.cells #[.slice none 0 0,.slice none 0 0] 26)).cell? ⟨r,7,none⟩=some (.int .i64 er):=(h.same s1).cell 7
 have HK:=qH hk
 have HS:=qH s1
 have hrl:=h.lt
 have hlt:w.heap.size<(w.alloc (.cells #[.slice none 0 0,.slice none 0 0] 26)).heap.size:=by rw [World.size_alloc];omega
 clear h hne hk s1
 go_enter Tryz.func26,Tryz.ntmps26
 go_upto_region 2 with fail
 generalize w.alloc (.cells #[.slice none 0 0,.slice none 0 0] 26)=w1 at *
 generalize hg0:w.heap.size=g0 at *
 have hne:r≠g0:=by omega
 have hne2:g0≠r:=by omega
 have c0:w1.cell? ⟨g0,0,none⟩=some (.slice none 0 0):=HK.out.cell 0
 have c1:w1.cell? ⟨g0,1,none⟩=some (.slice none 0 0):=HK.out.cell 1
 have f0:=HK.out.frozen 0
 have f1:=HK.out.frozen 1
 have hk2:=((HK.out.put 0 (.slice none 0 0)).put 1 (.slice none 0 0)).same ((Upd.refl (fun _=>False) _).drew)
 have HK2:Hid (Blk ((w1.setCell ⟨g0,0,none⟩ (.slice none 0 0)).setCell ⟨g0,1,none⟩ (.slice none 0 0)).drew g0 26 #[.slice none 0 0,.slice none 0 0]):=qH hk2
 have HS2:Hid (Same w ((w1.setCell ⟨g0,0,none⟩ (.slice none 0 0)).setCell ⟨g0,1,none⟩ (.slice none 0 0)).drew):=qH (HS.out.trans ((((Upd.refl (fun b=>b=g0) w1).put1 _).put1 _).drew) fun b hb e=>by omega)
 clear hk2
 go_region
 generalize ((w1.setCell ⟨g0,0,none⟩ (.slice none 0 0)).setCell ⟨g0,1,none⟩ (.slice none 0 0)).drew=w2 at *
 go_wp2_with fail
 refine graph_end rfl rfl HK2.out ⟨⟨[],none,0,0,[],none,0,0⟩,rfl,rfl,OwnG.nil_ _ _,HS2.out⟩
theorem ardGraph_spec {B r fr d:Nat} {vf v1 v2:Value} {gr:GR} {fed:Nat} {b:List UInt8} {s:PSt} (w:World) (h:AOk w B r fr d vf v1 v2 gr fed b s) :
 Calls Tryz.prog 26 #[.pointer (some ⟨r,0,none⟩)] w (GraphR (ansP s).1 (ansP s).2 w):=by
 have s1:=(Upd.refl (fun _=>False) w).alloc (.cells #[.slice none 0 0,.slice none 0 0] 26)
 have hk:=Blk.new w 26 #[.slice none 0 0,.slice none 0 0]
 have hrb:=h.ard.blk.same s1
 have p4:(w.alloc (.cells #[.slice none 0 0,.slice none 0 0] 26)).cell? ⟨r,4,none⟩=some (.int .i64 (s.state:Int)):=hrb.cell 4
 have p5:(w.alloc (.cells #[.slice none 0 0,.slice none 0 0] 26)).cell? ⟨r,5,none⟩=some (.slice gr.AN gr.nN gr.cN):=hrb.cell 5
 have p6:(w.alloc (.cells #[.slice none 0 0,.slice none 0 0] 26)).cell? ⟨r,6,none⟩=some (.slice gr.AR gr.nR gr.cR):=hrb.cell 6
 have p7:(w.alloc (.cells #[.slice none 0 0,.slice none 0 0] 26)).cell? ⟨r,7,none⟩=some (.int .i64 0):=hrb.cell 7
 have HA:=qH h
 have HK:=qH hk
 have HS:=qH s1
 have HRB:=qH hrb
 have hrl:=h.ard.blk.lt
 have hlt:w.heap.size<(w.alloc (.cells #[.slice none 0 0,.slice none 0 0] 26)).heap.size:=by rw [World.size_alloc];omega
 clear h hk s1 hrb
 generalize hq:ansP s=q
 have HQ:=qH hq
 clear hq
 go_enter Tryz.func26,Tryz.ntmps26
 go_upto_region 3 with fail
 generalize w.alloc (.cells #[.slice none 0 0,.slice none 0 0] 26)=w1 at *
 generalize hg0:w.heap.size=g0 at *
 have c0:w1.cell? ⟨g0,0,none⟩=some (.slice none 0 0):=HK.out.cell 0
 have c1:w1.cell? ⟨g0,1,none⟩=some (.slice none 0 0):=HK.out.cell 1
 have f0:=HK.out.frozen 0
 have f1:=HK.out.frozen 1
 by_cases h3:s.state=3
 case neg =>
  have q3:((s.state:Int) != 3)=true:=by rw [bne_iff_ne];omega
  have HQQ:Hid (q=(10,noG)):=qH (by rw [<- HQ.out];unfold ansP;rw [if_pos h3])
  have HK2:Hid (Blk ((w1.setCell ⟨g0,0,none⟩ (.slice none 0 0)).setCell ⟨g0,1,none⟩ (.slice none 0 0)) g0 26 #[.slice none 0 0,.slice none 0 0]):=qH ((HK.out.put 0 (.slice none 0 0)).put 1 (.slice none 0 0))
  have HS2:Hid (Same w ((w1.setCell ⟨g0,0,none⟩ (.slice none 0 0)).setCell ⟨g0,1,none⟩ (.slice none 0 0))):=qH (HS.out.trans (((Upd.refl (fun b=>b=g0) w1).put1 _).put1 _) fun b hb e=>by omega)
  clear h3
  go_wp2_with fail
  generalize (w1.setCell ⟨g0,0,none⟩ (.slice none 0 0)).setCell ⟨g0,1,none⟩ (.slice none 0 0)=w2 at *
  rw [HQQ.out]
  refine graph_end rfl rfl HK2.out ⟨⟨[],none,0,0,[],none,0,0⟩,rfl,rfl,OwnG.nil_ _ _,HS2.out⟩
 have q3:((s.state:Int) != 3)=false:=by rw [bne_eq_false_iff_eq];omega
 have hinv:=HA.out.inv h3
 have hib:=inv_bounds hinv
 have hsl:=HA.out.len
 have hgs:=own_sized (HA.out.ard.own.same HS.out) (by rw [HA.out.dat];exact hinv.1) (by rw [<- HA.out.dat] at hib;simp only [GR.dat,List.length_map] at hib;omega) (by rw [<- HA.out.dat] at hib;simp only [GR.dat,List.length_map] at hib;omega)
 obtain ⟨e,at_,hE⟩:∃ e at_,chkP gr.dat=(e,at_):=⟨_,_,rfl⟩
 have hrd:=(HA.out.ard.own.same HS.out).rd
 have HGS:=qH hgs
 have HRD:=qH hrd
 have HE:=qH hE
 have HCK:=qH (gcheckD_spec w1 gr hrd hgs hE)
 have H3:=qH h3
 clear hinv hib hsl hgs hrd hE h3
 go_wp2_with fail
 refine HCK.out.mono ?_
 rintro x w2 ⟨rfl,hs2⟩
 have HS2:=qH hs2
 have k2:=HK.out.same hs2
 have c20:w2.cell? ⟨g0,0,none⟩=some (.slice none 0 0):=k2.cell 0
 have c21:w2.cell? ⟨g0,1,none⟩=some (.slice none 0 0):=k2.cell 1
 have f20:=k2.frozen 0
 have f21:=k2.frozen 1
 have HK2:=qH k2
 by_cases he:e=0
 case neg =>
  have n0:(e != 0)=true:=by rw [bne_iff_ne];exact he
  have HQQ:Hid (q=(e,noG)):=qH (by
   rw [<- HQ.out]
   unfold ansP
   rw [if_neg (by simp [H3.out]),<-HA.out.dat,HE.out,if_pos he])
  have HK3:Hid (Blk ((w2.setCell ⟨g0,0,none⟩ (.slice none 0 0)).setCell ⟨g0,1,none⟩ (.slice none 0 0)) g0 26 #[.slice none 0 0,.slice none 0 0]):=qH ((k2.put 0 (.slice none 0 0)).put 1 (.slice none 0 0))
  have HS3:Hid (Same w ((w2.setCell ⟨g0,0,none⟩ (.slice none 0 0)).setCell ⟨g0,1,none⟩ (.slice none 0 0))):=qH ((HS.out.trans hs2 fun _ _ f=>f).trans (((Upd.refl (fun b=>b=g0) w2).put1 _).put1 _) fun b hb e=>by omega)
  clear he hs2 k2
  go_wp2_with fail
  generalize (w2.setCell ⟨g0,0,none⟩ (.slice none 0 0)).setCell ⟨g0,1,none⟩ (.slice none 0 0)=w3 at *
  rw [HQQ.out]
  refine graph_end rfl rfl HK3.out ⟨⟨[],none,0,0,[],none,0,0⟩,rfl,rfl,OwnG.nil_ _ _,HS3.out⟩
 have n0:(e != 0)=false:=by rw [bne_eq_false_iff_eq];exact he
 have hr2:=HRB.out.same hs2
 have p25:w2.cell? ⟨r,5,none⟩=some (.slice gr.AN gr.nN gr.cN):=hr2.cell 5
 have p26:w2.cell? ⟨r,6,none⟩=some (.slice gr.AR gr.nR gr.cR):=hr2.cell 6
 have HC:Hid ((chkP gr.dat).1=0):=qH (by rw [HE.out];exact he)
 have hcan:=(chkP_right HC.out (rd_fits HRD.out)).2
 have HQQ:Hid (q=(0,gr.dat)):=qH (by
  rw [<- HQ.out]
  unfold ansP
  rw [if_neg (by simp [H3.out]),<-HA.out.dat,if_neg (by simp [HC.out])])
 have HCan:=qH hcan
 have HCN:=qH (canonG_spec w2 gr (HRD.out.same hs2) HGS.out)
 clear he hs2 k2 hr2 hcan
 go_wp2_with fail
 refine HCN.out.mono ?_
 rintro x w3 ⟨⟨ns,A1,n1,m1,rs,A2,n2,m2⟩,rfl,HD,HO,-,hs3⟩
 have k3:=HK2.out.same hs3
 have c30:w3.cell? ⟨g0,0,none⟩=some (.slice none 0 0):=k3.cell 0
 have c31:w3.cell? ⟨g0,1,none⟩=some (.slice none 0 0):=k3.cell 1
 have f30:=k3.frozen 0
 have f31:=k3.frozen 1
 have HK3:Hid (Blk ((w3.setCell ⟨g0,0,none⟩ (.slice A1 n1 m1)).setCell ⟨g0,1,none⟩ (.slice A2 n2 m2)) g0 26 #[.slice A1 n1 m1,.slice A2 n2 m2]):=qH ((k3.put 0 (.slice A1 n1 m1)).put 1 (.slice A2 n2 m2))
 have hu3:=(((Upd.refl (fun b=>b=g0) w3).put1 (i:=0) (.slice A1 n1 m1)).put1 (i:=1) (.slice A2 n2 m2))
 have HS3:Hid (Same w ((w3.setCell ⟨g0,0,none⟩ (.slice A1 n1 m1)).setCell ⟨g0,1,none⟩ (.slice A2 n2 m2))):=qH (((HS.out.trans HS2.out fun _ _ f=>f).trans hs3 fun _ _ f=>f).trans hu3 fun b hb e=>by omega)
 have hsz2:=HS2.out.size
 have HO3:Hid (OwnG ((w3.setCell ⟨g0,0,none⟩ (.slice A1 n1 m1)).setCell ⟨g0,1,none⟩ (.slice A2 n2 m2)) w.heap.size ⟨ns,A1,n1,m1,rs,A2,n2,m2⟩):=qH (by
  have hT:∀ b,b<w3.heap.size->b=g0->OfT w3 26 b:=fun b _ e=>e ▸ ⟨_,k3⟩
  have h1:=HO.out.base (B':=w.heap.size) (by omega)
  exact ⟨h1.nodes.type hu3 hT (by decide) (by decide) (by decide) (by decide),h1.rels.type hu3 hT (by decide) (by decide) (by decide) (by decide)⟩)
 clear k3 hs3 hu3
 go_wp2_with fail
 generalize (w3.setCell ⟨g0,0,none⟩ (.slice A1 n1 m1)).setCell ⟨g0,1,none⟩ (.slice A2 n2 m2)=w4 at *
 rw [HQQ.out]
 refine graph_end rfl rfl HK3.out ⟨⟨ns,A1,n1,m1,rs,A2,n2,m2⟩,rfl,by rw [HD.out];exact HCan.out,HO3.out,HS3.out⟩
theorem read_end {tmps:Array Value} {W:World} {g:Nat} {v0 v1 v2:Value} {R:Ending->World->Prop} (h2:tmps.getD 2 undef=.pointer (some ⟨g,0,none⟩)) (h3:tmps.getD 3 undef=v2) (hb:Blk W g 26 #[v0,v1])
 (hR:R (.returned (.tuple #[.agg #[v0,v1],v2])) W) :
 bodyPost Tryz.prog Tryz.f21 R Exit.ret { tmps:=tmps,defers:=[] } W:=by
 have c0:=hb.cell 0
 have c1:=hb.cell 1
 refine bodyPost_ret (v:=.tuple #[.agg #[v0,v1],v2]) ?_ rfl hR
 simp only [Array.getD_eq_getD_getElem?] at h2 h3
 simp [results,Tryz.results21,go_sem,h2,h3,c0,c1]
noncomputable def readP (bs:List UInt8):Int×GGraph:=match fedP bs with
 | .error e=>(e,noG)
 | .ok s=>ansP s
theorem aread_spec {F:Nat->Prop} {A:Option Addr} {n c:Nat} {bs:List UInt8} (w:World) (hb:Bytes w F A n c bs) (hN:Nib w) :
 Calls Tryz.prog 21 #[.slice A n c] w (GraphR (readP bs).1 (readP bs).2 w):=by
 have hs0:=(Upd.refl (fun _=>False) w).alloc (.cells #[.slice none 0 0,.slice none 0 0] 26)
 have HK:=qH (Blk.new w 26 #[.slice none 0 0,.slice none 0 0])
 have HY:=qH ((hb.mono (F':=fun b=>b<w.heap.size) fun b h _=>h).same hs0)
 have HN:=qH (hN.same hs0)
 have HS:=qH hs0
 have hnb:=hN.1
 have hlt:w.heap.size<(w.alloc (.cells #[.slice none 0 0,.slice none 0 0] 26)).heap.size:=by rw [World.size_alloc];omega
 generalize hq:readP bs=q
 have HQ:=qH hq
 clear hb hN hs0 hq
 go_enter Tryz.func21,Tryz.ntmps21
 go_upto_region 1 with fail
 generalize w.alloc (.cells #[.slice none 0 0,.slice none 0 0] 26)=w1 at *
 go_wp2_with fail
 refine (ardNew_spec w1).mono ?_
 rintro e w2 ⟨r,fr,d,rfl,hok,hs2⟩
 have HF:=qH (ardFeed_spec (b:=[]) (B:=w1.heap.size) w2 hok (HY.out.same hs2) (fun g hg hS=>by
  have h1:=hok.ard.br
  have h2:=hok.ard.bd
  have h3:=hok.ard.fin.base
  rcases hS with (e | e | ⟨-,e⟩) | e | e | e | e
  · omega
  · omega
  · omega
  · omega
  · cases e
  · cases e
  cases e) (HN.out.same hs2) (by omega))
 have hbr:=hok.ard.br
 have hbd:=hok.ard.bd
 have hbf:=hok.ard.fin.base
 have HS2:=qH (HS.out.trans hs2 fun _ _ f=>f)
 have HK2:=qH (HK.out.same hs2)
 clear hok hs2
 go_wp2_with fail
 refine HF.out.mono ?_
 rintro e w3 ⟨hu3,hres⟩
 have HS3:Hid (Same w w3):=qH (HS2.out.trans hu3 fun g hg hS=>by
  rcases hS with (e | e | ⟨-,e⟩) | e | e | e | e
  · omega
  · omega
  · omega
  · omega
  · cases e
  · cases e
  cases e)
 have hk3:=HK2.out.upd hu3 (fun hS=>by
  rcases hS with (e | e | ⟨-,e⟩) | e | e | e | e
  · omega
  · omega
  · omega
  · omega
  · cases e
  · cases e
  cases e)
 have HK3:=qH hk3
 have HG:Hid (Calls Tryz.prog 26 #[.pointer (some ⟨r,0,none⟩)] w3 (GraphR q.1 q.2 w3)):=qH (by
  rcases hres with ⟨er,a0,a1,a2,a3,a4,a5,a6,hne,htk,-,hk⟩ | ⟨s',vf',v1',v2',gr',-,hok,-⟩
  · have h1:=ardGraph_err w3 hk hne
    rw [<- HQ.out]
    unfold readP
    rw [List.nil_append] at htk
    rw [htk]
    exact h1
  have h1:=ardGraph_spec w3 hok
  have h2:=hok.ok
  rw [List.nil_append] at h2
  rw [<- HQ.out]
  unfold readP
  rw [h2]
  exact h1)
 have he:∃ er:Int,e=.returned (.int .i64 er):=by
  rcases hres with ⟨er,a0,a1,a2,a3,a4,a5,a6,hne,htk,h,hk⟩ | ⟨s',vf',v1',v2',gr',h,hok,-⟩
  · exact ⟨_,h⟩
  exact ⟨_,h⟩
 obtain ⟨er,rfl⟩:=he
 clear hres hu3 hk3
 go_wp2_with fail
 refine HG.out.mono ?_
 rintro e w4 ⟨⟨ns,A1,n1,m1,rs,A2,n2,m2⟩,rfl,hD,hO,hs4⟩
 have hz3:=HS3.out.size
 have k4:=HK3.out.same hs4
 generalize hg0:w.heap.size=g0 at *
 have c40:w4.cell? ⟨g0,0,none⟩=some (.slice none 0 0):=k4.cell 0
 have c41:w4.cell? ⟨g0,1,none⟩=some (.slice none 0 0):=k4.cell 1
 have f40:=k4.frozen 0
 have f41:=k4.frozen 1
 have HK4:Hid (Blk ((w4.setCell ⟨g0,0,none⟩ (.slice A1 n1 m1)).setCell ⟨g0,1,none⟩ (.slice A2 n2 m2)) g0 26 #[.slice A1 n1 m1,.slice A2 n2 m2]):=qH ((k4.put 0 (.slice A1 n1 m1)).put 1 (.slice A2 n2 m2))
 have hu4:=(((Upd.refl (fun b=>b=g0) w4).put1 (i:=0) (.slice A1 n1 m1)).put1 (i:=1) (.slice A2 n2 m2))
 have HS4:Hid (Same w ((w4.setCell ⟨g0,0,none⟩ (.slice A1 n1 m1)).setCell ⟨g0,1,none⟩ (.slice A2 n2 m2))):=qH ((HS3.out.trans hs4 fun _ _ f=>f).trans hu4 fun b hb e=>by omega)
 have HO4:Hid (OwnG ((w4.setCell ⟨g0,0,none⟩ (.slice A1 n1 m1)).setCell ⟨g0,1,none⟩ (.slice A2 n2 m2)) w.heap.size ⟨ns,A1,n1,m1,rs,A2,n2,m2⟩):=qH (by
  have hT:∀ b,b<w4.heap.size->b=g0->OfT w4 26 b:=fun b _ e=>e ▸ ⟨_,k4⟩
  have h1:=hO.base (B':=w.heap.size) (by omega)
  exact ⟨h1.nodes.type hu4 hT (by decide) (by decide) (by decide) (by decide),h1.rels.type hu4 hT (by decide) (by decide) (by decide) (by decide)⟩)
 have HD:=qH hD
 clear k4 hu4 hs4 hO hD
 go_wp2_with fail
 generalize (w4.setCell ⟨g0,0,none⟩ (.slice A1 n1 m1)).setCell ⟨g0,1,none⟩ (.slice A2 n2 m2)=w5 at *
 refine read_end rfl rfl HK4.out ⟨⟨ns,A1,n1,m1,rs,A2,n2,m2⟩,rfl,HD.out,HO4.out,HS4.out⟩
def Cur (w:World) (F:Nat->Prop) (r:Nat) (b:List UInt8) (s:RS):Prop :=
 ∃ A n c at_ bad,Blk w r 179 #[.slice A n c,.int .i64 ((at_:Nat):Int),.bool bad]/\Bytes w F A n c b/\at_<=n/\bad=decide (s.err≠0)/\(s.err=0->s.left=b.drop at_)
theorem Cur.upd {w w':World} {F S:Nat->Prop} {r:Nat} {b:List UInt8} {s:RS} (h:Cur w F r b s) (hu:Upd S w w') (hr:¬ S r) (hf:∀ b,F b->¬ S b):Cur w' F r b s:=by
 obtain ⟨A,n,c,a,d,h1,h2,h3⟩:=h
 exact ⟨A,n,c,a,d,h1.upd hu hr,h2.upd hu hf,h3⟩
theorem Cur.same {w w':World} {F:Nat->Prop} {r:Nat} {b:List UInt8} {s:RS} (h:Cur w F r b s) (hu:Same w w'):Cur w' F r b s:=h.upd hu (fun f=>f) fun _ _ f=>f
theorem Cur.narrow {w:World} {F:Nat->Prop} {r:Nat} {b:List UInt8} {s:RS} (h:Cur w F r b s):Cur w (fun b=>F b/\b<w.heap.size) r b s:=by
 obtain ⟨A,n,c,a,d,h1,h2,h3⟩:=h
 exact ⟨A,n,c,a,d,h1,Row.mono h2 fun b h1 h2=>⟨h2,h1⟩,h3⟩
theorem Cur.lt {w:World} {F:Nat->Prop} {r:Nat} {b:List UInt8} {s:RS} (h:Cur w F r b s):r<w.heap.size:=by
 obtain ⟨A,n,c,a,d,h1,h2,h3⟩:=h
 exact h1.lt
theorem OwnFs.at_ {w:World} {B:Nat} {A:Option Addr} {n c:Nat} {fs:List FR} (h:OwnFs w B (.slice A n c) fs) (hl:fs.length=n) {i:Nat} (hi:i<n):∃ b o x,A=some ⟨b,o,none⟩/\b<w.heap.size/\fs[i]?=some x/\x∈fs /\
 w.cell? ⟨b,o+i*2,none⟩=some (.int .i64 (x.type:Int))/\w.cell? ⟨b,o+i*2+1,none⟩=some (.slice x.A x.n x.c):=by
 have hr:=h.row
 rw [hl] at hr
 obtain ⟨b,o,x,hA,hb,_,hx,hm,hc⟩:=(own_rdK hr).atF FR.two (by omega) hi
 exact ⟨b,o,x,hA,hb,hx,hm,hc 0 _ rfl,hc 1 _ rfl⟩
theorem fr_drop {l:List FR} {i:Nat} {x:FR} (h:l[i]?=some x):l.drop i=x::l.drop (i+1):=by
 obtain ⟨h1,h2⟩:=List.getElem?_eq_some_iff.1 h
 rw [List.drop_eq_getElem_cons h1,h2]
theorem own_type2 {w w1:World} {g B base k n:Nat} {t e e1:TypeId} {cs:Array Value} {v:Value} {xs:List Value} (h:w.ownsRow base e k v n xs) (kb:Blk w g t cs) (hu:Upd (fun b=>b=g\/(OfT w e1 b/\B<=b)) w w1) (h1:e≠t) (h2:e≠e1):w1.ownsRow base e k v n xs :=
 own_upd h hu fun b hb hS=>by
  have ho:=own_ofT h hb
  rcases hS with rfl | ⟨hS,_⟩
  · exact h1 (OfT.ne ho ⟨_,kb⟩)
  exact h2 (OfT.ne ho hS)
theorem OwnFs.grown {w w1:World} {g B base:Nat} {t e1:TypeId} {cs:Array Value} {v:Value} {fs:List FR} (h:OwnFs w base v fs) (kb:Blk w g t cs) (hu:Upd (fun b=>b=g\/(OfT w e1 b/\B<=b)) w w1) (h1:84≠t) (h2:84≠e1) (h3:5≠t) (h4:5≠e1):OwnFs w1 base v fs :=
 ⟨own_type2 h.row kb hu h1 h2,fun x hx=>⟨own_type2 (h.each x hx).row kb hu h3 h4,(h.each x hx).ty,(h.each x hx).len,(h.each x hx).max⟩⟩
def packsP (fs:List FR):List UInt8:=(fs.map fun x=>packP x.type x.data).flatten
theorem packsP_cons (x:FR) (fs:List FR):packsP (x::fs)=packP x.type x.data++packsP fs:=by unfold packsP;simp
structure StR (bs:List UInt8) (er:Int) (fs:List FR) (rest:List UInt8) (i at_:Nat) (g:GGraph):Prop where
 eq:stepsP bs=stepsL bs er ((fs.drop i).map FR.dat) (i==0) g at_
 inv:∃ st,InvP ⟨st,g,bs.take at_⟩/\(st=0↔i=0)/\st≠3/\(st=2->0<g.rels.length)
 left:bs.drop at_=packsP (fs.drop i)++rest
theorem StR.next {bs:List UInt8} {er:Int} {fs:List FR} {rest:List UInt8} {i at_:Nat} {g:GGraph} (h:StR bs er fs rest i at_ g) {x:FR} (hx:fs[i]?=some x) (ha:at_<=bs.length) :
 at_+(x.data.length+9)<=bs.length/\bs.drop (at_+(x.data.length+9))=packsP (fs.drop (i+1))++rest/\bs.take (at_+(x.data.length+9))=bs.take at_++packP x.type x.data:=by
 have h1:=h.left
 rw [fr_drop hx,packsP_cons,List.append_assoc] at h1
 have hl:(packP x.type x.data).length=x.data.length+9:=packP_len _ _
 have h2:at_+(x.data.length+9)<=bs.length:=by
  have:=congrArg List.length h1
  rw [List.length_drop,List.length_append,hl] at this
  omega
 refine ⟨h2,?_,?_⟩
 · rw [<- List.drop_drop,h1,<-hl,List.drop_left]
 rw [List.take_add,h1,<-hl,List.take_left]
noncomputable def pcsP (g:GGraph):List (List UInt8):=if (chkP g).1=0 then piecesP g else []
theorem chk_noG:(chkP noG).1=0:=by
 have h:∀ k,(namesC noG k).length=0:=fun k=>by
  have h1:=(namesC_srt noG k).mem
  have h2:allNames noG k=[]:=by
   unfold allNames noG
   by_cases h1:k=1
   · rw [if_pos h1];rfl
   rw [if_neg h1]
   by_cases h2:k=2
   · rw [if_pos h2];rfl
   rw [if_neg h2]
   by_cases h3:k=3
   · rw [if_pos h3];rfl
   rw [if_neg h3]
  rw [h2] at h1
  cases hx:namesC noG k with
  | nil=>rfl
  | cons a l=>exact absurd ((h1 a).1 (by rw [hx];simp)) (by simp)
 unfold chkP fullErr
 rw [h 1,h 2,h 3]
 rfl
theorem right_noG:RightD noG:=(chkP_right chk_noG ⟨by simp [noG],by simp [noG]⟩).1
theorem arc_noG:(arcP noG).length=44/\(arcP noG).take 15=[83,65,84,67,72,69,76,49,1,0,0,0,2,0,1]:=by
 have e:(headP noG).flatten=magicP++packP 1 [0,1]:=by simp [headP,noG]
 refine ⟨?_,?_⟩
 · rw [arcP_split,List.length_append,tailP_len,e,List.length_append,packP_len]
   rfl
 rw [arcP_split,e]
 have e2:packP 1 [0,1]=[1,0,0,0,2,0,1]++(packP 1 [0,1]).drop 7:=rfl
 rw [e2]
 rfl
theorem fed_cut {g:GGraph} (h:RightD g) {k:Nat} (hk:k<25):∃ s,fedP ((headP g).flatten++(tailP g).take k)=.ok s/\s.state≠3:=by
 have hl:((tailP g).take k).length=k:=by rw [List.length_take,tailP_len];omega
 have h1:oneP ((tailP g).take k)=.ok none:=by
  unfold oneP
  by_cases h5:k<5
  · rw [if_pos (by omega)]
  rw [if_neg (by omega)]
  have e:(((tailP g).take k).drop 1).take 4=((tailP g).drop 1).take 4:=by
   rw [List.drop_take,List.take_take,Nat.min_eq_left (by omega)]
  have h2:be (((tailP g).drop 1).take 4)=16:=by
   have h3:tailP g=beb 1 4++(beb 4 16++(trailP g.nodes.length g.rels.length g.wt (headP g).flatten++beb 4 (crcS (packH 4 (trailP g.nodes.length g.rels.length g.wt (headP g).flatten))).toNat)):=by
    unfold tailP packP
    generalize beb 4 (crcS (packH 4 (trailP g.nodes.length g.rels.length g.wt (headP g).flatten))).toNat=z
    unfold packH
    rw [trailP_len]
    simp only [List.append_assoc]
   have h4:(beb 1 4).length=1:=beb_len 1 4
   have h5:(beb 4 16).length=4:=beb_len 4 16
   rw [h3,List.drop_append_of_le_length (by omega),List.drop_of_length_le (by omega),List.nil_append,List.take_append_of_le_length (by omega),List.take_of_length_le (by omega),be_beb]
  rw [e,h2,if_neg (by omega),if_pos (by omega)]
 have h8:8<=(headP g).flatten.length:=by rw [headP,List.flatten_cons,List.length_append,magic_len];omega
 have hm:((headP g).flatten++(tailP g).take k).take 8=magicP:=by
  rw [headP,List.flatten_cons,List.append_assoc,<-magic_len,List.take_left]
 have hle:((headP g).flatten++(tailP g).take k).length<=16777216:=by
  have:=h.head_len
  rw [List.length_append,hl]
  omega
 have hf:=frames_head h ((tailP g).take k)
 rw [framesP_none h1] at hf
 obtain ⟨st,hst,ht⟩:=takes_head h []
 refine ⟨⟨st,g,(headP g).flatten⟩,?_,by rcases hst with rfl | rfl <;> simp⟩
 unfold fedP
 rw [if_neg (by omega),if_neg (by rw [List.length_append];omega),if_neg (by simp [hm]),hf]
 simp only [ht]
 have e1:takesP [] ⟨st,g,(headP g).flatten⟩=.ok ⟨st,g,(headP g).flatten⟩:=rfl
 rw [e1]
 have e2:st≠3:=by rcases hst with rfl | rfl <;> decide
 simp [e2]
theorem read_noG:readP (arcP noG)=(0,noG)/\readP ((arcP noG).take 43)=(10,noG):=by
 constructor
 · unfold readP
   rw [fedP_arc right_noG]
   simp only
   unfold ansP
   rw [if_neg (by simp),if_neg (by simp [chk_noG])]
 have e:(headP noG).flatten++(tailP noG).take 24=(arcP noG).take 43:=by
  have h1:(headP noG).flatten.length=19:=by
   have e:(headP noG).flatten=magicP++packP 1 [0,1]:=by simp [headP,noG]
   rw [e,List.length_append,packP_len]
   rfl
  rw [arcP_split,List.take_append,h1,List.take_of_length_le (l:=(headP noG).flatten) (by omega)]
 obtain ⟨s,h1,h2⟩:=fed_cut right_noG (k:=24) (by omega)
 rw [e] at h1
 unfold readP
 rw [h1]
 simp only
 unfold ansP
 rw [if_pos h2]
theorem feed_two:fedP ([]++[83,65,84,67,72,69,76,50])=.error 90:=fedP_magic (by simp) (by simp) (by decide)
theorem emptyG (w:World):RdG w (fun b=>b<w.heap.size) ⟨[],none,0,0,[],none,0,0⟩:=((OwnG.nil_ w w.heap.size).rd).mono fun _ hb _=>hb
theorem sizedE:GSized ⟨[],none,0,0,[],none,0,0⟩:=⟨by simp,by simp,by simp,by simp⟩
theorem AOk.same {w w':World} {B r fr d:Nat} {vf v1 v2:Value} {gr:GR} {fed:Nat} {b:List UInt8} {s:PSt} (h:AOk w B r fr d vf v1 v2 gr fed b s) (hu:Same w w'):AOk w' B r fr d vf v1 v2 gr fed b s:=⟨h.ard.same hu,h.dat,h.ok⟩
theorem AOk.ge {w wL:World} {B r fr d:Nat} {vf v1 v2:Value} {gr:GR} {fed:Nat} {b:List UInt8} {s:PSt} (h:AOk w B r fr d vf v1 v2 gr fed b s) {g:Nat} (hg:FSet wL B r fr d vf v1 v2 g):B<=g:=by
 rcases hg with h2 | h2 | h2 | h2 | h2
 · rcases h2 with h2 | h2 | ⟨_,h2⟩
   · have:=h.ard.br;omega
   · have:=h.ard.bd;omega
   exact h2
 · have:=h.ard.fin.base;omega
 · exact (h.ard.fst.lt g h2).1
 · exact (Off.lt h.ard.fin.orest g h2).1
 exact (Off.lt h.ard.fin.oready g h2).1
theorem AOk.fresh {w wL:World} {B r fr d:Nat} {vf v1 v2:Value} {gr:GR} {fed:Nat} {b:List UInt8} {s:PSt} (h:AOk w B r fr d vf v1 v2 gr fed b s) {g:Nat} (hg:TyB wL w.heap.size g):¬ FSet wL B r fr d vf v1 v2 g:=by
 have h1:=hg.1
 rintro (h2 | h2 | h2 | h2 | h2)
 · rcases h2 with h2 | h2 | ⟨h2 | h2,_⟩
   · have:=h.ard.blk.lt;omega
   · have:=Blk.lt h.ard.dig;omega
   · exact absurd (hg.ne h2) (by decide)
   exact absurd (hg.ne h2) (by decide)
 · have:=h.ard.fin.blk.lt;omega
 · have:=(h.ard.fst.lt g h2).2;omega
 · have:=(Off.lt h.ard.fin.orest g h2).2;omega
 have:=(Off.lt h.ard.fin.oready g h2).2;omega
theorem speaksA_spec (w:World) (hN:Nib w):Calls Tryz.prog 12 #[] w fun e w'=>e=.returned (.bool true)/\Same w w':=by
 have HN:=qH hN
 have HW:=qH (writeF_spec w ⟨[],none,0,0,[],none,0,0⟩ (emptyG w) sizedE hN)
 clear hN
 go_enter Tryz.func12,Tryz.ntmps12
 go_wp2_with fail
 refine HW.out.mono ?_
 rintro e w1 ⟨v,rfl,hs1,-,hF⟩
 have h0:(chkP (GR.dat ⟨[],none,0,0,[],none,0,0⟩)).1=0:=chk_noG
 have hFr:Lib.FreshBytes w.heap.size w1 v (arcP noG):=hF h0
 rw [h0]
 obtain ⟨A,c,rfl,hby⟩:=fresh_bytes hFr (by rw [arc_noG.1];omega)
 rw [arc_noG.1] at hby ⊢
 have HB:=qH hby
 have HS1:=qH hs1
 have hcv:(convert 28 9 (.slice A 15 c)).run Tryz.prog w1=.ok (.string { data:=#[83,65,84,67,72,69,76,49,1,0,0,0,2,0,1] }) w1:=by
  have h1:=conv_bytes (hby.head (m:=15) (by omega))
  rw [arc_noG.2] at h1
  exact h1
 have hle:44<=c:=Row.le hby
 clear hF hFr h0 hby hs1 HW
 go_wp2_with fail
 refine (aread_spec w1 HB.out (HN.out.same HS1.out)).mono ?_
 rintro e w2 ⟨g2,rfl,-,-,hs2⟩
 rw [read_noG.1]
 have HB2:=qH (HB.out.same hs2)
 have HS2:=qH (HS1.out.trans hs2 fun _ _ f=>f)
 clear hs2 hcv
 go_wp2_with fail
 have hb3:Bytes w2 (fun b=>w.heap.size<=b) A 43 c ((arcP noG).take 43):=HB2.out.head (by omega)
 refine (aread_spec w2 hb3 (HN.out.same HS2.out)).mono ?_
 rintro e w3 ⟨g3,rfl,-,-,hs3⟩
 rw [read_noG.2]
 have hs4:=(HS2.out.trans hs3 fun _ _ f=>f).alloc (.cells #[.slice g3.AN g3.nN g3.cN,.slice g3.AR g3.nR g3.cR] 26)
 have HS4:=qH hs4
 clear hs3 hb3 hs4
 go_upto_region 6 with fail
 generalize w3.alloc (.cells #[.slice g3.AN g3.nN g3.cN,.slice g3.AR g3.nR g3.cR] 26)=w4 at *
 go_wp2_with fail
 refine (ardNew_spec w4).mono ?_
 rintro e w5 ⟨r,fr,d,rfl,hA5,hs5⟩
 have HS5:=qH (HS4.out.trans hs5 fun _ _ f=>f)
 have HA5:=qH hA5
 clear hA5 hs5
 have kc:=fun (w:World) (C:Array Value) (n c:Nat)=>Lib.run_convert_bytes_const (P:=Tryz.prog) w 28 5 C n c Tryz.underlying28 Tryz.underlying5
 have sL:=(Upd.refl (fun _=>False) w5).alloc (.cells #[.int .u8 83,.int .u8 65,.int .u8 84,.int .u8 67,.int .u8 72,.int .u8 69,.int .u8 76,.int .u8 50] 5 (8,9))
 have hM:OwnBs1 (w5.alloc (.cells #[.int .u8 83,.int .u8 65,.int .u8 84,.int .u8 67,.int .u8 72,.int .u8 69,.int .u8 76,.int .u8 50] 5 (8,9))) w5.heap.size ⟨[83,65,84,67,72,69,76,50],some ⟨w5.heap.size,0,none⟩,8,8⟩ :=
  OwnBs1.lit w5 (Nat.le_refl _) [83,65,84,67,72,69,76,50] rfl
 have HF:=qH (ardFeed_spec (b:=[]) _ (HA5.out.same sL) hM (fun g hg=>HA5.out.fresh hg) ((HN.out.same HS5.out).same sL) (by have h1:=HN.out.1;have:=HS4.out.size;omega))
 have HSL:=qH sL
 clear hM sL
 go_wp2_with fail
 refine HF.out.mono ?_
 rintro e w7 ⟨hu,h⟩
 have hS:Same w w7:=((HS5.out.trans HSL.out fun _ _ f=>f).trans hu fun b hb hs=>by have:=HA5.out.ge hs;have:=HS4.out.size;omega)
 have HSS:=qH hS
 clear hS hu
 rcases h with ⟨er,a0,a1,a2,a3,a4,a5,a6,-,he,rfl,-⟩ | ⟨s',_,_,_,_,_,hA,_⟩
 · have e9:er=90:=by
    have h1:=feed_two.symm.trans he
    injection h1 with h1
    exact h1.symm
   subst e9
   clear he
   go_wp2
   go_ret
   exact ⟨rfl,HSS.out⟩
 have h1:=feed_two.symm.trans hA.ok
 cases h1
end Go.Proofs.YtkopcinhbjimiaaGreatDoor
namespace Go.Proofs.YtkopcinhbjimiaaGreatDoor
open Go.ChangeShapes Go.WideShapes Go.ChangeAt Go.RowKit
abbrev laidT:List (String×DataW Unit):=[("satchel/crc.nibble", Rows.laid_satchel_crc_nibble)]
theorem door_met (os:Os) (args:Array Value):laidMetH Tryz.prog laidT ((World.doorLaid Tryz.prog 400 os).forCall (fun _ _=>0) ⟨#[],args,[]⟩).memory :=
 laidMetH_of_parts3 (fuel:=8) (laidMet_of_run' 8 (by kernel_rfl) (by kernel_rfl)) (by kernel_rfl) (by kernel_rfl)
theorem nib_num:∀ i:Fin 16,(match (Rows.laid_satchel_crc_nibble:DataW Unit) with | .agg l=>l[i.val]? | _=>none)=(crcT[i.val]?).map fun t=>.lit (.int .u32 (t.toNat:Int)):=fun i=>by
 obtain ⟨i,hi⟩:=i
 rcases i with _ | _ | _ | _ | _ | _ | _ | _ | _ | _ | _ | _ | _ | _ | _ | _ | i
 all_goals first | rfl | omega
theorem nib_of_laid {W:World} (h:laidMetH Tryz.prog laidT W):Nib W:=by
 rw [MakeChecks.laidMetH_plain _ _ _ (by kernel_rfl)] at h
 obtain ⟨ps,⟨g0,t0,cs0,f0,p0,q0,hg0,ht0,hv0,hd0,_,_⟩,_,_⟩:=h
 obtain rfl:=Option.some.inj ((show Tryz.prog.globalNamed "satchel/crc.nibble" = some 1 by kernel_rfl).symm.trans hg0)
 obtain rfl:=Option.some.inj ((show (Tryz.prog.globals[1]?).map (·.type)=some 169 by kernel_rfl).symm.trans ht0)
 obtain ⟨xs,m1,rfl,hx1,hlen,hn3,hel⟩:=DataW.trod_array Tryz.underlying169 hd0
 have c3:Tryz.prog.cellsOf 87=1:=by kernel_rfl
 have c24:Tryz.prog.cellsOf 169=16:=by kernel_rfl
 rw [c24] at hlen
 simp only [Prod.mk.injEq] at hx1
 have hcell:∀ i,W.cell? ⟨1,i,none⟩=cs0[i]?:=fun i=>World.var?_cell hg0 hv0 i
 have hat:∀ (i:Nat) (t:BitVec 32),crcT[i]?=some t->W.cell? ⟨1,i,none⟩=some (.int .u32 (t.toNat:Int)):=fun i t ht=>by
  have hi:i<16:=(Array.getElem?_eq_some_iff.1 ht).1
  have h1:=hel i hi
  rw [c3,Nat.mul_one,List.getElem?_eq_getElem (by omega)] at h1
  obtain ⟨k,e1,e2,_⟩:=DataW.trod_int Tryz.underlying87 h1
  have h2:=nib_num ⟨i,hi⟩
  simp only [ht,Option.map_some] at h2
  have h3:(Rows.laid_satchel_crc_nibble:DataW Unit)=.agg (xs.map (·.1)):=hx1.1
  rw [h3] at h2
  simp only [List.getElem?_map,List.getElem?_eq_getElem (show i<xs.length by omega),Option.map_some,e2,Option.some.injEq,DataW.lit.injEq,Lit.int.injEq,true_and] at h2
  subst h2
  rw [hcell]
  have h4:(cs0.toList.drop i).take 1=[cs0.toList[i]'(by omega)]:=by
   rw [List.take_one,List.head?_drop,List.getElem?_eq_getElem (by omega)]
   rfl
  rw [h4] at e1
  have h5:cs0.toList[i]?=some (.int .u32 (t.toNat:Int)):=by
   rw [List.getElem?_eq_getElem (by omega)]
   exact congrArg some (List.cons.inj e1).1
  rw [<- Array.getElem?_toList]
  exact h5
 refine ⟨?_,hat⟩
 have h0:=hat 0 _ rfl
 exact block_lt_of_cell h0
end Go.Proofs.YtkopcinhbjimiaaGreatDoor
