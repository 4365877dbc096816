/- Texts that the claim leans on: walks and plain laws, function by function. -/
import Derived.Test.YtkopcinhbjimiaaGreatDoorS32
set_option maxRecDepth 100000
set_option maxHeartbeats 16000000
namespace Go.Proofs.YtkopcinhbjimiaaGreatDoor
open Go.RowKit
theorem AOk.inv {w:World} {B r fr d:Nat} {vf v1 v2:Value} {gr:GR} {fed:Nat} {b:List UInt8} {s:PSt} (h:AOk w B r fr d vf v1 v2 gr fed b s) (h3:s.state=3):InvP s:=by
 have h1:=h.ok
 by_cases h8:8<=b.length
 · obtain ⟨-,-,-,ht,-⟩:=Zit h1 h8
   exact Zfl _ _ _ InvP.start ht
 rw [ZdU (by omega)] at h1
 injection h1 with h1
 rw [<- h1] at h3
 cases h3
theorem AOk.len {w:World} {B r fr d:Nat} {vf v1 v2:Value} {gr:GR} {fed:Nat} {b:List UInt8} {s:PSt} (h:AOk w B r fr d vf v1 v2 gr fed b s):s.all.length<=16777216:=by
 have hall:=congrArg List.length (Ziu h.ok)
 rw [List.length_append] at hall
 by_cases h1:b.length<=16777216
 · omega
 have h2:=h.ok
 rw [ZeN (by omega)] at h2
 cases h2
noncomputable def ansP (s:PSt):Int×Zak:=if s.state≠3 then (10,noG) else if (chkP s.g).1≠0 then ((chkP s.g).1,noG) else (0,s.g)
theorem ZeR {tmps:Array Value} {W:World} {g:Nat} {v0 v1 v2:Value} {R:Ending->World->Prop} (h2:tmps.getD 2 undef=.pointer (some ⟨g,0,none⟩)) (h3:tmps.getD 3 undef=v2) (hb:Blk W g 26 #[v0,v1])
 (hR:R (.returned (.tuple #[.agg #[v0,v1],v2])) W) :
 bodyPost Tryz.prog Tryz.f26 R Exit.ret { tmps:=tmps,defers:=[] } W:=by
 have c0:=hb.cell 0
 have c1:=hb.cell 1
 refine bodyPost_ret (v:=.tuple #[.agg #[v0,v1],v2]) ?_ rfl hR
 simp only [Array.getD_eq_getD_getElem?] at h2 h3
 simp [results,Tryz.results26,go_sem,h2,h3,c0,c1]
def ZlO (er:Int) (G:Zak) (w:World) (e:Ending) (w':World):Prop :=
 ∃ g:GR,e=.returned (.tuple #[.agg #[.slice g.AN g.nN g.cN,.slice g.AR g.nR g.cR],.int .i64 er])/\g.dat=G/\OwnG w' w.heap.size g/\Same w w'
theorem ZjL {r:Nat} {a0 a1 a2 a3 a4 a5 a6:Value} {er:Int} (w:World) (h:Blk w r 97 #[a0,a1,a2,a3,a4,a5,a6,.int .i64 er]) (hne:er≠0) :
 Calls Tryz.prog 26 #[.pointer (some ⟨r,0,none⟩)] w (ZlO er noG w):=by
 have n0:(er != 0)=true:=by rw [bne_iff_ne];exact hne
 have s1:=(Upd.refl (fun _=>False) w).alloc (.cells #[.slice none 0 0,.slice none 0 0] 26)
 have hk:=Blk.new w 26 #[.slice none 0 0,.slice none 0 0]
 have p7:(w.alloc (.cells #[.slice none 0 0,.slice none 0 0] 26)).cell? ⟨r,7,none⟩=some (.int .i64 er):=(h.same s1).cell 7
 have HK:=qH hk
 have HS:=qH s1
 have hrl:=h.lt
 have hlt:w.heap.size<(w.alloc (.cells #[.slice none 0 0,.slice none 0 0] 26)).heap.size:=by rw [World.size_alloc];omega
 clear h hne hk s1
 go_enter Tryz.func26,Tryz.ntmps26
 go_upto_region 2 with fail
 generalize w.alloc (.cells #[.slice none 0 0,.slice none 0 0] 26)=w1 at *
 generalize hg0:w.heap.size=g0 at *
 have hne:r≠g0:=by omega
 have hne2:g0≠r:=by omega
 have c0:w1.cell? ⟨g0,0,none⟩=some (.slice none 0 0):=HK.out.cell 0
 have c1:w1.cell? ⟨g0,1,none⟩=some (.slice none 0 0):=HK.out.cell 1
 have f0:=HK.out.frozen 0
 have f1:=HK.out.frozen 1
 have hk2:=((HK.out.put 0 (.slice none 0 0)).put 1 (.slice none 0 0)).same ((Upd.refl (fun _=>False) _).drew)
 have HK2:Hid (Blk ((w1.setCell ⟨g0,0,none⟩ (.slice none 0 0)).setCell ⟨g0,1,none⟩ (.slice none 0 0)).drew g0 26 #[.slice none 0 0,.slice none 0 0]):=qH hk2
 have HS2:Hid (Same w ((w1.setCell ⟨g0,0,none⟩ (.slice none 0 0)).setCell ⟨g0,1,none⟩ (.slice none 0 0)).drew):=qH (HS.out.trans ((((Upd.refl (fun b=>b=g0) w1).put1 _).put1 _).drew) fun b hb e=>by omega)
 clear hk2
 go_region
 generalize ((w1.setCell ⟨g0,0,none⟩ (.slice none 0 0)).setCell ⟨g0,1,none⟩ (.slice none 0 0)).drew=w2 at *
 go_wp2_with fail
 refine ZeR rfl rfl HK2.out ⟨⟨[],none,0,0,[],none,0,0⟩,rfl,rfl,OwnG.nil_ _ _,HS2.out⟩
theorem Zdn {B r fr d:Nat} {vf v1 v2:Value} {gr:GR} {fed:Nat} {b:List UInt8} {s:PSt} (w:World) (h:AOk w B r fr d vf v1 v2 gr fed b s) :
 Calls Tryz.prog 26 #[.pointer (some ⟨r,0,none⟩)] w (ZlO (ansP s).1 (ansP s).2 w):=by
 have s1:=(Upd.refl (fun _=>False) w).alloc (.cells #[.slice none 0 0,.slice none 0 0] 26)
 have hk:=Blk.new w 26 #[.slice none 0 0,.slice none 0 0]
 have hrb:=h.ard.blk.same s1
 have p4:(w.alloc (.cells #[.slice none 0 0,.slice none 0 0] 26)).cell? ⟨r,4,none⟩=some (.int .i64 (s.state:Int)):=hrb.cell 4
 have p5:(w.alloc (.cells #[.slice none 0 0,.slice none 0 0] 26)).cell? ⟨r,5,none⟩=some (.slice gr.AN gr.nN gr.cN):=hrb.cell 5
 have p6:(w.alloc (.cells #[.slice none 0 0,.slice none 0 0] 26)).cell? ⟨r,6,none⟩=some (.slice gr.AR gr.nR gr.cR):=hrb.cell 6
 have p7:(w.alloc (.cells #[.slice none 0 0,.slice none 0 0] 26)).cell? ⟨r,7,none⟩=some (.int .i64 0):=hrb.cell 7
 have HA:=qH h
 have HK:=qH hk
 have HS:=qH s1
 have HRB:=qH hrb
 have hrl:=h.ard.blk.lt
 have hlt:w.heap.size<(w.alloc (.cells #[.slice none 0 0,.slice none 0 0] 26)).heap.size:=by rw [World.size_alloc];omega
 clear h hk s1 hrb
 generalize hq:ansP s=q
 have HQ:=qH hq
 clear hq
 go_enter Tryz.func26,Tryz.ntmps26
 go_upto_region 3 with fail
 generalize w.alloc (.cells #[.slice none 0 0,.slice none 0 0] 26)=w1 at *
 generalize hg0:w.heap.size=g0 at *
 have c0:w1.cell? ⟨g0,0,none⟩=some (.slice none 0 0):=HK.out.cell 0
 have c1:w1.cell? ⟨g0,1,none⟩=some (.slice none 0 0):=HK.out.cell 1
 have f0:=HK.out.frozen 0
 have f1:=HK.out.frozen 1
 by_cases h3:s.state=3
 case neg =>
  have q3:((s.state:Int) != 3)=true:=by rw [bne_iff_ne];omega
  have HQQ:Hid (q=(10,noG)):=qH (by rw [<- HQ.out];unfold ansP;rw [if_pos h3])
  have HK2:Hid (Blk ((w1.setCell ⟨g0,0,none⟩ (.slice none 0 0)).setCell ⟨g0,1,none⟩ (.slice none 0 0)) g0 26 #[.slice none 0 0,.slice none 0 0]):=qH ((HK.out.put 0 (.slice none 0 0)).put 1 (.slice none 0 0))
  have HS2:Hid (Same w ((w1.setCell ⟨g0,0,none⟩ (.slice none 0 0)).setCell ⟨g0,1,none⟩ (.slice none 0 0))):=qH (HS.out.trans (((Upd.refl (fun b=>b=g0) w1).put1 _).put1 _) fun b hb e=>by omega)
  clear h3
  go_wp2_with fail
  generalize (w1.setCell ⟨g0,0,none⟩ (.slice none 0 0)).setCell ⟨g0,1,none⟩ (.slice none 0 0)=w2 at *
  rw [HQQ.out]
  refine ZeR rfl rfl HK2.out ⟨⟨[],none,0,0,[],none,0,0⟩,rfl,rfl,OwnG.nil_ _ _,HS2.out⟩
 have q3:((s.state:Int) != 3)=false:=by rw [bne_eq_false_iff_eq];omega
 have hinv:=HA.out.inv h3
 have hib:=ZhT hinv
 have hsl:=HA.out.len
 have hgs:=ZeQ (HA.out.ard.own.same HS.out) (by rw [HA.out.dat];exact hinv.1) (by rw [<- HA.out.dat] at hib;simp only [GR.dat,List.length_map] at hib;omega) (by rw [<- HA.out.dat] at hib;simp only [GR.dat,List.length_map] at hib;omega)
 obtain ⟨e,at_,hE⟩:∃ e at_,chkP gr.dat=(e,at_):=⟨_,_,rfl⟩
 have hrd:=(HA.out.ard.own.same HS.out).rd
 have HGS:=qH hgs
 have HRD:=qH hrd
 have HE:=qH hE
 have HCK:=qH (ZdH w1 gr hrd hgs hE)
 have H3:=qH h3
 clear hinv hib hsl hgs hrd hE h3
 go_wp2_with fail
 refine HCK.out.mono ?_
 rintro x w2 ⟨rfl,hs2⟩
 have HS2:=qH hs2
 have k2:=HK.out.same hs2
 have c20:w2.cell? ⟨g0,0,none⟩=some (.slice none 0 0):=k2.cell 0
 have c21:w2.cell? ⟨g0,1,none⟩=some (.slice none 0 0):=k2.cell 1
 have f20:=k2.frozen 0
 have f21:=k2.frozen 1
 have HK2:=qH k2
 by_cases he:e=0
 case neg =>
  have n0:(e != 0)=true:=by rw [bne_iff_ne];exact he
  have HQQ:Hid (q=(e,noG)):=qH (by
   rw [<- HQ.out]
   unfold ansP
   rw [if_neg (by simp [H3.out]),<-HA.out.dat,HE.out,if_pos he])
  have HK3:Hid (Blk ((w2.setCell ⟨g0,0,none⟩ (.slice none 0 0)).setCell ⟨g0,1,none⟩ (.slice none 0 0)) g0 26 #[.slice none 0 0,.slice none 0 0]):=qH ((k2.put 0 (.slice none 0 0)).put 1 (.slice none 0 0))
  have HS3:Hid (Same w ((w2.setCell ⟨g0,0,none⟩ (.slice none 0 0)).setCell ⟨g0,1,none⟩ (.slice none 0 0))):=qH ((HS.out.trans hs2 fun _ _ f=>f).trans (((Upd.refl (fun b=>b=g0) w2).put1 _).put1 _) fun b hb e=>by omega)
  clear he hs2 k2
  go_wp2_with fail
  generalize (w2.setCell ⟨g0,0,none⟩ (.slice none 0 0)).setCell ⟨g0,1,none⟩ (.slice none 0 0)=w3 at *
  rw [HQQ.out]
  refine ZeR rfl rfl HK3.out ⟨⟨[],none,0,0,[],none,0,0⟩,rfl,rfl,OwnG.nil_ _ _,HS3.out⟩
 have n0:(e != 0)=false:=by rw [bne_eq_false_iff_eq];exact he
 have hr2:=HRB.out.same hs2
 have p25:w2.cell? ⟨r,5,none⟩=some (.slice gr.AN gr.nN gr.cN):=hr2.cell 5
 have p26:w2.cell? ⟨r,6,none⟩=some (.slice gr.AR gr.nR gr.cR):=hr2.cell 6
 have HC:Hid ((chkP gr.dat).1=0):=qH (by rw [HE.out];exact he)
 have hcan:=(Zck HC.out (Zfq HRD.out)).2
 have HQQ:Hid (q=(0,gr.dat)):=qH (by
  rw [<- HQ.out]
  unfold ansP
  rw [if_neg (by simp [H3.out]),<-HA.out.dat,if_neg (by simp [HC.out])])
 have HCan:=qH hcan
 have HCN:=qH (ZgO w2 gr (HRD.out.same hs2) HGS.out)
 clear he hs2 k2 hr2 hcan
 go_wp2_with fail
 refine HCN.out.mono ?_
 rintro x w3 ⟨⟨ns,A1,n1,m1,rs,A2,n2,m2⟩,rfl,HD,HO,-,hs3⟩
 have k3:=HK2.out.same hs3
 have c30:w3.cell? ⟨g0,0,none⟩=some (.slice none 0 0):=k3.cell 0
 have c31:w3.cell? ⟨g0,1,none⟩=some (.slice none 0 0):=k3.cell 1
 have f30:=k3.frozen 0
 have f31:=k3.frozen 1
 have HK3:Hid (Blk ((w3.setCell ⟨g0,0,none⟩ (.slice A1 n1 m1)).setCell ⟨g0,1,none⟩ (.slice A2 n2 m2)) g0 26 #[.slice A1 n1 m1,.slice A2 n2 m2]):=qH ((k3.put 0 (.slice A1 n1 m1)).put 1 (.slice A2 n2 m2))
 have hu3:=(((Upd.refl (fun b=>b=g0) w3).put1 (i:=0) (.slice A1 n1 m1)).put1 (i:=1) (.slice A2 n2 m2))
 have HS3:Hid (Same w ((w3.setCell ⟨g0,0,none⟩ (.slice A1 n1 m1)).setCell ⟨g0,1,none⟩ (.slice A2 n2 m2))):=qH (((HS.out.trans HS2.out fun _ _ f=>f).trans hs3 fun _ _ f=>f).trans hu3 fun b hb e=>by omega)
 have hsz2:=HS2.out.size
 have HO3:Hid (OwnG ((w3.setCell ⟨g0,0,none⟩ (.slice A1 n1 m1)).setCell ⟨g0,1,none⟩ (.slice A2 n2 m2)) w.heap.size ⟨ns,A1,n1,m1,rs,A2,n2,m2⟩):=qH (by
  have hT:∀ b,b<w3.heap.size->b=g0->OfT w3 26 b:=fun b _ e=>e ▸ ⟨_,k3⟩
  have h1:=HO.out.base (B':=w.heap.size) (by omega)
  exact ⟨h1.nodes.type hu3 hT (by decide) (by decide) (by decide) (by decide),h1.rels.type hu3 hT (by decide) (by decide) (by decide) (by decide)⟩)
 clear k3 hs3 hu3
 go_wp2_with fail
 generalize (w3.setCell ⟨g0,0,none⟩ (.slice A1 n1 m1)).setCell ⟨g0,1,none⟩ (.slice A2 n2 m2)=w4 at *
 rw [HQQ.out]
 refine ZeR rfl rfl HK3.out ⟨⟨ns,A1,n1,m1,rs,A2,n2,m2⟩,rfl,by rw [HD.out];exact HCan.out,HO3.out,HS3.out⟩
theorem Zpd {tmps:Array Value} {W:World} {g:Nat} {v0 v1 v2:Value} {R:Ending->World->Prop} (h2:tmps.getD 2 undef=.pointer (some ⟨g,0,none⟩)) (h3:tmps.getD 3 undef=v2) (hb:Blk W g 26 #[v0,v1])
 (hR:R (.returned (.tuple #[.agg #[v0,v1],v2])) W) :
 bodyPost Tryz.prog Tryz.f21 R Exit.ret { tmps:=tmps,defers:=[] } W:=by
 have c0:=hb.cell 0
 have c1:=hb.cell 1
 refine bodyPost_ret (v:=.tuple #[.agg #[v0,v1],v2]) ?_ rfl hR
 simp only [Array.getD_eq_getD_getElem?] at h2 h3
 simp [results,Tryz.results21,go_sem,h2,h3,c0,c1]
noncomputable def Ziz (bs:List UInt8):Int×Zak:=match fedP bs with
 | .error e=>(e,noG)
 | .ok s=>ansP s
theorem ZhU {F:Nat->Prop} {A:Option Addr} {n c:Nat} {bs:List UInt8} (w:World) (hb:Bytes w F A n c bs) (hN:Nib w) :
 Calls Tryz.prog 21 #[.slice A n c] w (ZlO (Ziz bs).1 (Ziz bs).2 w):=by
 have hs0:=(Upd.refl (fun _=>False) w).alloc (.cells #[.slice none 0 0,.slice none 0 0] 26)
 have HK:=qH (Blk.new w 26 #[.slice none 0 0,.slice none 0 0])
 have HY:=qH ((hb.mono (F':=fun b=>b<w.heap.size) fun b h _=>h).same hs0)
 have HN:=qH (hN.same hs0)
 have HS:=qH hs0
 have hnb:=hN.1
 have hlt:w.heap.size<(w.alloc (.cells #[.slice none 0 0,.slice none 0 0] 26)).heap.size:=by rw [World.size_alloc];omega
 generalize hq:Ziz bs=q
 have HQ:=qH hq
 clear hb hN hs0 hq
 go_enter Tryz.func21,Tryz.ntmps21
 go_upto_region 1 with fail
 generalize w.alloc (.cells #[.slice none 0 0,.slice none 0 0] 26)=w1 at *
 go_wp2_with fail
 refine (Zer w1).mono ?_
 rintro e w2 ⟨r,fr,d,rfl,hok,hs2⟩
 have HF:=qH (ZdI (b:=[]) (B:=w1.heap.size) w2 hok (HY.out.same hs2) (fun g hg hS=>by
  have h1:=hok.ard.br
  have h2:=hok.ard.bd
  have h3:=hok.ard.fin.base
  rcases hS with (e | e | ⟨-,e⟩) | e | e | e | e
  · omega
  · omega
  · omega
  · omega
  · cases e
  · cases e
  cases e) (HN.out.same hs2) (by omega))
 have hbr:=hok.ard.br
 have hbd:=hok.ard.bd
 have hbf:=hok.ard.fin.base
 have HS2:=qH (HS.out.trans hs2 fun _ _ f=>f)
 have HK2:=qH (HK.out.same hs2)
 clear hok hs2
 go_wp2_with fail
 refine HF.out.mono ?_
 rintro e w3 ⟨hu3,hres⟩
 have HS3:Hid (Same w w3):=qH (HS2.out.trans hu3 fun g hg hS=>by
  rcases hS with (e | e | ⟨-,e⟩) | e | e | e | e
  · omega
  · omega
  · omega
  · omega
  · cases e
  · cases e
  cases e)
 have hk3:=HK2.out.upd hu3 (fun hS=>by
  rcases hS with (e | e | ⟨-,e⟩) | e | e | e | e
  · omega
  · omega
  · omega
  · omega
  · cases e
  · cases e
  cases e)
 have HK3:=qH hk3
 have HG:Hid (Calls Tryz.prog 26 #[.pointer (some ⟨r,0,none⟩)] w3 (ZlO q.1 q.2 w3)):=qH (by
  rcases hres with ⟨er,a0,a1,a2,a3,a4,a5,a6,hne,htk,-,hk⟩ | ⟨s',vf',v1',v2',gr',-,hok,-⟩
  · have h1:=ZjL w3 hk hne
    rw [<- HQ.out]
    unfold Ziz
    rw [List.nil_append] at htk
    rw [htk]
    exact h1
  have h1:=Zdn w3 hok
  have h2:=hok.ok
  rw [List.nil_append] at h2
  rw [<- HQ.out]
  unfold Ziz
  rw [h2]
  exact h1)
 have he:∃ er:Int,e=.returned (.int .i64 er):=by
  rcases hres with ⟨er,a0,a1,a2,a3,a4,a5,a6,hne,htk,h,hk⟩ | ⟨s',vf',v1',v2',gr',h,hok,-⟩
  · exact ⟨_,h⟩
  exact ⟨_,h⟩
 obtain ⟨er,rfl⟩:=he
 clear hres hu3 hk3
 go_wp2_with fail
 refine HG.out.mono ?_
 rintro e w4 ⟨⟨ns,A1,n1,m1,rs,A2,n2,m2⟩,rfl,hD,hO,hs4⟩
 have hz3:=HS3.out.size
 have k4:=HK3.out.same hs4
 generalize hg0:w.heap.size=g0 at *
 have c40:w4.cell? ⟨g0,0,none⟩=some (.slice none 0 0):=k4.cell 0
 have c41:w4.cell? ⟨g0,1,none⟩=some (.slice none 0 0):=k4.cell 1
 have f40:=k4.frozen 0
 have f41:=k4.frozen 1
 have HK4:Hid (Blk ((w4.setCell ⟨g0,0,none⟩ (.slice A1 n1 m1)).setCell ⟨g0,1,none⟩ (.slice A2 n2 m2)) g0 26 #[.slice A1 n1 m1,.slice A2 n2 m2]):=qH ((k4.put 0 (.slice A1 n1 m1)).put 1 (.slice A2 n2 m2))
 have hu4:=(((Upd.refl (fun b=>b=g0) w4).put1 (i:=0) (.slice A1 n1 m1)).put1 (i:=1) (.slice A2 n2 m2))
 have HS4:Hid (Same w ((w4.setCell ⟨g0,0,none⟩ (.slice A1 n1 m1)).setCell ⟨g0,1,none⟩ (.slice A2 n2 m2))):=qH ((HS3.out.trans hs4 fun _ _ f=>f).trans hu4 fun b hb e=>by omega)
 have HO4:Hid (OwnG ((w4.setCell ⟨g0,0,none⟩ (.slice A1 n1 m1)).setCell ⟨g0,1,none⟩ (.slice A2 n2 m2)) w.heap.size ⟨ns,A1,n1,m1,rs,A2,n2,m2⟩):=qH (by
  have hT:∀ b,b<w4.heap.size->b=g0->OfT w4 26 b:=fun b _ e=>e ▸ ⟨_,k4⟩
  have h1:=hO.base (B':=w.heap.size) (by omega)
  exact ⟨h1.nodes.type hu4 hT (by decide) (by decide) (by decide) (by decide),h1.rels.type hu4 hT (by decide) (by decide) (by decide) (by decide)⟩)
 have HD:=qH hD
 clear k4 hu4 hs4 hO hD
 go_wp2_with fail
 generalize (w4.setCell ⟨g0,0,none⟩ (.slice A1 n1 m1)).setCell ⟨g0,1,none⟩ (.slice A2 n2 m2)=w5 at *
 refine Zpd rfl rfl HK4.out ⟨⟨ns,A1,n1,m1,rs,A2,n2,m2⟩,rfl,HD.out,HO4.out,HS4.out⟩
theorem ZkP {F:Nat->Prop} (w0 w:World) (hs:Same w0 w) (g:GR) (h:RdG w0 F g) (hf:GFit g) {T:Nat} (hT:g.dat.wt=T) (hl:T<=16777216) :
 Calls Tryz.prog 47 #[g.agg] w fun e w'=>e=.returned (.int .i64 (T:Int))/\Same w w'/\Same w0 w':=by
 subst hT
 rw [ZlL] at hl ⊢
 exact (ZfA w g (h.same hs) hf (by omega)).mono fun _ _ ⟨h1,h2⟩=>⟨h1,h2,hs.same h2⟩
theorem ZnZ {F:Nat->Prop} {A:Option Addr} {n c:Nat} {all:List UInt8} (w0 w:World) (hs:Same w0 w) (n1 n2 n3:Nat) (h1:n1<=4294967295) (h2:n2<=4294967295) (h3:n3<=4294967295) (hb:Bytes w0 F A n c all) :
 Calls Tryz.prog 46 #[.int .i64 (n1:Int),.int .i64 (n2:Int),.int .i64 (n3:Int),.slice A n c] w fun e w'=>∃ A' c',e=.returned (.slice A' 16 c')/\Hid (OwnB w' w.heap.size (.slice A' 16 c') (ZaY n1 n2 n3 all))/\Same w w'/\Same w0 w' :=
 (ZkG w n1 n2 n3 h1 h2 h3 (hb.same hs)).mono fun _ _ ⟨v,h4,h5,h6⟩=>by
   obtain ⟨A',c',rfl⟩:=Zac h5.out
   rw [ZbH] at h4 h5
   exact ⟨A',c',h4,h5,h6,hs.same h6⟩
def Zoa (L:List (List UInt8)) (w:World) (e:Ending) (w':World):Prop :=
 ∃ (A:Option Addr) (c:Nat) (l:List BS),e=.returned (.slice A l.length c)/\ZbQ w' w.heap.size (.slice A l.length c) l/\l.map BS.data=L/\Same w w'
noncomputable def pcsP (g:Zak):List (List UInt8):=if (chkP g).1=0 then Zba g else []
theorem ZeS {l:List BS} {i:Nat} {x:BS} (h:l[i]?=some x):((l.take (i+1)).map BS.data).flatten=((l.take i).map BS.data).flatten++x.data:=by
 rw [List.take_add_one,h]
 simp
theorem Zha (l:List BS) (i:Nat):((l.take i).map BS.data).flatten.length<=(l.map BS.data).flatten.length:=by
 have h:=congrArg (fun l=>(List.map BS.data l).flatten.length) (List.take_append_drop i l)
 simp only [List.map_append,List.flatten_append,List.length_append] at h
 omega
theorem ZfN {F:Nat->Prop} (w:World) (g:GR) (h:RdG w F g) (hz:ZbJ g) :
 Calls Tryz.prog 19 #[g.agg] w (Zoa (pcsP g.dat) w):=by
 obtain ⟨ns,AN,nN,cN,rs,AR,nR,cR⟩:=g
 have HNR:=qH (show ∀ e w',Zoa (pcsP (GR.dat ⟨ns,AN,nN,cN,rs,AR,nR,cR⟩)) w e w'↔∃ (A:Option Addr) (c:Nat) (l:List BS),e=.returned (.slice A l.length c)/\ZbQ w' w.heap.size (.slice A l.length c) l/\l.map BS.data=pcsP (GR.dat ⟨ns,AN,nN,cN,rs,AR,nR,cR⟩)/\Same w w' from fun _ _=>Iff.rfl)
 generalize Zoa (pcsP (GR.dat ⟨ns,AN,nN,cN,rs,AR,nR,cR⟩)) w=NRes at HNR ⊢
 have s1:=(Upd.refl (fun _=>False) w).alloc (.cells #[.slice AN nN cN,.slice AR nR cR] 26)
 have hk1:=Blk.new w 26 #[.slice AN nN cN,.slice AR nR cR]
 have s2:=s1.alloc (.cells #[] 28)
 have ho2:=ZbQ.empty (w.alloc (.cells #[.slice AN nN cN,.slice AR nR cR] 26)) (B:=w.heap.size) (by rw [World.size_alloc];omega)
 rw [World.size_alloc] at ho2
 have hlt:w.heap.size+1<((w.alloc (.cells #[.slice AN nN cN,.slice AR nR cR] 26)).alloc (.cells #[] 28)).heap.size:=by rw [World.size_alloc,World.size_alloc];omega
 have hk2:=hk1.same ((Upd.refl (fun _=>False) (w.alloc (.cells #[.slice AN nN cN,.slice AR nR cR] 26))).alloc (.cells #[] 28))
 have hr2:=h.same s2
 obtain ⟨e,at_,hE⟩:∃ e at_,chkP (GR.dat ⟨ns,AN,nN,cN,rs,AR,nR,cR⟩)=(e,at_):=⟨_,_,rfl⟩
 have HE:=qH hE
 have HCK:=qH (ZfL _ _ hr2 hz hE)
 have HK:=qH hk2
 have HO2:=qH ho2
 have HS2:=qH s2
 have HR2:=qH hr2
 have HZ:=qH hz
 have HRG:=qH h
 clear h hz s1 hk1 s2 ho2 hk2 hr2 hE
 go_enter Tryz.func19,Tryz.ntmps19
 go_upto_region 2 with fail
 generalize (w.alloc (.cells #[.slice AN nN cN,.slice AR nR cR] 26)).alloc (.cells #[] 28)=w1 at *
 have k0:w1.cell? ⟨w.heap.size,0,none⟩=some (.slice AN nN cN):=HK.out.cell 0
 have k1:w1.cell? ⟨w.heap.size,1,none⟩=some (.slice AR nR cR):=HK.out.cell 1
 generalize hg0:w.heap.size=g0 at *
 go_wp2_with fail
 refine HCK.out.mono ?_
 rintro x w2 ⟨rfl,hs2⟩
 have HS3:=qH hs2
 clear k0 k1
 by_cases he:e=0
 case neg =>
  have nz:(e != 0)=true:=by rw [bne_iff_ne];exact he
  have HP:Hid (pcsP (GR.dat ⟨ns,AN,nN,cN,rs,AR,nR,cR⟩)=[]):=qH (by unfold pcsP;rw [HE.out,if_neg he])
  have HO3:=qH (HO2.out.same hs2)
  clear he hs2
  go_wp2_with fail
  refine (HNR.out _ _).2 ⟨_,0,[],rfl,HO3.out,HP.out.symm,HS2.out.trans HS3.out fun _ _ f=>f⟩
 have nz:(e != 0)=false:=by rw [bne_eq_false_iff_eq];exact he
 have HC:Hid ((chkP (GR.dat ⟨ns,AN,nN,cN,rs,AR,nR,cR⟩)).1=0):=qH (by rw [HE.out];exact he)
 have HP:Hid (pcsP (GR.dat ⟨ns,AN,nN,cN,rs,AR,nR,cR⟩)=Zba (GR.dat ⟨ns,AN,nN,cN,rs,AR,nR,cR⟩)):=qH (by unfold pcsP;rw [if_pos HC.out])
 have HRt:=qH (Zck HC.out (Zfq HR2.out)).1
 have HK3:=qH (HK.out.same hs2)
 have HR3:=qH (HR2.out.same hs2)
 have HO3:=qH (HO2.out.same hs2)
 clear he hs2 HCK HE
 have kc:=fun (w:World) (C:Array Value) (n c:Nat)=>Lib.run_convert_bytes_const (P:=Tryz.prog) w 28 5 C n c Tryz.underlying28 Tryz.underlying5
 have sA:=(Upd.refl (fun _=>False) w2).alloc (.cells #[.int .u8 83,.int .u8 65,.int .u8 84,.int .u8 67,.int .u8 72,.int .u8 69,.int .u8 76,.int .u8 49] 5 (8,9))
 have hMg:Zaw (w2.alloc (.cells #[.int .u8 83,.int .u8 65,.int .u8 84,.int .u8 67,.int .u8 72,.int .u8 69,.int .u8 76,.int .u8 49] 5 (8,9))) g0 ⟨Zas,some ⟨w2.heap.size,0,none⟩,8,8⟩ :=
  Zaw.lit w2 (by have:=HS3.out.size;omega) Zas rfl
 generalize hwA:w2.alloc (.cells #[.int .u8 83,.int .u8 65,.int .u8 84,.int .u8 67,.int .u8 72,.int .u8 69,.int .u8 76,.int .u8 49] 5 (8,9))=wA at *
 have hzA:wA.heap.size=w2.heap.size+1:=by rw [<- hwA,World.size_alloc]
 have sB:=(Upd.refl (fun _=>False) wA).alloc (.cells #[.int .u8 0,.int .u8 1] 5)
 have HVr:Hid (Bytes (wA.alloc (.cells #[.int .u8 0,.int .u8 1] 5)) (fun b=>b=wA.heap.size) (some ⟨w2.heap.size+1,0,none⟩) 2 2 [0,1]):=qH (by rw [<- hzA];exact Row.of_blk (Blk.new wA _ _) rfl (by omega) (by unfold maxLen;omega))
 have hzB:(wA.alloc (.cells #[.int .u8 0,.int .u8 1] 5)).heap.size=wA.heap.size+1:=World.size_alloc _ _
 have HMg:=qH hMg
 have HSA:=qH sA
 have HSB:=qH sB
 clear hMg sA sB
 go_wp2_with fail
 refine (ZcK _ 1 (by omega) HVr.out (by omega)).mono ?_
 rintro x w4 ⟨v5,rfl,hO5,hs4⟩
 obtain ⟨A5,c5,rfl⟩:=Zac hO5.out
 have hz4:=hs4.size
 have HS4:Hid (Same w2 w4):=qH ((HSA.out.trans HSB.out fun _ _ f=>f).trans hs4 fun _ _ f=>f)
 have HM4:=qH (((HMg.out.same HSB.out).same hs4))
 have HP4:Hid (Zaw w4 g0 ⟨Zai 1 [0,1],A5,(Zai 1 [0,1]).length,c5⟩):=qH ((Zaw.of hO5.out rfl).base (by have:=HS3.out.size;omega))
 have HO4:=qH (HO3.out.same HS4.out)
 have hbw:g0<=w4.heap.size:=by have:=HS4.out.size;have:=HS3.out.size;omega
 clear hO5 hs4 kc
 have hn8:(Zai 1 [0,1]).length=11:=by rw [ZaE];rfl
 rw [hn8] at HP4 ⊢
 have s5:=(Upd.refl (fun _=>False) w4).alloc (.cells #[.slice (some ⟨w2.heap.size,0,none⟩) 8 8,.slice A5 11 c5] 28)
 have HROW:=qH (Zaa HO4.out.row s5)
 have HSRC:Hid (Row (w4.alloc (.cells #[.slice (some ⟨w2.heap.size,0,none⟩) 8 8,.slice A5 11 c5] 28)) (fun b=>b=w4.heap.size) 1 (some ⟨w4.heap.size,0,none⟩) 2 2 ([(⟨Zas,some ⟨w2.heap.size,0,none⟩,8,8⟩:BS),⟨Zai 1 [0,1],A5,11,c5⟩].map BS.cell)):=qH (Row.of_blk (Blk.new w4 28 #[.slice (some ⟨w2.heap.size,0,none⟩) 8 8,.slice A5 11 c5]) rfl (Nat.le_refl _) (by simp [maxLen]))
 have HS5:=qH s5
 clear s5
 go_upto_region 6 with (at_builtin;go_must (refine Zag rfl (.tmp 19) (.tmp 24) _ _ rfl g0 28 1 24 _ Tryz.underlying51 Zda rfl (.slice (some ⟨g0+1,0,none⟩) 0 0) 0 [] rfl HROW.out rfl (Zal Tryz.underlying51 HSRC.out (Zlk _)) (by unfold maxLen;omega) (by omega) (by simp;omega) ?_);intro v6 w6 hg;have HG:=qH hg;clear hg)
 have hg5:=HS5.out
 have hgr:Grew (w4.alloc (.cells #[.slice (some ⟨w2.heap.size,0,none⟩) 8 8,.slice A5 11 c5] 28)) g0 28 1 (.slice (some ⟨g0+1,0,none⟩) 0 0) (([]:List BS).length+[(⟨Zas,some ⟨w2.heap.size,0,none⟩,8,8⟩:BS),⟨Zai 1 [0,1],A5,11,c5⟩].length) (([]:List BS).map BS.cell++[(⟨Zas,some ⟨w2.heap.size,0,none⟩,8,8⟩:BS),⟨Zai 1 [0,1],A5,11,c5⟩].map BS.cell) v6 w6:=HG.out
 have hO6:=(HO4.out.same hg5).app hgr (fun x hx=>by
  rcases List.mem_cons.1 hx with rfl | hx
  · exact HM4.out.same hg5
  obtain rfl:x=⟨Zai 1 [0,1],A5,11,c5⟩:=by simpa using hx
  exact HP4.out.same hg5)
 have hS6:Same w w6:=(((HS2.out.trans HS3.out fun _ _ f=>f).trans (HS4.out.trans hg5 fun _ _ f=>f) fun _ _ f=>f)).trans hgr.upd fun b hb e=>by have e2:g0+1=b:=(by injection e);omega
 have hK6:Blk w6 g0 26 #[.slice AN nN cN,.slice AR nR cR]:=((HK3.out.same HS4.out).same hg5).upd hgr.upd fun e=>by have e2:g0+1=g0:=(by injection e);omega
 obtain ⟨A6,c6,rfl⟩:=Zac hO6.row
 have HO6:Hid (ZbQ w6 g0 (.slice A6 2 c6) [(⟨Zas,some ⟨w2.heap.size,0,none⟩,8,8⟩:BS),⟨Zai 1 [0,1],A5,11,c5⟩]):=qH hO6
 have HS6:=qH hS6
 have HK6:=qH hK6
 clear hgr hO6 hS6 hK6 hg5 HG
 have HRw:Hid (RdG w6 (fun b=>b<g0) ⟨ns,AN,nN,cN,rs,AR,nR,cR⟩):=qH (by rw [<- hg0];exact (HRG.out.mono fun b hb _=>hb).same HS6.out)
 have hnn:nN<=1024:=by have h1:=HRt.out.nN;have h2:ns.length=nN:=HRw.out.nodes.len;simp only [GR.dat,List.length_map] at h1;omega
 have hnr:nR<=2048:=by have h1:=HRt.out.nR;have h2:rs.length=nR:=HRw.out.rels.len;simp only [GR.dat,List.length_map] at h1;omega
 clear HO2 HO3 HO4 HM4 HP4 HSRC HROW HS5 HVr HMg HSA HSB
 generalize w6.heap.size=z6 at *
 go_wp2_with fail
 go_loopg [3,6] nN (fun gh s3 s6 wr=>∃ (i:Nat) (A:Option Addr) (c:Nat) (l:List BS),nN-i=gh/\i<=nN/\s6=.int .i64 (i:Int)/\s3=.slice A (2+i) c/\Hid (l.length=2+i)/\Hid (ZbQ wr g0 (.slice A (2+i) c) l)/\Hid (l.map BS.data=Zas::Zai 1 [0,1]::((ns.take i).map fun x=>Zai 2 (Zbr x.dat)))/\Hid (Same w wr)/\Hid (Blk wr g0 26 #[.slice AN nN cN,.slice AR nR cR]))
 case atStart=>exact ⟨0,A6,c6,_,rfl,Nat.zero_le _,rfl,rfl,qH rfl,HO6,qH rfl,HS6,HK6⟩
 clear HO6 HS6 HK6 HRw
 obtain ⟨i,A,c,l,rfl,hi,rfl,rfl,KL,KO,KD,KS,KK⟩:=hrel
 have q0:wr.cell? ⟨g0,0,none⟩=some (.slice AN nN cN):=KK.out.cell 0
 have q1:wr.cell? ⟨g0,1,none⟩=some (.slice AR nR cR):=KK.out.cell 1
 have HRw:Hid (RdG wr (fun b=>b<g0) ⟨ns,AN,nN,cN,rs,AR,nR,cR⟩):=qH (by rw [<- hg0];exact (HRG.out.mono fun b hb _=>hb).same KS.out)
 by_cases hin:i<nN
 case pos =>
  have j1:(i:Int)<(nN:Int):=by omega
  have hwi:IntKind.i64.wrap ((i:Int)+1)=((i+1:Nat):Int):=by rw [IntKind.wrap_i64];omega
  obtain ⟨b,o,x,hA,hb,hF,hx,hm,x0,x1,x2⟩:=HRw.out.nodes.at_ hin
  simp only at hA
  subst hA
  have hwr:=HRt.out.nd (x:=x.dat) (List.mem_map_of_mem hm)
  have hzx:=HZ.out.ns x hm
  have HND:=qH (Zhl wr x (HRw.out.nodes.lab x hm) (HRw.out.nodes.pro x hm) hwr.1 hzx.pro.fit hwr.2)
  have HWR:=qH hwr.2
  have HX:=qH hx
  obtain ⟨xi,xl,xAL,xnL,xcL,xp,xAP,xnP,xcP⟩:=x
  simp only at x0 x1 x2
  clear hwr hzx hm hx
  go_wp2_with fail
  refine HND.out.mono ?_
  rintro e5 w5 ⟨v5,rfl,hO5,hs5⟩
  obtain ⟨A7,c7,rfl⟩:=Zac hO5.out
  have HO5:=qH hO5.out
  have HS5:=qH hs5
  clear hO5 hs5 x0 x1 x2 q0 q1
  obtain ⟨D,hD⟩:∃ D,Zbr (ND.dat ⟨xi,xl,xAL,xnL,xcL,xp,xAP,xnP,xcP⟩)=D:=⟨_,rfl⟩
  have HD:=qH hD
  have HO5':Hid (OwnB w5 wr.heap.size (.slice A7 D.length c7) D):=qH (by rw [<- hD];exact HO5.out)
  have hdl:D.length<=1048576:=by rw [<- hD];exact HWR.out
  rw [hD]
  clear HO5 hD
  generalize hdn:D.length=dn at *
  have HDn:=qH hdn
  have HBy:=qH (Zau HDn.out (by have h9:=HO5'.out;exact h9))
  go_wp2_with fail
  refine (ZcK w5 2 (by omega) HBy.out (by omega)).mono ?_
  rintro e7 w7 ⟨v7,rfl,hO7,hs7⟩
  obtain ⟨A8,c8,rfl⟩:=Zac hO7.out
  have hpn:(Zai 2 D).length=dn+9:=by rw [ZaE,HDn.out]
  rw [hpn]
  have HS7:Hid (Same wr w7):=qH (HS5.out.trans hs7 fun _ _ f=>f)
  have hz7:=HS7.out.size
  have hzr:=KS.out.size
  have hgw:g0<=w5.heap.size:=by have:=HS5.out.size;omega
  have HP7:Hid (Zaw w7 g0 ⟨Zai 2 D,A8,dn+9,c8⟩):=qH (Zaw.base (Zaw.of (by have h9:=hO7.out;rw [hpn] at h9;exact h9) hpn) hgw)
  have s8:=(Upd.refl (fun _=>False) w7).alloc (.cells #[.slice A8 (dn+9) c8] 28)
  have HROW:Hid ((w7.alloc (.cells #[.slice A8 (dn+9) c8] 28)).ownsRow g0 28 1 (.slice A (2+i) c) (2+i) (l.map BS.cell)):=qH (by have h9:=Zaa ((KO.out.same HS7.out).same s8).row (Upd.refl _ _);rw [KL.out] at h9;exact h9)
  have HSRC:Hid (Row (w7.alloc (.cells #[.slice A8 (dn+9) c8] 28)) (fun b=>b=w7.heap.size) 1 (some ⟨w7.heap.size,0,none⟩) 1 1 ([(⟨Zai 2 D,A8,dn+9,c8⟩:BS)].map BS.cell)):=qH (Row.of_blk (Blk.new w7 28 #[.slice A8 (dn+9) c8]) rfl (Nat.le_refl _) (by simp [maxLen]))
  have HS8:=qH s8
  clear hO7 hs7 s8
  go_wp2_with (at_builtin;go_must (refine Zag rfl (.tmp 33) (.tmp 41) _ _ rfl g0 28 1 24 _ Tryz.underlying51 Zda rfl (.slice A (2+i) c) (2+i) (l.map BS.cell) rfl HROW.out rfl (Zal Tryz.underlying51 HSRC.out (Zlk _)) (by unfold maxLen;omega) (by omega) (by simp;omega) ?_);intro v9 w9 hg;have HG:=qH hg;clear hg)
  have hk8:=((KK.out.same HS7.out).same HS8.out)
  have hO9:=((KO.out.same HS7.out).same HS8.out).app (l2:=[(⟨Zai 2 D,A8,dn+9,c8⟩:BS)]) (by rw [KL.out];exact HG.out) (fun x hx=>by
   obtain rfl:x=⟨Zai 2 D,A8,dn+9,c8⟩:=by simpa using hx
   exact HP7.out.same HS8.out)
  have hS9:Same w w9:=(KS.out.trans (HS7.out.trans HS8.out fun _ _ f=>f) fun _ _ f=>f).trans HG.out.upd fun b hb e=>by have:=(Off.lt (Off.of HROW.out) _ e).1;omega
  have hK9:=hk8.upd HG.out.upd fun e=>hk8.ne_own HROW.out (by decide) e
  obtain ⟨A9,c9,rfl⟩:=Zac hO9.row
  have hl9:(l++[(⟨Zai 2 D,A8,dn+9,c8⟩:BS)]).length=2+(i+1):=by rw [List.length_append,KL.out];rfl
  rw [hl9] at hO9 ⊢
  have hD9:(l++[(⟨Zai 2 D,A8,dn+9,c8⟩:BS)]).map BS.data=Zas::Zai 1 [0,1]::((ns.take (i+1)).map fun x=>Zai 2 (Zbr x.dat)):=by
   rw [List.map_append,KD.out,List.take_add_one,HX.out]
   simp [HD.out]
  have HO9:=qH hO9
  have HS9:=qH hS9
  have HK9:=qH hK9
  have HD9:=qH hD9
  have HL9:=qH hl9
  clear hk8 hO9 hS9 hK9 hD9 hl9 HG
  go_roundg (nN-(i+1))
  case measure=>omega
  case rel=>exact ⟨i+1,A9,c9,_,rfl,by omega,by go_num,rfl,HL9,HO9,HD9,HS9,HK9⟩
 obtain rfl:i=nN:=by omega
 have KD1:Hid (l.map BS.data=Zas::Zai 1 [0,1]::((ns.map fun x=>Zai 2 (Zbr x.dat))++((rs.take 0).map fun x=>Zai 3 (Zbx x.dat)))):=qH (by
  have h1:ns.length=i:=HRw.out.nodes.len
  rw [KD.out,List.take_of_length_le (by omega)]
  simp)
 clear hin hi
 have jn:¬ (i:Int)<(i:Int):=by omega
 generalize i=nN at *
 go_wp2_with fail
 go_loopg [3,7] nR (fun gh s3 s7 wr=>∃ (i:Nat) (A:Option Addr) (c:Nat) (l:List BS),nR-i=gh/\i<=nR/\s7=.int .i64 (i:Int)/\s3=.slice A (2+nN+i) c/\Hid (l.length=2+nN+i)/\Hid (ZbQ wr g0 (.slice A (2+nN+i) c) l)/\Hid (l.map BS.data=Zas::Zai 1 [0,1]::((ns.map fun x=>Zai 2 (Zbr x.dat))++((rs.take i).map fun x=>Zai 3 (Zbx x.dat))))/\Hid (Same w wr)/\Hid (Blk wr g0 26 #[.slice AN nN cN,.slice AR nR cR]))
 case atStart=>exact ⟨0,A,c,l,rfl,Nat.zero_le _,rfl,rfl,KL,KO,KD1,KS,KK⟩
 clear KO KS KK KD KL HRw
 obtain ⟨i,A,c,l,rfl,hi,rfl,rfl,KL,KO,KD,KS,KK⟩:=hrel
 have q0:wr.cell? ⟨g0,0,none⟩=some (.slice AN nN cN):=KK.out.cell 0
 have q1:wr.cell? ⟨g0,1,none⟩=some (.slice AR nR cR):=KK.out.cell 1
 have HRw:Hid (RdG wr (fun b=>b<g0) ⟨ns,AN,nN,cN,rs,AR,nR,cR⟩):=qH (by rw [<- hg0];exact (HRG.out.mono fun b hb _=>hb).same KS.out)
 by_cases hin:i<nR
 case pos =>
  have j1:(i:Int)<(nR:Int):=by omega
  have hwi:IntKind.i64.wrap ((i:Int)+1)=((i+1:Nat):Int):=by rw [IntKind.wrap_i64];omega
  obtain ⟨b,o,x,hA,hb,hF,hx,hm,x0,x1,x2,x3,x4⟩:=HRw.out.rels.at_ hin
  simp only at hA
  subst hA
  have hwr:=HRt.out.rl (x:=x.dat) (List.mem_map_of_mem hm)
  have hzx:=HZ.out.rs x hm
  have HND:=qH (Zis wr x (HRw.out.rels.pro x hm) hwr.1 hzx.pro.fit hwr.2)
  have HWR:=qH hwr.2
  have HX:=qH hx
  obtain ⟨xi,xt,xs,xd,xp,xAP,xnP,xcP⟩:=x
  simp only at x0 x1 x2 x3 x4
  clear hwr hzx hm hx
  go_wp2_with fail
  refine HND.out.mono ?_
  rintro e5 w5 ⟨v5,rfl,hO5,hs5⟩
  obtain ⟨A7,c7,rfl⟩:=Zac hO5.out
  have HO5:=qH hO5.out
  have HS5:=qH hs5
  clear hO5 hs5 x0 x1 x2 x3 x4 q0 q1
  obtain ⟨D,hD⟩:∃ D,Zbx (RL.dat ⟨xi,xt,xs,xd,xp,xAP,xnP,xcP⟩)=D:=⟨_,rfl⟩
  have HD:=qH hD
  have HO5':Hid (OwnB w5 wr.heap.size (.slice A7 D.length c7) D):=qH (by rw [<- hD];exact HO5.out)
  have hdl:D.length<=1048576:=by rw [<- hD];exact HWR.out
  rw [hD]
  clear HO5 hD
  generalize hdn:D.length=dn at *
  have HDn:=qH hdn
  have HBy:=qH (Zau HDn.out (by have h9:=HO5'.out;exact h9))
  go_wp2_with fail
  refine (ZcK w5 3 (by omega) HBy.out (by omega)).mono ?_
  rintro e7 w7 ⟨v7,rfl,hO7,hs7⟩
  obtain ⟨A8,c8,rfl⟩:=Zac hO7.out
  have hpn:(Zai 3 D).length=dn+9:=by rw [ZaE,HDn.out]
  rw [hpn]
  have HS7:Hid (Same wr w7):=qH (HS5.out.trans hs7 fun _ _ f=>f)
  have hz7:=HS7.out.size
  have hzr:=KS.out.size
  have hgw:g0<=w5.heap.size:=by have:=HS5.out.size;omega
  have HP7:Hid (Zaw w7 g0 ⟨Zai 3 D,A8,dn+9,c8⟩):=qH (Zaw.base (Zaw.of (by have h9:=hO7.out;rw [hpn] at h9;exact h9) hpn) hgw)
  have s8:=(Upd.refl (fun _=>False) w7).alloc (.cells #[.slice A8 (dn+9) c8] 28)
  have HROW:Hid ((w7.alloc (.cells #[.slice A8 (dn+9) c8] 28)).ownsRow g0 28 1 (.slice A (2+nN+i) c) (2+nN+i) (l.map BS.cell)):=qH (by have h9:=Zaa ((KO.out.same HS7.out).same s8).row (Upd.refl _ _);rw [KL.out] at h9;exact h9)
  have HSRC:Hid (Row (w7.alloc (.cells #[.slice A8 (dn+9) c8] 28)) (fun b=>b=w7.heap.size) 1 (some ⟨w7.heap.size,0,none⟩) 1 1 ([(⟨Zai 3 D,A8,dn+9,c8⟩:BS)].map BS.cell)):=qH (Row.of_blk (Blk.new w7 28 #[.slice A8 (dn+9) c8]) rfl (Nat.le_refl _) (by simp [maxLen]))
  have HS8:=qH s8
  clear hO7 hs7 s8
  go_wp2_with (at_builtin;go_must (refine Zag rfl (.tmp 50) (.tmp 58) _ _ rfl g0 28 1 24 _ Tryz.underlying51 Zda rfl (.slice A (2+nN+i) c) (2+nN+i) (l.map BS.cell) rfl HROW.out rfl (Zal Tryz.underlying51 HSRC.out (Zlk _)) (by unfold maxLen;omega) (by omega) (by simp;omega) ?_);intro v9 w9 hg;have HG:=qH hg;clear hg)
  have hk8:=((KK.out.same HS7.out).same HS8.out)
  have hO9:=((KO.out.same HS7.out).same HS8.out).app (l2:=[(⟨Zai 3 D,A8,dn+9,c8⟩:BS)]) (by rw [KL.out];exact HG.out) (fun x hx=>by
   obtain rfl:x=⟨Zai 3 D,A8,dn+9,c8⟩:=by simpa using hx
   exact HP7.out.same HS8.out)
  have hS9:Same w w9:=(KS.out.trans (HS7.out.trans HS8.out fun _ _ f=>f) fun _ _ f=>f).trans HG.out.upd fun b hb e=>by have:=(Off.lt (Off.of HROW.out) _ e).1;omega
  have hK9:=hk8.upd HG.out.upd fun e=>hk8.ne_own HROW.out (by decide) e
  obtain ⟨A9,c9,rfl⟩:=Zac hO9.row
  have hl9:(l++[(⟨Zai 3 D,A8,dn+9,c8⟩:BS)]).length=2+nN+(i+1):=by rw [List.length_append,KL.out];rfl
  rw [hl9] at hO9 ⊢
  have hD9:(l++[(⟨Zai 3 D,A8,dn+9,c8⟩:BS)]).map BS.data=Zas::Zai 1 [0,1]::((ns.map fun x=>Zai 2 (Zbr x.dat))++((rs.take (i+1)).map fun x=>Zai 3 (Zbx x.dat))):=by
   rw [List.map_append,KD.out,List.take_add_one,HX.out]
   simp [HD.out]
  have HO9:=qH hO9
  have HS9:=qH hS9
  have HK9:=qH hK9
  have HD9:=qH hD9
  have HL9:=qH hl9
  clear hk8 hO9 hS9 hK9 hD9 hl9 HG
  go_roundg (nR-(i+1))
  case measure=>omega
  case rel=>exact ⟨i+1,A9,c9,_,rfl,by omega,by go_num,rfl,HL9,HO9,HD9,HS9,HK9⟩
 obtain rfl:i=nR:=by omega
 have KD1:Hid (l.map BS.data=Zaz (GR.dat ⟨ns,AN,nN,cN,rs,AR,i,cR⟩)):=qH (by
  have h1:rs.length=i:=HRw.out.rels.len
  rw [KD.out,List.take_of_length_le (by omega)]
  simp [Zaz,GR.dat]
  rfl)
 clear hin hi KD
 have jn:¬ (i:Int)<(i:Int):=by omega
 generalize i=nR at *
 have HTot:Hid ((l.map BS.data).flatten.length<=2900025):=qH (by
  have h1:=HRt.out.arc_len
  rw [ZaN,List.length_append,<-KD1.out] at h1
  omega)
 have hO0:OwnB (wr.alloc (.cells #[] 5)) wr.heap.size (.slice (some ⟨wr.heap.size,0,none⟩) 0 0) []:=World.ownsRow_made wr #[] 0 (Nat.le_refl _) (Nat.zero_le _) rfl
 have hs0:=(Upd.refl (fun _=>False) wr).alloc (.cells #[] 5)
 have HO0:=qH hO0
 have HS0:=qH hs0
 clear hO0 hs0
 have hNle:2+nN+nR<=3074:=by omega
 go_wp2_with fail
 generalize wr=wB at *
 generalize hN:2+nN+nR=N at *
 go_loopg [8,9] N (fun gh s8 s9 wx=>∃ (i:Nat),N-i=gh/\i<=N/\s9=.int .i64 (i:Int)/\Hid (OwnB wx wB.heap.size s8 ((l.take i).map BS.data).flatten)/\Hid (Same wB wx))
 case atStart=>exact ⟨0,rfl,Nat.zero_le _,rfl,HO0,HS0⟩
 obtain ⟨i,rfl,hi,rfl,LO,LS⟩:=hrel
 by_cases hin:i<N
 case pos =>
  have j1:(i:Int)<(N:Int):=by omega
  have hwi:IntKind.i64.wrap ((i:Int)+1)=((i+1:Nat):Int):=by rw [IntKind.wrap_i64];omega
  obtain ⟨b,o,x,hA,hb,hx,hxm,hc⟩:=(KO.out.same LS.out).at_ KL.out hin
  subst hA
  have HBy:Hid (Bytes wr (fun b=>TyB wB g0 b) x.A x.n x.c x.data):=qH (Row.same (KO.out.each x hxm) LS.out)
  have HT:=qH (ZeS hx)
  have HTl:=qH (Zha l (i+1))
  have HLv:=qH LO.out.lt
  have hzw:=LS.out.size
  have hxl:x.data.length=x.n:=Bytes.len HBy.out
  rw [HT.out,List.length_append,hxl] at HTl
  obtain ⟨xd,xA,xn,xc⟩:=x
  simp only at HBy HT HTl hxl hc
  clear hx hxm
  go_wp2_with fail
  refine (Zbt wr LO.out hzw HBy.out (fun b hb e=>by have:=(HLv.out b e).1;have:=hb.2.1;omega) (by have:=HTl.out;have:=HTot.out;omega)).mono ?_
  rintro e w5 ⟨v5,rfl,hg5⟩
  have HS5:=qH (LS.out.trans (S':=fun b=>u8.ownBlock=some b) hg5.upd fun b hb e=>by have:=(HLv.out b e).1;omega)
  have HO5:Hid (OwnB w5 wB.heap.size v5 ((l.take (i+1)).map BS.data).flatten):=qH (by rw [HT.out];exact hg5.own)
  clear hg5 hc
  go_wp2_with fail
  go_roundg (N-(i+1))
  case measure=>omega
  case rel=>exact ⟨i+1,rfl,by omega,by go_num,HO5,HS5⟩
 obtain rfl:i=N:=by omega
 have LO1:Hid (OwnB wr wB.heap.size u8 (l.map BS.data).flatten):=qH (by
  have h1:=LO.out
  rwa [List.take_of_length_le (by rw [KL.out];exact Nat.le_refl _)] at h1)
 have s0:Same wr wr.drew:=(Upd.refl _ wr).drew
 have KKr:=qH (KK.out.same LS.out)
 have KOr:=qH (KO.out.same LS.out)
 have KSr:=qH (KS.out.trans LS.out fun _ _ f=>f)
 have HRr:Hid (RdG wr (fun b=>b<g0) ⟨ns,AN,nN,cN,rs,AR,nR,cR⟩):=qH (by rw [<- hg0];exact (HRG.out.mono fun b hb _=>hb).same KSr.out)
 have HLen:Hid ((GR.dat ⟨ns,AN,nN,cN,rs,AR,nR,cR⟩).nodes.length=nN/\(GR.dat ⟨ns,AN,nN,cN,rs,AR,nR,cR⟩).rels.length=nR):=qH ⟨by simp only [GR.dat,List.length_map];exact HRr.out.nodes.len,by simp only [GR.dat,List.length_map];exact HRr.out.rels.len⟩
 obtain ⟨all,hall⟩:∃ all,(l.map BS.data).flatten=all:=⟨_,rfl⟩
 have HT:Hid (Zai 4 (ZaY nN nR (GR.dat ⟨ns,AN,nN,cN,rs,AR,nR,cR⟩).wt all)=ZbO (GR.dat ⟨ns,AN,nN,cN,rs,AR,nR,cR⟩)):=qH (by
  unfold ZbO
  rw [HLen.1,HLen.2,<-KD1.out,hall])
 rw [hall] at LO1
 have hal:all.length<=2900025:=by rw [<- hall];exact HTot.out
 obtain ⟨A7,c7,hv7⟩:=Zac LO1.out
 subst hv7
 have HBA:=qH (ZaG LO1.out)
 have HWG:=qH (ZkP wr _ s0 ⟨ns,AN,nN,cN,rs,AR,nR,cR⟩ HRr.out HZ.out.fit rfl (by have:=HRt.out.wt;omega))
 have hwt:=HRt.out.wt
 have hKeep:Hid (∀ wx,Same wr wx->wx.cell? ⟨g0,0,none⟩=some (.slice AN nN cN)/\wx.cell? ⟨g0,1,none⟩=some (.slice AR nR cR)):=qH fun wx hs=>⟨(KKr.out.same hs).cell 0,(KKr.out.same hs).cell 1⟩
 have hzg:g0<=wr.heap.size:=by have:=KSr.out.size;omega
 clear hall LO KO KK KS LS HO0 HS0
 generalize (GR.dat ⟨ns,AN,nN,cN,rs,AR,nR,cR⟩).wt=wt at *
 generalize all.length=an at *
 go_upto_region 19 with fail
 refine ZaX 14 (fun wx=>wx.cell? ⟨g0,0,none⟩=some (.slice AN nN cN)/\wx.cell? ⟨g0,1,none⟩=some (.slice AR nR cR)) (by kernel_rfl) (hKeep.out _ s0) (fun hHeld=>?_)
 refine ESt.take (i:=0) (v:=?_) (by decide +kernel) rfl (by decide +kernel) (fun _ _ _ h=>h) (Or.inl ⟨by rfl,?_⟩) (by assumption) ?_
 rotate_left
 · intro wx hSw
   obtain ⟨h0,h1⟩:=hSw
   go_simp
   try with_reducible rfl
 simp only [Act.put]
 refine ESt.take (i:=1) (v:=?_) (by decide +kernel) rfl (by decide +kernel) (fun _ _ _ h=>h) (Or.inl ⟨by rfl,?_⟩) (by assumption) ?_
 rotate_left
 · intro wx hSw
   obtain ⟨h0,h1⟩:=hSw
   go_simp
   try with_reducible rfl
 simp only [Act.put]
 refine ESt.take (i:=2) (v:=?_) (by decide +kernel) rfl (by decide +kernel) (fun _ _ _ h=>h) (Or.inl ⟨by rfl,?_⟩) (by assumption) ?_
 rotate_left
 · intro wx hSw
   obtain ⟨h0,h1⟩:=hSw
   go_simp
   try with_reducible rfl
 simp only [Act.put]
 refine ESt.take (i:=3) (v:=?_) (by decide +kernel) rfl (by decide +kernel) (fun _ _ _ h=>h) (Or.inl ⟨by rfl,?_⟩) (by assumption) ?_
 rotate_left
 · intro wx hSw
   obtain ⟨h0,h1⟩:=hSw
   go_simp
   try with_reducible rfl
 simp only [Act.put]
 refine ESt.take (i:=4) (v:=?_) (by decide +kernel) rfl (by decide +kernel) (fun _ _ _ h=>h) (Or.inl ⟨by rfl,?_⟩) (by assumption) ?_
 rotate_left
 · intro wx hSw
   obtain ⟨h0,h1⟩:=hSw
   go_simp
   try with_reducible rfl
 simp only [Act.put]
 refine ESt.take (i:=5) (v:=?_) (by decide +kernel) rfl (by decide +kernel) (fun _ _ _ h=>h) (Or.inl ⟨by rfl,?_⟩) (by assumption) ?_
 rotate_left
 · intro wx hSw
   obtain ⟨h0,h1⟩:=hSw
   go_simp
   try with_reducible rfl
 simp only [Act.put]
 refine ESt.take (i:=6) (v:=?_) (by decide +kernel) rfl (by decide +kernel) (fun _ _ _ h=>h) (Or.inl ⟨by rfl,?_⟩) (by assumption) ?_
 rotate_left
 · intro wx hSw
   obtain ⟨h0,h1⟩:=hSw
   go_simp
   try with_reducible rfl
 simp only [Act.put]
 refine ESt.take (i:=7) (v:=?_) (by decide +kernel) rfl (by decide +kernel) (fun _ _ _ h=>h) (Or.inl ⟨by rfl,?_⟩) (by assumption) ?_
 rotate_left
 · intro wx hSw
   obtain ⟨h0,h1⟩:=hSw
   go_simp
   try with_reducible rfl
 simp only [Act.put]
 refine ESt.take (i:=9) (v:=?_) (by decide +kernel) rfl (by decide +kernel) (fun _ _ _ h=>h) (Or.inl ⟨by rfl,?_⟩) (by assumption) ?_
 rotate_left
 · intro wx hSw
   obtain ⟨h0,h1⟩:=hSw
   go_simp
   try with_reducible rfl
 simp only [Act.put]
 refine ESt.branch (rs:=[8]) (by decide +kernel) (by decide +kernel) ?_
 refine AllE.cons rfl (fun K hK=>?_) AllE.nil
 go_simp
 refine HWG.out.mono ?_
 rintro e wa ⟨rfl,-,hs1⟩
 have HS1:=qH hs1
 clear hs1
 go_wp2_with fail
 refine hK.out _ _ (hKeep.out _ HS1.out) (fun hHeld=>?_)
 clear hK K
 refine ESt.branch (rs:=[10]) (by decide +kernel) (by decide +kernel) ?_
 refine AllE.cons rfl (fun K hK=>?_) AllE.nil
 go_simp
 refine (ZnZ wr wa HS1.out nN nR wt (by omega) (by omega) (by omega) HBA.out).mono ?_
 rintro e wb ⟨A2,c2,rfl,HO2,-,hs2⟩
 have HS2x:=qH hs2
 clear hs2
 go_wp2_with fail
 refine hK.out _ _ (hKeep.out _ HS2x.out) (fun hHeld=>?_)
 clear hK K
 refine ESt.branch (rs:=[11]) (by decide +kernel) (by decide +kernel) ?_
 refine AllE.cons rfl (fun K hK=>?_) AllE.nil
 go_simp
 refine (ZcK wb 4 (by omega) (Zau (ZbH _ _ _ _) HO2.out) (by omega)).mono ?_
 rintro e wc ⟨v3,rfl,HO3,hs3⟩
 obtain ⟨A3,c3,rfl⟩:=Zac HO3.out
 have HS3x:=qH (HS2x.out.trans hs3 fun _ _ f=>f)
 have hzc:=HS2x.out.size
 clear hs3
 rw [show (Zai 4 (ZaY nN nR wt all)).length=25 by rw [ZaE,ZbH]] at HO3 ⊢
 go_wp2_with fail
 refine hK.out _ _ (hKeep.out _ HS3x.out) (fun hHeld=>?_)
 clear hK K
 have HT3:Hid (Zaw wc g0 ⟨ZbO (GR.dat ⟨ns,AN,nN,cN,rs,AR,nR,cR⟩),A3,25,c3⟩):=qH (Zaw.base (Zaw.of (by rw [<- HT.out];exact HO3.out) (Zcr _)) (by omega))
 refine ESt.branch (rs:=[12]) (by decide +kernel) (by decide +kernel) ?_
 refine AllE.cons rfl (fun K hK=>?_) AllE.nil
 go_simp
 have sD:=(Upd.refl (fun _=>False) wc).alloc (.cells #[.slice A3 25 c3] 28)
 have sE:Same wr (wc.alloc (.cells #[.slice A3 25 c3] 28)):=HS3x.out.trans sD fun _ _ f=>f
 refine hK.out _ _ (hKeep.out _ sE) (fun hHeld=>?_)
 clear hK K
 refine ESt.branch (rs:=[13]) (by decide +kernel) (by decide +kernel) ?_
 refine AllE.cons rfl (fun K hK=>?_) AllE.nil
 have hrow:=Zaa KOr.out.row sE
 rw [KL.out] at hrow
 have hsrc:Row (wc.alloc (.cells #[.slice A3 25 c3] 28)) (fun b=>b=wc.heap.size) 1 (some ⟨wc.heap.size,0,none⟩) 1 1 ([(⟨ZbO (GR.dat ⟨ns,AN,nN,cN,rs,AR,nR,cR⟩),A3,25,c3⟩:BS)].map BS.cell):=Row.of_blk (Blk.new wc 28 #[.slice A3 25 c3]) rfl (Nat.le_refl _) (by simp [maxLen])
 have hze:=sE.size
 refine ZbP rfl (.tmp 73) (.tmp 85) _ _ rfl g0 28 1 24 _ Tryz.underlying51 Zda rfl (.slice A i c) i (l.map BS.cell) rfl hrow rfl (Zal Tryz.underlying51 hsrc (Zlk _)) (by unfold maxLen;omega) (by omega) (by omega) ?_
 intro v9 w9 hg9
 have hO9:=(KOr.out.same sE).app (l2:=[(⟨ZbO (GR.dat ⟨ns,AN,nN,cN,rs,AR,nR,cR⟩),A3,25,c3⟩:BS)]) (by rw [KL.out];exact hg9) (fun x hx=>by
  obtain rfl:x=⟨ZbO (GR.dat ⟨ns,AN,nN,cN,rs,AR,nR,cR⟩),A3,25,c3⟩:=by simpa using hx
  exact HT3.out.same sD)
 have hS9:Same w w9:=(KSr.out.trans sE fun _ _ f=>f).trans hg9.upd fun b hb e=>by have:=(Off.lt (Off.of hrow) _ e).1;omega
 obtain ⟨A9,c9,rfl⟩:=Zac hO9.row
 have hK9:=((KKr.out.same sE).upd hg9.upd fun e=>(KKr.out.same sE).ne_own hrow (by decide) e)
 have HO9:=qH hO9
 have HS9:=qH hS9
 have hln:(l++[(⟨ZbO (GR.dat ⟨ns,AN,nN,cN,rs,AR,nR,cR⟩),A3,25,c3⟩:BS)]).length=i+1:=by rw [List.length_append,KL.out];rfl
 have HLn:=qH hln
 rw [hln]
 refine hK.out _ _ ⟨hK9.cell 0,hK9.cell 1⟩ (fun hHeld=>?_)
 clear hK K hg9 hO9 hS9 hK9 hrow hsrc hln
 simp only [Act.put]
 refine ESt.last (by decide +kernel) (by decide +kernel) rfl (fun K hK=>?_) _
 go_simp
 refine hK.out _ _ ?_
 clear hK K hHeld
 go_wp2
 refine (HNR.out _ _).2 ⟨A9,c9,_,by rw [HLn.out];rfl,HO9.out,?_,HS9.out⟩
 rw [HP.out,List.map_append,KD1.out]
 rfl
end Go.Proofs.YtkopcinhbjimiaaGreatDoor
