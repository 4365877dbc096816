/- Texts that the claim leans on: walks and plain laws, function by function. -/
import Derived.Test.YtkopcinhbjimiaaGreatDoorS18
import Derived.Test.YtkopcinhbjimiaaGreatDoorS21
import Derived.Test.YtkopcinhbjimiaaGreatDoorS22
import Derived.Test.YtkopcinhbjimiaaGreatDoorS23
set_option maxRecDepth 100000
set_option maxHeartbeats 16000000
namespace Go.Proofs.YtkopcinhbjimiaaGreatDoor
open Go.RowKit
theorem Zio {F:Nat->Prop} {A:Option Addr} {n c:Nat} {l:List ND} (w0 w:World) (hs:Same w0 w) (h:WRow w0 F 3 A n c (l.flatMap ND.cells)) (hn:n*56<=140737488355328) :
 Calls Tryz.prog 63 #[.slice A n c] w fun e w'=>∃ A' c',e=.returned (.slice A' n c')/\Hid (w'.ownsRow w.heap.size 43 3 (.slice A' n c') n (l.flatMap ND.cells))/\Same w w'/\Same w0 w' :=
 (Zkw w (h.same hs) hn).mono fun _ _ ⟨A',c',h1,h2,h3⟩=>⟨A',c',h1,h2,h3,hs.same h3⟩
theorem Zjr {F:Nat->Prop} {A:Option Addr} {n c:Nat} {l:List RL} (w0 w:World) (hs:Same w0 w) (h:WRow w0 F 5 A n c (l.flatMap RL.cells)) (hn:n*64<=140737488355328) :
 Calls Tryz.prog 64 #[.slice A n c] w fun e w'=>∃ A' c',e=.returned (.slice A' n c')/\Hid (w'.ownsRow w.heap.size 50 5 (.slice A' n c') n (l.flatMap RL.cells))/\Same w w'/\Same w0 w' :=
 (Zmt w (h.same hs) hn).mono fun _ _ ⟨A',c',h1,h2,h3⟩=>⟨A',c',h1,h2,h3,hs.same h3⟩
theorem ZpI {l:List ND} {i:Nat} {x:ND} (h:l[i]?=some x):l.drop i=x::l.drop (i+1):=by
 obtain ⟨h1,h2⟩:=List.getElem?_eq_some_iff.1 h
 rw [List.drop_eq_getElem_cons h1,h2]
theorem ZpJ {l:List RL} {i:Nat} {x:RL} (h:l[i]?=some x):l.drop i=x::l.drop (i+1):=by
 obtain ⟨h1,h2⟩:=List.getElem?_eq_some_iff.1 h
 rw [List.drop_eq_getElem_cons h1,h2]
theorem Zjs {w:World} {B n c i:Nat} {A:Option Addr} {l1 Q:List ND} {x:ND} (h:w.ownsRow B 43 3 (.slice A n c) n ((l1++x::Q).flatMap ND.cells)) (hl:l1.length=i) :
 ∃ g,A=some ⟨g,0,none⟩/\B<=g/\g<w.heap.size/\i<n/\AtN w g i x/\FrN w g i /\
  (∀ (A1:Option Addr) (c1:Nat) (lb:List ByteArray),(w.setCell ⟨g,i*3+1,none⟩ (.slice A1 x.nL c1)).ownsRow B 43 3 (.slice A n c) n ((l1++{ x with AL:=A1,cL:=c1,labels:=lb }::Q).flatMap ND.cells)) /\
  ∀ (A2:Option Addr) (c2:Nat) (ps:List PR),(w.setCell ⟨g,i*3+2,none⟩ (.slice A2 x.nP c2)).ownsRow B 43 3 (.slice A n c) n ((l1++{ x with AP:=A2,cP:=c2,props:=ps }::Q).flatMap ND.cells):=by
 have hlen:=Zca h ND.three (by omega)
 rw [List.length_append,List.length_cons] at hlen
 obtain ⟨g,_,rfl,hB,hg,_,_,_,s4⟩:=Zdx (i:=i*3+1) h (by omega)
 obtain ⟨_,_,hA,_,_,_,_,_,s5⟩:=Zdx (i:=i*3+2) h (by omega)
 injection hA with hA
 injection hA with hA _ _
 subst hA
 obtain ⟨h1,_,h3,h4⟩:=OwnN.at_ h (ZcF l1 Q x hl)
 refine ⟨_,rfl,hB,hg,h1,h3,h4,fun A1 c1 lb=>?_,fun A2 c2 ps=>?_⟩
 · have:=s4 (.slice A1 x.nL c1)
   rwa [ZeM ND.three l1 Q x { x with AL:=A1,cL:=c1,labels:=lb } (by omega) rfl hl] at this
 have:=s5 (.slice A2 x.nP c2)
 rwa [ZeM ND.three l1 Q x { x with AP:=A2,cP:=c2,props:=ps } (by omega) rfl hl] at this
theorem Zpk {w:World} {B n c i:Nat} {A:Option Addr} {l1 Q:List RL} {x:RL} (h:w.ownsRow B 50 5 (.slice A n c) n ((l1++x::Q).flatMap RL.cells)) (hl:l1.length=i) :
 ∃ g,A=some ⟨g,0,none⟩/\B<=g/\g<w.heap.size/\i<n/\AtR w g i x/\FrR w g i /\
  ∀ (A2:Option Addr) (c2:Nat) (ps:List PR),(w.setCell ⟨g,i*5+4,none⟩ (.slice A2 x.nP c2)).ownsRow B 50 5 (.slice A n c) n ((l1++{ x with AP:=A2,cP:=c2,props:=ps }::Q).flatMap RL.cells):=by
 have hlen:=Zca h RL.five (by omega)
 rw [List.length_append,List.length_cons] at hlen
 obtain ⟨g,_,rfl,hB,hg,_,_,_,s5⟩:=Zdx (i:=i*5+4) h (by omega)
 obtain ⟨h1,_,h3,h4⟩:=OwnR.at_ h (ZcF l1 Q x hl)
 refine ⟨_,rfl,hB,hg,h1,h3,h4,fun A2 c2 ps=>?_⟩
 have:=s5 (.slice A2 x.nP c2)
 rwa [ZeM RL.five l1 Q x { x with AP:=A2,cP:=c2,props:=ps } (by omega) rfl hl] at this
theorem Zqv {wr wx:World} {g g2 i:Nat} {t:TypeId} {a b:Value} {x:RL} (h1:Hid (Blk wr g t #[a,b])) (h2:Hid (AtR wr g2 i x)) (hg:g2<wr.heap.size) (hs:Same wr wx):wx.cell? ⟨g,1,none⟩=some b/\wx.cell? ⟨g2,i*5+4,none⟩=some (.slice x.AP x.nP x.cP) :=
 ⟨(h1.out.same hs).cell 1,(hs.cell (p:=⟨g2,i*5+4,none⟩) hg fun f=>f).trans h2.2.2.2.2⟩
structure Zqw (g:GR):Prop where
 nodes:g.ns.Pairwise ND.Apart
 rels:g.rs.Pairwise RL.Apart
 nprops:∀ x∈g.ns,x.Fine
 rprops:∀ y∈g.rs,y.props.Pairwise PR.Apart
 ZoT:∀ x∈g.ns,∀ y∈g.rs,∀ k,x.blocks k->¬ y.blocks k
theorem ZgO {F:Nat->Prop} (w:World) (g:GR) (h:RdG w F g) (hz:ZbJ g) :
 Calls Tryz.prog 35 #[g.agg] w fun e w'=>∃ g':GR,e=.returned g'.agg/\Hid (g'.dat=ZdD g.dat)/\Hid (OwnG w' w.heap.size g')/\Hid (Zqw g')/\Same w w':=by
 obtain ⟨ns,AN,nN,cN,rs,AR,nR,cR⟩:=g
 have hs0:=((Upd.refl (fun _=>False) w).alloc (.cells #[.slice AN nN cN,.slice AR nR cR] 26)).alloc (.cells #[.slice none 0 0,.slice none 0 0] 26)
 have HB0:=qH ((Blk.new w 26 #[.slice AN nN cN,.slice AR nR cR]).alloc (.cells #[.slice none 0 0,.slice none 0 0] 26))
 have hb2:=Blk.new (w.alloc (.cells #[.slice AN nN cN,.slice AR nR cR] 26)) 26 #[.slice none 0 0,.slice none 0 0]
 rw [World.size_alloc] at hb2
 have HB2:=qH hb2
 have HR1:=qH (h.same hs0)
 have H1:=qH (h.same hs0).nodes.row
 have H2:=qH (h.same hs0).rels.row
 simp only at H1 H2
 have hnN:nN*56<=140737488351232:=hz.nN
 have hnR:nR*64<=140737488351232:=hz.nR
 have HZ:=qH hz
 have HLN:Hid (ns.length=nN):=qH h.nodes.len
 have HLR:Hid (rs.length=nR):=qH h.rels.len
 have HS0:=qH hs0
 have hz0:=hs0.size
 clear h hs0 hb2 hz
 go_enter Tryz.func35,Tryz.ntmps35
 go_upto_region 1 with fail
 generalize (w.alloc (.cells #[.slice AN nN cN,.slice AR nR cR] 26)).alloc (.cells #[.slice none 0 0,.slice none 0 0] 26)=w1 at *
 have h00:Same w1 w1.drew:=(Upd.refl _ w1).drew
 go_cut [3] from 3 to 13 (fun s3 wx=>∃ g A1 c1 A2 c2,s3=.pointer (some ⟨g,0,none⟩)/\Hid (Blk wx g 26 #[.slice A1 nN c1,.slice A2 nR c2])/\Hid (wx.ownsRow w1.heap.size 43 3 (.slice A1 nN c1) nN (ns.flatMap ND.cells))/\Hid (wx.ownsRow w1.heap.size 50 5 (.slice A2 nR c2) nR (rs.flatMap RL.cells))/\Hid (Same w1 wx)/\w1.heap.size<=g)
 case first =>
  go_region_held3 (fun wx=>Same w1 wx/\wx.cell? ⟨w.heap.size,0,none⟩=some (.slice AN nN cN)/\wx.cell? ⟨w.heap.size,1,none⟩=some (.slice AR nR cR)) (exact keepC HB0 (by first | assumption | exact Upd.alloc (by assumption) _ | exact Upd.putNew (Upd.putNew (by assumption) (by first | omega | (simp;done) | (simp;omega)) _) (by first | omega | (simp;done) | (simp;omega)) _ | exact Upd.putNew (Upd.putNew (Upd.alloc (by assumption) _) (by first | omega | (simp;done) | (simp;omega)) _) (by first | omega | (simp;done) | (simp;omega)) _)) (first
   | (go_at_call 63;refine (Zio w1 _ (by first | assumption | exact Upd.alloc (by assumption) _) H1.out (by omega)).mono ?_;rintro e w' ⟨A1,c1,rfl,hO1,hs,hs3⟩;(have hz:=hs3.size);(try (have q2:=(by first | exact qb.same hs | exact qb.drew.same hs:Blk w' _ 26 _);have u0:=q2.cell 0;have u1:=q2.cell 1;have v0:=q2.frozen 0;have v1:=q2.frozen 1));(try (have qb:=(by first | exact (Blk.new _ 26 _).same hs | exact (Blk.new _ 26 _).drew.same hs:Blk w' _ 26 _);have q0:=qb.cell 0;have q1:=qb.cell 1;have f0:=qb.frozen 0;have f1:=qb.frozen 1)))
   | (go_at_call 64;refine (Zjr w1 _ (by first | assumption | exact Upd.alloc (by assumption) _) H2.out (by omega)).mono ?_;rintro e w' ⟨A2,c2,rfl,hO2,hs,hs3⟩;(have hz:=hs3.size);(try (have q2:=(by first | exact qb.same hs | exact qb.drew.same hs:Blk w' _ 26 _);have u0:=q2.cell 0;have u1:=q2.cell 1;have v0:=q2.frozen 0;have v1:=q2.frozen 1));(try (have qb:=(by first | exact (Blk.new _ 26 _).same hs | exact (Blk.new _ 26 _).drew.same hs:Blk w' _ 26 _);have q0:=qb.cell 0;have q1:=qb.cell 1;have f0:=qb.frozen 0;have f1:=qb.frozen 1))))
  all_goals go_wp2
  all_goals go_meet
  all_goals refine ⟨_,A1,c1,A2,c2,rfl,qH ?_,qH ?_,qH ?_,qH ?_,?_⟩
  all_goals first
   | exact Blk.new _ _ _
   | exact ((q2.put 0 _).put 1 _)
   | exact ((qb.put 0 _).put 1 _)
   | exact (Zad hO1.out (by first | omega | (simp;done) | (simp;omega))).alloc _
   | exact ZaM (Zad hO1.out (by first | omega | (simp;done) | (simp;omega))) (Blk.ne_own qb hO1.out (by decide))
   | exact ZaM (Zad hO1.out (by first | omega | (simp;done) | (simp;omega))) (Blk.ne_own q2 hO1.out (by decide))
   | exact (Zad (Zaa hO1.out hs) (by first | omega | (simp;done) | (simp;omega))).alloc _
   | exact ZaM (Zad (Zaa hO1.out hs) (by first | omega | (simp;done) | (simp;omega))) (Blk.ne_own qb (Zaa hO1.out hs) (by decide))
   | exact ZaM (Zad (Zaa hO1.out hs) (by first | omega | (simp;done) | (simp;omega))) (Blk.ne_own q2 (Zaa hO1.out hs) (by decide))
   | exact (Zad (Zaa hO1.out (((Upd.refl _ _).alloc _).same hs)) (by first | omega | (simp;done) | (simp;omega))).alloc _
   | exact ZaM (Zad (Zaa hO1.out (((Upd.refl _ _).alloc _).same hs)) (by first | omega | (simp;done) | (simp;omega))) (Blk.ne_own qb (Zaa hO1.out (((Upd.refl _ _).alloc _).same hs)) (by decide))
   | exact ZaM (Zad (Zaa hO1.out (((Upd.refl _ _).alloc _).same hs)) (by first | omega | (simp;done) | (simp;omega))) (Blk.ne_own q2 (Zaa hO1.out (((Upd.refl _ _).alloc _).same hs)) (by decide))
   | exact (Zad (Zaa hO1.out (((Upd.refl _ _).drew).same hs)) (by first | omega | (simp;done) | (simp;omega))).alloc _
   | exact ZaM (Zad (Zaa hO1.out (((Upd.refl _ _).drew).same hs)) (by first | omega | (simp;done) | (simp;omega))) (Blk.ne_own qb (Zaa hO1.out (((Upd.refl _ _).drew).same hs)) (by decide))
   | exact ZaM (Zad (Zaa hO1.out (((Upd.refl _ _).drew).same hs)) (by first | omega | (simp;done) | (simp;omega))) (Blk.ne_own q2 (Zaa hO1.out (((Upd.refl _ _).drew).same hs)) (by decide))
   | exact (Zad (Zaa hO1.out ((((Upd.refl _ _).alloc _).drew).same hs)) (by first | omega | (simp;done) | (simp;omega))).alloc _
   | exact ZaM (Zad (Zaa hO1.out ((((Upd.refl _ _).alloc _).drew).same hs)) (by first | omega | (simp;done) | (simp;omega))) (Blk.ne_own qb (Zaa hO1.out ((((Upd.refl _ _).alloc _).drew).same hs)) (by decide))
   | exact ZaM (Zad (Zaa hO1.out ((((Upd.refl _ _).alloc _).drew).same hs)) (by first | omega | (simp;done) | (simp;omega))) (Blk.ne_own q2 (Zaa hO1.out ((((Upd.refl _ _).alloc _).drew).same hs)) (by decide))
   | exact (Zad hO2.out (by first | omega | (simp;done) | (simp;omega))).alloc _
   | exact ZaM (Zad hO2.out (by first | omega | (simp;done) | (simp;omega))) (Blk.ne_own qb hO2.out (by decide))
   | exact ZaM (Zad hO2.out (by first | omega | (simp;done) | (simp;omega))) (Blk.ne_own q2 hO2.out (by decide))
   | exact (Zad (Zaa hO2.out hs) (by first | omega | (simp;done) | (simp;omega))).alloc _
   | exact ZaM (Zad (Zaa hO2.out hs) (by first | omega | (simp;done) | (simp;omega))) (Blk.ne_own qb (Zaa hO2.out hs) (by decide))
   | exact ZaM (Zad (Zaa hO2.out hs) (by first | omega | (simp;done) | (simp;omega))) (Blk.ne_own q2 (Zaa hO2.out hs) (by decide))
   | exact (Zad (Zaa hO2.out (((Upd.refl _ _).alloc _).same hs)) (by first | omega | (simp;done) | (simp;omega))).alloc _
   | exact ZaM (Zad (Zaa hO2.out (((Upd.refl _ _).alloc _).same hs)) (by first | omega | (simp;done) | (simp;omega))) (Blk.ne_own qb (Zaa hO2.out (((Upd.refl _ _).alloc _).same hs)) (by decide))
   | exact ZaM (Zad (Zaa hO2.out (((Upd.refl _ _).alloc _).same hs)) (by first | omega | (simp;done) | (simp;omega))) (Blk.ne_own q2 (Zaa hO2.out (((Upd.refl _ _).alloc _).same hs)) (by decide))
   | exact (Zad (Zaa hO2.out (((Upd.refl _ _).drew).same hs)) (by first | omega | (simp;done) | (simp;omega))).alloc _
   | exact ZaM (Zad (Zaa hO2.out (((Upd.refl _ _).drew).same hs)) (by first | omega | (simp;done) | (simp;omega))) (Blk.ne_own qb (Zaa hO2.out (((Upd.refl _ _).drew).same hs)) (by decide))
   | exact ZaM (Zad (Zaa hO2.out (((Upd.refl _ _).drew).same hs)) (by first | omega | (simp;done) | (simp;omega))) (Blk.ne_own q2 (Zaa hO2.out (((Upd.refl _ _).drew).same hs)) (by decide))
   | exact (Zad (Zaa hO2.out ((((Upd.refl _ _).alloc _).drew).same hs)) (by first | omega | (simp;done) | (simp;omega))).alloc _
   | exact ZaM (Zad (Zaa hO2.out ((((Upd.refl _ _).alloc _).drew).same hs)) (by first | omega | (simp;done) | (simp;omega))) (Blk.ne_own qb (Zaa hO2.out ((((Upd.refl _ _).alloc _).drew).same hs)) (by decide))
   | exact ZaM (Zad (Zaa hO2.out ((((Upd.refl _ _).alloc _).drew).same hs)) (by first | omega | (simp;done) | (simp;omega))) (Blk.ne_own q2 (Zaa hO2.out ((((Upd.refl _ _).alloc _).drew).same hs)) (by decide))
   | exact Upd.alloc (by assumption) _
   | exact Upd.putNew (Upd.putNew (by assumption) (by first | omega | (simp;done) | (simp;omega)) _) (by first | omega | (simp;done) | (simp;omega)) _
   | omega
   | (simp;done)
   | (simp;omega)
 obtain ⟨g,A1,c1,A2,c2,rfl,KB,KO1,KO2,KS,hg⟩:=hcut
 clear HB0 H1 H2 h00
 have p0:wc.cell? ⟨g,0,none⟩=some (.slice A1 nN c1):=KB.out.cell 0
 go_wp2_with fail
 clear p0
 go_loopg [17] nN (fun gh ix wr=>∃ (i:Nat) (l1:List ND),nN-i=gh/\i<=nN/\ix=.int .i64 i/\Hid (l1.length=i)/\Hid (l1.map ND.dat=(ns.take i).map fun x=>canN x.dat)/\Hid (∀ x∈l1,ZcY wr w1.heap.size x)/\Hid (l1.Pairwise ND.Apart/\∀ x∈l1,x.Fine) /\
  Hid (wr.ownsRow w1.heap.size 43 3 (.slice A1 nN c1) nN ((l1++ns.drop i).flatMap ND.cells))/\Hid (wr.ownsRow w1.heap.size 50 5 (.slice A2 nR c2) nR (rs.flatMap RL.cells))/\Hid (Blk wr g 26 #[.slice A1 nN c1,.slice A2 nR c2])/\Hid (Same w1 wr))
 case atStart=>exact ⟨0,[],rfl,Nat.zero_le _,rfl,qH rfl,qH rfl,qH (by simp),qH ⟨List.Pairwise.nil,by simp⟩,KO1,KO2,KB,KS⟩
 clear KB KO1 KO2 KS
 obtain ⟨i,l1,rfl,hi,rfl,KL,KD,KE,KA,KN,KR,KB,KS⟩:=hrel
 have p0:wr.cell? ⟨g,0,none⟩=some (.slice A1 nN c1):=KB.out.cell 0
 by_cases hlt:i<nN
 · obtain ⟨x,hx⟩:∃ x,ns[i]?=some x:=⟨_,List.getElem?_eq_getElem (by rw [HLN.out];exact hlt)⟩
   have hxm:x∈ns:=List.mem_of_getElem? hx
   have hO:=KN.out
   rw [ZpI hx] at hO
   obtain ⟨g1,rfl,hB,hg1,_,hAx,hFx,_,_⟩:=Zjs hO KL.out
   have HXL:=qH ((HR1.out.same KS.out).nodes.lab x hxm)
   have HXP:=qH (HR1.out.nodes.pro x hxm)
   have HXI:=qH (HR1.out.nodes.id x hxm)
   have HXZ:=qH (HZ.out.ns x hxm)
   have HXD:=qH (show (ns.take (i+1)).map (fun x=>canN x.dat)=(ns.take i).map (fun x=>canN x.dat)++[canN x.dat] from by rw [List.take_add_one,hx];simp)
   have HO:=qH hO
   have hzr:=KS.out.size
   obtain ⟨c0,c1',c2'⟩:=hAx
   clear hx hxm hO hFx
   go_upto_region 6 with fail
   go_wp2_with fail
   refine (ZhN wr HXL.out (by have:=HXZ.out.nL;omega)).mono ?_
   rintro e w2 ⟨Y,d,rfl,HY,hs2⟩
   clear c0 c1' c2' p0
   obtain ⟨_,hA,_,hg2,_,hAx2,hFx2,s4,_⟩:=Zjs (Zaa HO.out hs2) KL.out
   injection hA with hA
   injection hA with hA _ _
   subst hA
   have hz2:=hs2.size
   have h4:(w2.setCell ⟨g1,i*3+1,none⟩ (.slice Y x.nL d)).ownsRow w1.heap.size 43 3 (.slice (some ⟨g1,0,none⟩) nN c1) nN ((l1++{ x with AL:=Y,cL:=d,labels:=ZgM x.labels }::ns.drop (i+1)).flatMap ND.cells):=s4 Y d _
   have hne:(Value.slice Y x.nL d).ownBlock≠some g1:=fun e=>by have:=(HY.out.lt _ e).1;omega
   have hu3:=(Upd.refl (fun b=>b=g1) w2).put1 (i:=i*3+1) (.slice Y x.nL d)
   have hT2:=Zaq (Zaa HO.out hs2) (g:=g1) rfl
   have hgg:g≠g1:=fun e=>by
    have h1:=(KB.out.same hs2).ne_own (Zaa HO.out hs2) (by decide)
    exact h1 (by rw [e];rfl)
   have HNEW:Hid (∀ y∈l1,(∀ k,(Value.slice y.AL y.nL y.cL).ownBlock=some k->¬ (Value.slice Y x.nL d).ownBlock=some k)/\∀ z∈y.props,∀ k,(Value.slice z.A2 z.n2 z.c2).ownBlock=some k->¬ (Value.slice Y x.nL d).ownBlock=some k):=qH fun y hy=>⟨fun k hk hh=>by have h1:=(HY.out.lt k hh).1;have h2:=((KE.out y hy).lab.lt k hk).2;omega,fun z hz k hk hh=>by have h1:=(HY.out.lt k hh).1;have h2:=(((KE.out y hy).pro.each z hz).texts.lt k hk).2;omega⟩
   have HOLD:Hid (∀ y∈l1,∀ k,y.blocks k->k<wr.heap.size):=qH fun y hy k hk=>((KE.out y hy).blk hk).2
   have HNB1:Hid (∀ k,(Value.slice Y x.nL d).ownBlock=some k->wr.heap.size<=k):=qH fun k hk=>(HY.out.lt k hk).1
   have hz3:wr.heap.size<=(w2.setCell ⟨g1,i*3+1,none⟩ (.slice Y x.nL d)).heap.size:=Nat.le_trans hz2 hu3.size
   have HO3:=qH h4
   have HY3:=qH (Zam (Zad (base':=w1.heap.size) HY.out (by omega)) hu3 fun k hk hh=>hne (by rw [hk,hh]))
   have HE3:=qH (fun y hy=>((KE.out y hy).same hs2).type hu3 (fun k _ hk=>by rw [hk];exact hT2) (by decide) (by decide) (by decide))
   have HR3:=qH (ZaT (Zaa KR.out hs2) hu3 (fun k _ hk=>by rw [hk];exact hT2) (by decide))
   have HB3:=qH ((KB.out.same hs2).upd hu3 hgg)
   have HS3:=qH ((KS.out.same hs2).trans hu3 fun b hb hh=>by subst hh;omega)
   obtain ⟨e0,e1,e2⟩:=hAx2
   obtain ⟨f0,f1,f2⟩:=hFx2
   clear hs2 s4 h4 hne hu3 hT2 KB KE KR KS KN HO HY HXL
   go_upto_region 7 with fail
   clear e0 e1 e2 f0 f1 f2
   generalize w2.setCell ⟨g1,i*3+1,none⟩ (.slice Y x.nL d)=w3 at *
   obtain ⟨_,hA,_,hg3,_,hAx3,hFx3,_,_⟩:=Zjs HO3.out KL.out
   injection hA with hA
   injection hA with hA _ _
   subst hA
   have e1:w3.cell? ⟨g1,i*3+1,none⟩=some (.slice Y x.nL d):=hAx3.2.1
   clear hAx3 hFx3
   go_wp2_with fail
   refine (Zjq w3 HY3.out (by have:=HXZ.out.nL;omega)).mono ?_
   rintro e w4 ⟨rfl,h41,h42⟩
   clear e1
   have hT4:∀ k,k<w3.heap.size->(Value.slice Y x.nL d).ownBlock=some k->OfT w3 9 k:=fun k _ hk=>Zaq HY3.out hk
   have HO4:=qH (ZaT HO3.out h42 hT4 (by decide))
   have HE4:Hid (∀ y∈l1,ZcY w4 w1.heap.size y):=qH fun y hy=>by
    have h1:=HE3.out y hy
    refine ⟨Zam h1.lab h42 fun k hk hh=>?_,⟨ZaT h1.pro.row h42 hT4 (by decide),fun z hz=>⟨ZaT (h1.pro.each z hz).nums h42 hT4 (by decide),Zam (h1.pro.each z hz).texts h42 fun k hk hh=>?_,(h1.pro.each z hz).fits⟩⟩,h1.id⟩
    · have:=HNEW.out y hy
      exact this.1 k hk hh
    have:=HNEW.out y hy
    exact this.2 z hz k hk hh
   have HR4:=qH (ZaT HR3.out h42 hT4 (by decide))
   have HB4:=qH (HB3.out.upd h42 fun hh=>HB3.out.ne_own HY3.out (by decide) hh)
   have hz34:wr.heap.size<=w4.heap.size:=Nat.le_trans hz3 h42.size
   have HS4:=qH (HS3.out.trans h42 fun b hb hh=>by have:=(HY3.out.lt b hh).1;omega)
   have HY4:=qH h41
   clear h41 h42 hT4 HO3 HE3 HR3 HB3 HS3 HY3
   obtain ⟨_,hA,_,hg4,_,hAx4,hFx4,_,_⟩:=Zjs HO4.out KL.out
   injection hA with hA
   injection hA with hA _ _
   subst hA
   have e2:w4.cell? ⟨g1,i*3+2,none⟩=some (.slice x.AP x.nP x.cP):=hAx4.2.2
   clear hAx4 hFx4
   go_wp2_with fail
   refine (ZdE w4 (HXP.out.same HS4.out) HXZ.out.pro.small).mono ?_
   rintro e w5 ⟨A5,c5,ps5,rfl,HD5,HP5,HPA5,hs5⟩
   clear e2
   have HFN:Hid (ND.Fine ⟨x.id,ZgM x.labels,Y,x.nL,d,ps5,A5,x.nP,c5⟩):=qH ⟨HPA5.out,fun k hk p hp hb=>by
    have h1:=(HY4.out.lt k hk).2
    have h2:=((HP5.out.each p hp).blk hb).1
    omega⟩
   have HNB:Hid (∀ k,ND.blocks ⟨x.id,ZgM x.labels,Y,x.nL,d,ps5,A5,x.nP,c5⟩ k->wr.heap.size<=k):=qH fun k hk=>by
    rcases hk with hk | hk
    · exact HNB1.out k hk
    have:=(HP5.out.blk hk).1
    omega
   obtain ⟨_,hA,_,hg5,_,hAx5,hFx5,_,s5⟩:=Zjs (Zaa HO4.out hs5) KL.out
   injection hA with hA
   injection hA with hA _ _
   subst hA
   have hz4:=HS4.out.size
   have h6:(w5.setCell ⟨g1,i*3+2,none⟩ (.slice A5 x.nP c5)).ownsRow w1.heap.size 43 3 (.slice (some ⟨g1,0,none⟩) nN c1) nN ((l1++⟨x.id,ZgM x.labels,Y,x.nL,d,ps5,A5,x.nP,c5⟩::ns.drop (i+1)).flatMap ND.cells):=s5 A5 c5 ps5
   have hu6:=(Upd.refl (fun b=>b=g1) w5).put1 (i:=i*3+2) (.slice A5 x.nP c5)
   have hT5:=Zaq (Zaa HO4.out hs5) (g:=g1) rfl
   have hS6:∀ k,k<w5.heap.size->k=g1->OfT w5 43 k:=fun k _ hk=>by rw [hk];exact hT5
   have HO6:=qH h6
   have HE6:=qH (fun y hy=>((HE4.out y hy).same hs5).type hu6 hS6 (by decide) (by decide) (by decide))
   have HR6:=qH (ZaT (Zaa HR4.out hs5) hu6 hS6 (by decide))
   have HB6:=qH ((HB4.out.same hs5).upd hu6 hgg)
   have HS6:=qH ((HS4.out.same hs5).trans hu6 fun b hb hh=>by subst hh;omega)
   have HX6:=qH (show ZcY _ w1.heap.size ⟨x.id,ZgM x.labels,Y,x.nL,d,ps5,A5,x.nP,c5⟩ from ⟨ZaT (Zaa HY4.out hs5) hu6 hS6 (by decide),(HP5.out.base (B':=w1.heap.size) (by omega)).type hu6 hS6 (by decide) (by decide) (by decide),HXI.out⟩)
   obtain ⟨e0,e1,e2⟩:=hAx5
   obtain ⟨f0,f1,f2⟩:=hFx5
   clear hs5 s5 h6 hu6 hT5 hS6 HO4 HE4 HR4 HB4 HS4 HY4 HP5
   go_upto_region 9 with fail
   clear e0 e1 e2 f0 f1 f2
   generalize w5.setCell ⟨g1,i*3+2,none⟩ (.slice A5 x.nP c5)=w6 at *
   go_wp2
   go_roundg (nN-(i+1))
   case measure=>omega
   refine ⟨i+1,l1++[⟨x.id,ZgM x.labels,Y,x.nL,d,ps5,A5,x.nP,c5⟩],rfl,by omega,by go_num,qH (by rw [List.length_append,KL.out];rfl),qH ?_,qH fun y hy=>?_,qH ⟨Zky KA.1 fun y hy k h1 h2=>by have h3:=HOLD.out y hy k h1;have h4:=HNB.out k h2;omega,fun y hy=>?_⟩,qH (by rw [List.append_assoc];exact HO6.out),HR6,HB6,HS6⟩
   · rw [List.map_append,KD.out,HXD.out]
     simp only [List.map_cons,List.map_nil,ND.dat,canN,HD5.out]
   · rcases List.mem_append.1 hy with hy | hy
     · exact HE6.out y hy
     obtain rfl:=List.mem_singleton.1 hy
     exact HX6.out
   rcases List.mem_append.1 hy with hy | hy
   · exact KA.2 y hy
   obtain rfl:=List.mem_singleton.1 hy
   exact HFN.out
 obtain rfl:i=nN:=by omega
 have hO:=KN.out
 rw [List.drop_of_length_le (by rw [HLN.out];exact Nat.le_refl _),List.append_nil] at hO
 have hD:=KD.out
 rw [List.take_of_length_le (by rw [HLN.out];exact Nat.le_refl _)] at hD
 have KN2:=qH hO
 have KD2:=qH hD
 have p1:wr.cell? ⟨g,1,none⟩=some (.slice A2 nR c2):=KB.out.cell 1
 clear hO hD KN KD p0 hlt hi
 obtain ⟨wo,rfl⟩:∃ wo:World,wo=wr:=⟨_,rfl⟩
 have HNL:Hid (∀ x∈l1,∀ k,x.blocks k->k<wo.heap.size):=qH fun y hy k hk=>((KE.out y hy).blk hk).2
 go_wp2_with fail
 clear p1
 go_loopg [49] nR (fun gh ix wx=>∃ (j:Nat) (l2:List RL),nR-j=gh/\j<=nR/\ix=.int .i64 j/\Hid (l2.length=j)/\Hid (l2.map RL.dat=(rs.take j).map fun x=>canR x.dat)/\Hid (∀ y∈l2,Zdr wx w1.heap.size y)/\Hid (l2.Pairwise RL.Apart/\(∀ y∈l2,y.props.Pairwise PR.Apart)/\∀ y∈l2,∀ k,y.blocks k->wo.heap.size<=k)/\wo.heap.size<=wx.heap.size/\Hid (∀ x∈l1,ZcY wx w1.heap.size x) /\
  Hid (wx.ownsRow w1.heap.size 43 3 (.slice A1 i c1) i (l1.flatMap ND.cells))/\Hid (wx.ownsRow w1.heap.size 50 5 (.slice A2 nR c2) nR ((l2++rs.drop j).flatMap RL.cells))/\Hid (Blk wx g 26 #[.slice A1 i c1,.slice A2 nR c2])/\Hid (Same w1 wx))
 case atStart=>exact ⟨0,[],rfl,Nat.zero_le _,rfl,qH rfl,qH rfl,qH (by simp),qH ⟨List.Pairwise.nil,by simp,by simp⟩,Nat.le_refl _,KE,KN2,KR,KB,KS⟩
 clear KE KN2 KR KB KS
 obtain ⟨j,l2,rfl,hj,rfl,KL2,KD3,KF,KA2,hwo,KE,KN,KR,KB,KS⟩:=hrel
 by_cases hlt:j<nR
 · obtain ⟨x,hx⟩:∃ x,rs[j]?=some x:=⟨_,List.getElem?_eq_getElem (by rw [HLR.out];exact hlt)⟩
   have hxm:x∈rs:=List.mem_of_getElem? hx
   have hO:=KR.out
   rw [ZpJ hx] at hO
   obtain ⟨g2,rfl,hB,hg2,_,hAx,hFx,s5⟩:=Zpk hO KL2.out
   have HXP:=qH (HR1.out.rels.pro x hxm)
   have HXI:=qH (HR1.out.rels.id x hxm)
   have HXZ:=qH (HZ.out.rs x hxm)
   have HXD:=qH (show (rs.take (j+1)).map (fun x=>canR x.dat)=(rs.take j).map (fun x=>canR x.dat)++[canR x.dat] from by rw [List.take_add_one,hx];simp)
   have HO:=qH hO
   have HAx:=qH hAx
   have HFx:=qH hFx
   have hgg:g≠g2:=fun e=>KB.out.ne_own hO (by decide) (by rw [e];rfl)
   have hj3:(0:Int)<=(j:Int):=by omega
   have hj4:(j:Int)<(nR:Int):=by omega
   clear hx hxm hO hAx hFx s5
   go_upto_region 13 with fail
   have s0:Same wr wr.drew:=(Upd.refl _ wr).drew
   refine ZaX 12 (fun wx=>wx.cell? ⟨g,1,none⟩=some (.slice (some ⟨g2,0,none⟩) nR c2)/\wx.cell? ⟨g2,j*5+4,none⟩=some (.slice x.AP x.nP x.cP)) (by kernel_rfl) (Zqv KB HAx hg2 s0) (fun hHeld=>?_)
   repeat
    first
     | refine ESt.take (i:=0) (v:=?_) (by decide +kernel) rfl (by decide +kernel) (fun _ _ _ h=>h) (Or.inl ⟨by rfl,?_⟩) (by assumption) ?_
     | refine ESt.take (i:=1) (v:=?_) (by decide +kernel) rfl (by decide +kernel) (fun _ _ _ h=>h) (Or.inl ⟨by rfl,?_⟩) (by assumption) ?_
     | refine ESt.take (i:=2) (v:=?_) (by decide +kernel) rfl (by decide +kernel) (fun _ _ _ h=>h) (Or.inl ⟨by rfl,?_⟩) (by assumption) ?_
     | refine ESt.take (i:=3) (v:=?_) (by decide +kernel) rfl (by decide +kernel) (fun _ _ _ h=>h) (Or.inl ⟨by rfl,?_⟩) (by assumption) ?_
     | refine ESt.take (i:=4) (v:=?_) (by decide +kernel) rfl (by decide +kernel) (fun _ _ _ h=>h) (Or.inl ⟨by rfl,?_⟩) (by assumption) ?_
     | refine ESt.take (i:=5) (v:=?_) (by decide +kernel) rfl (by decide +kernel) (fun _ _ _ h=>h) (Or.inl ⟨by rfl,?_⟩) (by assumption) ?_
     | refine ESt.take (i:=6) (v:=?_) (by decide +kernel) rfl (by decide +kernel) (fun _ _ _ h=>h) (Or.inl ⟨by rfl,?_⟩) (by assumption) ?_
     | refine ESt.take (i:=7) (v:=?_) (by decide +kernel) rfl (by decide +kernel) (fun _ _ _ h=>h) (Or.inl ⟨by rfl,?_⟩) (by assumption) ?_
     | refine ESt.take (i:=8) (v:=?_) (by decide +kernel) rfl (by decide +kernel) (fun _ _ _ h=>h) (Or.inl ⟨by rfl,?_⟩) (by assumption) ?_
    rotate_left
    · intro wx hSw;obtain ⟨h0,h1⟩:=hSw;go_simp;try with_reducible rfl
    simp only [Act.put,List.setIfInBounds_toArray]
   refine ESt.branch (rs:=[9]) (by decide +kernel) (by decide +kernel) ?_
   refine AllE.cons rfl (fun K hK=>?_) AllE.nil
   go_simp
   refine (ZdE _ (HXP.out.same (KS.out.same s0)) HXZ.out.pro.small).mono ?_
   rintro e w5 ⟨A5,c5,ps5,rfl,HD5,HP5,HPA5,hs5⟩
   have HNB:Hid (∀ k,RL.blocks ⟨x.id,x.type,x.src,x.dst,ps5,A5,x.nP,c5⟩ k->wr.heap.size<=k):=qH fun k hk=>by
    have:=(HP5.out.blk hk).1
    simp only [World.size_drew] at this
    exact this
   have s5:Same wr w5:=s0.same hs5
   have hz5:=KS.out.size
   have HP5':=qH (HP5.out.base (B':=w1.heap.size) (by simp only [World.size_drew];omega))
   clear HP5 hs5
   go_wp2_with fail
   refine hK.out _ _ (Zqv KB HAx hg2 s5) (fun hHeld=>?_)
   clear hK K
   refine ESt.take (i:=10) (v:=?_) (by decide +kernel) rfl (by decide +kernel) (fun _ _ _ h=>h) (Or.inl ⟨by rfl,?_⟩) (by assumption) ?_
   rotate_left
   · intro wx hSw;obtain ⟨h0,h1⟩:=hSw;go_simp;try with_reducible rfl
   simp only [Act.put,List.setIfInBounds_toArray]
   refine ESt.take (i:=11) (v:=?_) (by decide +kernel) rfl (by decide +kernel) (fun _ _ _ h=>h) (Or.inl ⟨by rfl,?_⟩) (by assumption) ?_
   rotate_left
   · intro wx hSw;obtain ⟨h0,h1⟩:=hSw;go_simp;try with_reducible rfl
   simp only [Act.put]
   have hO5:=Zaa HO.out s5
   obtain ⟨_,hA,_,hg5,_,hAx5,hFx5,t5⟩:=Zpk hO5 KL2.out
   injection hA with hA
   injection hA with hA _ _
   subst hA
   have h6:(w5.setCell ⟨g2,j*5+4,none⟩ (.slice A5 x.nP c5)).ownsRow w1.heap.size 50 5 (.slice (some ⟨g2,0,none⟩) nR c2) nR ((l2++⟨x.id,x.type,x.src,x.dst,ps5,A5,x.nP,c5⟩::rs.drop (j+1)).flatMap RL.cells):=t5 A5 c5 ps5
   have hu6:=(Upd.refl (fun b=>b=g2) w5).put1 (i:=j*5+4) (.slice A5 x.nP c5)
   have hT5:=Zaq hO5 (g:=g2) rfl
   have hS6:∀ k,k<w5.heap.size->k=g2->OfT w5 50 k:=fun k _ hk=>by rw [hk];exact hT5
   have HO6:=qH h6
   have HF6:=qH (fun y hy=>((KF.out y hy).same s5).type hu6 hS6 (by decide) (by decide) (by decide))
   have HE6:=qH (fun y hy=>((KE.out y hy).same s5).type hu6 hS6 (by decide) (by decide) (by decide))
   have HN6:=qH (ZaT (Zaa KN.out s5) hu6 hS6 (by decide))
   have HB6:=qH ((KB.out.same s5).upd hu6 hgg)
   have hzw6:wo.heap.size<=(w5.setCell ⟨g2,j*5+4,none⟩ (.slice A5 x.nP c5)).heap.size:=Nat.le_trans (Nat.le_trans hwo s5.size) hu6.size
   have HOLD:Hid (∀ y∈l2,∀ k,y.blocks k->k<wr.heap.size):=qH fun y hy k hk=>((KF.out y hy).blk hk).2
   have HS6:=qH ((KS.out.same s5).trans hu6 fun b hb hh=>by subst hh;omega)
   have HX6:=qH (show Zdr _ w1.heap.size ⟨x.id,x.type,x.src,x.dst,ps5,A5,x.nP,c5⟩ from ⟨HP5'.out.type hu6 hS6 (by decide) (by decide) (by decide),HXI.out⟩)
   have r3:w5.cell? ⟨g2,j*5+4,none⟩=some (.slice x.AP x.nP x.cP):=hAx5.2.2.2.2
   have z3:w5.frozen? ⟨g2,j*5+4,none⟩=false:=hFx5.2.2.2.2
   clear hO5 hAx5 hFx5 t5 h6 hu6 hT5 hS6
   refine ESt.last (by decide +kernel) (by decide +kernel) rfl (fun K hK=>?_) _
   go_simp
   refine hK.out _ _ ?_
   clear hK K r3 z3 hHeld s0 s5
   generalize w5.setCell ⟨g2,j*5+4,none⟩ (.slice A5 x.nP c5)=w6 at *
   go_wp2
   go_roundg (nR-(j+1))
   case measure=>omega
   refine ⟨j+1,l2++[⟨x.id,x.type,x.src,x.dst,ps5,A5,x.nP,c5⟩],rfl,by omega,by go_num,qH (by rw [List.length_append,KL2.out];rfl),qH ?_,qH fun y hy=>?_,qH ⟨Zky KA2.1 fun y hy k h1 h2=>by have h3:=HOLD.out y hy k h1;have h4:=HNB.out k h2;omega,fun y hy=>?_,fun y hy k hk=>?_⟩,hzw6,HE6,HN6,qH (by rw [List.append_assoc];exact HO6.out),HB6,HS6⟩
   · rw [List.map_append,KD3.out,HXD.out]
     simp only [List.map_cons,List.map_nil,RL.dat,canR,HD5.out]
   · rcases List.mem_append.1 hy with hy | hy
     · exact HF6.out y hy
     obtain rfl:=List.mem_singleton.1 hy
     exact HX6.out
   · rcases List.mem_append.1 hy with hy | hy
     · exact KA2.2.1 y hy
     obtain rfl:=List.mem_singleton.1 hy
     exact HPA5.out
   rcases List.mem_append.1 hy with hy | hy
   · exact KA2.2.2 y hy k hk
   obtain rfl:=List.mem_singleton.1 hy
   exact Nat.le_trans hwo (HNB.out k hk)
 obtain rfl:j=nR:=by omega
 have hO:=KR.out
 rw [List.drop_of_length_le (by rw [HLR.out];exact Nat.le_refl _),List.append_nil] at hO
 have hD:=KD3.out
 rw [List.take_of_length_le (by rw [HLR.out];exact Nat.le_refl _)] at hD
 have KR2:=qH hO
 have KD4:=qH hD
 have p0:wr.cell? ⟨g,0,none⟩=some (.slice A1 i c1):=KB.out.cell 0
 clear hO hD KR KD3 hlt hj
 go_wp2_with fail
 refine (ZpG wr KN.out (by omega)).mono ?_
 rintro e w9 ⟨rfl,s1,h1,h2,h3',h4⟩
 have h3:Zah ND.id s1 l1:=Zfi h3'
 have hT:∀ k,k<wr.heap.size->(Value.slice A1 i c1).ownBlock=some k->OfT wr 43 k:=fun k _ hk=>Zaq KN.out hk
 have HN9:=qH h1
 have HSN:=qH (And.intro h2 h3)
 have HE9:=qH (fun y hy=>(KE.out y hy).type h4 hT (by decide) (by decide) (by decide))
 have HF9:=qH (fun y hy=>(KF.out y hy).type h4 hT (by decide) (by decide) (by decide))
 have HR9:=qH (ZaT KR2.out h4 hT (by decide))
 have HB9:=qH (KB.out.upd h4 fun hh=>KB.out.ne_own KN.out (by decide) hh)
 have HS9:=qH (KS.out.trans h4 fun b hb hh=>by have:=(KN.out.lt b hh).1;omega)
 have p1:w9.cell? ⟨g,1,none⟩=some (.slice A2 j c2):=HB9.out.cell 1
 clear h1 h2 h3 h3' h4 hT KE KF KR2 KB KS KN p0
 go_wp2_with fail
 refine (ZpH w9 HR9.out (by omega)).mono ?_
 rintro e w10 ⟨rfl,s2,h1,h2,h3',h4⟩
 have h3:Zah RL.id s2 l2:=Zfi h3'
 have hT:∀ k,k<w9.heap.size->(Value.slice A2 j c2).ownBlock=some k->OfT w9 50 k:=fun k _ hk=>Zaq HR9.out hk
 have HR10:=qH h1
 have HSR:=qH (And.intro h2 h3)
 have HE10:=qH (fun y hy=>(HE9.out y hy).type h4 hT (by decide) (by decide) (by decide))
 have HF10:=qH (fun y hy=>(HF9.out y hy).type h4 hT (by decide) (by decide) (by decide))
 have HN10:=qH (ZaT HN9.out h4 hT (by decide))
 have HB10:=qH (HB9.out.upd h4 fun hh=>HB9.out.ne_own HR9.out (by decide) hh)
 have HS10:=qH (HS9.out.trans h4 fun b hb hh=>by have:=(HR9.out.lt b hh).1;omega)
 clear h1 h2 h3 h3' h4 hT p1 HN9 HE9 HF9 HR9 HB9 HS9
 have b0:w10.cell? ⟨g,0,none⟩=some (.slice A1 i c1):=HB10.out.cell 0
 have b1:w10.cell? ⟨g,1,none⟩=some (.slice A2 j c2):=HB10.out.cell 1
 have hb9:=HB2.out.same HS10.out
 have q0:w10.cell? ⟨w.heap.size+1,0,none⟩=some (.slice none 0 0):=hb9.cell 0
 have q1:w10.cell? ⟨w.heap.size+1,1,none⟩=some (.slice none 0 0):=hb9.cell 1
 have f0:=hb9.frozen 0
 have f1:=hb9.frozen 1
 clear hb9
 go_wp2_with fail
 have hn9:=(HB2.out.same HS10.out).put 0 (.slice A1 i c1) |>.put 1 (.slice A2 j c2)
 have v0:=hn9.cell 0
 have v1:=hn9.cell 1
 have hu:Upd (fun b=>b=w.heap.size+1) w10 ((w10.setCell ⟨w.heap.size+1,0,none⟩ (.slice A1 i c1)).setCell ⟨w.heap.size+1,1,none⟩ (.slice A2 j c2)):=((Upd.refl (fun b=>b=w.heap.size+1) w10).put1 (i:=0) _).put1 (i:=1) _
 have hT:∀ k,k<w10.heap.size->k=w.heap.size+1->OfT w10 26 k:=fun k _ hk=>by rw [hk];exact ⟨_,HB2.out.same HS10.out⟩
 refine bodyPost_ret (v:=.agg #[.slice A1 i c1,.slice A2 j c2]) ?_ rfl ⟨⟨s1,A1,i,c1,s2,A2,j,c2⟩,rfl,qH ?_,qH ?_,qH ⟨Zkz ND.Apart.symm KA.1 HSN.2.perm,Zkz RL.Apart.symm KA2.1 HSR.2.perm,fun y hy=>KA.2 y (HSN.2.mem hy),fun y hy=>KA2.2.1 y (HSR.2.mem hy),fun y hy z hz k h1 h2=>by have h3:=HNL.out y (HSN.2.mem hy) k h1;have h4:=KA2.2.2 z (HSR.2.mem hz) k h2;omega⟩,?_⟩
 · simp [results,Tryz.results35,go_sem,v0,v1]
 · simp only [GR.dat,ZdD]
   have e1:s1.map ND.dat=Zdt (fun a b:Int=>a<b) ZaO.id ((ns.map ND.dat).map canN):=by
    rw [List.map_map,show (ns.map (canN ∘ ND.dat))=ns.map (fun x=>canN x.dat) from rfl,<-KD2.out]
    exact ZeK ZaC (HSN.1.map (f:=ND.dat) fun _=>rfl) (HSN.2.map (f:=ND.dat) fun _=>rfl)
   have e2:s2.map RL.dat=Zdt (fun a b:Int=>a<b) GRel.id ((rs.map RL.dat).map canR):=by
    rw [List.map_map,show (rs.map (canR ∘ RL.dat))=rs.map (fun x=>canR x.dat) from rfl,<-KD4.out]
    exact ZeK ZaC (HSR.1.map (f:=RL.dat) fun _=>rfl) (HSR.2.map (f:=RL.dat) fun _=>rfl)
   rw [e1,e2]
 · have l1':s1.length=i:=Zca HN10.out ND.three (by omega)
   have l2':s2.length=j:=Zca HR10.out RL.five (by omega)
   have hO:OwnG w10 w1.heap.size ⟨s1,A1,i,c1,s2,A2,j,c2⟩:=⟨⟨by rw [l1'];exact HN10.out,fun y hy=>HE10.out y (HSN.2.mem hy)⟩,⟨by rw [l2'];exact HR10.out,fun y hy=>HF10.out y (HSR.2.mem hy)⟩⟩
   have hO2:=hO.base (B':=w.heap.size) (by omega)
   exact ⟨hO2.nodes.type hu hT (by decide) (by decide) (by decide) (by decide),hO2.rels.type hu hT (by decide) (by decide) (by decide) (by decide)⟩
 exact Upd.putNew (Upd.putNew (HS0.out.same HS10.out) (by omega) _) (by omega) _
end Go.Proofs.YtkopcinhbjimiaaGreatDoor
namespace Go.Proofs.YtkopcinhbjimiaaGreatDoor
theorem ZhO:∀ (prev:Option Int) (i:Nat) (l:List ZaO),Zax prev i l=none->(l.map ZaO.id).Pairwise (fun a b=>a<b)/\∀ y∈l.map ZaO.id,∀ q,prev=some q->q<y
 | _,_,[],_=>⟨by simp,by simp⟩
 | prev,i,x::l,h=>by
   simp only [Zax] at h
   by_cases hz:Zbq prev x=0
   · rw [if_neg (by rw [hz];simp)] at h
     obtain ⟨h2,h3⟩:=ZhO (some x.id) (i+1) l h
     unfold Zbq at hz
     by_cases ha:x.id<0\/1024<=x.id
     · rw [if_pos ha] at hz;cases hz
     rw [if_neg ha] at hz
     by_cases hb:Zar x.id prev=true
     · rw [if_pos hb] at hz;cases hz
     have hpv:∀ q,prev=some q->q<x.id:=fun q hq=>by
      subst hq
      simpa [Zar] using hb
     rw [List.map_cons]
     refine ⟨List.pairwise_cons.2 ⟨fun y hy=>h3 y hy x.id rfl,h2⟩,fun y hy q hq=>?_⟩
     rcases List.mem_cons.1 hy with rfl | hy
     · exact hpv q hq
     have h5:=h3 y hy x.id rfl
     have h6:=hpv q hq
     omega
   rw [if_pos hz] at h;cases h
theorem ZfG:∀ (prev:Option Int) (i:Nat) (l:List ZaO) (x:Int×Nat),Zax prev i l=some x->x.1≠0
 | _,_,[],_,h=>by cases h
 | prev,i,y::l,x,h=>by
   simp only [Zax] at h
   by_cases hz:Zbq prev y=0
   · rw [if_neg (by rw [hz];simp)] at h
     exact ZfG _ _ l x h
   rw [if_pos hz] at h
   injection h with h
   subst h
   exact hz
theorem ZgP (th:Int->Bool):∀ (prev:Option Int) (i:Nat) (l:List GRel) (x:Int×Nat),ZaQ th prev i l=some x->x.1≠0
 | _,_,[],_,h=>by cases h
 | prev,i,y::l,x,h=>by
   simp only [ZaQ] at h
   by_cases hz:ZbN th prev y=0
   · rw [if_neg (by rw [hz];simp)] at h
     exact ZgP th _ _ l x h
   rw [if_pos hz] at h
   injection h with h
   subst h
   exact hz
theorem ZkA {g:Zak} {x:Int×Nat} (h:ZaH g=some x):x.1≠0:=by
 unfold ZaH at h
 cases hn:Zax none 0 g.nodes with
 | some y =>
   rw [hn] at h
   injection h with h
   subst h
   exact ZfG _ _ _ _ hn
 | none =>
   rw [hn] at h
   obtain ⟨y,hy,he⟩:=Option.map_eq_some_iff.1 h
   subst he
   have h9:=ZgP _ _ _ _ y hy
   exact h9
theorem Zmw {g:Zak} {tl:Int} {at_:Nat} (h:Zcw g tl=(0,at_)):ZaH g=none:=by
 unfold Zcw at h
 cases hh:ZaH g with
 | none=>rfl
 | some x =>
   rw [hh] at h
   have h1:=ZkA hh
   simp only at h
   rw [h] at h1
   exact absurd rfl h1
section
variable {α κ:Type} {lt:κ->κ->Prop} {key:α->κ}
theorem Zaj.of_lt (L:Lin lt) {l:List α} (h:(l.map key).Pairwise lt):Zaj lt key l/\(l.map key).Nodup:=by
 constructor
 · rw [List.pairwise_map] at h
   exact h.imp fun h=>L.asym h
 exact h.imp fun {a b} h e=>by subst e;exact L.irr _ h
end
theorem Zjt {p q:ByteArray} (h:leB p q=false):ltS q p:=Classical.byContradiction fun hn=>by
 have h1:=(Zke p q).2 hn
 unfold leB at h
 rw [h] at h1
 cases h1
theorem ZnH:∀ (prev:Option ByteArray) (l:List ByteArray),ZbZ prev l=0->l.Pairwise ltS/\∀ y∈l,∀ q,prev=some q->ltS q y
 | _,[],_=>⟨List.Pairwise.nil,by simp⟩
 | prev,p::l,h=>by
   unfold ZbZ at h
   by_cases h1:ZaZ p=false
   · rw [if_pos h1] at h;cases h
   rw [if_neg h1] at h
   by_cases h2:Zbp p prev=true
   · rw [if_pos h2] at h;cases h
   rw [if_neg h2] at h
   obtain ⟨h3,h4⟩:=ZnH (some p) l h
   have hp:∀ q,prev=some q->ltS q p:=fun q hq=>by
    subst hq
    have h5:leB p q=false:=by simpa [Zbp] using h2
    exact Zjt h5
   refine ⟨List.pairwise_cons.2 ⟨fun y hy=>h4 y hy p rfl,h3⟩,fun y hy q hq=>?_⟩
   rcases List.mem_cons.1 hy with rfl | hy
   · exact hp q hq
   exact Zay.tr (hp q hq) (h4 y hy p rfl)
theorem ZlI:∀ (prev:Option ByteArray) (l:List GPr),Zbg prev l=0->(l.map GPr.key).Pairwise ltS/\∀ y∈l.map GPr.key,∀ q,prev=some q->ltS q y
 | _,[],_=>⟨List.Pairwise.nil,by simp⟩
 | prev,p::l,h=>by
   unfold Zbg at h
   by_cases h1:ZaZ p.key=false
   · rw [if_pos h1] at h;cases h
   rw [if_neg h1] at h
   by_cases h2:Zbp p.key prev=true
   · rw [if_pos h2] at h;cases h
   rw [if_neg h2] at h
   by_cases h0:chk p.val≠0
   · rw [if_pos h0] at h;exact absurd h h0
   rw [if_neg h0] at h
   obtain ⟨h3,h4⟩:=ZlI (some p.key) l h
   have hp:∀ q,prev=some q->ltS q p.key:=fun q hq=>by
    subst hq
    have h5:leB p.key q=false:=by simpa [Zbp] using h2
    exact Zjt h5
   rw [List.map_cons]
   refine ⟨List.pairwise_cons.2 ⟨fun y hy=>h4 y hy p.key rfl,h3⟩,fun y hy q hq=>?_⟩
   rcases List.mem_cons.1 hy with rfl | hy
   · exact hp q hq
   exact Zay.tr (hp q hq) (h4 y hy p.key rfl)
theorem Zen {l:List GPr} (h:ZaF l=0):(l.map GPr.key).Pairwise ltS:=by
 unfold ZaF at h
 by_cases h1:16<l.length
 · rw [if_pos h1] at h;cases h
 rw [if_neg h1] at h;exact (ZlI _ _ h).1
theorem Zju {l:List ByteArray} (h:ZaB l=0):l.Pairwise ltS:=by
 unfold ZaB at h
 by_cases h1:8<l.length
 · rw [if_pos h1] at h;cases h
 rw [if_neg h1] at h;exact (ZnH _ _ h).1
theorem Zjv {prev:Option Int} {x:ZaO} (h:Zbq prev x=0):Zar x.id prev=false/\ZaB x.labels=0/\ZaF x.props=0:=by
 unfold Zbq at h
 by_cases ha:x.id<0\/1024<=x.id
 · rw [if_pos ha] at h;cases h
 rw [if_neg ha] at h
 by_cases hb:Zar x.id prev=true
 · rw [if_pos hb] at h;cases h
 rw [if_neg hb] at h
 by_cases hc:ZaB x.labels≠0
 · rw [if_pos hc] at h;exact absurd h hc
 rw [if_neg hc] at h
 exact ⟨by simpa using hb,by simpa using hc,h⟩
theorem ZkB {th:Int->Bool} {prev:Option Int} {x:GRel} (h:ZbN th prev x=0):Zar x.id prev=false/\ZaF x.props=0:=by
 unfold ZbN at h
 by_cases ha:x.id<0\/2048<=x.id
 · rw [if_pos ha] at h;cases h
 rw [if_neg ha] at h
 by_cases hb:Zar x.id prev=true
 · rw [if_pos hb] at h;cases h
 rw [if_neg hb] at h
 by_cases hc:ZaZ x.type=false
 · rw [if_pos hc] at h;cases h
 rw [if_neg hc] at h
 by_cases hd:th x.src=false\/th x.dst=false
 · rw [if_pos hd] at h;cases h
 rw [if_neg hd] at h
 exact ⟨by simpa using hb,h⟩
theorem Zfk:∀ (prev:Option Int) (i:Nat) (l:List ZaO),Zax prev i l=none->∀ x∈l,ZaB x.labels=0/\ZaF x.props=0
 | _,_,[],_=>by simp
 | prev,i,y::l,h=>by
   simp only [Zax] at h
   by_cases hz:Zbq prev y=0
   · rw [if_neg (by rw [hz];simp)] at h
     intro x hx
     rcases List.mem_cons.1 hx with rfl | hx
     · exact (Zjv hz).2
     exact Zfk _ _ l h x hx
   rw [if_pos hz] at h;cases h
theorem ZgQ (th:Int->Bool):∀ (prev:Option Int) (i:Nat) (l:List GRel),ZaQ th prev i l=none->((l.map GRel.id).Pairwise (fun a b=>a<b)/\∀ y∈l.map GRel.id,∀ q,prev=some q->q<y)/\∀ x∈l,ZaF x.props=0
 | _,_,[],_=>⟨⟨List.Pairwise.nil,by simp⟩,by simp⟩
 | prev,i,y::l,h=>by
   simp only [ZaQ] at h
   by_cases hz:ZbN th prev y=0
   · rw [if_neg (by rw [hz];simp)] at h
     obtain ⟨h1,h2⟩:=ZkB hz
     obtain ⟨⟨h3,h4⟩,h5⟩:=ZgQ th _ _ l h
     have hp:∀ q,prev=some q->q<y.id:=fun q hq=>by
      subst hq
      simpa [Zar] using h1
     rw [List.map_cons]
     refine ⟨⟨List.pairwise_cons.2 ⟨fun z hz=>h4 z hz y.id rfl,h3⟩,fun z hz q hq=>?_⟩,fun x hx=>?_⟩
     · rcases List.mem_cons.1 hz with rfl | hz
       · exact hp q hq
       have h6:=h4 z hz y.id rfl
       have h7:=hp q hq
       omega
     rcases List.mem_cons.1 hx with rfl | hx
     · exact h2
     exact h5 x hx
   rw [if_pos hz] at h;cases h
structure Mixed (g c:Zak):Prop where
 can:ZdD c=ZdD g
 ids:(c.nodes.map ZaO.id).Nodup
 rids:(c.rels.map GRel.id).Nodup
 keys:∀ x∈c.nodes,(x.props.map GPr.key).Nodup
theorem ZkC {g:Zak} (h:ZaH g=none):ZdD g=g/\Mixed g g:=by
 obtain ⟨h1,h2⟩:=Zdf h
 have hn:=(ZhO _ _ _ h1).1
 have hf:=Zfk _ _ _ h1
 obtain ⟨⟨hr,_⟩,hrf⟩:=ZgQ _ _ _ _ h2
 have en:g.nodes.map canN=g.nodes:=by
  conv=>rhs;rw [<- List.map_id g.nodes]
  refine List.map_congr_left fun x hx=>?_
  obtain ⟨a,b⟩:=hf x hx
  have e1:ZgM x.labels=x.labels:=ZeL Zay (Zaj.of_lt (key:=fun y:ByteArray=>y) Zay (by simpa using Zju a)).1
  have e2:Zdt ltS GPr.key x.props=x.props:=ZeL Zay (Zaj.of_lt Zay (Zen b)).1
  simp only [canN,e1,e2,id]
 have er:g.rels.map canR=g.rels:=by
  conv=>rhs;rw [<- List.map_id g.rels]
  refine List.map_congr_left fun x hx=>?_
  have e2:Zdt ltS GPr.key x.props=x.props:=ZeL Zay (Zaj.of_lt Zay (Zen (hrf x hx))).1
  simp only [canR,e2,id]
 have e:ZdD g=g:=by
  unfold ZdD
  rw [en,er,ZeL ZaC (Zaj.of_lt (key:=ZaO.id) ZaC hn).1,ZeL ZaC (Zaj.of_lt (key:=GRel.id) ZaC hr).1]
 exact ⟨e,rfl,(Zaj.of_lt (key:=ZaO.id) ZaC hn).2,(Zaj.of_lt (key:=GRel.id) ZaC hr).2,fun x hx=>(Zaj.of_lt Zay (Zen (hf x hx).2)).2⟩
end Go.Proofs.YtkopcinhbjimiaaGreatDoor
