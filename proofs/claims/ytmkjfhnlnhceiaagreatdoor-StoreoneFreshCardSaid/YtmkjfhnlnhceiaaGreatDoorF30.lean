/- Lemmas: walks and plain laws. -/
import Derived.Test.YtmkjfhnlnhceiaaGreatDoorF29
set_option maxRecDepth 100000
set_option maxHeartbeats 16000000
namespace Go.Proofs.YtmkjfhnlnhceiaaGreatDoor
variable {hs:List Int} {i B:Nat}
section
open Go.RowKit
attribute [local go_sem] oD
noncomputable def nsG (g:WB):Nat->List ByteArray:=fun i=>AB g ((i:Int)+1)
structure StR (w w':World) (B b:Nat) (q:BuP) (hm cnt:Nat) (f:Int->Option Value) (A:Option Addr) (c:Nat) (L:List L1) (hs:List Int) (g:GR):Prop where
 m:BuM w' B q (nsG g.dat)
 k:FiK w' B b hm L.length cnt A c L f q g
 rc:∀ i,i<3->(q.l i).map BS.rc=(nsG g.dat i).map fun s=>some (tokD s)
 nil:∀ i,3<=i->i<7->q.l i=[]
 heads:∀ (i:Nat) (n:NA) (hd:Int),g.dat.nodes[i]?=some n->hs[i]?=some hd->f n.id=some (.int .i64 hd)
 up:Upd (fun x=>x=b) w w'
def q00:BuP:=⟨fun _=>0,fun _=>0,fun _=>0,fun _=>undef,fun _=>undef,fun _=>[],fun _=>0⟩
theorem UZ {ns:List NA} {f f':Int->Option Value} {n:NA} {hd:Int} (l:(ns.map NA.id).Nodup) (hx:ns[i]?=some n) (hh:hs[i]?=some hd) (h:∀ (k:Nat) (m:NA) (e:Int),k<i->ns[k]?=some m->hs[k]?=some e->f m.id=some (.int .i64 e))
 (h1:f' n.id=some (.int .i64 hd)) (h2:∀ y,y≠n.id->f' y=f y):∀ (k:Nat) (m:NA) (e:Int),k<i+1->ns[k]?=some m->hs[k]?=some e->f' m.id=some (.int .i64 e):=by
 intro k m e j b c;by_cases a:k=i
 · subst a;rw [hx] at b;cases b;rw [hh] at c;cases c;exact h1
 rw [h2 m.id (fun g=>a ?_)]
 · exact h k m e qO b c
 have d:k<(ns.map NA.id).length:=by rw [nA];exact (IA.1 b).1
 exact (List.getElem?_inj d l).1 (by rw [MA,MA,b,hx,VC,VC,g])
theorem Zta {rs:List GRel} {r:GRel} {L L0:List L1} (hx:rs[i]?=some r) (h1:yE (rs.drop i) L=L0) (h2:pF GRel.id L.length (rs.drop i)):
 L.length<=r.id.toNat/\0<=r.id/\yE (rs.drop (i+1)) ((L++List.replicate (r.id.toNat+1-L.length) dC).set r.id.toNat ⟨true,r.src,r.dst,-1,-1,-1,-1⟩)=L0 /\
  ((L++List.replicate (r.id.toNat+1-L.length) dC).set r.id.toNat ⟨true,r.src,r.dst,-1,-1,-1,-1⟩).length=r.id.toNat+1/\pF GRel.id (r.id.toNat+1) (rs.drop (i+1)):=by
 obtain ⟨b,d⟩:=IA.1 hx;have c:=kE b;rw [d] at c;rw [c] at h1 h2;have e:=h2.1 r qS;have a:L.length<=r.id.toNat:=qO;rw [yE] at h1;rw [ZuA a];refine ⟨a,qO,h1,?_,h2.tail⟩;rw [kA,kA,aD,GG];omega
theorem ZnA (w:World) {b:Nat} {g:GR} {L:List L1} (gz:B<=w.heap.size) (hb:Blk w b 73 (QE q00 0)) (h1:B<=b) (hg:RdG w (fun x=>x<B) g) (ht:ZJ g) (hn:∀ k,(SC g.dat k).length<=8796093022208) (hk:∀ i,i<3->TabK (nsG g.dat i))
 (hr:pF GRel.id 0 g.dat.rels) (h2:∀ r∈g.dat.rels,r.id<2048) (hd:(g.dat.nodes.map NA.id).Nodup) (br:g.dat.nodes.length<=65536) (hL:tD g.dat.nodes (yE g.dat.rels [])=(L,hs)):
 Calls Tryz.prog 26 #[.pointer (some ⟨b,0,none⟩),g.agg] w fun e w'=>e=.returned (.tuple #[])/\∃ q hm cnt f A c,StR w w' B b q hm cnt f A c L hs g:=by
 obtain ⟨OR,cz⟩:∃ OR:Ending->World->Prop,(fun e w'=>e=.returned (.tuple #[])/\∃ q hm cnt f A c,StR w w' B b q hm cnt f A c L hs g)=OR:=⟨_,rfl⟩
 rw [cz];have fs:=qH cz;have b5:Hid (∀ C,RdG C (fun x=>x<B) g->∀ k:Nat,Calls Tryz.prog 39 #[.agg #[.slice g.AN g.nN g.cN,.slice g.AR g.nR g.cR],.int .i64 ((k:Int)+1)] C fun e w'=>∃ (A:Option Addr) (c:Nat),e=.returned (.slice A (nsG g.dat k).length c)/\Hid (w'.ownsRow C.heap.size 9 1 (.slice A (nsG g.dat k).length c) (nsG g.dat k).length ((nsG g.dat k).map Value.string))/\Same C w'):=qH fun C gp k =>
  (ZX C C g (eA _ _) gp ht ((k:Int)+1) (hn _) (NE g.dat _)).mono fun e w' ⟨A,c,D,I,h3,_⟩=>⟨A,c,D,I,h3⟩
 have b6:=qH hk;have HR:=qH hr;have ft:=qH h2;have HD:=qH hd;have ak:Hid (g.ns.length<=65536):=qH (by have h9:=br;unfold GR.dat at h9;simpa using h9);have HL:=qH hL;have HG:=qH hg;obtain ⟨ns,d0⟩:=qx (nsG g.dat);rw [d0] at b6 b5;have fu:=qH d0;clear cz hk hr h2 hd hL hg ht hn d0 br;obtain ⟨P,AN,R,cN,Z,AR,nR,cR⟩:=g;unfold GR.agg;simp only at b5 ak ⊢;go_enter Tryz.func26,Tryz.ntmps26;go_upto_region 1 with fail;have d9:=jA w 26 #[.slice AN R cN,.slice AR nR cR];have al:=(iA w).alloc (.cells #[.slice AN R cN,.slice AR nR cR] 26);have da:=hb.same al;have db:B<=(w.alloc (.cells #[.slice AN R cN,.slice AR nR cR] 26)).heap.size:=tA gz al.size;have dc:=HG.same al;have dd:b<w.heap.size:=hb.lt;clear hb gz;generalize w.alloc (.cells #[.slice AN R cN,.slice AR nR cR] 26)=w1 at *;generalize w.heap.size=gB at *;have bz:=qH d9;have de:=qH al;have df:=qH da;have dg:=qH db;have dh:=qH dc;have af:=qH h1;clear d9 al da db dc h1 HG;go_region;have bo:Blk (w1.alloc (.cells #[.pointer (some ⟨b,0,none⟩),.pointer (some ⟨b,1,none⟩),.pointer (some ⟨b,2,none⟩)] 100)).drew w1.heap.size 100 #[.pointer (some ⟨b,0,none⟩),.pointer (some ⟨b,1,none⟩),.pointer (some ⟨b,2,none⟩)]:=(jA w1 _ _).drew;have ag:Same w1 (w1.alloc (.cells #[.pointer (some ⟨b,0,none⟩),.pointer (some ⟨b,1,none⟩),.pointer (some ⟨b,2,none⟩)] 100)).drew:=((iA w1).alloc _).drew;have bp:gB<w1.heap.size:=bz.lt;generalize (w1.alloc (.cells #[.pointer (some ⟨b,0,none⟩),.pointer (some ⟨b,1,none⟩),.pointer (some ⟨b,2,none⟩)] 100)).drew=w2 at *;have V:Hid (B<=w2.heap.size):=qH (tA dg ag.size);generalize w1.heap.size=lb at *;have di:=qH bo;have bq:=qH (bz.same ag);have a0:=qH (dh.same ag);have dj:=qH (de.same ag);have dk:Hid (BldS w2 w2 B b q00 ns 0):=qH ⟨eA _ _,df.same ag,fun i _ h=>absurd h (RI i),fun i _ h=>absurd h (RI i),fun i _ h=>absurd h (RI i),fun i _ h=>absurd h (RI i),fun i _ h=>absurd h (RI i)⟩;have am:Hid (b<gB/\gB<lb):=qH ⟨dd,bp⟩;have fv:Hid (b<w2.heap.size):=qH (dk.blk.lt);clear bo ag dd bp df bz de dh dg;go_wp2_with fail;go_loopg [27] 3 (fun g gq wr=>∃ k:Nat,3-k=g/\k<=3/\gq=.int .i64 (k:Int)/\Hid (∃ q,BldS w2 wr B b q ns k))
 case atStart=>exact ⟨0,rfl,qO,rfl,qH ⟨q00,dk⟩⟩
 obtain ⟨k,rfl,hk,rfl,HI⟩:=hrel;by_cases G:k<3
 · obtain ⟨q,hI⟩:=HI.out;have dl:=di.upd hI.up (fun e=>qh am);have dm:wr.cell? ⟨lb,k,none⟩=some (.pointer (some ⟨b,k,none⟩)):=by
    rw [dl.cell];obtain rfl | rfl | rfl:k=0\/k=1\/k=2:=qO
    all_goals rfl
   have W:=a0.upd hI.up (fun x hx e=>qh af);have b7:=Zop wr (k+1) 1 ⟨qO,qO⟩ (.inl rfl);have c9:kdB k=k+1:=gA qO;rw [<- c9] at b7;have dn:Hid (Calls Tryz.prog 50 #[.int .i64 ((k:Int)+1),.int .i64 1] wr fun e w'=>∃ t f m nv,e=.returned (.tuple #[.pointer (some ⟨t,0,none⟩),.int .i64 0])/\PT w' wr.heap.size t f m (kdB k) 1 0 0 (.slice none 0 0) nv [] []/\Same wr w'):=qH (by
    have e:((kdB k:Nat):Int)=(k:Int)+1:=by rw [c9];omega
    rw [e] at b7;exact b7)
   have ca:=qH hI;have fw:=qH W;have dp:Hid (w2.heap.size<=wr.heap.size):=qH hI.up.size;have j1:(k:Int)<3:=qO;clear hI dl W b7 c9 HI;go_wp2_with fail;refine dn.mono ?_;rintro e w3 ⟨t,f,m,nv,rfl,hP,b0⟩;have an:=ca.blk.same b0;have c3:w3.cell? ⟨b,k,none⟩=some (.pointer none):=by rw [an.cell];exact ZsQ q qO
   have z3:w3.frozen? ⟨b,k,none⟩=false:=an.frozen k;go_upto_region 5 with fail;have dq:Blk (w3.setCell ⟨b,k,none⟩ (.pointer (some ⟨t,0,none⟩))) b 73 ((QE q k).setIfInBounds k (.pointer (some ⟨t,0,none⟩))):=an.put k _;have ao:=(eA (fun x=>x=b) w3).put1 (i:=k) (.pointer (some ⟨t,0,none⟩));have dr:=hP.turn an wO ao;have ds:=(fw.same b0).upd ao (fun x hx e=>qh af);have cb:Blk (w3.setCell ⟨b,k,none⟩ (.pointer (some ⟨t,0,none⟩))) gB 26 #[.slice AN R cN,.slice AR nR cR]:=((bq.upd ca.up (fun e=>qh am)).same b0).upd ao (fun e=>qh am);have dt:Upd (fun x=>x=b\/wr.heap.size<=x) wr (w3.setCell ⟨b,k,none⟩ (.pointer (some ⟨t,0,none⟩))):=(b0.mono qe).trans ao fun _ _ e=>.inl e;generalize w3.setCell ⟨b,k,none⟩ (.pointer (some ⟨t,0,none⟩))=w4 at *;have fx:=qH dq;have ap:=qH dr;have du:=qH dt;have cc:=qH (b5.out w4 ds k);have g0:=cb.c0;have g1:=cb.c1;clear an c3 z3 dq ao dr ds cb dt hP b0 dn dm;obtain ⟨nn,d1⟩:=qx ((ns k).length);have H:=qH d1;rw [d1] at cc;clear d1;go_wp2_with fail;refine cc.mono ?_;rintro e w5 ⟨A,c,rfl,d,bi⟩;have cd:Hid (InI wr w5 b t f m k ((QE q k).setIfInBounds k (.pointer (some ⟨t,0,none⟩))) (ns k) (.slice A nn c) 0):=qH ⟨du.same bi,fx.same bi,by rw [H.out];exact RA d du.size,0,.slice none 0 0,nv,[],ap.same bi,qS,rfl,fun g hg hf=>by
    have D:=(d.lt g hg).1;rcases hf with e | e | e | e | e
    · have:=ap.blk.lt;omega
    · have:=ap.file.blk.lt;omega
    · have:=ap.map.lt;omega
    · simp [Value.ownBlock] at e
    obtain ⟨cs,hb⟩:=LA ap.row e;have:=hb.lt;omega⟩
   clear d bi g0 g1 cc;have fy:nn<=200:=by have:=(b6.out k G).len;have:=H.out;omega
   generalize wr=wo at *;go_wp2_with fail;go_loopg [45] nn (fun gh gr C=>∃ j:Nat,nn-j=gh/\j<=nn/\gr=.int .i64 (j:Int)/\Hid (InI wo C b t f m k ((QE q k).setIfInBounds k (.pointer (some ⟨t,0,none⟩))) (ns k) (.slice A nn c) j))
   case atStart=>exact ⟨0,rfl,oA _,rfl,cd⟩
   obtain ⟨j,rfl,hj,rfl,HJ⟩:=hrel;by_cases fz:j<nn
   · obtain ⟨gN,u,rfl,_,_,hu,hc,_,_⟩:=EE (i:=j) (by have:=HJ.row;rw [H.out] at this;exact this) fz;rw [MA] at hu;obtain ⟨s,hs,rfl⟩:=GH.1 hu;obtain ⟨low,v,bj,l,hp,b1,b2,d2⟩:=HJ.ex;have ce:=b6.out k G;have cf:=ce.good s (OC hs);have dv:=Zkc wr hp HJ.up.size b1 cf (by rw [xW (PK cf),uL];intro x hx;simp only [NC];rintro rfl;exact Zuy ce.nodup hs hx) (by rw [RB];omega)
     have b8:=qH dv;have aq:Hid (∀ (wy:World) bx v' a2 l',PT wy wo.heap.size t f m (kdB k) 1 (((ns k).take j).length+1) bx v' a2 l' ((ns k).take j++[s])->(∀ x∈l',x.A≠none)->l'.map BS.rc=l.map BS.rc++[some (tokD s)]->Upd (II t f m v bj) wr wy->NewB wr v v'->NewB wr bj a2->InI wo wy b t f m k ((QE q k).setIfInBounds k (.pointer (some ⟨t,0,none⟩))) (ns k) (.slice (some ⟨gN,0,none⟩) nn c) (j+1)):=qH fun wy bx v' a2 l' D I h3 h4 h5 h6=>HJ.next (by have:=fv.out;have:=dp.out;omega) hs hp b2 d2 D I h3 h4 h5 h6;have r0:wr.cell? ⟨b,k,none⟩=some (.pointer (some ⟨t,0,none⟩)):=by rw [HJ.blk.cell];exact Zrb q _ qO
     have j2:(j:Int)<(nn:Int):=qO;clear hu hs hp b1 b2 d2 ce cf dv;go_wp2_with fail;refine b8.mono ?_;rintro e wy ⟨rfl,v',a2,l',D,I,h3,h4,h5,h6⟩;have g2:=qH (aq.out wy _ v' a2 l' D I h3 h4 h5 h6);clear D I h3 h4 h5 h6 r0 hc b8 aq;go_wp2;go_roundg (nn-(j+1))
     case measure=>omega
     case rel=>exact ⟨j+1,rfl,qO,qN,g2⟩
   have dw:j=nn:=qO;have j2:¬ (j:Int)<(nn:Int):=qO;have g3:Hid (∃ q',BldS w2 wr B b q' ns (k+1)):=qH (by
    obtain ⟨low,v,bj,l,hp,b1,b2,d2⟩:=HJ.ex;rw [cB (by rw [H.out,dw];exact lA _)] at hp b2;exact ⟨_,ca.add (t:=t) (f:=f) (m:=m) (low:=low) (nv:=bj) (v:=v) (l:=l) qO (tA V dp) HJ.up (by rw [gA G];exact HJ.blk) (by have h9:=hp.file;rw [show zdB k=42 from gA G];exact h9) (fun _=>⟨hp,b2⟩) (fun h=>absurd h qO)⟩)
   clear dw;go_wp2;go_roundg (3-(k+1))
   case measure=>omega
   case rel=>exact ⟨k+1,rfl,qO,qN,g3⟩
 obtain rfl:k=3:=qO;obtain ⟨q,hI⟩:=HI.out;have b9:=qH hI;clear G hk HI hI;have j1:¬ ((3:Nat):Int)<3:=qO;have S:B<=wr.heap.size:=tA V.out b9.up.size;clear j1;have dx:Hid (Calls Tryz.prog 52 #[.int .i64 4,.int .i64 1,.int .i64 17] wr fun e w'=>e=.returned (.tuple #[.pointer (some ⟨wr.heap.size,0,none⟩),.int .i64 0])/\PF w' wr.heap.size wr.heap.size 4 1 17 (.slice none 0 0) [] 0/\Same wr w'):=qH (RN wr 4 1 17 qD qD qD);have j1:¬ ((3:Nat):Int)<3:=qO;go_wp2_with fail;refine dx.mono ?_;rintro e u3 ⟨rfl,hP,hs⟩;have hb:=b9.blk.same hs;have c3:=hb.c3;have z3:=hb.frozen 3;obtain ⟨f3,fa⟩:∃ f,wr.heap.size=f:=⟨_,rfl⟩
 have ar:=qH (b9.new qD qD S hP hs);rw [fa] at ar ⊢;clear hP hs hb dx fa;go_upto_region 12 with fail;generalize u3.setCell ⟨b,3,none⟩ (.pointer (some ⟨f3,0,none⟩))=v3 at *;have S:B<=v3.heap.size:=tA V.out ar.up.size;clear c3 z3 b9;clear j1;have ak:Hid (Calls Tryz.prog 52 #[.int .i64 5,.int .i64 1,.int .i64 31] v3 fun e w'=>e=.returned (.tuple #[.pointer (some ⟨v3.heap.size,0,none⟩),.int .i64 0])/\PF w' v3.heap.size v3.heap.size 5 1 31 (.slice none 0 0) [] 0/\Same v3 w'):=qH (RN v3 5 1 31 qD qD qD);go_wp2_with fail;refine ak.mono ?_;rintro e u4 ⟨rfl,hP,hs⟩;have hb:=ar.blk.same hs;have c4:=hb.c4;have z4:=hb.frozen 4;obtain ⟨f4,fb⟩:∃ f,v3.heap.size=f:=⟨_,rfl⟩
 have au:=qH (ar.new qD qD S hP hs);rw [fb] at au ⊢;clear hP hs hb ak fb;go_upto_region 13 with fail;generalize u4.setCell ⟨b,4,none⟩ (.pointer (some ⟨f4,0,none⟩))=v4 at *;have S:B<=v4.heap.size:=tA V.out au.up.size;clear c4 z4 ar;have dy:Hid (Calls Tryz.prog 52 #[.int .i64 6,.int .i64 1,.int .i64 20] v4 fun e w'=>e=.returned (.tuple #[.pointer (some ⟨v4.heap.size,0,none⟩),.int .i64 0])/\PF w' v4.heap.size v4.heap.size 6 1 20 (.slice none 0 0) [] 0/\Same v4 w'):=qH (RN v4 6 1 20 qD qD qD);go_wp2_with fail;refine dy.mono ?_;rintro e u5 ⟨rfl,hP,hs⟩;have hb:=au.blk.same hs;have c5:=hb.c5;have z5:=hb.frozen 5;obtain ⟨f5,fc⟩:∃ f,v4.heap.size=f:=⟨_,rfl⟩
 have av:=qH (au.new qD qD S hP hs);rw [fc] at av ⊢;clear hP hs hb dy fc;go_upto_region 14 with fail;generalize u5.setCell ⟨b,5,none⟩ (.pointer (some ⟨f5,0,none⟩))=v5 at *;have S:B<=v5.heap.size:=tA V.out av.up.size;clear c5 z5 au;have dz:Hid (Calls Tryz.prog 52 #[.int .i64 8,.int .i64 1,.int .i64 32] v5 fun e w'=>e=.returned (.tuple #[.pointer (some ⟨v5.heap.size,0,none⟩),.int .i64 0])/\PF w' v5.heap.size v5.heap.size 8 1 32 (.slice none 0 0) [] 0/\Same v5 w'):=qH (RN v5 8 1 32 qD qD qD);go_wp2_with fail;refine dz.mono ?_;rintro e u6 ⟨rfl,hP,hs⟩;have hb:=av.blk.same hs;have c6:=hb.c6;have z6:=hb.frozen 6;obtain ⟨f6,fd⟩:∃ f,v5.heap.size=f:=⟨_,rfl⟩
 have E:=qH (av.new qD qD S hP hs);rw [fd] at E ⊢;clear hP hs hb dz fd;go_upto_region 15 with fail;generalize u6.setCell ⟨b,6,none⟩ (.pointer (some ⟨f6,0,none⟩))=Y at *;have S:B<=Y.heap.size:=tA V.out E.up.size;clear c6 z6 av;obtain ⟨q7,E⟩:∃ q7,Hid (BldS w2 Y B b q7 ns 7):=⟨_,E⟩
 have e0:Hid (ChI Y Y b q7 (.slice none 0 0) (.map none) []):=qH ⟨eA _ _,E.blk,iC _ _ _ _⟩;have g4:=qH E.bum;have ba:=qH S;have cg:=qH (a0.upd E.up (fun x hx e=>qh af));have gw:nR<=9223372036854775807:=by have D:=a0.rels.row.max;have I:=a0.rels.row.le;unfold maxLen at D;simp only at D I;omega
 have gx:R<=9223372036854775807:=by have D:=a0.nodes.row.max;have I:=a0.nodes.row.le;unfold maxLen at D;simp only at D I;omega
 have g5:Hid (Z.length=nR):=qH a0.rels.len;have ch:Hid (P.length=R):=qH a0.nodes.len;have cj:Hid (Blk Y gB 26 #[.slice AN R cN,.slice AR nR cR]):=qH (bq.upd E.up (fun e=>qh am));have g6:Hid (b<Y.heap.size):=qH E.blk.lt;have g1:=cj.c1;obtain ⟨L0,d3⟩:=qx (yE (GR.dat ⟨P,AN,R,cN,Z,AR,nR,cR⟩).rels []);rw [d3] at HL;have g7:Hid (∃ vC a,ChI Y Y b q7 vC (.map none) a/\yE ((Z.map RL.dat).drop 0) a=L0/\pF GRel.id a.length ((Z.map RL.dat).drop 0)/\a.length<=2048):=qH ⟨_,[],e0,d3,HR,qS⟩;clear d3 S e0 HR b5 b6 di;go_wp2_with fail;clear g1;go_loopg [91] nR (fun g gs wr=>∃ i:Nat,nR-i=g/\i<=nR/\gs=.int .i64 (i:Int)/\Hid (∃ vC a,ChI Y wr b q7 vC (.map none) a/\yE ((Z.map RL.dat).drop i) a=L0/\pF GRel.id a.length ((Z.map RL.dat).drop i)/\a.length<=2048))
 case atStart=>exact ⟨0,rfl,oA _,rfl,g7⟩
 obtain ⟨i,rfl,hi,rfl,HI⟩:=hrel;by_cases G:i<nR
 · obtain ⟨vC,a,hC,aj,fe,hl⟩:=HI.out;have W:=cg.upd hC.up (fun x hx e=>by have:=af.out;have:=ba.out;omega);obtain ⟨bA,o,x,rfl,_,_,hx,bk,p0,p1,p2,p3,p4⟩:=W.rels.at_ (i:=i) G;have a5:(Z.map RL.dat)[i]?=some x.dat:=by rw [MA,hx];rfl
   obtain ⟨bb,h0,ff,fg,fh⟩:=Zta a5 aj fe;have e1:=ft.out x.dat (OC a5);have HC:=qH hC;have aq:=qH ff;have bs:=qH fg;have e2:=qH fh;have j1:(i:Int)<(nR:Int):=qO;clear hC aj fe W hx bk a5 ff fg fh HI;obtain ⟨d4,a3,U,dst,d5,AP,nP,cP⟩:=x;obtain ⟨id,rfl⟩:∃ id:Nat,d4=(id:Int):=⟨d4.toNat,by have:0<=d4:=h0;omega⟩
   simp only at p0 p1 p2 p3 p4;have bb:a.length<=id:=by have h9:=bb;simp only [RL.dat,XB] at h9;exact h9
   have e1:id<2048:=by have h9:=e1;simp only [RL.dat] at h9;omega
   simp only [RL.dat,XB] at aq bs e2;clear h0;go_wp2_with fail;have ah:=jA wr 60 #[.int .i64 (id:Int),.string a3,.int .i64 U,.int .i64 dst,.slice AP nP cP];have a1:=HC.same ((iA wr).alloc (.cells #[.int .i64 (id:Int),.string a3,.int .i64 U,.int .i64 dst,.slice AP nP cP] 60));generalize wr.alloc (.cells #[.int .i64 (id:Int),.string a3,.int .i64 U,.int .i64 dst,.slice AP nP cP] 60)=w8 at *;generalize wr.heap.size=xb at *;generalize wr=wo at *;have cd:Hid (∃ vD,ChI Y w8 b q7 vD (.map none) (a++List.replicate 0 dC)/\Blk w8 xb 60 #[.int .i64 (id:Int),.string a3,.int .i64 U,.int .i64 dst,.slice AP nP cP]):=qH ⟨vC,by simpa using a1,ah⟩;clear ah a1 p0 p1 p2 p3 p4;obtain ⟨lc,d6⟩:=qx a.length;have ck:=qH d6;rw [d6] at bb hl;clear d6;go_loopg [] (id+1-lc) (fun gh C=>∃ j:Nat,id+1-(lc+j)=gh/\lc+j<=id+1/\Hid (∃ vD,ChI Y C b q7 vD (.map none) (a++List.replicate j dC)/\Blk C xb 60 #[.int .i64 (id:Int),.string a3,.int .i64 U,.int .i64 dst,.slice AP nP cP]))
   case atStart=>exact ⟨0,rfl,qO,cd⟩
   obtain ⟨j,rfl,hj,HJ⟩:=hrel;obtain ⟨vD,hD,hX⟩:=HJ.out;obtain ⟨N,hN⟩:=qx ((a++List.replicate j dC).length);have cl:N=lc+j:=by rw [<- hN,kA,aD,ck.out]
   obtain ⟨AC,cC,hv⟩:=WA hD.row;rw [hN] at hv;subst hv;have cm:=qH hD;have cn:=qH hX;have H:=qH hN;have e3:=qH cl;have r7:=hD.blk.c7;have x0:=hX.c0;clear hD hX hN HJ;by_cases hc:N<=id
   · have co:decide ((N:Int)<=(id:Int))=true:=kC qO;have cp:=qH hc;clear hc cl;go_upto_region 18 with fail;go_quiet (fail);have a6:Same wr (wr.drewN nq):=(iA wr).drewN nq;have T:=cm.same a6;have a7:=cn.same a6;generalize wr.drewN nq=wq at *;have aw:=qH T;have cq:=qH a7;have bt:Hid (wq.ownsRow Y.heap.size 109 7 (.slice AC N cC) N ((a++List.replicate j dC).flatMap L1.cells)):=qH (by have h9:=T.row;rw [H.out] at h9;exact h9);have r7:=T.blk.c7;have gy:Y.heap.size<=wq.heap.size:=T.up.size;have br:N<=4096:=qh cp;clear a6 T a7 co x0;go_wp2_with (at_builtin;go_must (refine XD rfl (.tmp 107) (.tmp 109) _ _ rfl Y.heap.size 109 7 56 _ QL dU rfl (.slice AC N cC) N _ rfl (bt.alloc _) rfl (GD QL (Row.lk wq dC) (fun u hu=>IY [dC] u (by rw [iD,OO,ZC];exact hu))) qM qO qP ?_);intro v7 w7 bl;obtain ⟨A7,c7,rfl⟩:=WA bl.own;have e4:=qH bl;have cr:=bl.blk (aw.blk.alloc _) (aw.blk.ne_own bt qD);have s7:w7.cell? ⟨b,7,none⟩=some (.slice AC N cC):=cr.cell 7;have z7:w7.frozen? ⟨b,7,none⟩=false:=cr.frozen 7;clear bl cr r7);go_roundg (id+1-(lc+(j+1)))
     case measure=>have:=cp.out;have:=e3.out;omega
     have e5:Same wq (wq.alloc (.cells dC.cells.toArray 109)):=(iA wq).alloc _;have e6:=e4.out;have g8:=H.out;subst g8;have e7:=aw.app e5 e6;refine ⟨j+1,rfl,by have:=cp.out;have:=e3.out;omega,qH ⟨.slice A7 ((a++List.replicate j dC).length+1) c7,?_,?_⟩⟩
     · rw [List.replicate_succ',<-vA];exact e7
     have D:=cq.same e5;have I:=e6.blk D (cq.ne_own aw.row qD);exact I.far (p:=⟨b,7,none⟩) (fun e=>cq.ne aw.blk qD e) _
   have co:decide ((N:Int)<=(id:Int))=false:=LB qO;have e8:j=id+1-lc:=qO;have e9:=qH e8;have ea:N=id+1:=qO;clear hc cl hj;go_upto_region 18 with fail;go_quiet (fail);have a6:Same wr (wr.drewN nq):=(iA wr).drewN nq;have T:=cm.same a6;have a7:=cn.same a6;generalize wr.drewN nq=wq at *;clear a6 r7 x0 co e8;go_upto_region 20 with fail;have a8:(a++List.replicate j dC)[id]?=some dC:=by have gu:=bb;have h9:=ck.out;rw [WG qO,kN,gA (qh e9)]
   have d:=T.row;rw [H.out] at d;obtain ⟨gC,_,rfl,_⟩:=jJ d (i:=id*7) qO;have g9:=qH T;obtain ⟨⟨c0,c1,c2,c3,c4,c5,c6⟩,a4⟩:=oO d a8;have f0:wq.frozen? ⟨gC,id*7,none⟩=false:=a4 0 qD;have f1:wq.frozen? ⟨gC,id*7+1,none⟩=false:=a4 1 qD;have f2:wq.frozen? ⟨gC,id*7+2,none⟩=false:=a4 2 qD;have f3:wq.frozen? ⟨gC,id*7+3,none⟩=false:=a4 3 qD;have f4:wq.frozen? ⟨gC,id*7+4,none⟩=false:=a4 4 qD;have f5:wq.frozen? ⟨gC,id*7+5,none⟩=false:=a4 5 qD;have f6:wq.frozen? ⟨gC,id*7+6,none⟩=false:=a4 6 qD;have ga:=qH a8;have eb:(id:Int)<(N:Int):=qO;clear a4 d a8 ea;refine eE 12 (fun C=>C.cell? ⟨b,7,none⟩=some (.slice (some ⟨gC,0,none⟩) N cC)/\C.cell? ⟨xb,0,none⟩=some (.int .i64 (id:Int))/\C.cell? ⟨xb,2,none⟩=some (.int .i64 U)/\C.cell? ⟨xb,3,none⟩=some (.int .i64 dst)) qK ⟨T.blk.cell 7,a7.cell 0,a7.cell 2,a7.cell 3⟩ (fun z=>?_);refine tC ?_;refine bD rfl (fun K hK=>?_);go_simp;refine hK.out _ _ ?_;clear hK K z T a7;clear c0 c1 c2 c3 c4 c5 c6 f0 f1 f2 f3 f4 f5 f6;have ax:ChI Y (vM wq gC (id*7) ⟨true,U,dst,-1,-1,-1,-1⟩).drew b q7 (.slice (some ⟨gC,0,none⟩) ((a++List.replicate j dC).set id ⟨true,U,dst,-1,-1,-1,-1⟩).length cC) (.map none) ((a++List.replicate j dC).set id ⟨true,U,dst,-1,-1,-1,-1⟩):=by have h9:=g9.out;rw [<- H.out] at h9;exact (h9.put ga _).same (iA _).drew
   obtain ⟨wz,b3⟩:=qx ((vM wq gC (id*7) ⟨true,U,dst,-1,-1,-1,-1⟩).drew);rw [b3] at ax;unfold vM at b3;simp only at b3;rw [b3];have ec:=qH ax;clear ax b3 eb cm cn;go_wp2;go_roundg (nR-(i+1))
   case measure=>omega
   have gb:id+1-a.length=j:=by rw [ck.out];exact e9.symm
   have D:=aq.out;have I:=bs.out;have h3:=e2.out;rw [gb] at D I;rw [<- I] at h3;exact ⟨i+1,rfl,qO,qN,qH ⟨_,_,ec,D,h3,by rw [I];omega⟩⟩
 have ai:i=nR:=qO;obtain ⟨vC,a,hC,aj,_,hl⟩:=HI.out;rw [BC (by rw [nA,g5.out,ai];exact lA _)] at aj;have gc:a=L0:=aj;subst gc;have HC:=qH hC;have hA:=hC.same ((iA wr).alloc (.map #[] 0));have s8:=hA.blk.c8;have z8:=hA.blk.frozen 8;have j1:¬ (i:Int)<(nR:Int):=qO;clear aj hC hA HI ai G hi;have gd:=@YG Tryz.prog;go_upto_region 23 with fail;have hH:=HC.head;obtain ⟨hm,fi⟩:=qx wr.heap.size;have X:MpI ((wr.alloc (.map #[] 0)).setCell ⟨b,8,none⟩ (.map (some wr.heap.size))) wr.heap.size 0 (fun _=>none):=(WN wr).upd ((eA (fun k=>k=b) _).put1 _) fun e=>by have D:=HC.up.size;have I:=g6.out;omega
 have ct:Y.heap.size<=wr.heap.size:=HC.up.size;rw [fi] at hH X ct ⊢;generalize (wr.alloc (.map #[] 0)).setCell ⟨b,8,none⟩ (.map (some hm))=wh at *;have ed:=qH ct;have g0:wh.cell? ⟨gB,0,none⟩=some (.slice AN R cN):=(cj.upd hH.up (fun e=>by have:=am.out;have:=cj.lt;omega)).cell 0;have br:R<=65536:=by have:=ak.out;have:=ch.out;omega
 have gf:Hid (∃ vC a cnt f,ChI Y wh b q7 vC (.map (some hm)) a/\MpI wh hm cnt f/\cnt<=2*0/\a.length<=2048/\tD ((P.map ND.dat).drop 0) a=(L,hs.drop 0)/\∀ (k:Nat) (n:NA) (hd:Int),k<0->(P.map ND.dat)[k]?=some n->hs[k]?=some hd->f n.id=some (.int .i64 hd)) :=
  qH ⟨vC,a,0,_,hH,X,lA _,hl,HL,fun k _ _ h=>absurd h (RI k)⟩
 clear hH X ct fi s8 z8 j1 gd HC hl;go_wp2_with fail;clear g0;go_loopg [133] R (fun g fj wr=>∃ i:Nat,R-i=g/\i<=R/\fj=.int .i64 (i:Int)/\Hid (∃ vC a cnt f,ChI Y wr b q7 vC (.map (some hm)) a/\MpI wr hm cnt f/\cnt<=2*i/\a.length<=2048/\tD ((P.map ND.dat).drop i) a=(L,hs.drop i)/\∀ (k:Nat) (n:NA) (hd:Int),k<i->(P.map ND.dat)[k]?=some n->hs[k]?=some hd->f n.id=some (.int .i64 hd)))
 case atStart=>exact ⟨0,rfl,oA _,rfl,gf⟩
 obtain ⟨i,rfl,hi,rfl,HI⟩:=hrel;by_cases G:i<R
 · obtain ⟨vC,a,cnt,f,hC,X,fk,hl,ab,b4⟩:=HI.out;have W:=cg.upd hC.up (fun x hx e=>by have:=af.out;have:=ba.out;omega);obtain ⟨bA,o,x,rfl,_,_,hx,bk,p0,p1,p2⟩:=W.nodes.at_ (i:=i) G;have a5:(P.map ND.dat)[i]?=some x.dat:=by rw [MA,hx];rfl
   have ee:=W.nodes.id x bk;obtain ⟨fl,fm⟩:=Zre a5 ab;have ef:hs[i]?=some (dE (OB a x.id)):=fl;have eg:tD ((P.map ND.dat).drop (i+1)) (if OB a x.id=[] then a else pC x.id (-1) (OB a x.id) a)=(L,hs.drop (i+1)):=fm;have ay:=qH ef;have cu:=qH eg;have eh:=qH a5;have bc:=qH fk;have ei:=qH b4;have ej:=qH hl;have HF:=qH ee;have j1:(i:Int)<(R:Int):=qO;clear W hx bk a5 ab fl fm ef eg fk b4 hl ee HI;obtain ⟨id,fr,AL,nL,cL,d5,AP,nP,cP⟩:=x;simp only at p0 p1 p2;simp only at ay cu HF;go_upto_region 26 with fail;have ah:=jA wr 56 #[.int .i64 id,.slice AL nL cL,.slice AP nP cP];have cv:=(iA wr).alloc (.cells #[.int .i64 id,.slice AL nL cL,.slice AP nP cP] 56);have a1:=hC.same cv;have ek:=X.same cv;generalize wr.alloc (.cells #[.int .i64 id,.slice AL nL cL,.slice AP nP cP] 56)=w8 at *;generalize wr.heap.size=xb at *;clear hC X cv p0 p1 p2;obtain ⟨N,hN⟩:=qx a.length;obtain ⟨AC,cC,hv⟩:=WA a1.row;rw [hN] at hv;subst hv;have d:=a1.row;rw [hN] at d;have gg:N<=2048:=qh ej;have F:Same w8 w8.drew:=(eA _ w8).drew;have bu:=TZ w8.drew (xF (mA d F)).weak qO id;have bv:=qH bu;have el:=qH a1;have em:=qH ek;have en:=qH ah;have H:=qH hN;refine eE 7 (fun C=>C.cell? ⟨b,7,none⟩=some (.slice AC N cC)/\C.cell? ⟨xb,0,none⟩=some (.int .i64 id)) qK ⟨a1.blk.cell 7,ah.cell 0⟩ (fun z=>?_);clear bu a1 ek ah hN d;refine tC ?_;refine CD 6 rfl (fun K hK=>?_);go_simp;refine bv.mono ?_;rintro e w9 ⟨v,rfl,M,fn⟩;obtain ⟨ni,d7⟩:=qx ((OB a id).length);rw [d7] at M;obtain ⟨Ai,ci,rfl⟩:=WA M;have ac:=F.trans fn qf;have bd:=qH (el.same ac);have eo:=qH (em.same ac);have az:=qH (en.same ac);refine hK _ _ ⟨bd.blk.cell 7,az.cell 0⟩ (fun z=>?_);clear hK K;refine tC ?_;refine bD rfl (fun K hK=>?_);go_simp;refine hK.out _ _ ?_;have cw:=qH M;have ep:=qH d7;clear hK K z M fn ac F bv el em en d7;go_upto_region 27 with fail;have O:=eo.same (iA w9).drew;obtain ⟨wa,d8,fo,bm⟩:=O.store vE (by have:=bc.out;unfold maxLen;omega) (i:=id) HF (.int .i64 (-1));have eq:=(bd.same (iA w9).drew).map O ed.out bm;have er:=(az.same (iA w9).drew).upd bm fun e=>O.ne (az.same (iA w9).drew) e.symm;refine eE 6 (fun C=>C.cell? ⟨b,8,none⟩=some (.map (some hm))/\C.cell? ⟨xb,0,none⟩=some (.int .i64 id)) qK ⟨bd.blk.cell 8,az.cell 0⟩ (fun z=>?_);refine tC ?_;refine bD rfl (fun K hK=>?_);go_simp;refine hK.out _ _ ?_;have bf:=qH eq;have cx:=qH fo;have bg:=qH er;have bh:=qH (GA (mA cw (iA w9).drew) bm fun g hg e=>by obtain ⟨cs,hb⟩:=LA (mA cw (iA w9).drew) hg;exact O.ne hb e.symm)
   clear hK K z d8 O bm fo eq er bd eo az cw;by_cases h0:OB a id=[]
   · have gi:ni=0:=by rw [<- ep.out,h0];rfl
     subst gi;have ad:=qH h0;clear h0;go_wp2;clear G;go_roundg (R-(i+1))
     case measure=>have:=j1;omega
     have D:=cu.out;rw [gA ad.out] at D;have I:=ay.out;rw [ad.out] at I;refine ⟨i+1,rfl,qO,qN,qH ⟨_,a,_,_,bf,cx,?_,ej,D,UZ HD eh I ei (gA rfl) fun y hy=>aA hy⟩⟩;have:=bc.out;split <;> omega
   obtain ⟨i0,rest,ae⟩:=List.exists_cons_of_ne_nil h0;have gj:0<ni:=by rw [<- ep.out,ae];exact Nat.zero_lt_succ _
   obtain ⟨gI,u,rfl,_,_,hu,hc,_,_⟩:=EE bh.out gj;have gk:u=.int .i64 (i0:Int):=by rw [ae] at hu;exact (eB hu).symm
   subst gk;have gl:=qH ae;have gv:(0:Int)<(ni:Int):=qO;have ad:=qH h0;clear ae hu h0;go_upto_region 29 with fail;have F:Same wa wa.drew:=(eA _ wa).drew;have O:=cx.same F;obtain ⟨wb,d8,fp,bn⟩:=O.store vE (by have:=bc.out;unfold maxLen;split <;> omega) (i:=id) HF (.int .i64 (i0:Int));have es:=(bf.same F).map O ed.out bn;have et:=(bg.same F).upd bn fun e=>O.ne (bg.same F) e.symm;have eu:=GA (mA bh F) bn fun g hg e=>by obtain ⟨cs,hb⟩:=LA (mA bh F) hg;exact O.ne hb e.symm
   refine eE 9 (fun C=>C.cell? ⟨b,8,none⟩=some (.map (some hm))/\C.cell? ⟨xb,0,none⟩=some (.int .i64 id)/\C.cell? ⟨gI,0,none⟩=some (.int .i64 (i0:Int))) qK ⟨bf.blk.cell 8,bg.cell 0,hc⟩ (fun z=>?_);refine tC ?_;refine bD rfl (fun K hK=>?_);go_simp;refine hK.out _ _ ?_;have a9:=qH es;have cy:=qH fp;have ev:=qH et;have ew:=qH eu;clear hK K z d8 O bn fp es et eu bf cx bg bh hc F;go_upto_region 30 with fail;have d:=a9.row;rw [H.out] at d;have HT:Hid (∀ C,Same wb C->Calls Tryz.prog 54 #[.slice AC N cC,.int .i64 id,.slice (some ⟨gI,0,none⟩) ni ci] C fun e w'=>∃ v,e=.returned (.tuple #[v,.int .i64 0])/\w'.ownsRow C.heap.size 109 7 v N ((pC id (-1) (OB a id) a).flatMap L1.cells)/\Same C w'):=qH fun C F =>
    ZoI C (xF (mA d F)).weak qO id (ids:=OB a id) (xF (mA ew F)).weak (kZ a id) (fun i hi=>aL.1 hi)
   have ey:=(vO (OB a id) (-1) a fun i hi=>aL.1 hi).1.len;have ez:=qH ey;have r7:=a9.blk.c7;have x0:=ev.c0;clear d ey;go_region_with (go_at_call 54;refine (HT.out _ (by first | exact eA _ _ | exact (eA _ _).drew)).mono ?_;rintro e wc ⟨v,rfl,M,fq⟩;obtain ⟨A7,c7,rfl⟩:=WA M;have aa:=((iA wb).drew).trans fq qf;have s7:wc.cell? ⟨b,7,none⟩=some (.slice AC N cC):=(a9.same aa).blk.cell 7;have z7:wc.frozen? ⟨b,7,none⟩=false:=(a9.same aa).blk.frozen 7)
   all_goals
    have bw:ChI Y (wc.setCell ⟨b,7,none⟩ (.slice A7 N c7)) b q7 (.slice A7 N c7) (.map (some hm)) (pC id (-1) (OB a id) a):=a9.thr aa (by rw [ez.out,H.out];exact M);have f7:=(cy.same aa).upd ((eA (fun k=>k=b) wc).put1 (i:=7) (.slice A7 N c7)) fun e=>(cy.same aa).ne (a9.same aa).blk e;have f8:=qH bw;have gm:=qH f7;clear bw f7 M fq aa s7 z7 HT a9 cy ev ew r7 x0;generalize wc.setCell ⟨b,7,none⟩ (.slice A7 N c7)=wd at *;go_wp2;clear G;go_roundg (R-(i+1))
    case measure=>have:=j1;omega
    have D:=cu.out;rw [aA ad.out] at D;have I:=ay.out;rw [gl.out] at I;refine ⟨i+1,rfl,qO,qN,qH ⟨_,_,_,_,f8,gm,?_,?_,D,UZ HD eh I ei (gA rfl) fun y hy=>by show mpPI (mpPI f id (.int .i64 (-1))) id (.int .i64 (i0:Int)) y=f y;have f9:y≠id:=hy;unfold mpPI;rw [aA f9,aA f9]⟩⟩
    · have:=bc.out;rw [gA (show (mpPI f id (.int .i64 (-1)) id).isSome=true by unfold mpPI;rw [gA rfl];rfl)];split <;> omega
    rw [ez.out,H.out];exact gg
 have ai:i=R:=qO;obtain ⟨vC,a,cnt,f,hC,X,_,_,ab,b4⟩:=HI.out;rw [BC (by rw [nA,ch.out,ai];exact lA _),tD] at ab;simp only [QI] at ab;have gn:a=L:=ab.1;subst gn;obtain ⟨AC,cC,rfl⟩:=WA hC.row;have j1:¬ (i:Int)<(R:Int):=qO;have HC:=qH hC;have go:=qH X;have ay:=qH b4;have b8:=qH ai;clear hC X ab b4 ai G HI;go_wp2;go_end0;rw [<- fs.out];have h7:=HC.bum g4.out E.blk;have e:nsG (GR.dat ⟨P,AN,R,cN,Z,AR,nR,cR⟩)=ns:=fu.out;refine ⟨rfl,q7,hm,cnt,f,AC,cC,⟨by rw [e];exact h7,⟨HC.blk,go,RA HC.row ba,cg.upd HC.up (fun x hx e=>by have:=af.out;have:=ba.out;omega)⟩,by rw [e];exact fun i hi=>E.rc i hi qO,fun i h3 h7=>E.nil i h3 h7,fun i n hd D I=>?_,?_⟩⟩
 · refine ay.out i n hd ?_ D I;have h3:=(IA.1 D).1;have h4:(GR.dat ⟨P,AN,R,cN,Z,AR,nR,cR⟩).nodes.length=P.length:=nA _;have:=ch.out;have:=b8.out;omega
 exact ((dj.mono qe).trans E.up qf).trans HC.up fun x hx e=>by have D:=dj.size;have I:=E.up.size;omega
end
section
open Go.RowKit
theorem AU {l:List ByteArray} {s:ByteArray} (h:s∈l) (hs:s≠noText):∃ i:Nat,idsF l s=some (.int .i64 (i:Int))/\jB l s=i/\i<l.length:=by
 obtain ⟨i,a,c⟩:=xO h;have b:l.findIdx? (fun t=>decide (t=s))=some i:=by
  unfold jB at a;cases hq:l.findIdx? (fun t=>decide (t=s)) with
  | none=>rw [hq] at a;simp only at a;omega
  | some j=>rw [hq] at a;simp only at a;congr 1;omega
 refine ⟨i,?_,a,(IA.1 c).1⟩;unfold idsF idxI;rw [aA hs,b];rfl
theorem VZ {keys:List ByteArray} (hT:TabK keys) {x:PR} (hm:x.key∈keys) (hc:chk x.g=0):uO keys x:=by obtain ⟨b,h,_,_,_,j,a⟩:=QJ hc;obtain ⟨i,c,d,k⟩:=AU hm (PK (hT.good _ hm));have f:=hT.len;refine ⟨⟨i,c,d,qO⟩,(xI (hT.good _ hm)).2,⟨b,qO⟩,qO,fun s e=>by have:=a s e;omega,?_⟩;have:=ZrB (FS hc);rw [IS hc];omega
structure WZ (g:GR) (L:List L1) (hs:List Int):Prop where
 th:tD g.dat.nodes (yE g.dat.rels [])=(L,hs)
 len:hs.length=g.ns.length
 tab:∀ i,i<3->TabK (nsG g.dat i)
 rise:pF GRel.id 0 g.dat.rels
 rid:∀ r∈g.dat.rels,r.id<2048
 nd:(g.dat.nodes.map NA.id).Nodup
 n4:g.dat.nodes.length<=65536
 nodes:∀ f:Int->Option Value,(∀ (i:Nat) (n:NA) (hd:Int),g.dat.nodes[i]?=some n->hs[i]?=some hd->f n.id=some (.int .i64 hd))->∀ x∈g.ns.zip hs,NdOk (nsG g.dat) f x.1 x.2
 rels:∀ x∈g.rs,RlOk (nsG g.dat) L x
 cnt:(g.ns.map fun x=>x.props.length).sum+(g.rs.map fun x=>x.props.length).sum<=65536
theorem BU {α:Type} (f:α->Nat) (k:Nat):∀ l:List α,(∀ x∈l,f x<=k)->(l.map f).sum<=k*l.length
 | [],_=>qS
 | x::l,h=>by have b:=BU f k l fun y a=>h y (by simp [a]);have c:=h x qS;rw [CB,nI,BA,Nat.mul_succ];omega
theorem bcond {g:GR} (h:(chkP g.dat).1=0):∃ L hs,WZ g L hs:=by
 obtain ⟨hh,hw⟩:=nO h;obtain ⟨d,q,v⟩:=RZ h;obtain ⟨w,z⟩:=eK hh;obtain ⟨a0,a1⟩:=jO hh;have C:=(CQ _ _ _ w).1;have D:=pM _ _ _ w;have o:=(WK _ _ _ w).2;obtain ⟨⟨R,_⟩,S⟩:=rM _ _ _ _ z;have c:=EQ _ _ _ _ z;have E:∀ n∈g.dat.nodes,∀ t∈n.labels,t∈AB g.dat 1:=fun n T t ht=>((NE g.dat 1).mem t).2 (ED.2 ⟨n,T,ht⟩);have V:∀ r∈g.dat.rels,r.type∈AB g.dat 2:=fun r m=>((NE g.dat 2).mem _).2 (fD m);have F:∀ n∈g.dat.nodes,∀ p∈n.props,p.key∈AB g.dat 3:=fun n T p s=>((NE g.dat 3).mem _).2 (BP _ (ED.2 ⟨n,T,fD s⟩));have G:∀ n∈g.dat.rels,∀ p∈n.props,p.key∈AB g.dat 3:=fun n T p s=>((NE g.dat 3).mem _).2 (cS _ (ED.2 ⟨n,T,fD s⟩));obtain ⟨A,U⟩:=qx (yE g.dat.rels []);obtain ⟨b1,_,b3,b4⟩:=qU g.dat.rels [] (fun r m=>(c r m).1.1) R;rw [U] at b1 b3 b4;simp only [mC] at b1;have H:A.length<=2048:=by rw [b1];exact rU g.dat.rels 0 qO fun r m=>(c r m).1
 obtain ⟨t1,_,t3,t4⟩:=nU g.dat.nodes A (C.imp fun h e=>qO);have W:∀ l∈A,uM l:=fun l hl=>by
  obtain ⟨i,B,e⟩:=pS.1 hl;by_cases hu:∃ r∈g.dat.rels,r.id.toNat=i
  · obtain ⟨r,m,rfl⟩:=hu;have:=b3 r m;rw [FA B,e] at this;injection this with this
    rw [this];exact ⟨rfl,rfl,rfl,rfl⟩
  have:=b4 i (oA _) B fun r m he=>hu ⟨r,m,he⟩;rw [FA B,e] at this;injection this with this
  rw [this];exact ⟨rfl,rfl,rfl,rfl⟩
 have X:=oU g.dat.nodes A H W;have Y:=pU g.dat.nodes A H;obtain ⟨L,hs,hL⟩:∃ L hs,tD g.dat.nodes A=(L,hs):=⟨_,_,rfl⟩
 rw [hL] at t1 t3 X Y;simp only at t1 t3 X Y;have I:hs.length=g.ns.length:=by rw [t3];exact nA _
 have M:∀ y,QH g.dat y=true->∃ n∈g.dat.nodes,n.id=y:=fun y hy=>fC.1 (MJ hy);refine ⟨L,hs,by rw [U];exact hL,I,fun i B=>?_,⟨fun x u=>(c x u).1.1,R⟩,fun r m=>(c r m).1.2,C.imp fun h e=>qO,qO,fun f hf x u=>?_,fun x u=>?_,?_⟩
 · obtain rfl | rfl | rfl:i=0\/i=1\/i=2:=qO
   · exact d
   · exact q
   exact v
 · obtain ⟨i,B,e⟩:=pS.1 u;have N:i<g.ns.length:=by rw [List.length_zip] at B;omega
   have O:i<hs.length:=qO;rw [List.getElem_zip] at e;have b:x.1.dat∈g.dat.nodes:=by rw [<- e];exact fD (CJ N)
   have Z:=hf i x.1.dat x.2 (by show (g.ns.map ND.dat)[i]?=_;rw [MA,FA N,<-e];rfl) (by rw [FA O,<-e]);obtain ⟨r1,r2,r3⟩:=o _ b;refine ⟨Z,⟨r1.1,by have P:x.1.id<1024:=r1.2;omega⟩,fun p s=>VZ v (F _ b p.dat (fD s)) ((gK (D _ b).2).2 p.dat (fD s)).2,fun t ht=>?_,r2,fun f' w z=>?_⟩
   · have a:=E _ b t ht;obtain ⟨j,e1,e2,_⟩:=AU a (PK (d.good _ a));exact ⟨j,e1,e2,(xI (d.good _ a)).2⟩
   unfold bE;simp only [kB];exact ⟨Y _ (by rw [<- e];exact CJ O),NB.2 ⟨w,z⟩,sZ d.sort d.len (E _ b) (TT (D _ b).1) r2⟩
 · have b:x.dat∈g.dat.rels:=fD u;obtain ⟨q1,q2,q3,q4⟩:=c _ b;have a:=V _ b;obtain ⟨j,e1,e2,_⟩:=AU a (PK (q.good _ a));obtain ⟨k,k1,k2,k3,k4,_⟩:=t1.at_ _ _ (b3 x.dat b);obtain ⟨p1,p2,p3,p4⟩:=X k (OC k1);obtain ⟨n1,m1,f1⟩:=M _ q3;obtain ⟨n2,m2,f2⟩:=M _ q4;have i1:=(o n1 m1).1;have i2:=(o n2 m2).1;refine ⟨⟨q1.1,by have P:x.id<2048:=q1.2;omega⟩,fun p s=>VZ v (G _ b p.dat (fD s)) ((gK (S _ b)).2 p.dat (fD s)).2,⟨j,e1,e2,(xI (q.good _ a)).2⟩,k,k1,fun f' w z=>?_⟩;unfold cE AI;simp only [kB];rw [k3,k4];exact ⟨⟨NB.2 (by simp only;omega),NB.2 (by simp only;omega),p1,p2,p3,p4⟩,UQ a q.len,NB.2 ⟨w,z⟩⟩
 have s1:=BU (fun x:ND=>x.props.length) 16 g.ns fun x u=>by have P:=(o x.dat (fD u)).2.2;simpa [ND.dat] using P
 have s2:=BU (fun x:RL=>x.props.length) 16 g.rs fun x u=>by have P:=(gK (S x.dat (fD u))).1;simpa [RL.dat] using P
 have h3:g.dat.nodes.length=g.ns.length:=nA _;have h4:g.dat.rels.length=g.rs.length:=nA _;omega
theorem CU {tmps:Array Value} {wE:World} {u0:Value} {er:Int} {R:Ending->World->Prop} (h2:tmps.getD 2 undef=.pointer (some ⟨B,0,none⟩)) (h3:tmps.getD 3 undef=.int .i64 er) (hb:Blk wE B 29 #[u0]) (hR:R (.returned (.tuple #[u0,.int .i64 er])) wE):
 bodyPost Tryz.prog Tryz.f9 R Exit.ret ⟨tmps,[]⟩ wE:=by
 have a:=hb.c0;refine LD (v:=.tuple #[u0,.int .i64 er]) ?_ rfl hR;simp only [LF] at h2 h3;simp [results,Tryz.results9,go_sem,h2,h3,a]
def DU (b2:Nat) (Ok:Option Addr->Nat->Nat->World->Prop) (W:World):Prop:=∃ A1 n1 c1,Blk W b2 29 #[.slice A1 n1 c1]/\Ok A1 n1 c1 W
theorem ZuD {F:Nat->Prop} {g:GR} (w:World) (hg:RdG w F g) (hz:RG g) {Ok:Nat->Option Addr->Nat->Nat->World->Prop} {Bad:Int->World->Prop}
 (a2:∀ er W,Bad er W->Blk W (w.heap.size+1) 29 #[.slice none 0 0])
 (H:(chkP g.dat).1=0->∀ w2,Same w w2->w.heap.size+2<=w2.heap.size->Blk w2 w.heap.size 26 #[.slice g.AN g.nN g.cN,.slice g.AR g.nR g.cR]->Blk w2 (w.heap.size+1) 29 #[.slice none 0 0] ->
   Calls Tryz.prog 25 #[.pointer (some ⟨w.heap.size,0,none⟩),.pointer (some ⟨w.heap.size+1,0,none⟩)] (w2.alloc (.cells #[.int .i64 0] 30)) (VK (DU (w.heap.size+1) (Ok w2.heap.size)) Bad w2.heap.size)):
 Calls Tryz.prog 9 #[g.agg] w fun e w'=>((chkP g.dat).1≠0/\e=.returned (.tuple #[.slice none 0 0,.int .i64 (chkP g.dat).1])/\Same w w')\/((chkP g.dat).1=0 /\
  ((∃ A1 n1 c1 W b,e=.returned (.tuple #[.slice A1 n1 c1,.int .i64 0])/\Ok b A1 n1 c1 W/\w.heap.size+2<=b/\Blk W b 30 #[.int .i64 0]/\Upd (fun k=>k=w.heap.size+1\/k=b) W w') \/
  ∃ er W,e=.returned (.tuple #[.slice none 0 0,.int .i64 er])/\Bad er W/\Upd (fun k=>w.heap.size+1<=k) W w')):=by
 have A:=qH H;have B:=qH a2;have X:=qH hg;have Y:=qH hz;clear H a2 hg hz;have a0:∀ (fn:Fn) (first cap:Array Value) (w:World),(Instr.makeFunc fn first cap).run Tryz.prog w=.ok (.func fn first cap) w:=fun _ _ _ _=>rfl;obtain ⟨ns,AN,nN,cN,rs,AR,nR,cR⟩:=g;unfold GR.agg;simp only at A ⊢;obtain ⟨ck,y⟩:=qx (chkP (GR.dat ⟨ns,AN,nN,cN,rs,AR,nR,cR⟩));have C:=qH y;rw [y] at A ⊢;clear y;obtain ⟨V,ca⟩:=ck;simp only at A ⊢;go_enter Tryz.func9,Tryz.ntmps9;go_upto_region 1 with fail;have f:=jA w 26 #[.slice AN nN cN,.slice AR nR cR];have D:=(iA w).alloc (.cells #[.slice AN nN cN,.slice AR nR cR] 26);have E:(w.alloc (.cells #[.slice AN nN cN,.slice AR nR cR] 26)).heap.size=w.heap.size+1:=aB _ _;generalize w.alloc (.cells #[.slice AN nN cN,.slice AR nR cR] 26)=L at *;have q:=jA L 29 #[.slice none 0 0];have f:=f.same ((iA L).alloc (.cells #[.slice none 0 0] 29));have r:=D.alloc (.cells #[.slice none 0 0] 29);have s:(L.alloc (.cells #[.slice none 0 0] 29)).heap.size=L.heap.size+1:=aB _ _;generalize L.alloc (.cells #[.slice none 0 0] 29)=w2 at *;rw [E] at q s;have N:=qH f;have O:=qH q;have G:=qH r;have P:=qH s;have c:=qH (YT w2 ⟨ns,AN,nN,cN,rs,AR,nR,cR⟩ (X.same r) Y (e:=V) (at_:=ca) C);unfold GR.agg at c;simp only at c;have q0:=f.c0;have q1:=f.c1;clear f q D r E s X Y C;go_wp2_with fail;refine c.mono ?_;rintro e a ⟨rfl,o⟩;have t:=qH o;have I:=qH (N.same o);have d:=qH (O.same o);clear o q0 q1 c;by_cases m:V=0
 case neg =>
  have a1:(V != 0)=true:=qC.2 m;have R:=qH m;have Z:=d.c0;have z0:=d.frozen 0;clear m;go_wp2;refine CU rfl rfl (d.put 0 (.slice none 0 0)) ?_;exact .inl ⟨R,rfl,CC (G.trans t qf) (aN _) _⟩
 subst m;have u:w.heap.size+2<=a.heap.size:=by have:=t.size;have:=P.out;omega
 have n:=qH u;have S:=qH (UX (gf:=25) (enters_of Tryz.func25 qK rfl) a (A.out rfl a (G.trans t qf) u I d));clear u;go_wp2_with fail;refine S.mono ?_;rintro e w5 ⟨h,z,⟨rfl,⟨A1,n1,c1,j,M⟩,rfl⟩ | ⟨er,rfl,l,rfl⟩⟩
 · have i:w.heap.size+1≠a.heap.size:=qh n;have v:=qH (j.far (p:=⟨a.heap.size,0,none⟩) (fun e=>i e) (.int .i64 0));have T:Hid (Upd (fun k=>k=w.heap.size+1\/k=a.heap.size) h (h.setCell ⟨a.heap.size,0,none⟩ (.int .i64 0))):=qH ((eA (fun k=>k=w.heap.size+1\/k=a.heap.size) h).setCell (p:=⟨a.heap.size,0,none⟩) (.inl (.inr rfl)) _);have x:=qH M;have U:=qH z;clear i M j z S A;generalize h.setCell ⟨a.heap.size,0,none⟩ (.int .i64 0)=w5 at *;have Z:=v.c0;have z0:=v.frozen 0;go_wp2;refine CU rfl rfl (v.put 0 (.slice A1 n1 c1)) ?_;exact .inl ⟨A1,n1,c1,rfl,h,a.heap.size,x,n,U,T.setCell (p:=⟨w.heap.size+1,0,none⟩) (.inl (.inl rfl)) _⟩
 have j:=(B.out er h l).same ((iA h).alloc (.cells #[.int .i64 er] 99));have i:w.heap.size+1≠a.heap.size:=qh n;have v:=qH (j.far (p:=⟨a.heap.size,0,none⟩) (fun e=>i e) (.int .i64 er));have T:Hid (Upd (fun k=>w.heap.size+1<=k) h ((h.alloc (.cells #[.int .i64 er] 99)).setCell ⟨a.heap.size,0,none⟩ (.int .i64 er))):=qH (((eA (fun k=>w.heap.size+1<=k) h).alloc (.cells #[.int .i64 er] 99)).setCell (p:=⟨a.heap.size,0,none⟩) (.inl (by have:=n.out;simp only;omega)) _);have x:=qH l;clear i l j z S A;generalize (h.alloc (.cells #[.int .i64 er] 99)).setCell ⟨a.heap.size,0,none⟩ (.int .i64 er)=w5 at *;have Z:=v.c0;have z0:=v.frozen 0;go_wp2;refine CU rfl rfl (v.put 0 (.slice none 0 0)) ?_;exact .inr ⟨er,rfl,h,x,T.setCell (p:=⟨w.heap.size+1,0,none⟩) (.inl (lA _)) _⟩
end
end Go.Proofs.YtmkjfhnlnhceiaaGreatDoor
