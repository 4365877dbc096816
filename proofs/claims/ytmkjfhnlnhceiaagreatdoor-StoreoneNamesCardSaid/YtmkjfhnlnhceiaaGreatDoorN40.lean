/- Texts that the claim leans on: walks and plain laws, function by function. -/
import Derived.Test.YtmkjfhnlnhceiaaGreatDoorN34
import Derived.Test.YtmkjfhnlnhceiaaGreatDoorN38
import Derived.Test.YtmkjfhnlnhceiaaGreatDoorN39
set_option maxRecDepth 100000
set_option maxHeartbeats 16000000
namespace Go.Proofs.YtmkjfhnlnhceiaaGreatDoor
section
open Go.RowKit
attribute [local go_sem] Ybq
noncomputable def nsG (g:ZaN):Nat->List ByteArray:=fun i=>Zaq g ((i:Int)+1)
structure StR (w w':World) (B b:Nat) (q:BuP) (hm cnt:Nat) (f:Int->Option Value) (A:Option Addr) (c:Nat) (L:List L1) (hs:List Int) (g:GR):Prop where
 m:BuM w' B q (nsG g.dat)
 k:FiK w' B b hm L.length cnt A c L f q g
 rc:∀ i,i<3->(q.l i).map BS.rc=(nsG g.dat i).map fun s=>some (tokD s)
 nil:∀ i,3<=i->i<7->q.l i=[]
 heads:∀ (i:Nat) (n:Zaw) (hd:Int),g.dat.nodes[i]?=some n->hs[i]?=some hd->f n.id=some (.int .i64 hd)
 up:Upd (fun x=>x=b) w w'
def q00:BuP:=⟨fun _=>0,fun _=>0,fun _=>0,fun _=>undef,fun _=>undef,fun _=>[],fun _=>0⟩
theorem ZmZ {ns:List Zaw} {hs:List Int} {f f':Int->Option Value} {i:Nat} {n:Zaw} {hd:Int} (hnd:(ns.map Zaw.id).Nodup) (hx:ns[i]?=some n) (hh:hs[i]?=some hd) (h:∀ (k:Nat) (m:Zaw) (e:Int),k<i->ns[k]?=some m->hs[k]?=some e->f m.id=some (.int .i64 e))
 (h1:f' n.id=some (.int .i64 hd)) (h2:∀ y,y≠n.id->f' y=f y):∀ (k:Nat) (m:Zaw) (e:Int),k<i+1->ns[k]?=some m->hs[k]?=some e->f' m.id=some (.int .i64 e):=by
 intro k m e j b c;by_cases a:k=i
 · subst a;rw [hx] at b;cases b;rw [hh] at c;cases c;exact h1
 rw [h2 m.id (fun g=>a ?_)]
 · exact h k m e qO b c
 have d:k<(ns.map Zaw.id).length:=by rw [Yag];exact (Yaq.1 b).1
 exact (List.getElem?_inj d hnd).1 (by rw [Yau,Yau,b,hx,Ybw,Ybw,g])
theorem Zsk {rs:List GRel} {r:GRel} {L L0:List L1} {i:Nat} (hx:rs[i]?=some r) (h1:ZdK (rs.drop i) L=L0) (h2:ZeA GRel.id L.length (rs.drop i)) :
 L.length<=r.id.toNat/\0<=r.id/\ZdK (rs.drop (i+1)) ((L++List.replicate (r.id.toNat+1-L.length) ZaE).set r.id.toNat ⟨true,r.src,r.dst,-1,-1,-1,-1⟩)=L0 /\
  ((L++List.replicate (r.id.toNat+1-L.length) ZaE).set r.id.toNat ⟨true,r.src,r.dst,-1,-1,-1,-1⟩).length=r.id.toNat+1/\ZeA GRel.id (r.id.toNat+1) (rs.drop (i+1)):=by
 obtain ⟨b,d⟩:=Yaq.1 hx;have c:=YbF b;rw [d] at c;rw [c] at h1 h2;have e:=h2.1 r (by simp);have a:L.length<=r.id.toNat:=qO;rw [ZdK] at h1;rw [ZtF a];refine ⟨a,qO,h1,?_,h2.tail⟩;rw [Yaf,Yaf,Ybk,Ycs];omega
theorem Zna (w:World) {B b:Nat} {g:GR} {L:List L1} {hs:List Int} (hBw:B<=w.heap.size) (hb:Blk w b 73 (Zch q00 0)) (hbB:B<=b) (hg:RdG w (fun x=>x<B) g) (ht:ZhL g) (hn:∀ k,(Zam g.dat k).length<=8796093022208) (hk:∀ i,i<3->TabK (nsG g.dat i))
 (hr:ZeA GRel.id 0 g.dat.rels) (hr2:∀ r∈g.dat.rels,r.id<2048) (hd:(g.dat.nodes.map Zaw.id).Nodup) (hN4:g.dat.nodes.length<=65536) (hL:Zay g.dat.nodes (ZdK g.dat.rels [])=(L,hs)) :
 Calls Tryz.prog 26 #[.pointer (some ⟨b,0,none⟩),g.agg] w fun e w'=>e=.returned (.tuple #[])/\∃ q hm cnt f A c,StR w w' B b q hm cnt f A c L hs g:=by
 obtain ⟨OR,d1⟩:∃ OR:Ending->World->Prop,(fun e w'=>e=.returned (.tuple #[])/\∃ q hm cnt f A c,StR w w' B b q hm cnt f A c L hs g)=OR:=⟨_,rfl⟩
 rw [d1];have fs:=qH d1;have b5:Hid (∀ C,RdG C (fun x=>x<B) g->∀ k:Nat,Calls Tryz.prog 39 #[.agg #[.slice g.AN g.nN g.cN,.slice g.AR g.nR g.cR],.int .i64 ((k:Int)+1)] C fun e w'=>∃ (A:Option Addr) (c:Nat),e=.returned (.slice A (nsG g.dat k).length c)/\Hid (w'.ownsRow C.heap.size 9 1 (.slice A (nsG g.dat k).length c) (nsG g.dat k).length ((nsG g.dat k).map Value.string))/\Same C w'):=qH fun C gp k =>
  (ZoW C C g (Yaa _ _) gp ht ((k:Int)+1) (hn _) (ZaA g.dat _)).mono fun e w' ⟨A,c,D,I,h3,_⟩=>⟨A,c,D,I,h3⟩
 have b6:=qH hk;have HR:=qH hr;have ft:=qH hr2;have HD:=qH hd;have ak:Hid (g.ns.length<=65536):=qH (by have h9:=hN4;unfold GR.dat at h9;simpa using h9);have HL:=qH hL;have HG:=qH hg;obtain ⟨ns,d2⟩:∃ ns,nsG g.dat=ns:=⟨_,rfl⟩
 rw [d2] at b6 b5;have fu:=qH d2;clear d1 hk hr hr2 hd hL hg ht hn d2 hN4;obtain ⟨P,AN,R,cN,Z,AR,nR,cR⟩:=g;unfold GR.agg;simp only at b5 ak ⊢;go_enter Tryz.func26,Tryz.ntmps26;go_upto_region 1 with fail;have da:=Yad w 26 #[.slice AN R cN,.slice AR nR cR];have al:=(Yaa (fun _=>False) w).alloc (.cells #[.slice AN R cN,.slice AR nR cR] 26);have db:=hb.same al;have dc:B<=(w.alloc (.cells #[.slice AN R cN,.slice AR nR cR] 26)).heap.size:=Yaj hBw al.size;have dd:=HG.same al;have de:b<w.heap.size:=hb.lt;clear hb hBw;generalize w.alloc (.cells #[.slice AN R cN,.slice AR nR cR] 26)=w1 at *;generalize w.heap.size=gB at *;have ca:=qH da;have df:=qH al;have dg:=qH db;have dh:=qH dc;have di:=qH dd;have af:=qH hbB;clear da al db dc dd hbB HG;go_region;have bp:Blk (w1.alloc (.cells #[.pointer (some ⟨b,0,none⟩),.pointer (some ⟨b,1,none⟩),.pointer (some ⟨b,2,none⟩)] 100)).drew w1.heap.size 100 #[.pointer (some ⟨b,0,none⟩),.pointer (some ⟨b,1,none⟩),.pointer (some ⟨b,2,none⟩)]:=(Yad w1 _ _).drew;have ag:Same w1 (w1.alloc (.cells #[.pointer (some ⟨b,0,none⟩),.pointer (some ⟨b,1,none⟩),.pointer (some ⟨b,2,none⟩)] 100)).drew:=((Yaa (fun _=>False) w1).alloc _).drew;have bq:gB<w1.heap.size:=ca.lt;generalize (w1.alloc (.cells #[.pointer (some ⟨b,0,none⟩),.pointer (some ⟨b,1,none⟩),.pointer (some ⟨b,2,none⟩)] 100)).drew=w2 at *;have V:Hid (B<=w2.heap.size):=qH (Yaj dh ag.size);generalize w1.heap.size=lb at *;have dj:=qH bp;have bs:=qH (ca.same ag);have a0:=qH (di.same ag);have dk:=qH (df.same ag);have dl:Hid (BldS w2 w2 B b q00 ns 0):=qH ⟨Yaa _ _,dg.same ag,fun i _ h=>absurd h (Ydn i),fun i _ h=>absurd h (Ydn i),fun i _ h=>absurd h (Ydn i),fun i _ h=>absurd h (Ydn i),fun i _ h=>absurd h (Ydn i)⟩;have am:Hid (b<gB/\gB<lb):=qH ⟨de,bq⟩;have fv:Hid (b<w2.heap.size):=qH (dl.blk.lt);clear bp ag de bq dg ca df di dh;go_wp2_with fail;go_loopg [27] 3 (fun g gq wr=>∃ k:Nat,3-k=g/\k<=3/\gq=.int .i64 (k:Int)/\Hid (∃ q,BldS w2 wr B b q ns k))
 case atStart=>exact ⟨0,rfl,qO,rfl,qH ⟨q00,dl⟩⟩
 obtain ⟨k,rfl,hk,rfl,HI⟩:=hrel;by_cases G:k<3
 · obtain ⟨q,hI⟩:=HI.out;have dm:=dj.upd hI.up (fun e=>qh am);have dn:wr.cell? ⟨lb,k,none⟩=some (.pointer (some ⟨b,k,none⟩)):=by
    rw [dm.cell];obtain rfl | rfl | rfl:k=0\/k=1\/k=2:=qO
    all_goals rfl
   have W:=a0.upd hI.up (fun x hx e=>qh af);have b7:=ZnI wr (k+1) 1 ⟨qO,qO⟩ (.inl rfl);have cb:kdB k=k+1:=Yac qO;rw [<- cb] at b7;have dp:Hid (Calls Tryz.prog 50 #[.int .i64 ((k:Int)+1),.int .i64 1] wr fun e w'=>∃ t f m nv,e=.returned (.tuple #[.pointer (some ⟨t,0,none⟩),.int .i64 0])/\PT w' wr.heap.size t f m (kdB k) 1 0 0 (.slice none 0 0) nv [] []/\Same wr w'):=qH (by
    have e:((kdB k:Nat):Int)=(k:Int)+1:=by rw [cb];omega
    rw [e] at b7;exact b7)
   have cc:=qH hI;have fw:=qH W;have dq:Hid (w2.heap.size<=wr.heap.size):=qH hI.up.size;have j1:(k:Int)<3:=qO;clear hI dm W b7 cb HI;go_wp2_with fail;refine dp.mono ?_;rintro e w3 ⟨t,f,m,nv,rfl,hP,b0⟩;have an:=cc.blk.same b0;have c3:w3.cell? ⟨b,k,none⟩=some (.pointer none):=by rw [an.cell];exact Zsa q qO
   have z3:w3.frozen? ⟨b,k,none⟩=false:=an.frozen k;go_upto_region 5 with fail;have dr:Blk (w3.setCell ⟨b,k,none⟩ (.pointer (some ⟨t,0,none⟩))) b 73 ((Zch q k).setIfInBounds k (.pointer (some ⟨t,0,none⟩))):=an.put k _;have ao:=(Yaa (fun x=>x=b) w3).put1 (i:=k) (.pointer (some ⟨t,0,none⟩));have ds:=hP.turn an Zjq ao;have dt:=(fw.same b0).upd ao (fun x hx e=>qh af);have cd:Blk (w3.setCell ⟨b,k,none⟩ (.pointer (some ⟨t,0,none⟩))) gB 26 #[.slice AN R cN,.slice AR nR cR]:=((bs.upd cc.up (fun e=>qh am)).same b0).upd ao (fun e=>qh am);have du:Upd (fun x=>x=b\/wr.heap.size<=x) wr (w3.setCell ⟨b,k,none⟩ (.pointer (some ⟨t,0,none⟩))):=(b0.mono fun _ _ e=>e.elim).trans ao fun _ _ e=>.inl e;generalize w3.setCell ⟨b,k,none⟩ (.pointer (some ⟨t,0,none⟩))=w4 at *;have fx:=qH dr;have ap:=qH ds;have dv:=qH du;have ce:=qH (b5.out w4 dt k);have g0:=cd.c0;have g1:=cd.c1;clear an c3 z3 dr ao ds dt cd du hP b0 dp dn;obtain ⟨nn,d3⟩:∃ nn,(ns k).length=nn:=⟨_,rfl⟩
   have H:=qH d3;rw [d3] at ce;clear d3;go_wp2_with fail;refine ce.mono ?_;rintro e w5 ⟨A,c,rfl,d,bi⟩;have cf:Hid (InI wr w5 b t f m k ((Zch q k).setIfInBounds k (.pointer (some ⟨t,0,none⟩))) (ns k) (.slice A nn c) 0):=qH ⟨dv.same bi,fx.same bi,by rw [H.out];exact Zac d dv.size,0,.slice none 0 0,nv,[],ap.same bi,by simp,rfl,fun g hg hf=>by
    have D:=(d.lt g hg).1;rcases hf with e | e | e | e | e
    · have:=ap.blk.lt;omega
    · have:=ap.file.blk.lt;omega
    · have:=ap.map.lt;omega
    · simp [Value.ownBlock] at e
    obtain ⟨cs,hb⟩:=Zaf ap.row e;have:=hb.lt;omega⟩
   clear d bi g0 g1 ce;have fy:nn<=200:=by have:=(b6.out k G).len;have:=H.out;omega
   generalize wr=wo at *;go_wp2_with fail;go_loopg [45] nn (fun gh gr C=>∃ j:Nat,nn-j=gh/\j<=nn/\gr=.int .i64 (j:Int)/\Hid (InI wo C b t f m k ((Zch q k).setIfInBounds k (.pointer (some ⟨t,0,none⟩))) (ns k) (.slice A nn c) j))
   case atStart=>exact ⟨0,rfl,Yah _,rfl,cf⟩
   obtain ⟨j,rfl,hj,rfl,HJ⟩:=hrel;by_cases fz:j<nn
   · obtain ⟨gN,u,rfl,_,_,hu,hc,_,_⟩:=ZaW (i:=j) (by have:=HJ.row;rw [H.out] at this;exact this) fz;rw [Yau] at hu;obtain ⟨s,hs,rfl⟩:=YcJ.1 hu;obtain ⟨low,v,bj,l,hp,b1,b2,d4⟩:=HJ.ex;have cg:=b6.out k G;have ch:=cg.good s (Ybe hs);have dw:=ZjO wr hp HJ.up.size b1 ch (by rw [ZoG (ZfS ch),Yek];intro x hx;simp only [Ybc];rintro rfl;exact ZtD cg.nodup hs hx) (by rw [YaJ];omega)
     have b8:=qH dw;have aq:Hid (∀ (wy:World) c9 v' a2 l',PT wy wo.heap.size t f m (kdB k) 1 (((ns k).take j).length+1) c9 v' a2 l' ((ns k).take j++[s])->(∀ x∈l',x.A≠none)->l'.map BS.rc=l.map BS.rc++[some (tokD s)]->Upd (ZjN t f m v bj) wr wy->NewB wr v v'->NewB wr bj a2->InI wo wy b t f m k ((Zch q k).setIfInBounds k (.pointer (some ⟨t,0,none⟩))) (ns k) (.slice (some ⟨gN,0,none⟩) nn c) (j+1)):=qH fun wy c9 v' a2 l' D I h3 h4 h5 h6=>HJ.next (by have:=fv.out;have:=dq.out;omega) hs hp b2 d4 D I h3 h4 h5 h6;have r0:wr.cell? ⟨b,k,none⟩=some (.pointer (some ⟨t,0,none⟩)):=by rw [HJ.blk.cell];exact Zqp q _ qO
     have j2:(j:Int)<(nn:Int):=qO;clear hu hs hp b1 b2 d4 cg ch dw;go_wp2_with fail;refine b8.mono ?_;rintro e wy ⟨rfl,v',a2,l',D,I,h3,h4,h5,h6⟩;have g2:=qH (aq.out wy _ v' a2 l' D I h3 h4 h5 h6);clear D I h3 h4 h5 h6 r0 hc b8 aq;go_wp2;go_roundg (nn-(j+1))
     case measure=>omega
     case rel=>exact ⟨j+1,rfl,qO,by go_num,g2⟩
   have dx:j=nn:=qO;have j2:¬ (j:Int)<(nn:Int):=qO;have g3:Hid (∃ q',BldS w2 wr B b q' ns (k+1)):=qH (by
    obtain ⟨low,v,bj,l,hp,b1,b2,d4⟩:=HJ.ex;rw [YaB (by rw [H.out,dx];exact Yae _)] at hp b2;exact ⟨_,cc.add (t:=t) (f:=f) (m:=m) (low:=low) (nv:=bj) (v:=v) (l:=l) qO (Yaj V dq) HJ.up (by rw [Yac G];exact HJ.blk) (by have h9:=hp.file;rw [show zdB k=42 from Yac G];exact h9) (fun _=>⟨hp,b2⟩) (fun h=>absurd h qO)⟩)
   clear dx;go_wp2;go_roundg (3-(k+1))
   case measure=>omega
   case rel=>exact ⟨k+1,rfl,qO,by go_num,g3⟩
 obtain rfl:k=3:=qO;obtain ⟨q,hI⟩:=HI.out;have b9:=qH hI;clear G hk HI hI;have j1:¬ ((3:Nat):Int)<3:=qO;have S:B<=wr.heap.size:=Yaj V.out b9.up.size;clear j1;have dy:Hid (Calls Tryz.prog 52 #[.int .i64 4,.int .i64 1,.int .i64 17] wr fun e w'=>e=.returned (.tuple #[.pointer (some ⟨wr.heap.size,0,none⟩),.int .i64 0])/\PF w' wr.heap.size wr.heap.size 4 1 17 (.slice none 0 0) [] 0/\Same wr w'):=qH (Zdf wr 4 1 17 qD qD qD);have j1:¬ ((3:Nat):Int)<3:=qO;go_wp2_with fail;refine dy.mono ?_;rintro e u3 ⟨rfl,hP,hs⟩;have hb:=b9.blk.same hs;have c3:=hb.c3;have z3:=hb.frozen 3;obtain ⟨f3,fa⟩:∃ f,wr.heap.size=f:=⟨_,rfl⟩
 have ar:=qH (b9.new qD qD S hP hs);rw [fa] at ar ⊢;clear hP hs hb dy fa;go_upto_region 12 with fail;generalize u3.setCell ⟨b,3,none⟩ (.pointer (some ⟨f3,0,none⟩))=v3 at *;have S:B<=v3.heap.size:=Yaj V.out ar.up.size;clear c3 z3 b9;clear j1;have ak:Hid (Calls Tryz.prog 52 #[.int .i64 5,.int .i64 1,.int .i64 31] v3 fun e w'=>e=.returned (.tuple #[.pointer (some ⟨v3.heap.size,0,none⟩),.int .i64 0])/\PF w' v3.heap.size v3.heap.size 5 1 31 (.slice none 0 0) [] 0/\Same v3 w'):=qH (Zdf v3 5 1 31 qD qD qD);go_wp2_with fail;refine ak.mono ?_;rintro e u4 ⟨rfl,hP,hs⟩;have hb:=ar.blk.same hs;have c4:=hb.c4;have z4:=hb.frozen 4;obtain ⟨f4,fb⟩:∃ f,v3.heap.size=f:=⟨_,rfl⟩
 have au:=qH (ar.new qD qD S hP hs);rw [fb] at au ⊢;clear hP hs hb ak fb;go_upto_region 13 with fail;generalize u4.setCell ⟨b,4,none⟩ (.pointer (some ⟨f4,0,none⟩))=v4 at *;have S:B<=v4.heap.size:=Yaj V.out au.up.size;clear c4 z4 ar;have dz:Hid (Calls Tryz.prog 52 #[.int .i64 6,.int .i64 1,.int .i64 20] v4 fun e w'=>e=.returned (.tuple #[.pointer (some ⟨v4.heap.size,0,none⟩),.int .i64 0])/\PF w' v4.heap.size v4.heap.size 6 1 20 (.slice none 0 0) [] 0/\Same v4 w'):=qH (Zdf v4 6 1 20 qD qD qD);go_wp2_with fail;refine dz.mono ?_;rintro e u5 ⟨rfl,hP,hs⟩;have hb:=au.blk.same hs;have c5:=hb.c5;have z5:=hb.frozen 5;obtain ⟨f5,fc⟩:∃ f,v4.heap.size=f:=⟨_,rfl⟩
 have av:=qH (au.new qD qD S hP hs);rw [fc] at av ⊢;clear hP hs hb dz fc;go_upto_region 14 with fail;generalize u5.setCell ⟨b,5,none⟩ (.pointer (some ⟨f5,0,none⟩))=v5 at *;have S:B<=v5.heap.size:=Yaj V.out av.up.size;clear c5 z5 au;have e0:Hid (Calls Tryz.prog 52 #[.int .i64 8,.int .i64 1,.int .i64 32] v5 fun e w'=>e=.returned (.tuple #[.pointer (some ⟨v5.heap.size,0,none⟩),.int .i64 0])/\PF w' v5.heap.size v5.heap.size 8 1 32 (.slice none 0 0) [] 0/\Same v5 w'):=qH (Zdf v5 8 1 32 qD qD qD);go_wp2_with fail;refine e0.mono ?_;rintro e u6 ⟨rfl,hP,hs⟩;have hb:=av.blk.same hs;have c6:=hb.c6;have z6:=hb.frozen 6;obtain ⟨f6,fd⟩:∃ f,v5.heap.size=f:=⟨_,rfl⟩
 have E:=qH (av.new qD qD S hP hs);rw [fd] at E ⊢;clear hP hs hb e0 fd;go_upto_region 15 with fail;generalize u6.setCell ⟨b,6,none⟩ (.pointer (some ⟨f6,0,none⟩))=Y at *;have S:B<=Y.heap.size:=Yaj V.out E.up.size;clear c6 z6 av;obtain ⟨q7,E⟩:∃ q7,Hid (BldS w2 Y B b q7 ns 7):=⟨_,E⟩
 have e1:Hid (ChI Y Y b q7 (.slice none 0 0) (.map none) []):=qH ⟨Yaa _ _,E.blk,YaQ _ _ _ _⟩;have g4:=qH E.bum;have ba:=qH S;have cj:=qH (a0.upd E.up (fun x hx e=>qh af));have gx:nR<=9223372036854775807:=by have D:=a0.rels.row.max;have I:=a0.rels.row.le;unfold maxLen at D;simp only at D I;omega
 have gy:R<=9223372036854775807:=by have D:=a0.nodes.row.max;have I:=a0.nodes.row.le;unfold maxLen at D;simp only at D I;omega
 have g5:Hid (Z.length=nR):=qH a0.rels.len;have ck:Hid (P.length=R):=qH a0.nodes.len;have cl:Hid (Blk Y gB 26 #[.slice AN R cN,.slice AR nR cR]):=qH (bs.upd E.up (fun e=>qh am));have g6:Hid (b<Y.heap.size):=qH E.blk.lt;have g1:=cl.c1;obtain ⟨L0,bk⟩:∃ L0,ZdK (GR.dat ⟨P,AN,R,cN,Z,AR,nR,cR⟩).rels []=L0:=⟨_,rfl⟩
 have gz:=qH bk;rw [bk] at HL;have g7:Hid (∃ vC a,ChI Y Y b q7 vC (.map none) a/\ZdK ((Z.map RL.dat).drop 0) a=L0/\ZeA GRel.id a.length ((Z.map RL.dat).drop 0)/\a.length<=2048):=qH ⟨_,[],e1,bk,HR,by simp⟩;clear bk S e1 HR b5 b6 dj;go_wp2_with fail;clear g1;go_loopg [91] nR (fun g gs wr=>∃ i:Nat,nR-i=g/\i<=nR/\gs=.int .i64 (i:Int)/\Hid (∃ vC a,ChI Y wr b q7 vC (.map none) a/\ZdK ((Z.map RL.dat).drop i) a=L0/\ZeA GRel.id a.length ((Z.map RL.dat).drop i)/\a.length<=2048))
 case atStart=>exact ⟨0,rfl,Yah _,rfl,g7⟩
 obtain ⟨i,rfl,hi,rfl,HI⟩:=hrel;by_cases G:i<nR
 · obtain ⟨vC,a,hC,aj,fe,hl⟩:=HI.out;have W:=cj.upd hC.up (fun x hx e=>by have:=af.out;have:=ba.out;omega);obtain ⟨bA,o,x,rfl,_,_,hx,bl,p0,p1,p2,p3,p4⟩:=W.rels.at_ (i:=i) G;have a5:(Z.map RL.dat)[i]?=some x.dat:=by rw [Yau,hx];rfl
   obtain ⟨bb,h0,ff,fg,fh⟩:=Zsk a5 aj fe;have e2:=ft.out x.dat (Ybe a5);have HC:=qH hC;have aq:=qH ff;have bt:=qH fg;have e3:=qH fh;have j1:(i:Int)<(nR:Int):=qO;clear hC aj fe W hx bl a5 ff fg fh HI;obtain ⟨d5,a3,U,dst,d6,AP,nP,cP⟩:=x;obtain ⟨id,rfl⟩:∃ id:Nat,d5=(id:Int):=⟨d5.toNat,by have:0<=d5:=h0;omega⟩
   simp only at p0 p1 p2 p3 p4;have bb:a.length<=id:=by have h9:=bb;simp only [RL.dat,YaN] at h9;exact h9
   have e2:id<2048:=by have h9:=e2;simp only [RL.dat] at h9;omega
   simp only [RL.dat,YaN] at aq bt e3;clear h0;go_wp2_with fail;have ah:=Yad wr 60 #[.int .i64 (id:Int),.string a3,.int .i64 U,.int .i64 dst,.slice AP nP cP];have a1:=HC.same ((Yaa (fun _=>False) wr).alloc (.cells #[.int .i64 (id:Int),.string a3,.int .i64 U,.int .i64 dst,.slice AP nP cP] 60));generalize wr.alloc (.cells #[.int .i64 (id:Int),.string a3,.int .i64 U,.int .i64 dst,.slice AP nP cP] 60)=w8 at *;generalize wr.heap.size=xb at *;generalize wr=wo at *;have cf:Hid (∃ vD,ChI Y w8 b q7 vD (.map none) (a++List.replicate 0 ZaE)/\Blk w8 xb 60 #[.int .i64 (id:Int),.string a3,.int .i64 U,.int .i64 dst,.slice AP nP cP]):=qH ⟨vC,by simpa using a1,ah⟩;clear ah a1 p0 p1 p2 p3 p4;obtain ⟨lc,d7⟩:∃ lc,a.length=lc:=⟨_,rfl⟩
   have cm:=qH d7;rw [d7] at bb hl;clear d7;go_loopg [] (id+1-lc) (fun gh C=>∃ j:Nat,id+1-(lc+j)=gh/\lc+j<=id+1/\Hid (∃ vD,ChI Y C b q7 vD (.map none) (a++List.replicate j ZaE)/\Blk C xb 60 #[.int .i64 (id:Int),.string a3,.int .i64 U,.int .i64 dst,.slice AP nP cP]))
   case atStart=>exact ⟨0,rfl,qO,cf⟩
   obtain ⟨j,rfl,hj,HJ⟩:=hrel;obtain ⟨vD,hD,hX⟩:=HJ.out;obtain ⟨N,hN⟩:∃ N,(a++List.replicate j ZaE).length=N:=⟨_,rfl⟩
   have cn:N=lc+j:=by rw [<- hN,Yaf,Ybk,cm.out]
   obtain ⟨AC,cC,hv⟩:=Zad hD.row;rw [hN] at hv;subst hv;have co:=qH hD;have cp:=qH hX;have H:=qH hN;have e4:=qH cn;have r7:=hD.blk.c7;have x0:=hX.c0;clear hD hX hN HJ;by_cases hc:N<=id
   · have cq:decide ((N:Int)<=(id:Int))=true:=YaV qO;have cr:=qH hc;clear hc cn;go_upto_region 18 with fail;go_quiet (fail);have a6:Same wr (wr.drewN nq):=(Yaa (fun _=>False) wr).drewN nq;have T:=co.same a6;have a7:=cp.same a6;generalize wr.drewN nq=wq at *;have aw:=qH T;have ct:=qH a7;have bu:Hid (wq.ownsRow Y.heap.size 109 7 (.slice AC N cC) N ((a++List.replicate j ZaE).flatMap L1.cells)):=qH (by have h9:=T.row;rw [H.out] at h9;exact h9);have r7:=T.blk.c7;have h8:Y.heap.size<=wq.heap.size:=T.up.size;have hN4:N<=4096:=qh cr;clear a6 T a7 cq x0;go_wp2_with (at_builtin;go_must (refine Zat rfl (.tmp 107) (.tmp 109) _ _ rfl Y.heap.size 109 7 56 _ Tryz.underlying70 Zjl rfl (.slice AC N cC) N _ rfl (bu.alloc _) rfl (Zbg Tryz.underlying70 (Row.lk wq ZaE) (fun u hu=>Zua [ZaE] u (by rw [Ybs,Yfj,Ybl];exact hu))) (by unfold maxLen;omega) qO (by simp;omega) ?_);intro v7 w7 bm;obtain ⟨A7,c7,rfl⟩:=Zad bm.own;have e5:=qH bm;have cu:=bm.blk (aw.blk.alloc _) (aw.blk.ne_own bu qD);have s7:w7.cell? ⟨b,7,none⟩=some (.slice AC N cC):=cu.cell 7;have z7:w7.frozen? ⟨b,7,none⟩=false:=cu.frozen 7;clear bm cu r7);go_roundg (id+1-(lc+(j+1)))
     case measure=>have:=cr.out;have:=e4.out;omega
     have e6:Same wq (wq.alloc (.cells ZaE.cells.toArray 109)):=(Yaa (fun _=>False) wq).alloc _;have e7:=e5.out;have g8:=H.out;subst g8;have e8:=aw.app e6 e7;refine ⟨j+1,rfl,by have:=cr.out;have:=e4.out;omega,qH ⟨.slice A7 ((a++List.replicate j ZaE).length+1) c7,?_,?_⟩⟩
     · rw [List.replicate_succ',<-Yak];exact e8
     have D:=ct.same e6;have I:=e7.blk D (ct.ne_own aw.row qD);exact I.far (p:=⟨b,7,none⟩) (fun e=>ct.ne aw.blk qD e) _
   have cq:decide ((N:Int)<=(id:Int))=false:=YaM qO;have e9:j=id+1-lc:=qO;have ea:=qH e9;have bv:N=id+1:=qO;have gu:=qH bv;clear hc cn hj;go_upto_region 18 with fail;go_quiet (fail);have a6:Same wr (wr.drewN nq):=(Yaa (fun _=>False) wr).drewN nq;have T:=co.same a6;have a7:=cp.same a6;generalize wr.drewN nq=wq at *;clear a6 r7 x0 cq e9;go_upto_region 20 with fail;have a8:(a++List.replicate j ZaE)[id]?=some ZaE:=by have gv:=bb;have h9:=cm.out;rw [YcA qO,Yfa,Yac (qh ea)]
   have d:=T.row;rw [H.out] at d;obtain ⟨gC,_,rfl,_⟩:=Zck d (i:=id*7) qO;have g9:=qH T;obtain ⟨⟨c0,c1,c2,c3,c4,c5,c6⟩,a4⟩:=ZgF d a8;have f0:wq.frozen? ⟨gC,id*7,none⟩=false:=a4 0 qD;have f1:wq.frozen? ⟨gC,id*7+1,none⟩=false:=a4 1 qD;have f2:wq.frozen? ⟨gC,id*7+2,none⟩=false:=a4 2 qD;have f3:wq.frozen? ⟨gC,id*7+3,none⟩=false:=a4 3 qD;have f4:wq.frozen? ⟨gC,id*7+4,none⟩=false:=a4 4 qD;have f5:wq.frozen? ⟨gC,id*7+5,none⟩=false:=a4 5 qD;have f6:wq.frozen? ⟨gC,id*7+6,none⟩=false:=a4 6 qD;have ga:=qH a8;have eb:(id:Int)<(N:Int):=qO;clear a4 d a8 bv;refine Zaj 12 (fun C=>C.cell? ⟨b,7,none⟩=some (.slice (some ⟨gC,0,none⟩) N cC)/\C.cell? ⟨xb,0,none⟩=some (.int .i64 (id:Int))/\C.cell? ⟨xb,2,none⟩=some (.int .i64 U)/\C.cell? ⟨xb,3,none⟩=some (.int .i64 dst)) (by kernel_rfl) ⟨T.blk.cell 7,a7.cell 0,a7.cell 2,a7.cell 3⟩ (fun z=>?_);refine ZbE ?_;refine Ybi rfl (fun K hK=>?_);go_simp;refine hK.out _ _ ?_;clear hK K z T a7;clear c0 c1 c2 c3 c4 c5 c6 f0 f1 f2 f3 f4 f5 f6;have ax:ChI Y (Zqr wq gC (id*7) ⟨true,U,dst,-1,-1,-1,-1⟩).drew b q7 (.slice (some ⟨gC,0,none⟩) ((a++List.replicate j ZaE).set id ⟨true,U,dst,-1,-1,-1,-1⟩).length cC) (.map none) ((a++List.replicate j ZaE).set id ⟨true,U,dst,-1,-1,-1,-1⟩):=by have h9:=g9.out;rw [<- H.out] at h9;exact (h9.put ga _).same (Yaa (fun _=>False) _).drew
   obtain ⟨wz,b3⟩:∃ wz,(Zqr wq gC (id*7) ⟨true,U,dst,-1,-1,-1,-1⟩).drew=wz:=⟨_,rfl⟩
   rw [b3] at ax;unfold Zqr at b3;simp only at b3;rw [b3];have ec:=qH ax;clear ax b3 eb co cp;go_wp2;go_roundg (nR-(i+1))
   case measure=>omega
   have gb:id+1-a.length=j:=by rw [cm.out];exact ea.symm
   have D:=aq.out;have I:=bt.out;have h3:=e3.out;rw [gb] at D I;rw [<- I] at h3;exact ⟨i+1,rfl,qO,by go_num,qH ⟨_,_,ec,D,h3,by rw [I];omega⟩⟩
 have ai:i=nR:=qO;obtain ⟨vC,a,hC,aj,_,hl⟩:=HI.out;rw [Ybt (by rw [Yag,g5.out,ai];exact Yae _)] at aj;have gc:a=L0:=aj;subst gc;have HC:=qH hC;have hA:=hC.same ((Yaa (fun _=>False) wr).alloc (.map #[] 0));have s8:=hA.blk.c8;have z8:=hA.blk.frozen 8;have j1:¬ (i:Int)<(nR:Int):=qO;clear aj hC hA HI ai G hi;have gd:=@YcC Tryz.prog;go_upto_region 23 with fail;have hH:=HC.head;obtain ⟨hm,fi⟩:∃ hm,wr.heap.size=hm:=⟨_,rfl⟩
 have X:MpI ((wr.alloc (.map #[] 0)).setCell ⟨b,8,none⟩ (.map (some wr.heap.size))) wr.heap.size 0 (fun _=>none):=(YeE wr).upd ((Yaa (fun k=>k=b) _).put1 _) fun e=>by have D:=HC.up.size;have I:=g6.out;omega
 have cv:Y.heap.size<=wr.heap.size:=HC.up.size;rw [fi] at hH X cv ⊢;generalize (wr.alloc (.map #[] 0)).setCell ⟨b,8,none⟩ (.map (some hm))=wh at *;have ed:=qH cv;have g0:wh.cell? ⟨gB,0,none⟩=some (.slice AN R cN):=(cl.upd hH.up (fun e=>by have:=am.out;have:=cl.lt;omega)).cell 0;have hN4:R<=65536:=by have:=ak.out;have:=ck.out;omega
 have gf:Hid (∃ vC a cnt f,ChI Y wh b q7 vC (.map (some hm)) a/\MpI wh hm cnt f/\cnt<=2*0/\a.length<=2048/\Zay ((P.map ND.dat).drop 0) a=(L,hs.drop 0)/\∀ (k:Nat) (n:Zaw) (hd:Int),k<0->(P.map ND.dat)[k]?=some n->hs[k]?=some hd->f n.id=some (.int .i64 hd)) :=
  qH ⟨vC,a,0,_,hH,X,Yae _,hl,HL,fun k _ _ h=>absurd h (Ydn k)⟩
 clear hH X cv fi s8 z8 j1 gd HC hl;go_wp2_with fail;clear g0;go_loopg [133] R (fun g fj wr=>∃ i:Nat,R-i=g/\i<=R/\fj=.int .i64 (i:Int)/\Hid (∃ vC a cnt f,ChI Y wr b q7 vC (.map (some hm)) a/\MpI wr hm cnt f/\cnt<=2*i/\a.length<=2048/\Zay ((P.map ND.dat).drop i) a=(L,hs.drop i)/\∀ (k:Nat) (n:Zaw) (hd:Int),k<i->(P.map ND.dat)[k]?=some n->hs[k]?=some hd->f n.id=some (.int .i64 hd)))
 case atStart=>exact ⟨0,rfl,Yah _,rfl,gf⟩
 obtain ⟨i,rfl,hi,rfl,HI⟩:=hrel;by_cases G:i<R
 · obtain ⟨vC,a,cnt,f,hC,X,fk,hl,ab,b4⟩:=HI.out;have W:=cj.upd hC.up (fun x hx e=>by have:=af.out;have:=ba.out;omega);obtain ⟨bA,o,x,rfl,_,_,hx,bl,p0,p1,p2⟩:=W.nodes.at_ (i:=i) G;have a5:(P.map ND.dat)[i]?=some x.dat:=by rw [Yau,hx];rfl
   have ee:=W.nodes.id x bl;obtain ⟨fl,fm⟩:=Zqs a5 ab;have ef:hs[i]?=some (Zdx (Zax a x.id)):=fl;have eg:Zay ((P.map ND.dat).drop (i+1)) (if Zax a x.id=[] then a else Zan x.id (-1) (Zax a x.id) a)=(L,hs.drop (i+1)):=fm;have ay:=qH ef;have cw:=qH eg;have eh:=qH a5;have bc:=qH fk;have ei:=qH b4;have ej:=qH hl;have HF:=qH ee;have j1:(i:Int)<(R:Int):=qO;clear W hx bl a5 ab fl fm ef eg fk b4 hl ee HI;obtain ⟨id,fr,AL,nL,cL,d6,AP,nP,cP⟩:=x;simp only at p0 p1 p2;simp only at ay cw HF;go_upto_region 26 with fail;have ah:=Yad wr 56 #[.int .i64 id,.slice AL nL cL,.slice AP nP cP];have cx:=(Yaa (fun _=>False) wr).alloc (.cells #[.int .i64 id,.slice AL nL cL,.slice AP nP cP] 56);have a1:=hC.same cx;have ek:=X.same cx;generalize wr.alloc (.cells #[.int .i64 id,.slice AL nL cL,.slice AP nP cP] 56)=w8 at *;generalize wr.heap.size=xb at *;clear hC X cx p0 p1 p2;obtain ⟨N,hN⟩:∃ N,a.length=N:=⟨_,rfl⟩
   obtain ⟨AC,cC,hv⟩:=Zad a1.row;rw [hN] at hv;subst hv;have d:=a1.row;rw [hN] at d;have gg:N<=2048:=qh ej;have F:Same w8 w8.drew:=(Yaa _ w8).drew;have bw:=ZfN w8.drew (Yca (Zaa d F)).weak qO id;have bx:=qH bw;have el:=qH a1;have em:=qH ek;have en:=qH ah;have H:=qH hN;refine Zaj 7 (fun C=>C.cell? ⟨b,7,none⟩=some (.slice AC N cC)/\C.cell? ⟨xb,0,none⟩=some (.int .i64 id)) (by kernel_rfl) ⟨a1.blk.cell 7,ah.cell 0⟩ (fun z=>?_);clear bw a1 ek ah hN d;refine ZbE ?_;refine Ybv 6 rfl (fun K hK=>?_);go_simp;refine bx.mono ?_;rintro e w9 ⟨v,rfl,M,fn⟩;obtain ⟨ni,d8⟩:∃ ni,(Zax a id).length=ni:=⟨_,rfl⟩
   rw [d8] at M;obtain ⟨Ai,ci,rfl⟩:=Zad M;have ac:=F.trans fn fun _ _ e=>e;have bd:=qH (el.same ac);have eo:=qH (em.same ac);have az:=qH (en.same ac);refine hK _ _ ⟨bd.blk.cell 7,az.cell 0⟩ (fun z=>?_);clear hK K;refine ZbE ?_;refine Ybi rfl (fun K hK=>?_);go_simp;refine hK.out _ _ ?_;have cy:=qH M;have ep:=qH d8;clear hK K z M fn ac F bx el em en d8;go_upto_region 27 with fail;have O:=eo.same (Yaa (fun _=>False) w9).drew;obtain ⟨wa,d9,fo,bn⟩:=O.store Zbp (by have:=bc.out;unfold maxLen;omega) (i:=id) HF (.int .i64 (-1));have eq:=(bd.same (Yaa (fun _=>False) w9).drew).map O ed.out bn;have er:=(az.same (Yaa (fun _=>False) w9).drew).upd bn fun e=>O.ne (az.same (Yaa (fun _=>False) w9).drew) e.symm;refine Zaj 6 (fun C=>C.cell? ⟨b,8,none⟩=some (.map (some hm))/\C.cell? ⟨xb,0,none⟩=some (.int .i64 id)) (by kernel_rfl) ⟨bd.blk.cell 8,az.cell 0⟩ (fun z=>?_);refine ZbE ?_;refine Ybi rfl (fun K hK=>?_);go_simp;refine hK.out _ _ ?_;have bf:=qH eq;have cz:=qH fo;have bg:=qH er;have bh:=qH (Zae (Zaa cy (Yaa (fun _=>False) w9).drew) bn fun g hg e=>by obtain ⟨cs,hb⟩:=Zaf (Zaa cy (Yaa (fun _=>False) w9).drew) hg;exact O.ne hb e.symm)
   clear hK K z d9 O bn fo eq er bd eo az cy;by_cases h0:Zax a id=[]
   · have gi:ni=0:=by rw [<- ep.out,h0];rfl
     subst gi;have ad:=qH h0;clear h0;go_wp2;clear G;go_roundg (R-(i+1))
     case measure=>have:=j1;omega
     have D:=cw.out;rw [Yac ad.out] at D;have I:=ay.out;rw [ad.out] at I;refine ⟨i+1,rfl,qO,by go_num,qH ⟨_,a,_,_,bf,cz,?_,ej,D,ZmZ HD eh I ei (Yac rfl) fun y hy=>Yab hy⟩⟩;have:=bc.out;split <;> omega
   obtain ⟨i0,rest,ae⟩:=List.exists_cons_of_ne_nil h0;have gj:0<ni:=by rw [<- ep.out,ae];exact Nat.zero_lt_succ _
   obtain ⟨gI,u,rfl,_,_,hu,hc,_,_⟩:=ZaW bh.out gj;have gk:u=.int .i64 (i0:Int):=by rw [ae] at hu;exact (Yax hu).symm
   subst gk;have gl:=qH ae;have gw:(0:Int)<(ni:Int):=qO;have ad:=qH h0;clear ae hu h0;go_upto_region 29 with fail;have F:Same wa wa.drew:=(Yaa _ wa).drew;have O:=cz.same F;obtain ⟨wb,d9,fp,bo⟩:=O.store Zbp (by have:=bc.out;unfold maxLen;split <;> omega) (i:=id) HF (.int .i64 (i0:Int));have es:=(bf.same F).map O ed.out bo;have et:=(bg.same F).upd bo fun e=>O.ne (bg.same F) e.symm;have eu:=Zae (Zaa bh F) bo fun g hg e=>by obtain ⟨cs,hb⟩:=Zaf (Zaa bh F) hg;exact O.ne hb e.symm
   refine Zaj 9 (fun C=>C.cell? ⟨b,8,none⟩=some (.map (some hm))/\C.cell? ⟨xb,0,none⟩=some (.int .i64 id)/\C.cell? ⟨gI,0,none⟩=some (.int .i64 (i0:Int))) (by kernel_rfl) ⟨bf.blk.cell 8,bg.cell 0,hc⟩ (fun z=>?_);refine ZbE ?_;refine Ybi rfl (fun K hK=>?_);go_simp;refine hK.out _ _ ?_;have a9:=qH es;have d0:=qH fp;have ev:=qH et;have ew:=qH eu;clear hK K z d9 O bo fp es et eu bf cz bg bh hc F;go_upto_region 30 with fail;have d:=a9.row;rw [H.out] at d;have HT:Hid (∀ C,Same wb C->Calls Tryz.prog 54 #[.slice AC N cC,.int .i64 id,.slice (some ⟨gI,0,none⟩) ni ci] C fun e w'=>∃ v,e=.returned (.tuple #[v,.int .i64 0])/\w'.ownsRow C.heap.size 109 7 v N ((Zan id (-1) (Zax a id) a).flatMap L1.cells)/\Same C w'):=qH fun C F =>
    Zoc C (Yca (Zaa d F)).weak qO id (ids:=Zax a id) (Yca (Zaa ew F)).weak (Zjp a id) (fun i hi=>Zdo.1 hi)
   have ey:=(Zdn (Zax a id) (-1) a fun i hi=>Zdo.1 hi).1.len;have ez:=qH ey;have r7:=a9.blk.c7;have x0:=ev.c0;clear d ey;go_region_with (go_at_call 54;refine (HT.out _ (by first | exact Yaa _ _ | exact (Yaa _ _).drew)).mono ?_;rintro e wc ⟨v,rfl,M,fq⟩;obtain ⟨A7,c7,rfl⟩:=Zad M;have aa:=((Yaa (fun _=>False) wb).drew).trans fq (fun _ _ e=>e);have s7:wc.cell? ⟨b,7,none⟩=some (.slice AC N cC):=(a9.same aa).blk.cell 7;have z7:wc.frozen? ⟨b,7,none⟩=false:=(a9.same aa).blk.frozen 7)
   all_goals
    have bz:ChI Y (wc.setCell ⟨b,7,none⟩ (.slice A7 N c7)) b q7 (.slice A7 N c7) (.map (some hm)) (Zan id (-1) (Zax a id) a):=a9.thr aa (by rw [ez.out,H.out];exact M);have f7:=(d0.same aa).upd ((Yaa (fun k=>k=b) wc).put1 (i:=7) (.slice A7 N c7)) fun e=>(d0.same aa).ne (a9.same aa).blk e;have f8:=qH bz;have gm:=qH f7;clear bz f7 M fq aa s7 z7 HT a9 d0 ev ew r7 x0;generalize wc.setCell ⟨b,7,none⟩ (.slice A7 N c7)=wd at *;go_wp2;clear G;go_roundg (R-(i+1))
    case measure=>have:=j1;omega
    have D:=cw.out;rw [Yab ad.out] at D;have I:=ay.out;rw [gl.out] at I;refine ⟨i+1,rfl,qO,by go_num,qH ⟨_,_,_,_,f8,gm,?_,?_,D,ZmZ HD eh I ei (Yac rfl) fun y hy=>by show mpPI (mpPI f id (.int .i64 (-1))) id (.int .i64 (i0:Int)) y=f y;have f9:y≠id:=hy;unfold mpPI;rw [Yab f9,Yab f9]⟩⟩
    · have:=bc.out;rw [Yac (show (mpPI f id (.int .i64 (-1)) id).isSome=true by unfold mpPI;rw [Yac rfl];rfl)];split <;> omega
    rw [ez.out,H.out];exact gg
 have ai:i=R:=qO;obtain ⟨vC,a,cnt,f,hC,X,_,_,ab,b4⟩:=HI.out;rw [Ybt (by rw [Yag,ck.out,ai];exact Yae _),Zay] at ab;simp only [Ydm] at ab;have gn:a=L:=ab.1;subst gn;obtain ⟨AC,cC,rfl⟩:=Zad hC.row;have j1:¬ (i:Int)<(R:Int):=qO;have HC:=qH hC;have go:=qH X;have ay:=qH b4;have b8:=qH ai;clear hC X ab b4 ai G HI;go_wp2;go_end0;rw [<- fs.out];have h7:=HC.bum g4.out E.blk;have e:nsG (GR.dat ⟨P,AN,R,cN,Z,AR,nR,cR⟩)=ns:=fu.out;refine ⟨rfl,q7,hm,cnt,f,AC,cC,⟨by rw [e];exact h7,⟨HC.blk,go,Zac HC.row ba,cj.upd HC.up (fun x hx e=>by have:=af.out;have:=ba.out;omega)⟩,by rw [e];exact fun i hi=>E.rc i hi qO,fun i h3 h7=>E.nil i h3 h7,fun i n hd D I=>?_,?_⟩⟩
 · refine ay.out i n hd ?_ D I;have h3:=(Yaq.1 D).1;have h4:(GR.dat ⟨P,AN,R,cN,Z,AR,nR,cR⟩).nodes.length=P.length:=Yag _;have:=ck.out;have:=b8.out;omega
 exact ((dk.mono fun _ _ e=>e.elim).trans E.up fun _ _ e=>e).trans HC.up fun x hx e=>by have D:=dk.size;have I:=E.up.size;omega
end
section
open Go.RowKit
theorem Zjv {l:List ByteArray} {s:ByteArray} (h:s∈l) (hs:s≠noText):∃ i:Nat,idsF l s=some (.int .i64 (i:Int))/\ZaL l s=i/\i<l.length:=by
 obtain ⟨i,a,c⟩:=Zjr h;have b:l.findIdx? (fun t=>decide (t=s))=some i:=by
  unfold ZaL at a;cases hq:l.findIdx? (fun t=>decide (t=s)) with
  | none=>rw [hq] at a;simp only at a;omega
  | some j=>rw [hq] at a;simp only at a;congr 1;omega
 refine ⟨i,?_,a,(Yaq.1 c).1⟩;unfold idsF idxI;rw [Yab hs,b];rfl
theorem Zpo {keys:List ByteArray} (hT:TabK keys) {x:PR} (hm:x.key∈keys) (hc:chk x.g=0):ZrT keys x:=by obtain ⟨b,h,_,_,_,j,a⟩:=Zfo hc;obtain ⟨i,c,d,k⟩:=Zjv hm (ZfS (hT.good _ hm));have f:=hT.len;refine ⟨⟨i,c,d,qO⟩,(ZbX (hT.good _ hm)).2,⟨b,qO⟩,qO,fun s e=>by have:=a s e;omega,?_⟩;have:=ZqO (ZiB hc);rw [ZiC hc];omega
structure ZvI (g:GR) (L:List L1) (hs:List Int):Prop where
 th:Zay g.dat.nodes (ZdK g.dat.rels [])=(L,hs)
 len:hs.length=g.ns.length
 tab:∀ i,i<3->TabK (nsG g.dat i)
 rise:ZeA GRel.id 0 g.dat.rels
 rid:∀ r∈g.dat.rels,r.id<2048
 nd:(g.dat.nodes.map Zaw.id).Nodup
 n4:g.dat.nodes.length<=65536
 nodes:∀ f:Int->Option Value,(∀ (i:Nat) (n:Zaw) (hd:Int),g.dat.nodes[i]?=some n->hs[i]?=some hd->f n.id=some (.int .i64 hd))->∀ x∈g.ns.zip hs,NdOk (nsG g.dat) f x.1 x.2
 rels:∀ x∈g.rs,RlOk (nsG g.dat) L x
 cnt:(g.ns.map fun x=>x.props.length).sum+(g.rs.map fun x=>x.props.length).sum<=65536
theorem Zom {α:Type} (f:α->Nat) (k:Nat):∀ l:List α,(∀ x∈l,f x<=k)->(l.map f).sum<=k*l.length
 | [],_=>by simp
 | x::l,h=>by have b:=Zom f k l fun y a=>h y (by simp [a]);have c:=h x (by simp);rw [YaF,Ydr,Yao,Nat.mul_succ];omega
theorem bcond {g:GR} (h:(chkP g.dat).1=0):∃ L hs,ZvI g L hs:=by
 obtain ⟨hh,hw⟩:=ZgA h;obtain ⟨d,q,w⟩:=Zsh h;obtain ⟨z,A⟩:=ZcD hh;obtain ⟨a0,a1⟩:=Zin hh;have C:=(ZfB _ _ _ z).1;have D:=ZdT _ _ _ z;have o:=(ZcB _ _ _ z).2;obtain ⟨⟨R,_⟩,S⟩:=Zfa _ _ _ _ A;have c:=Zld _ _ _ _ A;have E:∀ n∈g.dat.nodes,∀ t∈n.labels,t∈Zaq g.dat 1:=fun n T t ht=>((ZaA g.dat 1).mem t).2 (Yby.2 ⟨n,T,ht⟩);have V:∀ r∈g.dat.rels,r.type∈Zaq g.dat 2:=fun r m=>((ZaA g.dat 2).mem _).2 (Ybu m);have F:∀ n∈g.dat.nodes,∀ p∈n.props,p.key∈Zaq g.dat 3:=fun n T p s=>((ZaA g.dat 3).mem _).2 (Ygl _ (Yby.2 ⟨n,T,Ybu s⟩));have G:∀ n∈g.dat.rels,∀ p∈n.props,p.key∈Zaq g.dat 3:=fun n T p s=>((ZaA g.dat 3).mem _).2 (Ygm _ (Yby.2 ⟨n,T,Ybu s⟩));obtain ⟨v,U⟩:∃ v,ZdK g.dat.rels []=v:=⟨_,rfl⟩
 obtain ⟨b1,_,b3,b4⟩:=Zhx g.dat.rels [] (fun r m=>(c r m).1.1) R;rw [U] at b1 b3 b4;simp only [YaS] at b1;have H:v.length<=2048:=by rw [b1];exact Zhy g.dat.rels 0 qO fun r m=>(c r m).1
 obtain ⟨t1,_,t3,t4⟩:=Zhw g.dat.nodes v (C.imp fun h e=>qO);have W:∀ l∈v,Zqo l:=fun l hl=>by
  obtain ⟨i,B,e⟩:=Ygv.1 hl;by_cases hu:∃ r∈g.dat.rels,r.id.toNat=i
  · obtain ⟨r,m,rfl⟩:=hu;have:=b3 r m;rw [Yar B,e] at this;injection this with this
    rw [this];exact ⟨rfl,rfl,rfl,rfl⟩
  have:=b4 i (Yah _) B fun r m he=>hu ⟨r,m,he⟩;rw [Yar B,e] at this;injection this with this
  rw [this];exact ⟨rfl,rfl,rfl,rfl⟩
 have X:=ZfZ g.dat.nodes v H W;have Y:=Zen g.dat.nodes v H;obtain ⟨L,hs,hL⟩:∃ L hs,Zay g.dat.nodes v=(L,hs):=⟨_,_,rfl⟩
 rw [hL] at t1 t3 X Y;simp only at t1 t3 X Y;have I:hs.length=g.ns.length:=by rw [t3];exact Yag _
 have M:∀ y,Zgp g.dat y=true->∃ n∈g.dat.nodes,n.id=y:=fun y hy=>Yba.1 (YeB hy);refine ⟨L,hs,by rw [U];exact hL,I,fun i B=>?_,⟨fun x u=>(c x u).1.1,R⟩,fun r m=>(c r m).1.2,C.imp fun h e=>qO,qO,fun f hf x u=>?_,fun x u=>?_,?_⟩
 · obtain rfl | rfl | rfl:i=0\/i=1\/i=2:=qO
   · exact d
   · exact q
   exact w
 · obtain ⟨i,B,e⟩:=Ygv.1 u;have N:i<g.ns.length:=by rw [List.length_zip] at B;omega
   have O:i<hs.length:=qO;rw [List.getElem_zip] at e;have b:x.1.dat∈g.dat.nodes:=by rw [<- e];exact Ybu (YdA N)
   have Z:=hf i x.1.dat x.2 (by show (g.ns.map ND.dat)[i]?=_;rw [Yau,Yar N,<-e];rfl) (by rw [Yar O,<-e]);obtain ⟨r1,r2,r3⟩:=o _ b;refine ⟨Z,⟨r1.1,by have P:x.1.id<1024:=r1.2;omega⟩,fun p s=>Zpo w (F _ b p.dat (Ybu s)) ((ZfX (D _ b).2).2 p.dat (Ybu s)).2,fun t ht=>?_,r2,fun f' z A=>?_⟩
   · have a:=E _ b t ht;obtain ⟨j,e1,e2,_⟩:=Zjv a (ZfS (d.good _ a));exact ⟨j,e1,e2,(ZbX (d.good _ a)).2⟩
   unfold ZbT;simp only [Yay];exact ⟨Y _ (by rw [<- e];exact YdA O),Zai.2 ⟨z,A⟩,Zsc d.sort d.len (E _ b) (ZeZ (D _ b).1) r2⟩
 · have b:x.dat∈g.dat.rels:=Ybu u;obtain ⟨q1,q2,q3,q4⟩:=c _ b;have a:=V _ b;obtain ⟨j,e1,e2,_⟩:=Zjv a (ZfS (q.good _ a));obtain ⟨k,k1,k2,k3,k4,_⟩:=t1.at_ _ _ (b3 x.dat b);obtain ⟨p1,p2,p3,p4⟩:=X k (Ybe k1);obtain ⟨n1,m1,f1⟩:=M _ q3;obtain ⟨n2,m2,f2⟩:=M _ q4;have i1:=(o n1 m1).1;have i2:=(o n2 m2).1;refine ⟨⟨q1.1,by have P:x.id<2048:=q1.2;omega⟩,fun p s=>Zpo w (G _ b p.dat (Ybu s)) ((ZfX (S _ b)).2 p.dat (Ybu s)).2,⟨j,e1,e2,(ZbX (q.good _ a)).2⟩,k,k1,fun f' z A=>?_⟩;unfold Zdw ZfL;simp only [Yay];rw [k3,k4];exact ⟨⟨Zai.2 (by simp only;omega),Zai.2 (by simp only;omega),p1,p2,p3,p4⟩,Zlo a q.len,Zai.2 ⟨z,A⟩⟩
 have s1:=Zom (fun x:ND=>x.props.length) 16 g.ns fun x u=>by have P:=(o x.dat (Ybu u)).2.2;simpa [ND.dat] using P
 have s2:=Zom (fun x:RL=>x.props.length) 16 g.rs fun x u=>by have P:=(ZfX (S x.dat (Ybu u))).1;simpa [RL.dat] using P
 have h3:g.dat.nodes.length=g.ns.length:=Yag _;have h4:g.dat.rels.length=g.rs.length:=Yag _;omega
end
end Go.Proofs.YtmkjfhnlnhceiaaGreatDoor
