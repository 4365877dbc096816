/- Texts that the claim leans on: walks and plain laws, function by function. -/
import Derived.Lib.BufferWrite
import Derived.Test.YtmkjfhnlnhceiaaGreatDoorN29
set_option maxRecDepth 100000
set_option maxHeartbeats 16000000
namespace Go.Proofs.YtmkjfhnlnhceiaaGreatDoor
section
open Go.RowKit
def ZmA (first:Bool):Nat:=if first then 1 else 0
theorem Zof {F:Nat->Prop} {A:Option Addr} {n c:Nat} {part:List UInt8} (w:World) (hd:Zag w F A n c part) (hn:n<=25) (first:Bool) (nx:Nat) (hnx:nx<=65536) :
 Calls Tryz.prog 150 #[.agg #[.int .i64 (ZmA first:Int),.int .i64 (n:Int),.int .i64 ((nx:Int)-1),.slice A n c]] w fun e w'=>∃ v,e=.returned v/\OwnB w' w.heap.size v (blkB first part nx)/\Same w w':=by
 have j:=Yct hd;obtain ⟨s,hs⟩:∃ s,ZmA first=s:=⟨_,rfl⟩
 have ag:s<=1:=by rw [<- hs];unfold ZmA;split <;> omega
 have B:Hid (blkB first part nx=beb 1 s++(beb 1 n++(beb 4 nx++(part++ZaB (25-n))))):=qH (by rw [<- hs,<-j];unfold blkB ZmA;cases first <;> simp [beb])
 rw [hs];generalize blkB first part nx=R at *
 have sA:=(Yaa (fun _=>False) w).alloc (.cells #[.int .i64 (s:Int),.int .i64 (n:Int),.int .i64 ((nx:Int)-1),.slice A n c] 203);have a:=qH (Yad w 203 #[.int .i64 (s:Int),.int .i64 (n:Int),.int .i64 ((nx:Int)-1),.slice A n c]);have C:=qH sA;have HD:=qH (hd.same sA);have a4:part.length<=25:=qO;have a5:=qH j;clear hd sA hs j;have k0:(0:Int)<=(s:Int)/\(s:Int)<=1:=qO;have k1:(0:Int)<=(n:Int)/\(n:Int)<=25:=qO;have k2:(0:Int)<=(nx:Int)/\(nx:Int)<=65536:=qO;go_enter Tryz.func150,Tryz.ntmps150;go_wp2_with fail;generalize w.alloc (.cells #[.int .i64 (s:Int),.int .i64 (n:Int),.int .i64 ((nx:Int)-1),.slice A n c] 203)=wA at *;generalize al:w.heap.size=gb at *;refine (ZbF wA).mono ?_;rintro e w1 ⟨r,rfl,l,d⟩;obtain ⟨B1,o⟩:∃ B1,wA.heap.size=B1:=⟨_,rfl⟩
 have b:=qH o;rw [o] at l;have q0:=(a.same d).c0;have D:=qH l;have E:=qH d;clear l d o;go_wp2_with fail;refine (Zmd E D b 1 s qD qD).mono ?_;clear q0;rintro e w2 ⟨rfl,D2,X,Y,p⟩;have G:=qH p;have H:=qH Y;have I:Hid (D2=beb 1 s):=qH (by simpa using X);have L:Hid (D2.length=1):=qH (by rw [I.out,Zab]);have q1:=(a.same p).c1;clear X p Y D E;go_wp2_with fail;refine (Zmd G H b 1 n qD (by rw [L.out];decide)).mono ?_;clear q1;rintro e w3 ⟨rfl,D3,q,Z,t⟩;have M:=qH t;have N:=qH Z;have a6:Hid (D3=D2++beb 1 n):=qH q;have O:Hid (D3.length=2):=qH (by rw [q,Yaf,Zab,L.out]);have q2:=(a.same t).c2;have a7:IntKind.i64.wrap ((nx:Int)-1+1)=(nx:Int):=qw;clear q t Z H G;go_wp2_with fail;refine (Zmd M N b 4 nx qD (by rw [O.out];decide)).mono ?_;clear q2 a7;rintro e w4 ⟨rfl,D4,u,g,h⟩;have a8:Hid (D4=D3++beb 4 nx):=qH u;have S:Hid (D4.length=6):=qH (by rw [u,Yaf,Zab,O.out]);have q3:=(a.same h).c3;obtain ⟨v4,g⟩:=g.open;have HC:=qH (Ztk h g b (HD.same h) (by rw [S.out];omega));clear u N M h g;go_wp2_with fail;refine HC.mono ?_;clear q3;rintro e w5 ⟨rfl,v5,D5,x,y,i,_,_⟩;have a9:Hid (D5=D4++part):=qH x;have T:Hid (D5.length=6+n):=qH (by rw [x,Yaf,S.out,a5.out]);have q3:=(a.same i).c3;have ah:=qH y;have ai:=qH i;obtain ⟨m,hm⟩:∃ m,25-n=m:=⟨_,rfl⟩
 have aj:IntKind.i64.wrap (25-(n:Int))=(m:Int):=qw;have ak:(25-(n:Int))=(m:Int):=qO;have aa:=run_make_row' (P:=Tryz.prog) 39 5 (.int .u8 0) 1 Tryz.underlying39 ZdY rfl .i64 .i64 m qO qO w5;have U:=ZkV w5 (n:=m) (by unfold maxLen;omega);have k:=(Yaa (fun _=>False) w5).alloc (.cells (madeCells #[Value.int .u8 0] m) 5);have V:=qH (Ztk (i.trans k fun _ _ f=>f) (y.same k) b (YdK (by simp [ZaB]) U) (by rw [T.out];omega));rw [hm] at B;clear x y i HC U k;go_wp2_with fail;refine V.mono ?_;rintro e w7 ⟨rfl,v7,D7,z,a0,a1,_,_⟩;have ab:Hid (D7=R):=qH (by rw [z,a9.out,a8.out,a6.out,I.out,B.out];simp [Yak])
 have ac:Hid (D7.length=6+n+m):=qH (by rw [z,Yaf,T.out];simp [ZaB]);have W:=qH a1;have ad:=qH (Zbx a0.wtr (by rw [ac.out];omega));clear z a0 a1 V aa q3;go_wp2_with fail;refine ad.mono ?_;rintro e w8 ⟨v8,rfl,a2,a3⟩;have ae:=qH a2;have af:=qH a3;clear a2 a3;go_wp2;go_ret;refine ⟨v8,rfl,?_,(C.trans W fun _ _ f=>f).trans af fun _ _ f=>f⟩;rw [<- ab.out];exact Zme ae (by have:=C.size;have:=W.size;omega)
end
section
def ZfM (data:List UInt8) (j:Nat):List UInt8:=(data.drop (25*j)).take 25
theorem Zli:∀ (k:Nat) (first:Bool) (i:Nat) (data:List UInt8),data.length<=25+25*k->(ZaF k first i data).length=max 1 ((data.length+24) / 25)
 | 0,first,i,data,h=>by simp only [ZaF,Ycs];omega
 | k+1,first,i,data,h=>by
   rw [ZaF];split
   · simp only [Ycs];omega
   rw [Yao,Zli k false (i+1) (data.drop 25) (by rw [Yas];omega),Yas];omega
theorem ZmB:∀ (k:Nat) (first:Bool) (i:Nat) (data:List UInt8) (j:Nat),data.length<=25+25*k->j<max 1 ((data.length+24) / 25) ->
 (ZaF k first i data)[j]?=some (blkB (first && decide (j=0)) (ZfM data j) (if j+1<max 1 ((data.length+24) / 25) then i+j+2 else 0))
 | 0,first,i,data,j,h,hj=>by have a:j=0:=qO;subst a;simp only [ZaF,YaW,ZfM,Nat.mul_zero,Ycj];rw [YaB qO,Yab qO];simp
 | k+1,first,i,data,j,h,hj=>by
   rw [ZaF];split
   · have a:j=0:=qO;subst a;simp only [YaW,ZfM,Nat.mul_zero,Ycj];rw [YaB qO,Yab qO];simp
   cases j with
   | zero =>
     simp only [YaW,ZfM,Nat.mul_zero,Ycj];rw [Yac qO];simp
   | succ j =>
     rw [Ybd,ZmB k false (i+1) (data.drop 25) j (by rw [Yas];omega) (by rw [Yas];omega)];rw [Yas];have c:ZfM (data.drop 25) j=ZfM data (j+1):=by unfold ZfM;rw [Ybm];congr 2;omega
     rw [c];congr 2
     · simp
     by_cases b:j+1<max 1 ((data.length-25+24) / 25)
     · rw [Yac b,Yac qO];omega
     rw [Yab b,Yab qO]
def ZaL (l:List ByteArray) (s:ByteArray):Int:=match l.findIdx? (fun t=>decide (t=s)) with | some i=>i | none => -1
def putAt (rs:List (Option (List UInt8))) (i:Nat) (d:List UInt8):List (Option (List UInt8)):=(rs++List.replicate (i+1-rs.length) none).set i (some d)
def Zbz (B:List (Option (List UInt8))) (data:List UInt8):List (Option (List UInt8))×Int :=
 if 65536-B.length<(ZaF data.length true B.length data).length then (B,0) else (B++(ZaF data.length true B.length data).map some,B.length)
def ZgJ (keys:List ByteArray) (first n:Nat):Nat->List GPr->List (Option (List UInt8))->List (Option (List UInt8))->List (Option (List UInt8))×List (Option (List UInt8))
 | _,[],P,B=>(P,B)
 | i,p::ps,P,B =>
   let b:=if 3<p.val.kind then Zbz B (enc p.val) else (B,-1)
   ZgJ keys first n (i+1) ps (P++[some (ZbO ⟨ZaL keys p.key,p.val.kind,if 3<p.val.kind then 0 else p.val.num,b.2,if 0<i then (first+i-1:Nat) else -1,if i+1<n then (first+i+1:Nat) else -1⟩)]) b.1
def layP (keys:List ByteArray) (ps:List GPr) (P B:List (Option (List UInt8))):(List (Option (List UInt8))×List (Option (List UInt8)))×Int :=
 (ZgJ keys P.length ps.length 0 ps P B,if ps=[] then -1 else (P.length:Int))
def ZdK:List GRel->List L1->List L1
 | [],L=>L
 | r::rs,L=>ZdK rs ((L++List.replicate (r.id.toNat-L.length) ZaE)++[⟨true,r.src,r.dst,-1,-1,-1,-1⟩])
def Zay:List Zaw->List L1->List L1×List Int
 | [],L=>(L,[])
 | n::ns,L=>let ids:=Zax L n.id;let r:=Zay ns (if ids=[] then L else Zan n.id (-1) ids L);(r.1,Zdx ids::r.2)
structure Bs1 where
 nodes:List (Option (List UInt8))
 rels:List (Option (List UInt8))
 props:List (Option (List UInt8))
 blobs:List (Option (List UInt8))
def ZgK (labels keys:List ByteArray):List (Zaw×Int)->Bs1->Bs1
 | [],s=>s
 | (n,head)::ns,s =>
   let l:=layP keys n.props s.props s.blobs
   ZgK labels keys ns { s with nodes:=putAt s.nodes n.id.toNat (ZcZ ⟨head,l.2,n.labels.map (ZaL labels)⟩),props:=l.1.1,blobs:=l.1.2 }
def ZgL (types keys:List ByteArray) (L:List L1):List GRel->Bs1->Bs1
 | [],s=>s
 | r::rs,s =>
   let l:=layP keys r.props s.props s.blobs
   ZgL types keys L rs { s with rels:=putAt s.rels r.id.toNat (relB ⟨(L[r.id.toNat]?).getD ZaE,ZaL types r.type,l.2⟩),props:=l.1.1,blobs:=l.1.2 }
noncomputable def Zev (g:ZaN):St1 :=
 let L:=Zay g.nodes (ZdK g.rels [])
 let s:=ZgL (Zaq g 2) (Zaq g 3) L.1 g.rels (ZgK (Zaq g 1) (Zaq g 3) (g.nodes.zip L.2) ⟨[],[],[],[]⟩)
 ⟨Zaq g 1,Zaq g 2,Zaq g 3,⟨4,1,17,s.nodes⟩,⟨5,1,31,s.rels⟩,⟨6,1,20,s.props⟩,⟨8,1,32,s.blobs⟩⟩
def ZcN (s:St1):List ZdH:=List.zipWith ZdH.mk Zfb [ZaS s.blobs,ZaS (tabF 3 1 s.keys),ZaS (tabF 1 1 s.labels),Zif++[1],ZaS s.nodes,ZaS s.props,ZaS s.rels,ZaS (tabF 2 1 s.types)]
end
section
open Go.RowKit
theorem PF.nofoot {W:World} {B f k vs z low g:Nat} {v:Value} {l:List BS} {e:TypeId} {cs:Array Value} (h:PF W B f k vs z v l low) (hb:Blk W g e cs) (h1:e≠171) (h2:39≠e):¬ Foot f v g:=fun a=>a.elim (hb.ne h.blk h1) fun a=>hb.ne_own h.own.row h2 a
theorem PF.nofoot_map {W:World} {B f k vs z low m n:Nat} {v:Value} {l:List BS} {q:ByteArray->Option Value} (h:PF W B f k vs z v l low) (hm:MpS W m n q):¬ Foot f v m:=fun a=>a.elim (hm.ne h.blk) fun a=>by obtain ⟨c,b⟩:=Zaf h.own.row a;exact hm.ne b rfl
theorem PF.nofoot_own {W:World} {B f k vs z low n:Nat} {v nv:Value} {l:List BS} {xs:List Value} (h:PF W B f k vs z v l low) (hr:W.ownsRow B 9 1 nv n xs):∀ g,nv.ownBlock=some g->¬ Foot f v g:=fun g a=>by obtain ⟨c,b⟩:=Zaf hr a;exact h.nofoot b qD qD
def TkI (t:TypeId):Prop:=t=9\/t=167
theorem tkI:FlU TkI:=⟨by unfold TkI;decide,by unfold TkI;decide,by unfold TkI;decide,by unfold TkI;decide⟩
def ZjN (t f m:Nat) (v nv:Value) (b:Nat):Prop:=b=t\/b=f\/b=m\/v.ownBlock=some b\/nv.ownBlock=some b
theorem Ztv:(Tryz.prog.info? 5).map (·.size)=some 1:=by kernel_rfl
theorem ZrO (s:ByteArray) (hs:s.size<=40):((Value.int .u8 (s.size:Int)::List.replicate 40 (Value.int .u8 0)).toArray.toList.take 1++Lib.byteCells s.data.toList++(Value.int .u8 (s.size:Int)::List.replicate 40 (Value.int .u8 0)).toArray.toList.drop (1+s.size))=(tokD s).map u8v:=by
 have e:s.data.toList.length=s.size:=Ycf;have a:((UInt8.ofNat s.size).toNat:Int)=s.size:=by rw [UInt8.toNat_ofNat'];omega
 rw [YeP 1];simp only [tokD,ZaB,Lib.byteCells,YaF,YaG,YfA,u8v,a,YaE,YaK,YeN,List.take_zero,Ygc,List.drop_replicate];rfl
theorem ZjO {B t f m k vs low:Nat} {v nv:Value} {l:List BS} {ns:List ByteArray} (w:World) (h:PT w B t f m k vs ns.length low v nv l ns) (hB:B<=w.heap.size) (hall:∀ x∈l,x.A≠none) {s:ByteArray} (hg:Zbj s=true) (hni:(idxI ns s).isSome=false) (hl:ns.length<200) :
 Calls Tryz.prog 51 #[.pointer (some ⟨t,0,none⟩),.string s] w fun e w'=>e=.returned (.tuple #[.int .i64 (ns.length:Int),.int .i64 0]) /\
  ∃ v' nv' l',PT w' B t f m k vs (ns.length+1) ns.length v' nv' l' (ns++[s])/\(∀ x∈l',x.A≠none)/\l'.map BS.rc=l.map BS.rc++[some (tokD s)]/\Upd (ZjN t f m v nv) w w'/\NewB w v v'/\NewB w nv nv':=by
 obtain ⟨cr,ci⟩:=ZbX hg;obtain ⟨N,hN⟩:∃ N,ns.length=N:=⟨_,rfl⟩
 have a1:=(h.map.look Zho (Zec w) (s:=s) (by unfold maxLen;omega)).1;rw [show idsF ns s=none by unfold idsF;cases hi:idxI ns s with | none=>rfl | some i=>rw [hi] at hni;cases hni] at a1;simp only [Yfb,Ygo] at a1;have a2:l.length=N:=h.len.symm.trans hN;have p2:=h.blk.c2;have p0:=h.blk.c0;have a3:=qH (ZnG h);have a4:=qH (Zgx w h.file hB hall qO);rw [hN] at a3 h hl ⊢;rw [a2] at a4;have C:=qH h;have p:=qH hN;have S:=qH a2;have HG:=qH hg;have af:=qH hni;have ag:=qH hall;clear h hN a2 hg hni hall;have c1:¬ (200:Int)<=(N:Int):=qO;go_enter Tryz.func51,Tryz.ntmps51;go_wp2_with fail;refine (Zbb s _).mono ?_;rintro e w1 ⟨rfl,rfl⟩;rw [HG.out];go_wp2_with fail;refine a3.mono ?_;rintro e w1 ⟨rfl,rfl⟩;go_wp2_with fail;refine a4.mono ?_;rintro e w2 ⟨rfl,x,v2,b8,b9,ba,r,bb⟩;have cj:=qH b8;have cl:=qH b9;have ah:=qH ba;have d:=qH r;have ai:=qH bb;clear a1 p2 p0 b8 b9 ba r bb a4 a3;have bl:∀ w,(Instr.makeSlice 39 (.int .i64 41) (.int .i64 41)).run Tryz.prog w=.ok (.slice (some ⟨w.heap.size,0,none⟩) 41 41) (w.alloc (.cells (madeCells #[.int .u8 0] 41) 5)):=fun w=>run_make_row' (P:=Tryz.prog) 39 5 (.int .u8 0) 1 Tryz.underlying39 ZdY rfl .i64 .i64 41 qD qD w;go_upto_region 12 with fail;have aj:=(Yaa (fun _=>False) w2).alloc (.cells (madeCells #[.int .u8 0] 41) 5);have D:=Yad w2 5 (madeCells #[.int .u8 0] 41);generalize w2.alloc (.cells (madeCells #[.int .u8 0] 41) 5)=w3 at *;have cm:w.heap.size<=w2.heap.size:=d.size;generalize cq:w2.heap.size=g at *;have ak:=qH aj;have al:madeCells #[Value.int .u8 0] 41=(Value.int .u8 0::List.replicate 40 (.int .u8 0)).toArray:=by apply Array.ext';simp [madeCells,YdT,List.map_const',Ycz]
 rw [al] at D;have am:=qH D;obtain ⟨sz,ce⟩:∃ sz,s.size=sz:=⟨_,rfl⟩
 have bm:sz<=40:=qO;have r0:w3.cell? ⟨g,0,none⟩=some (.int .u8 0):=by rw [D.cell 0];rfl
 have z0:=D.frozen 0;have k0:(0:Int)<=(sz:Int)/\(sz:Int)<=40:=qO;clear D aj bl al;go_upto_region 13 with fail;have T:=am.put 0 (.int .u8 (sz:Int));have an:Same w2 (w3.setCell ⟨g,0,none⟩ (.int .u8 (sz:Int))):=YaY ak.out qO _;generalize w3.setCell ⟨g,0,none⟩ (.int .u8 (sz:Int))=w4 at *;rw [Yal,Yam,<-ce] at T;have ao:=fun ty=>Lib.run_copy_row_string (P:=Tryz.prog) w4 39 9 ty 5 g 1 40 40 s _ _ Tryz.underlying39 Ztv T qO (by simp;omega);rw [ZrO s qO] at ao;have ap:=setRow_heap w4 g _ ((tokD s).map u8v).toArray _ _ T;have aq:Same w2 (w4.setRow g ((tokD s).map u8v).toArray):=an.trans (S':=fun b=>b=g) ⟨rfl,rfl,rfl,by simp [World.setRow],fun k _ hk=>setRow_other w4 g k _ hk⟩ fun b hb e=>qO;have U:=qH ap;have a:=qH aq;clear T ap aq an r0 z0 am ak;go_upto_region 14 with fail;generalize w4.setRow g ((tokD s).map u8v).toArray=w5 at *;have a5:=(C.blk.upd d (C.file.nofoot C.blk qD qD)).same a.out;have ar:=(C.map.upd d (C.file.nofoot_map C.map)).same a.out;have au:=Zaa (Zae C.row d (C.file.nofoot_own C.row)) a.out;have av:=qH a5;have aw:=qH ar;have ax:=qH au;have p0:=a5.c0;have ay:Zag w5 (fun b=>b=g) (some ⟨g,0,none⟩) 41 41 (tokD s):=by have h1:=Ycb (show Blk w5 g 5 ((tokD s).map u8v).toArray from U) (k:=1) (n:=41) (c:=41) (by simp [ZkH (show s.size<=40 by omega)]) (Yae _) (by simp [maxLen]);exact h1
 have az:=qH (ZfW w5 (ah.same a) (Yaj hB (Yaj d.size a.size)) ay (by rw [ZkH (show s.size<=40 by omega)]) N qO);clear a5 ay ao ar au;go_wp2_with fail;refine az.mono ?_;rintro e w6 ⟨rfl,y,v6,bc,bd,ad,u,bf⟩;have V:=ah.same a.out;have bn:=qH bc;have b0:=qH bd;have b1:=qH u;have bo:=qH bf;have e6:ZiX (l++[x]) N y=l++[y]:=by unfold ZiX;rw [Yaf,S.out,Ycs,YbC,Yga,Ybl,YcU _ _ (by rw [S.out];exact Yae _),S.out,YbC];rfl
 rw [e6] at ad;have bp:=qH ad;have a6:=av.upd u (V.nofoot av qD qD);have b2:=aw.upd u (V.nofoot_map aw);have E:=Zae ax.out u (V.nofoot_own ax);rw [p.out] at E;obtain ⟨A6,c6,Y⟩:=Zad E;have bq:=qH Y;have F:=qH a6;have a7:=qH b2;have cn:=qH E;have ch:B<=w6.heap.size:=Yaj hB (Yaj d.size (Yaj a.size u.size));have p1:w6.cell? ⟨t,1,none⟩=some (.slice A6 N c6):=by rw [<- Y];exact a6.cell 1
 have o:w6.ownsRow B 9 1 (.slice A6 N c6) N (ns.map Value.string):=Y ▸ E;have bs:(Value.slice A6 N c6).ownBlock≠some t:=F.ne_own o qD;clear bc bd ad u bf e6 a6 b2 E Y p0 az V;go_upto_region 17 with (at_builtin;go_must (refine Zat rfl (.tmp 67) (.tmp 68) _ _ rfl B 9 1 16 _ Tryz.underlying48 Zde rfl (.slice A6 N c6) N _ rfl (o.alloc _) rfl (Zbg Tryz.underlying48 (Ydh _ _ _) (by simp [Value.oneCell'])) (by unfold maxLen;omega) qO (by simp;omega) ?_);intro v7 w7 Z;obtain ⟨A7,c7,rfl⟩:=Zad Z.own;have a8:=Z.blk (F.alloc _) bs;have f1:=a8.frozen 1;have q1:=a8.cell 1;have b3:=qH Z;clear Z a8);have bt:=(Yaa (fun _=>False) w6).alloc (.cells #[.string ⟨#[]⟩] 9);obtain ⟨G,H,a0⟩:=ZbC (i:=1) F.out o qD bt b3.out;have bu:=qH a0;have a9:=qH G;have W:=a7.upd a0 fun h=>h.elim (a7.ne F) fun h=>by obtain ⟨cs,h4⟩:=Zaf o h;exact a7.ne h4 rfl
 have b4:=qH W;have e8:ns.map Value.string++[Value.string ⟨#[]⟩]=(ns++[noText]).map Value.string:=by simp [noText]
 rw [e8] at H;have bv:=qH H;obtain ⟨j,un,hA,ct,cu,_,cf,cg,bg⟩:=ZaW H (show N<N+1 by omega);subst hA;have X:(Value.slice (some ⟨j,0,none⟩) (N+1) c7).ownBlock=some j:=rfl;obtain ⟨cv,bh⟩:=Zaf H X;have bw:=qH (bp.it tkI (m:=0) (a0.mono fun b _ h=>by
  rcases h with rfl | h
  · exact Ycu ⟨_,F⟩ (Yah _) (.inr rfl)
  exact Ycu (Zaf o h) (Yah _) (.inl rfl)))
 have b5:Hid ((Value.slice A6 N c6).ownBlock=some j\/w6.heap.size<=j):=qH (by
  rcases b3.block with e | ⟨g',e,bi⟩
  · exact .inl (e ▸ X)
  have e:=Yax (X.symm.trans e);rw [Yav] at bi;exact .inr qO)
 generalize w7.setCell ⟨t,1,none⟩ (.slice (some ⟨j,0,none⟩) (N+1) c7)=q at *;have n2:t≠j:=fun e=>a9.ne_own bv.out qD (e ▸ X);have n3:m≠j:=W.ne bh;have n5:m≠t:=W.ne G;have bx:=G.c1;have bz:=G.c2;clear W G H a0 p1;generalize hM:N+1=M at *;have c4:=qH hM;have jM:(N:Int)<(M:Int):=qO;clear hM;have s0:Same q q.drew:=(Yaa _ q).drew;go_upto_region 17 with fail;refine wp_region_noPanic ?_;refine Zaj 16 (fun wx=>wx.cell? ⟨t,1,none⟩=some (.slice (some ⟨j,0,none⟩) M c7)/\wx.cell? ⟨t,2,none⟩=some (.map (some m))) (by kernel_rfl) ⟨bx,bz⟩ (fun I=>?_)
 repeat
  first
   | refine YaL 0 (v:=?_) rfl (Or.inl ⟨by rfl,?_⟩) qA ?_
   | refine YaL 1 (v:=?_) rfl (Or.inl ⟨by rfl,?_⟩) qA ?_
   | refine YaL 2 (v:=?_) rfl (Or.inl ⟨by rfl,?_⟩) qA ?_
   | refine YaL 3 (v:=?_) rfl (Or.inl ⟨by rfl,?_⟩) qA ?_
   | refine YaL 4 (v:=?_) rfl (Or.inl ⟨by rfl,?_⟩) qA ?_
   | refine YaL 5 (v:=?_) rfl (Or.inl ⟨by rfl,?_⟩) qA ?_
   | refine YaL 6 (v:=?_) rfl (Or.inl ⟨by rfl,?_⟩) qA ?_
   | refine YaL 7 (v:=?_) rfl (Or.inl ⟨by rfl,?_⟩) qA ?_
   | refine YaL 8 (v:=?_) rfl (Or.inl ⟨by rfl,?_⟩) qA ?_
   | refine YaL 9 (v:=?_) rfl (Or.inl ⟨by rfl,?_⟩) qA ?_
   | refine YaL 10 (v:=?_) rfl (Or.inl ⟨by rfl,?_⟩) qA ?_
   | refine YaL 11 (v:=?_) rfl (Or.inl ⟨by rfl,?_⟩) qA ?_
   | refine YaL 12 (v:=?_) rfl (Or.inl ⟨by rfl,?_⟩) qA ?_
  rotate_left
  · intro wx ae;have h1:=ae.1;have h2:=ae.2;go_simp;try with_reducible rfl
  simp only [Act.put,Yal,YaA,Yaz,Yaw,Yam,Yap]
 have c3:q.drew.cell? ⟨j,N,none⟩=some un:=cf;have f3:q.drew.frozen? ⟨j,N,none⟩=false:=cg;have u1:Upd (fun b=>b=j) q (q.setCell ⟨j,N,none⟩ (.string s)).drew:=((Yaa _ q).put1 _).drew;have aa:=qH (a9.upd u1 n2);have c5:=qH (b4.upd u1 n3);have c8:=qH (bg (.string s));have c9:=qH u1;refine Ybv 13 rfl (fun K hK=>?_);go_simp;refine hK.out _ _ ⟨aa.cell 1,aa.cell 2⟩ (fun I=>?_);clear hK K c3 f3 u1;generalize cd:(q.setCell ⟨j,N,none⟩ (.string s)).drew=W1 at *;obtain ⟨W2,st,L,r,O⟩:=c5.entry Zho (by unfold maxLen;omega) (Zec W1) (s:=s) (by unfold maxLen;omega) (show idsF ns s=none by have hi:=af.out;unfold idsF;cases h:idxI ns s with | none=>rfl | some i=>rw [h] at hi;cases hi) (.int .i64 (N:Int));have ca:=qH O;have b6:=qH r;have U:=qH (aa.upd r n5.symm);clear O r;refine Ybv 14 rfl (fun K hK=>?_);go_simp;refine hK.out _ _ ⟨U.cell 1,U.cell 2⟩ (fun I=>?_);clear hK K L;refine YaL 15 (v:=?_) rfl (Or.inl ⟨by rfl,?_⟩) qA ?_;rotate_left
 · intro wx ae;go_simp;try with_reducible rfl
 simp only [Act.put,Yal,YaA,Yaz,Yaw,Yam,Yap];obtain ⟨W3,L,bj,bk⟩:=ca.out W2 rfl;refine Ybi rfl (fun K hK=>?_);go_simp;refine hK.out _ _ ?_;clear hK K L;have cb:=qH bj;have b7:=qH bk;clear bj bk;refine NoPanic.normal ?_;go_wp2
 go_ret2
 have ab:(Value.slice A6 N c6).ownBlock=nv.ownBlock:=by rw [<- bq.out]
 have co:w.heap.size<=w6.heap.size:=Yaj d.size (Yaj a.size b1.size);have cp:w.heap.size<=w5.heap.size:=Yaj d.size a.size;have ac:Upd (fun b=>b=j\/b=m) q W3:=((c9.mono (S':=fun b=>b=j\/b=m) fun _ _ h=>.inl h).trans b6 fun _ _ h=>.inr h).trans b7.out fun _ _ h=>.inr h;have cc:Upd (Zao TkI 0 q) q W3:=ac.mono fun b _ h=>by
  rcases h with rfl | rfl
  · exact Ycu ⟨_,bh⟩ (Yah _) (.inl rfl)
  obtain ⟨es,ck,h9⟩:=b4.obj;exact YbI h9 rfl (Yah _)
 have hU:Upd (ZjN t f m v nv) w W3:=by
  have k1:Upd (ZjN t f m v nv) w w5:=(d.mono fun b _ h=>h.elim (fun h=>.inr (.inl h)) fun h=>.inr (.inr (.inr (.inl h)))).same a.out;have k2:Upd (ZjN t f m v nv) w w6:=k1.trans b1.out fun b hb h=>by
   rcases h with h | h
   · exact .inr (.inl h)
   rcases ai.out with e | ⟨g',e,bi⟩
   · exact .inr (.inr (.inr (.inl (e ▸ h))))
   have:=Yax (h.symm.trans e);omega
  have k3:Upd (ZjN t f m v nv) w q:=k2.trans bu.out fun b hb h=>by
   rcases h with h | h
   · exact .inl h
   exact .inr (.inr (.inr (.inr (ab ▸ h))))
  refine k3.trans ac fun b hb h=>?_;rcases h with h | h
  · rcases b5.out with e | e
    · exact .inr (.inr (.inr (.inr (by rw [<- ab,e,h]))))
    omega
  exact .inr (.inr (.inl h))
 refine ⟨rfl,v6,.slice (some ⟨j,0,none⟩) M c7,l++[y],⟨C.base,?_,bw.it tkI cc,?_,?_,C.mB,?_,?_⟩,?_,?_,hU,?_,?_⟩
 · exact a9.upd ac fun h=>h.elim n2 n5.symm
 · have h1:=c8.out;rw [Yaf,p.out,Ycs,c4.out];have e9:((ns++[noText]).map Value.string).set N (.string s)=(ns++[s]).map Value.string:=by rw [YaG,YcU _ _ (by rw [Yag,p.out];exact Yae _),Yag,p.out,YbC,YaG];rfl
   rw [e9] at h1;have h2:=Zaa (show W1.ownsRow B 9 1 (.slice (some ⟨j,0,none⟩) M c7) M ((ns++[s]).map Value.string) by rw [<- cd];exact h1) (Yaa _ W1);exact Zae (Zae h2 b6 fun g hg e=>n3 (e.symm.trans (Yax hg).symm)) b7 fun g hg e=>n3 (e.symm.trans (Yax hg).symm)
 · rw [ZsT (ZfS HG) af.out,p.out];exact cb
 · rw [Yaf,Yaf,p.out,S.out];rfl
 · intro z R;rcases YaR.1 R with R | R
   · exact C.texts z R
   rw [YaH.1 R];omega
 · intro z R;rcases YaR.1 R with R | R
   · exact ag z R
   rw [YaH.1 R];exact b0
 · rw [YaG,YfL];congr 1;have:BS.rc y=some y.data:=by
    unfold BS.rc;cases h:y.A with
    | none=>exact absurd h b0
    | some _=>rfl
   rw [this,bn.out]
 · exact YeI d.size ai (NewB.same a bo)
 rcases b5.out with e | e
 · exact .inl (by rw [<- ab,e];rfl)
 exact .inr ⟨j,rfl,qO⟩
def idsN (o N j:Nat):List Value:=(List.range j).map (fun q=>Value.int .i64 ((o+q:Nat):Int))++List.replicate (N-j) (.int .i64 0)
theorem ZrP {o N j:Nat} (h:j<N):(idsN o N j).set j (.int .i64 ((o+j:Nat):Int))=idsN o N (j+1):=by
 unfold idsN;rw [YcU _ _ (by simp),Yag,YeA,YbC,List.range_succ,YaG,Yak];congr 1;obtain ⟨r,a⟩:∃ r,N-j=r+1:=⟨N-j-1,qO⟩
 rw [a,Ycz,Yam,show N-(j+1)=r by omega];rfl
theorem Zog {o N q:Nat} (h:q<N):(idsN o N N)[q]?=some (.int .i64 ((o+q:Nat):Int)):=by unfold idsN;rw [Ydl (by simpa using h),Yau,YfE h];rfl
theorem ZrQ {x:BS} (h:x.A≠none):BS.rc x=some x.data:=by
 unfold BS.rc;cases hA:x.A with
 | none=>exact absurd hA h
 | some _=>rfl
theorem Ztw {l:List BS} (h:∀ x∈l,x.A≠none):(l.filter fun x=>x.A.isSome).length=l.length:=by
 rw [Ygs.2];intro x a;cases hA:x.A with
 | none=>exact absurd hA (h x a)
 | some _=>rfl
structure StI (w:World) (B f k vs:Nat) (v:Value) (R:List (Option (List UInt8))) (wr:World) (m:Nat):Prop where
 ex:∃ v1 l1 low1,PF wr B f k vs 32 v1 l1 low1/\(∀ x∈l1,x.A≠none)/\l1.length=m/\l1.map BS.rc=R/\Upd (Foot f v) w wr/\NewB w v v1
theorem StI.own {w:World} {B f k vs m:Nat} {v:Value} {R:List (Option (List UInt8))} {wr:World} (_:StI w B f k vs v R wr m) {wx:World} {v1:Value} {l1:List BS} {low1:Nat} (hP:PF wr B f k vs 32 v1 l1 low1) (hu:Upd (Foot f v1) wr wx) {base n kk:Nat} {e:TypeId} {q:Value} {xs:List Value} (ho:wr.ownsRow base e kk q n xs) (h1:e≠171) (h2:39≠e):wx.ownsRow base e kk q n xs :=
 Zae ho hu fun g a=>by obtain ⟨c,b⟩:=Zaf ho a;exact hP.nofoot b h1 h2
theorem PF.upd_tyb {w wx:World} {B f k vs z low n c:Nat} {v:Value} {l:List BS} {A:Option Addr} {d:List UInt8} (h:PF w B f k vs z v l low) (hu:Upd (Foot f v) w wx) (hd:Zag w (TyB w 0) A n c d):Zag wx (TyB wx 0) A n c d:=by
 have g:∀ b,TyB w 0 b->¬ Foot f v b:=by
  rintro b a (e | e)
  · exact absurd (a.ne ⟨_,e ▸ h.blk⟩) qD
  exact absurd (a.ne (Zaf h.own.row e)) qD
 exact (YdZ hd hu g).mono fun b _ a=>a.upd hu (g b a)
theorem flInt:FlU (fun t=>t=3):=⟨qD,qD,qD,qD⟩
def StoR (w:World) (B f k vs:Nat) (v:Value) (L:List (Option (List UInt8))) (data:List UInt8) (e:Ending) (w':World):Prop :=
 ∃ er m,e=.returned (.tuple #[.int .i64 (Zbz L data).2,.int .i64 er])/\StI w B f k vs v (Zbz L data).1 w' m
theorem Zoh {B f k vs low:Nat} {v:Value} {l:List BS} {A:Option Addr} {n c:Nat} {data:List UInt8} (w:World) (h:PF w B f k vs 32 v l low) (hB:B<=w.heap.size) (hall:∀ x∈l,x.A≠none) (hd:Zag w (TyB w 0) A n c data) (hn:n<=140737488355328) :
 Calls Tryz.prog 101 #[.pointer (some ⟨f,0,none⟩),.slice A n c] w (StoR w B f k vs v (l.map BS.rc) data):=by
 have ai:=Yct hd;obtain ⟨a,a6⟩:∃ a,l.length=a:=⟨_,rfl⟩
 have b0:=h.len;obtain ⟨N,hN⟩:∃ N,max 1 ((n+24) / 25)=N:=⟨_,rfl⟩
 have aj:(ZaF data.length true a data).length=N:=by rw [Zli _ _ _ _ qO,ai,hN]
 have a0:Hid (Zbz (l.map BS.rc) data=if 65536-a<N then (l.map BS.rc,0) else (l.map BS.rc++(ZaF data.length true a data).map some,(a:Int))):=qH (by unfold Zbz;rw [Yag,a6,aj])
 have u:=qH (ZeJ w h);rw [Ztw hall,a6] at u;have a1:=qH (ZcJ w h);have HP:=qH h;have cj:n<=c:=Row.le hd;have HD:=qH hd;have aa:=qH hall;have a2:=qH a6;have ak:=qH aj;have al:=qH ai;have ck:a<=65536:=qO;have cl:max 1 (((n:Int)+25-1) / 25)=(N:Int):=qO;have a3:=qH hN;clear h hd hall a6 aj ai b0 hN;go_enter Tryz.func101,Tryz.ntmps101;go_wp2_with fail;refine a1.mono ?_;rintro e w1 ⟨rfl,rfl⟩;go_wp2_with fail;refine u.mono ?_;rintro e w1 ⟨rfl,rfl⟩;have cm:IntKind.i64.wrap (65536-(a:Int))=65536-(a:Int):=YbO _ ⟨qO,qO⟩;by_cases a4:65536-a<N
 case pos =>
  have b1:65536-(a:Int)<(N:Int):=qO;have HE:Hid (Zbz (l.map BS.rc) data=(l.map BS.rc,0)):=qH (a0.trans (Yac a4));clear a0 a4;go_wp2
  go_ret2
  unfold StoR;rw [HE.out];exact ⟨5,a,rfl,v,l,low,HP,aa,a2,rfl,Yaa _ _,.inl rfl⟩
 have b1:¬ 65536-(a:Int)<(N:Int):=qO;have HE:Hid (Zbz (l.map BS.rc) data=(l.map BS.rc++(ZaF data.length true a data).map some,(a:Int))):=qH (a0.trans (Yab a4));have cn:1<=N:=qh a3;have co:a+N<=65536:=qO;have bu:=run_make_row' (P:=Tryz.prog) 110 3 (.int .i64 0) 8 Tryz.underlying110 ZcM rfl .i64 .i64 N qO qO w;clear a0 a4 a1 u;go_upto_region 7 with fail;have b2:=(Yaa (fun _=>False) w).alloc (.cells (madeCells #[.int .i64 0] N) 3);have b3:=Yad w 3 (madeCells #[.int .i64 0] N);have b4:madeCells #[Value.int .i64 0] N=(idsN a N 0).toArray:=by apply Array.ext';simp [madeCells,YdT,List.map_const',idsN]
 have ab:Blk (w.alloc (.cells (madeCells #[.int .i64 0] N) 3)) w.heap.size 3 (idsN a N 0).toArray:=by rw [<- b4];exact b3
 have b5:∀ wx,Same (w.alloc (.cells (madeCells #[.int .i64 0] N) 3)) wx->wx.ownsRow w.heap.size 3 1 (.slice (some ⟨w.heap.size,0,none⟩) N N) N (idsN a N 0):=fun wx hx=>by have Y:=Zfu (ab.same hx) (Yae _) (by simp [idsN]) (show N<=maxLen by unfold maxLen;omega);simpa using Y
 have b6:=qH b5;have b7:=qH b2;generalize w.alloc (.cells (madeCells #[.int .i64 0] N) 3)=w2 at *;generalize bo:w.heap.size=E at *;clear b2 b3 ab b4 b5 bu;go_wp2_with fail;go_loopg [31] N (fun gh ca wr=>∃ j:Nat,N-j=gh/\j<=N/\ca=.int .i64 (j:Int)/\Hid (∃ R,R.length=a+j/\R.take a=l.map BS.rc/\StI w B f k vs v R wr (a+j))/\Hid (wr.ownsRow E 3 1 (.slice (some ⟨E,0,none⟩) N N) N (idsN a N j)))
 case atStart=>exact ⟨0,rfl,Yah _,rfl,qH ⟨l.map BS.rc,by rw [Yag,a2.out];rfl,by rw [YaB (by rw [Yag,a2.out];exact Yae _)],v,l,low,HP.same b7.out,aa,a2,rfl,b7.mono fun _ _ f=>f.elim,.inl rfl⟩,qH (b6.out _ (Yaa _ _))⟩
 obtain ⟨j,rfl,hj,rfl,KR,Z⟩:=hrel;by_cases C:j<N
 · have j1:(j:Int)<(N:Int):=qO;obtain ⟨R,F,i,d⟩:=KR.out;obtain ⟨v1,l1,ad,h1,h2,h3,h4,Y,h6⟩:=d.ex;have am:B<=wr.heap.size:=Yaj hB (by rw [<- bo] at *;exact Y.size);have HA:=qH (Zgx wr h1 am h2 qO);rw [h3] at HA;have M:=qH d;have H1:=qH h1;have H2:=qH h2;have H3:=qH h3;have H4:=qH h4;have H5:=qH Y;have H6:=qH h6;have O:=qH F;have an:=qH i;clear F i d h1 h2 h3 h4 Y h6 KR;go_wp2_with fail;refine HA.mono ?_;rintro e w3 ⟨rfl,y,v3,a7,L,bp,av,bq⟩;have ao:=M.own H1.out av Z.out qD qD;obtain ⟨g',u',cb,_,_,_,cv,cw,ae⟩:=ZaW ao C;cases cb;have h9:=ae (.int .i64 ((a+j:Nat):Int));rw [ZrP C] at h9;have ap:Upd (fun b=>b=E) w3 (w3.setCell ⟨E,j,none⟩ (.int .i64 ((a+j:Nat):Int))):=(Yaa (fun b=>b=E) w3).put1 _;have ac:OfT w3 3 E:=Zaf ao rfl;have b8:StI w B f k vs v (R++[some (ZaB 31)]) (w3.setCell ⟨E,j,none⟩ (.int .i64 ((a+j:Nat):Int))) (a+(j+1)):=by
    refine ⟨v3,l1++[y],a+j,bp.it flInt (m:=0) (ap.mono fun b _ hb=>by rw [hb];exact Ycu ac (Yah _) rfl),fun z hz=>?_,by rw [Yaf,H3.out];rfl,?_,?_,YeI H5.size H6 bq⟩
    · rcases YaR.1 hz with hz | hz
      · exact H2 z hz
      rw [YaH.1 hz];exact L
    · rw [YaG,H4.out,YfL,ZrQ L,a7]
    refine (H5.trans av fun b hb t=>?_).trans ap fun b hb t=>?_
    · rcases t with t | t
      · exact .inl t
      rcases H6.out with e | ⟨g,e,cc⟩
      · exact .inr (e ▸ t)
      have:=Yax (t.symm.trans e);omega
    omega
   have H9:=qH h9;have bv:=qH b8;clear a7 L bp av bq ao ae h9 ap ac b8 HA;go_wp2;go_roundg (N-(j+1))
   case measure=>omega
   case rel=>exact ⟨j+1,rfl,qO,by go_num,qH ⟨R++[some (ZaB 31)],by rw [Yaf,O.out];rfl,by rw [YfM (by rw [O.out];omega)];exact an,bv⟩,H9⟩
 have bw:N=j:=qO;subst bw;obtain ⟨R0,br,af,ag⟩:=KR.out;obtain ⟨G,hG⟩:∃ G,ZaF data.length true a data=G:=⟨_,rfl⟩
 have HG:=qH hG;rw [hG] at HE ak;have b9:=qH (show ∃ R,R.length=a+N/\R.take (a+0)=l.map BS.rc++(G.take 0).map some/\StI w B f k vs v R wr (a+N) from ⟨R0,br,by rw [YbW,af];simp,ag⟩);have ba:=Z;clear br af ag hG KR Z b6 C;go_wp2_with fail;go_loopg [45] N (fun gh cd wy=>∃ q:Nat,N-q=gh/\q<=N/\cd=.int .i64 (q:Int)/\Hid (∃ R,R.length=a+N/\R.take (a+q)=l.map BS.rc++(G.take q).map some/\StI w B f k vs v R wy (a+N))/\Hid (wy.ownsRow E 3 1 (.slice (some ⟨E,0,none⟩) N N) N (idsN a N N)))
 case atStart=>exact ⟨0,rfl,Yah _,rfl,b9,ba⟩
 clear b9 ba;obtain ⟨q,rfl,hq,rfl,KR,Z⟩:=hrel;by_cases C:q<N
 · have j1:(q:Int)<(N:Int):=qO;obtain ⟨R,F,i,d⟩:=KR.out;obtain ⟨v1,l1,ad,h1,h2,h3,h4,Y,h6⟩:=d.ex;have am:B<=wr.heap.size:=Yaj hB (by rw [<- bo] at *;exact Y.size);have bb:=HP.upd_tyb Y HD.out;obtain ⟨p,hp⟩:∃ p,q*25=p:=⟨_,rfl⟩
   obtain ⟨m,hm⟩:∃ m,min n ((q+1)*25)=m:=⟨_,rfl⟩
   have bc:p<=m/\m<=n/\m-p<=25:=qh a3;obtain ⟨pl,aw⟩:∃ pl,m-p=pl:=⟨_,rfl⟩
   have hcut:=bb.cut bc.1 bc.2.1;have bd:(data.drop p).take (m-p)=ZfM data q:=by
    unfold ZfM;rw [YeO 25 q,hp];have H:=al.out;rcases Nat.le_total n ((q+1)*25) with h8 | h8
    · rw [YaB (by rw [Yas];omega),YaB (by rw [Yas];omega)]
    congr 1;omega
   rw [bd,aw] at hcut;have o:=qH hcut;have i1:(q:Int)*25=(p:Int):=qO;have i2:min (n:Int) (((q:Int)+1)*25)=(m:Int):=qO;have i3:(p:Int)<=(m:Int)/\(m:Int)<=(n:Int):=qO;have i4:(m:Int)<=(c:Int):=qO;have i5:((m:Int)-(p:Int))=(pl:Int):=qO;obtain ⟨_,uq,e1,_,_,V,ax,_,_⟩:=ZaW Z.out C;rw [Zog C] at V;cases V;cases e1;have M:=qH d;have H1:=qH h1;have H2:=qH h2;have H3:=qH h3;have H4:=qH h4;have H5:=qH Y;have H6:=qH h6;have O:=qH F;have an:=qH i;clear F i d h1 h2 h3 h4 Y h6 KR bb hcut bd;obtain ⟨D,hD⟩:∃ D,ZfM data q=D:=⟨_,rfl⟩
   have bz:=qH hD;rw [hD] at o;clear hD;go_upto_region 15 with fail;go_cut [11] from 50 to 82 (fun ce wx=>∃ A' c',ce=.slice A' pl c'/\wx=wr/\Hid (Zag wr (TyB wr 0) A' pl c' D))
   case first =>
    by_cases bf:p=c
    · subst bf;rw [Yac rfl,YbC] at o;go_wp2;go_meet;exact ⟨_,_,by first | rfl | rw [aw] | simp_all,rfl,o⟩
    have bg:¬ c=p:=fun h=>bf h.symm;rw [Yab bg] at o;go_wp2;go_meet;exact ⟨_,_,by first | rfl | rw [aw] | simp_all,rfl,o⟩
   obtain ⟨A',c',rfl,rfl,ay⟩:=hcut;obtain ⟨nx,W⟩:∃ nx:Nat,(if q+1<N then a+q+2 else 0)=nx:=⟨_,rfl⟩
   obtain ⟨s,hs⟩:∃ s:Int,((ZmA (decide (q=0)):Nat):Int)=s:=⟨_,rfl⟩
   obtain ⟨x,hx⟩:∃ x:Int,(nx:Int)-1=x:=⟨_,rfl⟩
   have bh:nx<=65536:=by rw [<- W];split <;> omega
   have aq:pl<=25:=qO;have c0:Hid (G[q]?=some (blkB (decide (q=0)) D nx)):=qH (by have H:=ZmB data.length true a data q qO (by rw [al.out,a3.out];exact C);rw [HG.out,bz.out,al.out,a3.out,W,YbP] at H;exact H)
   have bi:=qH fun wx (cf:Same wc wx)=>Zof wx (ay.same cf) aq (decide (q=0)) nx bh;rw [hs,hx] at bi;obtain ⟨cx,ah⟩:E<wc.heap.size/\(q+1<N->wc.cell? ⟨E,q+1,none⟩=some (.int .i64 ((a:Int)+((q:Int)+1)))):=by refine ⟨(Z.lt E rfl).2,fun H=>?_⟩;obtain ⟨_,uq,e1,_,_,V,cg,_,_⟩:=ZaW Z.out H;rw [Zog H] at V;cases V;cases e1;rw [cg];simp only [Ygn,Int.natCast_one]
   have cp:IntKind.i64.wrap ((q:Int)+1)=(q:Int)+1:=YbO _ ⟨qO,qO⟩;obtain ⟨Nx,a8⟩:∃ Nx:World->Prop,Nx=fun wy=>∃ R,R.length=a+N/\R.take (a+(q+1))=l.map BS.rc++(G.take (q+1)).map some/\StI w B f k vs v R wy (a+N):=⟨_,rfl⟩
   have bj:Hid (∀ w5,Same wc w5->∀ A5 c5,Zag w5 (TyB w5 0) A5 31 c5 (blkB (decide (q=0)) D nx)->Calls Tryz.prog 59 #[.pointer (some ⟨f,0,none⟩),.int .i64 ((a:Int)+(q:Int)),.slice A5 31 c5] w5 fun e w'=>e=.returned (.int .i64 0)/\Hid (Nx w')/\Hid (w'.ownsRow E 3 1 (.slice (some ⟨E,0,none⟩) N N) N (idsN a N N))):=qH fun w5 r A5 c5 ch=>by
    have a5:D.length<=25:=by have H:=Yct ay.out;omega
    rw [show (a:Int)+(q:Int)=((a+q:Nat):Int) by omega];refine (ZfW w5 (H1.same r) (Yaj am r.size) ch (by rw [ZgH a5]) (a+q) qO).mono ?_;rintro e w' ⟨rfl,y,v',a7,L,hf,V,ci⟩;have bk:ZiX l1 (a+q) y=l1.set (a+q) y:=by unfold ZiX;rw [H3.out,show a+q+1-(a+N)=0 by omega,Yga,Ybl]
    rw [bk] at hf;refine ⟨rfl,qH ?_,qH (M.own (H1.out) ((r.mono fun _ _ f=>f.elim).trans V fun _ _ h=>h) Z qD qD)⟩;rw [a8];refine ⟨R.set (a+q) (some y.data),by rw [Ycg,O.out],?_,v',l1.set (a+q) y,ad,hf,fun z hz=>?_,by rw [Ycg,H3.out],by rw [YeX,H4.out,ZrQ L],?_,YeI H5.size H6 (NewB.same r ci)⟩
    · have H:(R.set (a+q) (some y.data)).take (a+(q+1))=R.take (a+q)++[some y.data]:=by rw [show a+(q+1)=(a+q)+1 by omega,Ybo,List.take_set_of_le (Yae _),Ycr (by rw [O.out];omega)];rfl
      rw [H,an.out,Ybo,c0.out,a7];simp
    · rcases YeY hz with hz | rfl
      · exact H2 z hz
      exact L
    refine ((H5.out).same r).trans V fun b hb t=>?_;rcases t with t | t
    · exact .inl t
    rcases H6.out with e | ⟨g,e,cc⟩
    · exact .inr (e ▸ t)
    have:=Yax (t.symm.trans e);omega
   have cq:=qH a8;have a5:(blkB (decide (q=0)) D nx).length=31:=ZgH (by have H:=Yct ay.out;omega);have S:=qH a5;have bl:Hid (∀ wy,Nx wy->∃ R,R.length=a+N/\R.take (a+(q+1))=l.map BS.rc++(G.take (q+1)).map some/\StI w B f k vs v R wy (a+N)):=qH fun wy hw=>by rw [a8] at hw;exact hw
   clear a8 a5;generalize c9:wc.heap.size=bx at *;by_cases I:q=0
   all_goals
    by_cases T:q+1<N
    all_goals
     first
      | (have c1:(q:Int)+1<(N:Int):=qO
         have U:=ah T;have ar:x=(a:Int)+((q:Int)+1):=by rw [<- hx,<-W,Yac T];omega)
      | (have c1:¬ (q:Int)+1<(N:Int):=qO
         have U:True:=trivial;have ar:x = -1:=by rw [<- hx,<-W,Yab T];rfl)
     first
      | (have au:s=1:=by rw [<- hs,YaV I];rfl
         subst I;have I:True:=trivial
         try simp only [YbJ,Int.natCast_zero,Int.zero_add] at U)
      | (have cr:¬ (q:Int)=0:=qO
         have au:s=0:=by rw [<- hs,YaM I];rfl)
     have c2:=qH ar;have c3:=qH au;have c4:=qH c9;have cs:=qH T;have ct:=qH I;clear ar au hx hs W T I ah;go_upto_region 21 with fail;refine (fun (t:∀ wz:World,Blk wz bx 203 #[.int .i64 s,.int .i64 (pl:Int),.int .i64 x,.slice A' pl c']->Same wc wz->Code.wp Tryz.prog _ _ _ wz)=>t _ ?_ ?_) (fun wz X az=>?_)
     · have H:=Yad wc 203 #[.int .i64 s,.int .i64 (pl:Int),.int .i64 x,.slice A' pl c'];rw [c4.out] at H;rw [c2.out,c3.out] at H ⊢;simpa using H
     · exact (Yaa _ wc).alloc _
     have q0:=X.cell 0;have q1:=X.cell 1;have q2:=X.cell 2;have q3:=X.cell 3;simp only [Ybj,YaW,Ybd] at q0 q1 q2 q3;have a1:=qH az;have c6:=qH (bi.out wz az);clear X az U;go_wp2_with fail;refine c6.mono ?_;rintro e w5 ⟨v5,rfl,a9,r⟩;obtain ⟨A5,c5,rfl⟩:=Zad a9;rw [S.out] at a9 ⊢;have bm:=qH (bj.out w5 (a1.trans r fun _ _ f=>f) A5 c5 (YdK S a9))
     try simp only [Int.natCast_zero,Int.add_zero] at bm
     clear a9 r q0 q1 q2 q3;go_wp2_with fail;refine bm.mono ?_;rintro e w6 ⟨rfl,bs,bt⟩;go_wp2
     first
      | (go_roundg (N-(q+1))
         case measure=>omega
         case rel=>exact ⟨q+1,rfl,qO,by go_num,qH (bl.out w6 bs),bt⟩)
      | (go_roundg (N-(0+1))
         case measure=>omega
         case rel=>exact ⟨0+1,rfl,qO,by go_num,qH (bl.out w6 bs),bt⟩)
 have c7:q=N:=qO;subst c7;obtain ⟨_,uq,e1,_,_,V,ax,_,_⟩:=ZaW Z.out (show 0<q by omega);rw [Zog (show 0<q by omega)] at V;cases V;cases e1;obtain ⟨R,F,i,d⟩:=KR.out;have bn:R=l.map BS.rc++G.map some:=by rw [YaB qO,YaB (by first | (have:=ak.out;omega) | (have:=ak;omega))] at i;exact i
 have c8:=qH bn;have M:=qH d;have cu:wr.cell? ⟨E,0,none⟩=some (.int .i64 (a:Int)):=by simpa using ax
 clear F i d bn KR Z ax;go_wp2
 go_ret2
 unfold StoR;rw [HE.out];exact ⟨0,a+q,rfl,by rw [<- c8.out];exact M⟩
end
end Go.Proofs.YtmkjfhnlnhceiaaGreatDoor
