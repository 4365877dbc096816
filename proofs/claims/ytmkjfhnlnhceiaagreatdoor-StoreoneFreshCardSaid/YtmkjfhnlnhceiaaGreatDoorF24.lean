/- Lemmas: walks and plain laws. -/
import Derived.Lib.BufferWrite
import Derived.Test.YtmkjfhnlnhceiaaGreatDoorF23
set_option maxRecDepth 100000
set_option maxHeartbeats 16000000
namespace Go.Proofs.YtmkjfhnlnhceiaaGreatDoor
variable {W w wx w' w1 w2:World} {B k vs z g o N j r:Nat} {cs:Array Value} {xs:List Value} {ns:List ByteArray} {v1 v':Value} {A:Option Addr} {bs:List UInt8}
section
open Go.RowKit
theorem PF.nofoot {f low:Nat} {v:Value} {l:List BS} {e:TypeId} (h:PF W B f k vs z v l low) (hb:Blk W g e cs) (h1:e≠171) (h2:39≠e):¬ Foot f v g:=fun a=>a.elim (hb.ne h.blk h1) fun a=>hb.ne_own h.own.row h2 a
theorem PF.nofoot_map {f low m n:Nat} {v:Value} {l:List BS} {q:ByteArray->Option Value} (h:PF W B f k vs z v l low) (hm:MpS W m n q):¬ Foot f v m:=fun a=>a.elim (hm.ne h.blk) fun a=>by obtain ⟨c,b⟩:=LA h.own.row a;exact hm.ne b rfl
theorem PF.nofoot_own {f low n:Nat} {v nv:Value} {l:List BS} (h:PF W B f k vs z v l low) (hr:W.ownsRow B 9 1 nv n xs):∀ g,nv.ownBlock=some g->¬ Foot f v g:=fun g a=>by obtain ⟨c,b⟩:=LA hr a;exact h.nofoot b qD qD
def TkI (t:TypeId):Prop:=t=9\/t=167
theorem tkI:FlU TkI:=⟨by unfold TkI;decide,by unfold TkI;decide,by unfold TkI;decide,by unfold TkI;decide⟩
def II (t f m:Nat) (v nv:Value) (b:Nat):Prop:=b=t\/b=f\/b=m\/v.ownBlock=some b\/nv.ownBlock=some b
theorem Zuq:(Tryz.prog.info? 5).map (·.size)=some 1:=qK
theorem ZsE (s:ByteArray) (hs:s.size<=40):((Value.int .u8 (s.size:Int)::List.replicate 40 (Value.int .u8 0)).toArray.toList.take 1++Lib.byteCells s.data.toList++(Value.int .u8 (s.size:Int)::List.replicate 40 (Value.int .u8 0)).toArray.toList.drop (1+s.size))=(tokD s).map u8v:=by
 have e:s.data.toList.length=s.size:=UF;have a:((UInt8.ofNat s.size).toNat:Int)=s.size:=by rw [UInt8.toNat_ofNat'];omega
 rw [NM 1];simp only [tokD,TB,Lib.byteCells,CB,DB,CP,u8v,a,EB,SB,pL,List.take_zero,fP,List.drop_replicate];rfl
theorem Zkc {t f m low:Nat} {v nv:Value} {l:List BS} (w:World) (h:PT w B t f m k vs ns.length low v nv l ns) (hB:B<=w.heap.size) (ct:∀ x∈l,x.A≠none) {s:ByteArray} (hg:VB s=true) (br:(idxI ns s).isSome=false) (hl:ns.length<200):
 Calls Tryz.prog 51 #[.pointer (some ⟨t,0,none⟩),.string s] w fun e w'=>e=.returned (.tuple #[.int .i64 (ns.length:Int),.int .i64 0]) /\
  ∃ v' nv' l',PT w' B t f m k vs (ns.length+1) ns.length v' nv' l' (ns++[s])/\(∀ x∈l',x.A≠none)/\l'.map BS.rc=l.map BS.rc++[some (tokD s)]/\Upd (II t f m v nv) w w'/\NewB w v v'/\NewB w nv nv':=by
 obtain ⟨co,ci⟩:=xI hg;obtain ⟨N,hN⟩:=qx ns.length;have a1:=(h.map.look nM (aF w) (s:=s) qM).1;rw [show idsF ns s=none by unfold idsF;cases hi:idxI ns s with | none=>rfl | some i=>rw [hi] at br;cases br] at a1;simp only [oN,eS] at a1;have a2:l.length=N:=h.len.symm.trans hN;have p2:=h.blk.c2;have p0:=h.blk.c0;have a3:=qH (Zon h);have a4:=qH (JX w h.file hB ct qO);rw [hN] at a3 h hl ⊢;rw [a2] at a4;have C:=qH h;have p:=qH hN;have R:=qH a2;have HG:=qH hg;have af:=qH br;have ag:=qH ct;clear h hN a2 hg br ct;have c1:¬ (200:Int)<=(N:Int):=qO;go_enter Tryz.func51,Tryz.ntmps51;go_wp2_with fail;refine (fJ s _).mono ?_;rintro e w1 ⟨rfl,rfl⟩;rw [HG.out];go_wp2_with fail;refine a3.mono ?_;rintro e w1 ⟨rfl,rfl⟩;go_wp2_with fail;refine a4.mono ?_;rintro e w2 ⟨rfl,x,v2,cc,cd,b8,r,b9⟩;have ah:=qH b8;have d:=qH r;have ai:=qH b9;clear a1 p2 p0 cc cd b8 r b9 a4 a3;have bj:∀ w,(Instr.makeSlice 39 (.int .i64 41) (.int .i64 41)).run Tryz.prog w=.ok (.slice (some ⟨w.heap.size,0,none⟩) 41 41) (w.alloc (.cells (madeCells #[.int .u8 0] 41) 5)):=fun w=>run_make_row' (P:=Tryz.prog) 39 5 (.int .u8 0) 1 yD uI rfl .i64 .i64 41 qD qD w;go_upto_region 12 with fail;have aj:=(iA w2).alloc (.cells (madeCells #[.int .u8 0] 41) 5);have D:=jA w2 5 (madeCells #[.int .u8 0] 41);generalize w2.alloc (.cells (madeCells #[.int .u8 0] 41) 5)=w3 at *;have cj:w.heap.size<=w2.heap.size:=d.size;generalize cn:w2.heap.size=g at *;have ak:=qH aj;have al:madeCells #[Value.int .u8 0] 41=(Value.int .u8 0::List.replicate 40 (.int .u8 0)).toArray:=by apply Array.ext';simp [madeCells,yK,List.map_const',VG]
 rw [al] at D;have am:=qH D;obtain ⟨sz,ce⟩:=qx s.size;have bk:sz<=40:=qO;have r0:w3.cell? ⟨g,0,none⟩=some (.int .u8 0):=by rw [D.cell 0];rfl
 have z0:=D.frozen 0;have k0:(0:Int)<=(sz:Int)/\(sz:Int)<=40:=qO;clear D aj bj al;go_upto_region 13 with fail;have S:=am.put 0 (.int .u8 (sz:Int));have an:Same w2 (w3.setCell ⟨g,0,none⟩ (.int .u8 (sz:Int))):=CC ak.out qO _;generalize w3.setCell ⟨g,0,none⟩ (.int .u8 (sz:Int))=w4 at *;rw [zA,CA,<-ce] at S;have ao:=fun ty=>Lib.run_copy_row_string (P:=Tryz.prog) w4 39 9 ty 5 g 1 40 40 s _ _ yD Zuq S qO qP;rw [ZsE s qO] at ao;have ap:=setRow_heap w4 g _ ((tokD s).map u8v).toArray _ _ S;have aq:Same w2 (w4.setRow g ((tokD s).map u8v).toArray):=an.trans (S':=fun b=>b=g) ⟨rfl,rfl,rfl,by simp [World.setRow],fun k _ hk=>setRow_other w4 g k _ hk⟩ fun b hb e=>qO;have T:=qH ap;have a:=qH aq;clear S ap aq an r0 z0 am ak;go_upto_region 14 with fail;generalize w4.setRow g ((tokD s).map u8v).toArray=w5 at *;have a5:=(C.blk.upd d (C.file.nofoot C.blk qD qD)).same a.out;have ar:=(C.map.upd d (C.file.nofoot_map C.map)).same a.out;have au:=mA (GA C.row d (C.file.nofoot_own C.row)) a.out;have av:=qH a5;have aw:=qH ar;have ax:=qH au;have p0:=a5.c0;have ay:pA w5 (fun b=>b=g) (some ⟨g,0,none⟩) 41 41 (tokD s):=by have h1:=XF (show Blk w5 g 5 ((tokD s).map u8v).toArray from T) (k:=1) (n:=41) (c:=41) (by simp [TS (show s.size<=40 by omega)]) (lA _) (by simp [maxLen]);exact h1
 have az:=qH (CT w5 (ah.same a) (tA hB (tA d.size a.size)) ay (by rw [TS (show s.size<=40 by omega)]) N qO);clear a5 ay ao ar au;go_wp2_with fail;refine az.mono ?_;rintro e w6 ⟨rfl,y,v6,ba,bb,ad,u,bc⟩;have U:=ah.same a.out;have bl:=qH ba;have b0:=qH bb;have b1:=qH u;have bm:=qH bc;have e6:TH (l++[x]) N y=l++[y]:=by unfold TH;rw [kA,R.out,GG,SD,QR,ZC,fI _ _ (by rw [R.out];exact lA _),R.out,SD];rfl
 rw [e6] at ad;have bn:=qH ad;have a6:=av.upd u (U.nofoot av qD qD);have b2:=aw.upd u (U.nofoot_map aw);have V:=GA ax.out u (U.nofoot_own ax);rw [p.out] at V;obtain ⟨A6,c6,Y⟩:=WA V;have bo:=qH Y;have E:=qH a6;have a7:=qH b2;have ch:B<=w6.heap.size:=tA hB (tA d.size (tA a.size u.size));have p1:w6.cell? ⟨t,1,none⟩=some (.slice A6 N c6):=by rw [<- Y];exact a6.cell 1
 have o:w6.ownsRow B 9 1 (.slice A6 N c6) N (ns.map Value.string):=Y ▸ V;have bp:(Value.slice A6 N c6).ownBlock≠some t:=E.ne_own o qD;clear ba bb ad u bc e6 a6 b2 V Y p0 az U;go_upto_region 17 with (at_builtin;go_must (refine XD rfl (.tmp 67) (.tmp 68) _ _ rfl B 9 1 16 _ mI PN rfl (.slice A6 N c6) N _ rfl (o.alloc _) rfl (GD mI (tI _ _ _) (by simp [Value.oneCell'])) qM qO qP ?_);intro v7 w7 Z;obtain ⟨A7,c7,rfl⟩:=WA Z.own;have a8:=Z.blk (E.alloc _) bp;have f1:=a8.frozen 1;have q1:=a8.cell 1;have b3:=qH Z;clear Z a8);have bq:=(iA w6).alloc (.cells #[.string ⟨#[]⟩] 9);obtain ⟨F,G,a0⟩:=aH (i:=1) E.out o qD bq b3.out;have bs:=qH a0;have a9:=qH F;have W:=a7.upd a0 fun h=>h.elim (a7.ne E) fun h=>by obtain ⟨cs,h4⟩:=LA o h;exact a7.ne h4 rfl
 have b4:=qH W;have e8:ns.map Value.string++[Value.string ⟨#[]⟩]=(ns++[noText]).map Value.string:=by simp [noText]
 rw [e8] at G;have bt:=qH G;obtain ⟨j,un,hA,cp,cq,_,cf,cg,bd⟩:=EE G (show N<N+1 by omega);subst hA;have X:(Value.slice (some ⟨j,0,none⟩) (N+1) c7).ownBlock=some j:=rfl;obtain ⟨cr,bf⟩:=LA G X;have bu:=qH (bn.it tkI (m:=0) (a0.mono fun b _ h=>by
  rcases h with rfl | h
  · exact dH ⟨_,E⟩ (oA _) (.inr rfl)
  exact dH (LA o h) (oA _) (.inl rfl)))
 have b5:Hid ((Value.slice A6 N c6).ownBlock=some j\/w6.heap.size<=j):=qH (by
  rcases b3.block with e | ⟨g',e,bg⟩
  · exact .inl (e ▸ X)
  have e:=eB (X.symm.trans e);rw [aB] at bg;exact .inr qO)
 generalize w7.setCell ⟨t,1,none⟩ (.slice (some ⟨j,0,none⟩) (N+1) c7)=q at *;have n2:t≠j:=fun e=>a9.ne_own bt.out qD (e ▸ X);have n3:m≠j:=W.ne bf;have n5:m≠t:=W.ne F;have bv:=F.c1;have bw:=F.c2;clear W F G a0 p1;generalize hM:N+1=M at *;have bx:=qH hM;have jM:(N:Int)<(M:Int):=qO;clear hM;have s0:Same q q.drew:=(eA _ q).drew;go_upto_region 17 with fail;refine wp_region_noPanic ?_;refine eE 16 (fun wx=>wx.cell? ⟨t,1,none⟩=some (.slice (some ⟨j,0,none⟩) M c7)/\wx.cell? ⟨t,2,none⟩=some (.map (some m))) qK ⟨bv,bw⟩ (fun H=>?_)
 repeat
  first
   | refine bC 0 (v:=?_) rfl (Or.inl ⟨qR,?_⟩) qA ?_
   | refine bC 1 (v:=?_) rfl (Or.inl ⟨qR,?_⟩) qA ?_
   | refine bC 2 (v:=?_) rfl (Or.inl ⟨qR,?_⟩) qA ?_
   | refine bC 3 (v:=?_) rfl (Or.inl ⟨qR,?_⟩) qA ?_
   | refine bC 4 (v:=?_) rfl (Or.inl ⟨qR,?_⟩) qA ?_
   | refine bC 5 (v:=?_) rfl (Or.inl ⟨qR,?_⟩) qA ?_
   | refine bC 6 (v:=?_) rfl (Or.inl ⟨qR,?_⟩) qA ?_
   | refine bC 7 (v:=?_) rfl (Or.inl ⟨qR,?_⟩) qA ?_
   | refine bC 8 (v:=?_) rfl (Or.inl ⟨qR,?_⟩) qA ?_
   | refine bC 9 (v:=?_) rfl (Or.inl ⟨qR,?_⟩) qA ?_
   | refine bC 10 (v:=?_) rfl (Or.inl ⟨qR,?_⟩) qA ?_
   | refine bC 11 (v:=?_) rfl (Or.inl ⟨qR,?_⟩) qA ?_
   | refine bC 12 (v:=?_) rfl (Or.inl ⟨qR,?_⟩) qA ?_
  rotate_left
  · intro wx ae;have h1:=ae.1;have h2:=ae.2;go_simp;try with_reducible rfl
  simp only [Act.put,zA,qB,oB,iB,CA,JA]
 have c3:q.drew.cell? ⟨j,N,none⟩=some un:=cf;have f3:q.drew.frozen? ⟨j,N,none⟩=false:=cg;have u1:Upd (fun b=>b=j) q (q.setCell ⟨j,N,none⟩ (.string s)).drew:=((eA _ q).put1 _).drew;have aa:=qH (a9.upd u1 n2);have bz:=qH (b4.upd u1 n3);have c4:=qH (bd (.string s));have c5:=qH u1;refine CD 13 rfl (fun K hK=>?_);go_simp;refine hK.out _ _ ⟨aa.cell 1,aa.cell 2⟩ (fun H=>?_);clear hK K c3 f3 u1;generalize cb:(q.setCell ⟨j,N,none⟩ (.string s)).drew=W1 at *;obtain ⟨W2,st,I,r,L⟩:=bz.entry nM qM (aF W1) (s:=s) qM (show idsF ns s=none by have hi:=af.out;unfold idsF;cases h:idxI ns s with | none=>rfl | some i=>rw [h] at hi;cases hi) (.int .i64 (N:Int));have c8:=qH L;have b6:=qH r;have T:=qH (aa.upd r n5.symm);clear L r;refine CD 14 rfl (fun K hK=>?_);go_simp;refine hK.out _ _ ⟨T.cell 1,T.cell 2⟩ (fun H=>?_);clear hK K I;refine bC 15 (v:=?_) rfl (Or.inl ⟨qR,?_⟩) qA ?_;rotate_left
 · intro wx ae;go_simp;try with_reducible rfl
 simp only [Act.put,zA,qB,oB,iB,CA,JA];obtain ⟨W3,I,bh,bi⟩:=c8.out W2 rfl;refine bD rfl (fun K hK=>?_);go_simp;refine hK.out _ _ ?_;clear hK K I;have c9:=qH bh;have b7:=qH bi;clear bh bi;refine NoPanic.normal ?_;go_wp2
 go_ret2
 have ab:(Value.slice A6 N c6).ownBlock=nv.ownBlock:=by rw [<- bo.out]
 have cl:w.heap.size<=w6.heap.size:=tA d.size (tA a.size b1.size);have cm:w.heap.size<=w5.heap.size:=tA d.size a.size;have ac:Upd (fun b=>b=j\/b=m) q W3:=((c5.mono (S':=fun b=>b=j\/b=m) fun _ _ h=>.inl h).trans b6 fun _ _ h=>.inr h).trans b7.out fun _ _ h=>.inr h;have ca:Upd (yB TkI 0 q) q W3:=ac.mono fun b _ h=>by
  rcases h with rfl | rfl
  · exact dH ⟨_,bf⟩ (oA _) (.inl rfl)
  obtain ⟨es,ck,h9⟩:=b4.obj;exact GE h9 rfl (oA _)
 have hU:Upd (II t f m v nv) w W3:=by
  have k1:Upd (II t f m v nv) w w5:=(d.mono fun b _ h=>h.elim (fun h=>.inr (.inl h)) fun h=>.inr (.inr (.inr (.inl h)))).same a.out;have k2:Upd (II t f m v nv) w w6:=k1.trans b1.out fun b hb h=>by
   rcases h with h | h
   · exact .inr (.inl h)
   rcases ai.out with e | ⟨g',e,bg⟩
   · exact .inr (.inr (.inr (.inl (e ▸ h))))
   have:=eB (h.symm.trans e);omega
  have k3:Upd (II t f m v nv) w q:=k2.trans bs.out fun b hb h=>by
   rcases h with h | h
   · exact .inl h
   exact .inr (.inr (.inr (.inr (ab ▸ h))))
  refine k3.trans ac fun b hb h=>?_;rcases h with h | h
  · rcases b5.out with e | e
    · exact .inr (.inr (.inr (.inr (by rw [<- ab,e,h]))))
    omega
  exact .inr (.inr (.inl h))
 refine ⟨rfl,v6,.slice (some ⟨j,0,none⟩) M c7,l++[y],⟨C.base,?_,bu.it tkI ca,?_,?_,C.mB,?_,?_⟩,?_,?_,hU,?_,?_⟩
 · exact a9.upd ac fun h=>h.elim n2 n5.symm
 · have h1:=c4.out;rw [kA,p.out,GG,bx.out];have e9:((ns++[noText]).map Value.string).set N (.string s)=(ns++[s]).map Value.string:=by rw [DB,fI _ _ (by rw [nA,p.out];exact lA _),nA,p.out,SD,DB];rfl
   rw [e9] at h1;have h2:=mA (show W1.ownsRow B 9 1 (.slice (some ⟨j,0,none⟩) M c7) M ((ns++[s]).map Value.string) by rw [<- cb];exact h1) (eA _ W1);exact GA (GA h2 b6 fun g hg e=>n3 (e.symm.trans (eB hg).symm)) b7 fun g hg e=>n3 (e.symm.trans (eB hg).symm)
 · rw [ZtI (PK HG) af.out,p.out];exact c9
 · rw [kA,kA,p.out,R.out];rfl
 · intro z O;rcases YB.1 O with O | O
   · exact C.texts z O
   rw [QB.1 O];omega
 · intro z O;rcases YB.1 O with O | O
   · exact ag z O
   rw [QB.1 O];exact b0
 · rw [DB,sR];congr 1;have:BS.rc y=some y.data:=by
    unfold BS.rc;cases h:y.A with
    | none=>exact absurd h b0
    | some _=>rfl
   rw [this,bl.out]
 · exact fO d.size ai (NewB.same a bm)
 rcases b5.out with e | e
 · exact .inl (by rw [<- ab,e];rfl)
 exact .inr ⟨j,rfl,qO⟩
def idsN (o N j:Nat):List Value:=(List.range j).map (fun q=>Value.int .i64 ((o+q:Nat):Int))++List.replicate (N-j) (.int .i64 0)
theorem ZsF (h:j<N):(idsN o N j).set j (.int .i64 ((o+j:Nat):Int))=idsN o N (j+1):=by
 unfold idsN;rw [fI _ _ qS,nA,TI,SD,List.range_succ,DB,vA];congr 1;obtain ⟨r,a⟩:∃ r,N-j=r+1:=⟨N-j-1,qO⟩
 rw [a,VG,CA,show N-(j+1)=r by omega];rfl
theorem kU {q:Nat} (h:q<N):(idsN o N N)[q]?=some (.int .i64 ((o+q:Nat):Int)):=by unfold idsN;rw [PI (by simpa using h),MA,dN h];rfl
theorem VY {x:BS} (h:x.A≠none):BS.rc x=some x.data:=by
 unfold BS.rc;cases hA:x.A with
 | none=>exact absurd hA h
 | some _=>rfl
theorem Zur {l:List BS} (h:∀ x∈l,x.A≠none):(l.filter fun x=>x.A.isSome).length=l.length:=by
 rw [lS.2];intro x a;cases hA:x.A with
 | none=>exact absurd hA (h x a)
 | some _=>rfl
structure StI (w:World) (B f k vs:Nat) (v:Value) (R:List (Option (List UInt8))) (wr:World) (m:Nat):Prop where
 ex:∃ v1 l1 low1,PF wr B f k vs 32 v1 l1 low1/\(∀ x∈l1,x.A≠none)/\l1.length=m/\l1.map BS.rc=R/\Upd (Foot f v) w wr/\NewB w v v1
theorem StI.own {f m:Nat} {v:Value} {R:List (Option (List UInt8))} {wr:World} (_:StI w B f k vs v R wr m) {l1:List BS} {low1:Nat} (hP:PF wr B f k vs 32 v1 l1 low1) (hu:Upd (Foot f v1) wr wx) {d n kk:Nat} {e:TypeId} {q:Value} (ho:wr.ownsRow d e kk q n xs) (h1:e≠171) (h2:39≠e):wx.ownsRow d e kk q n xs :=
 GA ho hu fun g a=>by obtain ⟨c,b⟩:=LA ho a;exact hP.nofoot b h1 h2
theorem PF.upd_tyb {f low n c:Nat} {v:Value} {l:List BS} {d:List UInt8} (h:PF w B f k vs z v l low) (hu:Upd (Foot f v) w wx) (hd:pA w (TyB w 0) A n c d):pA wx (TyB wx 0) A n c d:=by
 have g:∀ b,TyB w 0 b->¬ Foot f v b:=by
  rintro b a (e | e)
  · exact absurd (a.ne ⟨_,e ▸ h.blk⟩) qD
  exact absurd (a.ne (LA h.own.row e)) qD
 exact (SL hd hu g).mono fun b _ a=>a.upd hu (g b a)
theorem flInt:FlU (fun t=>t=3):=⟨qD,qD,qD,qD⟩
def StoR (w:World) (B f k vs:Nat) (v:Value) (L:List (Option (List UInt8))) (data:List UInt8) (e:Ending) (w':World):Prop :=
 ∃ er m,e=.returned (.tuple #[.int .i64 (iF L data).2,.int .i64 er])/\StI w B f k vs v (iF L data).1 w' m
theorem ZoN {f low:Nat} {v:Value} {l:List BS} {n c:Nat} {cv:List UInt8} (w:World) (h:PF w B f k vs 32 v l low) (hB:B<=w.heap.size) (cw:∀ x∈l,x.A≠none) (hd:pA w (TyB w 0) A n c cv) (hn:n<=140737488355328):
 Calls Tryz.prog 101 #[.pointer (some ⟨f,0,none⟩),.slice A n c] w (StoR w B f k vs v (l.map BS.rc) cv):=by
 have ah:=ZG hd;obtain ⟨a,a6⟩:=qx l.length;have b0:=h.len;obtain ⟨N,hN⟩:=qx (max 1 ((n+24) / 25));have ai:(eC cv.length true a cv).length=N:=by rw [jU _ _ _ _ qO,ah,hN]
 have Z:Hid (iF (l.map BS.rc) cv=if 65536-a<N then (l.map BS.rc,0) else (l.map BS.rc++(eC cv.length true a cv).map some,(a:Int))):=qH (by unfold iF;rw [nA,a6,ai])
 have u:=qH (WS w h);rw [Zur cw,a6] at u;have a0:=qH (SN w h);have HP:=qH h;have cj:n<=c:=Row.le hd;have HD:=qH hd;have a9:=qH cw;have a1:=qH a6;have aj:=qH ai;have ak:=qH ah;have ck:a<=65536:=qO;have cl:max 1 (((n:Int)+25-1) / 25)=(N:Int):=qO;have a2:=qH hN;clear h hd cw a6 ai ah b0 hN;go_enter Tryz.func101,Tryz.ntmps101;go_wp2_with fail;refine a0.mono ?_;rintro e w1 ⟨rfl,rfl⟩;go_wp2_with fail;refine u.mono ?_;rintro e w1 ⟨rfl,rfl⟩;have cm:IntKind.i64.wrap (65536-(a:Int))=65536-(a:Int):=kF _ ⟨qO,qO⟩;by_cases a3:65536-a<N
 case pos =>
  have b1:65536-(a:Int)<(N:Int):=qO;have HE:Hid (iF (l.map BS.rc) cv=(l.map BS.rc,0)):=qH (Z.trans (gA a3));clear Z a3;go_wp2
  go_ret2
  unfold StoR;rw [HE.out];exact ⟨5,a,rfl,v,l,low,HP,a9,a1,rfl,eA _ _,.inl rfl⟩
 have b1:¬ 65536-(a:Int)<(N:Int):=qO;have HE:Hid (iF (l.map BS.rc) cv=(l.map BS.rc++(eC cv.length true a cv).map some,(a:Int))):=qH (Z.trans (aA a3));have cn:1<=N:=qh a2;have co:a+N<=65536:=qO;have bu:=run_make_row' (P:=Tryz.prog) 110 3 (.int .i64 0) 8 mG jK rfl .i64 .i64 N qO qO w;clear Z a3 a0 u;go_upto_region 7 with fail;have b2:=(iA w).alloc (.cells (madeCells #[.int .i64 0] N) 3);have b3:=jA w 3 (madeCells #[.int .i64 0] N);have b4:madeCells #[Value.int .i64 0] N=(idsN a N 0).toArray:=by apply Array.ext';simp [madeCells,yK,List.map_const',idsN]
 have aa:Blk (w.alloc (.cells (madeCells #[.int .i64 0] N) 3)) w.heap.size 3 (idsN a N 0).toArray:=by rw [<- b4];exact b3
 have b5:∀ wx,Same (w.alloc (.cells (madeCells #[.int .i64 0] N) 3)) wx->wx.ownsRow w.heap.size 3 1 (.slice (some ⟨w.heap.size,0,none⟩) N N) N (idsN a N 0):=fun wx hx=>by have X:=eQ (aa.same hx) (lA _) (by simp [idsN]) (show N<=maxLen by unfold maxLen;omega);simpa using X
 have b6:=qH b5;have b7:=qH b2;generalize w.alloc (.cells (madeCells #[.int .i64 0] N) 3)=w2 at *;generalize bo:w.heap.size=E at *;clear b2 b3 aa b4 b5 bu;go_wp2_with fail;go_loopg [31] N (fun gh ca wr=>∃ j:Nat,N-j=gh/\j<=N/\ca=.int .i64 (j:Int)/\Hid (∃ R,R.length=a+j/\R.take a=l.map BS.rc/\StI w B f k vs v R wr (a+j))/\Hid (wr.ownsRow E 3 1 (.slice (some ⟨E,0,none⟩) N N) N (idsN a N j)))
 case atStart=>exact ⟨0,rfl,oA _,rfl,qH ⟨l.map BS.rc,by rw [nA,a1.out];rfl,by rw [cB (by rw [nA,a1.out];exact lA _)],v,l,low,HP.same b7.out,a9,a1,rfl,b7.mono qe,.inl rfl⟩,qH (b6.out _ (eA _ _))⟩
 obtain ⟨j,rfl,hj,rfl,KR,Y⟩:=hrel;by_cases C:j<N
 · have j1:(j:Int)<(N:Int):=qO;obtain ⟨R,F,i,d⟩:=KR.out;obtain ⟨v1,l1,ac,h1,h2,h3,h4,X,h6⟩:=d.ex;have al:B<=wr.heap.size:=tA hB (by rw [<- bo] at *;exact X.size);have HA:=qH (JX wr h1 al h2 qO);rw [h3] at HA;have L:=qH d;have H1:=qH h1;have H2:=qH h2;have H3:=qH h3;have H4:=qH h4;have H5:=qH X;have H6:=qH h6;have M:=qH F;have am:=qH i;clear F i d h1 h2 h3 h4 X h6 KR;go_wp2_with fail;refine HA.mono ?_;rintro e w3 ⟨rfl,y,v3,a7,I,bp,au,bq⟩;have an:=L.own H1.out au Y.out qD qD;obtain ⟨g',u',cb,_,_,_,cs,ct,ad⟩:=EE an C;cases cb;have h9:=ad (.int .i64 ((a+j:Nat):Int));rw [ZsF C] at h9;have ao:Upd (fun b=>b=E) w3 (w3.setCell ⟨E,j,none⟩ (.int .i64 ((a+j:Nat):Int))):=(eA (fun b=>b=E) w3).put1 _;have ab:OfT w3 3 E:=LA an rfl;have b8:StI w B f k vs v (R++[some (TB 31)]) (w3.setCell ⟨E,j,none⟩ (.int .i64 ((a+j:Nat):Int))) (a+(j+1)):=by
    refine ⟨v3,l1++[y],a+j,bp.it flInt (m:=0) (ao.mono fun b _ hb=>by rw [hb];exact dH ab (oA _) rfl),fun z hz=>?_,by rw [kA,H3.out];rfl,?_,?_,fO H5.size H6 bq⟩
    · rcases YB.1 hz with hz | hz
      · exact H2 z hz
      rw [QB.1 hz];exact I
    · rw [DB,H4.out,sR,VY I,a7]
    refine (H5.trans au fun b hb t=>?_).trans ao fun b hb t=>?_
    · rcases t with t | t
      · exact .inl t
      rcases H6.out with e | ⟨g,e,cc⟩
      · exact .inr (e ▸ t)
      have:=eB (t.symm.trans e);omega
    omega
   have H9:=qH h9;have bv:=qH b8;clear a7 I bp au bq an ad h9 ao ab b8 HA;go_wp2;go_roundg (N-(j+1))
   case measure=>omega
   case rel=>exact ⟨j+1,rfl,qO,qN,qH ⟨R++[some (TB 31)],by rw [kA,M.out];rfl,by rw [tR (by rw [M.out];omega)];exact am,bv⟩,H9⟩
 have bw:N=j:=qO;subst bw;obtain ⟨R0,br,ae,af⟩:=KR.out;obtain ⟨G,hG⟩:=qx (eC cv.length true a cv);have HG:=qH hG;rw [hG] at HE aj;have b9:=qH (show ∃ R,R.length=a+N/\R.take (a+0)=l.map BS.rc++(G.take 0).map some/\StI w B f k vs v R wr (a+N) from ⟨R0,br,by rw [IF,ae];simp,af⟩);have ba:=Y;clear br ae af hG KR Y b6 C;go_wp2_with fail;go_loopg [45] N (fun gh cd wy=>∃ q:Nat,N-q=gh/\q<=N/\cd=.int .i64 (q:Int)/\Hid (∃ R,R.length=a+N/\R.take (a+q)=l.map BS.rc++(G.take q).map some/\StI w B f k vs v R wy (a+N))/\Hid (wy.ownsRow E 3 1 (.slice (some ⟨E,0,none⟩) N N) N (idsN a N N)))
 case atStart=>exact ⟨0,rfl,oA _,rfl,b9,ba⟩
 clear b9 ba;obtain ⟨q,rfl,hq,rfl,KR,Y⟩:=hrel;by_cases C:q<N
 · have j1:(q:Int)<(N:Int):=qO;obtain ⟨R,F,i,d⟩:=KR.out;obtain ⟨v1,l1,ac,h1,h2,h3,h4,X,h6⟩:=d.ex;have al:B<=wr.heap.size:=tA hB (by rw [<- bo] at *;exact X.size);have bb:=HP.upd_tyb X HD.out;obtain ⟨p,hp⟩:=qx (q*25);obtain ⟨m,hm⟩:=qx (min n ((q+1)*25));have bc:p<=m/\m<=n/\m-p<=25:=qh a2;obtain ⟨pl,av⟩:=qx (m-p);have hcut:=bb.cut bc.1 bc.2.1;have bd:(cv.drop p).take (m-p)=FI cv q:=by
    unfold FI;rw [xK 25 q,hp];have H:=ak.out;rcases Nat.le_total n ((q+1)*25) with h8 | h8
    · rw [cB (by rw [QA];omega),cB (by rw [QA];omega)]
    congr 1;omega
   rw [bd,av] at hcut;have o:=qH hcut;have i1:(q:Int)*25=(p:Int):=qO;have i2:min (n:Int) (((q:Int)+1)*25)=(m:Int):=qO;have i3:(p:Int)<=(m:Int)/\(m:Int)<=(n:Int):=qO;have i4:(m:Int)<=(c:Int):=qO;have i5:((m:Int)-(p:Int))=(pl:Int):=qO;obtain ⟨_,uq,e1,_,_,U,aw,_,_⟩:=EE Y.out C;rw [kU C] at U;cases U;cases e1;have L:=qH d;have H1:=qH h1;have H2:=qH h2;have H3:=qH h3;have H4:=qH h4;have H5:=qH X;have H6:=qH h6;have M:=qH F;have am:=qH i;clear F i d h1 h2 h3 h4 X h6 KR bb hcut bd;obtain ⟨D,hD⟩:=qx (FI cv q);have bz:=qH hD;rw [hD] at o;clear hD;go_upto_region 15 with fail;go_cut [11] from 50 to 82 (fun ce wx=>∃ A' c',ce=.slice A' pl c'/\wx=wr/\Hid (pA wr (TyB wr 0) A' pl c' D))
   case first =>
    by_cases bf:p=c
    · subst bf;rw [gA rfl,SD] at o;go_wp2;go_meet;exact ⟨_,_,by first | rfl | rw [av] | simp_all,rfl,o⟩
    have bg:¬ c=p:=fun h=>bf h.symm;rw [aA bg] at o;go_wp2;go_meet;exact ⟨_,_,by first | rfl | rw [av] | simp_all,rfl,o⟩
   obtain ⟨A',c',rfl,rfl,ax⟩:=hcut;obtain ⟨nx,V⟩:=qx ((if q+1<N then a+q+2 else 0));obtain ⟨s,hs⟩:=qx (((Znc (decide (q=0)):Nat):Int));obtain ⟨x,hx⟩:=qx ((nx:Int)-1);have bh:nx<=65536:=by rw [<- V];split <;> omega
   have ap:pl<=25:=qO;have c0:Hid (G[q]?=some (blkB (decide (q=0)) D nx)):=qH (by have H:=UY cv.length true a cv q qO (by rw [ak.out,a2.out];exact C);rw [HG.out,bz.out,ak.out,a2.out,V,zD] at H;exact H)
   have bi:=qH fun wx (cf:Same wc wx)=>ZoL wx (ax.same cf) ap (decide (q=0)) nx bh;rw [hs,hx] at bi;obtain ⟨cu,ag⟩:E<wc.heap.size/\(q+1<N->wc.cell? ⟨E,q+1,none⟩=some (.int .i64 ((a:Int)+((q:Int)+1)))):=by refine ⟨(Y.lt E rfl).2,fun H=>?_⟩;obtain ⟨_,uq,e1,_,_,U,cg,_,_⟩:=EE Y.out H;rw [kU H] at U;cases U;cases e1;rw [cg];simp only [dS,Int.natCast_one]
   have cp:IntKind.i64.wrap ((q:Int)+1)=(q:Int)+1:=kF _ ⟨qO,qO⟩;obtain ⟨Nx,ay⟩:∃ Nx:World->Prop,Nx=fun wy=>∃ R,R.length=a+N/\R.take (a+(q+1))=l.map BS.rc++(G.take (q+1)).map some/\StI w B f k vs v R wy (a+N):=⟨_,rfl⟩
   have bj:Hid (∀ w5,Same wc w5->∀ A5 c5,pA w5 (TyB w5 0) A5 31 c5 (blkB (decide (q=0)) D nx)->Calls Tryz.prog 59 #[.pointer (some ⟨f,0,none⟩),.int .i64 ((a:Int)+(q:Int)),.slice A5 31 c5] w5 fun e w'=>e=.returned (.int .i64 0)/\Hid (Nx w')/\Hid (w'.ownsRow E 3 1 (.slice (some ⟨E,0,none⟩) N N) N (idsN a N N))):=qH fun w5 r A5 c5 ch=>by
    have a4:D.length<=25:=by have H:=ZG ax.out;omega
    rw [show (a:Int)+(q:Int)=((a+q:Nat):Int) by omega];refine (CT w5 (H1.same r) (tA al r.size) ch (by rw [sO a4]) (a+q) qO).mono ?_;rintro e w' ⟨rfl,y,v',a7,I,hf,U,ci⟩;have bk:TH l1 (a+q) y=l1.set (a+q) y:=by unfold TH;rw [H3.out,show a+q+1-(a+N)=0 by omega,QR,ZC]
    rw [bk] at hf;refine ⟨rfl,qH ?_,qH (L.own (H1.out) ((r.mono qe).trans U qf) Y qD qD)⟩;rw [ay];refine ⟨R.set (a+q) (some y.data),by rw [VF,M.out],?_,v',l1.set (a+q) y,ac,hf,fun z hz=>?_,by rw [VF,H3.out],by rw [eN,H4.out,VY I],?_,fO H5.size H6 (NewB.same r ci)⟩
    · have H:(R.set (a+q) (some y.data)).take (a+(q+1))=R.take (a+q)++[some y.data]:=by rw [show a+(q+1)=(a+q)+1 by omega,eD,List.take_set_of_le (lA _),FG (by rw [M.out];omega)];rfl
      rw [H,am.out,eD,c0.out,a7];simp
    · rcases iN hz with hz | rfl
      · exact H2 z hz
      exact I
    refine ((H5.out).same r).trans U fun b hb t=>?_;rcases t with t | t
    · exact .inl t
    rcases H6.out with e | ⟨g,e,cc⟩
    · exact .inr (e ▸ t)
    have:=eB (t.symm.trans e);omega
   have a4:(blkB (decide (q=0)) D nx).length=31:=sO (by have H:=ZG ax.out;omega);have O:=qH a4;have bl:Hid (∀ wy,Nx wy->∃ R,R.length=a+N/\R.take (a+(q+1))=l.map BS.rc++(G.take (q+1)).map some/\StI w B f k vs v R wy (a+N)):=qH fun wy hw=>by rw [ay] at hw;exact hw
   clear ay a4;generalize c9:wc.heap.size=bx at *;by_cases S:q=0
   all_goals
    by_cases a5:q+1<N
    all_goals
     first
      | (have c1:(q:Int)+1<(N:Int):=qO
         have T:=ag a5;have aq:x=(a:Int)+((q:Int)+1):=by rw [<- hx,<-V,gA a5];omega)
      | (have c1:¬ (q:Int)+1<(N:Int):=qO
         have T:True:=trivial;have aq:x = -1:=by rw [<- hx,<-V,aA a5];rfl)
     first
      | (have ar:s=1:=by rw [<- hs,kC S];rfl
         subst S;have S:True:=trivial
         try simp only [AE,Int.natCast_zero,Int.zero_add] at T)
      | (have cq:¬ (q:Int)=0:=qO
         have ar:s=0:=by rw [<- hs,LB S];rfl)
     have c2:=qH aq;have c3:=qH ar;have c4:=qH c9;clear aq ar hx hs V a5 S ag;go_upto_region 21 with fail;refine (fun (t:∀ wz:World,Blk wz bx 203 #[.int .i64 s,.int .i64 (pl:Int),.int .i64 x,.slice A' pl c']->Same wc wz->Code.wp Tryz.prog _ _ _ wz)=>t _ ?_ ?_) (fun wz W az=>?_)
     · have H:=jA wc 203 #[.int .i64 s,.int .i64 (pl:Int),.int .i64 x,.slice A' pl c'];rw [c4.out] at H;rw [c2.out,c3.out] at H ⊢;simpa using H
     · exact (eA _ wc).alloc _
     have q0:=W.cell 0;have q1:=W.cell 1;have q2:=W.cell 2;have q3:=W.cell 3;simp only [YC,rC,LC] at q0 q1 q2 q3;have a0:=qH az;have c6:=qH (bi.out wz az);clear W az T;go_wp2_with fail;refine c6.mono ?_;rintro e w5 ⟨v5,rfl,a8,r⟩;obtain ⟨A5,c5,rfl⟩:=WA a8;rw [O.out] at a8 ⊢;have bm:=qH (bj.out w5 (a0.trans r qf) A5 c5 (NK O a8))
     try simp only [Int.natCast_zero,Int.add_zero] at bm
     clear a8 r q0 q1 q2 q3;go_wp2_with fail;refine bm.mono ?_;rintro e w6 ⟨rfl,bs,bt⟩;go_wp2
     first
      | (go_roundg (N-(q+1))
         case measure=>omega
         case rel=>exact ⟨q+1,rfl,qO,qN,qH (bl.out w6 bs),bt⟩)
      | (go_roundg (N-(0+1))
         case measure=>omega
         case rel=>exact ⟨0+1,rfl,qO,qN,qH (bl.out w6 bs),bt⟩)
 have c7:q=N:=qO;subst c7;obtain ⟨_,uq,e1,_,_,U,aw,_,_⟩:=EE Y.out (show 0<q by omega);rw [kU (show 0<q by omega)] at U;cases U;cases e1;obtain ⟨R,F,i,d⟩:=KR.out;have bn:R=l.map BS.rc++G.map some:=by rw [cB qO,cB (by first | (have:=aj.out;omega) | (have:=aj;omega))] at i;exact i
 have c8:=qH bn;have L:=qH d;have cr:wr.cell? ⟨E,0,none⟩=some (.int .i64 (a:Int)):=by simpa using aw
 clear F i d bn KR Y aw;go_wp2
 go_ret2
 unfold StoR;rw [HE.out];exact ⟨0,a+q,rfl,by rw [<- c8.out];exact L⟩
def ApF (f1:Nat) (v1:Value) (f2:Nat) (v2:Value):Prop:=f1≠f2/\∀ g,v1.ownBlock=some g->v2.ownBlock≠some g
theorem ApF.symm {f1 f2:Nat} {v2:Value} (h:ApF f1 v1 f2 v2):ApF f2 v2 f1 v1:=⟨fun e=>h.1 e.symm,fun g a b=>h.2 g b a⟩
section
variable {w w':World} {B f1 k1 s1 z1 low1 f2 k2 s2 z2 low2:Nat} {v1 v2 v2':Value} {l1 l2:List BS}
theorem PF.apart (h1:PF w B f1 k1 s1 z1 v1 l1 low1) (h2:PF w B f2 k2 s2 z2 v2 l2 low2) (ha:ApF f1 v1 f2 v2) (hu:Upd (Foot f2 v2) w w'):PF w' B f1 k1 s1 z1 v1 l1 low1 :=
 ⟨h1.base,h1.blk.upd hu fun h=>h.elim (fun e=>ha.1 e) fun e=>h1.blk.ne_own h2.own.row qD e,
  ⟨GA h1.own.row hu fun g a h=>h.elim (fun e=>h2.blk.ne_own h1.own.row qD (e ▸ a)) fun e=>ha.2 g a e,
   fun x b=>(h1.own.each x b).foot h2.blk h2.own.row hu⟩,h1.size,h1.recs,h1.len,h1.low⟩
theorem PT.apart {t m a:Nat} {nv:Value} (h1:PT w B t f1 m k1 s1 a low1 v1 nv l1 ns) (h2:PF w B f2 k2 s2 z2 v2 l2 low2) (ha:ApF f1 v1 f2 v2) (hu:Upd (Foot f2 v2) w w'):PT w' B t f1 m k1 s1 a low1 v1 nv l1 ns :=
 ⟨h1.base,h1.blk.upd hu (h2.nofoot h1.blk qD qD),h1.file.apart h2 ha hu,GA h1.row hu (h2.nofoot_own h1.row),h1.map.upd hu (h2.nofoot_map h1.map),h1.mB,h1.len,h1.texts⟩
theorem ApF.new (ha:ApF f1 v1 f2 v2) (h1:PF w B f1 k1 s1 z1 v1 l1 low1) (hn:NewB w v2 v2'):ApF f1 v1 f2 v2' :=
 ⟨ha.1,fun g a=>by
  rcases hn with e | ⟨c,e,d⟩
  · rw [e];exact ha.2 g a
  rw [e];intro h;obtain ⟨f,b⟩:=LA h1.own.row a;have:=b.lt;cases h;omega⟩
end
structure BuP where
 t:Nat->Nat
 f:Nat->Nat
 m:Nat->Nat
 nv:Nat->Value
 v:Nat->Value
 l:Nat->List BS
 low:Nat->Nat
def kdB:Nat->Nat:=fun i=>if i<6 then i+1 else 8
def zdB:Nat->Nat:=fun i=>if i<3 then 42 else if i=3 then 17 else if i=4 then 31 else if i=5 then 20 else 32
def BuP.put (q:BuP) (j:Nat) (v:Value) (l:List BS) (low:Nat):BuP :=
 { q with v:=fun i=>if i=j then v else q.v i,l:=fun i=>if i=j then l else q.l i,low:=fun i=>if i=j then low else q.low i }
structure BuM (w:World) (B:Nat) (q:BuP) (ns:Nat->List ByteArray):Prop where
 tb:∀ i,i<3->PT w B (q.t i) (q.f i) (q.m i) (kdB i) 1 (ns i).length (q.low i) (q.v i) (q.nv i) (q.l i) (ns i)
 fl:∀ i,i<7->PF w B (q.f i) (kdB i) 1 (zdB i) (q.v i) (q.l i) (q.low i)
 ap:∀ i j,i<7->j<7->i≠j->ApF (q.f i) (q.v i) (q.f j) (q.v j)
theorem BuM.same {q:BuP} {ns:Nat->List ByteArray} (h:BuM w B q ns) (hs:Same w w'):BuM w' B q ns :=
 ⟨fun i a=>(h.tb i a).same hs,fun i a=>(h.fl i a).same hs,h.ap⟩
theorem BuM.put {q:BuP} {ns:Nat->List ByteArray} (h:BuM w B q ns) (h3:3<=j) (h7:j<7) {l':List BS} {d:Nat} (hp:PF w' B (q.f j) (kdB j) 1 (zdB j) v' l' d) (hu:Upd (Foot (q.f j) (q.v j)) w w') (hn:NewB w (q.v j) v'):
 BuM w' B (q.put j v' l' d) ns where
 tb i hi:=by have a:i≠j:=qO;simp only [BuP.put,aA a];exact (h.tb i hi).apart (h.fl j h7) (h.ap i j qO h7 a) hu
 fl i hi:=by
  by_cases a:i=j
  · subst a;simp only [BuP.put,lG];exact hp
  simp only [BuP.put,aA a];exact (h.fl i hi).apart (h.fl j h7) (h.ap i j hi h7 a) hu
 ap i i' hi hi' a:=by
  simp only [BuP.put];by_cases b:i=j
  · subst b;rw [gA rfl,aA (fun e=>a e.symm)];exact ((h.ap i' i hi' h7 (fun e=>a e.symm)).new (h.fl i' hi') hn).symm
  rw [aA b];by_cases c:i'=j
  · subst c;rw [gA rfl];exact (h.ap i i' hi h7 a).new (h.fl i hi) hn
  rw [aA c];exact h.ap i i' hi hi' a
def BuS (q:BuP) (b:Nat):Prop:=∃ j,3<=j/\j<7/\Foot (q.f j) (q.v j) b
theorem BuM.far {q:BuP} {ns:Nat->List ByteArray} (h:BuM w B q ns) {e:TypeId} (hb:Blk w g e cs) (h1:e≠171) (h2:39≠e):¬ BuS q g:=by rintro ⟨j,_,a,b⟩;exact (h.fl j a).nofoot hb h1 h2 b
theorem PF.ge {f low:Nat} {v:Value} {l:List BS} (h:PF w B f k vs z v l low) {b:Nat} (hf:Foot f v b):B<=b/\b<w.heap.size:=by
 rcases hf with e | e
 · exact e ▸ ⟨h.base,h.blk.lt⟩
 rcases h.own.row.2 with ⟨a,_⟩ | ⟨g,c,d,a,i,m,_⟩
 · rw [a] at e;simp [Value.ownBlock] at e
 obtain ⟨n,j⟩:=LA h.own.row e;rw [a] at e;simp [Value.ownBlock] at e;exact ⟨e ▸ i,j.lt⟩
theorem BuM.ge {q:BuP} {ns:Nat->List ByteArray} (h:BuM w B q ns) {b:Nat} (hb:BuS q b):B<=b/\b<w.heap.size:=by obtain ⟨j,_,a,c⟩:=hb;exact (h.fl j a).ge c
structure BuN (w:World) (q:BuP) (w':World) (q':BuP):Prop where
 f:q'.f=q.f
 t:q'.t=q.t
 nw:∀ j,NewB w (q.v j) (q'.v j)
 up:Upd (BuS q) w w'
theorem BuN.refl (w:World) (q:BuP):BuN w q w q:=⟨rfl,rfl,fun _=>.inl rfl,(iA w).mono qe⟩
abbrev tO:=@BuN.refl
theorem BuN.trans {q q1 q2:BuP} (h:BuN w q w1 q1) (k:BuN w1 q1 w2 q2):BuN w q w2 q2 :=
 ⟨k.f.trans h.f,k.t.trans h.t,fun j=>(h.nw j).trans h.up.size (k.nw j),h.up.trans k.up fun b l i=>by
  obtain ⟨j,c,d,e | e⟩:=i
  · exact ⟨j,c,d,.inl (by rw [e,h.f])⟩
  rcases h.nw j with a | ⟨g,a,m⟩
  · exact ⟨j,c,d,.inr (a ▸ e)⟩
  rw [a] at e;cases e;omega⟩
theorem BuN.same {q q1:BuP} (h:BuN w q w1 q1) (hs:Same w1 w2):BuN w q w2 q1:=⟨h.f,h.t,h.nw,h.up.same hs⟩
theorem BuN.put {q:BuP} (h3:3<=j) (h7:j<7) {l':List BS} {c:Nat} (hu:Upd (Foot (q.f j) (q.v j)) w w') (hn:NewB w (q.v j) v'):BuN w q w' (q.put j v' l' c) :=
 ⟨rfl,rfl,fun i=>by
  simp only [BuP.put];split
  · rename_i e;exact e ▸ hn
  exact .inl rfl,hu.mono fun b _ a=>⟨j,h3,h7,a⟩⟩
theorem BuN.new {q q1:BuP} (h:BuN w q w1 q1) (hu:Upd (fun k=>k=g) w1 w2) (hg:w.heap.size<=g):BuN w q w2 q1:=⟨h.f,h.t,h.nw,h.up.trans hu fun k a e=>qO⟩
structure Oth (e:TypeId):Prop where
 a:e≠171
 b:39≠e
 c:5≠e
 d:e≠167
 e:9≠e
theorem PF.turn {f low:Nat} {v:Value} {l:List BS} {e:TypeId} (h:PF w B f k vs z v l low) (hb:Blk w g e cs) (he:Oth e) (hu:Upd (fun k=>k=g) w w'):PF w' B f k vs z v l low :=
 ⟨h.base,h.blk.upd hu fun d=>hb.ne h.blk he.a d.symm,h.own.type hu (fun _ _ d=>d ▸ ⟨_,hb⟩) he.c he.b,h.size,h.recs,h.len,h.low⟩
theorem PT.turn {t f m c low:Nat} {v nv:Value} {l:List BS} {e:TypeId} (h:PT w B t f m k vs c low v nv l ns) (hb:Blk w g e cs) (he:Oth e) (hu:Upd (fun k=>k=g) w w'):PT w' B t f m k vs c low v nv l ns :=
 ⟨h.base,h.blk.upd hu fun a=>hb.ne h.blk he.d a.symm,h.file.turn hb he hu,GA h.row hu fun _ b a=>hb.ne_own h.row he.e (a ▸ b),h.map.upd hu fun a=>h.map.ne hb a,h.mB,h.len,h.texts⟩
theorem BuM.turn {q:BuP} {ns:Nat->List ByteArray} {e:TypeId} (h:BuM w B q ns) (hb:Blk w g e cs) (he:Oth e) (hu:Upd (fun k=>k=g) w w'):BuM w' B q ns :=
 ⟨fun i a=>(h.tb i a).turn hb he hu,fun i a=>(h.fl i a).turn hb he hu,h.ap⟩
structure BuA (w:World) (B:Nat) (q:BuP) (ns:Nat->List ByteArray) (j:Nat) (R:List (Option (List UInt8))) (w':World) (q':BuP):Prop where
 m:BuM w' B q' ns
 n:BuN w q w' q'
 at_:(q'.l j).map BS.rc=R
 oth:∀ i,i≠j->q'.l i=q.l i
theorem BuA.of {q:BuP} {ns:Nat->List ByteArray} (h:BuM w B q ns) (h3:3<=j) (h7:j<7) {l':List BS} {b:Nat} (hp:PF w' B (q.f j) (kdB j) 1 (zdB j) v' l' b) (hu:Upd (Foot (q.f j) (q.v j)) w w') (hn:NewB w (q.v j) v'):
 BuA w B q ns j (l'.map BS.rc) w' (q.put j v' l' b) :=
 ⟨h.put h3 h7 hp hu hn,BuN.put h3 h7 hu hn,by simp only [BuP.put,lG],fun i a=>by simp only [BuP.put,aA a]⟩
theorem lU {q:BuP} {ns:Nat->List ByteArray} {F:Nat->Prop} {n c:Nat} {d:List UInt8} (w:World) (h:BuM w B q ns) (hB:B<=w.heap.size) (h3:3<=j) (h7:j<7) (hd:pA w F A n c d) (p:d.length+1=zdB j) (id:Nat) (hid:id<65536):
 Calls Tryz.prog 59 #[.pointer (some ⟨q.f j,0,none⟩),.int .i64 (id:Int),.slice A n c] w fun e w'=>e=.returned (.int .i64 0) /\
  ∃ q',BuA w B q ns j (putAt ((q.l j).map BS.rc) id d) w' q' :=
 (CT w (h.fl j h7) hB hd p id hid).mono fun e w' ⟨a,x,o,b,g,i,k,m⟩=>⟨a,_,by have:=BuA.of h h3 h7 i k m;rw [Zud _ _ _ g,b] at this;exact this⟩
theorem Zne {q:BuP} {ns:Nat->List ByteArray} {n c:Nat} {s:List UInt8} (w:World) (h:BuM w B q ns) (hB:B<=w.heap.size) (t:∀ x∈q.l 6,x.A≠none) (hd:pA w (TyB w 0) A n c s) (hn:n<=140737488355328):
 Calls Tryz.prog 101 #[.pointer (some ⟨q.f 6,0,none⟩),.slice A n c] w fun e w'=>∃ er,e=.returned (.tuple #[.int .i64 (iF ((q.l 6).map BS.rc) s).2,.int .i64 er]) /\
  ∃ q',BuA w B q ns 6 (iF ((q.l 6).map BS.rc) s).1 w' q'/\∀ x∈q'.l 6,x.A≠none :=
 (ZoN w (h.fl 6 qD) hB t hd hn).mono fun e w' ⟨er,m,b,d⟩=>⟨er,b,by obtain ⟨p,r,a,g,i,_,j,k,hn⟩:=d.ex;refine ⟨_,j ▸ BuA.of h qD qD g k hn,fun x o=>i x ?_⟩;simpa only [BuP.put,lG] using o⟩
attribute [local go_sem] oD
def isRd (o:Oper):Bool:=match o.op with
 | .call c=>match c.callee with
   | .value _=>false
   | _=>true
 | .alloc _=>false
 | .mapUpdate ..=>false
 | .makeSlice ..=>false
 | .buildSlice ..=>false
 | .store ..=>false
 | _=>true
theorem ESt.tkR {P:Program} {md:Region.Mode} {b:Array Oper} {Q:Exit->Act->World->Prop} {S:World->Prop} {n:Nat} (i:Nat) {oi:Oper} {v:Value} {f:Nat} {listed:Array Bool} {a:Act} (hi:b[i]?=some oi) (_:isRd oi=true) (hy:YieldsIf P b S oi v a) (hS:S w)
 (h:ESt P md b Q S n f (listed.setIfInBounds i true) (a.put oi.dst v) w) (hok:Region.okE md b n=true:=by decide +kernel)
 (hf:(decide (i<n) && Region.free md b listed i && (Region.ready md b listed).contains i)=true:=by decide +kernel) (hQ:∀ c a w,Q (.panic c) (a.put oi.dst v) w->Q (.panic c) a w:=by exact fun _ _ _ h=>h):
 ESt P md b Q S n (f+1) listed a w:=ESt.take hok hi hf hQ hy hS h
abbrev wD:=@ESt.tkR
structure Bx (p:Prop):Prop where
 out:p
theorem tkY {p:Prop} (h:p:=by
 intro wx hSw
 repeat (have:=hSw.1;replace hSw:=hSw.2)
 go_simp
 try with_reducible rfl):p:=h
theorem tC {R p:Prop} (k:R) (h:Bx R->p:=by
 intro k
 repeat
  first
   | (refine wD 0 (v:=?_) rfl rfl (Or.inl ⟨by rfl,?_⟩) (by assumption) ?_;rotate_left;(exact tkY))
   | (refine wD 1 (v:=?_) rfl rfl (Or.inl ⟨by rfl,?_⟩) (by assumption) ?_;rotate_left;(exact tkY))
   | (refine wD 2 (v:=?_) rfl rfl (Or.inl ⟨by rfl,?_⟩) (by assumption) ?_;rotate_left;(exact tkY))
   | (refine wD 3 (v:=?_) rfl rfl (Or.inl ⟨by rfl,?_⟩) (by assumption) ?_;rotate_left;(exact tkY))
   | (refine wD 4 (v:=?_) rfl rfl (Or.inl ⟨by rfl,?_⟩) (by assumption) ?_;rotate_left;(exact tkY))
   | (refine wD 5 (v:=?_) rfl rfl (Or.inl ⟨by rfl,?_⟩) (by assumption) ?_;rotate_left;(exact tkY))
   | (refine wD 6 (v:=?_) rfl rfl (Or.inl ⟨by rfl,?_⟩) (by assumption) ?_;rotate_left;(exact tkY))
   | (refine wD 7 (v:=?_) rfl rfl (Or.inl ⟨by rfl,?_⟩) (by assumption) ?_;rotate_left;(exact tkY))
   | (refine wD 8 (v:=?_) rfl rfl (Or.inl ⟨by rfl,?_⟩) (by assumption) ?_;rotate_left;(exact tkY))
   | (refine wD 9 (v:=?_) rfl rfl (Or.inl ⟨by rfl,?_⟩) (by assumption) ?_;rotate_left;(exact tkY))
   | (refine wD 10 (v:=?_) rfl rfl (Or.inl ⟨by rfl,?_⟩) (by assumption) ?_;rotate_left;(exact tkY))
   | (refine wD 11 (v:=?_) rfl rfl (Or.inl ⟨by rfl,?_⟩) (by assumption) ?_;rotate_left;(exact tkY))
   | (refine wD 12 (v:=?_) rfl rfl (Or.inl ⟨by rfl,?_⟩) (by assumption) ?_;rotate_left;(exact tkY))
   | (refine wD 13 (v:=?_) rfl rfl (Or.inl ⟨by rfl,?_⟩) (by assumption) ?_;rotate_left;(exact tkY))
   | (refine wD 14 (v:=?_) rfl rfl (Or.inl ⟨by rfl,?_⟩) (by assumption) ?_;rotate_left;(exact tkY))
   | (refine wD 15 (v:=?_) rfl rfl (Or.inl ⟨by rfl,?_⟩) (by assumption) ?_;rotate_left;(exact tkY))
   | (refine wD 16 (v:=?_) rfl rfl (Or.inl ⟨by rfl,?_⟩) (by assumption) ?_;rotate_left;(exact tkY))
   | (refine wD 17 (v:=?_) rfl rfl (Or.inl ⟨by rfl,?_⟩) (by assumption) ?_;rotate_left;(exact tkY))
   | (refine wD 18 (v:=?_) rfl rfl (Or.inl ⟨by rfl,?_⟩) (by assumption) ?_;rotate_left;(exact tkY))
   | (refine wD 19 (v:=?_) rfl rfl (Or.inl ⟨by rfl,?_⟩) (by assumption) ?_;rotate_left;(exact tkY))
   | (refine wD 20 (v:=?_) rfl rfl (Or.inl ⟨by rfl,?_⟩) (by assumption) ?_;rotate_left;(exact tkY))
   | (refine wD 21 (v:=?_) rfl rfl (Or.inl ⟨by rfl,?_⟩) (by assumption) ?_;rotate_left;(exact tkY))
   | (refine wD 22 (v:=?_) rfl rfl (Or.inl ⟨by rfl,?_⟩) (by assumption) ?_;rotate_left;(exact tkY))
   | (refine wD 23 (v:=?_) rfl rfl (Or.inl ⟨by rfl,?_⟩) (by assumption) ?_;rotate_left;(exact tkY))
   | (refine wD 24 (v:=?_) rfl rfl (Or.inl ⟨by rfl,?_⟩) (by assumption) ?_;rotate_left;(exact tkY))
   | (refine wD 25 (v:=?_) rfl rfl (Or.inl ⟨by rfl,?_⟩) (by assumption) ?_;rotate_left;(exact tkY))
   | (refine wD 26 (v:=?_) rfl rfl (Or.inl ⟨by rfl,?_⟩) (by assumption) ?_;rotate_left;(exact tkY))
   | (refine wD 27 (v:=?_) rfl rfl (Or.inl ⟨by rfl,?_⟩) (by assumption) ?_;rotate_left;(exact tkY))
  simp only [Act.put,zA,qB,oB,iB,CA,JA]
 exact k.out):p:=h ⟨k⟩
end
section
open Go.RowKit
structure CW (w:World) (B c r:Nat) (v:Value) (bs:List UInt8):Prop where
 cod:Blk w c 237 #[.pointer (some ⟨r,0,none⟩),.pointer none,.bool false]
 wtr:WtrV w B r v bs
structure CWon (w:World) (B c r:Nat) (v:Value) (bs:List UInt8) (w':World):Prop where
 ex:∃ v',CW w' B c r v' bs/\(v'.ownBlock=v.ownBlock\/∃ g,v'.ownBlock=some g/\w.heap.size<=g)
 upd:Upd (fun b=>b=c\/b=r\/v.ownBlock=some b) w w'
theorem CWon.blk {c:Nat} {v:Value} {a:List UInt8} {t:TypeId} (h0:CW w B c r v a) (h:CWon w B c r v bs w') (hb:Blk w g t cs) (h1:t≠237/\t≠244/\5≠t):Blk w' g t cs :=
 hb.upd h.upd (by
  rintro (e | e | e)
  · exact hb.ne h0.cod h1.1 e
  · exact hb.ne h0.wtr.2.1 h1.2.1 e
  exact hb.ne_own h0.wtr.2.2 h1.2.2 e)
theorem CWon.trans {c:Nat} {v:Value} {m l:List UInt8} (h:CWon w B c r v m w1) (hv:v1.ownBlock=v.ownBlock\/∃ g,v1.ownBlock=some g/\w.heap.size<=g) (k:CWon w1 B c r v1 l w2):CWon w B c r v l w2:=by
 refine ⟨?_,h.upd.trans k.upd fun b j=>?_⟩
 · obtain ⟨f,i,a⟩:=k.ex;refine ⟨f,i,?_⟩;rcases a with a | ⟨g,a,d⟩
   · rw [a];exact hv
   exact .inr ⟨g,a,tA h.upd.size d⟩
 rintro (e | e | e)
 · exact .inl e
 · exact .inr (.inl e)
 rcases hv with hv | ⟨g,a,d⟩
 · exact .inr (.inr (hv ▸ e))
 rw [a] at e;cases e;omega
theorem nK {c:Nat} {v:Value} (h:CW w B c r v bs) (width:Nat) (hw:MD width=true) (hl:bs.length<=1000) {t:TypeId} {pb po:Nat} {n:Int}
 (hp:Blk w pb t cs) (V:cs[po]?=some (.int .i64 n)) (ht:t≠237/\t≠244/\5≠t) (low most:Int) (U:Nat) (W:U<=1) (X:low<=n/\n<most/\most<=65536/\0<=n+U):
 Calls Tryz.prog 169 #[.pointer (some ⟨c,0,none⟩),.int .i64 width,.pointer (some ⟨pb,po,none⟩),.int .i64 low,.int .i64 most,.int .i64 U] w fun e w'=>e=.returned (.tuple #[]) /\
  CWon w B c r v (bs++beb width (n+U).toNat) w':=by
 have k:pb≠c:=hp.ne h.cod ht.1;have H:=h.cod.c1;have I:=h.cod.c2;have L:=h.cod.frozen 2;have M:w.cell? ⟨pb,po,none⟩=some (.int .i64 n):=by rw [hp.cell];exact V
 have N:¬ n<low:=qO;have O:¬ most<=n:=qO;have l:Upd (fun b=>b=c) w (w.setCell ⟨c,2,none⟩ (.bool false)):=(eA _ w).put1 _;have s:CW (w.setCell ⟨c,2,none⟩ (.bool false)) B c r v bs:=⟨h.cod.put 2 _,h.wtr.upd l (fun e=>by have u:=h.cod.ne h.wtr.2.1 qD;exact u e.symm) fun b E e=>h.cod.ne_own h.wtr.2.2 qD (e ▸ E)⟩
 have a:=qH s;have x:=qH l;have D:=qH (hp.far (p:=⟨c,2,none⟩) k (.bool false));have m:=qH V;have P:IntKind.i64.wrap (n+(U:Int))=n+U:=kF _ ⟨qO,qO⟩;have R:IntKind.u64.wrap (n+(U:Int))=n+U:=IntWalk.u64_in _ ⟨qO,qO⟩;clear h hp V l s;go_enter Tryz.func169,Tryz.ntmps169;go_upto_region 4 with fail;generalize w.setCell ⟨c,2,none⟩ (.bool false)=o at *;have j:Same o o.drew:=(eA _ o).drew;refine eE 11 (fun q=>q.cell? ⟨c,0,none⟩=some (.pointer (some ⟨r,0,none⟩))/\q.cell? ⟨pb,po,none⟩=some (.int .i64 n)) qK ⟨(a.cod.same j).cell 0,by rw [(D.same j).cell];exact m⟩ (fun d=>?_)
 repeat
  first
   | refine EA (v:=?_) 0 rfl ?_ ?_
   | refine EA (v:=?_) 1 rfl ?_ ?_
   | refine EA (v:=?_) 2 rfl ?_ ?_
   | refine EA (v:=?_) 3 rfl ?_ ?_
   | refine EA (v:=?_) 4 rfl ?_ ?_
   | refine EA (v:=?_) 5 rfl ?_ ?_
   | refine EA (v:=?_) 6 rfl ?_ ?_
   | refine EA (v:=?_) 7 rfl ?_ ?_
   | refine EA (v:=?_) 8 rfl ?_ ?_
   | refine EA (v:=?_) 9 rfl ?_ ?_
   | refine EA (v:=?_) 10 rfl ?_ ?_
  rotate_left
  · intro q f;have S:=f.1;have u:=f.2;go_simp;try with_reducible rfl
  simp only [Act.put,zA]
 refine CI (by decide +kernel) (by decide +kernel) rfl (fun K z=>?_) _;go_simp;refine (ZS (a.wtr.same j) (width:Int) (n+U) hw qO qO).mono ?_;rintro e T ⟨rfl,A⟩;have y:=qH A;clear A;go_wp2_with fail;refine z.out _ _ ?_;clear z K d;go_wp2;go_end0;obtain ⟨F,C,i⟩:=y.ex;have u5:=(j.mono (S':=fun b=>b=r\/v.ownBlock=some b) qe).trans y.upd qf;refine ⟨rfl,⟨⟨F,⟨a.cod.upd u5 (by
  rintro (e | e)
  · exact a.cod.ne a.wtr.2.1 qD e
  exact a.cod.ne_own a.wtr.2.2 qD e),by rw [XB] at C;exact C⟩,?_⟩,?_⟩⟩
 · rcases i with i | ⟨g,i,G⟩
   · exact .inl i
   exact .inr ⟨g,i,tA x.size G⟩
 exact (x.mono (S':=fun b=>b=c\/b=r\/v.ownBlock=some b) fun _ _ h=>.inl h).trans u5 fun b _ h=>.inr h
end
end Go.Proofs.YtmkjfhnlnhceiaaGreatDoor
