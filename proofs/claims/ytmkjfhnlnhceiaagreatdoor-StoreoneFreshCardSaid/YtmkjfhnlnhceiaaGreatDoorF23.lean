/- Lemmas: walks and plain laws. -/
import Derived.Test.YtmkjfhnlnhceiaaGreatDoorF22
set_option maxRecDepth 100000
set_option maxHeartbeats 16000000
namespace Go.Proofs.YtmkjfhnlnhceiaaGreatDoor
variable {W w:World} {B t k p f vs low i:Nat} {ns:List ByteArray} {v u:Value} {cs:Array Value}
section
open Go.RowKit
structure SF where
 name:ByteArray
 data:List UInt8
 A:Option Addr
 n:Nat
 c:Nat
def SF.cells (x:SF):List Value:=[.string x.name,.slice x.A x.n x.c]
def SF.dat (x:SF):DD:=⟨x.name,x.data⟩
structure Fls (w:World) (F:Nat->Prop) (A:Option Addr) (n c:Nat) (fs:List SF):Prop where
 row:Row w F 2 A n c (fs.flatMap SF.cells)
 each:∀ x∈fs,pA w F x.A x.n x.c x.data/\x.n<=140737488355328
def PTx (w:World) (B t k:Nat) (ns:List ByteArray):Prop:=∃ f m cnt v nv l,PT w B t f m k 1 cnt 0 v nv l ns
structure StP where
 tl:Nat
 tt:Nat
 tk:Nat
 fn:Nat
 fr:Nat
 fp:Nat
 fb:Nat
 ln:List BS
 lr:List BS
 lp:List BS
 lb:List BS
 vn:Value
 vr:Value
 vp:Value
 vb:Value
structure StM (w:World) (B p:Nat) (q:StP) (s:St1):Prop where
 base:B<=p
 blk:Blk w p 69 #[.pointer (some ⟨q.tl,0,none⟩),.pointer (some ⟨q.tt,0,none⟩),.pointer (some ⟨q.tk,0,none⟩),.pointer (some ⟨q.fn,0,none⟩),.pointer (some ⟨q.fr,0,none⟩),.pointer (some ⟨q.fp,0,none⟩),.pointer (some ⟨q.fb,0,none⟩)]
 tl:PTx w B q.tl 1 s.labels
 tt:PTx w B q.tt 2 s.types
 tk:PTx w B q.tk 3 s.keys
 fn:PF w B q.fn 4 1 17 q.vn q.ln 0
 fr:PF w B q.fr 5 1 31 q.vr q.lr 0
 fp:PF w B q.fp 6 1 20 q.vp q.lp 0
 fb:PF w B q.fb 8 1 32 q.vb q.lb 0
 en:filD 4 1 17 q.ln=s.nodes
 er:filD 5 1 31 q.lr=s.rels
 ep:filD 6 1 20 q.lp=s.props
 eb:filD 8 1 32 q.lb=s.blobs
def OpnR (fs:List DD) (w:World) (e:Ending) (w':World):Prop :=
 match BF fs with
 | .error er=>e=cF er/\Same w w'
 | .ok s=>∃ p q,e=.returned (.pointer (some ⟨p,0,none⟩))/\StM w' w.heap.size p q s/\Same w w'
theorem PTx.same {W':World} (h:PTx W B t k ns) (hu:Same W W'):PTx W' B t k ns:=by obtain ⟨f,m,a,v,b,l,h⟩:=h;exact ⟨f,m,a,v,b,l,h.same hu⟩
theorem StM.same {w':World} {q:StP} {s:St1} (h:StM w B p q s) (hu:Same w w'):StM w' B p q s :=
 ⟨h.base,h.blk.same hu,h.tl.same hu,h.tt.same hu,h.tk.same hu,h.fn.same hu,h.fr.same hu,h.fp.same hu,h.fb.same hu,h.en,h.er,h.ep,h.eb⟩
def rO (d0 d1 d2 d4 d5 d6 d7:List UInt8):Except Int St1 :=
 match tabP d2 1 1 with
 | .error e=>.error e
 | .ok l=>match tabP d7 2 1 with
   | .error e=>.error e
   | .ok t=>match tabP d1 3 1 with
     | .error e=>.error e
     | .ok k=>match OE d4 4 17 with
       | .error e=>.error e
       | .ok n=>match OE d6 5 31 with
         | .error e=>.error e
         | .ok r=>match OE d5 6 20 with
           | .error e=>.error e
           | .ok p=>match OE d0 8 32 with
             | .error e=>.error e
             | .ok b=>if tH b≠0 then .error (tH b) else if 1024<n.recs.length then .error 61 else if 2048<r.recs.length then .error 62 else .ok ⟨l,t,k,n,r,p,b⟩
theorem Zup {fs:List DD} (h:fs.map DD.name=VH):BF fs=if (GC fs 3).length≠6\/(GC fs 3).take 5≠sH then .error 141 else if (GC fs 3).drop 5≠[1] then .error 8 else
 rO (GC fs 0) (GC fs 1) (GC fs 2) (GC fs 4) (GC fs 5) (GC fs 6) (GC fs 7):=by
 unfold BF;rw [aA (fun e=>e h)];congr 2;unfold rO;rcases tabP (GC fs 2) 1 1 with _ | l
 · rfl
 rcases tabP (GC fs 7) 2 1 with _ | t
 · rfl
 rcases tabP (GC fs 1) 3 1 with _ | k
 · rfl
 rcases OE (GC fs 4) 4 17 with _ | n
 · rfl
 rcases OE (GC fs 6) 5 31 with _ | r
 · rfl
 rcases OE (GC fs 5) 6 20 with _ | p
 · rfl
 rcases OE (GC fs 0) 8 32 with _ | b
 · rfl
 rfl
theorem PF.setS {z:Nat} {l:List BS} (h:PF W B f k vs z v l low) (hb:Blk W p 69 cs):PF (W.setCell ⟨p,i,none⟩ u) B f k vs z v l low :=
 h.it (U:=fun t=>t=69) ⟨qD,qD,qD,qD⟩ (m:=0) (((eA (fun b=>b=p) W).put1 u).mono fun b _ e=>by rw [e];exact dH ⟨_,hb⟩ (oA _) rfl)
theorem PTx.setS (h:PTx W B t k ns) (hb:Blk W p 69 cs):PTx (W.setCell ⟨p,i,none⟩ u) B t k ns:=by obtain ⟨f,m,c,v,d,l,h⟩:=h;have a:=(eA (fun b=>b=p) W).put1 (i:=i) u;exact ⟨f,m,c,v,d,l,h.base,h.blk.upd a (h.blk.ne hb qD),h.file.setS hb,GA h.row a fun g j e=>hb.ne_own h.row qD (e ▸ j),h.map.upd a fun e=>h.map.ne hb e,h.mB,h.len,h.texts⟩
theorem PT.lower {B' m a:Nat} {nv:Value} {l:List BS} (h:PT w B t f m k vs a low v nv l ns) (hB:B'<=B):PT w B' t f m k vs a low v nv l ns :=
 ⟨tA hB h.base,h.blk,h.file.lower hB,RA h.row hB,h.map,tA hB h.mB,h.len,h.texts⟩
theorem ZsD {F:Nat->Prop} {A:Option Addr} {n c:Nat} {fs:List SF} (w:World) (h:Fls w F A n c fs) (hl:fs.length=n) (hN:Nib w) :
 Calls Tryz.prog 31 #[.slice A n c] w (OpnR (fs.map SF.dat) w):=by
 obtain ⟨OR,ac⟩:∃ OR,OpnR (fs.map SF.dat) w=OR:=⟨_,rfl⟩
 rw [ac];have z:Hid (∀ er W,BF (fs.map SF.dat)=.error er->Same w W->OR (cF er) W):=qH fun er W h1 h2=>by rw [<- ac];unfold OpnR;rw [h1];exact ⟨rfl,h2⟩
 have c0:Hid (∀ s W p q,BF (fs.map SF.dat)=.ok s->StM W w.heap.size p q s->Same w W->OR (.returned (.pointer (some ⟨p,0,none⟩))) W):=qH fun s W p q h1 h2 h3=>by rw [<- ac];unfold OpnR;rw [h1];exact ⟨p,q,rfl,h2,h3⟩
 clear ac;by_cases h8:n=8
 case neg =>
  have hE:BF (fs.map SF.dat)=.error 140:=by unfold BF;rw [gA];intro e;have h1:=tB List.length e;simp [VH] at h1;omega
  have HE:=qH hE;have c1:¬ (n:Int)=8:=by omega
  have cf:((n:Int)==8)=false:=WC.2 c1;clear h h8 hE hl;go_enter Tryz.func31,Tryz.ntmps31;go_wp2_with fail;refine (gD w 140).mono ?_;rintro e w1 ⟨rfl,rfl⟩;exact ⟨rfl,z.out _ _ HE.out (eA _ _)⟩
 subst h8;obtain ⟨N,O,P,D,R,S,T,U,rfl⟩:∃ N O P D R S T U,fs=[N,O,P,D,R,S,T,U]:=by
  match fs,hl with
  | [N,O,P,D,R,S,T,U],_=>exact ⟨_,_,_,_,_,_,_,_,rfl⟩
 have c2:∃ b o,A=some ⟨b,o,none⟩/\b<w.heap.size/\∀ i u,([N,O,P,D,R,S,T,U].flatMap SF.cells)[i]?=some u->w.cell? ⟨b,o+i,none⟩=some u:=by
  cases hA:A with
  | none =>
    have h1:=h.row.nil hA;have h2:=h.row.le;omega
  | some a =>
    obtain ⟨h1,h2,_,h4⟩:=h.row.cell a hA;obtain ⟨b,o,s⟩:=a;simp only at h1 h2 h4;subst h1;exact ⟨b,o,rfl,h2,h4⟩
 obtain ⟨b,o,rfl,bq,hc⟩:=c2;have HF:=qH h;have HC:=qH hc;have r0:w.cell? ⟨b,o,none⟩=some (.string N.name):=hc 0 _ rfl;have cg:8<=c:=h.row.le;clear h hc hl;go_enter Tryz.func31,Tryz.ntmps31;go_wp2_with fail;refine (lD w 140).mono ?_;rintro e w1 ⟨rfl,rfl⟩;go_wp2_with fail;refine (yY w).mono ?_;rintro e w1 ⟨rfl,ag⟩;have Y:=qH ag;have hk:∀ i u,([N,O,P,D,R,S,T,U].flatMap SF.cells)[i]?=some u->w1.cell? ⟨b,o+i,none⟩=some u:=fun i u hu=>by have h1:=HC.out i u hu;exact (ag.cell (p:=⟨b,o+i,none⟩) bq (fun f=>f)).trans h1
 have M:=qH hk;clear r0 ag hk;obtain ⟨V,hV⟩:∃ V,tM=V:=⟨_,rfl⟩
 have HX:Hid (∀ (k:Nat) (s:ByteArray),VH[k]?=some s->∀ w,(Instr.index 127 V (.int .i64 k)).run Tryz.prog w=.ok (.string s) w):=qH fun k s h w=>by
  subst hV;have hk:k<8:=(IA.1 h).1
  match k,hk,h with
  | 0,_,h | 1,_,h | 2,_,h | 3,_,h | 4,_,h | 5,_,h | 6,_,h | 7,_,h=>cases h;rfl
 rw [hV];clear hV;have c4:VH.length=8:=rfl;go_wp2_with fail;go_loopg [12] 8 (fun gh cb wr=>∃ k:Nat,8-k=gh/\k<=8/\cb=.int .i64 k/\wr=w1/\Hid (∀ i,i<k->([N,O,P,D,R,S,T,U].map SF.name)[i]?=VH[i]?))
 case atStart=>exact ⟨0,rfl,oA _,rfl,rfl,qH fun i hi=>by omega⟩
 obtain ⟨k,rfl,cc,rfl,rfl,KN⟩:=hrel;by_cases b2:k<8
 · obtain ⟨fb,fo,x,hA,_,_,hx,_,br⟩:=(HF.out.row.weak.same Y.out).atF (f:=SF.cells) (fun _=>rfl) (by decide) (i:=k) b2;injection hA with hA
   injection hA with hA1 hA2
   subst hA1 hA2;obtain ⟨s,hs⟩:∃ s,VH[k]?=some s:=⟨_,FA (by omega)⟩
   have hi:=HX.out k s hs;have r0:wr.cell? ⟨b,o+k*2,none⟩=some (.string x.name):=br 0 _ rfl;have b5:([N,O,P,D,R,S,T,U].map SF.name)[k]?=some x.name:=by rw [MA,hx];rfl
   have a9:=qH (And.intro b5 hs);clear b5 hs hx br;go_upto_region 5 with fail;by_cases e0:x.name=s
   case neg =>
    have HE:Hid (BF ([N,O,P,D,R,S,T,U].map SF.dat)=.error 140):=qH (by unfold BF;rw [gA];intro e;have h4:([N,O,P,D,R,S,T,U].map SF.name)[k]?=VH[k]?:=tB (fun l=>l[k]?) e;rw [a9.1,a9.2] at h4;exact e0 (eB h4))
    have c5:(x.name.toList==s.toList)=false:=by rw [WC];exact fun h=>e0 ((IG _ _).1 h)
    go_wp2_with fail;refine (gD wr 140).mono ?_;rintro e w2 ⟨rfl,rfl⟩;exact ⟨rfl,z.out _ _ HE.out Y.out⟩
   have c5:(x.name.toList==s.toList)=true:=by rw [e0];exact WI _
   have HEq:=qH e0;clear e0;go_wp2_with fail;refine (lD wr 140).mono ?_;rintro e w2 ⟨rfl,rfl⟩;go_wp2;go_roundg (8-(k+1))
   case measure=>omega
   refine ⟨k+1,rfl,by omega,by go_num,rfl,qH fun i hi=>?_⟩;by_cases c6:i=k
   · rw [c6,a9.1,a9.2,HEq.out]
   exact KN.out i (by omega)
 obtain rfl:k=8:=by omega
 have b7:Hid (([N,O,P,D,R,S,T,U].map SF.dat).map DD.name=VH):=qH (fS fun i=>by
  by_cases hi:i<8
  · exact KN.out i hi
  rw [UI (by simp;omega),UI (by omega)])
 clear b2 cc KN HX c4;obtain ⟨w1,rfl⟩:∃ w1:World,w1=wr:=⟨_,rfl⟩
 have r:=qH (Zup b7.out);clear b7;have r7:w1.cell? ⟨b,o+7,none⟩=some (.slice D.A D.n D.c):=M.out 7 _ rfl;obtain ⟨Z,cj⟩:=HF.out.each D (by simp);have Z:=Z.same Y.out;have r:Hid (BF ([N,O,P,D,R,S,T,U].map SF.dat)=if D.data.length≠6\/D.data.take 5≠sH then .error 141 else if D.data.drop 5≠[1] then .error 8 else rO N.data O.data P.data R.data S.data T.data U.data):=r;generalize D.A=A3 at *;generalize D.n=n3 at *;generalize D.c=c3 at *;generalize D.data=d3 at *;have aa:d3.length=n3:=Z.len;by_cases h6:n3=6
 case neg =>
  have HE:=qH (r.out.trans (gA (.inl (by omega))));have ch:¬ (n3:Int)=6:=by omega
  clear r h6 aa Z;go_wp2_with fail;refine (gD w1 141).mono ?_;rintro e w2 ⟨rfl,rfl⟩;exact ⟨rfl,z.out _ _ HE.out Y.out⟩
 subst h6;obtain ⟨bm,om,rfl,_,_,ah⟩:=Z.at_ (i:=5) (by omega);have hcut:=Z.cut (j:=0) (m:=5) (by omega) (by omega);have ce:6<=c3:=Row.le Z;rw [aA (by omega),VC,GK,IF,BH,BH,TF] at hcut;have c7:=zI hcut;by_cases a5:d3.take 5=sH
 case neg =>
  have HE:=qH (r.out.trans (gA (.inr a5)));have b8:(d3.take 5==[71,83,84,82,0])=false:=WC.2 a5;clear r a5 aa;go_wp2_with fail;refine (gD w1 141).mono ?_;rintro e w2 ⟨rfl,rfl⟩;exact ⟨rfl,z.out _ _ HE.out Y.out⟩
 have b8:(d3.take 5==[71,83,84,82,0])=true:=by rw [a5];rfl
 have r:=qH (r.out.trans (aA (by rintro (h | h);exact h aa;exact h a5)));obtain ⟨x5,ai⟩:∃ x5,d3[5]'(by omega)=x5:=⟨_,rfl⟩
 rw [ai] at ah;have b9:d3.drop 5=[x5]:=by
  have h1:(d3.drop 5).length=1:=by rw [QA];omega
  rw [kE (by omega),ai,List.drop_eq_nil_of_le (by omega)]
 have a6:=qH b9;obtain ⟨v5,aj⟩:∃ v5,x5.toNat=v5:=⟨_,rfl⟩
 rw [aj] at ah;have ae:=qH aj;clear a5 ai b9 aj aa;go_wp2_with fail;refine (lD w1 141).mono ?_;rintro e w2 ⟨rfl,rfl⟩;clear b8 c7 hcut r7;by_cases h1:v5=1
 case neg =>
  have HE:Hid (BF ([N,O,P,D,R,S,T,U].map SF.dat)=.error 8):=qH (r.out.trans (gA (by rw [a6.out];intro e;have h2:=ae.out;rw [(lI e).1] at h2;exact h1 h2.symm)))
  have c8:¬ (v5:Int)=1:=by omega
  have ci:((v5:Int)==1)=false:=WC.2 c8;clear h1 r Z;go_wp2_with fail;refine (gD w1 8).mono ?_;rintro e w2 ⟨rfl,rfl⟩;exact ⟨rfl,z.out _ _ HE.out Y.out⟩
 subst h1;have r:=qH (r.out.trans (aA (by rw [a6.out];intro e;apply e;rw [show x5=1 from UInt8.toNat.inj ae.out])))
 clear a6 ae Z;go_wp2_with fail;refine (lD w1 8).mono ?_;rintro e w2 ⟨rfl,rfl⟩;clear ah;go_upto_region 11 with fail;have g:=qH (Y.out.trans ((eA (fun _=>False) w1).alloc (.cells #[.pointer none,.pointer none,.pointer none,.pointer none,.pointer none,.pointer none,.pointer none] 69)) fun _ _ f=>f);have ba:=jA w1 69 #[.pointer none,.pointer none,.pointer none,.pointer none,.pointer none,.pointer none,.pointer none];have bb:w.heap.size<=w1.heap.size:=Y.out.size;generalize w1.alloc (.cells #[.pointer none,.pointer none,.pointer none,.pointer none,.pointer none,.pointer none,.pointer none] 69)=w2 at *;generalize w1.heap.size=p at *;have E:=qH hN;have d:=qH ba;have a2:Hid (∀ W i u,Same w W->([N,O,P,D,R,S,T,U].flatMap SF.cells)[i]?=some u->W.cell? ⟨b,o+i,none⟩=some u):=qH fun W i u hs hu=>(hs.cell (p:=⟨b,o+i,none⟩) bq (fun f=>f)).trans (HC.out i u hu);have a0:=qH bb;have r:Hid (BF ([N,O,P,D,R,S,T,U].map SF.dat)=rO N.data O.data P.data R.data S.data T.data U.data):=r;unfold rO at r;clear M HC Y hN ba bb;obtain ⟨ak,al⟩:=HF.out.each P (by simp);have y:=qH (aU w2 (ak.same g.out) al (E.out.same g.out) 1 (by omega));unfold TblR at y;have rL:w2.cell? ⟨b,o+5,none⟩=some (.slice P.A P.n P.c):=a2.out _ 5 _ g.out rfl;rcases hT:tabP P.data 1 1 with er | bs
 · rw [hT] at y r;simp only at y r;clear hT ak al;go_wp2_with fail;refine y.out.mono ?_;rintro e v ⟨rfl,t⟩;exact ⟨rfl,z.out _ _ r.out (g.out.trans t fun _ _ f=>f)⟩
 rw [hT] at y r;simp only at y r;clear hT ak al;go_wp2_with fail;refine y.out.mono ?_;rintro e v ⟨tl,f_,m_,ad,v_,bt,l_,rfl,X,t⟩;have C:Hid (PTx v w.heap.size tl 1 bs):=qH ⟨_,_,_,_,_,_,X.lower g.out.size⟩;have d:=qH (d.out.same t);have g:=qH (g.out.trans t fun _ _ f=>f);have p0:v.cell? ⟨p,0,none⟩=some (.pointer none):=d.out.cell 0;have z0:v.frozen? ⟨p,0,none⟩=false:=d.out.frozen 0;clear X t y rL;go_upto_region 12 with fail;have C:=qH (C.out.setS (i:=0) (u:=.pointer (some ⟨tl,0,none⟩)) d.out);have g:Hid (Same w (v.setCell ⟨p,0,none⟩ (.pointer (some ⟨tl,0,none⟩)))):=qH (CC g.out a0.out _);have d:Hid (Blk (v.setCell ⟨p,0,none⟩ (.pointer (some ⟨tl,0,none⟩))) p 69 #[.pointer (some ⟨tl,0,none⟩),.pointer none,.pointer none,.pointer none,.pointer none,.pointer none,.pointer none]):=qH (d.out.put 0 (.pointer (some ⟨tl,0,none⟩)));generalize v.setCell ⟨p,0,none⟩ (.pointer (some ⟨tl,0,none⟩))=bj at *;clear p0 z0;obtain ⟨am,an⟩:=HF.out.each U (by simp);have y:=qH (aU bj (am.same g.out) an (E.out.same g.out) 2 (by omega));unfold TblR at y;have rY:bj.cell? ⟨b,o+15,none⟩=some (.slice U.A U.n U.c):=a2.out _ 15 _ g.out rfl;rcases hT:tabP U.data 2 1 with er | bu
 · rw [hT] at y r;simp only at y r;clear hT am an;go_wp2_with fail;refine y.out.mono ?_;rintro e v ⟨rfl,t⟩;exact ⟨rfl,z.out _ _ r.out (g.out.trans t fun _ _ f=>f)⟩
 rw [hT] at y r;simp only at y r;clear hT am an;go_wp2_with fail;refine y.out.mono ?_;rintro e v ⟨tt,f_,m_,ad,v_,bt,l_,rfl,X,t⟩;have G:Hid (PTx v w.heap.size tt 2 bu):=qH ⟨_,_,_,_,_,_,X.lower g.out.size⟩;have C:=qH (C.out.same t);have d:=qH (d.out.same t);have g:=qH (g.out.trans t fun _ _ f=>f);have p1:v.cell? ⟨p,1,none⟩=some (.pointer none):=d.out.cell 1;have z1:v.frozen? ⟨p,1,none⟩=false:=d.out.frozen 1;clear X t y rY;go_upto_region 13 with fail;have C:=qH (C.out.setS (i:=1) (u:=.pointer (some ⟨tt,0,none⟩)) d.out);have G:=qH (G.out.setS (i:=1) (u:=.pointer (some ⟨tt,0,none⟩)) d.out);have g:Hid (Same w (v.setCell ⟨p,1,none⟩ (.pointer (some ⟨tt,0,none⟩)))):=qH (CC g.out a0.out _);have d:Hid (Blk (v.setCell ⟨p,1,none⟩ (.pointer (some ⟨tt,0,none⟩))) p 69 #[.pointer (some ⟨tl,0,none⟩),.pointer (some ⟨tt,0,none⟩),.pointer none,.pointer none,.pointer none,.pointer none,.pointer none]):=qH (d.out.put 1 (.pointer (some ⟨tt,0,none⟩)));generalize v.setCell ⟨p,1,none⟩ (.pointer (some ⟨tt,0,none⟩))=bk at *;clear p1 z1;obtain ⟨ao,ap⟩:=HF.out.each O (by simp);have y:=qH (aU bk (ao.same g.out) ap (E.out.same g.out) 3 (by omega));unfold TblR at y;have rK:bk.cell? ⟨b,o+3,none⟩=some (.slice O.A O.n O.c):=a2.out _ 3 _ g.out rfl;rcases hT:tabP O.data 3 1 with er | bv
 · rw [hT] at y r;simp only at y r;clear hT ao ap;go_wp2_with fail;refine y.out.mono ?_;rintro e v ⟨rfl,t⟩;exact ⟨rfl,z.out _ _ r.out (g.out.trans t fun _ _ f=>f)⟩
 rw [hT] at y r;simp only at y r;clear hT ao ap;go_wp2_with fail;refine y.out.mono ?_;rintro e v ⟨tk,f_,m_,ad,v_,bt,l_,rfl,X,t⟩;have M:Hid (PTx v w.heap.size tk 3 bv):=qH ⟨_,_,_,_,_,_,X.lower g.out.size⟩;have C:=qH (C.out.same t);have G:=qH (G.out.same t);have d:=qH (d.out.same t);have g:=qH (g.out.trans t fun _ _ f=>f);have p2:v.cell? ⟨p,2,none⟩=some (.pointer none):=d.out.cell 2;have z2:v.frozen? ⟨p,2,none⟩=false:=d.out.frozen 2;clear X t y rK;go_upto_region 14 with fail;have C:=qH (C.out.setS (i:=2) (u:=.pointer (some ⟨tk,0,none⟩)) d.out);have G:=qH (G.out.setS (i:=2) (u:=.pointer (some ⟨tk,0,none⟩)) d.out);have M:=qH (M.out.setS (i:=2) (u:=.pointer (some ⟨tk,0,none⟩)) d.out);have g:Hid (Same w (v.setCell ⟨p,2,none⟩ (.pointer (some ⟨tk,0,none⟩)))):=qH (CC g.out a0.out _);have d:Hid (Blk (v.setCell ⟨p,2,none⟩ (.pointer (some ⟨tk,0,none⟩))) p 69 #[.pointer (some ⟨tl,0,none⟩),.pointer (some ⟨tt,0,none⟩),.pointer (some ⟨tk,0,none⟩),.pointer none,.pointer none,.pointer none,.pointer none]):=qH (d.out.put 2 (.pointer (some ⟨tk,0,none⟩)));generalize v.setCell ⟨p,2,none⟩ (.pointer (some ⟨tk,0,none⟩))=bl at *;clear p2 z2;obtain ⟨aq,ar⟩:=HF.out.each R (by simp);have y:=qH (FQ bl (aq.same g.out) ar (E.out.same g.out) 4 17 (by omega));unfold RcdR at y;have rN:bl.cell? ⟨b,o+9,none⟩=some (.slice R.A R.n R.c):=a2.out _ 9 _ g.out rfl;rcases hT:OE R.data 4 17 with er | bw
 · rw [hT] at y r;simp only at y r;clear hT aq ar;go_wp2_with fail;refine y.out.mono ?_;rintro e v ⟨rfl,t⟩;exact ⟨rfl,z.out _ _ r.out (g.out.trans t fun _ _ f=>f)⟩
 rw [hT] at y r;simp only at y r;clear hT aq ar;go_wp2_with fail;refine y.out.mono ?_;rintro e v ⟨fn,vN,lN,rfl,B,H,I,L,X,t⟩;rw [H,I,L] at B;have bc:=qH B;have HN:Hid (PF v w.heap.size fn 4 1 17 vN lN 0):=qH (X.lower g.out.size);clear B H I L;have C:=qH (C.out.same t);have G:=qH (G.out.same t);have M:=qH (M.out.same t);have d:=qH (d.out.same t);have g:=qH (g.out.trans t fun _ _ f=>f);have p3:v.cell? ⟨p,3,none⟩=some (.pointer none):=d.out.cell 3;have z3:v.frozen? ⟨p,3,none⟩=false:=d.out.frozen 3;clear X t y rN;go_upto_region 15 with fail;have C:=qH (C.out.setS (i:=3) (u:=.pointer (some ⟨fn,0,none⟩)) d.out);have G:=qH (G.out.setS (i:=3) (u:=.pointer (some ⟨fn,0,none⟩)) d.out);have M:=qH (M.out.setS (i:=3) (u:=.pointer (some ⟨fn,0,none⟩)) d.out);have HN:=qH (HN.out.setS (i:=3) (u:=.pointer (some ⟨fn,0,none⟩)) d.out);have g:Hid (Same w (v.setCell ⟨p,3,none⟩ (.pointer (some ⟨fn,0,none⟩)))):=qH (CC g.out a0.out _);have d:Hid (Blk (v.setCell ⟨p,3,none⟩ (.pointer (some ⟨fn,0,none⟩))) p 69 #[.pointer (some ⟨tl,0,none⟩),.pointer (some ⟨tt,0,none⟩),.pointer (some ⟨tk,0,none⟩),.pointer (some ⟨fn,0,none⟩),.pointer none,.pointer none,.pointer none]):=qH (d.out.put 3 (.pointer (some ⟨fn,0,none⟩)));generalize v.setCell ⟨p,3,none⟩ (.pointer (some ⟨fn,0,none⟩))=bn at *;clear p3 z3;obtain ⟨au,av⟩:=HF.out.each T (by simp);have y:=qH (FQ bn (au.same g.out) av (E.out.same g.out) 5 31 (by omega));unfold RcdR at y;have rR:bn.cell? ⟨b,o+13,none⟩=some (.slice T.A T.n T.c):=a2.out _ 13 _ g.out rfl;rcases hT:OE T.data 5 31 with er | bx
 · rw [hT] at y r;simp only at y r;clear hT au av;go_wp2_with fail;refine y.out.mono ?_;rintro e v ⟨rfl,t⟩;exact ⟨rfl,z.out _ _ r.out (g.out.trans t fun _ _ f=>f)⟩
 rw [hT] at y r;simp only at y r;clear hT au av;go_wp2_with fail;refine y.out.mono ?_;rintro e v ⟨fr,vR,lR,rfl,B,H,I,L,X,t⟩;rw [H,I,L] at B;have a6:=qH B;have HR:Hid (PF v w.heap.size fr 5 1 31 vR lR 0):=qH (X.lower g.out.size);clear B H I L;have C:=qH (C.out.same t);have G:=qH (G.out.same t);have M:=qH (M.out.same t);have HN:=qH (HN.out.same t);have d:=qH (d.out.same t);have g:=qH (g.out.trans t fun _ _ f=>f);have p4:v.cell? ⟨p,4,none⟩=some (.pointer none):=d.out.cell 4;have z4:v.frozen? ⟨p,4,none⟩=false:=d.out.frozen 4;clear X t y rR;go_upto_region 16 with fail;have C:=qH (C.out.setS (i:=4) (u:=.pointer (some ⟨fr,0,none⟩)) d.out);have G:=qH (G.out.setS (i:=4) (u:=.pointer (some ⟨fr,0,none⟩)) d.out);have M:=qH (M.out.setS (i:=4) (u:=.pointer (some ⟨fr,0,none⟩)) d.out);have HN:=qH (HN.out.setS (i:=4) (u:=.pointer (some ⟨fr,0,none⟩)) d.out);have HR:=qH (HR.out.setS (i:=4) (u:=.pointer (some ⟨fr,0,none⟩)) d.out);have g:Hid (Same w (v.setCell ⟨p,4,none⟩ (.pointer (some ⟨fr,0,none⟩)))):=qH (CC g.out a0.out _);have d:Hid (Blk (v.setCell ⟨p,4,none⟩ (.pointer (some ⟨fr,0,none⟩))) p 69 #[.pointer (some ⟨tl,0,none⟩),.pointer (some ⟨tt,0,none⟩),.pointer (some ⟨tk,0,none⟩),.pointer (some ⟨fn,0,none⟩),.pointer (some ⟨fr,0,none⟩),.pointer none,.pointer none]):=qH (d.out.put 4 (.pointer (some ⟨fr,0,none⟩)));generalize v.setCell ⟨p,4,none⟩ (.pointer (some ⟨fr,0,none⟩))=bo at *;clear p4 z4;obtain ⟨aw,ax⟩:=HF.out.each S (by simp);have y:=qH (FQ bo (aw.same g.out) ax (E.out.same g.out) 6 20 (by omega));unfold RcdR at y;have rP:bo.cell? ⟨b,o+11,none⟩=some (.slice S.A S.n S.c):=a2.out _ 11 _ g.out rfl;rcases hT:OE S.data 6 20 with er | cd
 · rw [hT] at y r;simp only at y r;clear hT aw ax;go_wp2_with fail;refine y.out.mono ?_;rintro e v ⟨rfl,t⟩;exact ⟨rfl,z.out _ _ r.out (g.out.trans t fun _ _ f=>f)⟩
 rw [hT] at y r;simp only at y r;clear hT aw ax;go_wp2_with fail;refine y.out.mono ?_;rintro e v ⟨fp,vP,lP,rfl,B,H,I,L,X,t⟩;rw [H,I,L] at B;have c9:=qH B;have HP:Hid (PF v w.heap.size fp 6 1 20 vP lP 0):=qH (X.lower g.out.size);clear B H I L;have C:=qH (C.out.same t);have G:=qH (G.out.same t);have M:=qH (M.out.same t);have HN:=qH (HN.out.same t);have HR:=qH (HR.out.same t);have d:=qH (d.out.same t);have g:=qH (g.out.trans t fun _ _ f=>f);have p5:v.cell? ⟨p,5,none⟩=some (.pointer none):=d.out.cell 5;have z5:v.frozen? ⟨p,5,none⟩=false:=d.out.frozen 5;clear X t y rP;go_upto_region 17 with fail;have C:=qH (C.out.setS (i:=5) (u:=.pointer (some ⟨fp,0,none⟩)) d.out);have G:=qH (G.out.setS (i:=5) (u:=.pointer (some ⟨fp,0,none⟩)) d.out);have M:=qH (M.out.setS (i:=5) (u:=.pointer (some ⟨fp,0,none⟩)) d.out);have HN:=qH (HN.out.setS (i:=5) (u:=.pointer (some ⟨fp,0,none⟩)) d.out);have HR:=qH (HR.out.setS (i:=5) (u:=.pointer (some ⟨fp,0,none⟩)) d.out);have HP:=qH (HP.out.setS (i:=5) (u:=.pointer (some ⟨fp,0,none⟩)) d.out);have g:Hid (Same w (v.setCell ⟨p,5,none⟩ (.pointer (some ⟨fp,0,none⟩)))):=qH (CC g.out a0.out _);have d:Hid (Blk (v.setCell ⟨p,5,none⟩ (.pointer (some ⟨fp,0,none⟩))) p 69 #[.pointer (some ⟨tl,0,none⟩),.pointer (some ⟨tt,0,none⟩),.pointer (some ⟨tk,0,none⟩),.pointer (some ⟨fn,0,none⟩),.pointer (some ⟨fr,0,none⟩),.pointer (some ⟨fp,0,none⟩),.pointer none]):=qH (d.out.put 5 (.pointer (some ⟨fp,0,none⟩)));generalize v.setCell ⟨p,5,none⟩ (.pointer (some ⟨fp,0,none⟩))=bp at *;clear p5 z5;obtain ⟨ay,az⟩:=HF.out.each N (by simp);have y:=qH (FQ bp (ay.same g.out) az (E.out.same g.out) 8 32 (by omega));unfold RcdR at y;have rB:bp.cell? ⟨b,o+1,none⟩=some (.slice N.A N.n N.c):=a2.out _ 1 _ g.out rfl;rcases hT:OE N.data 8 32 with er | bz
 · rw [hT] at y r;simp only at y r;clear hT ay az;go_wp2_with fail;refine y.out.mono ?_;rintro e v ⟨rfl,t⟩;exact ⟨rfl,z.out _ _ r.out (g.out.trans t fun _ _ f=>f)⟩
 rw [hT] at y r;simp only at y r;clear hT ay az;go_wp2_with fail;refine y.out.mono ?_;rintro e v ⟨fb,vB,lB,rfl,B,H,I,L,X,t⟩;rw [H,I,L] at B;have bd:=qH B;have HB:Hid (PF v w.heap.size fb 8 1 32 vB lB 0):=qH (X.lower g.out.size);clear B H I L;have C:=qH (C.out.same t);have G:=qH (G.out.same t);have M:=qH (M.out.same t);have HN:=qH (HN.out.same t);have HR:=qH (HR.out.same t);have HP:=qH (HP.out.same t);have d:=qH (d.out.same t);have g:=qH (g.out.trans t fun _ _ f=>f);have p6:v.cell? ⟨p,6,none⟩=some (.pointer none):=d.out.cell 6;have z6:v.frozen? ⟨p,6,none⟩=false:=d.out.frozen 6;clear X t y rB;go_upto_region 18 with fail;have C:=qH (C.out.setS (i:=6) (u:=.pointer (some ⟨fb,0,none⟩)) d.out);have G:=qH (G.out.setS (i:=6) (u:=.pointer (some ⟨fb,0,none⟩)) d.out);have M:=qH (M.out.setS (i:=6) (u:=.pointer (some ⟨fb,0,none⟩)) d.out);have HN:=qH (HN.out.setS (i:=6) (u:=.pointer (some ⟨fb,0,none⟩)) d.out);have HR:=qH (HR.out.setS (i:=6) (u:=.pointer (some ⟨fb,0,none⟩)) d.out);have HP:=qH (HP.out.setS (i:=6) (u:=.pointer (some ⟨fb,0,none⟩)) d.out);have HB:=qH (HB.out.setS (i:=6) (u:=.pointer (some ⟨fb,0,none⟩)) d.out);have g:Hid (Same w (v.setCell ⟨p,6,none⟩ (.pointer (some ⟨fb,0,none⟩)))):=qH (CC g.out a0.out _);have d:Hid (Blk (v.setCell ⟨p,6,none⟩ (.pointer (some ⟨fb,0,none⟩))) p 69 #[.pointer (some ⟨tl,0,none⟩),.pointer (some ⟨tt,0,none⟩),.pointer (some ⟨tk,0,none⟩),.pointer (some ⟨fn,0,none⟩),.pointer (some ⟨fr,0,none⟩),.pointer (some ⟨fp,0,none⟩),.pointer (some ⟨fb,0,none⟩)]):=qH (d.out.put 6 (.pointer (some ⟨fb,0,none⟩)));generalize v.setCell ⟨p,6,none⟩ (.pointer (some ⟨fb,0,none⟩))=af at *;clear p6 z6;have ab:=qH (ZoJ af HB.out);rw [bd.out] at ab;have ca:Hid (StM af w.heap.size p ⟨tl,tt,tk,fn,fr,fp,fb,lN,lR,lP,lB,vN,vR,vP,vB⟩ ⟨bs,bu,bv,bw,bx,cd,bz⟩):=qH ⟨a0.out,d.out,C.out,G.out,M.out,HN.out,HR.out,HP.out,HB.out,bc.out,a6.out,c9.out,bd.out⟩;have b6:af.cell? ⟨p,6,none⟩=some (.pointer (some ⟨fb,0,none⟩)):=d.out.cell 6;obtain ⟨ck,a3⟩:∃ ck,tH bz=ck:=⟨_,rfl⟩
 rw [a3] at ab r;clear a3;go_wp2_with fail;refine ab.out.mono ?_;rintro e v ⟨rfl,t⟩;have a1:=qH t;clear t b6;by_cases a3:ck=0
 case neg =>
  have HE:=qH (r.out.trans (gA a3));have bf:=qH a3;clear a3 r;go_wp2_with fail;refine (UH v bf.out).mono ?_;rintro e a4 ⟨rfl,rfl⟩;exact ⟨rfl,z.out _ _ HE.out (g.out.trans a1.out fun _ _ f=>f)⟩
 subst a3;have r:=qH (r.out.trans (aA (by simp)));have bg:=qH (d.out.same a1.out);have bh:=qH (TJ v (HN.out.same a1.out));have bi:=qH (TJ v (HR.out.same a1.out));have a7:bw.recs.length=lN.length:=by rw [<- bc.out];simp [filD]
 have a8:bx.recs.length=lR.length:=by rw [<- a6.out];simp [filD]
 rw [a7,a8] at r;have b3:v.cell? ⟨p,3,none⟩=some (.pointer (some ⟨fn,0,none⟩)):=bg.out.cell 3;have b4:v.cell? ⟨p,4,none⟩=some (.pointer (some ⟨fr,0,none⟩)):=bg.out.cell 4;obtain ⟨cN,b0⟩:∃ cN,lN.length=cN:=⟨_,rfl⟩
 obtain ⟨cR,b1⟩:∃ cR,lR.length=cR:=⟨_,rfl⟩
 rw [b0,b1] at r;rw [b0] at bh;rw [b1] at bi;clear a7 a8 b0 b1 ab;go_wp2_with fail;refine (zF v).mono ?_;rintro e a4 ⟨rfl,rfl⟩;go_wp2_with fail;refine bh.out.mono ?_;rintro e a4 ⟨rfl,rfl⟩;by_cases a7:1024<cN
 case pos =>
  have HE:=qH (r.out.trans (gA a7));have h1:decide ((cN:Int)<=1024)=false:=LB (by omega);clear r a7;go_wp2_with fail;refine (gD v 61).mono ?_;rintro e a4 ⟨rfl,rfl⟩;exact ⟨rfl,z.out _ _ HE.out (g.out.trans a1.out fun _ _ f=>f)⟩
 have r:=qH (r.out.trans (aA a7));have h1:(cN:Int)<=1024:=by omega
 go_wp2_with fail;refine (lD v 61).mono ?_;rintro e a4 ⟨rfl,rfl⟩;go_wp2_with fail;refine bi.out.mono ?_;rintro e a4 ⟨rfl,rfl⟩;by_cases a8:2048<cR
 case pos =>
  have HE:=qH (r.out.trans (gA a8));have h2:decide ((cR:Int)<=2048)=false:=LB (by omega);clear r a8;go_wp2_with fail;refine (gD v 62).mono ?_;rintro e a4 ⟨rfl,rfl⟩;exact ⟨rfl,z.out _ _ HE.out (g.out.trans a1.out fun _ _ f=>f)⟩
 have r:=qH (r.out.trans (aA a8));have h2:(cR:Int)<=2048:=by omega
 go_wp2_with fail;refine (lD v 62).mono ?_;rintro e a4 ⟨rfl,rfl⟩;go_wp2;refine (show OR (.returned (.pointer (some ⟨p,0,none⟩))) v from ?_);exact c0.out _ _ _ _ r.out (ca.out.same a1.out) (g.out.trans a1.out fun _ _ f=>f)
end
section
def blkB (first:Bool) (part:List UInt8) (next:Nat):List UInt8:=(if first then 1 else 0)::UInt8.ofNat part.length::(beb 4 next++(part++TB (25-part.length)))
def eC:Nat->Bool->Nat->List UInt8->List (List UInt8)
 | 0,first,_,data=>[blkB first data 0]
 | k+1,first,i,data=>if data.length<=25 then [blkB first data 0] else blkB first (data.take 25) (i+2)::eC k false (i+1) (data.drop 25)
theorem sO {first:Bool} {part:List UInt8} {next:Nat} (h:part.length<=25):(blkB first part next).length=31:=by simp only [blkB,TB,BA,kA,rA,aD];omega
section
variable {first:Bool} {part:List UInt8} {next:Nat}
theorem OQ:JB (blkB first part next)=if first then 1 else 0:=by unfold JB blkB;cases first <;> rfl
theorem RY (h:part.length<=25):VD (blkB first part next)=part.length:=by unfold VD blkB;simp only [fP,TF,GL];rw [UInt8.toNat_ofNat'];omega
theorem SY:(blkB first part next).drop 6=part++TB (25-part.length):=by unfold blkB;rw [show 6=2+4 from rfl,<-dD];exact List.drop_left' (rA _ _)
theorem PQ (h:next<4294967296):yC (blkB first part next)=if next=0 then none else some (next-1):=by
 have e:((blkB first part next).drop 2).take 4=beb 4 next:=List.take_left' (rA _ _)
 unfold yC;rw [e,LH,OI h]
theorem gU (h:part.length<=25):AF (blkB first part next)=part:=by unfold AF;rw [RY h,SY];exact List.take_left' rfl
theorem iU {f:YA} (h:part.length<=25) (hn:next<4294967296) (h0:next=0->first=true\/0<part.length) (h1:next≠0->part.length=25/\f.used (next-1)=true):IC f (blkB first part next)=true:=by
 have c:(blkB first part next).drop (6+part.length)=TB (25-part.length):=by rw [<- dD,SY];exact List.drop_left' rfl
 unfold IC;rw [OQ,RY h,c,PQ hn];simp only [kB,NC];refine ⟨by cases first <;> simp,h,by simp [TB],?_⟩;by_cases a:next=0
 · rw [gA a];rcases h0 a with b | b
   · simp [b]
   simp [b]
 rw [aA a];simp [(h1 a).1,(h1 a).2]
end
theorem TY (k:Nat) (first:Bool) (i:Nat) (a:List UInt8):0<(eC k first i a).length:=by
 cases k with
 | zero=>exact Nat.one_pos
 | succ k =>
   rw [eC];split <;> simp
theorem ZoK {f:YA}:∀ (k:Nat) (first:Bool) (i:Nat) (B:List UInt8) (C:List Nat) (n:Nat),B.length<=25+25*k->(∀ j d,(eC k first i B)[j]?=some d->f.at_ (i+j)=some d) ->
 i+(eC k first i B).length<=65536->(∀ x∈C,x<i)->(first=true↔C=[])->(first=false->0<B.length)->(eC k first i B).length<=n ->
 mD f n C i=.ok (List.range' i (eC k first i B).length)/\(List.range' i (eC k first i B).length).flatMap (fun j=>match f.at_ j with | some d=>AF d | none=>[])=B:=by
 intro k
 induction k with
 | zero =>
   intro first i B C n y b r q t u g
   have a:f.at_ i=some (blkB first B 0):=b 0 _ rfl;simp only [eC,GG] at g ⊢;obtain ⟨m,rfl⟩:∃ m,n=m+1:=⟨n-1,qO⟩
   have l:IC f (blkB first B 0)=true:=iU qO qO (fun _=>by cases first <;> simp_all) (fun h=>absurd rfl h);have o:¬ ((JB (blkB first B 0)=1)≠(C=[])\/IC f (blkB first B 0)=false):=by rw [l,OQ];simp only [AK,WF,ne_eq,uF];cases first <;> simp_all
   refine ⟨?_,?_⟩
   · rw [mD,aA (fun h=>absurd (q _ h) (JH _)),a];simp only;rw [aA o,PQ qO,gA rfl];rfl
   simp [List.range',a,gU (show B.length<=25 by omega)]
 | succ k ih =>
   intro first i B C n y b r q t u g
   by_cases c:B.length<=25
   · have e:eC (k+1) first i B=[blkB first B 0]:=by rw [eC,gA c]
     rw [e] at b g r ⊢;have a:f.at_ i=some (blkB first B 0):=b 0 _ rfl;simp only [GG] at g ⊢;obtain ⟨m,rfl⟩:∃ m,n=m+1:=⟨n-1,qO⟩
     have l:IC f (blkB first B 0)=true:=iU qO qO (fun _=>by cases first <;> simp_all) (fun h=>absurd rfl h);have o:¬ ((JB (blkB first B 0)=1)≠(C=[])\/IC f (blkB first B 0)=false):=by rw [l,OQ];simp only [AK,WF,ne_eq,uF];cases first <;> simp_all
     refine ⟨?_,?_⟩
     · rw [mD,aA (fun h=>absurd (q _ h) (JH _)),a];simp only;rw [aA o,PQ qO,gA rfl];rfl
     simp [List.range',a,gU c]
   have e:eC (k+1) first i B=blkB first (B.take 25) (i+2)::eC k false (i+1) (B.drop 25):=by rw [eC,aA c]
   rw [e] at b g r ⊢;have a:f.at_ i=some (blkB first (B.take 25) (i+2)):=b 0 _ rfl;simp only [BA] at g r ⊢;obtain ⟨m,rfl⟩:∃ m,n=m+1:=⟨n-1,qO⟩
   have s:(B.take 25).length=25:=by rw [RB];omega
   have p:=TY k false (i+1) (B.drop 25);have w:f.used (i+1)=true:=by
    obtain ⟨d,v⟩:∃ d,(eC k false (i+1) (B.drop 25))[0]?=some d:=⟨_,FA p⟩
    exact EI.2 ⟨d,b 1 d (by simpa using v)⟩
   have l:IC f (blkB first (B.take 25) (i+2))=true:=iU qO qO (fun h=>qO) (fun _=>⟨s,w⟩);have o:¬ ((JB (blkB first (B.take 25) (i+2))=1)≠(C=[])\/IC f (blkB first (B.take 25) (i+2))=false):=by rw [l,OQ];simp only [AK,WF,ne_eq,uF];cases first <;> simp_all
   obtain ⟨z,A⟩:=ih false (i+1) (B.drop 25) (i::C) m (by rw [QA];omega) (fun j d v=>by rw [show i+1+j=i+(j+1) by omega];exact b (j+1) d (by simpa using v)) qO
    (fun x hx=>by rcases TA.1 hx with rfl | hx;omega;have:=q x hx;omega) qS (fun _=>by rw [QA];omega) qO
   refine ⟨?_,?_⟩
   · rw [mD,aA (fun h=>absurd (q _ h) (JH _)),a];simp only;rw [aA o,PQ qO,aA qO];simp only;rw [show i+2-1=i+1 by omega,z];rfl
   rw [List.range'_succ,iD,a,A];simp only;rw [gU qO,tF]
end
section
open Go.RowKit
def Znc (first:Bool):Nat:=if first then 1 else 0
theorem ZoL {F:Nat->Prop} {A:Option Addr} {n c:Nat} {part:List UInt8} (w:World) (hd:pA w F A n c part) (hn:n<=25) (first:Bool) (nx:Nat) (hnx:nx<=65536) :
 Calls Tryz.prog 150 #[.agg #[.int .i64 (Znc first:Int),.int .i64 (n:Int),.int .i64 ((nx:Int)-1),.slice A n c]] w fun e w'=>∃ v,e=.returned v/\OwnB w' w.heap.size v (blkB first part nx)/\Same w w':=by
 have j:=ZG hd;obtain ⟨s,hs⟩:∃ s,Znc first=s:=⟨_,rfl⟩
 have ah:s<=1:=by rw [<- hs];unfold Znc;split <;> omega
 have B:Hid (blkB first part nx=beb 1 s++(beb 1 n++(beb 4 nx++(part++TB (25-n))))):=qH (by rw [<- hs,<-j];unfold blkB Znc;cases first <;> simp [beb])
 rw [hs];generalize blkB first part nx=R at *
 have sA:=(eA (fun _=>False) w).alloc (.cells #[.int .i64 (s:Int),.int .i64 (n:Int),.int .i64 ((nx:Int)-1),.slice A n c] 203);have a:=qH (jA w 203 #[.int .i64 (s:Int),.int .i64 (n:Int),.int .i64 ((nx:Int)-1),.slice A n c]);have C:=qH sA;have HD:=qH (hd.same sA);have a5:part.length<=25:=by omega
 have a6:=qH j;clear hd sA hs j;have k0:(0:Int)<=(s:Int)/\(s:Int)<=1:=by omega
 have k1:(0:Int)<=(n:Int)/\(n:Int)<=25:=by omega
 have k2:(0:Int)<=(nx:Int)/\(nx:Int)<=65536:=by omega
 go_enter Tryz.func150,Tryz.ntmps150;go_wp2_with fail;generalize w.alloc (.cells #[.int .i64 (s:Int),.int .i64 (n:Int),.int .i64 ((nx:Int)-1),.slice A n c] 203)=wA at *;generalize am:w.heap.size=X at *;refine (VL wA).mono ?_;rintro e w1 ⟨r,rfl,l,d⟩;obtain ⟨B1,o⟩:∃ B1,wA.heap.size=B1:=⟨_,rfl⟩
 have b:=qH o;rw [o] at l;have q0:w1.cell? ⟨X,0,none⟩=some (.int .i64 (s:Int)):=(a.out.same d).cell 0;have D:=qH l;have E:=qH d;clear l d o;go_wp2_with fail;refine (bK E.out D.out b.out 1 s (by decide) (by decide)).mono ?_;clear q0;rintro e w2 ⟨rfl,D2,Y,Z,p⟩;have G:=qH p;have H:=qH Z;have I:Hid (D2=beb 1 s):=qH (by simpa using Y);have L:Hid (D2.length=1):=qH (by rw [I.out,rA]);have q1:w2.cell? ⟨X,1,none⟩=some (.int .i64 (n:Int)):=(a.out.same p).cell 1;clear Y p Z D E;go_wp2_with fail;refine (bK G.out H.out b.out 1 n (by decide) (by rw [L.out];decide)).mono ?_;clear q1;rintro e w3 ⟨rfl,D3,q,a0,t⟩;have M:=qH t;have N:=qH a0;have a7:Hid (D3=D2++beb 1 n):=qH q;have O:Hid (D3.length=2):=qH (by rw [q,kA,rA,L.out]);have q2:w3.cell? ⟨X,2,none⟩=some (.int .i64 ((nx:Int)-1)):=(a.out.same t).cell 2;have a8:IntKind.i64.wrap ((nx:Int)-1+1)=(nx:Int):=by rw [kF _ ⟨by omega,by omega⟩];omega
 clear q t a0 H G;go_wp2_with fail;refine (bK M.out N.out b.out 4 nx (by decide) (by rw [O.out];decide)).mono ?_;clear q2 a8;rintro e w4 ⟨rfl,D4,u,g,h⟩;have a9:Hid (D4=D3++beb 4 nx):=qH u;have S:Hid (D4.length=6):=qH (by rw [u,kA,rA,O.out]);have q3:w4.cell? ⟨X,3,none⟩=some (.slice A n c):=(a.out.same h).cell 3;obtain ⟨v4,g⟩:=g.open;have HC:=qH (vQ h g b.out (HD.out.same h) (by rw [S.out];omega));clear u N M h g;go_wp2_with fail;refine HC.out.mono ?_;clear q3;rintro e w5 ⟨rfl,v5,D5,x,y,i,_,_⟩;have aa:Hid (D5=D4++part):=qH x;have T:Hid (D5.length=6+n):=qH (by rw [x,kA,S.out,a6.out]);have q3:w5.cell? ⟨X,3,none⟩=some (.slice A n c):=(a.out.same i).cell 3;have ai:=qH y;have aj:=qH i;obtain ⟨m,hm⟩:∃ m,25-n=m:=⟨_,rfl⟩
 have ak:IntKind.i64.wrap (25-(n:Int))=(m:Int):=by rw [kF _ ⟨by omega,by omega⟩];omega
 have al:(25-(n:Int))=(m:Int):=by omega
 have ab:=run_make_row' (P:=Tryz.prog) 39 5 (.int .u8 0) 1 yD uI rfl .i64 .i64 m (by omega) (by omega) w5;have U:=DT w5 (n:=m) (by unfold maxLen;omega);have k:=(eA (fun _=>False) w5).alloc (.cells (madeCells #[Value.int .u8 0] m) 5);have V:=qH (vQ (i.trans k fun _ _ f=>f) (y.same k) b.out (NK (by simp [TB]) U) (by rw [T.out];omega));rw [hm] at B;clear x y i HC U k;go_wp2_with fail;refine V.out.mono ?_;rintro e w7 ⟨rfl,v7,D7,z,a1,a2,_,_⟩;have ac:Hid (D7=R):=qH (by rw [z,aa.out,a9.out,a7.out,I.out,B.out];simp)
 have ad:Hid (D7.length=6+n+m):=qH (by rw [z,kA,T.out];simp [TB]);have W:=qH a2;have ae:=qH (dJ a1.wtr (by rw [ad.out];omega));clear z a1 a2 V ab q3;go_wp2_with fail;refine ae.out.mono ?_;rintro e w8 ⟨v8,rfl,a3,a4⟩;have af:=qH a3;have ag:=qH a4;clear a3 a4;go_wp2;go_ret;refine ⟨v8,rfl,?_,(C.out.trans W.out fun _ _ f=>f).trans ag.out fun _ _ f=>f⟩;rw [<- ac.out];exact LX af.out (by have:=C.out.size;have:=W.out.size;omega)
end
section
def FI (data:List UInt8) (j:Nat):List UInt8:=(data.drop (25*j)).take 25
theorem jU:∀ (k:Nat) (first:Bool) (i:Nat) (a:List UInt8),a.length<=25+25*k->(eC k first i a).length=max 1 ((a.length+24) / 25)
 | 0,first,i,a,h=>by simp only [eC,GG];omega
 | k+1,first,i,a,h=>by
   rw [eC];split
   · simp only [GG];omega
   rw [BA,jU k false (i+1) (a.drop 25) (by rw [QA];omega),QA];omega
theorem UY:∀ (k:Nat) (first:Bool) (i:Nat) (d:List UInt8) (j:Nat),d.length<=25+25*k->j<max 1 ((d.length+24) / 25) ->
 (eC k first i d)[j]?=some (blkB (first && decide (j=0)) (FI d j) (if j+1<max 1 ((d.length+24) / 25) then i+j+2 else 0))
 | 0,first,i,d,j,h,hj=>by have a:j=0:=qO;subst a;simp only [eC,rC,FI,Nat.mul_zero,TF];rw [cB qO,aA qO];simp
 | k+1,first,i,d,j,h,hj=>by
   rw [eC];split
   · have a:j=0:=qO;subst a;simp only [rC,FI,Nat.mul_zero,TF];rw [cB qO,aA qO];simp
   cases j with
   | zero =>
     simp only [rC,FI,Nat.mul_zero,TF];rw [gA qO];simp
   | succ j =>
     rw [LC,UY k false (i+1) (d.drop 25) j (by rw [QA];omega) (by rw [QA];omega)];rw [QA];have c:FI (d.drop 25) j=FI d (j+1):=by unfold FI;rw [dD];congr 2;omega
     rw [c];congr 2
     · simp
     by_cases b:j+1<max 1 ((d.length-25+24) / 25)
     · rw [gA b,gA qO];omega
     rw [aA b,aA qO]
def jB (l:List ByteArray) (s:ByteArray):Int:=match l.findIdx? (fun t=>decide (t=s)) with | some i=>i | none => -1
def putAt (rs:List (Option (List UInt8))) (i:Nat) (d:List UInt8):List (Option (List UInt8)):=(rs++List.replicate (i+1-rs.length) none).set i (some d)
def iF (B:List (Option (List UInt8))) (data:List UInt8):List (Option (List UInt8))×Int :=
 if 65536-B.length<(eC data.length true B.length data).length then (B,0) else (B++(eC data.length true B.length data).map some,B.length)
def xG (keys:List ByteArray) (first n:Nat):Nat->List GPr->List (Option (List UInt8))->List (Option (List UInt8))->List (Option (List UInt8))×List (Option (List UInt8))
 | _,[],P,B=>(P,B)
 | i,p::ps,P,B =>
   let b:=if 3<p.val.kind then iF B (enc p.val) else (B,-1)
   xG keys first n (i+1) ps (P++[some (FC ⟨jB keys p.key,p.val.kind,if 3<p.val.kind then 0 else p.val.num,b.2,if 0<i then (first+i-1:Nat) else -1,if i+1<n then (first+i+1:Nat) else -1⟩)]) b.1
def layP (keys:List ByteArray) (ps:List GPr) (P B:List (Option (List UInt8))):(List (Option (List UInt8))×List (Option (List UInt8)))×Int :=
 (xG keys P.length ps.length 0 ps P B,if ps=[] then -1 else (P.length:Int))
def yE:List GRel->List L1->List L1
 | [],L=>L
 | r::rs,L=>yE rs ((L++List.replicate (r.id.toNat-L.length) dC)++[⟨true,r.src,r.dst,-1,-1,-1,-1⟩])
def tD:List NA->List L1->List L1×List Int
 | [],L=>(L,[])
 | n::ns,L=>let ids:=OB L n.id;let r:=tD ns (if ids=[] then L else pC n.id (-1) ids L);(r.1,dE ids::r.2)
structure Bs1 where
 nodes:List (Option (List UInt8))
 rels:List (Option (List UInt8))
 props:List (Option (List UInt8))
 blobs:List (Option (List UInt8))
def yG (labels keys:List ByteArray):List (NA×Int)->Bs1->Bs1
 | [],s=>s
 | (n,head)::ns,s =>
   let l:=layP keys n.props s.props s.blobs
   yG labels keys ns { s with nodes:=putAt s.nodes n.id.toNat (PD ⟨head,l.2,n.labels.map (jB labels)⟩),props:=l.1.1,blobs:=l.1.2 }
def zG (types keys:List ByteArray) (L:List L1):List GRel->Bs1->Bs1
 | [],s=>s
 | r::rs,s =>
   let l:=layP keys r.props s.props s.blobs
   zG types keys L rs { s with rels:=putAt s.rels r.id.toNat (relB ⟨(L[r.id.toNat]?).getD dC,jB types r.type,l.2⟩),props:=l.1.1,blobs:=l.1.2 }
noncomputable def wH (g:WB):St1 :=
 let L:=tD g.nodes (yE g.rels [])
 let s:=zG (AB g 2) (AB g 3) L.1 g.rels (yG (AB g 1) (AB g 3) (g.nodes.zip L.2) ⟨[],[],[],[]⟩)
 ⟨AB g 1,AB g 2,AB g 3,⟨4,1,17,s.nodes⟩,⟨5,1,31,s.rels⟩,⟨6,1,20,s.props⟩,⟨8,1,32,s.blobs⟩⟩
def EF (s:St1):List DD:=List.zipWith DD.mk VH [BB s.blobs,BB (tabF 3 1 s.keys),BB (tabF 1 1 s.labels),sH++[1],BB s.nodes,BB s.props,BB s.rels,BB (tabF 2 1 s.types)]
end
end Go.Proofs.YtmkjfhnlnhceiaaGreatDoor
