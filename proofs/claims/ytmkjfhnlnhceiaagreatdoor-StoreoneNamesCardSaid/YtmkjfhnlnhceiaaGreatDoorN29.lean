/- Texts that the claim leans on: walks and plain laws, function by function. -/
import Derived.Test.YtmkjfhnlnhceiaaGreatDoorN28
set_option maxRecDepth 100000
set_option maxHeartbeats 16000000
namespace Go.Proofs.YtmkjfhnlnhceiaaGreatDoor
section
open Go.RowKit
structure SF where
 name:ByteArray
 data:List UInt8
 A:Option Addr
 n:Nat
 c:Nat
def SF.cells (x:SF):List Value:=[.string x.name,.slice x.A x.n x.c]
def SF.dat (x:SF):ZdH:=⟨x.name,x.data⟩
structure Fls (w:World) (F:Nat->Prop) (A:Option Addr) (n c:Nat) (fs:List SF):Prop where
 row:Row w F 2 A n c (fs.flatMap SF.cells)
 each:∀ x∈fs,Zag w F x.A x.n x.c x.data/\x.n<=140737488355328
def PTx (w:World) (B t k:Nat) (ns:List ByteArray):Prop:=∃ f m cnt v nv l,PT w B t f m k 1 cnt 0 v nv l ns
structure StP where
 tl:Nat
 tt:Nat
 tk:Nat
 fn:Nat
 fr:Nat
 fp:Nat
 fb:Nat
 ln:List BS
 lr:List BS
 lp:List BS
 lb:List BS
 vn:Value
 vr:Value
 vp:Value
 vb:Value
structure StM (w:World) (B p:Nat) (q:StP) (s:St1):Prop where
 base:B<=p
 blk:Blk w p 69 #[.pointer (some ⟨q.tl,0,none⟩),.pointer (some ⟨q.tt,0,none⟩),.pointer (some ⟨q.tk,0,none⟩),.pointer (some ⟨q.fn,0,none⟩),.pointer (some ⟨q.fr,0,none⟩),.pointer (some ⟨q.fp,0,none⟩),.pointer (some ⟨q.fb,0,none⟩)]
 tl:PTx w B q.tl 1 s.labels
 tt:PTx w B q.tt 2 s.types
 tk:PTx w B q.tk 3 s.keys
 fn:PF w B q.fn 4 1 17 q.vn q.ln 0
 fr:PF w B q.fr 5 1 31 q.vr q.lr 0
 fp:PF w B q.fp 6 1 20 q.vp q.lp 0
 fb:PF w B q.fb 8 1 32 q.vb q.lb 0
 en:filD 4 1 17 q.ln=s.nodes
 er:filD 5 1 31 q.lr=s.rels
 ep:filD 6 1 20 q.lp=s.props
 eb:filD 8 1 32 q.lb=s.blobs
def OpnR (fs:List ZdH) (w:World) (e:Ending) (w':World):Prop :=
 match Zfc fs with
 | .error er=>e=Zcn er/\Same w w'
 | .ok s=>∃ p q,e=.returned (.pointer (some ⟨p,0,none⟩))/\StM w' w.heap.size p q s/\Same w w'
theorem PTx.same {W W':World} {B t k:Nat} {ns:List ByteArray} (h:PTx W B t k ns) (hu:Same W W'):PTx W' B t k ns:=by obtain ⟨f,m,a,v,b,l,h⟩:=h;exact ⟨f,m,a,v,b,l,h.same hu⟩
theorem StM.same {w w':World} {B p:Nat} {q:StP} {s:St1} (h:StM w B p q s) (hu:Same w w'):StM w' B p q s :=
 ⟨h.base,h.blk.same hu,h.tl.same hu,h.tt.same hu,h.tk.same hu,h.fn.same hu,h.fr.same hu,h.fp.same hu,h.fb.same hu,h.en,h.er,h.ep,h.eb⟩
def Zmy (d0 d1 d2 d4 d5 d6 d7:List UInt8):Except Int St1 :=
 match tabP d2 1 1 with
 | .error e=>.error e
 | .ok l=>match tabP d7 2 1 with
   | .error e=>.error e
   | .ok t=>match tabP d1 3 1 with
     | .error e=>.error e
     | .ok k=>match ZdU d4 4 17 with
       | .error e=>.error e
       | .ok n=>match ZdU d6 5 31 with
         | .error e=>.error e
         | .ok r=>match ZdU d5 6 20 with
           | .error e=>.error e
           | .ok p=>match ZdU d0 8 32 with
             | .error e=>.error e
             | .ok b=>if Zet b≠0 then .error (Zet b) else if 1024<n.recs.length then .error 61 else if 2048<r.recs.length then .error 62 else .ok ⟨l,t,k,n,r,p,b⟩
theorem Ztu {fs:List ZdH} (h:fs.map ZdH.name=Zfb):Zfc fs=if (ZaU fs 3).length≠6\/(ZaU fs 3).take 5≠Zif then .error 141 else if (ZaU fs 3).drop 5≠[1] then .error 8 else
 Zmy (ZaU fs 0) (ZaU fs 1) (ZaU fs 2) (ZaU fs 4) (ZaU fs 5) (ZaU fs 6) (ZaU fs 7):=by
 unfold Zfc;rw [Yab (fun e=>e h)];congr 2;unfold Zmy;rcases tabP (ZaU fs 2) 1 1 with _ | l
 · rfl
 rcases tabP (ZaU fs 7) 2 1 with _ | t
 · rfl
 rcases tabP (ZaU fs 1) 3 1 with _ | k
 · rfl
 rcases ZdU (ZaU fs 4) 4 17 with _ | n
 · rfl
 rcases ZdU (ZaU fs 6) 5 31 with _ | r
 · rfl
 rcases ZdU (ZaU fs 5) 6 20 with _ | p
 · rfl
 rcases ZdU (ZaU fs 0) 8 32 with _ | b
 · rfl
 rfl
theorem PF.setS {W:World} {B f k vs z low p i:Nat} {v u:Value} {l:List BS} {cs:Array Value} (h:PF W B f k vs z v l low) (hb:Blk W p 69 cs):PF (W.setCell ⟨p,i,none⟩ u) B f k vs z v l low :=
 h.it (U:=fun t=>t=69) ⟨qD,qD,qD,qD⟩ (m:=0) (((Yaa (fun b=>b=p) W).put1 u).mono fun b _ e=>by rw [e];exact Ycu ⟨_,hb⟩ (Yah _) rfl)
theorem PTx.setS {W:World} {B t k p i:Nat} {u:Value} {ns:List ByteArray} {cs:Array Value} (h:PTx W B t k ns) (hb:Blk W p 69 cs):PTx (W.setCell ⟨p,i,none⟩ u) B t k ns:=by obtain ⟨f,m,c,v,d,l,h⟩:=h;have a:=(Yaa (fun b=>b=p) W).put1 (i:=i) u;exact ⟨f,m,c,v,d,l,h.base,h.blk.upd a (h.blk.ne hb qD),h.file.setS hb,Zae h.row a fun g j e=>hb.ne_own h.row qD (e ▸ j),h.map.upd a fun e=>h.map.ne hb e,h.mB,h.len,h.texts⟩
theorem PT.lower {w:World} {B B' t f m k vs cnt low:Nat} {v nv:Value} {l:List BS} {ns:List ByteArray} (h:PT w B t f m k vs cnt low v nv l ns) (hB:B'<=B):PT w B' t f m k vs cnt low v nv l ns :=
 ⟨Yaj hB h.base,h.blk,h.file.lower hB,Zac h.row hB,h.map,Yaj hB h.mB,h.len,h.texts⟩
theorem ZrN {F:Nat->Prop} {A:Option Addr} {n c:Nat} {fs:List SF} (w:World) (h:Fls w F A n c fs) (hl:fs.length=n) (hN:Nib w) :
 Calls Tryz.prog 31 #[.slice A n c] w (OpnR (fs.map SF.dat) w):=by
 obtain ⟨OR,ad⟩:∃ OR,OpnR (fs.map SF.dat) w=OR:=⟨_,rfl⟩
 rw [ad];have x:Hid (∀ er W,Zfc (fs.map SF.dat)=.error er->Same w W->OR (Zcn er) W):=qH fun er W Y h2=>by rw [<- ad];unfold OpnR;rw [Y];exact ⟨rfl,h2⟩
 have cg:Hid (∀ s W p q,Zfc (fs.map SF.dat)=.ok s->StM W w.heap.size p q s->Same w W->OR (.returned (.pointer (some ⟨p,0,none⟩))) W):=qH fun s W p q Y h2 h3=>by rw [<- ad];unfold OpnR;rw [Y];exact ⟨p,q,rfl,h2,h3⟩
 clear ad;by_cases h8:n=8
 case neg =>
  have hE:Zfc (fs.map SF.dat)=.error 140:=by unfold Zfc;rw [Yac];intro e;have Y:=YaC List.length e;simp [Zfb] at Y;omega
  have D:=qH hE;have ch:¬ (n:Int)=8:=by omega
  have cq:((n:Int)==8)=false:=Ybn.2 ch;clear h h8 hE hl;go_enter Tryz.func31,Tryz.ntmps31;go_wp2_with fail;refine (Zas w 140).mono ?_;rintro e y ⟨rfl,rfl⟩;exact ⟨rfl,x.out _ _ D.out (Yaa _ _)⟩
 subst h8;obtain ⟨H,I,L,E,M,N,O,P,rfl⟩:∃ H I L E M N O P,fs=[H,I,L,E,M,N,O,P]:=by
  match fs,hl with
  | [H,I,L,E,M,N,O,P],_=>exact ⟨_,_,_,_,_,_,_,_,rfl⟩
 have ci:∃ b o,A=some ⟨b,o,none⟩/\b<w.heap.size/\∀ i u,([H,I,L,E,M,N,O,P].flatMap SF.cells)[i]?=some u->w.cell? ⟨b,o+i,none⟩=some u:=by
  cases hA:A with
  | none =>
    have Y:=h.row.nil hA;have h2:=h.row.le;omega
  | some a =>
    obtain ⟨Y,h2,_,h4⟩:=h.row.cell a hA;obtain ⟨b,o,s⟩:=a;simp only at Y h2 h4;subst Y;exact ⟨b,o,rfl,h2,h4⟩
 obtain ⟨b,o,rfl,c8,hc⟩:=ci;have HF:=qH h;have HC:=qH hc;have r0:w.cell? ⟨b,o,none⟩=some (.string H.name):=hc 0 _ rfl;have cr:8<=c:=h.row.le;clear h hc hl;go_enter Tryz.func31,Tryz.ntmps31;go_wp2_with fail;refine (ZaP w 140).mono ?_;rintro e y ⟨rfl,rfl⟩;go_wp2_with fail;refine (Zjj w).mono ?_;rintro e y ⟨rfl,aq⟩;have z:=qH aq;have hk:∀ i u,([H,I,L,E,M,N,O,P].flatMap SF.cells)[i]?=some u->y.cell? ⟨b,o+i,none⟩=some u:=fun i u hu=>by have Y:=HC.out i u hu;exact (aq.cell (p:=⟨b,o+i,none⟩) c8 (fun f=>f)).trans Y
 have C:=qH hk;clear r0 aq hk;obtain ⟨s0,s1,s2,s3,s4,s5,s6,s7,hn⟩:∃ s0 s1 s2 s3 s4 s5 s6 s7,Zfb=[s0,s1,s2,s3,s4,s5,s6,s7]:=⟨_,_,_,_,_,_,_,_,rfl⟩
 have HV:Zhs=.agg #[.string s0,.string s1,.string s2,.string s3,.string s4,.string s5,.string s6,.string s7]:=by unfold Zhs;rw [hn];rfl
 have an:=qH hn;rw [HV];clear hn HV;have a0:Hid (∀ (i:Nat) (f:SF) (s:ByteArray),[H,I,L,E,M,N,O,P][i]?=some f->[s0,s1,s2,s3,s4,s5,s6,s7][i]?=some s->f.name≠s->Zfc ([H,I,L,E,M,N,O,P].map SF.dat)=.error 140):=qH fun i f s Y h2 h3=>by unfold Zfc;rw [Yac];intro e;have h4:([H,I,L,E,M,N,O,P].map SF.dat |>.map ZdH.name)[i]?=Zfb[i]?:=YaC (fun l=>l[i]?) e;rw [an.out,h2,Yau,Yau,Y] at h4;exact h3 (Yax h4)
 have x0:∀ w,(Instr.index 127 (.agg #[.string s0,.string s1,.string s2,.string s3,.string s4,.string s5,.string s6,.string s7]) (.int .i64 0)).run Tryz.prog w=.ok (.string s0) w:=fun w=>rfl;have x1:∀ w,(Instr.index 127 (.agg #[.string s0,.string s1,.string s2,.string s3,.string s4,.string s5,.string s6,.string s7]) (.int .i64 1)).run Tryz.prog w=.ok (.string s1) w:=fun w=>rfl;have x2:∀ w,(Instr.index 127 (.agg #[.string s0,.string s1,.string s2,.string s3,.string s4,.string s5,.string s6,.string s7]) (.int .i64 2)).run Tryz.prog w=.ok (.string s2) w:=fun w=>rfl;have x3:∀ w,(Instr.index 127 (.agg #[.string s0,.string s1,.string s2,.string s3,.string s4,.string s5,.string s6,.string s7]) (.int .i64 3)).run Tryz.prog w=.ok (.string s3) w:=fun w=>rfl;have x4:∀ w,(Instr.index 127 (.agg #[.string s0,.string s1,.string s2,.string s3,.string s4,.string s5,.string s6,.string s7]) (.int .i64 4)).run Tryz.prog w=.ok (.string s4) w:=fun w=>rfl;have x5:∀ w,(Instr.index 127 (.agg #[.string s0,.string s1,.string s2,.string s3,.string s4,.string s5,.string s6,.string s7]) (.int .i64 5)).run Tryz.prog w=.ok (.string s5) w:=fun w=>rfl;have x6:∀ w,(Instr.index 127 (.agg #[.string s0,.string s1,.string s2,.string s3,.string s4,.string s5,.string s6,.string s7]) (.int .i64 6)).run Tryz.prog w=.ok (.string s6) w:=fun w=>rfl;have x7:∀ w,(Instr.index 127 (.agg #[.string s0,.string s1,.string s2,.string s3,.string s4,.string s5,.string s6,.string s7]) (.int .i64 7)).run Tryz.prog w=.ok (.string s7) w:=fun w=>rfl;go_wp2_with fail;refine wp_loop_rounds 9 ?_;rw [YbL];have r0:y.cell? ⟨b,o,none⟩=some (.string H.name):=C.out 0 _ rfl;go_upto_region 5 with fail;by_cases e0:H.name=s0
 case neg =>
  have D:=qH (a0.out 0 H s0 rfl rfl e0);have bg:(H.name.toList==s0.toList)=false:=by rw [Ybn];exact fun h=>e0 ((Zbi _ _).1 h)
  go_wp2_with fail;refine (Zas y 140).mono ?_;rintro e T ⟨rfl,rfl⟩;exact ⟨rfl,x.out _ _ D.out z.out⟩
 have bg:(H.name.toList==s0.toList)=true:=by rw [e0];exact YdF _
 have ae:=qH e0;clear e0;go_wp2_with fail;refine (ZaP y 140).mono ?_;rintro e T ⟨rfl,rfl⟩;go_wp2_with fail;clear r0 bg x0;rw [YbL];have r1:y.cell? ⟨b,o+2,none⟩=some (.string I.name):=C.out 2 _ rfl;go_upto_region 5 with fail;by_cases e1:I.name=s1
 case neg =>
  have D:=qH (a0.out 1 I s1 rfl rfl e1);have bh:(I.name.toList==s1.toList)=false:=by rw [Ybn];exact fun h=>e1 ((Zbi _ _).1 h)
  go_wp2_with fail;refine (Zas y 140).mono ?_;rintro e T ⟨rfl,rfl⟩;exact ⟨rfl,x.out _ _ D.out z.out⟩
 have bh:(I.name.toList==s1.toList)=true:=by rw [e1];exact YdF _
 have af:=qH e1;clear e1;go_wp2_with fail;refine (ZaP y 140).mono ?_;rintro e T ⟨rfl,rfl⟩;go_wp2_with fail;clear r1 bh x1;rw [YbL];have r2:y.cell? ⟨b,o+4,none⟩=some (.string L.name):=C.out 4 _ rfl;go_upto_region 5 with fail;by_cases e2:L.name=s2
 case neg =>
  have D:=qH (a0.out 2 L s2 rfl rfl e2);have bi:(L.name.toList==s2.toList)=false:=by rw [Ybn];exact fun h=>e2 ((Zbi _ _).1 h)
  go_wp2_with fail;refine (Zas y 140).mono ?_;rintro e T ⟨rfl,rfl⟩;exact ⟨rfl,x.out _ _ D.out z.out⟩
 have bi:(L.name.toList==s2.toList)=true:=by rw [e2];exact YdF _
 have ag:=qH e2;clear e2;go_wp2_with fail;refine (ZaP y 140).mono ?_;rintro e T ⟨rfl,rfl⟩;go_wp2_with fail;clear r2 bi x2;rw [YbL];have r3:y.cell? ⟨b,o+6,none⟩=some (.string E.name):=C.out 6 _ rfl;go_upto_region 5 with fail;by_cases e3:E.name=s3
 case neg =>
  have D:=qH (a0.out 3 E s3 rfl rfl e3);have bj:(E.name.toList==s3.toList)=false:=by rw [Ybn];exact fun h=>e3 ((Zbi _ _).1 h)
  go_wp2_with fail;refine (Zas y 140).mono ?_;rintro e T ⟨rfl,rfl⟩;exact ⟨rfl,x.out _ _ D.out z.out⟩
 have bj:(E.name.toList==s3.toList)=true:=by rw [e3];exact YdF _
 have ah:=qH e3;clear e3;go_wp2_with fail;refine (ZaP y 140).mono ?_;rintro e T ⟨rfl,rfl⟩;go_wp2_with fail;clear r3 bj x3;rw [YbL];have r4:y.cell? ⟨b,o+8,none⟩=some (.string M.name):=C.out 8 _ rfl;go_upto_region 5 with fail;by_cases e4:M.name=s4
 case neg =>
  have D:=qH (a0.out 4 M s4 rfl rfl e4);have bk:(M.name.toList==s4.toList)=false:=by rw [Ybn];exact fun h=>e4 ((Zbi _ _).1 h)
  go_wp2_with fail;refine (Zas y 140).mono ?_;rintro e T ⟨rfl,rfl⟩;exact ⟨rfl,x.out _ _ D.out z.out⟩
 have bk:(M.name.toList==s4.toList)=true:=by rw [e4];exact YdF _
 have ai:=qH e4;clear e4;go_wp2_with fail;refine (ZaP y 140).mono ?_;rintro e T ⟨rfl,rfl⟩;go_wp2_with fail;clear r4 bk x4;rw [YbL];have r5:y.cell? ⟨b,o+10,none⟩=some (.string N.name):=C.out 10 _ rfl;go_upto_region 5 with fail;by_cases e5:N.name=s5
 case neg =>
  have D:=qH (a0.out 5 N s5 rfl rfl e5);have bl:(N.name.toList==s5.toList)=false:=by rw [Ybn];exact fun h=>e5 ((Zbi _ _).1 h)
  go_wp2_with fail;refine (Zas y 140).mono ?_;rintro e T ⟨rfl,rfl⟩;exact ⟨rfl,x.out _ _ D.out z.out⟩
 have bl:(N.name.toList==s5.toList)=true:=by rw [e5];exact YdF _
 have aj:=qH e5;clear e5;go_wp2_with fail;refine (ZaP y 140).mono ?_;rintro e T ⟨rfl,rfl⟩;go_wp2_with fail;clear r5 bl x5;rw [YbL];have r6:y.cell? ⟨b,o+12,none⟩=some (.string O.name):=C.out 12 _ rfl;go_upto_region 5 with fail;by_cases e6:O.name=s6
 case neg =>
  have D:=qH (a0.out 6 O s6 rfl rfl e6);have bn:(O.name.toList==s6.toList)=false:=by rw [Ybn];exact fun h=>e6 ((Zbi _ _).1 h)
  go_wp2_with fail;refine (Zas y 140).mono ?_;rintro e T ⟨rfl,rfl⟩;exact ⟨rfl,x.out _ _ D.out z.out⟩
 have bn:(O.name.toList==s6.toList)=true:=by rw [e6];exact YdF _
 have ak:=qH e6;clear e6;go_wp2_with fail;refine (ZaP y 140).mono ?_;rintro e T ⟨rfl,rfl⟩;go_wp2_with fail;clear r6 bn x6;rw [YbL];have r7:y.cell? ⟨b,o+14,none⟩=some (.string P.name):=C.out 14 _ rfl;go_upto_region 5 with fail;by_cases e7:P.name=s7
 case neg =>
  have D:=qH (a0.out 7 P s7 rfl rfl e7);have bo:(P.name.toList==s7.toList)=false:=by rw [Ybn];exact fun h=>e7 ((Zbi _ _).1 h)
  go_wp2_with fail;refine (Zas y 140).mono ?_;rintro e T ⟨rfl,rfl⟩;exact ⟨rfl,x.out _ _ D.out z.out⟩
 have bo:(P.name.toList==s7.toList)=true:=by rw [e7];exact YdF _
 have al:=qH e7;clear e7;go_wp2_with fail;refine (ZaP y 140).mono ?_;rintro e T ⟨rfl,rfl⟩;go_wp2_with fail;clear r7 bo x7;have bp:Hid (([H,I,L,E,M,N,O,P].map SF.dat).map ZdH.name=Zfb):=qH (by rw [an.out];simp only [YaF,YcG,SF.dat,ae.out,af.out,ag.out,ah.out,ai.out,aj.out,ak.out,al.out])
 have k:=qH (Ztu bp.out);clear a0 bp an ae af ag ah ai aj ak al;have r7:y.cell? ⟨b,o+7,none⟩=some (.slice E.A E.n E.c):=C.out 7 _ rfl;obtain ⟨a1,cu⟩:=HF.out.each E (by simp);have a1:=a1.same z.out;have k:Hid (Zfc ([H,I,L,E,M,N,O,P].map SF.dat)=if E.data.length≠6\/E.data.take 5≠Zif then .error 141 else if E.data.drop 5≠[1] then .error 8 else Zmy H.data I.data L.data M.data N.data O.data P.data):=k;generalize E.A=A3 at *;generalize E.n=n3 at *;generalize E.c=c3 at *;generalize E.data=d3 at *;have ab:d3.length=n3:=a1.len;rw [YbL];by_cases h6:n3=6
 case neg =>
  have D:=qH (k.out.trans (Yac (.inl (by omega))));have cs:¬ (n3:Int)=6:=by omega
  clear k h6 ab a1;go_wp2_with fail;refine (Zas y 141).mono ?_;rintro e T ⟨rfl,rfl⟩;exact ⟨rfl,x.out _ _ D.out z.out⟩
 subst h6;obtain ⟨bm,om,rfl,_,_,ar⟩:=a1.at_ (i:=5) (by omega);have hcut:=a1.cut (j:=0) (m:=5) (by omega) (by omega);have cp:6<=c3:=Row.le a1;rw [Yab (by omega),Ybw,Zfl,YbW,YcF,YcF,Ycj] at hcut;have cj:=Zcf hcut;by_cases a7:d3.take 5=Zif
 case neg =>
  have D:=qH (k.out.trans (Yac (.inr a7)));have bq:(d3.take 5==[71,83,84,82,0])=false:=Ybn.2 a7;clear k a7 ab;go_wp2_with fail;refine (Zas y 141).mono ?_;rintro e T ⟨rfl,rfl⟩;exact ⟨rfl,x.out _ _ D.out z.out⟩
 have bq:(d3.take 5==[71,83,84,82,0])=true:=by rw [a7];rfl
 have k:=qH (k.out.trans (Yab (by rintro (h | h);exact h ab;exact h a7)));obtain ⟨x5,au⟩:∃ x5,d3[5]'(by omega)=x5:=⟨_,rfl⟩
 rw [au] at ar;have br:d3.drop 5=[x5]:=by
  have Y:(d3.drop 5).length=1:=by rw [Yas];omega
  rw [YbF (by omega),au,List.drop_eq_nil_of_le (by omega)]
 have a8:=qH br;obtain ⟨v5,av⟩:∃ v5,x5.toNat=v5:=⟨_,rfl⟩
 rw [av] at ar;have ao:=qH av;clear a7 au br av ab;go_wp2_with fail;refine (ZaP y 141).mono ?_;rintro e T ⟨rfl,rfl⟩;clear bq cj hcut r7;by_cases Y:v5=1
 case neg =>
  have D:Hid (Zfc ([H,I,L,E,M,N,O,P].map SF.dat)=.error 8):=qH (k.out.trans (Yac (by rw [a8.out];intro e;have h2:=ao.out;rw [(YcY e).1] at h2;exact Y h2.symm)))
  have cl:¬ (v5:Int)=1:=by omega
  have ct:((v5:Int)==1)=false:=Ybn.2 cl;clear Y k a1;go_wp2_with fail;refine (Zas y 8).mono ?_;rintro e T ⟨rfl,rfl⟩;exact ⟨rfl,x.out _ _ D.out z.out⟩
 subst Y;have k:=qH (k.out.trans (Yab (by rw [a8.out];intro e;apply e;rw [show x5=1 from UInt8.toNat.inj ao.out])))
 clear a8 ao a1;go_wp2_with fail;refine (ZaP y 8).mono ?_;rintro e T ⟨rfl,rfl⟩;clear ar;go_upto_region 11 with fail;have g:=qH (z.out.trans ((Yaa (fun _=>False) y).alloc (.cells #[.pointer none,.pointer none,.pointer none,.pointer none,.pointer none,.pointer none,.pointer none] 69)) fun _ _ f=>f);have bs:=Yad y 69 #[.pointer none,.pointer none,.pointer none,.pointer none,.pointer none,.pointer none,.pointer none];have bt:w.heap.size<=y.heap.size:=z.out.size;generalize y.alloc (.cells #[.pointer none,.pointer none,.pointer none,.pointer none,.pointer none,.pointer none,.pointer none] 69)=T at *;generalize y.heap.size=p at *;have R:=qH hN;have d:=qH bs;have a4:Hid (∀ W i u,Same w W->([H,I,L,E,M,N,O,P].flatMap SF.cells)[i]?=some u->W.cell? ⟨b,o+i,none⟩=some u):=qH fun W i u hs hu=>(hs.cell (p:=⟨b,o+i,none⟩) c8 (fun f=>f)).trans (HC.out i u hu);have a2:=qH bt;have k:Hid (Zfc ([H,I,L,E,M,N,O,P].map SF.dat)=Zmy H.data I.data L.data M.data N.data O.data P.data):=k;unfold Zmy at k;clear C HC z hN bs bt;obtain ⟨aw,ax⟩:=HF.out.each L (by simp);have v:=qH (Zhr T (aw.same g.out) ax (R.out.same g.out) 1 (by omega));unfold TblR at v;have rL:T.cell? ⟨b,o+5,none⟩=some (.slice L.A L.n L.c):=a4.out _ 5 _ g.out rfl;rcases hT:tabP L.data 1 1 with er | c9
 · rw [hT] at v k;simp only at v k;clear hT aw ax;go_wp2_with fail;refine v.out.mono ?_;rintro e t ⟨rfl,r⟩;exact ⟨rfl,x.out _ _ k.out (g.out.trans r fun _ _ f=>f)⟩
 rw [hT] at v k;simp only at v k;clear hT aw ax;go_wp2_with fail;refine v.out.mono ?_;rintro e t ⟨tl,f_,m_,am,v_,ca,l_,rfl,Z,r⟩;have G:Hid (PTx t w.heap.size tl 1 c9):=qH ⟨_,_,_,_,_,_,Z.lower g.out.size⟩;have d:=qH (d.out.same r);have g:=qH (g.out.trans r fun _ _ f=>f);have p0:t.cell? ⟨p,0,none⟩=some (.pointer none):=d.out.cell 0;have z0:t.frozen? ⟨p,0,none⟩=false:=d.out.frozen 0;clear Z r v rL;go_upto_region 12 with fail;have G:=qH (G.out.setS (i:=0) (u:=.pointer (some ⟨tl,0,none⟩)) d.out);have g:Hid (Same w (t.setCell ⟨p,0,none⟩ (.pointer (some ⟨tl,0,none⟩)))):=qH (YaY g.out a2.out _);have d:Hid (Blk (t.setCell ⟨p,0,none⟩ (.pointer (some ⟨tl,0,none⟩))) p 69 #[.pointer (some ⟨tl,0,none⟩),.pointer none,.pointer none,.pointer none,.pointer none,.pointer none,.pointer none]):=qH (d.out.put 0 (.pointer (some ⟨tl,0,none⟩)));generalize t.setCell ⟨p,0,none⟩ (.pointer (some ⟨tl,0,none⟩))=c1 at *;clear p0 z0;obtain ⟨ay,az⟩:=HF.out.each P (by simp);have v:=qH (Zhr c1 (ay.same g.out) az (R.out.same g.out) 2 (by omega));unfold TblR at v;have rY:c1.cell? ⟨b,o+15,none⟩=some (.slice P.A P.n P.c):=a4.out _ 15 _ g.out rfl;rcases hT:tabP P.data 2 1 with er | cb
 · rw [hT] at v k;simp only at v k;clear hT ay az;go_wp2_with fail;refine v.out.mono ?_;rintro e t ⟨rfl,r⟩;exact ⟨rfl,x.out _ _ k.out (g.out.trans r fun _ _ f=>f)⟩
 rw [hT] at v k;simp only at v k;clear hT ay az;go_wp2_with fail;refine v.out.mono ?_;rintro e t ⟨tt,f_,m_,am,v_,ca,l_,rfl,Z,r⟩;have S:Hid (PTx t w.heap.size tt 2 cb):=qH ⟨_,_,_,_,_,_,Z.lower g.out.size⟩;have G:=qH (G.out.same r);have d:=qH (d.out.same r);have g:=qH (g.out.trans r fun _ _ f=>f);have p1:t.cell? ⟨p,1,none⟩=some (.pointer none):=d.out.cell 1;have z1:t.frozen? ⟨p,1,none⟩=false:=d.out.frozen 1;clear Z r v rY;go_upto_region 13 with fail;have G:=qH (G.out.setS (i:=1) (u:=.pointer (some ⟨tt,0,none⟩)) d.out);have S:=qH (S.out.setS (i:=1) (u:=.pointer (some ⟨tt,0,none⟩)) d.out);have g:Hid (Same w (t.setCell ⟨p,1,none⟩ (.pointer (some ⟨tt,0,none⟩)))):=qH (YaY g.out a2.out _);have d:Hid (Blk (t.setCell ⟨p,1,none⟩ (.pointer (some ⟨tt,0,none⟩))) p 69 #[.pointer (some ⟨tl,0,none⟩),.pointer (some ⟨tt,0,none⟩),.pointer none,.pointer none,.pointer none,.pointer none,.pointer none]):=qH (d.out.put 1 (.pointer (some ⟨tt,0,none⟩)));generalize t.setCell ⟨p,1,none⟩ (.pointer (some ⟨tt,0,none⟩))=c2 at *;clear p1 z1;obtain ⟨b0,b1⟩:=HF.out.each I (by simp);have v:=qH (Zhr c2 (b0.same g.out) b1 (R.out.same g.out) 3 (by omega));unfold TblR at v;have rK:c2.cell? ⟨b,o+3,none⟩=some (.slice I.A I.n I.c):=a4.out _ 3 _ g.out rfl;rcases hT:tabP I.data 3 1 with er | cc
 · rw [hT] at v k;simp only at v k;clear hT b0 b1;go_wp2_with fail;refine v.out.mono ?_;rintro e t ⟨rfl,r⟩;exact ⟨rfl,x.out _ _ k.out (g.out.trans r fun _ _ f=>f)⟩
 rw [hT] at v k;simp only at v k;clear hT b0 b1;go_wp2_with fail;refine v.out.mono ?_;rintro e t ⟨tk,f_,m_,am,v_,ca,l_,rfl,Z,r⟩;have C:Hid (PTx t w.heap.size tk 3 cc):=qH ⟨_,_,_,_,_,_,Z.lower g.out.size⟩;have G:=qH (G.out.same r);have S:=qH (S.out.same r);have d:=qH (d.out.same r);have g:=qH (g.out.trans r fun _ _ f=>f);have p2:t.cell? ⟨p,2,none⟩=some (.pointer none):=d.out.cell 2;have z2:t.frozen? ⟨p,2,none⟩=false:=d.out.frozen 2;clear Z r v rK;go_upto_region 14 with fail;have G:=qH (G.out.setS (i:=2) (u:=.pointer (some ⟨tk,0,none⟩)) d.out);have S:=qH (S.out.setS (i:=2) (u:=.pointer (some ⟨tk,0,none⟩)) d.out);have C:=qH (C.out.setS (i:=2) (u:=.pointer (some ⟨tk,0,none⟩)) d.out);have g:Hid (Same w (t.setCell ⟨p,2,none⟩ (.pointer (some ⟨tk,0,none⟩)))):=qH (YaY g.out a2.out _);have d:Hid (Blk (t.setCell ⟨p,2,none⟩ (.pointer (some ⟨tk,0,none⟩))) p 69 #[.pointer (some ⟨tl,0,none⟩),.pointer (some ⟨tt,0,none⟩),.pointer (some ⟨tk,0,none⟩),.pointer none,.pointer none,.pointer none,.pointer none]):=qH (d.out.put 2 (.pointer (some ⟨tk,0,none⟩)));generalize t.setCell ⟨p,2,none⟩ (.pointer (some ⟨tk,0,none⟩))=c4 at *;clear p2 z2;obtain ⟨b2,b5⟩:=HF.out.each M (by simp);have v:=qH (ZdB c4 (b2.same g.out) b5 (R.out.same g.out) 4 17 (by omega));unfold RcdR at v;have rN:c4.cell? ⟨b,o+9,none⟩=some (.slice M.A M.n M.c):=a4.out _ 9 _ g.out rfl;rcases hT:ZdU M.data 4 17 with er | cd
 · rw [hT] at v k;simp only at v k;clear hT b2 b5;go_wp2_with fail;refine v.out.mono ?_;rintro e t ⟨rfl,r⟩;exact ⟨rfl,x.out _ _ k.out (g.out.trans r fun _ _ f=>f)⟩
 rw [hT] at v k;simp only at v k;clear hT b2 b5;go_wp2_with fail;refine v.out.mono ?_;rintro e t ⟨fn,vN,lN,rfl,B,U,V,X,Z,r⟩;rw [U,V,X] at B;have bu:=qH B;have HN:Hid (PF t w.heap.size fn 4 1 17 vN lN 0):=qH (Z.lower g.out.size);clear B U V X;have G:=qH (G.out.same r);have S:=qH (S.out.same r);have C:=qH (C.out.same r);have d:=qH (d.out.same r);have g:=qH (g.out.trans r fun _ _ f=>f);have p3:t.cell? ⟨p,3,none⟩=some (.pointer none):=d.out.cell 3;have z3:t.frozen? ⟨p,3,none⟩=false:=d.out.frozen 3;clear Z r v rN;go_upto_region 15 with fail;have G:=qH (G.out.setS (i:=3) (u:=.pointer (some ⟨fn,0,none⟩)) d.out);have S:=qH (S.out.setS (i:=3) (u:=.pointer (some ⟨fn,0,none⟩)) d.out);have C:=qH (C.out.setS (i:=3) (u:=.pointer (some ⟨fn,0,none⟩)) d.out);have HN:=qH (HN.out.setS (i:=3) (u:=.pointer (some ⟨fn,0,none⟩)) d.out);have g:Hid (Same w (t.setCell ⟨p,3,none⟩ (.pointer (some ⟨fn,0,none⟩)))):=qH (YaY g.out a2.out _);have d:Hid (Blk (t.setCell ⟨p,3,none⟩ (.pointer (some ⟨fn,0,none⟩))) p 69 #[.pointer (some ⟨tl,0,none⟩),.pointer (some ⟨tt,0,none⟩),.pointer (some ⟨tk,0,none⟩),.pointer (some ⟨fn,0,none⟩),.pointer none,.pointer none,.pointer none]):=qH (d.out.put 3 (.pointer (some ⟨fn,0,none⟩)));generalize t.setCell ⟨p,3,none⟩ (.pointer (some ⟨fn,0,none⟩))=c5 at *;clear p3 z3;obtain ⟨b7,b8⟩:=HF.out.each O (by simp);have v:=qH (ZdB c5 (b7.same g.out) b8 (R.out.same g.out) 5 31 (by omega));unfold RcdR at v;have rR:c5.cell? ⟨b,o+13,none⟩=some (.slice O.A O.n O.c):=a4.out _ 13 _ g.out rfl;rcases hT:ZdU O.data 5 31 with er | ce
 · rw [hT] at v k;simp only at v k;clear hT b7 b8;go_wp2_with fail;refine v.out.mono ?_;rintro e t ⟨rfl,r⟩;exact ⟨rfl,x.out _ _ k.out (g.out.trans r fun _ _ f=>f)⟩
 rw [hT] at v k;simp only at v k;clear hT b7 b8;go_wp2_with fail;refine v.out.mono ?_;rintro e t ⟨fr,vR,lR,rfl,B,U,V,X,Z,r⟩;rw [U,V,X] at B;have a8:=qH B;have HR:Hid (PF t w.heap.size fr 5 1 31 vR lR 0):=qH (Z.lower g.out.size);clear B U V X;have G:=qH (G.out.same r);have S:=qH (S.out.same r);have C:=qH (C.out.same r);have HN:=qH (HN.out.same r);have d:=qH (d.out.same r);have g:=qH (g.out.trans r fun _ _ f=>f);have p4:t.cell? ⟨p,4,none⟩=some (.pointer none):=d.out.cell 4;have z4:t.frozen? ⟨p,4,none⟩=false:=d.out.frozen 4;clear Z r v rR;go_upto_region 16 with fail;have G:=qH (G.out.setS (i:=4) (u:=.pointer (some ⟨fr,0,none⟩)) d.out);have S:=qH (S.out.setS (i:=4) (u:=.pointer (some ⟨fr,0,none⟩)) d.out);have C:=qH (C.out.setS (i:=4) (u:=.pointer (some ⟨fr,0,none⟩)) d.out);have HN:=qH (HN.out.setS (i:=4) (u:=.pointer (some ⟨fr,0,none⟩)) d.out);have HR:=qH (HR.out.setS (i:=4) (u:=.pointer (some ⟨fr,0,none⟩)) d.out);have g:Hid (Same w (t.setCell ⟨p,4,none⟩ (.pointer (some ⟨fr,0,none⟩)))):=qH (YaY g.out a2.out _);have d:Hid (Blk (t.setCell ⟨p,4,none⟩ (.pointer (some ⟨fr,0,none⟩))) p 69 #[.pointer (some ⟨tl,0,none⟩),.pointer (some ⟨tt,0,none⟩),.pointer (some ⟨tk,0,none⟩),.pointer (some ⟨fn,0,none⟩),.pointer (some ⟨fr,0,none⟩),.pointer none,.pointer none]):=qH (d.out.put 4 (.pointer (some ⟨fr,0,none⟩)));generalize t.setCell ⟨p,4,none⟩ (.pointer (some ⟨fr,0,none⟩))=c6 at *;clear p4 z4;obtain ⟨b9,ba⟩:=HF.out.each N (by simp);have v:=qH (ZdB c6 (b9.same g.out) ba (R.out.same g.out) 6 20 (by omega));unfold RcdR at v;have rP:c6.cell? ⟨b,o+11,none⟩=some (.slice N.A N.n N.c):=a4.out _ 11 _ g.out rfl;rcases hT:ZdU N.data 6 20 with er | co
 · rw [hT] at v k;simp only at v k;clear hT b9 ba;go_wp2_with fail;refine v.out.mono ?_;rintro e t ⟨rfl,r⟩;exact ⟨rfl,x.out _ _ k.out (g.out.trans r fun _ _ f=>f)⟩
 rw [hT] at v k;simp only at v k;clear hT b9 ba;go_wp2_with fail;refine v.out.mono ?_;rintro e t ⟨fp,vP,lP,rfl,B,U,V,X,Z,r⟩;rw [U,V,X] at B;have cm:=qH B;have HP:Hid (PF t w.heap.size fp 6 1 20 vP lP 0):=qH (Z.lower g.out.size);clear B U V X;have G:=qH (G.out.same r);have S:=qH (S.out.same r);have C:=qH (C.out.same r);have HN:=qH (HN.out.same r);have HR:=qH (HR.out.same r);have d:=qH (d.out.same r);have g:=qH (g.out.trans r fun _ _ f=>f);have p5:t.cell? ⟨p,5,none⟩=some (.pointer none):=d.out.cell 5;have z5:t.frozen? ⟨p,5,none⟩=false:=d.out.frozen 5;clear Z r v rP;go_upto_region 17 with fail;have G:=qH (G.out.setS (i:=5) (u:=.pointer (some ⟨fp,0,none⟩)) d.out);have S:=qH (S.out.setS (i:=5) (u:=.pointer (some ⟨fp,0,none⟩)) d.out);have C:=qH (C.out.setS (i:=5) (u:=.pointer (some ⟨fp,0,none⟩)) d.out);have HN:=qH (HN.out.setS (i:=5) (u:=.pointer (some ⟨fp,0,none⟩)) d.out);have HR:=qH (HR.out.setS (i:=5) (u:=.pointer (some ⟨fp,0,none⟩)) d.out);have HP:=qH (HP.out.setS (i:=5) (u:=.pointer (some ⟨fp,0,none⟩)) d.out);have g:Hid (Same w (t.setCell ⟨p,5,none⟩ (.pointer (some ⟨fp,0,none⟩)))):=qH (YaY g.out a2.out _);have d:Hid (Blk (t.setCell ⟨p,5,none⟩ (.pointer (some ⟨fp,0,none⟩))) p 69 #[.pointer (some ⟨tl,0,none⟩),.pointer (some ⟨tt,0,none⟩),.pointer (some ⟨tk,0,none⟩),.pointer (some ⟨fn,0,none⟩),.pointer (some ⟨fr,0,none⟩),.pointer (some ⟨fp,0,none⟩),.pointer none]):=qH (d.out.put 5 (.pointer (some ⟨fp,0,none⟩)));generalize t.setCell ⟨p,5,none⟩ (.pointer (some ⟨fp,0,none⟩))=c7 at *;clear p5 z5;obtain ⟨bb,bc⟩:=HF.out.each H (by simp);have v:=qH (ZdB c7 (bb.same g.out) bc (R.out.same g.out) 8 32 (by omega));unfold RcdR at v;have rB:c7.cell? ⟨b,o+1,none⟩=some (.slice H.A H.n H.c):=a4.out _ 1 _ g.out rfl;rcases hT:ZdU H.data 8 32 with er | cf
 · rw [hT] at v k;simp only at v k;clear hT bb bc;go_wp2_with fail;refine v.out.mono ?_;rintro e t ⟨rfl,r⟩;exact ⟨rfl,x.out _ _ k.out (g.out.trans r fun _ _ f=>f)⟩
 rw [hT] at v k;simp only at v k;clear hT bb bc;go_wp2_with fail;refine v.out.mono ?_;rintro e t ⟨fb,vB,lB,rfl,B,U,V,X,Z,r⟩;rw [U,V,X] at B;have bv:=qH B;have HB:Hid (PF t w.heap.size fb 8 1 32 vB lB 0):=qH (Z.lower g.out.size);clear B U V X;have G:=qH (G.out.same r);have S:=qH (S.out.same r);have C:=qH (C.out.same r);have HN:=qH (HN.out.same r);have HR:=qH (HR.out.same r);have HP:=qH (HP.out.same r);have d:=qH (d.out.same r);have g:=qH (g.out.trans r fun _ _ f=>f);have p6:t.cell? ⟨p,6,none⟩=some (.pointer none):=d.out.cell 6;have z6:t.frozen? ⟨p,6,none⟩=false:=d.out.frozen 6;clear Z r v rB;go_upto_region 18 with fail;have G:=qH (G.out.setS (i:=6) (u:=.pointer (some ⟨fb,0,none⟩)) d.out);have S:=qH (S.out.setS (i:=6) (u:=.pointer (some ⟨fb,0,none⟩)) d.out);have C:=qH (C.out.setS (i:=6) (u:=.pointer (some ⟨fb,0,none⟩)) d.out);have HN:=qH (HN.out.setS (i:=6) (u:=.pointer (some ⟨fb,0,none⟩)) d.out);have HR:=qH (HR.out.setS (i:=6) (u:=.pointer (some ⟨fb,0,none⟩)) d.out);have HP:=qH (HP.out.setS (i:=6) (u:=.pointer (some ⟨fb,0,none⟩)) d.out);have HB:=qH (HB.out.setS (i:=6) (u:=.pointer (some ⟨fb,0,none⟩)) d.out);have g:Hid (Same w (t.setCell ⟨p,6,none⟩ (.pointer (some ⟨fb,0,none⟩)))):=qH (YaY g.out a2.out _);have d:Hid (Blk (t.setCell ⟨p,6,none⟩ (.pointer (some ⟨fb,0,none⟩))) p 69 #[.pointer (some ⟨tl,0,none⟩),.pointer (some ⟨tt,0,none⟩),.pointer (some ⟨tk,0,none⟩),.pointer (some ⟨fn,0,none⟩),.pointer (some ⟨fr,0,none⟩),.pointer (some ⟨fp,0,none⟩),.pointer (some ⟨fb,0,none⟩)]):=qH (d.out.put 6 (.pointer (some ⟨fb,0,none⟩)));generalize t.setCell ⟨p,6,none⟩ (.pointer (some ⟨fb,0,none⟩))=ap at *;clear p6 z6;have ac:=qH (Zod ap HB.out);rw [bv.out] at ac;have cn:Hid (StM ap w.heap.size p ⟨tl,tt,tk,fn,fr,fp,fb,lN,lR,lP,lB,vN,vR,vP,vB⟩ ⟨c9,cb,cc,cd,ce,co,cf⟩):=qH ⟨a2.out,d.out,G.out,S.out,C.out,HN.out,HR.out,HP.out,HB.out,bu.out,a8.out,cm.out,bv.out⟩;have b6:ap.cell? ⟨p,6,none⟩=some (.pointer (some ⟨fb,0,none⟩)):=d.out.cell 6;obtain ⟨ck,a5⟩:∃ ck,Zet cf=ck:=⟨_,rfl⟩
 rw [a5] at ac k;clear a5;go_wp2_with fail;refine ac.out.mono ?_;rintro e t ⟨rfl,r⟩;have a3:=qH r;clear r b6;by_cases a5:ck=0
 case neg =>
  have D:=qH (k.out.trans (Yac a5));have bw:=qH a5;clear a5 k;go_wp2_with fail;refine (Zco t bw.out).mono ?_;rintro e a6 ⟨rfl,rfl⟩;exact ⟨rfl,x.out _ _ D.out (g.out.trans a3.out fun _ _ f=>f)⟩
 subst a5;have k:=qH (k.out.trans (Yab (by simp)));have bx:=qH (d.out.same a3.out);have bz:=qH (Zbl t (HN.out.same a3.out));have c0:=qH (Zbl t (HR.out.same a3.out));have a9:cd.recs.length=lN.length:=by rw [<- bu.out];simp [filD]
 have aa:ce.recs.length=lR.length:=by rw [<- a8.out];simp [filD]
 rw [a9,aa] at k;have b3:t.cell? ⟨p,3,none⟩=some (.pointer (some ⟨fn,0,none⟩)):=bx.out.cell 3;have b4:t.cell? ⟨p,4,none⟩=some (.pointer (some ⟨fr,0,none⟩)):=bx.out.cell 4;obtain ⟨cN,bd⟩:∃ cN,lN.length=cN:=⟨_,rfl⟩
 obtain ⟨cR,bf⟩:∃ cR,lR.length=cR:=⟨_,rfl⟩
 rw [bd,bf] at k;rw [bd] at bz;rw [bf] at c0;clear a9 aa bd bf ac;go_wp2_with fail;refine (ZbP t).mono ?_;rintro e a6 ⟨rfl,rfl⟩;go_wp2_with fail;refine bz.out.mono ?_;rintro e a6 ⟨rfl,rfl⟩;by_cases a9:1024<cN
 case pos =>
  have D:=qH (k.out.trans (Yac a9));have Y:decide ((cN:Int)<=1024)=false:=YaM (by omega);clear k a9;go_wp2_with fail;refine (Zas t 61).mono ?_;rintro e a6 ⟨rfl,rfl⟩;exact ⟨rfl,x.out _ _ D.out (g.out.trans a3.out fun _ _ f=>f)⟩
 have k:=qH (k.out.trans (Yab a9));have Y:(cN:Int)<=1024:=by omega
 go_wp2_with fail;refine (ZaP t 61).mono ?_;rintro e a6 ⟨rfl,rfl⟩;go_wp2_with fail;refine c0.out.mono ?_;rintro e a6 ⟨rfl,rfl⟩;by_cases aa:2048<cR
 case pos =>
  have D:=qH (k.out.trans (Yac aa));have h2:decide ((cR:Int)<=2048)=false:=YaM (by omega);clear k aa;go_wp2_with fail;refine (Zas t 62).mono ?_;rintro e a6 ⟨rfl,rfl⟩;exact ⟨rfl,x.out _ _ D.out (g.out.trans a3.out fun _ _ f=>f)⟩
 have k:=qH (k.out.trans (Yab aa));have h2:(cR:Int)<=2048:=by omega
 go_wp2_with fail;refine (ZaP t 62).mono ?_;rintro e a6 ⟨rfl,rfl⟩;go_wp2;refine (show OR (.returned (.pointer (some ⟨p,0,none⟩))) t from ?_);exact cg.out _ _ _ _ k.out (cn.out.same a3.out) (g.out.trans a3.out fun _ _ f=>f)
end
section
def blkB (first:Bool) (part:List UInt8) (next:Nat):List UInt8:=(if first then 1 else 0)::UInt8.ofNat part.length::(beb 4 next++(part++ZaB (25-part.length)))
def ZaF:Nat->Bool->Nat->List UInt8->List (List UInt8)
 | 0,first,_,data=>[blkB first data 0]
 | k+1,first,i,data=>if data.length<=25 then [blkB first data 0] else blkB first (data.take 25) (i+2)::ZaF k false (i+1) (data.drop 25)
theorem ZgH {first:Bool} {part:List UInt8} {next:Nat} (h:part.length<=25):(blkB first part next).length=31:=by simp only [blkB,ZaB,Yao,Yaf,Zab,Ybk];omega
section
variable {first:Bool} {part:List UInt8} {next:Nat}
theorem ZfC:Zav (blkB first part next)=if first then 1 else 0:=by unfold Zav blkB;cases first <;> rfl
theorem Zmz (h:part.length<=25):Zdj (blkB first part next)=part.length:=by unfold Zdj blkB;simp only [Ygc,Ycj,Yet];rw [UInt8.toNat_ofNat'];omega
theorem Zkq:(blkB first part next).drop 6=part++ZaB (25-part.length):=by unfold blkB;rw [show 6=2+4 from rfl,<-Ybm];exact List.drop_left' (Zab _ _)
theorem ZgI (h:next<4294967296):ZbJ (blkB first part next)=if next=0 then none else some (next-1):=by
 have e:((blkB first part next).drop 2).take 4=beb 4 next:=List.take_left' (Zab _ _)
 unfold ZbJ;rw [e,ZeD,Ydk h]
theorem Zjn (h:part.length<=25):ZcL (blkB first part next)=part:=by unfold ZcL;rw [Zmz h,Zkq];exact List.take_left' rfl
theorem Zhu {f:Zaz} (h:part.length<=25) (hn:next<4294967296) (h0:next=0->first=true\/0<part.length) (h1:next≠0->part.length=25/\f.used (next-1)=true):ZaV f (blkB first part next)=true:=by
 have c:(blkB first part next).drop (6+part.length)=ZaB (25-part.length):=by rw [<- Ybm,Zkq];exact List.drop_left' rfl
 unfold ZaV;rw [ZfC,Zmz h,c,ZgI hn];simp only [Yay,Ybc];refine ⟨by cases first <;> simp,h,by simp [ZaB],?_⟩;by_cases a:next=0
 · rw [Yac a];rcases h0 a with b | b
   · simp [b]
   simp [b]
 rw [Yab a];simp [(h1 a).1,(h1 a).2]
end
theorem Zkr (k:Nat) (first:Bool) (i:Nat) (data:List UInt8):0<(ZaF k first i data).length:=by
 cases k with
 | zero=>exact Nat.one_pos
 | succ k =>
   rw [ZaF];split <;> simp
theorem Zoe {f:Zaz}:∀ (k:Nat) (first:Bool) (i:Nat) (data:List UInt8) (met:List Nat) (n:Nat),data.length<=25+25*k->(∀ j d,(ZaF k first i data)[j]?=some d->f.at_ (i+j)=some d) ->
 i+(ZaF k first i data).length<=65536->(∀ x∈met,x<i)->(first=true↔met=[])->(first=false->0<data.length)->(ZaF k first i data).length<=n ->
 Zbm f n met i=.ok (List.range' i (ZaF k first i data).length)/\(List.range' i (ZaF k first i data).length).flatMap (fun j=>match f.at_ j with | some d=>ZcL d | none=>[])=data:=by
 intro k
 induction k with
 | zero =>
   intro first i data met n y b r q t u g
   have a:f.at_ i=some (blkB first data 0):=b 0 _ rfl;simp only [ZaF,Ycs] at g ⊢;obtain ⟨m,rfl⟩:∃ m,n=m+1:=⟨n-1,qO⟩
   have l:ZaV f (blkB first data 0)=true:=Zhu qO qO (fun _=>by cases first <;> simp_all) (fun h=>absurd rfl h);have o:¬ ((Zav (blkB first data 0)=1)≠(met=[])\/ZaV f (blkB first data 0)=false):=by rw [l,ZfC];simp only [YdV,Ych,ne_eq,YbX];cases first <;> simp_all
   refine ⟨?_,?_⟩
   · rw [Zbm,Yab (fun h=>absurd (q _ h) (YcL _)),a];simp only;rw [Yab o,ZgI qO,Yac rfl];rfl
   simp [List.range',a,Zjn (show data.length<=25 by omega)]
 | succ k ih =>
   intro first i data met n y b r q t u g
   by_cases c:data.length<=25
   · have e:ZaF (k+1) first i data=[blkB first data 0]:=by rw [ZaF,Yac c]
     rw [e] at b g r ⊢;have a:f.at_ i=some (blkB first data 0):=b 0 _ rfl;simp only [Ycs] at g ⊢;obtain ⟨m,rfl⟩:∃ m,n=m+1:=⟨n-1,qO⟩
     have l:ZaV f (blkB first data 0)=true:=Zhu qO qO (fun _=>by cases first <;> simp_all) (fun h=>absurd rfl h);have o:¬ ((Zav (blkB first data 0)=1)≠(met=[])\/ZaV f (blkB first data 0)=false):=by rw [l,ZfC];simp only [YdV,Ych,ne_eq,YbX];cases first <;> simp_all
     refine ⟨?_,?_⟩
     · rw [Zbm,Yab (fun h=>absurd (q _ h) (YcL _)),a];simp only;rw [Yab o,ZgI qO,Yac rfl];rfl
     simp [List.range',a,Zjn c]
   have e:ZaF (k+1) first i data=blkB first (data.take 25) (i+2)::ZaF k false (i+1) (data.drop 25):=by rw [ZaF,Yab c]
   rw [e] at b g r ⊢;have a:f.at_ i=some (blkB first (data.take 25) (i+2)):=b 0 _ rfl;simp only [Yao] at g r ⊢;obtain ⟨m,rfl⟩:∃ m,n=m+1:=⟨n-1,qO⟩
   have s:(data.take 25).length=25:=by rw [YaJ];omega
   have p:=Zkr k false (i+1) (data.drop 25);have w:f.used (i+1)=true:=by
    obtain ⟨d,v⟩:∃ d,(ZaF k false (i+1) (data.drop 25))[0]?=some d:=⟨_,Yar p⟩
    exact ZdI.2 ⟨d,b 1 d (by simpa using v)⟩
   have l:ZaV f (blkB first (data.take 25) (i+2))=true:=Zhu qO qO (fun h=>qO) (fun _=>⟨s,w⟩);have o:¬ ((Zav (blkB first (data.take 25) (i+2))=1)≠(met=[])\/ZaV f (blkB first (data.take 25) (i+2))=false):=by rw [l,ZfC];simp only [YdV,Ych,ne_eq,YbX];cases first <;> simp_all
   obtain ⟨z,A⟩:=ih false (i+1) (data.drop 25) (i::met) m (by rw [Yas];omega) (fun j d v=>by rw [show i+1+j=i+(j+1) by omega];exact b (j+1) d (by simpa using v)) qO
    (fun x hx=>by rcases Yat.1 hx with rfl | hx;omega;have:=q x hx;omega) (by simp) (fun _=>by rw [Yas];omega) qO
   refine ⟨?_,?_⟩
   · rw [Zbm,Yab (fun h=>absurd (q _ h) (YcL _)),a];simp only;rw [Yab o,ZgI qO,Yab qO];simp only;rw [show i+2-1=i+1 by omega,z];rfl
   rw [List.range'_succ,Ybs,a,A];simp only;rw [Zjn qO,YbT]
end
end Go.Proofs.YtmkjfhnlnhceiaaGreatDoor
