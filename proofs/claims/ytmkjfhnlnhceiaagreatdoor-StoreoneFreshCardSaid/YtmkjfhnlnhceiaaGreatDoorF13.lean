/- Lemmas: walks and plain laws. -/
import Derived.OrdersIn
import Derived.Test.YtmkjfhnlnhceiaaGreatDoorF07
import Derived.Test.YtmkjfhnlnhceiaaGreatDoorF08
import Derived.Test.YtmkjfhnlnhceiaaGreatDoorF12
set_option maxRecDepth 100000
set_option maxHeartbeats 16000000
namespace Go.Proofs.YtmkjfhnlnhceiaaGreatDoor
variable {w w2:World} {B r n c f k vs z low id:Nat} {bs l:List UInt8} {F:Nat->Prop} {v:Value} {A:Option Addr} {Q:Exit->Act->World->Prop} {P:Program} {a:Act}
open Go.RowKit
theorem DI (w:World) (f:Nat):Calls Tryz.prog 71 #[.pointer (some ⟨f,0,none⟩)] w fun e w'=>e=.returned (.func (.func 122) #[] #[.pointer (some ⟨w.heap.size,0,none⟩)])/\w'=w.alloc (.cells #[.pointer (some ⟨f,0,none⟩)] 67):=by have a:∀ (fn:Fn) (first cap:Array Value) (w:World),(Instr.makeFunc fn first cap).run Tryz.prog w=.ok (.func fn first cap) w:=fun _ _ _ _=>rfl;go_enter Tryz.func71,Tryz.ntmps71;go_wp2;go_ret;exact ⟨rfl,rfl⟩
theorem bK (hs:Same w w2) (h:Wtr w2 B r bs) (hB:w.heap.size=B) (width n:Nat) (hw:MD width=true) (hl:bs.length+8<=140737488355328):
 Calls Tryz.prog 111 #[.pointer (some ⟨r,0,none⟩),.int .i64 width,.int .u64 n] w2 fun e w'=>e=.returned (.tuple #[])/\∃ D,D=bs++beb width n/\Wtr w' B r D/\Same w w' :=
 (zV h width n hw hl).mono fun _ _ ⟨a,c,d⟩=>⟨a,_,rfl,c,hs.trans d fun b f hs=>qO⟩
theorem vQ {xs:List UInt8} (hs:Same w w2) (h:WtrV w2 B r v bs) (hB:w.heap.size=B) (hx:pA w2 F A n c xs) (hl:bs.length+n<=140737488355328):
 Calls Tryz.prog 114 #[.pointer (some ⟨r,0,none⟩),.slice A n c] w2 fun e w'=>e=.returned (.tuple #[])/\∃ v' D,D=bs++xs/\WtrV w' B r v' D/\Same w w'/\Upd (fun b=>b=r\/v.ownBlock=some b) w2 w'/\(v'.ownBlock=v.ownBlock\/∃ g,v'.ownBlock=some g/\w2.heap.size<=g) :=
 (wrawV h hx hl).mono fun _ _ ⟨d,⟨v',f,i⟩,a⟩=>⟨d,v',_,rfl,f,hs.trans a fun b k hs=>by
   have j:=h.1;rcases hs with hs | hs
   · omega
   have:=(h.2.2.lt b hs).1;omega,a,i⟩
theorem wnumW (hs:Same w w2) (h:WtrV w2 B r v bs) (hB:w.heap.size=B) (width n:Nat) (hw:MD width=true) (hl:bs.length+8<=140737488355328):
 Calls Tryz.prog 111 #[.pointer (some ⟨r,0,none⟩),.int .i64 width,.int .u64 n] w2 fun e w'=>e=.returned (.tuple #[])/\∃ v' D,D=bs++beb width n/\WtrV w' B r v' D/\Same w w'/\Upd (fun b=>b=r\/v.ownBlock=some b) w2 w'/\(v'.ownBlock=v.ownBlock\/∃ g,v'.ownBlock=some g/\w2.heap.size<=g) :=
 (ZS h width n hw qO hl).mono fun _ _ ⟨c,⟨v',d,f⟩,a⟩=>⟨c,v',_,rfl,by simpa using d,hs.trans a fun b j hs=>by
   have i:=h.1;rcases hs with hs | hs
   · omega
   have:=(h.2.2.lt b hs).1;omega,a,f⟩
theorem LX {B':Nat} (h:OwnB w B v bs) (hB:B'<=B):OwnB w B' v bs :=
 ⟨h.1,h.2.imp id fun ⟨g,a,b,c,d,e⟩=>⟨g,a,b,c,tA hB d,e⟩⟩
theorem ET {w':World} {fr:Nat} {v':Value} (hu:Upd (fun b=>b=r\/v.ownBlock=some b) w2 w') (hv:v'.ownBlock=v.ownBlock\/∃ g,v'.ownBlock=some g/\w2.heap.size<=g)
 (hz:OwnB w2 fr (.slice (some ⟨fr,0,none⟩) n c) bs) (hf:v.ownBlock≠some fr/\r≠fr):OwnB w' fr (.slice (some ⟨fr,0,none⟩) n c) bs/\(v'.ownBlock≠some fr/\r≠fr):=by
 refine ⟨GA hz hu fun g d a=>?_,fun h=>?_,hf.2⟩
 · have d:fr=g:=eB d;subst d;rcases a with a | a
   · exact hf.2 a.symm
   exact hf.1 a
 rcases hv with hv | ⟨g,hv,d⟩
 · exact hf.1 (hv ▸ h)
 rw [hv] at h;have e:=(hz.lt fr rfl).2;have:=eB h;omega
theorem gO {l:List BS} (w:World) (h:PF w B f k vs z v l low) (hk:k<=255) (hv:vs<=255) (hN:Nib w):Calls Tryz.prog 61 #[.pointer (some ⟨f,0,none⟩)] w fun e w' =>
 ∃ v',e=.returned v'/\OwnB w' w.heap.size v' (BB (filD k vs z l))/\Same w w':=by
 have hz:=h.size;obtain ⟨A,c,rfl⟩:=WA h.own.row;obtain ⟨m,V⟩:=qx l.length;have Z:=qH V;have c8:m<=65536:=by rw [<- V];exact h.len
 rw [V] at h;have W:=qH h;have HN:=qH hN;clear h hN V;have k0:(0:Int)<=(k:Int)/\(k:Int)<=255:=qO;have k1:(0:Int)<=(vs:Int)/\(vs:Int)<=255:=qO;have k2:(0:Int)<=(z:Int)/\(z:Int)<=255:=qO;have k3:(0:Int)<=(m:Int)/\(m:Int)<=65536:=qO;go_enter Tryz.func61,Tryz.ntmps61;go_wp2_with fail;refine (VL w).mono ?_;rintro e w1 ⟨r,rfl,a8,bl⟩;obtain ⟨B1,a9⟩:=qx w.heap.size;have d:=qH a9;rw [a9] at a8;go_wp2_with fail;refine (AV a8 _ qD).mono ?_;rintro e w2 ⟨rfl,bm,bn⟩;have q:Hid (Same w w2):=qH (bl.trans bn fun b hb hs=>qO);obtain ⟨D2,aa⟩:∃ D,D=vI:=⟨_,rfl⟩
 have L:Hid (Wtr w2 B1 r D2):=qH (by rw [aa];exact bm);have M:=qH aa;have H2:=qH (W.same q);clear a8 bl bm bn aa a9;have q0:=H2.blk.c0;go_wp2_with fail;refine (bK q L d 1 k qD (by rw [M.out];decide)).mono ?_;clear q0;rintro e w3 ⟨rfl,D3,g,bo,ab⟩;have N:=qH ab;have O:=qH bo;have aq:Hid (D3=D2++beb 1 k):=qH g;have t:Hid (D2.length=4):=qH (by rw [M.out];rfl);have u:Hid (D3.length=D2.length+1):=qH (by rw [g,kA,rA]);have H3:=qH (W.same ab);clear g ab bo L H2 q;have q0:=H3.blk.c1;go_wp2_with fail;refine (bK N O d 1 vs qD (by rw [u.out,t.out];decide)).mono ?_;clear q0;rintro e w4 ⟨rfl,D4,ac,bp,ad⟩;have ar:=qH ad;have au:=qH bp;have av:Hid (D4=D3++beb 1 vs):=qH ac;have R:Hid (D4.length=D3.length+1):=qH (by rw [ac,kA,rA]);have H4:=qH (W.same ad);clear ac ad bp O H3 N;have q0:=H4.blk.c2;go_wp2_with fail;refine (bK ar au d 2 z qD (by rw [R.out,u.out,t.out];decide)).mono ?_;clear q0;rintro e w5 ⟨rfl,D5,ae,bq,af⟩;have aw:=qH af;have ax:=qH bq;have ay:Hid (D5=D4++beb 2 z):=qH ae;have a0:Hid (D5.length=D4.length+2):=qH (by rw [ae,kA,rA]);have H5:=qH (W.same af);clear ae af bq au H4 ar;have q0:=H5.blk.c3;go_wp2_with fail;refine (bK aw ax d 4 m qD (by rw [a0.out,R.out,u.out,t.out];decide)).mono ?_;clear q0;rintro e w6 ⟨rfl,X,ag,br,ah⟩;have az:=qH ah;have a1:=qH br;have b0:Hid (X=D5++beb 4 m):=qH ag;have b1:Hid (X.length=D5.length+4):=qH (by rw [ag,kA,rA]);have H6:=qH (W.same ah);clear ag ah br ax H5 aw;have b2:Hid (X=mE (filD k vs z l)):=qH (by rw [b0.out,ay.out,av.out,aq.out,M.out,<-Z.out];simp [mE,filD]);have j:Hid (X.length=12):=qH (by rw [b1.out,a0.out,R.out,u.out,t.out]);go_wp2_with fail;refine (dJ a1 (by rw [j.out];decide)).mono ?_;rintro e w7 ⟨v7,rfl,ai,aj⟩;obtain ⟨A7,c7,rfl⟩:=WA ai;have a2:=qH (az.trans aj qe);have b3:=qH (a1.same aj);have b4:=qH (LW w7 (NK rfl ai) (HN.same a2));clear ai aj a1 az H6;go_wp2_with fail;refine b4.mono ?_;rintro e w8 ⟨rfl,rfl⟩;have k4:(0:Int)<=((crcS X).toNat:Int)/\((crcS X).toNat:Int)<=4294967295:=by have:=(crcS X).isLt;omega
 generalize bk:(crcS X).toNat=sm at *;go_wp2_with fail;refine (bK a2 b3 d 4 sm qD (by rw [j.out];decide)).mono ?_;rintro e w9 ⟨rfl,D9,ak,E,al⟩;have b5:Hid (D9=mE (filD k vs z l)++beb 4 (crcS (mE (filD k vs z l))).toNat):=qH (by rw [ak,<-bk,b2.out]);have bx:Hid (D9.length=16):=qH (by rw [ak,kA,rA,j.out]);have b6:=qH al;obtain ⟨v9,E⟩:=E.open;have S:=qH E;have H9:=qH (W.same al);clear ak E al b3 a2 b4 bk b1 a0 R u t b2 j M aq av ay b0;have q2:=H9.blk.c2;have q3:=H9.blk.c3;have b7:=run_make_row' (P:=Tryz.prog) 39 5 (.int .u8 0) 1 yD uI rfl .i64 .i64 z qO qO w9;obtain ⟨fr,am⟩:=qx w9.heap.size;obtain ⟨wa,an⟩:=qx (w9.alloc (.cells (madeCells #[Value.int .u8 0] z) 5));have T:=qH (DT w9 (n:=z) qM);have y:=qH ((iA w9).alloc (.cells (madeCells #[Value.int .u8 0] z) 5));rw [an,am] at b7 T;rw [an] at y;have b8:=qH (b6.trans y qe);have b9:=qH (S.same y);have Ha:=qH (H9.same y);have ba:Hid (v9.ownBlock≠some fr/\r≠fr):=qH (by rw [<- am];exact ⟨fun e=>JH _ (S.2.2.lt _ e).2,fun e=>JH _ (e ▸ S.lt)⟩)
 have q4:=Ha.blk.c3;clear E S b6 y an q3;go_wp2_with fail;obtain ⟨F,ao⟩:∃ D,mE (filD k vs z l)++beb 4 (crcS (mE (filD k vs z l))).toNat=D:=⟨_,rfl⟩
 rw [ao] at b5;have bz:Hid (∀ v' w',OwnB w' w.heap.size v' (F++l.flatMap fun x=>recB z x.rc)->OwnB w' w.heap.size v' (BB (filD k vs z l))):=qH fun v' w' h=>by
  have e:BB (filD k vs z l)=F++l.flatMap fun x=>recB z x.rc:=by rw [<- ao];simp [BB,filD,jN]
  rw [e];exact h
 clear ao;clear b7 q2 q4 H9 am;go_loopg [55] m (fun gh s wr=>∃ (i:Nat) (v':Value) (D:List UInt8),m-i=gh/\i<=m/\s=.int .i64 (i:Int)/\Hid (D=F++(l.take i).flatMap fun x=>recB z x.rc)/\Hid (D.length<=16+i*255)/\Hid (WtrV wr B1 r v' D)/\Hid (OwnB wr fr (.slice (some ⟨fr,0,none⟩) z z) (TB z))/\Hid (v'.ownBlock≠some fr/\r≠fr)/\Hid (Same w wr))
 case atStart=>exact ⟨0,v9,D9,rfl,oA _,rfl,qH (by rw [b5.out];simp),qH (by rw [bx.out];omega),b9,T,ba,b8⟩
 clear b9 T ba b8 Ha;obtain ⟨i,v',D,rfl,hi,rfl,HD,j,HW,T,HF,HS⟩:=hrel;have c9:=fun (w:World) (a:Option Addr) (n c:Nat)=>dI (P:=Tryz.prog) w 39 5 a n c 0 0 yD;have HP:=qH (W.same HS);by_cases bb:i<m
 · have j1:(i:Int)<(m:Int):=qO;have ca:IntKind.i64.wrap ((i:Int)+1)=((i+1:Nat):Int):=by rw [rF];omega
   obtain ⟨b,o,x,rfl,cb,hx,ap,hc⟩:=HP.own.at_ Z.out bb;have bc:Hid (l.take (i+1)=l.take i++[x]):=qH (by rw [eD,hx];rfl)
   have bd:=qH ap;have C:=qH (HP.own.each x ap);clear hx ap;cases hxA:x.A with
   | none =>
     have h5:=Row.nil C.out hxA;have h6:=Row.le C.out;rw [hxA,h5,show x.n=0 by omega] at hc;have HC:=qH (vQ HS HW d (NK (by simp [TB]) T.out) (qh j));clear h5 h6;go_wp2_with fail;refine HC.mono ?_;rintro e wz ⟨rfl,v2,Dz,Y,G,p,H,I⟩;have hk:=ET H I T.out HF.out;have a3:=qH hk.1;have a4:=qH hk.2;have L:=qH G;have q:=qH p;have a5:Hid (Dz=F++(l.take (i+1)).flatMap fun x=>recB z x.rc):=qH (by rw [Y,bc.out,HD.out];simp [BS.rc,hxA,recB])
     have a6:Hid (Dz.length<=16+(i+1)*255):=qH (by
      have h1:=j.out;have h2:(TB z).length=z:=by simp [TB]
      rw [Y,kA];omega)
     clear hk G p H I Y HC T HF HW HS HD j HP C;go_wp2;go_roundg (m-(i+1))
     case measure=>omega
     case rel=>exact ⟨i+1,v2,Dz,rfl,qO,qN,a5,a6,L,a3,a4,q⟩
   | some a =>
     have bf:x.data.length+1=z:=HP.recs x bd.out (by rw [hxA];simp);have bg:x.data.length=x.n:=ZG C.out;have bh:=qH bf;rw [hxA] at hc;have HC:=qH (wnumW HS HW d 1 1 qD (qh j));have c4:=qH bg;clear bf bg;go_wp2_with fail;refine HC.mono ?_;rintro e wy ⟨rfl,v2,Dy,Y,G,p,H,I⟩;have hk:=ET H I T.out HF.out;have bi:=qH ((W.same p).own.each x bd);have U:=bi.out;unfold IB at U;rw [hxA] at U;have bj:=qH (vQ p G d U (by have:=j.out;have:=c4.out;have:=bh.out;rw [Y,kA,rA];omega));clear U HC;go_wp2_with fail;refine bj.mono ?_;rintro e wz ⟨rfl,v3,Dz,g,bs,bt,bu,bv⟩;have a7:=ET bu bv hk.1 hk.2;have a3:=qH a7.1;have a4:=qH a7.2;have O:=qH bs;have N:=qH bt;have a5:Hid (Dz=F++(l.take (i+1)).flatMap fun x=>recB z x.rc):=qH (by rw [g,Y,bc.out,HD.out];simp [BS.rc,hxA,recB,beb])
     have a6:Hid (Dz.length<=16+(i+1)*255):=qH (by have h1:=j.out;have h2:=bh.out;rw [g,Y,kA,kA,rA];omega)
     clear hk a7 G p H I Y bs bt bu bv g bj T HF HW HS HD j HP C bi;go_wp2;go_roundg (m-(i+1))
     case measure=>omega
     case rel=>exact ⟨i+1,v3,Dz,rfl,qO,qN,a5,a6,O,a3,a4,N⟩
 have c5:i=m:=qO;subst c5;clear hi bb;go_wp2_with fail;refine (dJ HW.wtr (qh j)).mono ?_;rintro e wz ⟨vz,rfl,hO,bw⟩;have HO:Hid (OwnB wz w.heap.size vz (BB (filD k vs z l))):=qH (bz.out _ _ (by have h1:=LX hO HS.size;rw [HD.out,cB (by rw [Z.out];exact lA _)] at h1;exact h1))
 have c6:=qH (HS.trans bw qe);clear hO bw;go_wp2;go_ret;exact ⟨vz,rfl,HO,c6⟩
structure PT (w:World) (B t f m k vs cnt low:Nat) (v nv:Value) (l:List BS) (ns:List ByteArray):Prop where
 base:B<=t
 blk:Blk w t 167 #[.pointer (some ⟨f,0,none⟩),nv,.map (some m)]
 file:PF w B f k vs 42 v l low
 row:w.ownsRow B 9 1 nv ns.length (ns.map Value.string)
 map:MpS w m cnt (idsF ns)
 mB:B<=m
 len:ns.length=l.length
 texts:∀ s∈ns,s.size<=40
section
variable {w w':World} {B t f m k vs cnt low:Nat} {v nv:Value} {l:List BS} {ns:List ByteArray}
theorem PT.same (h:PT w B t f m k vs cnt low v nv l ns) (hu:Same w w'):PT w' B t f m k vs cnt low v nv l ns :=
 ⟨h.base,h.blk.same hu,h.file.same hu,mA h.row hu,h.map.same hu,h.mB,h.len,h.texts⟩
theorem nM:Tryz.prog.underlying 154=some (.map 9 3):=bS
theorem FT (h:PT w B t f m k vs cnt low v nv l ns) {s:ByteArray} (hs:s.size<=40):Calls Tryz.prog 56 #[.pointer (some ⟨t,0,none⟩),.string s] w fun e w' =>
 e=.returned (.tuple #[((idsF ns s).getD (.int .i64 0)),.bool (idsF ns s).isSome])/\w=w':=by
 have a:=h.blk.c2;obtain ⟨d,_⟩:=h.map.look nM (aF w) (s:=s) qM;clear h;generalize c:(idsF ns s).getD (.int .i64 0)=u at *;generalize (idsF ns s).isSome=b at *;go_enter Tryz.func56,Tryz.ntmps56;go_wp2
 go_ret2
 exact ⟨rfl,rfl⟩
theorem Zon (h:PT w B t f m k vs cnt low v nv l ns):Calls Tryz.prog 94 #[.pointer (some ⟨t,0,none⟩)] w fun e w'=>e=.returned (.int .i64 (cnt:Int))/\w=w':=by have b:w.cell? ⟨t,2,none⟩=some (.map (some m)):=h.blk.cell 2;have c:=fun a=>h.map.len nM a;clear h;go_enter Tryz.func94,Tryz.ntmps94;go_wp2;go_ret;exact ⟨rfl,rfl⟩
theorem GT (h:PT w B t f m k vs cnt low v nv l ns) (hk:k<=255) (hv:vs<=255) (hN:Nib w):Calls Tryz.prog 62 #[.pointer (some ⟨t,0,none⟩)] w fun e w' =>
 ∃ v',e=.returned v'/\OwnB w' w.heap.size v' (BB (filD k vs 42 l))/\Same w w':=by
 have j:=h.blk.c0;have d:=qH (gO w h.file hk hv hN);clear h hN;go_enter Tryz.func62,Tryz.ntmps62;go_wp2_with fail;refine d.mono ?_;rintro e n ⟨o,rfl,a,b⟩;obtain ⟨A,c,rfl⟩:=WA a;have g:=qH a;have i:=qH b;clear a b;go_wp2;go_ret;exact ⟨_,rfl,g,i⟩
theorem ZmG (h:PT w B t f m k vs cnt low v nv l ns) (i:Int):Calls Tryz.prog 124 #[.pointer (some ⟨t,0,none⟩),.int .i64 i] w fun e w' =>
 e=.returned (.tuple #[.string (FB ns i),.bool (!decide (FB ns i=noText))])/\w=w':=by
 obtain ⟨A,c,rfl⟩:=WA h.row;have r:=h.blk.c1;have a:=h.row;clear h;by_cases p:i<0
 · have d:FB ns i=noText:=gA p;rw [d];go_enter DP,EP;go_wp2
   go_ret2
   exact ⟨rfl,rfl⟩
 obtain ⟨n,rfl⟩:∃ n:Nat,i=(n:Int):=⟨i.toNat,qO⟩
 have d:FB ns (n:Int)=match ns[n]? with | some s=>s | none=>noText:=aA p
 rw [d];obtain ⟨N,D⟩:=qx ns.length;rw [D] at a r;by_cases x:n<N
 · obtain ⟨g,u,rfl,E,F,j,H,_⟩:=EE a x;obtain ⟨s,b⟩:∃ s,ns[n]?=some s:=⟨_,FA qO⟩
   rw [MA,b] at j;have j:u=.string s:=(eB j).symm;subst j;rw [b];have y:(n:Int)<(N:Int):=qO;clear a d b j;by_cases o:s=noText
   · subst o;unfold noText at *;go_enter DP,EP;go_wp2
     go_ret2
     exact ⟨rfl,rfl⟩
   have G:s.toList.isEmpty=false:=by
    cases hq:s.toList.isEmpty with
    | false=>rfl
    | true =>
      refine absurd ?_ o;have q:=EN s;rw [hq] at q;have z:s.size=0:=by simpa using q
      exact ByteArray.ext (iV z)
   have C:=qH o;clear o;go_enter DP,EP;go_wp2
   go_ret2
   exact ⟨by simp [C.out],rfl⟩
 have b:ns[n]?=none:=UI qO;rw [b];have y:¬ (n:Int)<(N:Int):=qO;clear a d b;go_enter DP,EP;go_wp2
 go_ret2
 exact ⟨rfl,rfl⟩
end
theorem MX (w:World) (k vs:Nat) (hk:1<=k/\k<=3) (hv:vs=1\/vs=2):Calls Tryz.prog 92 #[.int .i64 (k:Int),.int .i64 (vs:Int)] w fun e w'=>e=.returned (.bool false)/\w=w':=by
 have a:¬ (k:Int)<1:=qO;have b:decide ((3:Int)<(k:Int))=false:=LB qO;rcases hv with rfl | rfl
 · go_enter Tryz.func92,Tryz.ntmps92;go_wp2;go_ret;exact ⟨rfl,rfl⟩
 go_enter Tryz.func92,Tryz.ntmps92;go_wp2;go_ret;exact ⟨rfl,rfl⟩
theorem Zsj (n:Nat):idsF (List.replicate n noText)=fun _=>none:=by
 funext s;have h:idxI (List.replicate n noText) s=none:=by
  unfold idxI;split
  · rfl
  rename_i a;rw [List.findIdx?_eq_none_iff];intro x b;rw [NR b];simpa using fun e:noText=s=>a e.symm
 unfold idsF;rw [h];rfl
theorem Zoo (w:World) (hB:B<=w.heap.size) (hn:n<=maxLen):(w.alloc (.cells (madeCells #[.string ⟨#[]⟩] n) 9)).ownsRow B 9 1 (.slice (some ⟨w.heap.size,0,none⟩) n n) n ((List.replicate n noText).map Value.string):=by refine ⟨qS,.inr ⟨w.heap.size,n,_,rfl,hB,World.alloc_heap_new w _,lA _,hn,by simp [madeCells],?_⟩⟩;simp [madeCells,yK,List.map_const',noText]
theorem NX {l:List BS} (w:World) (h:PF w B f k vs 42 v l low) (hB:B<=w.heap.size):Calls Tryz.prog 93 #[.pointer (some ⟨f,0,none⟩)] w fun e w' =>
 ∃ t m nv,e=.returned (.pointer (some ⟨t,0,none⟩))/\PT w' B t f m k vs 0 low v nv l (List.replicate l.length noText)/\Same w w':=by
 have j:=qH (TJ w h);obtain ⟨n,i⟩:=qx l.length;have b:=h.len;rw [i] at j b ⊢;have p:=qH h;have q:=qH i;clear h i;have r:=run_make_row' (P:=Tryz.prog) 48 9 (.string ⟨#[]⟩) 16 mI PN rfl .i64 .i64 n qO qO;have u:=@YG Tryz.prog;go_enter Tryz.func93,Tryz.ntmps93;go_wp2_with fail;refine j.mono ?_;rintro e a ⟨rfl,rfl⟩;go_wp2;go_ret;have o:=(iA w).alloc (.cells (madeCells #[.string ⟨#[]⟩] n) 9);have x:=Zoo w (n:=n) hB qM;have y:(w.alloc (.cells (madeCells #[.string ⟨#[]⟩] n) 9)).heap.size=w.heap.size+1:=aB _ _;generalize w.alloc (.cells (madeCells #[.string ⟨#[]⟩] n) 9)=a at *;rw [<- y];have z:=MpS.made a;have d:=o.alloc (.map #[] 0);have A:=mA x ((iA a).alloc (.map #[] 0));have E:=o.size;have C:(a.alloc (.map #[] 0)).heap.size=a.heap.size+1:=aB _ _;generalize a.alloc (.map #[] 0)=g at *;rw [<- C];have F:=d.size;have c:=(iA g).alloc (.cells #[.pointer (some ⟨f,0,none⟩),.slice (some ⟨w.heap.size,0,none⟩) n n,.map (some a.heap.size)] 167);refine ⟨g.heap.size,a.heap.size,.slice (some ⟨w.heap.size,0,none⟩) n n,rfl,⟨qO,jA g _ _,p.same (d.trans c qf),?_,?_,qO,by rw [aD,q.out],?_⟩,d.trans c qf⟩
 · rw [aD];exact mA A c
 · rw [Zsj];exact z.same c
 intro s D;rw [NR D];decide
theorem Zop (w:World) (k vs:Nat) (hk:1<=k/\k<=3) (hv:vs=1\/vs=2):Calls Tryz.prog 50 #[.int .i64 (k:Int),.int .i64 (vs:Int)] w fun e w' =>
 ∃ t f m nv,e=.returned (.tuple #[.pointer (some ⟨t,0,none⟩),.int .i64 0])/\PT w' w.heap.size t f m k vs 0 0 (.slice none 0 0) nv [] []/\Same w w':=by
 go_enter Tryz.func50,Tryz.ntmps50;go_wp2_with fail;refine (MX w k vs hk hv).mono ?_;rintro e d ⟨rfl,rfl⟩;go_wp2_with fail;refine (RN w k vs 42 qO qO ⟨qO,qO⟩).mono ?_;rintro e d ⟨rfl,g,c⟩;have i:=qH c;have j:=c.size;have l:=qH (NX d g j);clear g c;go_wp2_with fail;refine l.mono ?_;rintro e o ⟨t,m,nv,rfl,h,a⟩;have n:=qH h;have b:=qH a;clear h a;go_wp2
 go_ret2
 exact ⟨t,_,m,nv,rfl,n,i.trans b qf⟩
theorem rawN (h:Rdr w F r ⟨l,0⟩) (hF:¬ F r) (hs:l.length<=140737488355328) (n:Nat) (hn:n<=l.length):
 Calls Tryz.prog 167 #[.pointer (some ⟨r,0,none⟩),.int .i64 (n:Int)] w fun e w' =>
  ∃ A c,e=.returned (.slice A n c)/\Hid (pA w' (TyB w' 0) A n c (l.take n))/\Hid (Rdr w' F r ⟨l.drop n,0⟩)/\Upd (fun b=>b=r) w w':=by
 refine (dT h hF hs (n:Int)).mono ?_;rintro e w' ⟨v,rfl,a,d,f⟩;rw [QK hn] at a d;obtain ⟨A,c,rfl⟩:=WA a;have e:(l.take n).length=n:=by rw [RB];omega
 simp only at a ⊢;exact ⟨A,c,by rw [e],qH (NK e (by rw [e] at a;exact a)),qH d,f⟩
theorem numN (h:Rdr w F r ⟨l,0⟩) (hF:¬ F r) (width:Nat) (hw:MD width=true) (hl:width<=l.length):
 Calls Tryz.prog 166 #[.pointer (some ⟨r,0,none⟩),.int .i64 (width:Int)] w fun e w'=>∃ N:Nat,e=.returned (.int .u64 (N:Int))/\be (l.take width)=N/\N<256 ^ width/\Hid (Rdr w' F r ⟨l.drop width,0⟩)/\Upd (fun b=>b=r) w w':=by
 refine (gH h hF (width:Int)).mono ?_;have a:RS.num ⟨l,0⟩ (width:Int)=(be (l.take width),⟨l.drop width,0⟩):=by unfold RS.num;rw [hw,QK hl]
 rw [a];rintro e w' ⟨rfl,d,f⟩;have c:=pG (l.take width);rw [RB,IJ hl] at c;exact ⟨_,rfl,rfl,c,qH d,f⟩
def fE (b:List UInt8):Except Int (Nat×Nat×Nat×Nat) :=
 if b.length<16 then .error 10
 else if b.take 4≠vI then .error 90
 else if be ((b.drop 12).take 4)≠(crcS (b.take 12)).toNat then .error 91
 else if be ((b.drop 6).take 2)<2\/255<be ((b.drop 6).take 2) then .error 4
 else if 65536<be ((b.drop 8).take 4)\/b.length≠16+be ((b.drop 8).take 4)*be ((b.drop 6).take 2) then .error 92
 else .ok (be ((b.drop 4).take 1),be ((b.drop 5).take 1),be ((b.drop 6).take 2),be ((b.drop 8).take 4))
theorem cut16 (bs:List UInt8) {i:Nat} (h:i+k<=16):((bs.take 16).drop i).take k=(bs.drop i).take k:=by rw [List.drop_take,List.take_take,IJ qO]
def pH (b:List UInt8) (w:World) (e:Ending) (w':World):Prop :=
 match fE b with
 | .error er=>∃ (fp:Option Addr) (cv:Int),e=.returned (.tuple #[.pointer fp,.int .i64 cv,.int .i64 er])/\Same w w'
 | .ok (k,vs,z,n)=>∃ f,e=.returned (.tuple #[.pointer (some ⟨f,0,none⟩),.int .i64 (n:Int),.int .i64 0])/\w.heap.size<=f/\Blk w' f 171 #[.int .i64 (k:Int),.int .i64 (vs:Int),.int .i64 (z:Int),.slice none 0 0,.int .i64 0,.int .i64 0]/\Same w w'
theorem ZmI (w:World) (hb:pA w F A n c bs) (hn:n<=140737488355328) (hN:Nib w):Calls Tryz.prog 161 #[.slice A n c] w (pH bs w):=by
 have HL:=qH (ZG hb);have HB:=qH hb;have HN:=qH hN;by_cases az:n<16
 · have e:fE bs=.error 10:=by unfold fE;rw [gA (qh HL)]
   have HR:Hid (∀ e H,pH bs w e H↔∃ (fp:Option Addr) (cv:Int),e=.returned (.tuple #[.pointer fp,.int .i64 cv,.int .i64 10])/\Same w H):=qH fun e1 H=>by unfold pH;rw [e]
   generalize pH bs w=R at *;have j1:(n:Int)<16:=qO;clear hb hN e;go_enter Tryz.func161,Tryz.ntmps161;go_wp2
   go_ret3
   exact (HR.out _ _).2 ⟨_,_,rfl,eA _ _⟩
 have j1:¬ (n:Int)<16:=qO;clear hb hN;go_enter Tryz.func161,Tryz.ntmps161;have D:pA w F A 16 c (bs.take 16):=pA.head HB.out qO;have E:pA w F A 12 c (bs.take 12):=pA.head HB.out qO;have hc:=HB.le;have j2:¬ (c:Int)<16:=qO;have j3:¬ (c:Int)<12:=qO;have G:=qH E;have HK:=qH (gM D qD);clear D E;go_wp2_with fail;refine HK.mono ?_;rintro e w1 ⟨r,rfl,hr,y,ah⟩;have hF:¬ (w.heap.size<=r/\r≠r):=fun h=>h.2 rfl;generalize ag:(fun b=>w.heap.size<=b/\b≠r)=FF at y;have j:Hid (¬ FF r):=qH (by rw [<- ag];exact hF);have Y:=qH ah;have u:(bs.take 16).length=16:=by rw [RB,HL.out];omega
 obtain ⟨b0,z⟩:=qx (bs.take 16);rw [z] at y u;have Z:=qH y;have g:=qH u;clear y ah ag hF u;go_wp2_with fail;refine (rawN Z j (by rw [g.out];decide) 4 (by rw [g.out];decide)).mono ?_;rintro e w2 ⟨A2,c2,rfl,ai,aj,ak⟩;have a0:=qH (show b0.take 4=bs.take 4 by rw [<- z,List.take_take];rfl);have a1:Hid (Same w w2):=qH (Y.trans ak fun b hb t=>qO);have a2:=zI ai.out;obtain ⟨m4,d⟩:∃ m,b0.take 4=m:=⟨_,rfl⟩
 have a3:=qH d;rw [d] at a2;clear ak Z Y ai d;go_wp2_with fail;refine (numN aj j 1 qD (by rw [QA,g.out];decide)).mono ?_;rintro e w3 ⟨o,rfl,al,b3,am,an⟩;have a4:=qH al;have k3:(0:Int)<=(o:Int)/\(o:Int)<=255:=qO;have a5:Hid (Same w w3):=qH (a1.trans an fun b hb t=>qO);clear a2 an aj a1 al b3;go_wp2_with fail;refine (numN am j 1 qD (by rw [QA,QA,g.out];decide)).mono ?_;rintro e w4 ⟨p,rfl,ao,b4,ap,aq⟩;have a6:=qH ao;have k4:(0:Int)<=(p:Int)/\(p:Int)<=255:=qO;have a7:Hid (Same w w4):=qH (a5.trans aq fun b hb t=>qO);clear aq am a5 ao b4;go_wp2_with fail;refine (numN ap j 2 qD (by rw [QA,QA,QA,g.out];decide)).mono ?_;rintro e B ⟨a,rfl,ar,b5,V,au⟩;have a8:=qH ar;have k5:(0:Int)<=(a:Int)/\(a:Int)<=65535:=qO;have L:Hid (Same w B):=qH (a7.trans au fun b hb t=>qO);clear au ap a7 ar b5;go_wp2_with fail;have a9:Hid (Blk (B.alloc (.cells #[.int .i64 (o:Int),.int .i64 (p:Int),.int .i64 (a:Int),.slice none 0 0,.int .i64 0,.int .i64 0] 171)) B.heap.size 171 #[.int .i64 (o:Int),.int .i64 (p:Int),.int .i64 (a:Int),.slice none 0 0,.int .i64 0,.int .i64 0]):=qH (jA B _ _);have O:=qH ((iA B).alloc (.cells #[.int .i64 (o:Int),.int .i64 (p:Int),.int .i64 (a:Int),.slice none 0 0,.int .i64 0,.int .i64 0] 171));generalize (B.alloc (.cells #[.int .i64 (o:Int),.int .i64 (p:Int),.int .i64 (a:Int),.slice none 0 0,.int .i64 0,.int .i64 0] 171))=w6 at *;have aa:=qH (V.same O);have ab:=qH (L.trans O qe);have P:Hid (w.heap.size<=B.heap.size/\r≠B.heap.size):=qH ⟨L.size,fun e=>JH _ (e ▸ V.lt)⟩;generalize B.heap.size=fb at *;clear V L O;refine (numN aa j 4 qD (by rw [QA,QA,QA,QA,g.out];decide)).mono ?_;rintro e w7 ⟨f,rfl,av,b6,aw,W⟩;have ac:=qH av;have k7:(0:Int)<=(f:Int)/\(f:Int)<=4294967295:=qO;have S:Hid (Same w w7):=qH (ab.trans W fun b hb t=>qO);have ad:Hid (Blk w7 fb 171 #[.int .i64 (o:Int),.int .i64 (p:Int),.int .i64 (a:Int),.slice none 0 0,.int .i64 0,.int .i64 0]):=qH (a9.upd W fun e=>P.2 e.symm);clear W aa ab av b6 a9;obtain ⟨v,X⟩:∃ N,be ((((((b0.drop 4).drop 1).drop 1).drop 2).drop 4).take 4)=N:=⟨_,rfl⟩
 obtain ⟨sm,C⟩:∃ m,(crcS (bs.take 12)).toNat=m:=⟨_,rfl⟩
 have b1:sm<4294967296:=by rw [<- C];exact (crcS (bs.take 12)).isLt
 have T:=qH fun I (t:Same w7 I)=>(numN (aw.same t) j 4 qD (by simp only [QA];rw [g.out];decide)).mono fun e H ⟨N,h1,h2,h3,_,h5⟩=>(show e=Ending.returned (.int .u64 (v:Int))/\v<4294967296/\Hid (Same w H)/\Hid (Upd (fun b=>b=r) w7 H) from by
  have e1:N=v:=by rw [<- h2,<-X]
  subst e1;exact ⟨h1,h3,qH (S.trans ((t.mono qe).trans h5 qf) fun b hb t=>qO),qH ((t.mono qe).trans h5 qf)⟩)
 have U:=qH fun I (t:Same w I)=>(LW I (G.same t) (HN.same t)).mono fun e H ⟨h1,h2⟩=>(show e=Ending.returned (.int .u32 (sm:Int))/\I=H from by rw [h1,C];exact ⟨rfl,h2⟩)
 have HH:Hid (fE bs=if m4≠vI then .error 90 else if v≠sm then .error 91 else if a<2\/255<a then .error 4 else if 65536<f\/n≠16+f*a then .error 92 else .ok (o,p,a,f)):=qH (by have e1:=a3.symm.trans a0.out;have e3:=a4.out;have e4:=a6.out;have e5:=a8.out;have e7:=ac.out;have e8:=X;rw [<- z] at e3 e4 e5 e7 e8;simp only [dD] at e3 e4 e5 e7 e8;rw [cut16 bs qD] at e3 e4 e5 e7 e8;unfold fE;rw [aA (by rw [HL.out];exact az),HL.out,<-e1,C];rw [e3,e4,e5,e7,e8])
 clear X C b1 z a4 a6 a8 ac a3 a0;by_cases d:m4=vI
 · have ae:(m4==[83,82,69,67])=true:=jE.2 d;have x:Hid (fE bs=if v≠sm then .error 91 else if a<2\/255<a then .error 4 else if 65536<f\/n≠16+f*a then .error 92 else .ok (o,p,a,f)):=qH (HH.trans (aA (not_not_intro d)));clear d HH;go_upto_region 9 with fail;go_cut [33] from 33 to 40 (fun b7 I=>∃ q:Bool,b7=.bool q/\Hid (q=true↔v≠sm)/\Hid (Same w I)/\Hid (Upd (fun b=>b=r) w7 I))
   case first =>
    go_region_with (first | (go_at_call 166;refine (T.out _ (by first | exact eA _ _ | exact (eA _ _).drew)).mono ?_;rintro e w8 ⟨rfl,bc,ax,b8⟩;have k8:(0:Int)<=(v:Int)/\(v:Int)<=4294967295:=qO) | (go_at_call 112;refine (U.out _ (by exact ax)).mono ?_;rintro e wz ⟨rfl,rfl⟩))
    all_goals go_wp2
    all_goals go_meet
    all_goals exact ⟨_,rfl,qH (by have b2:IntKind.u32.wrap (v:Int)=(v:Int):=IntWalk.u32_in _ ⟨qO,qO⟩;rw [b2,qC];omega),ax,b8⟩
   obtain ⟨q,rfl,HQ,s,ay⟩:=hcut;have af:Hid (Blk wc fb 171 #[.int .i64 (o:Int),.int .i64 (p:Int),.int .i64 (a:Int),.slice none 0 0,.int .i64 0,.int .i64 0]):=qH (ad.upd ay fun e=>P.2 e.symm);clear T U ad ay aw S G ae;cases q with
   | true =>
     have k:Hid (fE bs=.error 91):=qH (x.trans (gA (HQ.1 rfl)));clear x;go_wp2
     go_ret3
     unfold pH;rw [k.out];exact ⟨_,_,rfl,s⟩
   | false =>
     have l:Hid (fE bs=if a<2\/255<a then .error 4 else if 65536<f\/n≠16+f*a then .error 92 else .ok (o,p,a,f)):=qH (x.trans (aA fun h=>by have:=HQ.2 h;cases this));clear x HQ;have q2:=af.c2;by_cases h2:a<2
     · have l2:(a:Int)<2:=qO;have k:Hid (fE bs=.error 4):=qH (l.trans (gA (.inl h2)));clear l;go_wp2
       go_ret3
       unfold pH;rw [k.out];exact ⟨_,_,rfl,s⟩
     have l2:¬ (a:Int)<2:=qO;by_cases h3:255<a
     · have l3:¬ (a:Int)<=255:=qO;have k:Hid (fE bs=.error 4):=qH (l.trans (gA (.inr h3)));clear l;go_wp2
       go_ret3
       unfold pH;rw [k.out];exact ⟨_,_,rfl,s⟩
     have l3:(a:Int)<=255:=qO;have i:Hid (fE bs=if 65536<f\/n≠16+f*a then .error 92 else .ok (o,p,a,f)):=qH (l.trans (aA fun h=>qO));clear l;by_cases h4:65536<f
     · have l4:¬ (f:Int)<=65536:=qO;have k:Hid (fE bs=.error 92):=qH (i.trans (gA (.inl h4)));clear i;go_wp2
       go_ret3
       unfold pH;rw [k.out];exact ⟨_,_,rfl,s⟩
     have l4:(f:Int)<=65536:=qO;obtain ⟨M,hM⟩:=qx (f*a);have b9:(f:Int)*(a:Int)=(M:Int):=by rw [<- hM];exact (Int.natCast_mul _ _).symm
     have ba:M<=65536*255:=by rw [<- hM];exact Nat.mul_le_mul qO qO
     have bb:IntKind.i64.wrap (M:Int)=(M:Int):=kF _ ⟨qO,qO⟩;rw [hM] at i;clear hM;by_cases h5:n=16+M
     · have k:Hid (fE bs=.ok (o,p,a,f)):=qH (i.trans (aA fun h=>qO));have l5:(n:Int)=16+(M:Int):=qO;clear i;go_wp2
       go_ret3
       unfold pH;rw [k.out];exact ⟨fb,rfl,P.1,af,s⟩
     have k:Hid (fE bs=.error 92):=qH (i.trans (gA (.inr h5)));have l5:((n:Int) != 16+(M:Int))=true:=qC.2 qO;clear i;go_wp2
     go_ret3
     unfold pH;rw [k.out];exact ⟨_,_,rfl,s⟩
 have ae:(m4==[83,82,69,67])=false:=WC.2 d;have k:Hid (fE bs=.error 90):=qH (HH.trans (gA d));clear d HH T U;go_wp2
 go_ret3
 unfold pH;rw [k.out];exact ⟨_,_,rfl,S⟩
theorem wQ (bs:List UInt8):wI bs=match fE bs with
 | .error e=>.error e
 | .ok (k,v,z,n)=>match YF z n (bs.drop 16) with | .error e=>.error e | .ok rs=>.ok ⟨k,v,z,rs⟩:=by
 unfold wI fE;by_cases a:bs.length<16
 · rw [gA a,gA a]
 rw [aA a,aA a];by_cases b:bs.take 4≠vI
 · rw [gA b,gA b]
 rw [aA b,aA b];by_cases c:be ((bs.drop 12).take 4)≠(crcS (bs.take 12)).toNat
 · rw [gA c,gA c]
 rw [aA c,aA c];by_cases d:be ((bs.drop 6).take 2)<2\/255<be ((bs.drop 6).take 2)
 · rw [gA d,gA d]
 rw [aA d,aA d];by_cases f:65536<be ((bs.drop 8).take 4)\/bs.length≠16+be ((bs.drop 8).take 4)*be ((bs.drop 6).take 2)
 · rw [gA f,gA f]
 rw [aA f,aA f];cases hr:YF (be ((bs.drop 6).take 2)) (be ((bs.drop 8).take 4)) (bs.drop 16) <;> simp only [hr]
theorem Zuf {v:Nat} (h:fE bs=.ok (k,v,z,n)):bs.length=16+n*z/\2<=z/\z<=255/\n<=65536/\k<=255/\v<=255:=by
 unfold fE at h;split at h
 · cases h
 split at h
 · cases h
 split at h
 · cases h
 split at h
 · cases h
 split at h
 · cases h
 rename_i j l m d c;have h:=Except.ok.inj h;simp only [QI] at h;obtain ⟨e,f,g,i⟩:=h;have a:=pG ((bs.drop 4).take 1);have b:=pG ((bs.drop 5).take 1);rw [RB,QA,IJ qO] at a b;rw [e] at a;rw [f] at b;rw [g] at d c;rw [i] at c;exact ⟨qO,qO,qO,qO,qO,qO⟩
theorem OX {er:Int} (h:fE bs=.error er):er≠0:=by
 unfold fE at h;split at h
 · cases h;decide
 split at h
 · cases h;decide
 split at h
 · cases h;decide
 split at h
 · cases h;decide
 split at h
 · cases h;decide
 cases h
theorem PX (z:Nat):∀ (m:Nat) (b:List UInt8) (rs:List (Option (List UInt8))),(qE z m b).map recP=rs.map Except.ok->YF z m b=.ok rs
 | 0,b,rs,h=>by
   have:rs=[]:=by simpa [qE] using h.symm
   rw [this];rfl
 | m+1,b,rs,h=>by
   cases rs with
   | nil=>simp [qE] at h
   | cons r rs =>
     rw [qE,CB,CB] at h;have a:=(lI h).1;have c:=PX z m _ rs (lI h).2;rw [YF,a,c]
theorem QX (z:Nat):∀ (m:Nat) (b:List UInt8) (f:List (List UInt8)) (x:List UInt8) (rs:List (Option (List UInt8))) (er:Int) (k:Nat),
 f++[x]=(qE z m b).take k->f.map recP=rs.map Except.ok->recP x=.error er->YF z m b=.error er
 | 0,b,f,x,rs,er,k,h,_,_=>by simp [qE] at h
 | m+1,b,f,x,rs,er,0,h,_,_=>by simp at h
 | m+1,b,[],x,rs,er,k+1,h,_,h2=>by rw [qE,pL,SB] at h;have a:=(lI h).1;rw [YF,<-a,h2]
 | m+1,b,y::f,x,[],er,k+1,_,a,_=>by simp at a
 | m+1,b,y::f,x,r::rs,er,k+1,h,a,h2=>by rw [qE,pL,EB] at h;have c:=(lI h).1;rw [CB,CB] at a;have d:=(lI a).1;have e:=QX z m _ f x rs er k (lI h).2 (lI a).2 h2;rw [YF,<-c,d,e]
theorem ZvC {a:UInt8} (h:1<a.toNat):recP (a::l)=.error 93:=by simp only [recP];rw [gA h]
theorem Zug {a:UInt8} (h:a.toNat=1):recP (a::l)=.ok (some l):=by simp only [recP];rw [aA qO,gA h]
theorem Zsk {a:UInt8} (h:a.toNat=0) (hf:pE (a::l)=true):recP (a::l)=.ok none:=by
 have b:pE l=true:=by unfold pE at hf ⊢;rw [List.all_cons,kB] at hf;exact hf.2
 simp only [recP];unfold pE at b;rw [aA qO,aA qO,gA b]
theorem Zuh {a:UInt8} (h:a.toNat=0) (hf:pE (a::l)=false):recP (a::l)=.error 94:=by
 have c:a=0:=vL.1 (by rw [h];rfl);have b:pE l=false:=by unfold pE at hf ⊢;rw [List.all_cons,c] at hf;simpa using hf
 simp only [recP];unfold pE at b;rw [aA qO,aA qO,aA (by rw [b];simp)]
theorem LetsOut.not (h:∀ a w,¬ Q .outgrown a w):¬ LetsOut Q:=fun ⟨a,w,b⟩=>h a w b
abbrev cG:=@LetsOut.not
theorem Zjj {l:Nat} {o:Oper} {K K':Act->World->Prop} (hd:∀ c,o.op≠.defer c) (hK:∀ a w,K a w->K' a w) (h:o.wp P a w K Q):o.wpIn (Fence.wide.inRound l) n P a w K' Q:=by
 refine ⟨fun _ _=>trivial,?_⟩;rw [Oper.semAt_eq _ _ _ hd];unfold Oper.wp at h;generalize (execOp a.eval o).run P w=r at *;have b:((Fence.wide.inRound l).depth.isSome=true->1<=n):=fun h=>by simp [Fence.wide] at h
 cases r with
 | ok x w' =>
   cases x <;> simp only [Oper.upon,Oper.uponIn] at h ⊢
   all_goals first
    | exact hK _ _ h
    | exact ⟨b,(CallsIn.inRound l (ZB.2 h)).mono fun e d f=>by cases e <;> first | exact hK _ _ f | exact f⟩
    | exact ⟨b,fun c g _=>let ⟨v,d,r,s⟩:=h c g;⟨v,d,hK _ _ r,stepsIn_wide.2 s⟩⟩
    | exact h
 | halt x w' =>
   cases x <;> simp only [Oper.upon,Oper.uponIn] at h ⊢
   all_goals exact h
theorem xQ {l:Nat} {d:Array Oper} (hd:∀ (i:Nat) (o:Oper),d[i]?=some o->∀ c,o.op≠.defer c) (hQ:¬ LetsOut Q):∀ (L:List Nat) (a:Act) (w:World),wpOps P d Q L a w->wpOpsIn (Fence.wide.inRound l) n P d Q L a w
 | [],a,w,h=>h
 | i::rest,a,w,h=>by
   unfold wpOps at h;unfold wpOpsIn;cases ho:d[i]? with
   | none =>
     simp only [ho] at h ⊢;exact xQ hd hQ rest a w h
   | some o =>
     simp only [ho] at h ⊢;split at h
     · rename_i b;rw [gA b];rcases h with h | h
       · exact Zjj (hd i o ho) (xQ hd hQ rest) h
       exact absurd h.2 hQ
     rename_i b;rw [aA b];exact ⟨fun _ _=>trivial,xQ hd hQ rest _ w h⟩
def RX (ops:Array Oper):Bool:=ops.toList.all fun o=>match o.op with | .defer _=>false | _=>true
theorem ZqB {f:Array Oper} (h:RX f=true) (i:Nat) (o:Oper) (ho:f[i]?=some o) (c):o.op≠.defer c:=fun e=>by
 have a:=EG.1 h o (by have:=sC.1 ho;obtain ⟨b,d⟩:=this;rw [<- d];exact Array.getElem_mem_toList b)
 rw [e] at a;cases a
section
variable {P:Program} {ops:Array Oper} {Q:Exit->Act->World->Prop}
theorem dG {l:Nat} (k:Nat) (S:World->Prop) (hm:P.follows .mixedOrders=true) (hd:RX ops=true) (hQ:¬ LetsOut Q) (hS:S w.drew) (h:S w.drew->ESt P .any ops Q S k ops.size (Array.replicate ops.size false) a w.drew):
 (Code.region id ops true).wpIn (Fence.wide.inRound l) n P Q a w :=
 wpIn_region_draw fun t=>xQ (ZqB hd) hQ _ _ _ (by simp only [Region.schedule,hm,Bool.true_or,lG];refine wpAny_sound ops.size t _ a _ (BT _ _ _ _ (h hS ?_));exact ⟨qS,fun j d _ b=>(by rw [getD_replicate_false] at b;cases b),fun t _ c=>getD_in (by simpa using c) (getD_replicate_false _ _)⟩)
theorem IT {l:Nat} {b:Bool} (h:(Code.region id ops b).wpIn (Fence.wide.inRound l) n P (NoPanic Q) a w):(Code.region id ops b).wpIn (Fence.wide.inRound l) n P Q a w :=
 fun b k c d f g=>let ⟨e,a',w',q,r⟩:=h b k c d f g;⟨e,a',w',NoPanic.imp _ _ _ q,r⟩
end
end Go.Proofs.YtmkjfhnlnhceiaaGreatDoor
