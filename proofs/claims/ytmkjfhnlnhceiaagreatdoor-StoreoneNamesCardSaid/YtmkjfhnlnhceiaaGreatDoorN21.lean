/- Texts that the claim leans on: walks and plain laws, function by function. -/
import Derived.Test.YtmkjfhnlnhceiaaGreatDoorN20
set_option maxRecDepth 100000
set_option maxHeartbeats 16000000
namespace Go.Proofs.YtmkjfhnlnhceiaaGreatDoor
open Go.RowKit
theorem ZjM {F F':Nat->Prop} {A A':Option Addr} {n c n' c':Nat} {ls ms:List ByteArray} (w:World) (h:WRow w F 1 A n c (ls.map Value.string)) (h':WRow w F' 1 A' n' c' (ms.map Value.string)) {r:Bool} (hr:ZbD eqS ls ms=r) :
 Calls Tryz.prog 34 #[.slice A n c,.slice A' n' c'] w fun e w'=>e=.returned (.bool r)/\Same w w':=by
 have v:=qH (show ls.length=n from by have:=h.len;simpa using this);have g:=qH (show ms.length=n' from by have:=h'.len;simpa using this);have l:=h.max;have z:=h.le;have f:=h'.max;have m:=h'.le;unfold maxLen at l f;have T:n<=9223372036854775807:=qO;have L:n'<=9223372036854775807:=qO;clear l f z m;have M:=qH h;have B:=qH h';have E:=qH hr;clear h h' hr;by_cases i:n=n'
 · subst i;go_enter Tryz.func34,Tryz.ntmps34;go_wp2_with fail;go_loopg [5] n (fun O P wr=>∃ k:Nat,n-k=O/\k<=n/\P=.int .i64 k/\Hid (Same w wr)/\Hid (ZbD eqS (ls.drop k) (ms.drop k)=r))
   case atStart=>exact ⟨0,rfl,Yah _,rfl,qH (Yaa _ _),E⟩
   obtain ⟨k,rfl,D,rfl,p,H⟩:=hrel;by_cases d:k<n
   · obtain ⟨b,o,u,rfl,U,_,I,V⟩:=(M.same p).at_ d;obtain ⟨W,X,Y,rfl,R,_,q,S⟩:=(B.same p).at_ d;obtain ⟨x,s⟩:∃ x,ls[k]?=some x:=⟨_,Yar (by rw [v.out];exact d)⟩
     obtain ⟨y,t⟩:∃ y,ms[k]?=some y:=⟨_,Yar (by rw [g.out];exact d)⟩
     rw [Yau,s] at I;rw [Yau,t] at q;cases I;cases q;have a:=H.out;rw [Zfq s t] at a;cases hs:eqS x y with
     | false =>
       rw [hs,YbN] at a;subst a;have j:(x.toList==y.toList)=false:=hs;have C:(!(x.toList==y.toList))=true:=by rw [j];rfl
       clear s t hs;go_wp2_with fail;go_quiet (fail);go_wp2;go_ret;exact ⟨rfl,p.drewN _⟩
     | true =>
       rw [hs,YbP] at a;have N:=qH a;have j:(x.toList==y.toList)=true:=hs;have C:(!(x.toList==y.toList))=false:=by rw [j];rfl
       clear s t hs a;go_wp2_with fail;go_quiet (fail);go_wp2;go_roundg (n-(k+1))
       case measure=>omega
       case rel=>exact ⟨k+1,rfl,qO,by go_num,qH (p.drewN _),N⟩
   have a:=H.out;rw [Ybt (by rw [v.out];omega),Ybt (by rw [g.out];omega)] at a;simp only [ZbD] at a;subst a;go_wp2;go_ret;exact ⟨rfl,p⟩
 have G:((n:Int) != (n':Int))=true:=by rw [Ybh];omega
 have D:=E.out;rw [ZeF (by rw [v.out,g.out];exact i)] at D;subst D;clear i;go_enter Tryz.func34,Tryz.ntmps34;go_wp2;go_ret;exact ⟨rfl,Yaa _ _⟩
theorem ZnO {w wx:World} {b p b' p':Nat} {k a0 a1 a2 a3 a4 k' a0' a1' a2' a3' a4':Value} (h:Hid (PrAt w b p k a0 a1 a2 a3 a4)) (h':Hid (PrAt w b' p' k' a0' a1' a2' a3' a4')) (hb:b<w.heap.size) (hb':b'<w.heap.size) (hs:Same w wx) :
 Same w wx/\PrAt wx b p k a0 a1 a2 a3 a4/\PrAt wx b' p' k' a0' a1' a2' a3' a4':=⟨hs,h.same hb hs,h'.same hb' hs⟩
theorem ZeV {F F':Nat->Prop} {A A':Option Addr} {n c n' c':Nat} {ls ms:List PR} (w:World) (h:RdPs w F A n c ls) (h':RdPs w F' A' n' c' ms) {r:Bool} (hr:ZbD Zeq (ls.map PR.dat) (ms.map PR.dat)=r) :
 Calls Tryz.prog 35 #[.slice A n c,.slice A' n' c'] w fun e w'=>e=.returned (.bool r)/\Same w w':=by
 have HL:=qH h.len;have q:=qH h'.len;have s:=h.row.max;have T:=h.row.le;have g:=h'.row.max;have t:=h'.row.le;unfold maxLen at s g;have hn:n<=9223372036854775807:=qO;have a4:n'<=9223372036854775807:=qO;clear s g T t;have HR:=qH h;have u:=qH h';have HE:=qH hr;clear h h' hr;by_cases l:n=n'
 · subst l;go_enter Tryz.func35,Tryz.ntmps35;go_wp2_with fail;go_loopg [5] n (fun gh ix wr=>∃ k:Nat,n-k=gh/\k<=n/\ix=.int .i64 k/\Hid (Same w wr)/\Hid (ZbD Zeq ((ls.map PR.dat).drop k) ((ms.map PR.dat).drop k)=r))
   case atStart=>exact ⟨0,rfl,Yah _,rfl,qH (Yaa _ _),HE⟩
   obtain ⟨k,rfl,X,rfl,i,KE⟩:=hrel;by_cases v:k<n
   · obtain ⟨b,o,x,rfl,hb,_,hx,G,Y,Z,r2,r3,r4,r5⟩:=(HR.same i).at_ v;obtain ⟨b',o',y,rfl,a0,_,hy,H,L,q1,q2,q3,q4,q5⟩:=(u.same i).at_ v;have a:=KE.out;rw [Zfq (f:=Zeq) (x:=x.dat) (y:=y.dat) (by rw [Yau,hx];rfl) (by rw [Yau,hy];rfl)] at a;have z:=qH ((HR.val x G).mono (F':=fun _=>True) fun _ _ _=>trivial);have B:=qH ((u.val y H).mono (F':=fun _=>True) fun _ _ _=>trivial);clear hx hy G H;obtain ⟨m,⟨M,N,O,x3,x4⟩,X1,a1,b1,X2,a2,b2⟩:=x;obtain ⟨p,⟨P,R,S,y3,y4⟩,Y1,d1,e1,Y2,d2,e2⟩:=y;simp only at Y Z r2 r3 r4 r5 L q1 q2 q3 q4 q5;have HP:=qH (show PrAt wr b (o+k*6) (.string m) (.int .i64 M) (.int .i64 N) (.string O) (.slice X1 a1 b1) (.slice X2 a2 b2) from ⟨Y,Z,r2,r3,r4,r5⟩);have C:=qH (show PrAt wr b' (o'+k*6) (.string p) (.int .i64 P) (.int .i64 R) (.string S) (.slice Y1 d1 e1) (.slice Y2 d2 e2) from ⟨L,q1,q2,q3,q4,q5⟩);clear Y Z r2 r3 r4 r5 L q1 q2 q3 q4 q5;replace a:((m.toList==p.toList && Zgi ⟨M,N,O,x3,x4⟩ ⟨P,R,S,y3,y4⟩) && ZbD Zeq ((ls.map PR.dat).drop (k+1)) ((ms.map PR.dat).drop (k+1)))=r:=a;cases j:(m.toList==p.toList) with
     | false =>
       rw [j,YbN,YbN] at a;subst a;have U:(!(m.toList==p.toList))=true:=by rw [j];rfl
       obtain ⟨p0,_,_,_,_,_⟩:=HP.out;obtain ⟨L,_,_,_,_,_⟩:=C.out;go_wp2_with fail;go_quiet (fail);go_wp2;go_ret;exact ⟨rfl,i.drewN _⟩
     | true =>
       rw [j,YbP] at a;have U:(!(m.toList==p.toList))=false:=by rw [j];rfl
       obtain ⟨sb,d⟩:∃ sb,Zgi ⟨M,N,O,x3,x4⟩ ⟨P,R,S,y3,y4⟩=sb:=⟨_,rfl⟩
       rw [d] at a;have HK:=qH a;have a5:=qH d;have D:=qH (z.same i);have E:=qH (B.same i);have V:=qH (Zuh fun I j=>Zps I (D.same j) (E.same j));simp only at V;rw [d] at V;clear a d z B;go_upto_region 6 with fail;have a6:Same wr wr.drew:=(Yaa _ wr).drew;go_region_held3 (fun I=>Same wr I/\PrAt I b (o+k*6) (.string m) (.int .i64 M) (.int .i64 N) (.string O) (.slice X1 a1 b1) (.slice X2 a2 b2)/\PrAt I b' (o'+k*6) (.string p) (.int .i64 P) (.int .i64 R) (.string S) (.slice Y1 d1 e1) (.slice Y2 d2 e2)) (exact ZnO HP C hb a0 qA) (first
        | (go_at_call 80;refine (V.out _ qA).mono ?_;rintro e w' ⟨rfl,j⟩))
       all_goals
        cases sb with
        | true =>
          have a:=HK.out;rw [YbP] at a;have W:=qH a;clear a;go_wp2;go_roundg (n-(k+1))
          case measure=>omega
          case rel=>exact ⟨k+1,rfl,qO,by go_num,qH (i.same qA),W⟩
        | false =>
          have a:=HK.out;rw [YbN] at a;subst a;go_wp2;go_ret;exact ⟨rfl,i.same qA⟩
   have a:=KE.out;rw [Ybt (by rw [Yag,HL.out];omega),Ybt (by rw [Yag,q.out];omega)] at a;simp only [ZbD] at a;subst a;go_wp2;go_ret;exact ⟨rfl,i⟩
 have a3:((n:Int) != (n':Int))=true:=by rw [Ybh];omega
 have X:=HE.out;rw [ZeF (by rw [Yag,Yag,HL.out,q.out];exact l)] at X;subst X;clear l;go_enter Tryz.func35,Tryz.ntmps35;go_wp2;go_ret;exact ⟨rfl,Yaa _ _⟩
theorem Zvv {w wx:World} {ga gb b p b' p':Nat} {t:TypeId} {va vb x0 x1 x2 y0 y1 y2 ua ub:Value} (ha:Hid (Blk w ga t #[va,ua])) (hb:Hid (Blk w gb t #[vb,ub])) (hx:Hid (w.cell? ⟨b,p,none⟩=some x0/\w.cell? ⟨b,p+1,none⟩=some x1/\w.cell? ⟨b,p+2,none⟩=some x2)) (hy:Hid (w.cell? ⟨b',p',none⟩=some y0/\w.cell? ⟨b',p'+1,none⟩=some y1/\w.cell? ⟨b',p'+2,none⟩=some y2))
 (hbl:b<w.heap.size) (hbl':b'<w.heap.size) (hs:Same w wx) :
 Same w wx/\wx.cell? ⟨ga,0,none⟩=some va/\wx.cell? ⟨gb,0,none⟩=some vb/\(wx.cell? ⟨b,p,none⟩=some x0/\wx.cell? ⟨b,p+1,none⟩=some x1/\wx.cell? ⟨b,p+2,none⟩=some x2)/\(wx.cell? ⟨b',p',none⟩=some y0/\wx.cell? ⟨b',p'+1,none⟩=some y1/\wx.cell? ⟨b',p'+2,none⟩=some y2):=by
 have a:∀ b o,b<w.heap.size->wx.cell? ⟨b,o,none⟩=w.cell? ⟨b,o,none⟩:=fun b o h=>hs.cell (p:=⟨b,o,none⟩) h fun f=>f;refine ⟨hs,(ha.same hs).cell 0,(hb.same hs).cell 0,?_,?_⟩
 · rw [a _ _ hbl,a _ _ hbl,a _ _ hbl];exact hx
 rw [a _ _ hbl',a _ _ hbl',a _ _ hbl'];exact hy
theorem Zvw {w wx:World} {ga gb b p b' p':Nat} {t:TypeId} {va vb x0 x1 x2 x3 x4 y0 y1 y2 y3 y4 ua ub:Value} (ha:Hid (Blk w ga t #[ua,va])) (hb:Hid (Blk w gb t #[ub,vb]))
 (hx:Hid (w.cell? ⟨b,p,none⟩=some x0/\w.cell? ⟨b,p+1,none⟩=some x1/\w.cell? ⟨b,p+2,none⟩=some x2/\w.cell? ⟨b,p+3,none⟩=some x3/\w.cell? ⟨b,p+4,none⟩=some x4))
 (hy:Hid (w.cell? ⟨b',p',none⟩=some y0/\w.cell? ⟨b',p'+1,none⟩=some y1/\w.cell? ⟨b',p'+2,none⟩=some y2/\w.cell? ⟨b',p'+3,none⟩=some y3/\w.cell? ⟨b',p'+4,none⟩=some y4))
 (hbl:b<w.heap.size) (hbl':b'<w.heap.size) (hs:Same w wx) :
 Same w wx/\wx.cell? ⟨ga,1,none⟩=some va/\wx.cell? ⟨gb,1,none⟩=some vb/\(wx.cell? ⟨b,p,none⟩=some x0/\wx.cell? ⟨b,p+1,none⟩=some x1/\wx.cell? ⟨b,p+2,none⟩=some x2/\wx.cell? ⟨b,p+3,none⟩=some x3/\wx.cell? ⟨b,p+4,none⟩=some x4) /\
  (wx.cell? ⟨b',p',none⟩=some y0/\wx.cell? ⟨b',p'+1,none⟩=some y1/\wx.cell? ⟨b',p'+2,none⟩=some y2/\wx.cell? ⟨b',p'+3,none⟩=some y3/\wx.cell? ⟨b',p'+4,none⟩=some y4):=by
 have a:∀ b o,b<w.heap.size->wx.cell? ⟨b,o,none⟩=w.cell? ⟨b,o,none⟩:=fun b o h=>hs.cell (p:=⟨b,o,none⟩) h fun f=>f;refine ⟨hs,(ha.same hs).cell 1,(hb.same hs).cell 1,?_,?_⟩
 · rw [a _ _ hbl,a _ _ hbl,a _ _ hbl,a _ _ hbl,a _ _ hbl];exact hx
 rw [a _ _ hbl',a _ _ hbl',a _ _ hbl',a _ _ hbl',a _ _ hbl'];exact hy
theorem ZoV (w:World) (o:Obj) (t:TypeId) (cs:Array Value):Blk ((w.alloc o).alloc (.cells cs t)) (w.heap.size+1) t cs:=by have h:=Yad (w.alloc o) t cs;rwa [Yav] at h
theorem ZnP {F F':Nat->Prop} (w:World) (g g':GR) (h:RdG w F g) (h':RdG w F' g') {r:Bool} (hr:ZsQ g.dat g'.dat=r) :
 Calls Tryz.prog 13 #[g.agg,g'.agg] w fun e w'=>e=.returned (.bool r)/\Same w w':=by
 obtain ⟨ns,AN,s,cN,rs,AR,m,cR⟩:=g;obtain ⟨ak,M,N,A,V,O,P,B⟩:=g';replace hr:(ZbD ZhG (ns.map ND.dat) (ak.map ND.dat) && ZbD ZfI (rs.map RL.dat) (V.map RL.dat))=r:=hr;have an:=(Yaa (fun _=>False) w).alloc (.cells #[.slice AN s cN,.slice AR m cR] 26);have ao:=an.alloc (.cells #[.slice M N A,.slice O P B] 26);have ap:=(Yad w 26 #[.slice AN s cN,.slice AR m cR]).alloc (.cells #[.slice M N A,.slice O P B] 26);have ac:=Yad (w.alloc (.cells #[.slice AN s cN,.slice AR m cR] 26)) 26 #[.slice M N A,.slice O P B];rw [Yav] at ac;have HN:=qH (h.nodes.mono (F':=fun _=>True) fun _ _ _=>trivial);have u:=qH (h'.nodes.mono (F':=fun _=>True) fun _ _ _=>trivial);have HR:=qH (h.rels.mono (F':=fun _=>True) fun _ _ _=>trivial);have I:=qH (h'.rels.mono (F':=fun _=>True) fun _ _ _=>trivial);simp only at HN u HR I;have HL:=qH HN.len;have aq:=qH u.len;have HM:=qH HR.len;have ar:=qH I.len;have m1:=HN.row.max;have m2:=HN.row.le;have m3:=u.row.max;have m4:=u.row.le;have m5:=HR.row.max;have m6:=HR.row.le;have m7:=I.row.max;have m8:=I.row.le;unfold maxLen at m1 m3 m5 m7;have b7:s<=9223372036854775807:=qO;have b8:N<=9223372036854775807:=qO;have b9:m<=9223372036854775807:=qO;have ba:P<=9223372036854775807:=qO;clear m1 m2 m3 m4 m5 m6 m7 m8;have HE:=qH hr;have a8:=qH ao;have au:=qH ap;have av:=qH ac;clear h h' an ao ap ac hr;by_cases ad:s=N
 · subst ad;by_cases T:m=P
   · subst T;go_enter Tryz.func13,Tryz.ntmps13;go_wp2_with fail;generalize (w.alloc (.cells #[.slice AN s cN,.slice AR m cR] 26)).alloc (.cells #[.slice M s A,.slice O m B] 26)=w1 at *;go_loopg [5] s (fun gh C wr=>∃ i:Nat,s-i=gh/\i<=s/\C=.int .i64 i/\Hid (Same w wr)/\Hid (Blk wr w.heap.size 26 #[.slice AN s cN,.slice AR m cR])/\Hid (Blk wr (w.heap.size+1) 26 #[.slice M s A,.slice O m B]) /\
      Hid ((ZbD ZhG ((ns.map ND.dat).drop i) ((ak.map ND.dat).drop i) && ZbD ZfI (rs.map RL.dat) (V.map RL.dat))=r))
     case atStart=>exact ⟨0,rfl,Yah _,rfl,a8,au,av,HE⟩
     clear a8 au av HE;obtain ⟨i,rfl,hi,rfl,k,n,D,KE⟩:=hrel;have p1:=n.c0;by_cases L:i<s
     · obtain ⟨b,o,x,rfl,hb,_,hx,R,r0,r1,r2⟩:=(HN.same k).at_ L;obtain ⟨W,X,y,rfl,al,_,hy,S,q0,Y,E⟩:=(u.same k).at_ L;have v:=KE.out;rw [Zfq (f:=ZhG) (x:=x.dat) (y:=y.dat) (by rw [Yau,hx];rfl) (by rw [Yau,hy];rfl)] at v;have b2:=qH ((HN.same k).lab x R);have b3:=qH ((u.same k).lab y S);have ae:=qH ((HN.same k).pro x R);have af:=qH ((u.same k).pro y S);clear hx hy R S;obtain ⟨C,lx,aw,ax,ay,Z,a0,a1,a2⟩:=x;obtain ⟨iy,ly,az,b0,b1,a3,a4,a5,a6⟩:=y;simp only at r0 r1 r2 q0 Y E;have HX:=qH (And.intro r0 (And.intro r1 r2));have HY:=qH (And.intro q0 (And.intro Y E));have HK:=qH v;clear v r0 r1 r2 q0 Y E KE;go_upto_region 6 with fail;clear p1;have ag:Same wr wr.drew:=(Yaa _ wr).drew;go_cut [6,7] from 34 to 64 (fun s6 s7 d=>∃ g6 g7:Nat,s6=.pointer (some ⟨g6,0,none⟩)/\s7=.pointer (some ⟨g7,0,none⟩)/\Hid (Blk d g6 56 #[.int .i64 C,.slice aw ax ay,.slice a0 a1 a2])/\Hid (Blk d g7 56 #[.int .i64 iy,.slice az b0 b1,.slice a4 a5 a6])/\Hid (Same wr d))
       case first =>
        go_region_held3 (fun d=>Same wr d/\d.cell? ⟨w.heap.size,0,none⟩=some (.slice (some ⟨b,o,none⟩) s cN)/\d.cell? ⟨w.heap.size+1,0,none⟩=some (.slice (some ⟨W,X,none⟩) s A)/\(d.cell? ⟨b,o+i*3,none⟩=some (.int .i64 C)/\d.cell? ⟨b,o+i*3+1,none⟩=some (.slice aw ax ay)/\d.cell? ⟨b,o+i*3+2,none⟩=some (.slice a0 a1 a2)) /\
         (d.cell? ⟨W,X+i*3,none⟩=some (.int .i64 iy)/\d.cell? ⟨W,X+i*3+1,none⟩=some (.slice az b0 b1)/\d.cell? ⟨W,X+i*3+2,none⟩=some (.slice a4 a5 a6))) (exact Zvv n D HX HY hb al (by repeat (first | assumption | exact Yaa _ _ | refine Upd.drew ?_ | refine Ydt ?_ _))) (fail)
        all_goals go_wp2
        all_goals go_meet
        all_goals refine ⟨_,_,rfl,rfl,qH ?_,qH ?_,qH (((Yaa _ wr).alloc _).alloc _).drew⟩
        all_goals first
         | exact ((Yad _ _ _).alloc _).drew
         | exact (ZoV _ _ _ _).drew
       obtain ⟨g6,g7,rfl,rfl,p,q,H⟩:=hcut;have k0:=p.c0;have k1:=p.c1;have l0:=q.c0;have l1:=q.c1;have c:=qH (show (((decide (C=iy) && ZbD eqS lx ly) && ZbD Zeq (Z.map PR.dat) (a3.map PR.dat)) && ZbD ZhG ((ns.map ND.dat).drop (i+1)) ((ak.map ND.dat).drop (i+1)) && ZbD ZfI (rs.map RL.dat) (V.map RL.dat))=r from HK);clear HK ag;by_cases hid:C=iy
       · subst hid;obtain ⟨Y,am⟩:∃ Y,ZbD eqS lx ly=Y:=⟨_,rfl⟩
         have a:=c.out;rw [YaV rfl,YbP,am] at a;have b4:=qH am;have ah:=qH a;clear a am c;go_wp2_with fail;refine (ZjM wc (b2.same H) (b3.same H) b4).mono ?_;rintro e w8 ⟨rfl,ab⟩;have U:=qH (H.same ab);have m2:=(p.same ab).c2;have m3:=(q.same ab).c2;clear k0 k1 l0 l1 ab H;cases Y with
         | false =>
           have a:=ah.out;simp only [YbN] at a;subst a;go_wp2;go_ret;exact ⟨rfl,k.same U⟩
         | true =>
           obtain ⟨E,G⟩:∃ E,ZbD Zeq (Z.map PR.dat) (a3.map PR.dat)=E:=⟨_,rfl⟩
           have a:=ah.out;rw [YbP,G] at a;have ai:=qH G;have z:=qH a;clear a G ah;go_wp2_with fail;refine (ZeV w8 (ae.same U) (af.same U) ai).mono ?_;rintro e w9 ⟨rfl,a7⟩;have l:=qH (U.same a7);clear a7 U m2 m3;cases E with
           | false =>
             have a:=z.out;simp only [YbN] at a;subst a;go_wp2;go_ret;exact ⟨rfl,k.same l⟩
           | true =>
             have a:=z.out;rw [YbP] at a;have aj:=qH a;clear a z;go_wp2;go_roundg (s-(i+1))
             case measure=>omega
             case rel=>exact ⟨i+1,rfl,qO,by go_num,qH (k.same l),qH (n.same l),qH (D.same l),aj⟩
       have a:=c.out;rw [YaM hid] at a;simp only [YbN] at a;subst a;have t:((C:Int) != iy)=true:=by rw [Ybh];exact hid
       clear c hid;go_wp2;go_ret;exact ⟨rfl,k.same H⟩
     have b5:i=s:=qO;subst b5;have a:=KE.out;rw [Ybt (by rw [Yag,HL.out];exact Yae _),Ybt (by rw [Yag,aq.out];exact Yae _)] at a;simp only [ZbD,YbP] at a;have HK:=qH a;clear a KE L;obtain ⟨wo,rfl⟩:∃ wo:World,wo=wr:=⟨_,rfl⟩
     go_wp2_with fail;clear p1;go_loopg [8] m (fun gh C wr=>∃ j:Nat,m-j=gh/\j<=m/\C=.int .i64 j/\Hid (Same w wr)/\Hid (Blk wr w.heap.size 26 #[.slice AN i cN,.slice AR m cR])/\Hid (Blk wr (w.heap.size+1) 26 #[.slice M i A,.slice O m B]) /\
      Hid (ZbD ZfI ((rs.map RL.dat).drop j) ((V.map RL.dat).drop j)=r))
     case atStart=>exact ⟨0,rfl,Yah _,rfl,k,n,D,HK⟩
     clear k n D HK;obtain ⟨j,rfl,hj,rfl,k,n,D,KE⟩:=hrel;have p1:=n.c1;by_cases L:j<m
     · obtain ⟨b,o,x,rfl,hb,_,hx,R,r0,r1,r2,r3,r4⟩:=(HR.same k).at_ L;obtain ⟨W,X,y,rfl,al,_,hy,S,q0,Y,E,q3,q4⟩:=(I.same k).at_ L;have v:=KE.out;rw [Zfq (f:=ZfI) (x:=x.dat) (y:=y.dat) (by rw [Yau,hx];rfl) (by rw [Yau,hy];rfl)] at v;have ae:=qH ((HR.same k).pro x R);have af:=qH ((I.same k).pro y S);clear hx hy R S;obtain ⟨C,tx,sx,dx,Z,a0,a1,a2⟩:=x;obtain ⟨iy,ty,sy,dy,a3,a4,a5,a6⟩:=y;simp only at r0 r1 r2 r3 r4 q0 Y E q3 q4;have HX:=qH (And.intro r0 (And.intro r1 (And.intro r2 (And.intro r3 r4))));have HY:=qH (And.intro q0 (And.intro Y (And.intro E (And.intro q3 q4))));have HK:=qH v;clear v r0 r1 r2 r3 r4 q0 Y E q3 q4 KE;go_upto_region 12 with fail;clear p1;have ag:Same wr wr.drew:=(Yaa _ wr).drew;go_cut [9,10] from 72 to 115 (fun s6 s7 d=>∃ g6 g7:Nat,s6=.pointer (some ⟨g6,0,none⟩)/\s7=.pointer (some ⟨g7,0,none⟩)/\Hid (Blk d g6 60 #[.int .i64 C,.string tx,.int .i64 sx,.int .i64 dx,.slice a0 a1 a2])/\Hid (Blk d g7 60 #[.int .i64 iy,.string ty,.int .i64 sy,.int .i64 dy,.slice a4 a5 a6])/\Hid (Same wr d))
       case first =>
        go_region_held3 (fun d=>Same wr d/\d.cell? ⟨w.heap.size,1,none⟩=some (.slice (some ⟨b,o,none⟩) m cR)/\d.cell? ⟨w.heap.size+1,1,none⟩=some (.slice (some ⟨W,X,none⟩) m B) /\
         (d.cell? ⟨b,o+j*5,none⟩=some (.int .i64 C)/\d.cell? ⟨b,o+j*5+1,none⟩=some (.string tx)/\d.cell? ⟨b,o+j*5+2,none⟩=some (.int .i64 sx)/\d.cell? ⟨b,o+j*5+3,none⟩=some (.int .i64 dx)/\d.cell? ⟨b,o+j*5+4,none⟩=some (.slice a0 a1 a2)) /\
         (d.cell? ⟨W,X+j*5,none⟩=some (.int .i64 iy)/\d.cell? ⟨W,X+j*5+1,none⟩=some (.string ty)/\d.cell? ⟨W,X+j*5+2,none⟩=some (.int .i64 sy)/\d.cell? ⟨W,X+j*5+3,none⟩=some (.int .i64 dy)/\d.cell? ⟨W,X+j*5+4,none⟩=some (.slice a4 a5 a6))) (exact Zvw n D HX HY hb al (by repeat (first | assumption | exact Yaa _ _ | refine Upd.drew ?_ | refine Ydt ?_ _))) (fail)
        all_goals go_wp2
        all_goals go_meet
        all_goals refine ⟨_,_,rfl,rfl,qH ?_,qH ?_,qH (((Yaa _ wr).alloc _).alloc _).drew⟩
        all_goals first
         | exact ((Yad _ _ _).alloc _).drew
         | exact (ZoV _ _ _ _).drew
       obtain ⟨g6,g7,rfl,rfl,p,q,H⟩:=hcut;have k0:=p.c0;have k1:=p.c1;have k2:=p.c2;have k3:=p.c3;have k4:=p.c4;have l0:=q.c0;have l1:=q.c1;have l2:=q.c2;have l3:=q.c3;have l4:=q.c4;have c:=qH (show ((((decide (C=iy) && (tx.toList==ty.toList)) && decide (sx=sy)) && decide (dx=dy)) && ZbD Zeq (Z.map PR.dat) (a3.map PR.dat) && ZbD ZfI ((rs.map RL.dat).drop (j+1)) ((V.map RL.dat).drop (j+1)))=r from HK);clear HK ag;by_cases hid:C=iy
       · subst hid;cases htt:(tx.toList==ty.toList) with
         | false =>
           have a:=c.out;simp only [htt,decide_true,YbP,YbN] at a;subst a;have b6:(!(tx.toList==ty.toList))=true:=by rw [htt];rfl
           clear c;go_wp2;go_ret;exact ⟨rfl,k.same H⟩
         | true =>
           have b6:(!(tx.toList==ty.toList))=false:=by rw [htt];rfl
           by_cases a9:sx=sy
           · subst a9;by_cases aa:dx=dy
             · subst aa;obtain ⟨E,G⟩:∃ E,ZbD Zeq (Z.map PR.dat) (a3.map PR.dat)=E:=⟨_,rfl⟩
               have a:=c.out;simp only [htt,decide_true,YbP,G] at a;have ai:=qH G;have z:=qH a;clear a G c;go_wp2_with fail;refine (ZeV wc (ae.same H) (af.same H) ai).mono ?_;rintro e w9 ⟨rfl,a7⟩;have l:=qH (H.same a7);clear a7 k0 k1 k2 k3 k4 l0 l1 l2 l3 l4 H;cases E with
               | false =>
                 have a:=z.out;simp only [YbN] at a;subst a;go_wp2;go_ret;exact ⟨rfl,k.same l⟩
               | true =>
                 have a:=z.out;rw [YbP] at a;have aj:=qH a;clear a z;go_wp2;go_roundg (m-(j+1))
                 case measure=>omega
                 case rel=>exact ⟨j+1,rfl,qO,by go_num,qH (k.same l),qH (n.same l),qH (D.same l),aj⟩
             have a:=c.out;simp only [YaM aa,YcS,YbN] at a;subst a;have t:((dx:Int) != dy)=true:=by rw [Ybh];exact aa
             clear c aa;go_wp2;go_ret;exact ⟨rfl,k.same H⟩
           have a:=c.out;simp only [YaM a9,YcS,YbN] at a;subst a;have t:((sx:Int) != sy)=true:=by rw [Ybh];exact a9
           clear c a9;go_wp2;go_ret;exact ⟨rfl,k.same H⟩
       have a:=c.out;rw [YaM hid] at a;simp only [YbN] at a;subst a;have t:((C:Int) != iy)=true:=by rw [Ybh];exact hid
       clear c hid;go_wp2;go_ret;exact ⟨rfl,k.same H⟩
     have a:=KE.out;rw [Ybt (by rw [Yag,HM.out];omega),Ybt (by rw [Yag,ar.out];omega)] at a;simp only [ZbD] at a;subst a;go_wp2;go_ret;exact ⟨rfl,k⟩
   have t:((m:Int) != (P:Int))=true:=by rw [Ybh];omega
   have hk:=HE.out;rw [ZeF (f:=ZfI) (by rw [Yag,Yag,HM.out,ar.out];exact T),YcS] at hk;subst hk;clear T;go_enter Tryz.func13,Tryz.ntmps13;go_wp2;go_ret;exact ⟨rfl,a8⟩
 have t:((s:Int) != (N:Int))=true:=by rw [Ybh];omega
 have hk:=HE.out;rw [ZeF (f:=ZhG) (by rw [Yag,Yag,HL.out,aq.out];exact ad),YbN] at hk;subst hk;clear ad;go_enter Tryz.func13,Tryz.ntmps13;go_wp2;go_ret;exact ⟨rfl,a8⟩
theorem Zhp {s m:List ByteArray} (h:Srt s m):ZcT s (m.map fun x=>x.data.toList) where
 sorted:=by rw [Ydo];exact h.sorted.imp fun {a b} (c:ltS a b)=>List.le_of_lt c
 nodup:=by rw [List.nodup_iff_pairwise_ne,Ydo];refine h.sorted.imp fun {a b} (c:ltS a b) e=>?_;have d:a.data.toList<b.data.toList:=c;rw [e] at d;exact List.lt_irrefl _ d
 mem:=fun x=>by
  rw [Yba,<-h.mem];constructor
  · rintro ⟨y,f,rfl⟩;simpa using f
  intro g;exact ⟨_,g,by simp⟩
theorem Ztp {s m:List ByteArray} {l:List (List UInt8)} (h:ZcT s l) (h':Srt s m):l.map strV=m.map Value.string/\l.length=m.length:=by rw [h.unique (Zhp h'),Ybf,Yag];exact ⟨Ycq fun x _=>by simp [strV],rfl⟩
theorem ZoW {F:Nat->Prop} (w0 w:World) (g:GR) (hs:Same w0 w) (h:RdG w0 F g) (ht:ZhL g) (k:Int) (hT:(Zam g.dat k).length<=8796093022208) {m:List ByteArray} (hm:Srt (Zam g.dat k) m) :
 Calls Tryz.prog 39 #[g.agg,.int .i64 k] w fun e w'=>∃ (A:Option Addr) (c:Nat),e=.returned (.slice A m.length c)/\Hid (w'.ownsRow w.heap.size 9 1 (.slice A m.length c) m.length (m.map Value.string))/\Same w w'/\Same w0 w':=by
 refine (ZpU w g (h.same hs) ht k hT).mono ?_;rintro e w' ⟨v,l,rfl,d,a,b⟩;obtain ⟨f,i⟩:=Ztp d hm;rw [f,i] at a;obtain ⟨A,c,rfl⟩:=Zad a;exact ⟨A,c,rfl,qH a,b,hs.same b⟩
end Go.Proofs.YtmkjfhnlnhceiaaGreatDoor
