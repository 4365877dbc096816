/- Lemmas: walks and plain laws. -/
import Derived.Test.YtmkjfhnlnhceiaaGreatDoorF16
set_option maxRecDepth 100000
set_option maxHeartbeats 16000000
namespace Go.Proofs.YtmkjfhnlnhceiaaGreatDoor
variable {F F':Nat->Prop} {A A':Option Addr} {n c n' c' b p b' p' ga gb:Nat} {r:Bool} {w wx:World} {t:TypeId} {va vb x0 x1 x2 y0 y1 y2 ua ub:Value} {s m:List ByteArray} {tl:Int}
section
open Go.RowKit
theorem Zka {ls ms:List ByteArray} (w:World) (h:WRow w F 1 A n c (ls.map Value.string)) (h':WRow w F' 1 A' n' c' (ms.map Value.string)) (hr:xB eqS ls ms=r):
 Calls Tryz.prog 34 #[.slice A n c,.slice A' n' c'] w fun e w'=>e=.returned (.bool r)/\Same w w':=by
 have v:=qH (show ls.length=n from by have:=h.len;simpa using this);have g:=qH (show ms.length=n' from by have:=h'.len;simpa using this);have l:=h.max;have z:=h.le;have f:=h'.max;have m:=h'.le;unfold maxLen at l f;have T:n<=9223372036854775807:=qO;have L:n'<=9223372036854775807:=qO;clear l f z m;have M:=qH h;have B:=qH h';have E:=qH hr;clear h h' hr;by_cases i:n=n'
 · subst i;go_enter Tryz.func34,Tryz.ntmps34;go_wp2_with fail;go_loopg [5] n (fun O P wr=>∃ k:Nat,n-k=O/\k<=n/\P=.int .i64 k/\Hid (Same w wr)/\Hid (xB eqS (ls.drop k) (ms.drop k)=r))
   case atStart=>exact ⟨0,rfl,oA _,rfl,qH (eA _ _),E⟩
   obtain ⟨k,rfl,D,rfl,p,H⟩:=hrel;by_cases d:k<n
   · obtain ⟨b,o,u,rfl,U,_,I,V⟩:=(M.same p).at_ d;obtain ⟨W,X,Y,rfl,R,_,q,S⟩:=(B.same p).at_ d;obtain ⟨x,s⟩:∃ x,ls[k]?=some x:=⟨_,FA (by rw [v.out];exact d)⟩
     obtain ⟨y,t⟩:∃ y,ms[k]?=some y:=⟨_,FA (by rw [g.out];exact d)⟩
     rw [MA,s] at I;rw [MA,t] at q;cases I;cases q;have a:=H.out;rw [SJ s t] at a;cases hs:eqS x y with
     | false =>
       rw [hs,cD] at a;subst a;have j:(x.toList==y.toList)=false:=hs;have C:(!(x.toList==y.toList))=true:=by rw [j];rfl
       clear s t hs;go_wp2_with fail;go_quiet (fail);go_wp2;go_ret;exact ⟨rfl,p.drewN _⟩
     | true =>
       rw [hs,zD] at a;have N:=qH a;have j:(x.toList==y.toList)=true:=hs;have C:(!(x.toList==y.toList))=false:=by rw [j];rfl
       clear s t hs a;go_wp2_with fail;go_quiet (fail);go_wp2;go_roundg (n-(k+1))
       case measure=>omega
       case rel=>exact ⟨k+1,rfl,qO,qN,qH (p.drewN _),N⟩
   have a:=H.out;rw [BC (by rw [v.out];omega),BC (by rw [g.out];omega)] at a;simp only [xB] at a;subst a;go_wp2;go_ret;exact ⟨rfl,p⟩
 have G:((n:Int) != (n':Int))=true:=by rw [qC];omega
 have D:=E.out;rw [iJ (by rw [v.out,g.out];exact i)] at D;subst D;clear i;go_enter Tryz.func34,Tryz.ntmps34;go_wp2;go_ret;exact ⟨rfl,eA _ _⟩
theorem Zov {k a0 a1 a2 a3 a4 k' a c d e a4':Value} (h:Hid (PrAt w b p k a0 a1 a2 a3 a4)) (h':Hid (PrAt w b' p' k' a c d e a4')) (hb:b<w.heap.size) (f:b'<w.heap.size) (hs:Same w wx):
 Same w wx/\PrAt wx b p k a0 a1 a2 a3 a4/\PrAt wx b' p' k' a c d e a4':=⟨hs,h.same hb hs,h'.same f hs⟩
theorem XX {ls ms:List PR} (w:World) (h:RdPs w F A n c ls) (h':RdPs w F' A' n' c' ms) (hr:xB YD (ls.map PR.dat) (ms.map PR.dat)=r):
 Calls Tryz.prog 35 #[.slice A n c,.slice A' n' c'] w fun e w'=>e=.returned (.bool r)/\Same w w':=by
 have HL:=qH h.len;have q:=qH h'.len;have s:=h.row.max;have T:=h.row.le;have d:=h'.row.max;have t:=h'.row.le;unfold maxLen at s d;have hn:n<=9223372036854775807:=qO;have a4:n'<=9223372036854775807:=qO;clear s d T t;have HR:=qH h;have u:=qH h';have HE:=qH hr;clear h h' hr;by_cases j:n=n'
 · subst j;go_enter Tryz.func35,Tryz.ntmps35;go_wp2_with fail;go_loopg [5] n (fun gh ix wr=>∃ k:Nat,n-k=gh/\k<=n/\ix=.int .i64 k/\Hid (Same w wr)/\Hid (xB YD ((ls.map PR.dat).drop k) ((ms.map PR.dat).drop k)=r))
   case atStart=>exact ⟨0,rfl,oA _,rfl,qH (eA _ _),HE⟩
   obtain ⟨k,rfl,X,rfl,g,KE⟩:=hrel;by_cases v:k<n
   · obtain ⟨b,o,x,rfl,hb,_,hx,G,Y,Z,r2,r3,r4,r5⟩:=(HR.same g).at_ v;obtain ⟨b',o',y,rfl,a0,_,hy,H,L,q1,q2,q3,q4,q5⟩:=(u.same g).at_ v;have a:=KE.out;rw [SJ (f:=YD) (x:=x.dat) (y:=y.dat) (by rw [MA,hx];rfl) (by rw [MA,hy];rfl)] at a;have z:=qH ((HR.val x G).mono (F':=fun _=>True) fun _ _ _=>trivial);have B:=qH ((u.val y H).mono (F':=fun _=>True) fun _ _ _=>trivial);clear hx hy G H;obtain ⟨m,⟨M,N,O,x3,x4⟩,X1,a1,b1,X2,a2,b2⟩:=x;obtain ⟨p,⟨P,R,S,y3,y4⟩,Y1,d1,e1,Y2,d2,e2⟩:=y;simp only at Y Z r2 r3 r4 r5 L q1 q2 q3 q4 q5;have HP:=qH (show PrAt wr b (o+k*6) (.string m) (.int .i64 M) (.int .i64 N) (.string O) (.slice X1 a1 b1) (.slice X2 a2 b2) from ⟨Y,Z,r2,r3,r4,r5⟩);have C:=qH (show PrAt wr b' (o'+k*6) (.string p) (.int .i64 P) (.int .i64 R) (.string S) (.slice Y1 d1 e1) (.slice Y2 d2 e2) from ⟨L,q1,q2,q3,q4,q5⟩);clear Y Z r2 r3 r4 r5 L q1 q2 q3 q4 q5;replace a:((m.toList==p.toList && ID ⟨M,N,O,x3,x4⟩ ⟨P,R,S,y3,y4⟩) && xB YD ((ls.map PR.dat).drop (k+1)) ((ms.map PR.dat).drop (k+1)))=r:=a;cases i:(m.toList==p.toList) with
     | false =>
       rw [i,cD,cD] at a;subst a;have U:(!(m.toList==p.toList))=true:=by rw [i];rfl
       obtain ⟨p0,_,_,_,_,_⟩:=HP.out;obtain ⟨L,_,_,_,_,_⟩:=C.out;go_wp2_with fail;go_quiet (fail);go_wp2;go_ret;exact ⟨rfl,g.drewN _⟩
     | true =>
       rw [i,zD] at a;have U:(!(m.toList==p.toList))=false:=by rw [i];rfl
       obtain ⟨sb,l⟩:=qx (ID ⟨M,N,O,x3,x4⟩ ⟨P,R,S,y3,y4⟩);rw [l] at a;have HK:=qH a;have D:=qH (z.same g);have E:=qH (B.same g);have V:=qH (Zvi fun I i=>ZpY I (D.same i) (E.same i));simp only at V;rw [l] at V;clear a l z B;go_upto_region 6 with fail;have a5:Same wr wr.drew:=(eA _ wr).drew;go_region_held3 (fun I=>Same wr I/\PrAt I b (o+k*6) (.string m) (.int .i64 M) (.int .i64 N) (.string O) (.slice X1 a1 b1) (.slice X2 a2 b2)/\PrAt I b' (o'+k*6) (.string p) (.int .i64 P) (.int .i64 R) (.string S) (.slice Y1 d1 e1) (.slice Y2 d2 e2)) (exact Zov HP C hb a0 qA) (first
        | (go_at_call 80;refine (V.out _ qA).mono ?_;rintro e w' ⟨rfl,i⟩))
       all_goals
        cases sb with
        | true =>
          have a:=HK.out;rw [zD] at a;have W:=qH a;clear a;go_wp2;go_roundg (n-(k+1))
          case measure=>omega
          case rel=>exact ⟨k+1,rfl,qO,qN,qH (g.same qA),W⟩
        | false =>
          have a:=HK.out;rw [cD] at a;subst a;go_wp2;go_ret;exact ⟨rfl,g.same qA⟩
   have a:=KE.out;rw [BC (by rw [nA,HL.out];omega),BC (by rw [nA,q.out];omega)] at a;simp only [xB] at a;subst a;go_wp2;go_ret;exact ⟨rfl,g⟩
 have a3:((n:Int) != (n':Int))=true:=by rw [qC];omega
 have X:=HE.out;rw [iJ (by rw [nA,nA,HL.out,q.out];exact j)] at X;subst X;clear j;go_enter Tryz.func35,Tryz.ntmps35;go_wp2;go_ret;exact ⟨rfl,eA _ _⟩
theorem ZwG (ha:Hid (Blk w ga t #[va,ua])) (hb:Hid (Blk w gb t #[vb,ub])) (hx:Hid (w.cell? ⟨b,p,none⟩=some x0/\w.cell? ⟨b,p+1,none⟩=some x1/\w.cell? ⟨b,p+2,none⟩=some x2)) (hy:Hid (w.cell? ⟨b',p',none⟩=some y0/\w.cell? ⟨b',p'+1,none⟩=some y1/\w.cell? ⟨b',p'+2,none⟩=some y2))
 (c:b<w.heap.size) (d:b'<w.heap.size) (hs:Same w wx):
 Same w wx/\wx.cell? ⟨ga,0,none⟩=some va/\wx.cell? ⟨gb,0,none⟩=some vb/\(wx.cell? ⟨b,p,none⟩=some x0/\wx.cell? ⟨b,p+1,none⟩=some x1/\wx.cell? ⟨b,p+2,none⟩=some x2)/\(wx.cell? ⟨b',p',none⟩=some y0/\wx.cell? ⟨b',p'+1,none⟩=some y1/\wx.cell? ⟨b',p'+2,none⟩=some y2):=by
 have a:∀ b o,b<w.heap.size->wx.cell? ⟨b,o,none⟩=w.cell? ⟨b,o,none⟩:=fun b o h=>hs.cell (p:=⟨b,o,none⟩) h fun f=>f;refine ⟨hs,(ha.same hs).cell 0,(hb.same hs).cell 0,?_,?_⟩
 · rw [a _ _ c,a _ _ c,a _ _ c];exact hx
 rw [a _ _ d,a _ _ d,a _ _ d];exact hy
theorem ZwH {x3 x4 y3 y4:Value} (ha:Hid (Blk w ga t #[ua,va])) (hb:Hid (Blk w gb t #[ub,vb]))
 (hx:Hid (w.cell? ⟨b,p,none⟩=some x0/\w.cell? ⟨b,p+1,none⟩=some x1/\w.cell? ⟨b,p+2,none⟩=some x2/\w.cell? ⟨b,p+3,none⟩=some x3/\w.cell? ⟨b,p+4,none⟩=some x4))
 (hy:Hid (w.cell? ⟨b',p',none⟩=some y0/\w.cell? ⟨b',p'+1,none⟩=some y1/\w.cell? ⟨b',p'+2,none⟩=some y2/\w.cell? ⟨b',p'+3,none⟩=some y3/\w.cell? ⟨b',p'+4,none⟩=some y4))
 (c:b<w.heap.size) (d:b'<w.heap.size) (hs:Same w wx):
 Same w wx/\wx.cell? ⟨ga,1,none⟩=some va/\wx.cell? ⟨gb,1,none⟩=some vb/\(wx.cell? ⟨b,p,none⟩=some x0/\wx.cell? ⟨b,p+1,none⟩=some x1/\wx.cell? ⟨b,p+2,none⟩=some x2/\wx.cell? ⟨b,p+3,none⟩=some x3/\wx.cell? ⟨b,p+4,none⟩=some x4) /\
  (wx.cell? ⟨b',p',none⟩=some y0/\wx.cell? ⟨b',p'+1,none⟩=some y1/\wx.cell? ⟨b',p'+2,none⟩=some y2/\wx.cell? ⟨b',p'+3,none⟩=some y3/\wx.cell? ⟨b',p'+4,none⟩=some y4):=by
 have a:∀ b o,b<w.heap.size->wx.cell? ⟨b,o,none⟩=w.cell? ⟨b,o,none⟩:=fun b o h=>hs.cell (p:=⟨b,o,none⟩) h fun f=>f;refine ⟨hs,(ha.same hs).cell 1,(hb.same hs).cell 1,?_,?_⟩
 · rw [a _ _ c,a _ _ c,a _ _ c,a _ _ c,a _ _ c];exact hx
 rw [a _ _ d,a _ _ d,a _ _ d,a _ _ d,a _ _ d];exact hy
theorem YX (w:World) (o:Obj) (t:TypeId) (cs:Array Value):Blk ((w.alloc o).alloc (.cells cs t)) (w.heap.size+1) t cs:=by have h:=jA (w.alloc o) t cs;rwa [aB] at h
theorem Zow (w:World) (g g':GR) (h:RdG w F g) (h':RdG w F' g') (hr:QN g.dat g'.dat=r):
 Calls Tryz.prog 13 #[g.agg,g'.agg] w fun e w'=>e=.returned (.bool r)/\Same w w':=by
 obtain ⟨ns,AN,s,cN,rs,AR,m,cR⟩:=g;obtain ⟨aj,L,M,A,U,N,O,B⟩:=g';replace hr:(xB ZF (ns.map ND.dat) (aj.map ND.dat) && xB NF (rs.map RL.dat) (U.map RL.dat))=r:=hr;have am:=(iA w).alloc (.cells #[.slice AN s cN,.slice AR m cR] 26);have an:=am.alloc (.cells #[.slice L M A,.slice N O B] 26);have ao:=(jA w 26 #[.slice AN s cN,.slice AR m cR]).alloc (.cells #[.slice L M A,.slice N O B] 26);have ab:=jA (w.alloc (.cells #[.slice AN s cN,.slice AR m cR] 26)) 26 #[.slice L M A,.slice N O B];rw [aB] at ab;have HN:=qH (h.nodes.mono (F':=fun _=>True) fun _ _ _=>trivial);have u:=qH (h'.nodes.mono (F':=fun _=>True) fun _ _ _=>trivial);have HR:=qH (h.rels.mono (F':=fun _=>True) fun _ _ _=>trivial);have H:=qH (h'.rels.mono (F':=fun _=>True) fun _ _ _=>trivial);simp only at HN u HR H;have HL:=qH HN.len;have ap:=qH u.len;have HM:=qH HR.len;have aq:=qH H.len;have m1:=HN.row.max;have m2:=HN.row.le;have m3:=u.row.max;have m4:=u.row.le;have m5:=HR.row.max;have m6:=HR.row.le;have m7:=H.row.max;have m8:=H.row.le;unfold maxLen at m1 m3 m5 m7;have b6:s<=9223372036854775807:=qO;have b7:M<=9223372036854775807:=qO;have b8:m<=9223372036854775807:=qO;have b9:O<=9223372036854775807:=qO;clear m1 m2 m3 m4 m5 m6 m7 m8;have HE:=qH hr;have a7:=qH an;have ar:=qH ao;have au:=qH ab;clear h h' am an ao ab hr;by_cases ac:s=M
 · subst ac;by_cases S:m=O
   · subst S;go_enter Tryz.func13,Tryz.ntmps13;go_wp2_with fail;generalize (w.alloc (.cells #[.slice AN s cN,.slice AR m cR] 26)).alloc (.cells #[.slice L s A,.slice N m B] 26)=w1 at *;go_loopg [5] s (fun gh C wr=>∃ i:Nat,s-i=gh/\i<=s/\C=.int .i64 i/\Hid (Same w wr)/\Hid (Blk wr w.heap.size 26 #[.slice AN s cN,.slice AR m cR])/\Hid (Blk wr (w.heap.size+1) 26 #[.slice L s A,.slice N m B]) /\
      Hid ((xB ZF ((ns.map ND.dat).drop i) ((aj.map ND.dat).drop i) && xB NF (rs.map RL.dat) (U.map RL.dat))=r))
     case atStart=>exact ⟨0,rfl,oA _,rfl,a7,ar,au,HE⟩
     clear a7 ar au HE;obtain ⟨i,rfl,hi,rfl,k,n,D,KE⟩:=hrel;have p1:=n.c0;by_cases I:i<s
     · obtain ⟨b,o,x,rfl,hb,_,hx,P,r0,r1,r2⟩:=(HN.same k).at_ I;obtain ⟨V,W,y,rfl,ak,_,hy,R,q0,q1,X⟩:=(u.same k).at_ I;have v:=KE.out;rw [SJ (f:=ZF) (x:=x.dat) (y:=y.dat) (by rw [MA,hx];rfl) (by rw [MA,hy];rfl)] at v;have b1:=qH ((HN.same k).lab x P);have b2:=qH ((u.same k).lab y R);have ad:=qH ((HN.same k).pro x P);have ae:=qH ((u.same k).pro y R);clear hx hy P R;obtain ⟨C,lx,av,aw,ax,Y,Z,a0,a1⟩:=x;obtain ⟨iy,ly,ay,az,b0,a2,a3,a4,a5⟩:=y;simp only at r0 r1 r2 q0 q1 X;have HX:=qH (And.intro r0 (And.intro r1 r2));have HY:=qH (And.intro q0 (And.intro q1 X));have HK:=qH v;clear v r0 r1 r2 q0 q1 X KE;go_upto_region 6 with fail;clear p1;have af:Same wr wr.drew:=(eA _ wr).drew;go_cut [6,7] from 34 to 64 (fun s6 s7 d=>∃ g6 g7:Nat,s6=.pointer (some ⟨g6,0,none⟩)/\s7=.pointer (some ⟨g7,0,none⟩)/\Hid (Blk d g6 56 #[.int .i64 C,.slice av aw ax,.slice Z a0 a1])/\Hid (Blk d g7 56 #[.int .i64 iy,.slice ay az b0,.slice a3 a4 a5])/\Hid (Same wr d))
       case first =>
        go_region_held3 (fun d=>Same wr d/\d.cell? ⟨w.heap.size,0,none⟩=some (.slice (some ⟨b,o,none⟩) s cN)/\d.cell? ⟨w.heap.size+1,0,none⟩=some (.slice (some ⟨V,W,none⟩) s A)/\(d.cell? ⟨b,o+i*3,none⟩=some (.int .i64 C)/\d.cell? ⟨b,o+i*3+1,none⟩=some (.slice av aw ax)/\d.cell? ⟨b,o+i*3+2,none⟩=some (.slice Z a0 a1)) /\
         (d.cell? ⟨V,W+i*3,none⟩=some (.int .i64 iy)/\d.cell? ⟨V,W+i*3+1,none⟩=some (.slice ay az b0)/\d.cell? ⟨V,W+i*3+2,none⟩=some (.slice a3 a4 a5))) (exact ZwG n D HX HY hb ak (by repeat (first | assumption | exact eA _ _ | refine Upd.drew ?_ | refine OJ ?_ _))) (fail)
        all_goals go_wp2
        all_goals go_meet
        all_goals refine ⟨_,_,rfl,rfl,qH ?_,qH ?_,qH (((eA _ wr).alloc _).alloc _).drew⟩
        all_goals first
         | exact ((jA _ _ _).alloc _).drew
         | exact (YX _ _ _ _).drew
       obtain ⟨g6,g7,rfl,rfl,p,q,G⟩:=hcut;have k0:=p.c0;have k1:=p.c1;have l0:=q.c0;have l1:=q.c1;have c:=qH (show (((decide (C=iy) && xB eqS lx ly) && xB YD (Y.map PR.dat) (a2.map PR.dat)) && xB ZF ((ns.map ND.dat).drop (i+1)) ((aj.map ND.dat).drop (i+1)) && xB NF (rs.map RL.dat) (U.map RL.dat))=r from HK);clear HK af;by_cases hid:C=iy
       · subst hid;obtain ⟨q1,al⟩:=qx (xB eqS lx ly);have a:=c.out;rw [kC rfl,zD,al] at a;have b3:=qH al;have ag:=qH a;clear a al c;go_wp2_with fail;refine (Zka wc (b1.same G) (b2.same G) b3).mono ?_;rintro e w8 ⟨rfl,aa⟩;have T:=qH (G.same aa);have m2:=(p.same aa).c2;have m3:=(q.same aa).c2;clear k0 k1 l0 l1 aa G;cases q1 with
         | false =>
           have a:=ag.out;simp only [cD] at a;subst a;go_wp2;go_ret;exact ⟨rfl,k.same T⟩
         | true =>
           obtain ⟨X,E⟩:=qx (xB YD (Y.map PR.dat) (a2.map PR.dat));have a:=ag.out;rw [zD,E] at a;have ah:=qH E;have z:=qH a;clear a E ag;go_wp2_with fail;refine (XX w8 (ad.same T) (ae.same T) ah).mono ?_;rintro e w9 ⟨rfl,a6⟩;have l:=qH (T.same a6);clear a6 T m2 m3;cases X with
           | false =>
             have a:=z.out;simp only [cD] at a;subst a;go_wp2;go_ret;exact ⟨rfl,k.same l⟩
           | true =>
             have a:=z.out;rw [zD] at a;have ai:=qH a;clear a z;go_wp2;go_roundg (s-(i+1))
             case measure=>omega
             case rel=>exact ⟨i+1,rfl,qO,qN,qH (k.same l),qH (n.same l),qH (D.same l),ai⟩
       have a:=c.out;rw [LB hid] at a;simp only [cD] at a;subst a;have t:((C:Int) != iy)=true:=by rw [qC];exact hid
       clear c hid;go_wp2;go_ret;exact ⟨rfl,k.same G⟩
     have b4:i=s:=qO;subst b4;have a:=KE.out;rw [BC (by rw [nA,HL.out];exact lA _),BC (by rw [nA,ap.out];exact lA _)] at a;simp only [xB,zD] at a;have HK:=qH a;clear a KE I;obtain ⟨wo,rfl⟩:=qy wr;go_wp2_with fail;clear p1;go_loopg [8] m (fun gh C wr=>∃ j:Nat,m-j=gh/\j<=m/\C=.int .i64 j/\Hid (Same w wr)/\Hid (Blk wr w.heap.size 26 #[.slice AN i cN,.slice AR m cR])/\Hid (Blk wr (w.heap.size+1) 26 #[.slice L i A,.slice N m B]) /\
      Hid (xB NF ((rs.map RL.dat).drop j) ((U.map RL.dat).drop j)=r))
     case atStart=>exact ⟨0,rfl,oA _,rfl,k,n,D,HK⟩
     clear k n D HK;obtain ⟨j,rfl,hj,rfl,k,n,D,KE⟩:=hrel;have p1:=n.c1;by_cases I:j<m
     · obtain ⟨b,o,x,rfl,hb,_,hx,P,r0,r1,r2,r3,r4⟩:=(HR.same k).at_ I;obtain ⟨V,W,y,rfl,ak,_,hy,R,q0,q1,X,q3,q4⟩:=(H.same k).at_ I;have v:=KE.out;rw [SJ (f:=NF) (x:=x.dat) (y:=y.dat) (by rw [MA,hx];rfl) (by rw [MA,hy];rfl)] at v;have ad:=qH ((HR.same k).pro x P);have ae:=qH ((H.same k).pro y R);clear hx hy P R;obtain ⟨C,tx,sx,dx,Y,Z,a0,a1⟩:=x;obtain ⟨iy,ty,sy,dy,a2,a3,a4,a5⟩:=y;simp only at r0 r1 r2 r3 r4 q0 q1 X q3 q4;have HX:=qH (And.intro r0 (And.intro r1 (And.intro r2 (And.intro r3 r4))));have HY:=qH (And.intro q0 (And.intro q1 (And.intro X (And.intro q3 q4))));have HK:=qH v;clear v r0 r1 r2 r3 r4 q0 q1 X q3 q4 KE;go_upto_region 12 with fail;clear p1;have af:Same wr wr.drew:=(eA _ wr).drew;go_cut [9,10] from 72 to 115 (fun s6 s7 d=>∃ g6 g7:Nat,s6=.pointer (some ⟨g6,0,none⟩)/\s7=.pointer (some ⟨g7,0,none⟩)/\Hid (Blk d g6 60 #[.int .i64 C,.string tx,.int .i64 sx,.int .i64 dx,.slice Z a0 a1])/\Hid (Blk d g7 60 #[.int .i64 iy,.string ty,.int .i64 sy,.int .i64 dy,.slice a3 a4 a5])/\Hid (Same wr d))
       case first =>
        go_region_held3 (fun d=>Same wr d/\d.cell? ⟨w.heap.size,1,none⟩=some (.slice (some ⟨b,o,none⟩) m cR)/\d.cell? ⟨w.heap.size+1,1,none⟩=some (.slice (some ⟨V,W,none⟩) m B) /\
         (d.cell? ⟨b,o+j*5,none⟩=some (.int .i64 C)/\d.cell? ⟨b,o+j*5+1,none⟩=some (.string tx)/\d.cell? ⟨b,o+j*5+2,none⟩=some (.int .i64 sx)/\d.cell? ⟨b,o+j*5+3,none⟩=some (.int .i64 dx)/\d.cell? ⟨b,o+j*5+4,none⟩=some (.slice Z a0 a1)) /\
         (d.cell? ⟨V,W+j*5,none⟩=some (.int .i64 iy)/\d.cell? ⟨V,W+j*5+1,none⟩=some (.string ty)/\d.cell? ⟨V,W+j*5+2,none⟩=some (.int .i64 sy)/\d.cell? ⟨V,W+j*5+3,none⟩=some (.int .i64 dy)/\d.cell? ⟨V,W+j*5+4,none⟩=some (.slice a3 a4 a5))) (exact ZwH n D HX HY hb ak (by repeat (first | assumption | exact eA _ _ | refine Upd.drew ?_ | refine OJ ?_ _))) (fail)
        all_goals go_wp2
        all_goals go_meet
        all_goals refine ⟨_,_,rfl,rfl,qH ?_,qH ?_,qH (((eA _ wr).alloc _).alloc _).drew⟩
        all_goals first
         | exact ((jA _ _ _).alloc _).drew
         | exact (YX _ _ _ _).drew
       obtain ⟨g6,g7,rfl,rfl,p,q,G⟩:=hcut;have k0:=p.c0;have k1:=p.c1;have k2:=p.c2;have k3:=p.c3;have k4:=p.c4;have l0:=q.c0;have l1:=q.c1;have l2:=q.c2;have l3:=q.c3;have l4:=q.c4;have c:=qH (show ((((decide (C=iy) && (tx.toList==ty.toList)) && decide (sx=sy)) && decide (dx=dy)) && xB YD (Y.map PR.dat) (a2.map PR.dat) && xB NF ((rs.map RL.dat).drop (j+1)) ((U.map RL.dat).drop (j+1)))=r from HK);clear HK af;by_cases hid:C=iy
       · subst hid;cases htt:(tx.toList==ty.toList) with
         | false =>
           have a:=c.out;simp only [htt,decide_true,zD,cD] at a;subst a;have b5:(!(tx.toList==ty.toList))=true:=by rw [htt];rfl
           clear c;go_wp2;go_ret;exact ⟨rfl,k.same G⟩
         | true =>
           have b5:(!(tx.toList==ty.toList))=false:=by rw [htt];rfl
           by_cases a8:sx=sy
           · subst a8;by_cases a9:dx=dy
             · subst a9;obtain ⟨X,E⟩:=qx (xB YD (Y.map PR.dat) (a2.map PR.dat));have a:=c.out;simp only [htt,decide_true,zD,E] at a;have ah:=qH E;have z:=qH a;clear a E c;go_wp2_with fail;refine (XX wc (ad.same G) (ae.same G) ah).mono ?_;rintro e w9 ⟨rfl,a6⟩;have l:=qH (G.same a6);clear a6 k0 k1 k2 k3 k4 l0 l1 l2 l3 l4 G;cases X with
               | false =>
                 have a:=z.out;simp only [cD] at a;subst a;go_wp2;go_ret;exact ⟨rfl,k.same l⟩
               | true =>
                 have a:=z.out;rw [zD] at a;have ai:=qH a;clear a z;go_wp2;go_roundg (m-(j+1))
                 case measure=>omega
                 case rel=>exact ⟨j+1,rfl,qO,qN,qH (k.same l),qH (n.same l),qH (D.same l),ai⟩
             have a:=c.out;simp only [LB a9,UG,cD] at a;subst a;have t:((dx:Int) != dy)=true:=by rw [qC];exact a9
             clear c a9;go_wp2;go_ret;exact ⟨rfl,k.same G⟩
           have a:=c.out;simp only [LB a8,UG,cD] at a;subst a;have t:((sx:Int) != sy)=true:=by rw [qC];exact a8
           clear c a8;go_wp2;go_ret;exact ⟨rfl,k.same G⟩
       have a:=c.out;rw [LB hid] at a;simp only [cD] at a;subst a;have t:((C:Int) != iy)=true:=by rw [qC];exact hid
       clear c hid;go_wp2;go_ret;exact ⟨rfl,k.same G⟩
     have a:=KE.out;rw [BC (by rw [nA,HM.out];omega),BC (by rw [nA,aq.out];omega)] at a;simp only [xB] at a;subst a;go_wp2;go_ret;exact ⟨rfl,k⟩
   have t:((m:Int) != (O:Int))=true:=by rw [qC];omega
   have hk:=HE.out;rw [iJ (f:=NF) (by rw [nA,nA,HM.out,aq.out];exact S),UG] at hk;subst hk;clear S;go_enter Tryz.func13,Tryz.ntmps13;go_wp2;go_ret;exact ⟨rfl,a7⟩
 have t:((s:Int) != (M:Int))=true:=by rw [qC];omega
 have hk:=HE.out;rw [iJ (f:=ZF) (by rw [nA,nA,HL.out,ap.out];exact ac),cD] at hk;subst hk;clear ac;go_enter Tryz.func13,Tryz.ntmps13;go_wp2;go_ret;exact ⟨rfl,a7⟩
theorem QT (h:Srt s m):oH s (m.map fun x=>x.data.toList) where
 sorted:=by rw [SI];exact h.sorted.imp fun {a b} (c:ltS a b)=>List.le_of_lt c
 nodup:=by rw [List.nodup_iff_pairwise_ne,SI];refine h.sorted.imp fun {a b} (c:ltS a b) e=>?_;have d:a.data.toList<b.data.toList:=c;rw [e] at d;exact List.lt_irrefl _ d
 mem:=fun x=>by
  rw [fC,<-h.mem];constructor
  · rintro ⟨y,f,rfl⟩;simpa using f
  intro g;exact ⟨_,g,qS⟩
theorem Zuj {l:List (List UInt8)} (h:oH s l) (h':Srt s m):l.map strV=m.map Value.string/\l.length=m.length:=by rw [h.unique (QT h'),MC,nA];exact ⟨kG fun x _=>by simp [strV],rfl⟩
theorem ZX (w0 w:World) (g:GR) (hs:Same w0 w) (h:RdG w0 F g) (ht:ZJ g) (k:Int) (hT:(SC g.dat k).length<=8796093022208) (hm:Srt (SC g.dat k) m):
 Calls Tryz.prog 39 #[g.agg,.int .i64 k] w fun e w'=>∃ (A:Option Addr) (c:Nat),e=.returned (.slice A m.length c)/\Hid (w'.ownsRow w.heap.size 9 1 (.slice A m.length c) m.length (m.map Value.string))/\Same w w'/\Same w0 w':=by
 refine (ZqF w g (h.same hs) ht k hT).mono ?_;rintro e w' ⟨v,l,rfl,d,a,b⟩;obtain ⟨f,i⟩:=Zuj d hm;rw [f,i] at a;obtain ⟨A,c,rfl⟩:=WA a;exact ⟨A,c,rfl,qH a,b,hs.same b⟩
end
section
open Go.RowKit Go.Shelf
attribute [local go_sem] oD
theorem Zuk (a b:Int):IntKind.i64.wrap (IntKind.i64.wrap a+b)=IntKind.i64.wrap (a+b):=by simp only [rF];omega
theorem Zlu {β:Type} {B:Nat} {I:β->World->Prop} (h:∀ s W W',I s W->Upd (fun k=>B<=k) W W'->I s W'):OwnFrom B I:=fun s W W' b c a d =>
 h s W W' c ⟨a.os,a.tape,a.output,a.size,fun k _ f=>a.block k qA fun e=>f (d k e.symm).1⟩
theorem Zox (g:GR) (w:World):Calls Tryz.prog 84 #[g.agg] w fun e w'=>e=.returned (.func (.func 140) #[] #[.pointer (some ⟨w.heap.size,0,none⟩)])/\w'=w.alloc (.cells #[.slice g.AN g.nN g.cN,.slice g.AR g.nR g.cR] 26):=by obtain ⟨a,AN,nN,cN,b,AR,nR,cR⟩:=g;go_enter Tryz.func84,Tryz.ntmps84;go_wp2;go_ret;exact ⟨rfl,rfl⟩
theorem ZmP (w:World) (g:GR) (h:RdG w F g) (hf:GFit g) (hs:wsum (g.ns.flatMap ND.props)+wsum (g.rs.flatMap RL.props)<=4611686018427387904):
 Calls Tryz.prog 40 #[g.agg] w fun e w'=>e=.returned (.int .i64 ((wsum (g.ns.flatMap ND.props)+wsum (g.rs.flatMap RL.props):Nat):Int))/\Same w w':=by
 obtain ⟨T,hT⟩:=qx (wsum (g.ns.flatMap ND.props)+wsum (g.rs.flatMap RL.props));rw [hT] at hs ⊢;have HT:=qH (show wsum (allP g)=T by unfold allP;rw [eX];exact hT);have a6:g.agg=.agg #[.slice g.AN g.nN g.cN,.slice g.AR g.nR g.cR]:=rfl;have B:=((iA w).alloc (.cells #[.slice g.AN g.nN g.cN,.slice g.AR g.nR g.cR] 26)).alloc (.cells #[.int .i64 0] 3);have a7:=(jA w 26 #[.slice g.AN g.nN g.cN,.slice g.AR g.nR g.cR]).alloc (.cells #[.int .i64 0] 3);have C:=jA (w.alloc (.cells #[.slice g.AN g.nN g.cN,.slice g.AR g.nR g.cR] 26)) 3 #[.int .i64 0];simp only [aB] at C;have m:((w.alloc (.cells #[.slice g.AN g.nN g.cN,.slice g.AR g.nR g.cR] 26)).alloc (.cells #[.int .i64 0] 3)).heap.size=w.heap.size+1+1:=by simp only [aB]
 have a8:=qH m;have a9:=qH B;have aa:=qH C;have HF:=qH (show ∀ x∈allP g,x.g.text.size<=9223372036854775807/\∀ s∈x.g.texts,s.size<=9223372036854775807 from fun x d=>by
  unfold allP at d;rcases YB.1 d with d | d
  · obtain ⟨y,I,f⟩:=ED.1 d;exact hf.nodes y I x f
  obtain ⟨y,I,f⟩:=ED.1 d;exact hf.rels y I x f)
 have N:=qH (show ∀ (W:World),Same w W->∀ x∈allP g,pD W F x.A1 x.n1 x.c1 x.A2 x.n2 x.c2 x.g from fun W hW x d=>by
  have hR:=h.same hW;unfold allP at d;rcases YB.1 d with d | d
  · obtain ⟨y,I,f⟩:=ED.1 d;exact (hR.nodes.pro y I).val x f
  obtain ⟨y,I,f⟩:=ED.1 d;exact (hR.rels.pro y I).val x f)
 have ab:=qH ((h.mono (F':=fun b=>b<w.heap.size) fun b q _=>by first | exact q | exact q).same B);have HS:=qH hs;clear h B a7 C m hf hs hT;rw [a6];refine (ZB (n:=5)).1 ?_;have ak:Fence.wide.fn 84:=trivial;have O:Fence.wide.fn 140:=trivial;have al:Fence.wide.fn 87:=trivial;refine callsIn_of_wp_marks Tryz.func40 rfl trivial ?_ rfl;simp only [Tryz.ntmps40,GF,BA,mC,Nat.reduceAdd,Nat.reduceSub,oI,pI,qI,rI,SB,EB];gi_wp2_with (gi_at_call 84;refine (ZB.2 (Zox g _)).mono ?_;rintro e Y ⟨rfl,rfl⟩);generalize (w.alloc (.cells #[.slice g.AN g.nN g.cN,.slice g.AR g.nR g.cR] 26)).alloc (.cells #[.int .i64 0] 3)=X at *;have m:=a8.out;have sA:=(iA X).alloc (.cells #[.slice g.AN g.nN g.cN,.slice g.AR g.nR g.cR] 26);have E:=jA X 26 #[.slice g.AN g.nN g.cN,.slice g.AR g.nR g.cR];rw [m] at E;have P:=ab.same sA;have R:=aa.same sA;have G:Same w (X.alloc (.cells #[.slice g.AN g.nN g.cN,.slice g.AR g.nR g.cR] 26)):=a9.same sA;have ac:(X.alloc (.cells #[.slice g.AN g.nN g.cN,.slice g.AR g.nR g.cR] 26)).heap.size=w.heap.size+1+1+1:=by rw [aB,m]
 obtain ⟨Y,Z⟩:=qx (X.alloc (.cells #[.slice g.AN g.nN g.cN,.slice g.AR g.nR g.cR] 26));rw [Z] at sA E P R G ac ⊢;clear Z;refine wpIn_rangeFunc_ownH rfl qO (gf:=140) (lb:=#[.pointer (some ⟨w.heap.size+1+1,0,none⟩)]) rfl O (enters_of Tryz.func140 qK rfl)
  (WX Fence.wide _ O rfl qO (w.heap.size+1+1) g (fun k=>k=w.heap.size+1\/Y.heap.size<=k) (fun b=>b<w.heap.size) qO (fun b q=>qO) Y (fun b q=>.inr q) E P) fX (iX fun k t=>.inr t) (CK _ _) (fun _=>rfl)
  (fun j W=>Hid (Blk W (w.heap.size+1) 3 #[.int .i64 (IntKind.i64.wrap (wsum (j.map Subtype.val):Int))])/\Hid (Upd (fun k=>k=w.heap.size+1) Y W))
  (fun _ _ _=>False)
  (Zlu fun j W W' ⟨a,z⟩ p=>⟨qH (a.upd p qO),qH (z.trans p fun b q hh=>qO)⟩)
  (fun _ _ _ _ _ hs _ _=>hs)
  ⟨qH R,qH (eA _ _)⟩
  (fun x a' W=>∃ A:Nat,a'={ tmps:=#[.agg #[.slice g.AN g.nN g.cN,.slice g.AR g.nR g.cR],.pointer (some ⟨w.heap.size,0,none⟩),.pointer (some ⟨w.heap.size+1,0,none⟩),.pointer (some ⟨A,0,none⟩),.agg #[.slice g.AN g.nN g.cN,.slice g.AR g.nR g.cR],.func (.func 140) #[] #[.pointer (some ⟨w.heap.size+1+1,0,none⟩)],PR.agg x.1,undef,undef,undef,undef,undef,undef],defers:=[] }/\Hid (Blk W A 53 x.1.cells.toArray))
  (fun x a'=>fun _ W W' an ⟨A,h1,h2⟩ hg hr=>⟨A,h1,qH ((hg.block A h2.lt fun e=>by obtain ⟨o,ho,hc⟩:=(hr A e.symm).2;have a:=h2.out;unfold Blk at a;rw [a] at ho;cases ho;cases hc).trans h2)⟩) ?assign ?body ?done ?stop
 case assign =>
  rintro l j x W K ⟨a,z⟩ hK;have S:=(eA (fun k=>Y.heap.size<=k) W).alloc (.cells x.1.cells.toArray 53);have ad:=qH (hK _ (W.alloc (.cells x.1.cells.toArray 53)) (KeepsOthers.from (KeepsOthers.alloc W _) _) ((eA _ W).alloc _) ⟨qH (a.upd S qO),qH (z.alloc _)⟩ ⟨_,rfl,qH (jA W _ _)⟩);clear hK S;gi_wp2;exact ad
 case body =>
  rintro l' j x a' W ao ap ⟨a,z⟩ ⟨A,rfl,a0⟩ aq;have d:=HF.out x.1 x.2;have ae:Same w W:=G.trans z.out fun b q hh=>qO;have hV:=N.out W ae x.1 x.2;obtain ⟨⟨kx,⟨x0,x1,x2,x3,x4⟩,X1,a1,b1,X2,a2,b2⟩,aj⟩:=x;have H:Blk W A 53 #[.string kx,.int .i64 x0,.int .i64 x1,.string x2,.slice X1 a1 b1,.slice X2 a2 b2]:=a0.out;have p1:=H.c1;have p2:=H.c2;have p3:=H.c3;have p4:=H.c4;have p5:=H.c5;obtain ⟨sm,L⟩:=qx (IntKind.i64.wrap (wsum (j.map Subtype.val):Int));rw [L] at a;have c2:=a.c0;have f2:=a.frozen 0;have am:Tryz.prog.follows .mixedOrders=true:=qK;have HX:=qH d;have HV:=qH hV;obtain ⟨ln,M⟩:=qx ((enc ⟨x0,x1,x2,x3,x4⟩).length);have af:=qH M;obtain ⟨v,a3⟩:=qx (IntKind.i64.wrap (sm+(ln:Int)));have U:=qH (show IntKind.i64.wrap (wsum ((j++[(⟨⟨kx,⟨x0,x1,x2,x3,x4⟩,X1,a1,b1,X2,a2,b2⟩,aj⟩:{ x:PR // x∈allP g })]).map Subtype.val):Int)=v from by rw [DB,eX,<-a3,<-L,Zuk,<-M];simp [wsum])
  clear d hV a0 H L M;gi_wp2
  gi_region_with_o (gi_at_call 87;refine (CallsIn.inRound l' (ZB.2 (ZnQ _ (HV.same (by first | exact eA _ _ | exact (eA _ _).drew)) HX.1 HX.2))).mono ?_;rintro e w3 ⟨rfl,a4⟩;rw [af.out];have u:Same W w3:=(by first | exact a4 | exact ((iA _).drew).same a4);have c3:w3.cell? ⟨w.heap.size+1,0,none⟩=some (.int .i64 sm):=(a.same u).cell 0;have f3:w3.frozen? ⟨w.heap.size+1,0,none⟩=false:=(a.same u).frozen 0)
  all_goals
   have p:Upd (fun k=>k=w.heap.size+1) W (w3.setCell ⟨w.heap.size+1,0,none⟩ (.int .i64 v)):=(u.mono qe).put1 (.int .i64 v);refine ⟨⟨p.size,fun k o H t _=>(p.block k (sC.1 t).1 qO).trans t⟩,⟨p.os,p.tape,p.output,p.size,fun k t hn=>p.block k t fun e=>hn (.inl e)⟩,qH ?_,qH (z.trans p fun b q hh=>hh)⟩;rw [U.out];exact (a.same u).put 0 (.int .i64 v)
 case done =>
  rintro D ys W hD a5 ⟨a,z⟩ hK;have he:IntKind.i64.wrap (wsum (ys.map Subtype.val):Int)=(T:Int):=by have h9:ys.map Subtype.val=allP g:=a5;rw [h9,HT.out,rF];have:=HS.out;omega
  rw [he] at a;have c2:=a.c0;have f2:=a.frozen 0;have ag:=qH (show Same w W from G.trans z.out fun b q hh=>qO);clear a5 he;gi_wp2;have V:=(KeepsOthers.setCell W ⟨w.heap.size+1,0,none⟩ (.int .i64 (T:Int))).same D _ hK rfl;refine ⟨qS,.inl ⟨_,_,rfl,run_takeDeferred V,?_⟩⟩;have ah:=cell_kept (World.cell?_setCell_same' W ⟨w.heap.size+1,0,none⟩ (.int .i64 (T:Int)) (by rw [c2];rfl)) (grownBy_putObj' _ D (.deferred none)) (fun r e=>by cases e;exact ⟨_,V,rfl⟩);have ai:=(eA (fun k=>k=D) (W.setCell ⟨w.heap.size+1,0,none⟩ (.int .i64 (T:Int)))).grown (grownBy_putObj' _ D (.deferred none)) fun k t=>.inl (by injection t with t;exact t.symm);refine ⟨.int .i64 (T:Int),?_,rfl,(ag.putNew (r:=w.heap.size+1) (i:=0) (aN _) (.int .i64 (T:Int))).trans ai fun b q hh=>qO⟩;simp [results,Tryz.f40,go_sem,ah]
 rintro D c j W _ _ h _;exact h.elim
end
section
open Go.RowKit
def cK (a b c t:Nat):Int:=if 200<a\/200<b\/200<c then 66 else if 262144<t then 67 else 0
theorem Zsn (w:World) (g:GR) (h:RdG w F g) (hf:GFit g) (ht:ZJ g) (hE:oE g.dat=none) (hT:∀ k,(SC g.dat k).length<=8796093022208) {m:Int->List ByteArray} (hm:∀ k,Srt (SC g.dat k) (m k))
 (hW:wsum (g.ns.flatMap ND.props)+wsum (g.rs.flatMap RL.props)<=4611686018427387904) (ca:cK (m 1).length (m 2).length (m 3).length (wsum (g.ns.flatMap ND.props)+wsum (g.rs.flatMap RL.props))=tl):
 Calls Tryz.prog 16 #[g.agg] w fun x w'=>x=.returned (.tuple #[.int .i64 tl,.int .i64 0])/\Same w w':=by
 have HT:=qH hT;have HM:=qH hm;have HW:=qH hW;have a7:=qH ca;have bc:=qH ht;clear hT hm hW ca ht;obtain ⟨ns,AN,G,cN,rs,AR,u,cR⟩:=g;have HE:=qH hE;have a8:=h.nodes.row.max;have bd:=h.nodes.row.le;have I:=h.rels.row.max;have a9:=h.rels.row.le;unfold maxLen at a8 I;have bf:=hf.nN;have bg:=hf.nR;have HL:=qH h.nodes.len;have aa:=qH h.rels.len;simp only at a8 bd I a9 bf bg HL aa;have ab:=(iA w).alloc (.cells #[.slice AN G cN,.slice AR u cR] 26);have ac:=qH (jA w 26 #[.slice AN G cN,.slice AR u cR]);have P:=MapI.made (w.alloc (.cells #[.slice AN G cN,.slice AR u cR] 26));have R:=ab.alloc (.map #[] 0);have ad:=qH (ac.alloc (.map #[] 0));rw [aB] at P;have bh:=qH P;have bi:=qH ((h.mono (F':=fun b=>b<w.heap.size) fun b hb _=>hb).same R);have bj:=qH R;have HF:=qH hf;have bk:=@YG Tryz.prog;clear h hf hE ab R P ac;go_enter Tryz.func16,Tryz.ntmps16;go_upto_region 2 with fail;clear bk;generalize (w.alloc (.cells #[.slice AN G cN,.slice AR u cR] 26)).alloc (.map #[] 0)=w1 at *;have p0:=ad.c0;go_wp2_with fail;clear p0;go_loopg [15] G (fun gh ix wr=>∃ (i:Nat) (f:Int->Int),G-i=gh/\i<=G/\ix=.int .i64 i/\Hid (MapI wr (w.heap.size+1) i f)/\Hid (∀ y,f y=(((ns.map ND.id).take i).count y:Nat))/\Hid (Upd (fun k=>k=w.heap.size+1) w1 wr)/\Hid (nE none 0 (ns.map ND.dat)=nE (EC ND.id ns i) i ((ns.map ND.dat).drop i)))
 case atStart=>exact ⟨0,_,rfl,oA _,rfl,bh,qH qS,qH (eA _ _),qH rfl⟩
 obtain ⟨i,f,rfl,hi,rfl,KM,KF,KU,KE⟩:=hrel;have S:Same w wr:=bj.trans KU.out fun b hb hh=>qO;have U:=qH S;have z:=qH (bi.upd KU fun b hb hh=>qO);have V:=qH (ad.upd KU qO);have bz:=S.size;clear S;by_cases s:i<G
 · obtain ⟨b,o,x,hA,hb,_,H,b2,r0,r1,r2⟩:=z.nodes.at_ s;simp only at hA;subst hA;have d:=KE.out;have A:(ns.map ND.dat)[i]?=some x.dat:=by rw [MA,H];rfl
   rw [fM A] at d;simp only [nE] at d;have W:=qH (z.nodes.id x b2);have HX:=qH H;have ae:=qH (EW (l:=ns.map ND.id) (i:=i) (x:=x.id) (by rw [MA,H];rfl));have X:=qH (show EC ND.id ns (i+1)=some x.dat.id from by simp only [EC,H];rfl);obtain ⟨C,hC⟩:=qx (MG (EC ND.id ns i) x.dat);have HC:=qH hC;rw [hC] at d;have HK:=qH d;obtain ⟨id,hid⟩:=qx x.id;obtain ⟨AL,nL,cL,hL⟩:∃ a b c,x.AL=a/\x.nL=b/\x.cL=c:=⟨_,_,_,rfl,rfl,rfl⟩
   obtain ⟨AP,nP,cP,hP⟩:∃ a b c,x.AP=a/\x.nP=b/\x.cP=c:=⟨_,_,_,rfl,rfl,rfl⟩
   obtain ⟨b3,b4,b5⟩:=hL;obtain ⟨b6,b7,b8⟩:=hP;rw [hid] at r0 W ae;rw [b3,b4,b5] at r1;rw [b6,b7,b8] at r2;have t:=(iA wr).alloc (.cells #[.int .i64 id,.slice AL nL cL,.slice AP nP cP] 56);have af:=qH (jA wr 56 #[.int .i64 id,.slice AL nL cL,.slice AP nP cP]);have ag:=qH (z.same t);have ah:=qH (KM.same t);have ai:=qH (KU.same t);have aj:=qH (U.same t);have p0:=(V.same t).c0;clear t H b2 A d hC b3 b4 b5 b6 b7 b8 z U KM KU;go_wp2_with fail;refine (BW _ ag.nodes HF.nodes s HX HC).mono ?_;rintro y w7 ⟨rfl,p⟩;have bl:=qH (aj.same p);have ak:=qH (ah.same p);have bm:=qH (ai.same p);have q0:=(af.same p).c0;clear p p0 r0 r1 r2 aj ah ai ag af;by_cases L:C=0
   · subst L;have Y:=qH ((aA qS).symm.trans HK.symm);obtain ⟨lk,l1,l2⟩:=ak.fit W.out;have al:=KF.out id;have bn:((ns.map ND.id).take i).count id<=i:=tA XO (by rw [RB];omega);obtain ⟨fv,a4⟩:∃ v,f id=v:=⟨_,rfl⟩
     rw [a4] at lk al;obtain ⟨a5,N⟩:∃ v,fv+1=v:=⟨_,rfl⟩
     have c2:IntKind.i64.wrap (fv+1)=a5:=by rw [rF];omega
     obtain ⟨w8,b9,ba,bb⟩:=ak.put (v:=a5) qM W.out qO;have bo:=qH ba;have bp:=qH (bm.trans bb qf);have bq:=qH (show f id+1=a5 from by rw [a4,N]);clear ba bb al a4 N bn;go_wp2_with (at_mapUpdate;go_must (refine dQ rfl _ _ _ _ rfl rfl rfl rfl b9 ?_));go_roundg (G-(i+1))
     case measure=>omega
     refine ⟨i+1,_,rfl,qO,qN,bo,qH fun y=>?_,bp,qH ?_⟩
     · rw [ae.out y];by_cases hy:y=id
       · subst hy;rw [gA rfl,gA rfl,<-bq.out,KF.out];simp
       rw [aA hy,aA hy,KF.out];simp
     rw [X.out];exact Y.symm
   have hk:=(gA L).symm.trans HK.symm;have c3:(C != 0)=true:=by rw [qC];exact L
   have n:=HE.out;unfold oE at n;simp only [GR.dat] at n;rw [<- hk] at n;cases n
 have br:i=G:=qO;subst br;have d:=KE.out;rw [BC (by rw [nA,HL.out];omega)] at d;simp only [nE] at d;have n:=HE.out;unfold oE at n;simp only [GR.dat] at n;rw [d] at n;have Z:=Option.map_eq_none_iff.1 n;have a0:QH (GR.dat ⟨ns,AN,i,cN,rs,AR,u,cR⟩)=fun y=>f y != 0:=by
  funext y;have hf:=KF.out y;rw [cB (by rw [nA,HL.out];omega)] at hf;unfold QH;simp only [GR.dat,MC];have a1:(ns.map (NA.id ∘ ND.dat))=ns.map ND.id:=kG fun _ _=>rfl;rw [a1];by_cases hm:y∈ns.map ND.id
  · rw [kC hm];have:0<(ns.map ND.id).count y:=YO.2 hm;rw [eq_comm,qC];omega
  rw [LB hm];have:(ns.map ND.id).count y=0:=SR.2 hm;have L:f y=0:=qO;rw [L];rfl
 simp only [GR.dat] at a0;rw [a0] at Z;have am:=qH Z;have p1:=V.c1;have bs:=qH KM.out;clear d n Z a0 KE KF KU HE s KM;go_wp2_with fail;clear p1;generalize wr=w2 at *;go_loopg [37] u (fun gh ix wr=>∃ (j:Nat),u-j=gh/\j<=u/\ix=.int .i64 j/\Hid (Same w2 wr)/\Hid (JE (fun y=>f y != 0) none 0 (rs.map RL.dat)=JE (fun y=>f y != 0) (EC RL.id rs j) j ((rs.map RL.dat).drop j)))
 case atStart=>exact ⟨0,rfl,oA _,rfl,qH (eA _ _),qH rfl⟩
 obtain ⟨j,rfl,hj,rfl,KS,KE⟩:=hrel;have an:=qH (z.same KS);have ao:=qH (V.same KS);have bt:=qH (bs.same KS);have a2:=qH (U.same KS);have d:=KE.out;rw [am.out] at d;clear KE;by_cases s:j<u
 · have ap:j<rs.length:=by rw [aa.out];exact s
   obtain ⟨x,H⟩:∃ x,rs[j]?=some x:=⟨_,FA ap⟩
   have A:(rs.map RL.dat)[j]?=some x.dat:=by rw [MA,H];rfl
   rw [fM A] at d;simp only [JE] at d;have HX:=qH H;have X:=qH (show EC RL.id rs (j+1)=some x.dat.id from by simp only [EC,H];rfl);obtain ⟨C,hC⟩:=qx (aG (fun y=>f y != 0) (EC RL.id rs j) x.dat);have HC:=qH hC;rw [hC] at d;have HK:=qH d;have p1:=ao.c1;clear H A d hC ap;go_wp2_with fail;refine (DW _ an.rels HF.rels bt s HX HC).mono ?_;rintro y w7 ⟨rfl,p⟩;have bl:=qH (a2.same p);by_cases L:C=0
   · subst L;have hk:=HK.trans (aA qS);have Y:=qH hk;have bu:=qH (KS.same p);clear hk a2 p1 p;go_wp2;go_roundg (u-(j+1))
     case measure=>omega
     case rel=>exact ⟨j+1,rfl,qO,qN,bu,qH (by rw [am.out,X.out];exact Y)⟩
   have hk:=HK.trans (gA L);cases hk
 clear d;generalize wr=w9 at *;go_wp2_with fail;go_loopg [54,2,3] 3 (fun gh ix s2 s3 wr=>∃ r:Nat,3-r=gh/\r<=3/\ix=.int .i64 r/\Hid (∀ q:Nat,q<r->(m ((q:Int)+1)).length<=200)/\Hid (Same w9 wr))
 case atStart=>exact ⟨0,rfl,oA _,rfl,qH (fun q hq=>qO),qH (eA _ _)⟩
 obtain ⟨r,rfl,hr,rfl,KQ,KR⟩:=hrel;have aq:=qH (an.same KR);have ar:=qH (ao.same KR);have au:=qH (a2.same KR);have p0:=ar.c0;have p1:=ar.c1;by_cases c4:r<3
 · have c5:IntKind.i64.wrap ((r:Int)+1)=(r:Int)+1:=by rw [rF];omega
   go_wp2_with fail;refine (ZX wr wr ⟨ns,AN,i,cN,rs,AR,u,cR⟩ (eA _ _) aq bc ((r:Int)+1) (HT.out _) (HM.out ((r:Int)+1))).mono ?_;rintro e c6 ⟨c7,c8,rfl,_,E,_⟩;have av:=qH (au.same E);have aw:=qH (KR.same E);obtain ⟨ml,a6⟩:=qx ((m ((r:Int)+1)).length);rw [a6];have ax:=qH a6;clear E p0 p1 a6;by_cases B:200<ml
   · have a3:(200:Int)<ml:=qO;have ay:=qH (show (66:Int)=tl from by
      rw [<- a7.out];unfold cK;have h1:=ax.out;have h2:r=0\/r=1\/r=2:=qO;rcases h2 with rfl | rfl | rfl
      · rw [gA (.inl (by simp at h1;omega))]
      · rw [gA (.inr (.inl (by simp at h1;omega)))]
      rw [gA (.inr (.inr (by simp at h1;omega)))])
     go_wp2
     go_ret2
     exact ⟨by rw [<- ay.out];rfl,av⟩
   have a3:¬ (200:Int)<ml:=qO;go_wp2;go_roundg (3-(r+1))
   case measure=>omega
   refine ⟨r+1,rfl,qO,qN,qH fun q hq=>?_,aw⟩;by_cases bv:q=r
   · subst bv;rw [ax.out];omega
   exact KQ q qO
 have az:r=3:=qO;subst az;have h0:=KQ.out 0 qO;have h1:=KQ.out 1 qO;have h2:=KQ.out 2 qO;simp at h0 h1 h2;obtain ⟨T,hT⟩:=qx (wsum (ns.flatMap ND.props)+wsum (rs.flatMap RL.props));have bw:=HW.out;rw [hT] at bw;have bx:=qH hT;have b0:=qH (show (if 262144<T then (67:Int) else 0)=tl from by have h9:=a7.out;unfold cK at h9;rw [hT] at h9;have e2:(1:Int)+1=2:=rfl;have e3:(2:Int)+1=3:=rfl;rw [aA (by rintro (h | h | h) <;> omega)] at h9;exact h9)
 clear hT h0 h1 h2;go_wp2_with fail;refine (ZmP wr ⟨ns,AN,i,cN,rs,AR,u,cR⟩ aq HF HW).mono ?_;rintro e c9 ⟨rfl,O⟩;have M:=qH (au.same O);have b1:=bx.out;rw [b1];clear O p0 p1 b1;by_cases B:262144<T
 · have a3:(262144:Int)<(T:Int):=qO;have D:=b0.out;rw [gA B] at D;subst D;go_wp2
   go_ret2
   exact ⟨rfl,M⟩
 have a3:¬ (262144:Int)<(T:Int):=qO;have D:=b0.out;rw [aA B] at D;subst D;go_wp2
 go_ret2
 exact ⟨rfl,M⟩
end
section
def dK (g:WB) (tl:Int):Int×Nat :=
 match oE g with
 | some x=>x
 | none=>(tl,0)
theorem aY (x:ByteArray):∀ m:List ByteArray,m.Pairwise ltS->∃ m':List ByteArray,m'.Pairwise ltS/\∀ y,y∈m'↔y=x\/y∈m
 | [],_=>⟨[x],qS,qS⟩
 | a::m,h=>by
   obtain ⟨d,f⟩:=TE.1 h;rcases QD.tot x a with c | c | c
   · exact ⟨x::a::m,TE.2 ⟨fun y b=>by
      rcases TA.1 b with rfl | b
      · exact c
      exact QD.tr c (d y b),h⟩,fun y=>qS⟩
   · subst c;exact ⟨x::m,h,fun y=>qS⟩
   obtain ⟨m',g,e⟩:=aY x m f;refine ⟨a::m',TE.2 ⟨fun y b=>?_,g⟩,fun y=>?_⟩
   · rcases (e y).1 b with rfl | b
     · exact c
     exact d y b
   rw [TA,e,TA];constructor
   · rintro (h | h | h)
     · exact .inr (.inl h)
     · exact .inl h
     exact .inr (.inr h)
   rintro (h | h | h)
   · exact .inr (.inl h)
   · exact .inl h
   exact .inr (.inr h)
theorem bY:∀ l:List ByteArray,∃ m,Srt l m
 | []=>⟨[],List.Pairwise.nil,fun _=>Iff.rfl⟩
 | x::l=>by obtain ⟨m,a,b⟩:=bY l;obtain ⟨c,d,e⟩:=aY x m a;exact ⟨c,d,fun y=>by rw [e,b,TA]⟩
theorem cY (f:Int->List ByteArray):∃ m:Int->List ByteArray,∀ k,Srt (f k) (m k):=Classical.axiomOfChoice fun k=>bY (f k)
theorem ZwI (g:GVal):(enc g).length<=65536:=by
 unfold enc;split
 · rename_i h;obtain ⟨_,_,_,d,e,f,a⟩:=QJ h;rw [kA,rA];unfold nG;split
   · have:=XL g.kind g.num;omega
   split
   · rw [KK];omega
   rw [kA,kA,rA];have b:=JN (g.kind-4) g.nums;have c:=LN g.texts a;omega
 simp
theorem dY (ps:List PR):wsum ps<=65536*ps.length:=by
 induction ps with
 | nil=>simp [wsum]
 | cons x l ih =>
   have h:=ZwI x.g;have e:wsum (x::l)=(enc x.g).length+wsum l:=by simp [wsum]
   rw [e,BA];omega
def rH:Option Int->Int
 | none=>0
 | some q=>q+1
theorem WK:∀ (r:Option Int) (i:Nat) (l:List NA),nE r i l=none->(l≠[]->(l.length:Int)<=1024-rH r)/\∀ x∈l,(0<=x.id/\x.id<1024)/\x.labels.length<=8/\x.props.length<=16
 | _,_,[],_=>⟨qS,qS⟩
 | r,i,x::l,h=>by
   simp only [nE] at h;by_cases a:MG r x=0
   · rw [aA (by rw [a];simp)] at h;obtain ⟨o,p⟩:=WK (some x.id) (i+1) l h;unfold MG at a;by_cases g:x.id<0\/1024<=x.id
     · rw [gA g] at a;cases a
     rw [aA g] at a;by_cases d:bF x.id r=true
     · rw [gA d] at a;cases a
     rw [aA d] at a;by_cases c:mF x.labels≠0
     · rw [gA c] at a;exact absurd a c
     rw [aA c] at a;have j:x.labels.length<=8:=by
      by_cases e:8<x.labels.length
      · exact absurd (by unfold mF;rw [gA e];decide) c
      omega
     have k:x.props.length<=16:=by
      by_cases e:16<x.props.length
      · unfold IE at a;rw [gA e] at a;cases a
      omega
     refine ⟨fun _=>?_,fun y f=>?_⟩
     · rw [BA];have m:rH r<=x.id:=by
        cases r with
        | none=>simp only [rH];omega
        | some q=>simp [bF] at d;simp only [rH];omega
       by_cases b:l=[]
       · subst b;simp only [mC];omega
       have n:=o b;simp only [rH] at n;omega
     rcases TA.1 f with rfl | f
     · exact ⟨qO,j,k⟩
     exact p y f
   rw [gA a] at h;cases h
theorem AQ (th:Int->Bool):∀ (s:Option Int) (i:Nat) (l:List GRel),JE th s i l=none->(l≠[]->(l.length:Int)<=2048-rH s)/\∀ x∈l,th x.src=true/\th x.dst=true/\x.props.length<=16
 | _,_,[],_=>⟨qS,qS⟩
 | s,i,x::l,h=>by
   simp only [JE] at h;by_cases a:aG th s x=0
   · rw [aA (by rw [a];simp)] at h;obtain ⟨p,r⟩:=AQ th (some x.id) (i+1) l h;unfold aG at a;by_cases g:x.id<0\/2048<=x.id
     · rw [gA g] at a;cases a
     rw [aA g] at a;by_cases d:bF x.id s=true
     · rw [gA d] at a;cases a
     rw [aA d] at a;by_cases j:VB x.type=false
     · rw [gA j] at a;cases a
     rw [aA j] at a;by_cases c:th x.src=false\/th x.dst=false
     · rw [gA c] at a;cases a
     rw [aA c] at a;have k:x.props.length<=16:=by
      by_cases m:16<x.props.length
      · unfold IE at a;rw [gA m] at a;cases a
      omega
     refine ⟨fun _=>?_,fun y f=>?_⟩
     · rw [BA];have n:rH s<=x.id:=by
        cases s with
        | none=>simp only [rH];omega
        | some q=>simp [bF] at d;simp only [rH];omega
       by_cases b:l=[]
       · subst b;simp only [mC];omega
       have o:=p b;simp only [rH] at o;omega
     rcases TA.1 f with rfl | f
     · refine ⟨?_,?_,k⟩
       · cases e:th y.src with
         | true=>rfl
         | false=>exact absurd (.inl e) c
       cases e:th y.dst with
       | true=>rfl
       | false=>exact absurd (.inr e) c
     exact r y f
   rw [gA a] at h;cases h
theorem XK {α β:Type} (f:α->List β) (c:Nat) (l:List α) (h:∀ x∈l,(f x).length<=c):(l.flatMap f).length<=c*l.length:=by
 induction l with
 | nil=>simp
 | cons x l ih =>
   have b:=h x qS;have d:=ih fun y a=>h y (by simp [a]);rw [iD,kA,BA,Nat.mul_succ];omega
theorem eK {g:WB} (h:oE g=none):nE none 0 g.nodes=none/\JE (QH g) none 0 g.rels=none:=by
 unfold oE at h;cases hn:nE none 0 g.nodes with
 | some e=>rw [hn] at h;cases h
 | none =>
   rw [hn] at h;exact ⟨rfl,Option.map_eq_none_iff.1 h⟩
theorem jO {g:WB} (h:oE g=none):g.nodes.length<=1024/\g.rels.length<=2048:=by
 obtain ⟨c,d⟩:=eK h;obtain ⟨e,_⟩:=WK _ _ _ c;obtain ⟨f,_⟩:=AQ _ _ _ _ d;constructor
 · by_cases a:g.nodes=[]
   · rw [a];simp
   have b:=e a;simp only [rH] at b;omega
 by_cases a:g.rels=[]
 · rw [a];simp
 have b:=f a;simp only [rH] at b;omega
theorem eY {g:WB} (h:oE g=none) (k:Int):(SC g k).length<=8796093022208:=by
 obtain ⟨c,d⟩:=eK h;obtain ⟨e,f⟩:=jO h;obtain ⟨_,b⟩:=WK _ _ _ c;obtain ⟨_,i⟩:=AQ _ _ _ _ d;unfold SC;split
 · have:=XK NA.labels 8 g.nodes fun x a=>(b x a).2.1;omega
 split
 · rw [nA];omega
 split
 · rw [kA];have j:=XK (fun n:NA=>n.props.map GPr.key) 16 g.nodes fun x a=>by rw [nA];exact (b x a).2.2
   have l:=XK (fun r:GRel=>r.props.map GPr.key) 16 g.rels fun x a=>by rw [nA];exact (i x a).2.2
   omega
 simp
theorem Zoy {g:GR} (h:oE g.dat=none):wsum (g.ns.flatMap ND.props)+wsum (g.rs.flatMap RL.props)<=4611686018427387904:=by
 obtain ⟨i,j⟩:=eK h;obtain ⟨b,c⟩:=jO h;obtain ⟨_,e⟩:=WK _ _ _ i;obtain ⟨_,f⟩:=AQ _ _ _ _ j;simp only [GR.dat,nA] at b c e f;have k:=XK ND.props 16 g.ns fun x d=>by have a:=(e x.dat (fD d)).2.2;simpa [ND.dat] using a
 have l:=XK RL.props 16 g.rs fun x d=>by have a:=(f x.dat (fD d)).2.2;simpa [RL.dat] using a
 have m:=dY (g.ns.flatMap ND.props);have n:=dY (g.rs.flatMap RL.props);omega
end
section
open Go.RowKit
theorem Zoz (w:World) (g:GR) (h:RdG w F g) (hf:GFit g) (ht:ZJ g) {m:Int->List ByteArray} (hm:∀ k,Srt (SC g.dat k) (m k)) (a:cK (m 1).length (m 2).length (m 3).length (wsum (g.ns.flatMap ND.props)+wsum (g.rs.flatMap RL.props))=tl)
 {e:Int} {at_:Nat} (hE:dK g.dat tl=(e,at_)):Calls Tryz.prog 16 #[g.agg] w fun x w'=>x=.returned (.tuple #[.int .i64 e,.int .i64 at_])/\Same w w':=by
 cases hh:oE g.dat with
 | some x =>
   unfold dK at hE;rw [hh] at hE;exact ZnX w g h hf (by rw [hh];exact tB some hE)
 | none =>
   unfold dK at hE;rw [hh] at hE;injection hE with h1 h2
   subst h1 h2;exact Zsn w g h hf ht hh (eY hh) hm (Zoy hh) a
end
end Go.Proofs.YtmkjfhnlnhceiaaGreatDoor
