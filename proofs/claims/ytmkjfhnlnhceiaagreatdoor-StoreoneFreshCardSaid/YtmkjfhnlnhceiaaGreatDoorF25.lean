/- Lemmas: walks and plain laws. -/
import Derived.Test.YtmkjfhnlnhceiaaGreatDoorF24
set_option maxRecDepth 100000
set_option maxHeartbeats 16000000
namespace Go.Proofs.YtmkjfhnlnhceiaaGreatDoor
variable {w w':World} {g n c B r BL cp:Nat} {cs tmps:Array Value} {ee:Int} {R:Ending->World->Prop} {u0 u1 u2 v:Value} {F:Nat->Prop} {A:Option Addr} {bs:List UInt8}
open Go.RowKit
def putCs (w:World) (g:Nat):Nat->List Value->World
 | _,[]=>w
 | i,u::us=>putCs (w.setCell ⟨g,i,none⟩ u) g (i+1) us
theorem Blk.putAt {w:World} {g:Nat} {t:TypeId}:∀ (us:List Value) (pre:List Value) (cs:Array Value),Blk w g t cs->cs.toList.take pre.length=pre->pre.length<=cs.size->cs.size=pre.length+us.length->Blk (putCs w g pre.length us) g t (pre++us).toArray
 | [],pre,cs,h,hp,_,hs=>by
   have e:cs=(pre++[]).toArray:=by apply Array.ext';simp only [mC,IF] at hs;rw [cB (by rw [UF];omega)] at hp;simpa using hp
   rw [<- e];exact h
 | u::us,pre,cs,h,hp,hl,hs=>by
   rw [BA] at hs;have a:(pre++[u]).length=pre.length+1:=by simp
   have b:=Blk.putAt us (pre++[u]) (cs.setIfInBounds pre.length u) (h.put pre.length u) (by rw [a,RO,List.take_set,eD,hp,FA (l:=cs.toList) (i:=pre.length) (by have:cs.toList.length=cs.size:=UF;omega),wL];rw [fI _ _ (lA _),SD];rfl) (by rw [a,GJ];omega) (by rw [a,GJ];omega)
   rw [a,vA] at b;exact b
theorem Blk.putCs {t:TypeId} (h:Blk w g t cs) (us:List Value) (hs:cs.size=us.length):Blk (putCs w g 0 us) g t us.toArray :=
 Blk.putAt us [] cs h rfl (oA _) (by rw [hs];simp)
theorem Upd.putCs (w:World) (g:Nat) (us:List Value):Upd (fun b=>b=g) w (putCs w g 0 us):=by
 have c:∀ (us:List Value) (i:Nat) (a w:World),Upd (fun b=>b=g) a w->Upd (fun b=>b=g) a (Go.Proofs.YtmkjfhnlnhceiaaGreatDoor.putCs w g i us):=by
  intro us
  induction us with
  | nil=>intro i a w h;exact h
  | cons u us ih=>intro i a w h;exact ih (i+1) a _ (h.put1 u)
 exact c us 0 w w (eA _ w)
abbrev xH:=@Upd.putCs
theorem WY (h2:tmps.getD 8 undef=.pointer (some ⟨g,0,none⟩)) (h3:tmps.getD 9 undef=.int .i64 ee)
 (hb:Blk w g 115 cs) (d:cs.size=3) (hR:R (.returned (.tuple #[.agg #[u0,u1,u2],.int .i64 ee])) (putCs w g 0 [u0,u1,u2])):
 bodyPost Tryz.prog Tryz.f123 R Exit.ret ⟨tmps,[]⟩ (putCs w g 0 [u0,u1,u2]):=by
 have h:=hb.putCs [u0,u1,u2] d;generalize putCs w g 0 [u0,u1,u2]=W at *;have a:=h.cell 0;have b:=h.cell 1;have c:=h.cell 2;simp only [YC,rC,LC] at a b c;refine LD (v:=.tuple #[.agg #[u0,u1,u2],.int .i64 ee]) ?_ rfl hR;simp only [LF] at h2 h3;simp [results,Tryz.results123,go_sem,h2,h3,a,b,c]
theorem XY (h2:tmps.getD 2 undef=.pointer (some ⟨g,0,none⟩)) (h3:tmps.getD 3 undef=.int .i64 ee)
 (hb:Blk w g 115 cs) (d:cs.size=3) (hR:R (.returned (.tuple #[.agg #[u0,u1,u2],.int .i64 ee])) (putCs w g 0 [u0,u1,u2])):
 bodyPost Tryz.prog Tryz.f72 R Exit.ret ⟨tmps,[]⟩ (putCs w g 0 [u0,u1,u2]):=by
 have h:=hb.putCs [u0,u1,u2] d;generalize putCs w g 0 [u0,u1,u2]=W at *;have a:=h.cell 0;have b:=h.cell 1;have c:=h.cell 2;simp only [YC,rC,LC] at a b c;refine LD (v:=.tuple #[.agg #[u0,u1,u2],.int .i64 ee]) ?_ rfl hR;simp only [LF] at h2 h3;simp [results,Tryz.results72,go_sem,h2,h3,a,b,c]
theorem ZlD (w:World) (hb:pA w F A n c bs) (hl:bs.length=16):
 Calls Tryz.prog 123 #[.slice A n c,.int .i64 16,.agg #[.int .i64 0,.int .i64 0,.slice none 0 0],.func (.func 104) #[] #[]] w fun e w'=>Same w w' /\
  ((getN bs=none/\e=.returned (.tuple #[.agg #[.int .i64 0,.int .i64 0,.slice none 0 0],.int .i64 41])) \/
   ∃ x A1 n1 c1,getN bs=some x/\e=.returned (.tuple #[.agg (x.cellsV (.slice A1 n1 c1)),.int .i64 0])/\w'.ownsRow w.heap.size 3 1 (.slice A1 n1 c1) x.labels.length (x.labels.map (Value.int .i64))):=by
 have P:n=16:=qt hb.len;subst P;have t:=(((iA w).alloc (.cells #[.int .i64 0,.int .i64 0,.slice none 0 0] 115)).alloc (.cells #[.int .i64 0,.int .i64 0,.slice none 0 0] 115)).alloc (.cells #[.int .i64 0,.int .i64 0,.slice none 0 0] 115);have E:=qH t;have R:=qH (hb.same t);have S:=qH hl;clear hb t hl;go_enter Tryz.func123,Tryz.ntmps123;go_wp2_with fail;have u:=qH ((((jA w 115 #[.int .i64 0,.int .i64 0,.slice none 0 0]).alloc (.cells #[.int .i64 0,.int .i64 0,.slice none 0 0] 115)).alloc (.cells #[.int .i64 0,.int .i64 0,.slice none 0 0] 115)));have v:=(jA (w.alloc (.cells #[.int .i64 0,.int .i64 0,.slice none 0 0] 115)) 115 #[.int .i64 0,.int .i64 0,.slice none 0 0]).alloc (.cells #[.int .i64 0,.int .i64 0,.slice none 0 0] 115);have j:=jA ((w.alloc (.cells #[.int .i64 0,.int .i64 0,.slice none 0 0] 115)).alloc (.cells #[.int .i64 0,.int .i64 0,.slice none 0 0] 115)) 115 #[.int .i64 0,.int .i64 0,.slice none 0 0];simp only [aB] at v j;have y:=qH v;have g:=qH j;clear v j;generalize hz:w.heap.size=z at *;generalize ((w.alloc (.cells #[.int .i64 0,.int .i64 0,.slice none 0 0] 115)).alloc (.cells #[.int .i64 0,.int .i64 0,.slice none 0 0] 115)).alloc (.cells #[.int .i64 0,.int .i64 0,.slice none 0 0] 115)=s at *;refine (gM R qO).mono ?_;rintro e d ⟨r,rfl,hr,C,l⟩;have m:=l.alloc (.cells #[.pointer none,.pointer (some ⟨r,0,none⟩),.bool false] 237);have T:=C.lt;have U:s.heap.size<=d.heap.size:=l.size;have o:=g.lt;have G:Rdr (d.alloc (.cells #[.pointer none,.pointer (some ⟨r,0,none⟩),.bool false] 237)) (fun b=>(s.heap.size<=b/\b≠r)/\b<d.heap.size) r ⟨bs,0⟩:=by obtain ⟨A1,n1,c1,h1,h2⟩:=C;exact ⟨A1,n1,c1,h1.alloc _,(pA.mono h2 fun b hb h=>⟨h,hb⟩).same ((eA _ d).alloc _)⟩
 have V:=qH (show CR (d.alloc (.cells #[.pointer none,.pointer (some ⟨r,0,none⟩),.bool false] 237)) (fun b=>(s.heap.size<=b/\b≠r)/\b<d.heap.size) d.heap.size r bs false from ⟨jA d _ _,G,fun h=>h.1.2 rfl,fun h=>JH _ h.2⟩);have H:=qH m;have u:=qH (u.same m);have y:=qH (y.same m);have g:=qH (g.same m);have k:Hid (z+1≠d.heap.size/\z+1≠r/\z+2≠d.heap.size/\z+2≠r/\z≠d.heap.size/\z≠r/\z<=r/\z<=d.heap.size):=qH qO;have I:=qH (show z+2<s.heap.size from o);have W:(d.alloc (.cells #[.pointer none,.pointer (some ⟨r,0,none⟩),.bool false] 237)).heap.size=d.heap.size+1:=aB _ _;clear G C l m;go_upto_region 5 with fail;generalize a0:d.heap.size=z1 at *;generalize d.alloc (.cells #[.pointer none,.pointer (some ⟨r,0,none⟩),.bool false] 237)=w2 at *;go_wp2_with fail;refine (Zuo V (by rw [S.out]) u.out (fun h=>by have:=h.1.1;have:=I.out;omega) (fun b hb h=>qt h.2)).mono ?_;rintro e D ⟨rfl,M,⟨A1,n1,c1,N⟩,u3⟩;have X:=qH N;have L:Hid (Upd (fun b=>z<=b) w D):=qH (((E.trans H qf).mono (S':=fun b=>z<=b) qe).trans u3 fun b _ h=>qh k);have a:=qH (y.upd u3 (qh k));have f:=qH (g.upd u3 (qh k));have p:=M.cod.c2;have i:=qH H.size;clear M N u3;cases hg:getN bs with
 | none =>
   rw [hg] at p;simp only [GP] at p;have Y:=f.cell 0;have Z:=a.frozen 0;have r0:=a.cell 0;have d1:=f.cell 1;have e1:=a.frozen 1;have r1:=a.cell 1;have d2:=f.cell 2;have e2:=a.frozen 2;have r2:=a.cell 2;go_wp2;have q:=xH D (z+1) [.int .i64 0,.int .i64 0,.slice none 0 0];refine WY rfl rfl a rfl ?_;exact ⟨(L.trans q fun b _ h=>qO).mono fun b hb h=>qO,.inl ⟨hg,rfl⟩⟩
 | some x =>
   rw [hg] at p;simp only [mS] at p;obtain ⟨b4,O⟩:=X.out x hg;have B:=qH b4;have Y:=B.c0;have Z:=a.frozen 0;have r0:=a.cell 0;have d1:=B.c1;have e1:=a.frozen 1;have r1:=a.cell 1;have d2:=B.c2;have e2:=a.frozen 2;have r2:=a.cell 2;go_wp2;have q:=xH D (z+1) [.int .i64 x.rel,.int .i64 x.prop,.slice A1 n1 c1];refine WY rfl rfl a rfl ?_;exact ⟨(L.trans q fun b _ h=>qO).mono fun b hb h=>qO,.inr ⟨x,A1,n1,c1,hg,rfl,GA (RA O (by have:=i.out;have:=E.size;omega)) q fun b hb hh=>by have:=(O.lt b hb).1;have:=I.out;have:=i.out;omega⟩⟩
theorem Znf (w:World) (hb:pA w F A n c bs) (hl:bs.length=16):
 Calls Tryz.prog 72 #[.slice A n c] w fun e w'=>Same w w' /\
  ((getN bs=none/\e=.returned (.tuple #[.agg #[.int .i64 0,.int .i64 0,.slice none 0 0],.int .i64 41])) \/
   ∃ x A1 n1 c1,getN bs=some x/\e=.returned (.tuple #[.agg (x.cellsV (.slice A1 n1 c1)),.int .i64 0])/\w'.ownsRow w.heap.size 3 1 (.slice A1 n1 c1) x.labels.length (x.labels.map (Value.int .i64))):=by
 have g:=(iA w).alloc (.cells #[.int .i64 0,.int .i64 0,.slice none 0 0] 115);have m:=qH g;have o:=qH (ZlD _ (hb.same g) hl);have p:=qH (jA w 115 #[.int .i64 0,.int .i64 0,.slice none 0 0]);have q:(w.alloc (.cells #[.int .i64 0,.int .i64 0,.slice none 0 0] 115)).heap.size=w.heap.size+1:=aB _ _;clear hb g;go_enter Tryz.func72,Tryz.ntmps72;go_wp2_with fail;refine o.mono ?_;generalize w.alloc (.cells #[.int .i64 0,.int .i64 0,.slice none 0 0] 115)=z at *;rintro e k ⟨d,h⟩;have a:=qH (p.same d);have j:=qH (m.trans d qf);clear d;have r:=a.frozen 0;have s:=a.cell 0;have t:=a.frozen 1;have u:=a.cell 1;have v:=a.frozen 2;have y:=a.cell 2;rcases h with ⟨i,rfl⟩ | ⟨x,A1,n1,c1,i,rfl,l⟩
 · go_wp2;have f:=xH k w.heap.size [.int .i64 0,.int .i64 0,.slice none 0 0];refine XY rfl rfl a rfl ?_;exact ⟨((ZI (S':=fun b=>b=w.heap.size) j qe).trans f qf).mono fun b hb h=>qO,.inl ⟨i,rfl⟩⟩
 unfold N1.cellsV;go_wp2;have f:=xH k w.heap.size [.int .i64 x.rel,.int .i64 x.prop,.slice A1 n1 c1];refine XY rfl rfl a rfl ?_;exact ⟨((ZI (S':=fun b=>b=w.heap.size) j qe).trans f qf).mono fun b hb h=>qO,.inr ⟨x,A1,n1,c1,i,rfl,GA (RA l qO) f fun b hb B=>by have:=(l.lt b hb).1;omega⟩⟩
section
variable {w:World} {B c r g po:Nat} {v:Value} {bs:List UInt8} {t:TypeId} {cs:Array Value} {n:Int}
theorem ZH (h:CW w B c r v bs) (hl:bs.length<=1000) (hp:Blk w g t cs) (j:cs[po]?=some (.int .i64 n)) (ht:t≠237/\t≠244/\5≠t) (most:Int) (hm:most<=65536) (k:inP n (-1) most=true):
 Calls Tryz.prog 152 #[.pointer (some ⟨c,0,none⟩),.pointer (some ⟨g,po,none⟩),.int .i64 most] w fun e w'=>e=.returned (.tuple #[])/\CWon w B c r v (bs++ptrB n) w':=by
 have a:=NB.1 k;have d:=qH (nK h 4 rfl hl hp j ht (-1) most 1 (lA _) ⟨a.1,a.2,hm,qO⟩);clear h hp j ht hl a k;go_enter Tryz.func152,Tryz.ntmps152;go_wp2_with fail;refine d.mono ?_;rintro e i ⟨rfl,b⟩;have f:=qH b;clear b;go_wp2;go_end0;exact ⟨rfl,f⟩
theorem YY (h:CW w B c r v bs) (hl:bs.length<=1000) (hp:Blk w g t cs) (j:cs[po]?=some (.int .i64 n)) (ht:t≠237/\t≠244/\5≠t) (k:inP n 0 200=true):
 Calls Tryz.prog 155 #[.pointer (some ⟨c,0,none⟩),.pointer (some ⟨g,po,none⟩)] w fun e w'=>e=.returned (.tuple #[])/\CWon w B c r v (bs++beb 2 n.toNat) w':=by
 have a:=NB.1 k;have b:=qH (nK h 2 rfl hl hp j ht 0 200 0 qO ⟨a.1,a.2,qO,qO⟩);rw [show n+((0:Nat):Int)=n by omega] at b;clear h hp j ht hl a k;go_enter Tryz.func155,Tryz.ntmps155;go_wp2_with fail;refine b.mono ?_;rintro e i ⟨rfl,d⟩;have f:=qH d;clear d;go_wp2;go_end0;exact ⟨rfl,f⟩
end
theorem relT:124≠237/\124≠244/\5≠124:=qD
theorem Zus {x:R1} (h:CW w B c r v bs) (hl:bs.length<=500) (hp:Blk w g 124 x.cells) (h1:inP x.link.src 0 1024=true) (h2:inP x.link.dst 0 1024=true):
 Calls Tryz.prog 154 #[.pointer (some ⟨c,0,none⟩),.pointer (some ⟨g,0,none⟩)] w fun e w'=>e=.returned (.tuple #[])/\CWon w B c r v (bs++(beb 4 x.link.src.toNat++beb 4 x.link.dst.toNat)) w':=by
 have d:=NB.1 h1;have f:=NB.1 h2;have i:=qH h;have j:=qH hp;clear h hp h1 h2;go_enter Tryz.func154,Tryz.ntmps154;go_wp2_with fail;refine (nK i 4 rfl qO j.out (po:=1) (n:=x.link.src) rfl relT 0 1024 0 qO ⟨d.1,d.2,qO,qO⟩).mono ?_;rintro e q ⟨rfl,a⟩;rw [show x.link.src+((0:Nat):Int)=x.link.src by omega] at a;obtain ⟨s,k,l⟩:=a.ex;have m:=qH a;have o:=qH k;have N1:=qH l;have P1:=qH (a.blk i j relT);clear a k l;go_wp2_with fail;refine (nK o 4 rfl (by simp only [kA,rA];omega) P1.out (po:=2) (n:=x.link.dst) rfl relT 0 1024 0 qO ⟨f.1,f.2,qO,qO⟩).mono ?_;rintro e t ⟨rfl,b⟩;rw [show x.link.dst+((0:Nat):Int)=x.link.dst by omega] at b;have p:=qH b;clear b;go_wp2;go_end0;exact ⟨rfl,by rw [<- vA];exact m.trans N1 p⟩
theorem ZqR {x:R1} (h:CW w B c r v bs) (hl:bs.length<=500) (hp:Blk w g 124 x.cells) (h1:inP x.link.sprev (-1) 2048=true) (h2:inP x.link.snext (-1) 2048=true) (h3:inP x.link.dprev (-1) 2048=true) (h4:inP x.link.dnext (-1) 2048=true):
 Calls Tryz.prog 156 #[.pointer (some ⟨c,0,none⟩),.pointer (some ⟨g,0,none⟩)] w fun e w'=>e=.returned (.tuple #[])/\CWon w B c r v (bs++(ptrB x.link.sprev++(ptrB x.link.snext++(ptrB x.link.dprev++ptrB x.link.dnext)))) w':=by
 have d:=qH h;have E:=qH hp;have t:=qH (And.intro h1 (And.intro h2 (And.intro h3 h4)));clear h hp h1 h2 h3 h4;go_enter Tryz.func156,Tryz.ntmps156;have F:=((iA w).alloc (.cells #[.pointer (some ⟨g,3,none⟩),.pointer (some ⟨g,5,none⟩),.pointer (some ⟨g,4,none⟩),.pointer (some ⟨g,6,none⟩)] 176)).drew;have f:Hid (Blk (w.alloc (.cells #[.pointer (some ⟨g,3,none⟩),.pointer (some ⟨g,5,none⟩),.pointer (some ⟨g,4,none⟩),.pointer (some ⟨g,6,none⟩)] 176)).drew w.heap.size 176 #[.pointer (some ⟨g,3,none⟩),.pointer (some ⟨g,5,none⟩),.pointer (some ⟨g,4,none⟩),.pointer (some ⟨g,6,none⟩)]):=qH (jA w _ _);have a:=qH F;clear F;go_upto_region 0 with fail;go_region;generalize World.drew (w.alloc (.cells #[.pointer (some ⟨g,3,none⟩),.pointer (some ⟨g,5,none⟩),.pointer (some ⟨g,4,none⟩),.pointer (some ⟨g,6,none⟩)] 176))=O at *;generalize w.heap.size=z at *;have u:176≠237/\176≠244/\5≠176:=qD;have G:=qH (show CWon w B c r v bs O from ⟨⟨v,⟨d.cod.same a.out,d.wtr.same a.out⟩,.inl rfl⟩,a.mono qe⟩);have y:=qH (show CW O B c r v bs from ⟨d.cod.same a.out,d.wtr.same a.out⟩);have H:=qH (E.same a);clear d E a;go_wp2_with fail;refine wp_loop_rounds 5 ?_;have t0:=f.c0;rw [UE];go_wp2_with fail;refine (ZH y (by first | omega | (simp only [kA,BD];omega)) H (n:=x.link.sprev) rfl relT 2048 qO t.1).mono ?_;rintro e w1 ⟨rfl,p⟩;obtain ⟨P,R,S⟩:=p.ex;have i:=qH (p.blk y f u);have P1:=qH (p.blk y H relT);have I:=qH (G.trans (.inl rfl) p);have j:Hid (P.ownBlock=v.ownBlock\/∃ g,P.ownBlock=some g/\w.heap.size<=g):=qH (by
  rcases S with n | ⟨g,n,m⟩
  · rw [n];exact .inl rfl
  exact .inr ⟨g,n,tA G.upd.size m⟩)
 have A:=qH R;clear p R S t0;go_wp2_with fail;have t1:=i.c1;rw [UE];go_wp2_with fail;refine (ZH A (by first | omega | (simp only [kA,BD];omega)) P1 (n:=x.link.snext) rfl relT 2048 qO t.2.1).mono ?_;rintro e w2 ⟨rfl,q⟩;obtain ⟨T,U,V⟩:=q.ex;have k:=qH (q.blk A i u);have L:=qH (q.blk A P1 relT);have M:=qH (I.trans j q);have l:Hid (T.ownBlock=v.ownBlock\/∃ g,T.ownBlock=some g/\w.heap.size<=g):=qH (by
  rcases V with n | ⟨g,n,m⟩
  · rw [n];exact j
  exact .inr ⟨g,n,tA I.upd.size m⟩)
 have C:=qH U;clear q U V t1;go_wp2_with fail;have t2:=k.c2;rw [UE];go_wp2_with fail;refine (ZH C (by first | omega | (simp only [kA,BD];omega)) L (n:=x.link.dprev) rfl relT 2048 qO t.2.2.1).mono ?_;rintro e w3 ⟨rfl,s⟩;obtain ⟨W,X,Y⟩:=s.ex;have D:=qH (s.blk C k u);have P3:=qH (s.blk C L relT);have N:=qH (M.trans l s);have o:Hid (W.ownBlock=v.ownBlock\/∃ g,W.ownBlock=some g/\w.heap.size<=g):=qH (by
  rcases Y with n | ⟨g,n,m⟩
  · rw [n];exact l
  exact .inr ⟨g,n,tA M.upd.size m⟩)
 have C3:=qH X;clear s X Y t2;go_wp2_with fail;have t3:=D.c3;rw [UE];go_wp2_with fail;refine (ZH C3 (by first | omega | (simp only [kA,BD];omega)) P3 (n:=x.link.dnext) rfl relT 2048 qO t.2.2.2).mono ?_;rintro e w4 ⟨rfl,b⟩;obtain ⟨Z,c4,n4⟩:=b.ex;have K4:=qH (N.trans o b);have a0:Hid (Z.ownBlock=v.ownBlock\/∃ g,Z.ownBlock=some g/\w.heap.size<=g):=qH (by
  rcases n4 with n | ⟨g,n,m⟩
  · rw [n];exact o
  exact .inr ⟨g,n,tA N.upd.size m⟩)
 clear b c4 n4 t3;go_wp2_with fail;rw [UE];go_wp2;go_end0;have b:=K4.out;simp only [vA] at b;exact ⟨rfl,b⟩
theorem ZvN {x:R1} (h:CW w B c r v []) (hp:Blk w g 124 x.cells) (hx:cE x=true):
 Calls Tryz.prog 108 #[.pointer (some ⟨c,0,none⟩),.pointer (some ⟨g,0,none⟩)] w fun e w'=>e=.returned (.tuple #[])/\CWon w B c r v (relB x) w':=by
 unfold cE AI at hx;simp only [kB] at hx;obtain ⟨⟨p,q,s,t,u,y⟩,z,A⟩:=hx;have a:=qH (And.intro p (And.intro q (And.intro s (And.intro t (And.intro u (And.intro y (And.intro z A)))))));have i:=qH h;have j:=qH hp;clear h hp p q s t u y z A;go_enter Tryz.func108,Tryz.ntmps108;go_wp2_with fail;refine (Zus i qS j.out a.1 a.2.1).mono ?_;rintro e U ⟨rfl,b⟩;obtain ⟨V,C,D⟩:=b.ex;have P1:=qH (b.blk i j relT);have L:=qH b;have N1:=qH D;have l:=qH C;clear b C D;go_wp2_with fail;refine (YY (po:=7) l (by simp only [kA,mC,rA];omega) P1.out (n:=x.type) rfl relT a.2.2.2.2.2.2.1).mono ?_;rintro e W ⟨rfl,d⟩;obtain ⟨X,E,F⟩:=d.ex;have m:=qH (d.blk l P1 relT);have M:=qH d;have N:=qH F;have o:=qH E;clear d E F;go_wp2_with fail;refine (ZqR o (by simp only [kA,mC,rA];omega) m.out a.2.2.1 a.2.2.2.1 a.2.2.2.2.1 a.2.2.2.2.2.1).mono ?_;rintro e Y ⟨rfl,f⟩;obtain ⟨Z,G,H⟩:=f.ex;have O:=qH (f.blk o m relT);have P:=qH f;have R:=qH H;have S:=qH G;clear f G H;go_wp2_with fail;refine (ZH (po:=8) S (by simp only [kA,mC,rA,BD];omega) O.out (n:=x.prop) rfl relT 65536 qO a.2.2.2.2.2.2.2).mono ?_;rintro e w4 ⟨rfl,I⟩;have T:=qH I;clear I;go_wp2;go_end0;have k:=L.trans N1.out (M.trans N (P.trans R T));simp only [SB,vA] at k;exact ⟨rfl,k⟩
theorem QF:145≠237/\145≠244/\5≠145:=qD
theorem oK:115≠237/\115≠244/\5≠115:=qD
theorem intT:3≠237/\3≠244/\5≠3:=qD
theorem NewV.trans {w1:World} {v1 v2:Value} (hs:w.heap.size<=w1.heap.size) (h:v1.ownBlock=v.ownBlock\/∃ g,v1.ownBlock=some g/\w.heap.size<=g) (k:v2.ownBlock=v1.ownBlock\/∃ g,v2.ownBlock=some g/\w1.heap.size<=g):v2.ownBlock=v.ownBlock\/∃ g,v2.ownBlock=some g/\w.heap.size<=g:=by
 rcases k with k | ⟨g,k,m⟩
 · rw [k];exact h
 exact .inr ⟨g,k,tA hs m⟩
abbrev JI:=@NewV.trans
theorem CW.again (h:CW w B c r v bs):CWon w B c r v bs (w.setCell ⟨c,2,none⟩ (.bool false))/\CW (w.setCell ⟨c,2,none⟩ (.bool false)) B c r v bs:=by
 have a:Upd (fun b=>b=c) w (w.setCell ⟨c,2,none⟩ (.bool false)):=(eA _ w).put1 _;have d:CW (w.setCell ⟨c,2,none⟩ (.bool false)) B c r v bs:=⟨h.cod.put 2 _,h.wtr.upd a (fun e=>by have f:=h.cod.ne h.wtr.2.1 qD;exact f e.symm) fun b g e=>h.cod.ne_own h.wtr.2.2 qD (e ▸ g)⟩
 exact ⟨⟨⟨v,d,.inl rfl⟩,a.mono fun _ _ h=>.inl h⟩,d⟩
theorem CW.same (h:CW w B c r v bs) (hu:Same w w'):CW w' B c r v bs:=⟨h.cod.same hu,h.wtr.same hu⟩
theorem CWon.pre {w0:World} (hu:Same w w0) (h:CWon w0 B c r v bs w'):CWon w B c r v bs w':=by
 obtain ⟨b,d,a⟩:=h.ex;refine ⟨⟨b,d,?_⟩,(hu.mono qe).trans h.upd qf⟩;rcases a with a | ⟨g,a,e⟩
 · exact .inl a
 exact .inr ⟨g,a,tA hu.size e⟩
theorem u64w (n:Int):IntKind.u64.wrap n=(u64 n:Int):=by unfold u64;rw [jR];omega
theorem Zut {x:P1} (h:CW w B c r v []) (hp:Blk w g 145 x.cells) (hx:TD x=true):
 Calls Tryz.prog 127 #[.pointer (some ⟨c,0,none⟩),.pointer (some ⟨g,0,none⟩)] w fun e w'=>e=.returned (.tuple #[])/\CWon w B c r v (FC x) w':=by
 unfold TD at hx;simp only [kB] at hx;obtain ⟨a1,a2,a3,a4,a5⟩:=hx;have i2:=NB.1 a2;have o:=qH (And.intro a1 (And.intro a4 a5));have HK:=qH a3;have C0:=qH h;have P0:=qH hp;clear h hp a1 a2 a3 a4 a5;go_enter Tryz.func127,Tryz.ntmps127;go_wp2_with fail;refine (YY (po:=0) C0 qS P0.out (n:=x.key) rfl QF o.1).mono ?_;rintro e w1 ⟨rfl,m⟩;obtain ⟨v1,c1,n1⟩:=m.ex;have P1:=qH (m.blk C0 P0 QF);have K1:=qH m;have N1:=qH n1;have C1:=qH c1;clear m c1 n1;go_wp2_with fail;refine (nK C1 1 rfl (by simp only [kA,mC,rA];omega) P1.out (po:=1) (n:=x.kind) rfl QF 1 9 0 qO ⟨i2.1,i2.2,qO,qO⟩).mono ?_;rintro e E ⟨rfl,F⟩;rw [show x.kind+((0:Nat):Int)=x.kind by omega] at F;obtain ⟨v2,G,n2⟩:=F.ex;have p:=qH (F.blk C1 P1 QF);have V:=qH (K1.trans N1 F);have q:=qH (JI K1.upd.size N1 n2);have q1:=p.c1;have q2:=p.c2;have q3:=p.c3;have d1:=G.cod.c1;have W:=G.cod.c2;have X:=G.cod.frozen 2;have Y:=qH G;clear F G n2;by_cases Z:x.kind<4
 · have m:x.kind<=3:=qO;have d:x.blob = -1:=by have:=HK.out;rw [gA Z] at this;exact MJ this
   rw [d] at q3;obtain ⟨j,H⟩:=Y.again;have s:=qH (j.blk Y p QF);have t:=qH (V.trans q j);have a:=qH H;have dA:=a.cod.c1;clear j H;go_upto_region 6 with fail;generalize E.setCell ⟨c,2,none⟩ (.bool false)=D at *;have R:Same D D.drew:=(eA _ D).drew;refine eE 9 (fun wx=>wx.cell? ⟨c,0,none⟩=some (.pointer (some ⟨r,0,none⟩))/\wx.cell? ⟨g,2,none⟩=some (.int .i64 x.num)) qK ⟨(a.cod.same R).cell 0,(s.same R).cell 2⟩ (fun l=>?_)
   repeat
    first
     | refine EA (v:=?_) 0 rfl ?_ ?_
     | refine EA (v:=?_) 1 rfl ?_ ?_
     | refine EA (v:=?_) 2 rfl ?_ ?_
     | refine EA (v:=?_) 3 rfl ?_ ?_
     | refine EA (v:=?_) 4 rfl ?_ ?_
     | refine EA (v:=?_) 5 rfl ?_ ?_
     | refine EA (v:=?_) 6 rfl ?_ ?_
     | refine EA (v:=?_) 7 rfl ?_ ?_
     | refine EA (v:=?_) 8 rfl ?_ ?_
    rotate_left
    · intro wx I;have h0:=I.1;have h1:=I.2;go_simp;try with_reducible rfl
    simp only [Act.put,zA]
   refine CI (by decide +kernel) (by decide +kernel) rfl (fun K hK=>?_) _;have w8:=u64w x.num;go_simp;refine (ZS (a.wtr.same R) 8 (u64 x.num) rfl qO (by simp only [kA,mC,rA];omega)).mono ?_;rintro e w5 ⟨rfl,h5⟩;have u5:=(R.mono (S':=fun b=>b=r\/v2.ownBlock=some b) qe).trans h5.upd qf;have f:CWon D B c r v2 ([]++beb 2 x.key.toNat++beb 1 x.kind.toNat++beb 8 (u64 x.num)) w5:=by
    obtain ⟨v',h6,h7⟩:=h5.ex;exact ⟨⟨v',⟨a.cod.upd u5 (by
     rintro (e | e)
     · exact a.cod.ne a.wtr.2.1 qD e
     exact a.cod.ne_own a.wtr.2.2 qD e),h6⟩,h7⟩,u5.mono fun _ _ h=>.inr h⟩
   obtain ⟨v5,L,M⟩:=f.ex;have u:=qH (f.blk a s QF);have y:=qH (t.trans q f);have A:=qH (JI t.upd.size q M);have C:=qH L;clear h5 u5 f L M;go_wp2_with fail;refine hK _ _ ?_;clear hK K l;go_wp2_with fail;refine (ZH (po:=4) C (by simp only [kA,mC,rA];omega) u.out (n:=x.prev) rfl QF 65536 qO o.2.1).mono ?_;rintro e w6 ⟨rfl,i⟩;obtain ⟨v6,N,O⟩:=i.ex;have P6:=qH (i.blk C u QF);have K6:=qH (y.trans A i);have N6:=qH (JI y.upd.size A O);have C6:=qH N;clear i N O;go_wp2_with fail;refine (ZH (po:=5) C6 (by simp only [kA,mC,rA,BD];omega) P6.out (n:=x.next) rfl QF 65536 qO o.2.2).mono ?_;rintro e w7 ⟨rfl,P⟩;have K7:=qH (K6.trans N6 P);clear P;go_wp2;go_end0;have k:=K7.out;simp only [SB,vA] at k;refine ⟨rfl,?_⟩;unfold FC;rw [gA Z];exact k
 have m:¬ x.kind<=3:=qO;have d:x.num=0/\inP x.blob 0 65536=true:=by have:=HK.out;rw [aA Z,kB] at this;exact ⟨MJ this.1,this.2⟩
 have i3:=NB.1 d.2;rw [d.1] at q2;have S:=(iA E).alloc (.cells #[.int .i64 0] 3);have Z3:=qH (jA E 3 #[.int .i64 0]);have C3:=qH (Y.same S);have P3:=qH (p.same S);have SA:=qH S;clear S d1 W X q3;go_upto_region 8 with fail;generalize E.heap.size=z at *;generalize E.alloc (.cells #[.int .i64 0] 3)=D at *;go_wp2_with fail;refine (nK C3 4 rfl (by simp only [kA,mC,rA];omega) Z3.out (po:=0) (n:=0) rfl intT 0 1 0 qO ⟨qO,qO,qO,qO⟩).mono ?_;rintro e w4 ⟨rfl,T⟩;obtain ⟨v4,U,n4⟩:=T.ex;have P4:=qH (T.blk C3 P3 QF);have K4:=qH (V.trans q (CWon.pre SA T));have N4:=qH (JI V.upd.size q (JI SA.size (.inl rfl) n4));have C4:=qH U;have q4:w4.cell? ⟨g,2,none⟩=some (.int .i64 0):=by have q5:=P4.c2;rwa [d.1] at q5
 have W:=U.cod.c2;have X:=U.cod.frozen 2;clear T U n4;obtain ⟨j,H⟩:=C4.again;have s:=qH (j.blk C4 P4 QF);have t:=qH (K4.trans N4 j);have a:=qH H;clear j H;go_upto_region 10 with fail;generalize w4.setCell ⟨c,2,none⟩ (.bool false)=w5 at *;go_wp2_with fail;refine (nK a 4 rfl (by simp only [kA,mC,rA];omega) s.out (po:=3) (n:=x.blob) rfl QF 0 65536 1 qO ⟨i3.1,i3.2,qO,qO⟩).mono ?_;rintro e w8 ⟨rfl,f⟩;obtain ⟨v5,L,M⟩:=f.ex;have u:=qH (f.blk a s QF);have y:=qH (t.trans N4 f);have A:=qH (JI t.upd.size N4 M);have C:=qH L;clear f L M q4 W X;go_wp2_with fail;refine (ZH (po:=4) C (by simp only [kA,mC,rA];omega) u.out (n:=x.prev) rfl QF 65536 qO o.2.1).mono ?_;rintro e w6 ⟨rfl,i⟩;obtain ⟨v6,N,O⟩:=i.ex;have P6:=qH (i.blk C u QF);have K6:=qH (y.trans A i);have N6:=qH (JI y.upd.size A O);have C6:=qH N;clear i N O;go_wp2_with fail;refine (ZH (po:=5) C6 (by simp only [kA,mC,rA,BD];omega) P6.out (n:=x.next) rfl QF 65536 qO o.2.2).mono ?_;rintro e w7 ⟨rfl,P⟩;have K7:=qH (K6.trans N6 P);clear P;go_wp2;go_end0;have k:=K7.out;refine ⟨rfl,?_⟩;unfold FC;rw [aA qO,XW qO];simp only [SB,vA] at k ⊢;exact k
theorem ZY:∀ {l:List Int} {last:Int},NG last l=true->∀ (k:Nat) (n:Int),l[k]?=some n->inP n 0 200=true/\(last::l)[k]?.getD 0<n
 | [],_,_,k,n,h=>by cases h
 | m::l,last,h,0,n,hk=>by simp only [NG,kB,NC] at h;simp only [rC,SE] at hk;subst hk;exact ⟨h.1,h.2.1⟩
 | m::l,last,h,k+1,n,hk=>by simp only [NG,kB,NC] at h;rw [LC] at hk;obtain ⟨a,b⟩:=ZY h.2.2 k n hk;refine ⟨a,?_⟩;rw [LC];exact b
theorem ZvO {l:List Int} (hl:l.length<=8) {k:Nat} (hk:k<8):(labB l).take (k+1)=(labB l).take k++beb 1 (l[k]?.getD (-1)+1).toNat:=by
 have a:(labB l).length=8:=by simp only [labB,TB,kA,nA,aD];omega
 rw [eD,WP];congr 1;unfold labB;by_cases h:k<l.length
 · rw [PI (by rw [nA];exact h),MA,FA h];rfl
 rw [WG (by rw [nA];omega),nA,UI (l:=l) qO,TB,kN,gA qO];rfl
theorem CWon.ints {g:List UInt8} {xs:List Value} (hc:CW w B c r v g) (hk:CWon w B c r v bs w') (ho:w.ownsRow BL 3 1 (.slice A n cp) n xs):w'.ownsRow BL 3 1 (.slice A n cp) n xs:=GA ho hk.upd fun b d=>by
 obtain ⟨f,a⟩:=LA ho d;rintro (e | e | e)
 · exact a.ne hc.cod qD e
 · exact a.ne hc.wtr.2.1 qD e
 exact a.ne_own hc.wtr.2.2 qD e
theorem ZqS {w:World} {B c r g BL n cp:Nat} {v:Value} {bs:List UInt8} {x0 x1:Value} {A:Option Addr} {ls:List Int} (h:CW w B c r v bs) (hl:bs.length<=500) (hp:Blk w g 115 #[x0,x1,.slice A n cp]) (ho:w.ownsRow BL 3 1 (.slice A n cp) n (ls.map (Value.int .i64))) (hls:OG ls=true) :
 Calls Tryz.prog 153 #[.pointer (some ⟨c,0,none⟩),.pointer (some ⟨g,2,none⟩)] w fun e w'=>e=.returned (.tuple #[])/\CWon w B c r v (bs++labB ls) w':=by
 unfold OG at hls;simp only [kB,NC] at hls;obtain ⟨af,N⟩:=hls;have a0:ls.length=n:=by have:=ho.1;simpa using this
 have HL:=qH N;have a6:=qH a0;have s:w.cell? ⟨c,2,none⟩=some (.bool false):=h.cod.cell 2;have f2:w.frozen? ⟨c,2,none⟩=false:=h.cod.frozen 2;have g2:w.cell? ⟨g,2,none⟩=some (.slice A n cp):=hp.cell 2;have n8:¬ (n:Int)>8:=by omega
 obtain ⟨X,cA⟩:=h.again;have K0:=qH X;have C0:=qH cA;have P0:=qH (X.blk h hp oK);have O0:=qH (CWon.ints h X ho);clear h hp ho X cA N;go_enter Tryz.func153,Tryz.ntmps153;go_upto_region 1 with fail;generalize w.setCell ⟨c,2,none⟩ (.bool false)=wA at *;clear s f2 g2;go_wp2_with fail;go_loopg [22,4,5] 8 (fun gh ix la en wr=>∃ (k:Nat) (m:Value) (L:Int) (i:Bool),8-k=gh/\k<=8/\ix=.int .i64 k/\la=.int .i64 L/\en=.bool i/\Hid (((-1)::ls)[k]?.getD (-1)=L)/\Hid (decide (n<k)=i)/\Hid (CWon w B c r v (bs++(labB ls).take k) wr)/\Hid (m.ownBlock=v.ownBlock\/∃ g,m.ownBlock=some g/\w.heap.size<=g) /\
  Hid (CW wr B c r m (bs++(labB ls).take k))/\Hid (Blk wr g 115 #[x0,x1,.slice A n cp])/\Hid (wr.ownsRow BL 3 1 (.slice A n cp) n (ls.map (Value.int .i64))))
 case atStart =>
  exact ⟨0,v,-1,false,rfl,by omega,rfl,rfl,rfl,qH rfl,qH rfl,by simpa using K0,qH (.inl rfl),by simpa using C0,P0,O0⟩
 obtain ⟨k,m,L,i,rfl,hk,rfl,rfl,rfl,KL,KE,Y,KN,KC,KP,KO⟩:=hrel;by_cases a7:k<8
 · obtain ⟨V,O⟩:∃ V:Int,ls[k]?.getD (-1)=V:=⟨_,rfl⟩
   have ak:((labB ls).take k).length<=8:=by rw [RB];omega
   have g2:(wr.alloc (.cells #[.int .i64 (-1)] 3)).cell? ⟨g,2,none⟩=some (.slice A n cp):=(KP.out.alloc _).cell 2;have d:(k<n->inP V 0 200=true/\L<V)/\(¬ k<n->V = -1):=by
    refine ⟨fun h=>?_,fun h=>?_⟩
    · have C:ls[k]?=some V:=by rw [<- O,FA (by omega)];rfl
      obtain ⟨h2,h3⟩:=ZY HL.out k V C;refine ⟨h2,?_⟩;rw [<- KL.out];have h4:((-1)::ls)[k]?≠none:=by rw [ne_eq,List.getElem?_eq_none_iff];simp only [BA];omega
      cases h5:((-1:Int)::ls)[k]? with
      | none=>exact absurd h5 h4
      | some y=>rw [h5] at h3;exact h3
    rw [<- O,UI (by omega)];rfl
   have E:=(eA (fun _=>False) wr).alloc (.cells #[.int .i64 (-1)] 3);have t:=qH (KC.out.same E);have T:=qH (KP.out.same E);have U:=qH (mA KO.out E);have l:=qH (jA wr 3 #[.int .i64 (-1)]);have SA:=qH E;have a8:=qH (show c<wr.heap.size from KC.out.cod.lt);have F:Hid (∀ b,(Value.slice A n cp).ownBlock=some b->b<wr.heap.size):=qH fun b Z=>(KO.out.lt b Z).2;clear E;go_upto_if 30 with fail;generalize hz:wr.heap.size=z at *;generalize wr.alloc (.cells #[.int .i64 (-1)] 3)=j at *;go_cut [23,30] from 31 to 47 (fun _ _ o=>Hid (CW o B c r m (bs++(labB ls).take k))/\Hid (CWon wr B c r m (bs++(labB ls).take k) o)/\Hid (Blk o z 3 #[.int .i64 V])/\Hid (Blk o g 115 #[x0,x1,.slice A n cp])/\Hid (o.ownsRow BL 3 1 (.slice A n cp) n (ls.map (Value.int .i64))))
   case first =>
    by_cases a:k<n
    · obtain ⟨ag,_⟩:=d.1 a;have al:=NB.1 ag;obtain ⟨b,u,rfl,_,an,hu,hc,_,_⟩:=EE U.out a;have a9:u=.int .i64 V:=by
       rw [MA] at hu;have C:ls[k]?=some V:=by rw [<- O,FA (by have:=a6.out;omega)];rfl
       rw [C] at hu;exact (eB hu).symm
      subst a9;have q1:(k:Int)<(n:Int):=by omega
      have am:b≠z:=fun e=>by have:=F.out b rfl;omega
      have zf:j.frozen? ⟨z,0,none⟩=false:=l.out.frozen 0;have z0:j.cell? ⟨z,0,none⟩=some (.int .i64 (-1)):=l.out.cell 0;have aa:c≠z:=by have:=a8.out;omega
      have W:Upd (fun b=>b=z) j (j.setCell ⟨z,0,none⟩ (.int .i64 V)):=(eA _ j).put1 _;have D:=qH (show CW (j.setCell ⟨z,0,none⟩ (.int .i64 V)) B c r m (bs++(labB ls).take k) from ⟨t.out.cod.far aa _,t.out.wtr.upd W (fun e=>by have:=t.out.wtr.2.1;rw [e] at this;exact absurd rfl (l.out.ne this (by decide))) fun b Z e=>l.out.ne_own t.out.wtr.2.2 (by decide) (e ▸ Z)⟩)
      have PZ:=qH (T.out.upd W fun e=>absurd e (T.out.ne l.out (by decide)));have OZ:=qH (GA U.out W fun b' ah e=>by have:=F.out b' ah;omega);have ZZ:=qH (l.out.put 0 (.int .i64 V));have d2:(j.setCell ⟨z,0,none⟩ (.int .i64 V)).cell? ⟨c,2,none⟩=some (.bool false):=D.out.cod.cell 2;have e2:(j.setCell ⟨z,0,none⟩ (.int .i64 V)).frozen? ⟨c,2,none⟩=false:=D.out.cod.frozen 2;have zz:(j.setCell ⟨z,0,none⟩ (.int .i64 V)).cell? ⟨z,0,none⟩=some (.int .i64 V):=ZZ.out.cell 0;have nV:¬ V<0:=by omega
      obtain ⟨q,P⟩:=D.out.again;have G:=qH q;have ab:=qH P;clear q P hu;go_wp2;go_meet;have H:Upd (fun b=>b=c\/b=r\/m.ownBlock=some b) wr (j.setCell ⟨z,0,none⟩ (.int .i64 V)):=(SA.out.mono fun _ _ f=>f.elim).trans W fun b Z e=>by omega
      refine ⟨ab,qH ⟨G.out.ex.imp fun v' h=>⟨h.1,?_⟩,H.trans G.out.upd fun _ _ h=>h⟩,qH (G.out.blk D.out ZZ.out intT),qH (G.out.blk D.out PZ.out oK),qH (G.out.ints D.out OZ.out)⟩;exact JI H.size (.inl rfl) h.2
    have q1:¬ (k:Int)<(n:Int):=by omega
    go_wp2;go_meet;rw [<- d.2 a] at l;exact ⟨t,qH ⟨⟨m,t.out,.inl rfl⟩,SA.out.mono fun _ _ f=>f.elim⟩,l,T,U⟩
   case rest =>
   obtain ⟨R,K1,Z1,P1,O1⟩:=hcut;have I : -1<=V/\V<200:=by
    by_cases a:k<n
    · have:=NB.1 (d.1 a).1;omega
    have:=d.2 a;omega
   clear t T U l SA KP KO KC g2;go_wp2_with fail;refine (nK R.out 1 rfl (by rw [kA];omega) Z1.out (po:=0) (n:=V) rfl intT (-1) 200 1 (by omega) ⟨I.1,I.2,by omega,by omega⟩).mono ?_;rintro e S ⟨rfl,x⟩;obtain ⟨v2,s,n2⟩:=x.ex;have e2:bs++(labB ls).take k++beb 1 (V+((1:Nat):Int)).toNat=bs++(labB ls).take (k+1):=by rw [vA,ZvO af a7,O];rfl
   rw [e2] at x s;have KW:=qH (Y.out.trans KN.out (K1.out.trans (.inl rfl) x));have NW:=qH (JI Y.out.upd.size KN.out (JI K1.out.upd.size (.inl rfl) n2));have Z2:=qH (x.blk R.out Z1.out intT);have P2:=qH (x.blk R.out P1.out oK);have O2:=qH (x.ints R.out O1.out);have M:=qH s;have z2:S.cell? ⟨z,0,none⟩=some (.int .i64 V):=Z2.out.cell 0;have d2:S.cell? ⟨c,2,none⟩=some (.bool false):=s.cod.cell 2;have f2:S.frozen? ⟨c,2,none⟩=false:=s.cod.frozen 2;clear x s n2 K1 R Z1 P1 O1 Y;obtain ⟨q,P⟩:=M.out.again;have K3:=qH (KW.out.trans NW.out q);have C3:=qH P;have Z3:=qH (q.blk M.out Z2.out intT);have P3:=qH (q.blk M.out P2.out oK);have O3:=qH (q.ints M.out O2.out);clear q P KW;have p:Hid (((0<=V/\L<V/\i=false/\decide (n<k+1)=false))\/(V<0/\decide (n<k+1)=true)):=qH (by
    by_cases a:k<n
    · have C:=d.1 a;have h2:=NB.1 C.1;exact .inl ⟨h2.1,C.2,by rw [<- KE.out];exact LB (by omega),LB (by omega)⟩
    exact .inr ⟨by have:=d.2 a;omega,kC (by omega)⟩)
   have ac:=qH (show ((-1:Int)::ls)[k+1]?.getD (-1)=V by rw [LC];exact O);clear d;go_upto_region 10 with fail;go_cut [] from 50 to 68 (fun o=>S.setCell ⟨c,2,none⟩ (.bool false)=o)
   case first =>
    rcases p.out with ⟨a1,a2,a3,_⟩ | ⟨a1,_⟩
    · have a4:¬ V<=L:=by omega
      subst a3;go_wp2;go_meet;rfl
    have a4:¬ 0<=V:=by omega
    go_wp2;go_meet;rfl
   case rest =>
   subst hcut;generalize S.setCell ⟨c,2,none⟩ (.bool false)=w3 at *;have z3:w3.cell? ⟨z,0,none⟩=some (.int .i64 V):=Z3.out.cell 0;clear M Z2 P2 O2 z2 d2 f2;go_upto_region 11 with fail;go_cut [5] from 69 to 73 (fun s5 o=>s5=.bool (decide (n<k+1))/\w3=o)
   case first =>
    rcases p.out with ⟨a1,a2,a3,a5⟩ | ⟨a1,a5⟩
    · have a4:¬ V<0:=by omega
      subst a3;go_wp2;go_meet;rw [a5];exact ⟨rfl,rfl⟩
    cases i
    · go_wp2;go_meet;rw [a5];exact ⟨rfl,rfl⟩
    go_wp2;go_meet;rw [a5];exact ⟨rfl,rfl⟩
   case rest =>
   obtain ⟨rfl,ai⟩:=hcut;subst ai;have d1:w3.cell? ⟨c,1,none⟩=some (.pointer none):=C3.out.cod.cell 1;generalize ad:decide (n<k+1)=ae at *;go_wp2;go_roundg (8-(k+1))
   case measure=>omega
   case rel=>exact ⟨k+1,v2,V,ae,rfl,by omega,by go_num,rfl,rfl,ac,qH ad,K3,NW,C3,P3,O3⟩
 have hk:k=8:=by omega
 subst hk;go_wp2;go_end0;have aj:(labB ls).length=8:=by simp only [labB,TB,kA,nA,aD];omega
 have h9:=Y.out;rw [cB (by omega)] at h9;exact ⟨rfl,h9⟩
theorem Zuu {x:N1} (h:CW w B c r v []) (hp:Blk w g 115 (x.cellsV (.slice A n cp))) (ho:w.ownsRow BL 3 1 (.slice A n cp) n (x.labels.map (Value.int .i64))) (hx:bE x=true):
 Calls Tryz.prog 104 #[.pointer (some ⟨c,0,none⟩),.pointer (some ⟨g,0,none⟩)] w fun e w'=>e=.returned (.tuple #[])/\CWon w B c r v (PD x) w':=by
 unfold bE at hx;simp only [kB] at hx;have d:=qH hx;have f:=qH h;have j:=qH hp;have s:=qH ho;clear h hp ho hx;go_enter Tryz.func104,Tryz.ntmps104;go_wp2_with fail;refine (ZH (po:=0) f qS j.out (n:=x.rel) rfl oK 2048 qO d.1).mono ?_;rintro e G ⟨rfl,a⟩;obtain ⟨H,l,m⟩:=a.ex;have P1:=qH (a.blk f j oK);have t:=qH (a.ints f s);have u:=qH a;have N1:=qH m;have i:=qH l;clear a l m;go_wp2_with fail;refine (ZH (po:=1) i (by simp only [kA,mC,BD];omega) P1.out (n:=x.prop) rfl oK 65536 qO d.2.1).mono ?_;rintro e I ⟨rfl,b⟩;obtain ⟨L,o,p⟩:=b.ex;have y:=qH (b.blk i P1 oK);have z:=qH (b.ints i t);have C:=qH b;have D:=qH p;have E:=qH o;clear b o p;go_wp2_with fail;refine (ZqS E (by simp only [kA,mC,BD];omega) y.out z.out d.2.2).mono ?_;rintro e M ⟨rfl,q⟩;have F:=qH q;clear q;go_wp2;go_end0;have k:=u.trans N1.out (C.trans D F);simp only [SB,vA] at k;exact ⟨rfl,k⟩
theorem ZqT {x:N1} (h:bE x=true):(PD x).length=16:=eT h
theorem ZsI {x:R1} (_:cE x=true):(relB x).length=30:=gT x
theorem ZqU {x:P1} (_:TD x=true):(FC x).length=19:=jT x
theorem ZlE {x:N1} (w:World) (hp:Blk w g 115 (x.cellsV (.slice A n cp))) (ho:w.ownsRow BL 3 1 (.slice A n cp) n (x.labels.map (Value.int .i64))) (hx:bE x=true):
 Calls Tryz.prog 103 #[.pointer (some ⟨g,0,none⟩),.func (.func 104) #[] #[]] w fun e w'=>∃ v,e=.returned (.tuple #[v,.int .i64 0])/\OwnB w' w.heap.size v (PD x)/\Same w w':=by
 have u:=qH hp;have m:=qH hx;have y:=qH ho;clear hp hx ho;go_enter Tryz.func103,Tryz.ntmps103;go_wp2_with fail;refine (VL w).mono ?_;rintro e d ⟨r,rfl,f,c⟩;obtain ⟨L,a⟩:=f.open;have i:=c.alloc (.cells #[.pointer (some ⟨r,0,none⟩),.pointer none,.bool false] 237);have B:=qH (show CW (d.alloc (.cells #[.pointer (some ⟨r,0,none⟩),.pointer none,.bool false] 237)) w.heap.size d.heap.size r L [] from ⟨jA d _ _,a.same ((eA _ d).alloc _)⟩);have C:=qH (u.same i);have D:=qH (mA y i);have E:=qH i;have F:=c.size;have o:=qH (And.intro a.1 fun b k=>(a.2.2.lt b k).1);clear f a c i;go_upto_region 2 with fail;generalize R:d.heap.size=z at *;generalize d.alloc (.cells #[.pointer (some ⟨r,0,none⟩),.pointer none,.bool false] 237)=S at *;go_wp2_with fail;refine (Zuu B C D m).mono ?_;rintro e M ⟨rfl,l⟩;obtain ⟨T,j,N⟩:=l.ex;have p:Same w M:=((ZI (S':=fun b=>w.heap.size<=b) E qe).trans l.upd fun b k h=>by
  rcases h with h | h | h
  · omega
  · have:=o.1;omega
  exact o.2 b h).mono fun b k h=>qO
 have O:=j.cod.c2;have P:=j.cod.c0;have G:=qH j.wtr.wtr;have q:=qH p;clear l j N p;go_wp2_with fail;refine (dJ G (by simp only [ZqT m.out];omega)).mono ?_;rintro e U ⟨V,rfl,s,t⟩;have H:=qH s;have I:=qH (q.trans t qf);clear s t;go_wp2
 go_ret2
 exact ⟨_,rfl,RA H (qt q.size),I⟩
theorem Znh {x:N1} (w:World) (ho:w.ownsRow BL 3 1 (.slice A n cp) n (x.labels.map (Value.int .i64))) (hx:bE x=true):
 Calls Tryz.prog 57 #[.agg #[.int .i64 x.rel,.int .i64 x.prop,.slice A n cp]] w fun e w'=>∃ v,e=.returned (.tuple #[v,.int .i64 0])/\OwnB w' w.heap.size v (PD x)/\Same w w':=by
 have a:=(iA w).alloc (.cells #[.int .i64 x.rel,.int .i64 x.prop,.slice A n cp] 115);have f:=qH (ZlE (x:=x) _ (jA w 115 #[.int .i64 x.rel,.int .i64 x.prop,.slice A n cp]) (mA ho a) hx);have b:=qH a;clear hx a ho;go_enter Tryz.func57,Tryz.ntmps57;go_wp2_with fail;refine f.mono ?_;generalize w.alloc (.cells #[.int .i64 x.rel,.int .i64 x.prop,.slice A n cp] 115)=i at *;rintro e j ⟨v,rfl,c,d⟩;have g:=qH c;have h:=qH (b.trans d qf);clear c d;go_wp2
 go_ret2
 exact ⟨_,rfl,RA g b.size,h⟩
theorem Zni {x:R1} (w:World) (hp:Blk w g 124 x.cells) (hx:cE x=true):
 Calls Tryz.prog 107 #[.pointer (some ⟨g,0,none⟩),.func (.func 108) #[] #[]] w fun e w'=>∃ v,e=.returned (.tuple #[v,.int .i64 0])/\OwnB w' w.heap.size v (relB x)/\Same w w':=by
 have t:=qH hp;have m:=qH hx;skip;clear hp hx;go_enter Tryz.func107,Tryz.ntmps107;go_wp2_with fail;refine (VL w).mono ?_;rintro e d ⟨r,rfl,f,c⟩;obtain ⟨F,a⟩:=f.open;have j:=c.alloc (.cells #[.pointer (some ⟨r,0,none⟩),.pointer none,.bool false] 237);have u:=qH (show CW (d.alloc (.cells #[.pointer (some ⟨r,0,none⟩),.pointer none,.bool false] 237)) w.heap.size d.heap.size r F [] from ⟨jA d _ _,a.same ((eA _ d).alloc _)⟩);have y:=qH (t.same j);skip;have A:=qH j;have B:=c.size;have n:=qH (And.intro a.1 fun b k=>(a.2.2.lt b k).1);clear f a c j;go_upto_region 2 with fail;generalize M:d.heap.size=z at *;generalize d.alloc (.cells #[.pointer (some ⟨r,0,none⟩),.pointer none,.bool false] 237)=N at *;go_wp2_with fail;refine (ZvN u y m).mono ?_;rintro e G ⟨rfl,l⟩;obtain ⟨O,i,H⟩:=l.ex;have o:Same w G:=((ZI (S':=fun b=>w.heap.size<=b) A qe).trans l.upd fun b k h=>by
  rcases h with h | h | h
  · omega
  · have:=n.1;omega
  exact n.2 b h).mono fun b k h=>qO
 have I:=i.cod.c2;have L:=i.cod.c0;have C:=qH i.wtr.wtr;have p:=qH o;clear l i H o;go_wp2_with fail;refine (dJ C (by simp only [ZsI m.out];omega)).mono ?_;rintro e P ⟨R,rfl,q,s⟩;have D:=qH q;have E:=qH (p.trans s qf);clear q s;go_wp2
 go_ret2
 exact ⟨_,rfl,RA D (qt p.size),E⟩
theorem ZoO {x:R1} (w:World) (hx:cE x=true):
 Calls Tryz.prog 60 #[.agg #[.bool x.link.live,.int .i64 x.link.src,.int .i64 x.link.dst,.int .i64 x.link.sprev,.int .i64 x.link.dprev,.int .i64 x.link.snext,.int .i64 x.link.dnext,.int .i64 x.type,.int .i64 x.prop]] w fun e w'=>∃ v,e=.returned (.tuple #[v,.int .i64 0])/\OwnB w' w.heap.size v (relB x)/\Same w w':=by
 have a:=(iA w).alloc (.cells #[.bool x.link.live,.int .i64 x.link.src,.int .i64 x.link.dst,.int .i64 x.link.sprev,.int .i64 x.link.dprev,.int .i64 x.link.snext,.int .i64 x.link.dnext,.int .i64 x.type,.int .i64 x.prop] 124);have f:=qH (Zni (x:=x) _ (jA w 124 #[.bool x.link.live,.int .i64 x.link.src,.int .i64 x.link.dst,.int .i64 x.link.sprev,.int .i64 x.link.dprev,.int .i64 x.link.snext,.int .i64 x.link.dnext,.int .i64 x.type,.int .i64 x.prop]) hx);have b:=qH a;clear hx a;go_enter Tryz.func60,Tryz.ntmps60;go_wp2_with fail;refine f.mono ?_;generalize w.alloc (.cells #[.bool x.link.live,.int .i64 x.link.src,.int .i64 x.link.dst,.int .i64 x.link.sprev,.int .i64 x.link.dprev,.int .i64 x.link.snext,.int .i64 x.link.dnext,.int .i64 x.type,.int .i64 x.prop] 124)=i at *;rintro e j ⟨v,rfl,c,d⟩;have g:=qH c;have h:=qH (b.trans d qf);clear c d;go_wp2
 go_ret2
 exact ⟨_,rfl,RA g b.size,h⟩
theorem ZlF {x:P1} (w:World) (hp:Blk w g 145 x.cells) (hx:TD x=true):
 Calls Tryz.prog 151 #[.pointer (some ⟨g,0,none⟩),.func (.func 127) #[] #[]] w fun e w'=>∃ v,e=.returned (.tuple #[v,.int .i64 0])/\OwnB w' w.heap.size v (FC x)/\Same w w':=by
 have t:=qH hp;have m:=qH hx;skip;clear hp hx;go_enter Tryz.func151,Tryz.ntmps151;go_wp2_with fail;refine (VL w).mono ?_;rintro e d ⟨r,rfl,f,c⟩;obtain ⟨F,a⟩:=f.open;have j:=c.alloc (.cells #[.pointer (some ⟨r,0,none⟩),.pointer none,.bool false] 237);have u:=qH (show CW (d.alloc (.cells #[.pointer (some ⟨r,0,none⟩),.pointer none,.bool false] 237)) w.heap.size d.heap.size r F [] from ⟨jA d _ _,a.same ((eA _ d).alloc _)⟩);have y:=qH (t.same j);skip;have A:=qH j;have B:=c.size;have n:=qH (And.intro a.1 fun b k=>(a.2.2.lt b k).1);clear f a c j;go_upto_region 2 with fail;generalize M:d.heap.size=z at *;generalize d.alloc (.cells #[.pointer (some ⟨r,0,none⟩),.pointer none,.bool false] 237)=N at *;go_wp2_with fail;refine (Zut u y m).mono ?_;rintro e G ⟨rfl,l⟩;obtain ⟨O,i,H⟩:=l.ex;have o:Same w G:=((ZI (S':=fun b=>w.heap.size<=b) A qe).trans l.upd fun b k h=>by
  rcases h with h | h | h
  · omega
  · have:=n.1;omega
  exact n.2 b h).mono fun b k h=>qO
 have I:=i.cod.c2;have L:=i.cod.c0;have C:=qH i.wtr.wtr;have p:=qH o;clear l i H o;go_wp2_with fail;refine (dJ C (by simp only [ZqU m.out];omega)).mono ?_;rintro e P ⟨R,rfl,q,s⟩;have D:=qH q;have E:=qH (p.trans s qf);clear q s;go_wp2
 go_ret2
 exact ⟨_,rfl,RA D (qt p.size),E⟩
theorem Znj {x:P1} (w:World) (hx:TD x=true):
 Calls Tryz.prog 102 #[.agg #[.int .i64 x.key,.int .i64 x.kind,.int .i64 x.num,.int .i64 x.blob,.int .i64 x.prev,.int .i64 x.next]] w fun e w'=>∃ v,e=.returned (.tuple #[v,.int .i64 0])/\OwnB w' w.heap.size v (FC x)/\Same w w':=by
 have a:=(iA w).alloc (.cells #[.int .i64 x.key,.int .i64 x.kind,.int .i64 x.num,.int .i64 x.blob,.int .i64 x.prev,.int .i64 x.next] 145);have f:=qH (ZlF (x:=x) _ (jA w 145 #[.int .i64 x.key,.int .i64 x.kind,.int .i64 x.num,.int .i64 x.blob,.int .i64 x.prev,.int .i64 x.next]) hx);have b:=qH a;clear hx a;go_enter Tryz.func102,Tryz.ntmps102;go_wp2_with fail;refine f.mono ?_;generalize w.alloc (.cells #[.int .i64 x.key,.int .i64 x.kind,.int .i64 x.num,.int .i64 x.blob,.int .i64 x.prev,.int .i64 x.next] 145)=i at *;rintro e j ⟨v,rfl,c,d⟩;have g:=qH c;have h:=qH (b.trans d qf);clear c d;go_wp2
 go_ret2
 exact ⟨_,rfl,RA g b.size,h⟩
end Go.Proofs.YtmkjfhnlnhceiaaGreatDoor
