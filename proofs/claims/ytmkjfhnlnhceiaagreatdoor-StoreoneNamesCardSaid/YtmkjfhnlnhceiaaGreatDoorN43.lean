/- Texts that the claim leans on: walks and plain laws, function by function. -/
import Derived.Test.YtmkjfhnlnhceiaaGreatDoorN42
set_option maxRecDepth 100000
set_option maxHeartbeats 16000000
namespace Go.Proofs.YtmkjfhnlnhceiaaGreatDoor
open Go.RowKit
theorem ZjA {tmps:Array Value} {w:World} {g:Nat} {cs:Array Value} {ee:Int} {R:Ending->World->Prop} {u0 u1 u2 u3 u4 u5 u6 u7 u8:Value} (h2:tmps.getD 8 undef=.pointer (some ⟨g,0,none⟩)) (h3:tmps.getD 9 undef=.int .i64 ee)
 (hb:Blk w g 124 cs) (hsz:cs.size=9) (hR:R (.returned (.tuple #[.agg #[u0,u1,u2,u3,u4,u5,u6,u7,u8],.int .i64 ee])) (putCs w g 0 [u0,u1,u2,u3,u4,u5,u6,u7,u8])) :
 bodyPost Tryz.prog Tryz.f125 R Exit.ret ⟨tmps,[]⟩ (putCs w g 0 [u0,u1,u2,u3,u4,u5,u6,u7,u8]):=by
 have h:=hb.putCs [u0,u1,u2,u3,u4,u5,u6,u7,u8] hsz;generalize putCs w g 0 [u0,u1,u2,u3,u4,u5,u6,u7,u8]=W at *;have a:=h.cell 0;have b:=h.cell 1;have c:=h.cell 2;have d:=h.cell 3;have e:=h.cell 4;have f:=h.cell 5;have i:=h.cell 6;have j:=h.cell 7;have k:=h.cell 8;simp only [Ybj,YaW,Ybd] at a b c d e f i j k;refine YbB (v:=.tuple #[.agg #[u0,u1,u2,u3,u4,u5,u6,u7,u8],.int .i64 ee]) ?_ rfl hR;simp only [YbZ] at h2 h3;simp [results,Tryz.results125,go_sem,h2,h3,a,b,c,d,e,f,i,j,k]
theorem Zkz {tmps:Array Value} {w:World} {g:Nat} {cs:Array Value} {ee:Int} {R:Ending->World->Prop} {u0 u1 u2 u3 u4 u5 u6 u7 u8:Value} (h2:tmps.getD 2 undef=.pointer (some ⟨g,0,none⟩)) (h3:tmps.getD 3 undef=.int .i64 ee)
 (hb:Blk w g 124 cs) (hsz:cs.size=9) (hR:R (.returned (.tuple #[.agg #[u0,u1,u2,u3,u4,u5,u6,u7,u8],.int .i64 ee])) (putCs w g 0 [u0,u1,u2,u3,u4,u5,u6,u7,u8])) :
 bodyPost Tryz.prog Tryz.f74 R Exit.ret ⟨tmps,[]⟩ (putCs w g 0 [u0,u1,u2,u3,u4,u5,u6,u7,u8]):=by
 have h:=hb.putCs [u0,u1,u2,u3,u4,u5,u6,u7,u8] hsz;generalize putCs w g 0 [u0,u1,u2,u3,u4,u5,u6,u7,u8]=W at *;have a:=h.cell 0;have b:=h.cell 1;have c:=h.cell 2;have d:=h.cell 3;have e:=h.cell 4;have f:=h.cell 5;have i:=h.cell 6;have j:=h.cell 7;have k:=h.cell 8;simp only [Ybj,YaW,Ybd] at a b c d e f i j k;refine YbB (v:=.tuple #[.agg #[u0,u1,u2,u3,u4,u5,u6,u7,u8],.int .i64 ee]) ?_ rfl hR;simp only [YbZ] at h2 h3;simp [results,Tryz.results74,go_sem,h2,h3,a,b,c,d,e,f,i,j,k]
theorem Zne {F:Nat->Prop} {A:Option Addr} {n c:Nat} {bs:List UInt8} (w:World) (hb:Zag w F A n c bs) (hl:bs.length=30) :
 Calls Tryz.prog 125 #[.slice A n c,.int .i64 30,.agg #[.bool true,.int .i64 0,.int .i64 0,.int .i64 0,.int .i64 0,.int .i64 0,.int .i64 0,.int .i64 0,.int .i64 0],.func (.func 108) #[] #[]] w fun e w'=>Same w w' /\
  ((getR bs=none/\e=.returned (.tuple #[.agg #[.bool false,.int .i64 0,.int .i64 0,.int .i64 0,.int .i64 0,.int .i64 0,.int .i64 0,.int .i64 0,.int .i64 0],.int .i64 41])) \/
   ∃ x,getR bs=some x/\e=.returned (.tuple #[.agg x.cells,.int .i64 0])):=by
 have R:n=30:=qt hb.len;subst R;have u:=(((Yaa (fun _=>False) w).alloc (.cells #[.bool true,.int .i64 0,.int .i64 0,.int .i64 0,.int .i64 0,.int .i64 0,.int .i64 0,.int .i64 0,.int .i64 0] 124)).alloc (.cells #[.bool false,.int .i64 0,.int .i64 0,.int .i64 0,.int .i64 0,.int .i64 0,.int .i64 0,.int .i64 0,.int .i64 0] 124)).alloc (.cells #[.bool false,.int .i64 0,.int .i64 0,.int .i64 0,.int .i64 0,.int .i64 0,.int .i64 0,.int .i64 0,.int .i64 0] 124);have S:=qH u;have T:=qH (hb.same u);have v:=qH hl;clear hb u hl;go_enter Tryz.func125,Tryz.ntmps125;go_wp2_with fail;have y:=qH ((((Yad w 124 #[.bool true,.int .i64 0,.int .i64 0,.int .i64 0,.int .i64 0,.int .i64 0,.int .i64 0,.int .i64 0,.int .i64 0]).alloc (.cells #[.bool false,.int .i64 0,.int .i64 0,.int .i64 0,.int .i64 0,.int .i64 0,.int .i64 0,.int .i64 0,.int .i64 0] 124)).alloc (.cells #[.bool false,.int .i64 0,.int .i64 0,.int .i64 0,.int .i64 0,.int .i64 0,.int .i64 0,.int .i64 0,.int .i64 0] 124)));have B:=(Yad (w.alloc (.cells #[.bool true,.int .i64 0,.int .i64 0,.int .i64 0,.int .i64 0,.int .i64 0,.int .i64 0,.int .i64 0,.int .i64 0] 124)) 124 #[.bool false,.int .i64 0,.int .i64 0,.int .i64 0,.int .i64 0,.int .i64 0,.int .i64 0,.int .i64 0,.int .i64 0]).alloc (.cells #[.bool false,.int .i64 0,.int .i64 0,.int .i64 0,.int .i64 0,.int .i64 0,.int .i64 0,.int .i64 0,.int .i64 0] 124);have k:=Yad ((w.alloc (.cells #[.bool true,.int .i64 0,.int .i64 0,.int .i64 0,.int .i64 0,.int .i64 0,.int .i64 0,.int .i64 0,.int .i64 0] 124)).alloc (.cells #[.bool false,.int .i64 0,.int .i64 0,.int .i64 0,.int .i64 0,.int .i64 0,.int .i64 0,.int .i64 0,.int .i64 0] 124)) 124 #[.bool false,.int .i64 0,.int .i64 0,.int .i64 0,.int .i64 0,.int .i64 0,.int .i64 0,.int .i64 0,.int .i64 0];simp only [Yav] at B k;have C:=qH B;have i:=qH k;clear B k;generalize hz:w.heap.size=z at *;generalize ((w.alloc (.cells #[.bool true,.int .i64 0,.int .i64 0,.int .i64 0,.int .i64 0,.int .i64 0,.int .i64 0,.int .i64 0,.int .i64 0] 124)).alloc (.cells #[.bool false,.int .i64 0,.int .i64 0,.int .i64 0,.int .i64 0,.int .i64 0,.int .i64 0,.int .i64 0,.int .i64 0] 124)).alloc (.cells #[.bool false,.int .i64 0,.int .i64 0,.int .i64 0,.int .i64 0,.int .i64 0,.int .i64 0,.int .i64 0,.int .i64 0] 124)=s at *;refine (ZbG T qO).mono ?_;rintro e g ⟨r,rfl,hr,E,m⟩;have o:=m.alloc (.cells #[.pointer none,.pointer (some ⟨r,0,none⟩),.bool false] 237);have U:=E.lt;have V:s.heap.size<=g.heap.size:=m.size;have p:=i.lt;have H:Rdr (g.alloc (.cells #[.pointer none,.pointer (some ⟨r,0,none⟩),.bool false] 237)) (fun b=>(s.heap.size<=b/\b≠r)/\b<g.heap.size) r ⟨bs,0⟩:=by obtain ⟨A1,n1,c1,h1,h2⟩:=E;exact ⟨A1,n1,c1,h1.alloc _,(Zag.mono h2 fun b hb h=>⟨h,hb⟩).same ((Yaa _ g).alloc _)⟩
 have W:=qH (show CR (g.alloc (.cells #[.pointer none,.pointer (some ⟨r,0,none⟩),.bool false] 237)) (fun b=>(s.heap.size<=b/\b≠r)/\b<g.heap.size) g.heap.size r bs false from ⟨Yad g _ _,H,fun h=>h.1.2 rfl,fun h=>YcL _ h.2⟩);have I:=qH o;have y:=qH (y.same o);have C:=qH (C.same o);have i:=qH (i.same o);have l:Hid (z+1≠g.heap.size/\z+1≠r/\z+2≠g.heap.size/\z+2≠r/\z≠g.heap.size/\z≠r/\z<=r/\z<=g.heap.size):=qH qO;have X:=qH (show z+2<s.heap.size from p);have Y:(g.alloc (.cells #[.pointer none,.pointer (some ⟨r,0,none⟩),.bool false] 237)).heap.size=g.heap.size+1:=Yav _ _;clear H E m o;go_upto_region 5 with fail;generalize a0:g.heap.size=z1 at *;generalize g.alloc (.cells #[.pointer none,.pointer (some ⟨r,0,none⟩),.bool false] 237)=w2 at *;go_wp2_with fail;refine (Zuq W v y (fun h=>by have:=h.1.1;have:=X.out;omega)).mono ?_;rintro e G ⟨rfl,t,P,u3⟩;have hrel:(!Zdw (relR bs))=(getR bs).isNone:=by rw [Zrj v.out];cases Zdw (relR bs) <;> rfl
 rw [hrel] at t;have C3:=qH t.cod;have L:=qH P;have M:Hid (Upd (fun b=>z<=b) w G):=qH (((S.trans I fun _ _ f=>f).mono (S':=fun b=>z<=b) fun _ _ f=>f.elim).trans u3 fun b _ h=>qh l);have a:=qH (C.upd u3 (qh l));have d:=qH (i.upd u3 (qh l));have q:=t.cod.c2;have N:=qH I.size;clear t P u3;cases hg:getR bs with
 | none =>
   rw [hg] at q;simp only [YfD] at q;have Z:=d.cell 0;have e0:=a.frozen 0;have r0:=a.cell 0;have d1:=d.cell 1;have e1:=a.frozen 1;have r1:=a.cell 1;have d2:=d.cell 2;have e2:=a.frozen 2;have r2:=a.cell 2;have d3:=d.cell 3;have e3:=a.frozen 3;have r3:=a.cell 3;have d4:=d.cell 4;have e4:=a.frozen 4;have r4:=a.cell 4;have d5:=d.cell 5;have e5:=a.frozen 5;have r5:=a.cell 5;have d6:=d.cell 6;have e6:=a.frozen 6;have r6:=a.cell 6;have d7:=d.cell 7;have e7:=a.frozen 7;have r7:=a.cell 7;have d8:=d.cell 8;have e8:=a.frozen 8;have r8:=a.cell 8;go_wp2;have D:=Ycx G (z+1) [.bool false,.int .i64 0,.int .i64 0,.int .i64 0,.int .i64 0,.int .i64 0,.int .i64 0,.int .i64 0,.int .i64 0];refine ZjA rfl rfl a rfl ?_;exact ⟨(M.trans D fun b _ h=>qO).mono fun b hb h=>qO,.inl ⟨hg,rfl⟩⟩
 | some x =>
   rw [hg] at q;simp only [Ygt] at q;have O:x=relR bs:=by
    rw [Zrj v.out] at hg;split at hg
    · exact (Yax hg).symm
    cases hg
   rw [<- O] at L;clear O;have j:=L;have Z:=j.c0;have e0:=a.frozen 0;have r0:=a.cell 0;have d1:=j.c1;have e1:=a.frozen 1;have r1:=a.cell 1;have d2:=j.c2;have e2:=a.frozen 2;have r2:=a.cell 2;have d3:=j.c3;have e3:=a.frozen 3;have r3:=a.cell 3;have d4:=j.c4;have e4:=a.frozen 4;have r4:=a.cell 4;have d5:=j.c5;have e5:=a.frozen 5;have r5:=a.cell 5;have d6:=j.c6;have e6:=a.frozen 6;have r6:=a.cell 6;have d7:=j.c7;have e7:=a.frozen 7;have r7:=a.cell 7;have d8:=j.c8;have e8:=a.frozen 8;have r8:=a.cell 8;go_wp2;have D:=Ycx G (z+1) [.bool x.link.live,.int .i64 x.link.src,.int .i64 x.link.dst,.int .i64 x.link.sprev,.int .i64 x.link.dprev,.int .i64 x.link.snext,.int .i64 x.link.dnext,.int .i64 x.type,.int .i64 x.prop];refine ZjA rfl rfl a rfl ?_;exact ⟨(M.trans D fun b _ h=>qO).mono fun b hb h=>qO,.inr ⟨x,hg,rfl⟩⟩
theorem Zoq {F:Nat->Prop} {A:Option Addr} {n c:Nat} {bs:List UInt8} (w:World) (hb:Zag w F A n c bs) (hl:bs.length=30) :
 Calls Tryz.prog 74 #[.slice A n c] w fun e w'=>Same w w' /\
  ((getR bs=none/\e=.returned (.tuple #[.agg #[.bool false,.int .i64 0,.int .i64 0,.int .i64 0,.int .i64 0,.int .i64 0,.int .i64 0,.int .i64 0,.int .i64 0],.int .i64 41])) \/
   ∃ x,getR bs=some x/\e=.returned (.tuple #[.agg x.cells,.int .i64 0])):=by
 have g:=(Yaa (fun _=>False) w).alloc (.cells #[.bool false,.int .i64 0,.int .i64 0,.int .i64 0,.int .i64 0,.int .i64 0,.int .i64 0,.int .i64 0,.int .i64 0] 124);have m:=qH g;have o:=qH (Zne _ (hb.same g) hl);have p:=qH (Yad w 124 #[.bool false,.int .i64 0,.int .i64 0,.int .i64 0,.int .i64 0,.int .i64 0,.int .i64 0,.int .i64 0,.int .i64 0]);have q:(w.alloc (.cells #[.bool false,.int .i64 0,.int .i64 0,.int .i64 0,.int .i64 0,.int .i64 0,.int .i64 0,.int .i64 0,.int .i64 0] 124)).heap.size=w.heap.size+1:=Yav _ _;clear hb g;go_enter Tryz.func74,Tryz.ntmps74;go_wp2_with fail;refine o.mono ?_;generalize w.alloc (.cells #[.bool false,.int .i64 0,.int .i64 0,.int .i64 0,.int .i64 0,.int .i64 0,.int .i64 0,.int .i64 0,.int .i64 0] 124)=P at *;rintro e l ⟨d,h⟩;have a:=qH (p.same d);have k:=qH (m.trans d fun _ _ f=>f);clear d;have r:=a.frozen 0;have s:=a.cell 0;have t:=a.frozen 1;have u:=a.cell 1;have v:=a.frozen 2;have y:=a.cell 2;have z:=a.frozen 3;have B:=a.cell 3;have C:=a.frozen 4;have D:=a.cell 4;have E:=a.frozen 5;have G:=a.cell 5;have H:=a.frozen 6;have I:=a.cell 6;have L:=a.frozen 7;have M:=a.cell 7;have N:=a.frozen 8;have O:=a.cell 8;rcases h with ⟨j,rfl⟩ | ⟨x,j,rfl⟩
 · go_wp2;have i:=Ycx l w.heap.size [.bool false,.int .i64 0,.int .i64 0,.int .i64 0,.int .i64 0,.int .i64 0,.int .i64 0,.int .i64 0,.int .i64 0];refine Zkz rfl rfl a rfl ?_;exact ⟨((Ydf (S':=fun b=>b=w.heap.size) k fun _ _ f=>f.elim).trans i fun _ _ h=>h).mono fun b hb h=>qO,.inl ⟨j,rfl⟩⟩
 unfold R1.cells;go_wp2;have i:=Ycx l w.heap.size [.bool x.link.live,.int .i64 x.link.src,.int .i64 x.link.dst,.int .i64 x.link.sprev,.int .i64 x.link.dprev,.int .i64 x.link.snext,.int .i64 x.link.dnext,.int .i64 x.type,.int .i64 x.prop];refine Zkz rfl rfl a rfl ?_;exact ⟨((Ydf (S':=fun b=>b=w.heap.size) k fun _ _ f=>f.elim).trans i fun _ _ h=>h).mono fun b hb h=>qO,.inr ⟨x,j,rfl⟩⟩
theorem ZhW {tmps:Array Value} {w:World} {g:Nat} {cs:Array Value} {ee:Int} {R:Ending->World->Prop} {u0 u1 u2 u3 u4 u5:Value} (h2:tmps.getD 8 undef=.pointer (some ⟨g,0,none⟩)) (h3:tmps.getD 9 undef=.int .i64 ee)
 (hb:Blk w g 145 cs) (hsz:cs.size=6) (hR:R (.returned (.tuple #[.agg #[u0,u1,u2,u3,u4,u5],.int .i64 ee])) (putCs w g 0 [u0,u1,u2,u3,u4,u5])) :
 bodyPost Tryz.prog Tryz.f126 R Exit.ret ⟨tmps,[]⟩ (putCs w g 0 [u0,u1,u2,u3,u4,u5]):=by
 have h:=hb.putCs [u0,u1,u2,u3,u4,u5] hsz;generalize putCs w g 0 [u0,u1,u2,u3,u4,u5]=W at *;have a:=h.cell 0;have b:=h.cell 1;have c:=h.cell 2;have d:=h.cell 3;have e:=h.cell 4;have f:=h.cell 5;simp only [Ybj,YaW,Ybd] at a b c d e f;refine YbB (v:=.tuple #[.agg #[u0,u1,u2,u3,u4,u5],.int .i64 ee]) ?_ rfl hR;simp only [YbZ] at h2 h3;simp [results,Tryz.results126,go_sem,h2,h3,a,b,c,d,e,f]
theorem ZjB {tmps:Array Value} {w:World} {g:Nat} {cs:Array Value} {ee:Int} {R:Ending->World->Prop} {u0 u1 u2 u3 u4 u5:Value} (h2:tmps.getD 2 undef=.pointer (some ⟨g,0,none⟩)) (h3:tmps.getD 3 undef=.int .i64 ee)
 (hb:Blk w g 145 cs) (hsz:cs.size=6) (hR:R (.returned (.tuple #[.agg #[u0,u1,u2,u3,u4,u5],.int .i64 ee])) (putCs w g 0 [u0,u1,u2,u3,u4,u5])) :
 bodyPost Tryz.prog Tryz.f75 R Exit.ret ⟨tmps,[]⟩ (putCs w g 0 [u0,u1,u2,u3,u4,u5]):=by
 have h:=hb.putCs [u0,u1,u2,u3,u4,u5] hsz;generalize putCs w g 0 [u0,u1,u2,u3,u4,u5]=W at *;have a:=h.cell 0;have b:=h.cell 1;have c:=h.cell 2;have d:=h.cell 3;have e:=h.cell 4;have f:=h.cell 5;simp only [Ybj,YaW,Ybd] at a b c d e f;refine YbB (v:=.tuple #[.agg #[u0,u1,u2,u3,u4,u5],.int .i64 ee]) ?_ rfl hR;simp only [YbZ] at h2 h3;simp [results,Tryz.results75,go_sem,h2,h3,a,b,c,d,e,f]
theorem Zlu {F:Nat->Prop} {A:Option Addr} {n c:Nat} {bs:List UInt8} (w:World) (hb:Zag w F A n c bs) (hl:bs.length=19) :
 Calls Tryz.prog 126 #[.slice A n c,.int .i64 19,.agg #[.int .i64 0,.int .i64 0,.int .i64 0,.int .i64 (-1),.int .i64 0,.int .i64 0],.func (.func 127) #[] #[]] w fun e w'=>Same w w' /\
  ((getP bs=none/\e=.returned (.tuple #[.agg #[.int .i64 0,.int .i64 0,.int .i64 0,.int .i64 0,.int .i64 0,.int .i64 0],.int .i64 41])) \/
   ∃ x,getP bs=some x/\e=.returned (.tuple #[.agg x.cells,.int .i64 0])):=by
 have N:n=19:=qt hb.len;subst N;have t:=(((Yaa (fun _=>False) w).alloc (.cells #[.int .i64 0,.int .i64 0,.int .i64 0,.int .i64 (-1),.int .i64 0,.int .i64 0] 145)).alloc (.cells #[.int .i64 0,.int .i64 0,.int .i64 0,.int .i64 0,.int .i64 0,.int .i64 0] 145)).alloc (.cells #[.int .i64 0,.int .i64 0,.int .i64 0,.int .i64 0,.int .i64 0,.int .i64 0] 145);have O:=qH t;have P:=qH (hb.same t);have R:=qH hl;clear hb t hl;go_enter Tryz.func126,Tryz.ntmps126;go_wp2_with fail;have u:=qH ((((Yad w 145 #[.int .i64 0,.int .i64 0,.int .i64 0,.int .i64 (-1),.int .i64 0,.int .i64 0]).alloc (.cells #[.int .i64 0,.int .i64 0,.int .i64 0,.int .i64 0,.int .i64 0,.int .i64 0] 145)).alloc (.cells #[.int .i64 0,.int .i64 0,.int .i64 0,.int .i64 0,.int .i64 0,.int .i64 0] 145)));have v:=(Yad (w.alloc (.cells #[.int .i64 0,.int .i64 0,.int .i64 0,.int .i64 (-1),.int .i64 0,.int .i64 0] 145)) 145 #[.int .i64 0,.int .i64 0,.int .i64 0,.int .i64 0,.int .i64 0,.int .i64 0]).alloc (.cells #[.int .i64 0,.int .i64 0,.int .i64 0,.int .i64 0,.int .i64 0,.int .i64 0] 145);have j:=Yad ((w.alloc (.cells #[.int .i64 0,.int .i64 0,.int .i64 0,.int .i64 (-1),.int .i64 0,.int .i64 0] 145)).alloc (.cells #[.int .i64 0,.int .i64 0,.int .i64 0,.int .i64 0,.int .i64 0,.int .i64 0] 145)) 145 #[.int .i64 0,.int .i64 0,.int .i64 0,.int .i64 0,.int .i64 0,.int .i64 0];simp only [Yav] at v j;have y:=qH v;have i:=qH j;clear v j;generalize hz:w.heap.size=z at *;generalize ((w.alloc (.cells #[.int .i64 0,.int .i64 0,.int .i64 0,.int .i64 (-1),.int .i64 0,.int .i64 0] 145)).alloc (.cells #[.int .i64 0,.int .i64 0,.int .i64 0,.int .i64 0,.int .i64 0,.int .i64 0] 145)).alloc (.cells #[.int .i64 0,.int .i64 0,.int .i64 0,.int .i64 0,.int .i64 0,.int .i64 0] 145)=s at *;refine (ZbG P qO).mono ?_;rintro e g ⟨r,rfl,hr,C,l⟩;have o:=l.alloc (.cells #[.pointer none,.pointer (some ⟨r,0,none⟩),.bool false] 237);have S:=C.lt;have T:s.heap.size<=g.heap.size:=l.size;have p:=i.lt;have G:Rdr (g.alloc (.cells #[.pointer none,.pointer (some ⟨r,0,none⟩),.bool false] 237)) (fun b=>(s.heap.size<=b/\b≠r)/\b<g.heap.size) r ⟨bs,0⟩:=by obtain ⟨A1,n1,c1,h1,h2⟩:=C;exact ⟨A1,n1,c1,h1.alloc _,(Zag.mono h2 fun b hb h=>⟨h,hb⟩).same ((Yaa _ g).alloc _)⟩
 have U:=qH (show CR (g.alloc (.cells #[.pointer none,.pointer (some ⟨r,0,none⟩),.bool false] 237)) (fun b=>(s.heap.size<=b/\b≠r)/\b<g.heap.size) g.heap.size r bs false from ⟨Yad g _ _,G,fun h=>h.1.2 rfl,fun h=>YcL _ h.2⟩);have H:=qH o;have u:=qH (u.same o);have y:=qH (y.same o);have i:=qH (i.same o);have k:Hid (z+1≠g.heap.size/\z+1≠r/\z+2≠g.heap.size/\z+2≠r/\z≠g.heap.size/\z≠r/\z<=r/\z<=g.heap.size):=qH qO;have V:=qH (show z+2<s.heap.size from p);have W:(g.alloc (.cells #[.pointer none,.pointer (some ⟨r,0,none⟩),.bool false] 237)).heap.size=g.heap.size+1:=Yav _ _;clear G C l o;go_upto_region 5 with fail;generalize a0:g.heap.size=z1 at *;generalize g.alloc (.cells #[.pointer none,.pointer (some ⟨r,0,none⟩),.bool false] 237)=w2 at *;go_wp2_with fail;refine (Zte U R u (fun h=>by have:=h.1.1;have:=V.out;omega) (fun b hb h=>qt h.2)).mono ?_;rintro e D ⟨rfl,rest,E,M,h5,u3⟩;have C3:=qH E.cod;have X:=qH M;have I:Hid (Upd (fun b=>z<=b) w D):=qH (((O.trans H fun _ _ f=>f).mono (S':=fun b=>z<=b) fun _ _ f=>f.elim).trans u3 fun b _ h=>qh k);have a:=qH (y.upd u3 (qh k));have d:=qH (i.upd u3 (qh k));have q:=E.cod.c2;have L:=qH H.size;clear E M u3;cases hg:getP bs with
 | none =>
   rw [hg] at q;simp only [YfD] at q;have Y:=d.cell 0;have Z:=a.frozen 0;have r0:=a.cell 0;have d1:=d.cell 1;have e1:=a.frozen 1;have r1:=a.cell 1;have d2:=d.cell 2;have e2:=a.frozen 2;have r2:=a.cell 2;have d3:=d.cell 3;have e3:=a.frozen 3;have r3:=a.cell 3;have d4:=d.cell 4;have e4:=a.frozen 4;have r4:=a.cell 4;have d5:=d.cell 5;have e5:=a.frozen 5;have r5:=a.cell 5;go_wp2;have B:=Ycx D (z+1) [.int .i64 0,.int .i64 0,.int .i64 0,.int .i64 0,.int .i64 0,.int .i64 0];refine ZhW rfl rfl a rfl ?_;exact ⟨(I.trans B fun b _ h=>qO).mono fun b hb h=>qO,.inl ⟨hg,rfl⟩⟩
 | some x =>
   rw [hg] at q;simp only [Ygt] at q;have b4:=X.out x hg;have m:=qH b4;have Y:=m.c0;have Z:=a.frozen 0;have r0:=a.cell 0;have d1:=m.c1;have e1:=a.frozen 1;have r1:=a.cell 1;have d2:=m.c2;have e2:=a.frozen 2;have r2:=a.cell 2;have d3:=m.c3;have e3:=a.frozen 3;have r3:=a.cell 3;have d4:=m.c4;have e4:=a.frozen 4;have r4:=a.cell 4;have d5:=m.c5;have e5:=a.frozen 5;have r5:=a.cell 5;go_wp2;have B:=Ycx D (z+1) [.int .i64 x.key,.int .i64 x.kind,.int .i64 x.num,.int .i64 x.blob,.int .i64 x.prev,.int .i64 x.next];refine ZhW rfl rfl a rfl ?_;exact ⟨(I.trans B fun b _ h=>qO).mono fun b hb h=>qO,.inr ⟨x,hg,rfl⟩⟩
theorem Znf {F:Nat->Prop} {A:Option Addr} {n c:Nat} {bs:List UInt8} (w:World) (hb:Zag w F A n c bs) (hl:bs.length=19) :
 Calls Tryz.prog 75 #[.slice A n c] w fun e w'=>Same w w' /\
  ((getP bs=none/\e=.returned (.tuple #[.agg #[.int .i64 0,.int .i64 0,.int .i64 0,.int .i64 0,.int .i64 0,.int .i64 0],.int .i64 41])) \/
   ∃ x,getP bs=some x/\e=.returned (.tuple #[.agg x.cells,.int .i64 0])):=by
 have g:=(Yaa (fun _=>False) w).alloc (.cells #[.int .i64 0,.int .i64 0,.int .i64 0,.int .i64 0,.int .i64 0,.int .i64 0] 145);have m:=qH g;have o:=qH (Zlu _ (hb.same g) hl);have p:=qH (Yad w 145 #[.int .i64 0,.int .i64 0,.int .i64 0,.int .i64 0,.int .i64 0,.int .i64 0]);have q:(w.alloc (.cells #[.int .i64 0,.int .i64 0,.int .i64 0,.int .i64 0,.int .i64 0,.int .i64 0] 145)).heap.size=w.heap.size+1:=Yav _ _;clear hb g;go_enter Tryz.func75,Tryz.ntmps75;go_wp2_with fail;refine o.mono ?_;generalize w.alloc (.cells #[.int .i64 0,.int .i64 0,.int .i64 0,.int .i64 0,.int .i64 0,.int .i64 0] 145)=H at *;rintro e l ⟨d,h⟩;have a:=qH (p.same d);have k:=qH (m.trans d fun _ _ f=>f);clear d;have r:=a.frozen 0;have s:=a.cell 0;have t:=a.frozen 1;have u:=a.cell 1;have v:=a.frozen 2;have y:=a.cell 2;have z:=a.frozen 3;have B:=a.cell 3;have C:=a.frozen 4;have D:=a.cell 4;have E:=a.frozen 5;have G:=a.cell 5;rcases h with ⟨j,rfl⟩ | ⟨x,j,rfl⟩
 · go_wp2;have i:=Ycx l w.heap.size [.int .i64 0,.int .i64 0,.int .i64 0,.int .i64 0,.int .i64 0,.int .i64 0];refine ZjB rfl rfl a rfl ?_;exact ⟨((Ydf (S':=fun b=>b=w.heap.size) k fun _ _ f=>f.elim).trans i fun _ _ h=>h).mono fun b hb h=>qO,.inl ⟨j,rfl⟩⟩
 unfold P1.cells;go_wp2;have i:=Ycx l w.heap.size [.int .i64 x.key,.int .i64 x.kind,.int .i64 x.num,.int .i64 x.blob,.int .i64 x.prev,.int .i64 x.next];refine ZjB rfl rfl a rfl ?_;exact ⟨((Ydf (S':=fun b=>b=w.heap.size) k fun _ _ f=>f.elim).trans i fun _ _ h=>h).mono fun b hb h=>qO,.inr ⟨x,j,rfl⟩⟩
attribute [local go_sem] Ybq
theorem Zsn:∀ (l:List BS) (i:Nat),Zak i l=ZaZ i (l.map BS.rc)
 | [],_=>rfl
 | x::l,i=>by rw [Zak,YaF,Zsn l (i+1)];unfold BS.rc;cases x.A <;> rfl
def DcU (t:TypeId):Prop:=t≠171/\t≠67/\t≠39/\t≠5
theorem dcU:FlU DcU:=⟨fun h=>h.1 rfl,fun h=>h.2.1 rfl,fun h=>h.2.2.1 rfl,fun h=>h.2.2.2 rfl⟩
def MvD (g0:Nat) (W W':World):Prop:=KeepsFrom g0 W W'/\Upd (Zao DcU 0 W) W W'
theorem MvD.trans {g0:Nat} {A B C:World} (h:MvD g0 A B) (h':MvD g0 B C):MvD g0 A C:=⟨⟨Yaj h.1.1 h'.1.1,fun k o a c b=>h'.1.2 k o a (h.1.2 k o a c b) b⟩,Yed h.2 h'.2⟩
theorem MvD.same {g0:Nat} {A B:World} (h:Same A B):MvD g0 A B:=⟨Zah h fun _ f=>f.elim,h.mono fun _ _ f=>f.elim⟩
abbrev Yeg:=@MvD.same
theorem MvD.set {g0:Nat} {S:Nat->Prop} {A B:World} (h:Upd S A B) (hS:∀ b,S b->(b<g0/\∃ o,A.heap[b]?=some o/\o.isCells=false)\/∃ t,DcU t/\OfT A t b):MvD g0 A B :=
 ⟨Zah h fun k d g o e=>by
  rcases hS k d with ⟨c,_⟩ | ⟨t,_,a⟩
  · omega
  · exact a.cells e,h.mono fun b _ f=>by
  rcases hS b f with ⟨_,o,c,a⟩ | ⟨t,c,a⟩
  · exact YbI c a (Yah _)
  exact a.itSet (Yah _) c⟩
abbrev YdN:=@MvD.set
def Zso (er:Int):List PanicEntry:=[{ v:=.iface 99 (.agg #[.int .i64 er]),recovered:=false }]
def RndQ (g0:Nat) (W:World) (Jn:World->Prop) (Er:Int->Prop) (Bd:World->Prop):Exit->Act->World->Prop
 | .normal,_,W'=>MvD g0 W W'/\Jn W'
 | .panic ch,a,W'=>a.defers=[]/\KeepsFrom g0 W W'/\∃ er,ch=Zso er/\Er er/\Bd W'
 | _,_,_=>False
abbrev goodF (x:FuncId):Prop:=∃ fn,Tryz.prog.funcs[x]?=some fn
theorem ZcG {ps:Array Tmp} {g:Operand} {assign body:Code} {Q:Exit->Act->World->Prop} {a:Act} {w:World} {B f k vs z low fB:Nat} {v:Value} {l:List BS}
 (hP:PF w B f k vs z v l low) (hb:Blk w fB 67 #[.pointer (some ⟨f,0,none⟩)]) (hg:a.eval g=.func (.func 122) #[] #[.pointer (some ⟨fB,0,none⟩)]) (hps:ps.size=2)
 (J:List (Nat×List UInt8)->World->Prop) (Er:Int->Prop) (Bd:World->Prop) (h0:J [] w)
 (hJ:∀ pre W W',J pre W->Upd (Zao (fun _=>False) w.heap.size W) W W'->J pre W')
 (hB:∀ W W',Bd W->Upd (Zao (fun _=>False) w.heap.size W) W W'->Bd W')
 (F_:RE->Array Value)
 (hassign:∀ (lp:Nat) (x:RE) (W:World) (K:Act->World->Prop),K { tmps:=F_ x,defers:=[] } W ->
   assign.wpIn (Fence.wide.inRound lp) 1 Tryz.prog (Exit.then K (fun _ _ _=>False)) { tmps:=(ps.zip (RE.args x)).foldl (fun t (p,v)=>t.setIfInBounds p v) a.tmps,defers:=[] } W)
 (hbody:∀ (lp:Nat) (pre:List (Nat×List UInt8)) (x:RE) (W:World),J pre W->pre=(ZaZ 0 (l.map BS.rc)).take pre.length->(ZaZ 0 (l.map BS.rc))[pre.length]?=some (x.id,x.data)->x.id<l.length->x.data.length+1=z->Zag W (TyB W 0) x.A x.n x.c x.data ->
   body.wpIn (Fence.wide.inRound lp) 1 Tryz.prog (RndQ w.heap.size W (J (pre++[(x.id,x.data)])) Er Bd) { tmps:=F_ x,defers:=[] } W)
 (hdone:∀ (D:Nat) (W:World),w.heap.size<=D->J (ZaZ 0 (l.map BS.rc)) W->W.heap[D]?=some (.deferred (some []))->Q .normal { a with defers:={ target:=.collected D,args:=#[] }::a.defers } W)
 (hpanic:∀ (D:Nat) (er:Int) (W:World),w.heap.size<=D->Er er->Bd W->W.heap[D]?=some (.deferred (some []))->Q (.panic (Zso er)) { a with defers:={ target:=.collected D,args:=#[] }::a.defers } W) :
 wp2 goodF Tryz.prog (Code.rangeFunc g ps assign body) Q a w:=by
 have E:=Zsn l 0;refine ZiO (n:=2) (fun _ h=>h) (T:=fun _=>False) hg (enters_of Tryz.func122 (by kernel_rfl) rfl) (ZkL dcU 2 qO w hP hb)
  (fun A=>Yaa _ A) (fun u b=>Yed u b) (fun W lp o L X M N=>(Yaa _ W).grown (grownBy_putObj' W lp L) fun k e=>.inl (by cases e;exact YbI M N (Yah _))) (fun pre x W lp o L X M N h=>h.obj M N L) (YdX _ _) (fun _=>hps.symm)
  (fun pre W=>J (pre.map RE.dat) W/\pre.map RE.dat=(Zak 0 l).take pre.length) (fun _ _ _=>False) (fun F pre W=>∃ er,F=Zso er/\Er er/\Bd W)
  (fun pre W W' h G=>⟨hJ _ _ _ h.1 G,h.2⟩) (fun c pre W W' h G=>h) (fun F pre W W' ⟨er,u,b,s⟩ G=>⟨er,u,b,hB _ _ s G⟩) ⟨h0,rfl⟩ F_ hassign ?_ ?_ (fun _ _ _ _ _ _ h=>h.elim) ?_
 · intro lp pre x W Y _ ⟨Z,m⟩ V;have q:=V.at_;have d:(pre.map RE.dat).length=pre.length:=Yag ..;have j:=Ybe q;have r:=j;rw [E] at r;obtain ⟨y,C,O,P⟩:∃ y,l[x.id]?=some y/\y.A≠none/\y.data=x.data:=by
    have u:∀ (l:List BS) (i:Nat) (p:Nat×List UInt8),p∈Zak i l->i<=p.1/\∃ y,l[p.1-i]?=some y/\y.A≠none/\y.data=p.2:=by
     intro l
     induction l with
     | nil=>intro i p h;cases h
     | cons z l ih =>
       intro i p h;rw [Zak] at h;have step:p∈Zak (i+1) l->i<=p.1/\∃ y,(z::l)[p.1-i]?=some y/\y.A≠none/\y.data=p.2:=fun h=>by obtain ⟨u,y,b,s⟩:=ih (i+1) p h;refine ⟨qO,y,?_,s⟩;rw [show p.1-i=(p.1-(i+1))+1 by omega,Ybd];exact b
       cases hz:z.A with
       | none=>rw [hz] at h;exact step h
       | some a =>
         rw [hz] at h;rcases Yat.1 h with rfl | h
         · exact ⟨Yae _,z,by rw [YbC];rfl,by rw [hz];simp,rfl⟩
         exact step h
    obtain ⟨_,y,b,s,h4⟩:=u l 0 _ j;exact ⟨y,b,s,h4⟩
   have H:=hbody lp (pre.map RE.dat) x W Z (by rw [d,<-E];exact m) (by rw [d,<-E];exact q) (Yaq.1 C).1 (by rw [<- P];exact hP.recs y (Ybe C) O) V.row;refine wpIn_mono H fun e a' W' h=>?_;have I:(pre++[x]).map RE.dat=(Zak 0 l).take (pre++[x]).length:=by rw [Yaf,Ycs,YaG,m,Ybo,q];simp
   cases e with
   | normal =>
     refine ⟨h.1.1,h.1.2,?_,I⟩;rw [YaG];exact h.2
   | panic F=>exact h
   | ret=>exact h.elim
   | exit id=>exact h.elim
   | goto l=>exact h.elim
   | outgrown=>exact h.elim
 · intro D xs W R S hI U;rw [<- E,<-S] at hdone;exact hdone D W R hI.1 U
 rintro D F pre W R _ ⟨er,rfl,b,s⟩ U;exact hpanic D er W R b s U
theorem Zdr {G:FuncId->Prop} {P:Program} {Q:Exit->Act->World->Prop} {a:Act} {w:World} {id:Nat} {c:Code} (h:wp2 G P c (Exit.inBlock id Q) a w):wp2 G P (Code.block id c) Q a w:=by
 intro b k r p s;have f:(lone (b.atR a (.code (.block id c)::k)) r w).fenced P Fence.wide:=YdB _ _;obtain ⟨e,i,j,g,d⟩:=h b (.inBlock id::k) r p s;cases e with
 | normal=>exact ⟨.normal,i,j,g,.head f Yds (Ycl d (.one (YdB _ _) stepR_inBlock))⟩
 | exit id' =>
   by_cases hid:id'=id
   · simp only [Exit.inBlock,hid,YcD] at g;exact ⟨.normal,i,j,g,.head f Yds (d.1 k (by simp [exitTo,hid]))⟩
   simp only [Exit.inBlock,hid,if_false] at g;have this:(id==id')=false:=by simp;exact fun h=>hid h.symm
   have o:exitTo id' (.inBlock id::k)=exitTo id' k:=by simp [exitTo,this]
   exact ⟨.exit id',i,j,g,fun q m=>.head f Yds (d.1 q (by rw [o];exact m)),
    fun n m=>let ⟨k₁,h1,h2⟩:=d.2 n (by rw [o];exact m);⟨k₁,h1,.head f Yds h2⟩⟩
 | goto l =>
   have o:gotoIn l (.inBlock id::k)=gotoIn l k:=by simp [gotoIn]
   exact ⟨_,i,j,g,fun q m=>.head f Yds (d.1 q (by rw [o];exact m)),
    fun n m=>let ⟨k₁,h1,h2⟩:=d.2 n (by rw [o];exact m);⟨k₁,h1,.head f Yds h2⟩⟩
 | ret=>exact ⟨_,i,j,g,.of_steps (.one f Yds) d⟩
 | panic ch=>exact ⟨_,i,j,g,.of_steps (.one f Yds) d⟩
 | outgrown=>exact ⟨_,i,j,g,.of_steps (.one f Yds) d⟩
def Zbf (B M:Nat) (W:World) (ds:List Deferred):Prop:=∃ Ds:List Nat,ds=Ds.map (fun D=>{ target:=.collected D,args:=#[] })/\Ds.Nodup/\∀ D∈Ds,B<=D/\D<M/\W.heap[D]?=some (.deferred (some []))
section
variable {B M:Nat} {W W':World} {ds:List Deferred}
theorem Zbf.nil (B M:Nat) (W:World):Zbf B M W []:=⟨[],rfl,Yex,fun _ h=>by cases h⟩
theorem Zbf.upd {S:Nat->Prop} (h:Zbf B M W ds) (hu:Upd S W W') (hS:∀ D,S D->D<M->W.heap[D]?≠some (.deferred (some []))):Zbf B M W' ds:=by obtain ⟨c,d,e,f⟩:=h;refine ⟨c,d,e,fun D g=>?_⟩;obtain ⟨i,b,a⟩:=f D g;exact ⟨i,b,(hu.block D (YaX.1 a).1 fun j=>hS D j b a).trans a⟩
theorem Zbf.same (h:Zbf B M W ds) (hu:Same W W'):Zbf B M W' ds:=h.upd hu fun _ f=>f.elim
theorem Zbf.cons (h:Zbf B M W ds) {D:Nat} (hB:B<=M) (hD:M<=D) (hk:W.heap[D]?=some (.deferred (some []))):Zbf B (D+1) W ({ target:=.collected D,args:=#[] }::ds):=by
 obtain ⟨c,d,e,b⟩:=h;refine ⟨D::c,by rw [d];rfl,YbG.2 ⟨fun f=>by have:=(b D f).2.1;omega,e⟩,fun g a=>?_⟩;rcases Yat.1 a with rfl | a
 · exact ⟨qO,qO,hk⟩
 have:=b g a;exact ⟨this.1,qO,this.2.2⟩
theorem Zbf.marks (h:Zbf B M W ds):ZjL B W ds:=by obtain ⟨c,d,e,a⟩:=h;exact ⟨c,d,e,fun D b=>⟨(a D b).1,(a D b).2.2⟩⟩
end
theorem ZtM {id:Nat} {Q:Exit->Act->World->Prop} {a:Act} {w:World} (h:Q .normal a w):Exit.inBlock id Q .normal a w:=h
theorem Same.up {S:Nat->Prop} {W W':World} (h:Same W W'):Upd S W W':=h.mono fun _ _ f=>f.elim
abbrev YbD:=@Same.up
theorem ZfD {id:Nat} {K:Act->World->Prop} {Q:Exit->Act->World->Prop} {a:Act} {w:World} (h:K a w):Exit.inBlock id (Exit.then K Q) .normal a w:=h
theorem Zep {F:Fence} {n:Nat} {P:Program} {fn:Func} {tmps:Array Value} {R:Ending->World->Prop} {u:FrameMode} (hu:u=.returning\/∃ ch,u=.panicking ch):∀ (Ds:List Nat) (W:World),Ds.Nodup->(∀ D∈Ds,W.heap[D]?=some (.deferred (some []))) ->
 (∀ W',Upd (fun k=>k∈Ds) W W'->LeavesInM F n P fn tmps R [] u W')->LeavesInM F n P fn tmps R (Ds.map (fun D=>{ target:=.collected D,args:=#[] })) u W
 | [],W,_,_,h=>h W (Yaa _ _)
 | D::Ds,W,hn,hd,h=>by obtain ⟨d,f⟩:=YbG.1 hn;have b:=(Yaa (fun k=>k=D) W).grown (grownBy_putObj' W D (.deferred none)) fun k a=>.inl (by injection a with a;exact a.symm);refine ⟨by rcases hu with rfl | ⟨ch,rfl⟩ <;> simp,.inl ⟨_,_,rfl,run_takeDeferred (hd D (by simp)),?_⟩⟩;refine Zep hu Ds _ f (fun i c=>?_) fun W' hu=>h W' ((b.mono (S':=fun k=>k∈D::Ds) fun k _ a=>by subst a;simp).trans hu fun k _ a=>by simp [a]);have g:=hd i (by simp [c]);exact (b.block i (YaX.1 g).1 fun e=>d (e ▸ c)).trans g
theorem ZbB {P:Program} {fn:Func} {R:Ending->World->Prop} {B:Nat} {W:World} {ch:List PanicEntry} {tmps:Array Value} {ds:List Deferred} (hm:ZjL B W ds)
 (h:∀ W':World,Upd (fun k=>B<=k/\W.heap[k]?=some (.deferred (some []))) W W'->R (.panicked ch) W'):bodyPostM Fence.wide 0 P fn R (.panic ch) ⟨tmps,ds⟩ W:=by
 obtain ⟨b,rfl,c,a⟩:=hm;unfold bodyPostM;refine Zep (.inr ⟨ch,rfl⟩) b W c (fun D d=>(a D d).2) fun W' e=>?_;exact h W' (e.mono fun k _ f=>a k f)
theorem ZhX {P:Program} {fn:Func} {R:Ending->World->Prop} {B:Nat} {W:World} {a:Act} (hm:ZjL B W a.defers)
 (h:∀ W':World,Upd (fun k=>B<=k/\W.heap[k]?=some (.deferred (some []))) W W'->LeavesIn Fence.wide 0 P fn a.tmps R [] .returning W'):bodyPostM Fence.wide 0 P fn R .normal a W:=by
 obtain ⟨c,d,e,b⟩:=hm;unfold bodyPostM;simp only;rw [d];exact Zep (.inl rfl) c W e (fun D f=>(b D f).2) fun W' g=>h W' (g.mono fun k _ i=>b k i)
end Go.Proofs.YtmkjfhnlnhceiaaGreatDoor
