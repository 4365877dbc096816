/- Lemmas: walks and plain laws. -/
import Derived.Test.YtmkjfhnlnhceiaaGreatDoorF26
set_option maxRecDepth 100000
set_option maxHeartbeats 16000000
namespace Go.Proofs.YtmkjfhnlnhceiaaGreatDoor
variable {w w0 w':World} {g f B c i:Nat} {cs:Array Value} {listed:Array Bool} {a:Act} {v:Value} {n m:Int} {d:List UInt8}
section
open Go.RowKit
attribute [local go_sem] oD
theorem Zuv (hb:Blk w g 5 cs) (n c:Nat):(convert 39 39 (.slice (some ⟨g,0,none⟩) n c)).run Tryz.prog w=.ok (.slice (some ⟨g,0,none⟩) n c) (w.freeze ⟨g,cs.size,none⟩ 1):=by
 have a:w.shape? g=some (5,cs.size):=by unfold World.shape?;rw [show w.heap[g]?=_ from hb]
 simp [convert,sF yD,sF ZO,markStringish,a]
theorem ZqY {t:TypeId} (hb:Blk w g t cs):(w.freeze ⟨g,cs.size,none⟩ 1).heap[g]?=some (.cells cs t (cs.size,cs.size+1))/\Upd (fun k=>k=g) w (w.freeze ⟨g,cs.size,none⟩ 1):=by
 have h:=hb;unfold Blk at h;unfold World.freeze;rw [aA qD];constructor
 · show (w.heap.modify g _)[g]?=_;rw [uK,gA rfl,h];rfl
 refine ⟨rfl,rfl,rfl,qS,fun k b a=>?_⟩;show (w.heap.modify g _)[k]?=_;rw [uK,aA (fun e=>a e.symm)]
section
variable {P:Program} {md:Region.Mode} {ops:Array Oper} {Q:Exit->Act->World->Prop} {S:World->Prop} {n:Nat}
theorem ESt.okd (h:Region.okE md ops n=true->ESt P md ops Q S n f listed a w) (hok:Region.okE md ops n=true:=by decide +kernel):ESt P md ops Q S n f listed a w:=h hok
theorem ESt.tkQ (i:Nat) {oi:Oper} (hok:Region.okE md ops n=true) (hi:ops[i]?=some oi) (hy:YieldsIf P ops S oi v a) (hS:S w)
 (h:ESt P md ops Q S n f (listed.setIfInBounds i true) (a.put oi.dst v) w)
 (hf:(decide (i<n) && Region.free md ops listed i && (Region.ready md ops listed).contains i)=true:=by decide +kernel) (hQ:∀ c a w,Q (.panic c) (a.put oi.dst v) w->Q (.panic c) a w:=by exact fun _ _ _ h=>h):
 ESt P md ops Q S n (f+1) listed a w:=ESt.take hok hi hf hQ hy hS h
abbrev JC:=@ESt.tkQ
end
end
section
open Go.RowKit
attribute [local go_sem] oD
theorem hZ {f:YA} (hz:0<f.size) (hk:f.Ok):(BB f).length=16+f.recs.length*f.size:=by obtain ⟨k,v,z,c⟩:=f;have a:=SS (size:=z) hz hk;have b:=YP ⟨k,v,z,c⟩;simp only [BB,kA,b,rA,a];omega
theorem PF.few {k vs z low:Nat} {l:List BS} (h:PF w B f k vs z v l low):(BB (filD k vs z l)).length<=16777216:=by
 have c:=h.size;have g:=h.len;have i:(filD k vs z l).Ok:=fun d m=>by
  obtain ⟨x,n,e⟩:=fC.1 m;have b:x.A≠none:=fun b=>by unfold BS.rc at e;rw [b] at e;cases e
  have j:=h.recs x n b;rw [show d=x.data from by
   unfold BS.rc at e;cases hq:x.A with
   | none=>exact absurd hq b
   | some a=>rw [hq] at e;exact (eB e).symm]
  exact j
 rw [hZ (by show 0<z;omega) i];show 16+(l.map BS.rc).length*z<=_;rw [nA];have:l.length*z<=65536*255:=Nat.mul_le_mul g c.2;omega
theorem mU:(Tryz.prog.info? 41).map (fun i=>(i.zero,i.size,i.bytes))=some (some (.agg #[.string ⟨#[]⟩,.slice none 0 0]),2,40):=qK
theorem ZqZ (w:World):(Instr.makeSlice 29 (.int .i64 0) (.int .i64 8)).run Tryz.prog w=.ok (.slice (some ⟨w.heap.size,0,none⟩) 0 8) (w.alloc (.cells (madeCells #[.string ⟨#[]⟩,.slice none 0 0] 16) 41)):=by obtain ⟨i,c,a⟩:=GH.1 mU;simp only [QI] at a;obtain ⟨d,e,f⟩:=a;have b:=run_make (P:=Tryz.prog) w 29 41 i _ EK c d .i64 .i64 0 8 (FP _) qO (by rw [f];omega) qO;rw [e] at b;exact b
theorem Zuw (w:World):(w.alloc (.cells (madeCells #[.string ⟨#[]⟩,.slice none 0 0] 16) 41)).ownsRow w.heap.size 41 2 (.slice (some ⟨w.heap.size,0,none⟩) 0 8) 0 [] :=
 ⟨rfl,.inr ⟨w.heap.size,8,_,rfl,lA _,World.alloc_heap_new w _,oA _,qM,by simp [madeCells],rfl⟩⟩
theorem iZ (l:List SF):∀ u∈l.flatMap SF.cells,u.oneCell'=true:=by intro u b;obtain ⟨x,_,a⟩:=ED.1 b;simp only [SF.cells,TA,XG,WF] at a;rcases a with rfl | rfl <;> rfl
theorem SF.two (x:SF):x.cells.length=2:=rfl
theorem Row.sf (w:World) (x:SF):Row (w.alloc (.cells x.cells.toArray 41)) (fun b=>b=w.heap.size) 2 (some ⟨w.heap.size,0,none⟩) 1 1 x.cells :=
 XF (jA w _ x.cells.toArray) rfl (lA _) (by simp [maxLen])
theorem ZsN (w:World) {A:Option Addr} {n:Nat} (hn:n<=c) (_:c<=maxLen):Calls Tryz.prog 64 #[.slice A n c] w fun e w'=>e=.returned (.slice A n n)/\w=w':=by go_enter Tryz.func64,Tryz.ntmps64;go_wp2;go_ret;exact ⟨rfl,rfl⟩
end
section
open Go.RowKit
attribute [local go_sem] oD
def datQ (q:BuP) (k:Nat):List UInt8:=match k with
 | 0=>BB (filD 8 1 32 (q.l 6))
 | 1=>BB (filD 3 1 42 (q.l 2))
 | 2=>BB (filD 1 1 42 (q.l 0))
 | 3=>BB (filD 4 1 17 (q.l 3))
 | 4=>BB (filD 6 1 20 (q.l 5))
 | 5=>BB (filD 5 1 31 (q.l 4))
 | _=>BB (filD 2 1 42 (q.l 1))
def RQ (q:BuP):List DD:=List.zipWith DD.mk VH [datQ q 0,datQ q 1,datQ q 2,sH++[1],datQ q 3,datQ q 4,datQ q 5,datQ q 6]
def FlK (b:Nat) (q:BuP) (wx:World):Prop:=wx.cell? ⟨b,0,none⟩=some (.pointer (some ⟨q.t 0,0,none⟩))/\wx.cell? ⟨b,1,none⟩=some (.pointer (some ⟨q.t 1,0,none⟩))/\wx.cell? ⟨b,2,none⟩=some (.pointer (some ⟨q.t 2,0,none⟩))/\wx.cell? ⟨b,3,none⟩=some (.pointer (some ⟨q.f 3,0,none⟩))/\wx.cell? ⟨b,4,none⟩=some (.pointer (some ⟨q.f 4,0,none⟩))/\wx.cell? ⟨b,5,none⟩=some (.pointer (some ⟨q.f 5,0,none⟩))/\wx.cell? ⟨b,6,none⟩=some (.pointer (some ⟨q.f 6,0,none⟩))
def fL (c s al bl:Nat):Array Bool:=#[true,true,true,true,true,decide (0<c),true,true,true,true,true,decide (1<c),true,true,true,true,true,decide (2<c),decide (0<s),decide (1<s),true,true,true,true,true,decide (3<c),true,true,true,true,true,decide (4<c),true,true,true,true,true,decide (5<c),true,true,true,true,true,decide (6<c),decide (0<bl),decide (0<al),false]
def fF (b:Nat) (q:BuP) (vs:Nat->Value) (v25 v26 v51 v3:Value):Act:=⟨#[.pointer (some ⟨b,0,none⟩),undef,.slice none 0 0,v3,undef,undef,undef,.pointer (some ⟨b,0,none⟩),.pointer (some ⟨b,0,none⟩),.pointer (some ⟨b,0,none⟩),.pointer (some ⟨b,6,none⟩),.pointer (some ⟨q.f 6,0,none⟩),vs 0,.pointer (some ⟨b,0,none⟩),.pointer (some ⟨b,0,none⟩),.pointer (some ⟨b,0,none⟩),.pointer (some ⟨b,2,none⟩),.pointer (some ⟨q.t 2,0,none⟩),vs 1,.pointer (some ⟨b,0,none⟩),.pointer (some ⟨b,0,none⟩),.pointer (some ⟨b,0,none⟩),.pointer (some ⟨b,0,none⟩),.pointer (some ⟨q.t 0,0,none⟩),vs 2,v25,v26,.pointer (some ⟨b,0,none⟩),.pointer (some ⟨b,0,none⟩),.pointer (some ⟨b,0,none⟩),.pointer (some ⟨b,3,none⟩),.pointer (some ⟨q.f 3,0,none⟩),vs 3,.pointer (some ⟨b,0,none⟩),.pointer (some ⟨b,0,none⟩),.pointer (some ⟨b,0,none⟩),.pointer (some ⟨b,5,none⟩),.pointer (some ⟨q.f 5,0,none⟩),vs 4,.pointer (some ⟨b,0,none⟩),.pointer (some ⟨b,0,none⟩),.pointer (some ⟨b,0,none⟩),.pointer (some ⟨b,4,none⟩),.pointer (some ⟨q.f 4,0,none⟩),vs 5,.pointer (some ⟨b,0,none⟩),.pointer (some ⟨b,0,none⟩),.pointer (some ⟨b,0,none⟩),.pointer (some ⟨b,1,none⟩),.pointer (some ⟨q.t 1,0,none⟩),vs 6,v51,undef,undef,undef,undef,undef,undef,undef,undef,undef,undef,undef,undef,undef,undef,undef,undef,undef],[]⟩
def upV (vs:Nat->Value) (c:Nat) (v:Value):Nat->Value:=fun j=>if j=c then v else vs j
def Dn (w0 w:World) (v:Value) (d:List UInt8):Prop:=∃ A n c,v=.slice A n c/\IB w w0.heap.size ⟨d,A,n,c⟩
theorem Dn.same (h:Dn w0 w v d) (hu:Same w w'):Dn w0 w' v d:=by obtain ⟨A,n,c,rfl,h⟩:=h;exact ⟨A,n,c,rfl,h.same hu⟩
theorem Dn.mark (h:Dn w0 w v d) (hu:Upd (fun k=>k=g) w w') (s:v.ownBlock≠some g) (_:w'.heap[g]?=some (.cells cs 5 (cs.size,cs.size+1))):Dn w0 w' v d:=by obtain ⟨A,n,c,rfl,h⟩:=h;have b:Row w (TyB w w0.heap.size) 1 A n c (d.map u8v):=h;refine ⟨A,n,c,rfl,(⟨b.len,b.le,b.max,b.nil,fun a j=>?_⟩:Row w' (TyB w' w0.heap.size) 1 A n c (d.map u8v))⟩;obtain ⟨m,l,o,q⟩:=b.cell a j;have f:a.block≠g:=fun e=>s (by rw [show A=some a from j];exact tB some e);exact ⟨m,RF l hu.size,o.upd hu f,fun i u r=>(hu.cell (p:=⟨a.block,a.off+i,none⟩) l f).trans (q i u r)⟩
structure FlA (w0 w:World) (q:BuP) (vs:Nat->Value) (v25 v26 v51 v3:Value) (c s al bl:Nat):Prop where
 sm:Same w0 w
 dn:∀ k,k<c->Dn w0 w (vs k) (datQ q k)
 lit:s=1->∃ g,v25=.slice (some ⟨g,0,none⟩) 6 6/\w0.heap.size<=g/\Blk w g 5 #[.int .u8 71,.int .u8 83,.int .u8 84,.int .u8 82,.int .u8 0,.int .u8 1]/\∀ k,k<c->(vs k).ownBlock≠some g
 cv:s=2->Dn w0 w v26 (sH++[1])
 ap:al=1->∃ p,v3=.pointer (some ⟨p,0,none⟩)/\w0.heap.size<=p/\Blk w p 126 #[.slice none 0 0,.slice none 0 0,.slice none 0 0,.slice none 0 0,.slice none 0 0,.slice none 0 0,.slice none 0 0,.slice none 0 0]
 bl:bl=1->v51=.agg #[vs 0,vs 1,vs 2,v26,vs 3,vs 4,vs 5,vs 6]
section
variable {w0 w w':World} {q:BuP} {vs:Nat->Value} {v25 v26 v51 v3 v:Value} {c s al bl:Nat}
theorem FlA.call (h:FlA w0 w q vs v25 v26 v51 v3 c s al bl) (hb:bl≠1) (hs:Same w w') (ho:OwnB w' w.heap.size v (datQ q c)):FlA w0 w' q (upV vs c v) v25 v26 v51 v3 (c+1) s al bl:=by
 have e:∀ k,k<c->upV vs c v k=vs k:=fun k l=>aA qO;have j:upV vs c v c=v:=gA rfl;refine ⟨h.sm.trans hs qf,fun k l=>?_,fun b=>?_,fun b=>(h.cv b).same hs,fun b=>?_,fun b=>absurd b hb⟩
 · by_cases a:k<c
   · rw [e k a];exact (h.dn k a).same hs
   obtain rfl:k=c:=qO;rw [j];obtain ⟨A,m,rfl⟩:=WA ho;exact ⟨A,_,m,rfl,(IB.of ho rfl).base h.sm.size⟩
 · obtain ⟨g,f,i,d,n⟩:=h.lit b;refine ⟨g,f,i,d.same hs,fun k l=>?_⟩;by_cases a:k<c
   · rw [e k a];exact n k a
   obtain rfl:k=c:=qO;rw [j];intro o;have:=(ho.lt g o).1;have:=d.lt;omega
 obtain ⟨p,f,i,d⟩:=h.ap b;exact ⟨p,f,i,d.same hs⟩
theorem Dn.lt (h:Dn w0 w v d) (hg:v.ownBlock=some g):g<w.heap.size:=by
 obtain ⟨A,n,c,rfl,h⟩:=h;have b:Row w (TyB w w0.heap.size) 1 A n c (d.map u8v):=h;cases A with
 | none=>simp [Value.ownBlock] at hg
 | some a =>
   have e:=(b.cell a rfl).2.1;have f:a.block=g:=by simpa [Value.ownBlock] using hg
   omega
theorem FlA.bsl (h:FlA w0 w q vs v25 v26 v51 v3 c 0 al bl):FlA w0 (w.alloc (.cells #[.int .u8 71,.int .u8 83,.int .u8 84,.int .u8 82,.int .u8 0,.int .u8 1] 5)) q vs (.slice (some ⟨w.heap.size,0,none⟩) 6 6) v26 v51 v3 c 1 al bl:=by
 have b:=(iA w).alloc (.cells #[.int .u8 71,.int .u8 83,.int .u8 84,.int .u8 82,.int .u8 0,.int .u8 1] 5);refine ⟨h.sm.alloc _,fun k a=>(h.dn k a).same b,fun _=>⟨_,rfl,h.sm.size,jA w _ _,fun k a d=>?_⟩,fun e=>absurd e qD,fun e=>?_,h.bl⟩
 · have:=(h.dn k a).lt d;omega
 obtain ⟨p,f,g,i⟩:=h.ap e;exact ⟨p,f,g,i.same b⟩
theorem FlA.conv (h:FlA w0 w q vs (.slice (some ⟨g,0,none⟩) 6 6) v26 v51 v3 c 1 al bl) (B:bl≠1):FlA w0 (w.freeze ⟨g,6,none⟩ 1) q vs (.slice (some ⟨g,0,none⟩) 6 6) (.slice (some ⟨g,0,none⟩) 6 6) v51 v3 c 2 al bl:=by
 obtain ⟨s,e,t,f,v⟩:=h.lit rfl;obtain rfl:g=s:=by injection e with e;injection e with e;injection e with e
 obtain ⟨j,b⟩:=ZqY f;refine ⟨h.sm.trans b fun x A e=>qO,fun k m=>(h.dn k m).mark b (v k m) j,fun e=>absurd e qD,fun _=>⟨_,6,6,rfl,?_⟩,fun e=>?_,fun e=>absurd e B⟩
 · have l:g<(w.freeze ⟨g,6,none⟩ 1).heap.size:=RF f.lt b.size;refine (⟨rfl,lA _,by simp [maxLen],(fun h=>by cases h),fun a y=>?_⟩:Row _ (TyB _ w0.heap.size) 1 (some ⟨g,0,none⟩) 6 6 ((sH++[1]).map u8v));cases y;refine ⟨rfl,l,⟨t,l,_,_,j⟩,fun i u n=>?_⟩;show (w.freeze ⟨g,6,none⟩ 1).cell? ⟨g,0+i,none⟩=some u;have d:(w.freeze ⟨g,6,none⟩ 1).cell? ⟨g,0+i,none⟩=(#[.int .u8 71,.int .u8 83,.int .u8 84,.int .u8 82,.int .u8 0,.int .u8 1]:Array Value)[0+i]?:=by simp only [World.cell?];rw [show (w.freeze ⟨g,6,none⟩ 1).heap[g]?=_ from j];rfl
   rw [d,AE];have r:(sH++[1]).map u8v=[.int .u8 71,.int .u8 83,.int .u8 84,.int .u8 82,.int .u8 0,.int .u8 1]:=rfl;rw [r] at n;simpa using n
 obtain ⟨p,z,d,o⟩:=h.ap e;exact ⟨p,z,d,o.upd b (o.ne f qD)⟩
theorem FlA.arr (h:FlA w0 w q vs v25 v26 v51 v3 c s 0 bl):FlA w0 (w.alloc (.cells #[.slice none 0 0,.slice none 0 0,.slice none 0 0,.slice none 0 0,.slice none 0 0,.slice none 0 0,.slice none 0 0,.slice none 0 0] 126)) q vs v25 v26 v51 (.pointer (some ⟨w.heap.size,0,none⟩)) c s 1 bl:=by have a:=(iA w).alloc (.cells #[.slice none 0 0,.slice none 0 0,.slice none 0 0,.slice none 0 0,.slice none 0 0,.slice none 0 0,.slice none 0 0,.slice none 0 0] 126);refine ⟨h.sm.alloc _,fun k b=>(h.dn k b).same a,fun e=>?_,fun e=>(h.cv e).same a,fun _=>⟨_,rfl,h.sm.size,jA w _ _⟩,h.bl⟩;obtain ⟨g,d,f,i,j⟩:=h.lit e;exact ⟨g,d,f,i.same a,j⟩
end
def okI (i c s al bl:Nat):Bool:=match i with
 | 5=>c==0
 | 11=>c==1
 | 17=>c==2
 | 25=>c==3
 | 31=>c==4
 | 37=>c==5
 | 43=>c==6
 | 18=>s==0
 | 19=>s==1
 | 44=>c==7 && (s==2 && bl==0)
 | 45=>al==0
 | _=>false
def fdec (ops:Array Oper):Bool:=(List.range 8).all fun c=>(List.range 3).all fun s=>(List.range 2).all fun al=>(List.range 2).all fun bl =>
 !(decide (c+s+al+bl<11) && (bl==0 || (c==7 && s==2))) || (!(Region.ready .any ops (fL c s al bl)).isEmpty && (Region.ready .any ops (fL c s al bl)).all fun i=>decide (i<46) && okI i c s al bl)
theorem ZvP {l:Array Oper} (h:fdec l=true) {s al bl:Nat} (h1:c<=7) (h2:s<=2) (h3:al<=1) (h4:bl<=1) (h5:c+s+al+bl<11) (h6:bl=1->c=7/\s=2):
 (!(Region.ready .any l (fL c s al bl)).isEmpty && (Region.ready .any l (fL c s al bl)).all fun i=>decide (i<46))=true/\∀ i∈Region.ready .any l (fL c s al bl),okI i c s al bl=true:=by
 have e:=EG.1 h c (vF.2 qO);have f:=EG.1 e s (vF.2 qO);have g:=EG.1 f al (vF.2 qO);have b:=EG.1 g bl (vF.2 qO);have j:(decide (c+s+al+bl<11) && (bl==0 || (c==7 && s==2)))=true:=by rw [kB,NC,CH,jE,kB,jE,jE];exact ⟨h5,qO⟩
 rw [j,Bool.not_true,Bool.false_or,kB,EG] at b;obtain ⟨k,d⟩:=b;exact ⟨by rw [k,zD,EG];exact fun i a=>(kB _ _ ▸ d i a).1,fun i a=>(kB _ _ ▸ d i a).2⟩
theorem ESt.decd {P:Program} {b:Array Oper} {Q:Exit->Act->World->Prop} {S:World->Prop} {n:Nat} (h:fdec b=true->ESt P .any b Q S n f listed a w) (hd:fdec b=true:=by decide +kernel):ESt P .any b Q S n f listed a w:=h hd
theorem Zno (w:World) {b:Nat} {c7 c8:Value} {q:BuP} {ns:Nat->List ByteArray} (h:BuM w B q ns) (hb:Blk w b 73 (q.cells c7 c8)) (hN:Nib w):
 Calls Tryz.prog 28 #[.pointer (some ⟨b,0,none⟩)] w fun e w'=>∃ A c fs,e=.returned (.slice A 8 c)/\Fls w' (fun x=>w.heap.size<=x) A 8 c fs/\fs.map SF.dat=RQ q/\Same w w':=by
 have Z:Hid (∀ l,Same w l->FlK b q l):=qH fun l o=>⟨(hb.same o).cell 0,(hb.same o).cell 1,(hb.same o).cell 2,(hb.same o).cell 3,(hb.same o).cell 4,(hb.same o).cell 5,(hb.same o).cell 6⟩
 have S:=qH h;have HN:=qH hN;clear h hb hN;go_enter Tryz.func28,Tryz.ntmps28;go_upto_region 1 with fail;refine eE 46 (fun l=>FlK b q l) qK (Z.out _ (eA _ w).drew) (fun b7=>?_);refine ESt.okd (fun j=>?_);refine JC 0 j (v:=?_) rfl (Or.inl ⟨qR,?_⟩) qA ?_;rotate_left
 · exact tkY
 simp only [Act.put,zA,qB,oB,CA,JA];refine JC 1 j (v:=?_) rfl (Or.inl ⟨qR,?_⟩) qA ?_;rotate_left
 · exact tkY
 simp only [Act.put,zA,qB,oB,iB,CA,JA];refine JC 2 j (v:=?_) rfl (Or.inl ⟨qR,?_⟩) qA ?_;rotate_left
 · exact tkY
 simp only [Act.put,zA,qB,oB,iB,CA,JA];refine JC 3 j (v:=?_) rfl (Or.inl ⟨qR,?_⟩) qA ?_;rotate_left
 · exact tkY
 simp only [Act.put,zA,qB,oB,iB,CA,JA];refine JC 4 j (v:=?_) rfl (Or.inl ⟨qR,?_⟩) qA ?_;rotate_left
 · exact tkY
 simp only [Act.put,zA,qB,oB,iB,CA,JA];refine JC 6 j (v:=?_) rfl (Or.inl ⟨qR,?_⟩) qA ?_;rotate_left
 · exact tkY
 simp only [Act.put,zA,qB,oB,iB,CA,JA];refine JC 7 j (v:=?_) rfl (Or.inl ⟨qR,?_⟩) qA ?_;rotate_left
 · exact tkY
 simp only [Act.put,zA,qB,oB,iB,CA,JA];refine JC 8 j (v:=?_) rfl (Or.inl ⟨qR,?_⟩) qA ?_;rotate_left
 · exact tkY
 simp only [Act.put,zA,qB,oB,iB,CA,JA];refine JC 9 j (v:=?_) rfl (Or.inl ⟨qR,?_⟩) qA ?_;rotate_left
 · exact tkY
 simp only [Act.put,zA,qB,oB,iB,CA,JA];refine JC 10 j (v:=?_) rfl (Or.inl ⟨qR,?_⟩) qA ?_;rotate_left
 · exact tkY
 simp only [Act.put,zA,qB,oB,iB,CA,JA];refine JC 12 j (v:=?_) rfl (Or.inl ⟨qR,?_⟩) qA ?_;rotate_left
 · exact tkY
 simp only [Act.put,zA,qB,oB,iB,CA,JA];refine JC 13 j (v:=?_) rfl (Or.inl ⟨qR,?_⟩) qA ?_;rotate_left
 · exact tkY
 simp only [Act.put,zA,qB,oB,iB,CA,JA];refine JC 14 j (v:=?_) rfl (Or.inl ⟨qR,?_⟩) qA ?_;rotate_left
 · exact tkY
 simp only [Act.put,zA,qB,oB,iB,CA,JA];refine JC 15 j (v:=?_) rfl (Or.inl ⟨qR,?_⟩) qA ?_;rotate_left
 · exact tkY
 simp only [Act.put,zA,qB,oB,iB,CA,JA];refine JC 16 j (v:=?_) rfl (Or.inl ⟨qR,?_⟩) qA ?_;rotate_left
 · exact tkY
 simp only [Act.put,zA,qB,oB,iB,CA,JA];refine JC 20 j (v:=?_) rfl (Or.inl ⟨qR,?_⟩) qA ?_;rotate_left
 · exact tkY
 simp only [Act.put,zA,qB,oB,iB,CA,JA];refine JC 21 j (v:=?_) rfl (Or.inl ⟨qR,?_⟩) qA ?_;rotate_left
 · exact tkY
 simp only [Act.put,zA,qB,oB,iB,CA,JA];refine JC 22 j (v:=?_) rfl (Or.inl ⟨qR,?_⟩) qA ?_;rotate_left
 · exact tkY
 simp only [Act.put,zA,qB,oB,iB,CA,JA];refine JC 23 j (v:=?_) rfl (Or.inl ⟨qR,?_⟩) qA ?_;rotate_left
 · exact tkY
 simp only [Act.put,zA,qB,oB,iB,CA,JA];refine JC 24 j (v:=?_) rfl (Or.inl ⟨qR,?_⟩) qA ?_;rotate_left
 · exact tkY
 simp only [Act.put,zA,qB,oB,iB,CA,JA];refine JC 26 j (v:=?_) rfl (Or.inl ⟨qR,?_⟩) qA ?_;rotate_left
 · exact tkY
 simp only [Act.put,zA,qB,oB,iB,CA,JA];refine JC 27 j (v:=?_) rfl (Or.inl ⟨qR,?_⟩) qA ?_;rotate_left
 · exact tkY
 simp only [Act.put,zA,qB,oB,iB,CA,JA];refine JC 28 j (v:=?_) rfl (Or.inl ⟨qR,?_⟩) qA ?_;rotate_left
 · exact tkY
 simp only [Act.put,zA,qB,oB,iB,CA,JA];refine JC 29 j (v:=?_) rfl (Or.inl ⟨qR,?_⟩) qA ?_;rotate_left
 · exact tkY
 simp only [Act.put,zA,qB,oB,iB,CA,JA];refine JC 30 j (v:=?_) rfl (Or.inl ⟨qR,?_⟩) qA ?_;rotate_left
 · exact tkY
 simp only [Act.put,zA,qB,oB,iB,CA,JA];refine JC 32 j (v:=?_) rfl (Or.inl ⟨qR,?_⟩) qA ?_;rotate_left
 · exact tkY
 simp only [Act.put,zA,qB,oB,iB,CA,JA];refine JC 33 j (v:=?_) rfl (Or.inl ⟨qR,?_⟩) qA ?_;rotate_left
 · exact tkY
 simp only [Act.put,zA,qB,oB,iB,CA,JA];refine JC 34 j (v:=?_) rfl (Or.inl ⟨qR,?_⟩) qA ?_;rotate_left
 · exact tkY
 simp only [Act.put,zA,qB,oB,iB,CA,JA];refine JC 35 j (v:=?_) rfl (Or.inl ⟨qR,?_⟩) qA ?_;rotate_left
 · exact tkY
 simp only [Act.put,zA,qB,oB,iB,CA,JA];refine JC 36 j (v:=?_) rfl (Or.inl ⟨qR,?_⟩) qA ?_;rotate_left
 · exact tkY
 simp only [Act.put,zA,qB,oB,iB,CA,JA];refine JC 38 j (v:=?_) rfl (Or.inl ⟨qR,?_⟩) qA ?_;rotate_left
 · exact tkY
 simp only [Act.put,zA,qB,oB,iB,CA,JA];refine JC 39 j (v:=?_) rfl (Or.inl ⟨qR,?_⟩) qA ?_;rotate_left
 · exact tkY
 simp only [Act.put,zA,qB,oB,iB,CA,JA];refine JC 40 j (v:=?_) rfl (Or.inl ⟨qR,?_⟩) qA ?_;rotate_left
 · exact tkY
 simp only [Act.put,zA,qB,oB,iB,CA,JA];refine JC 41 j (v:=?_) rfl (Or.inl ⟨qR,?_⟩) qA ?_;rotate_left
 · exact tkY
 simp only [Act.put,zA,qB,oB,iB,CA,JA];refine JC 42 j (v:=?_) rfl (Or.inl ⟨qR,?_⟩) qA ?_;rotate_left
 · exact tkY
 simp only [Act.put,zA,qB,oB,iB,CA,JA];refine ESt.decd (fun hd=>?_);have aa:Hid (∀ l,Same w l->(Calls Tryz.prog 61 #[.pointer (some ⟨q.f 6,0,none⟩)] l fun e w'=>∃ v,e=.returned v/\OwnB w' l.heap.size v (datQ q 0)/\Same l w')):=qH fun l o=>gO l ((S.fl 6 qD).same o) qD qD (HN.same o);have ab:Hid (∀ l,Same w l->(Calls Tryz.prog 62 #[.pointer (some ⟨q.t 2,0,none⟩)] l fun e w'=>∃ v,e=.returned v/\OwnB w' l.heap.size v (datQ q 1)/\Same l w')):=qH fun l o=>GT ((S.tb 2 qD).same o) qD qD (HN.same o);have ac:Hid (∀ l,Same w l->(Calls Tryz.prog 62 #[.pointer (some ⟨q.t 0,0,none⟩)] l fun e w'=>∃ v,e=.returned v/\OwnB w' l.heap.size v (datQ q 2)/\Same l w')):=qH fun l o=>GT ((S.tb 0 qD).same o) qD qD (HN.same o);have ad:Hid (∀ l,Same w l->(Calls Tryz.prog 61 #[.pointer (some ⟨q.f 3,0,none⟩)] l fun e w'=>∃ v,e=.returned v/\OwnB w' l.heap.size v (datQ q 3)/\Same l w')):=qH fun l o=>gO l ((S.fl 3 qD).same o) qD qD (HN.same o);have ae:Hid (∀ l,Same w l->(Calls Tryz.prog 61 #[.pointer (some ⟨q.f 5,0,none⟩)] l fun e w'=>∃ v,e=.returned v/\OwnB w' l.heap.size v (datQ q 4)/\Same l w')):=qH fun l o=>gO l ((S.fl 5 qD).same o) qD qD (HN.same o);have af:Hid (∀ l,Same w l->(Calls Tryz.prog 61 #[.pointer (some ⟨q.f 4,0,none⟩)] l fun e w'=>∃ v,e=.returned v/\OwnB w' l.heap.size v (datQ q 5)/\Same l w')):=qH fun l o=>gO l ((S.fl 4 qD).same o) qD qD (HN.same o);have ag:Hid (∀ l,Same w l->(Calls Tryz.prog 62 #[.pointer (some ⟨q.t 1,0,none⟩)] l fun e w'=>∃ v,e=.returned v/\OwnB w' l.heap.size v (datQ q 6)/\Same l w')):=qH fun l o=>GT ((S.tb 1 qD).same o) qD qD (HN.same o);refine (fun (ao:∀ (f c s I L:Nat) (E:Nat->Value) (z y C R:Value) (w':World),f+c+s+I+L=11->c<=7->s<=2->I<=1->L<=1->(L=1->c=7/\s=2)->FlA w w' q E z y C R c s I L->ESt Tryz.prog .any _ _ (fun l=>FlK b q l) 46 (f+1) (fL c s I L) (fF b q E z y C R) w')=>ao 11 0 0 0 0 (fun _=>undef) undef undef undef undef w.drew rfl qD qD qD qD (fun h=>absurd h qD) ⟨(eA _ w).drew,fun k h=>absurd h (RI k),fun h=>absurd h qD,fun h=>absurd h qD,fun h=>absurd h qD,fun h=>absurd h qD⟩) ?_;intro f
 induction f with
 | zero =>
   intro c s I L E z y C R w' a2 V O H M F m;obtain ⟨rfl,rfl,rfl,rfl⟩:c=7/\s=2/\I=1/\L=1:=qO;obtain ⟨p,rfl,hp,r⟩:=m.ap rfl;obtain rfl:=m.bl rfl;obtain ⟨A0,n0,c0,e0,o0⟩:=m.dn 0 qD;obtain ⟨A1,n1,c1,e1,o1⟩:=m.dn 1 qD;obtain ⟨A2,n2,c2,e2,o2⟩:=m.dn 2 qD;obtain ⟨A3,n3,c3,e3,o3⟩:=m.dn 3 qD;obtain ⟨A4,n4,c4,e4,o4⟩:=m.dn 4 qD;obtain ⟨A5,n5,c5,e5,o5⟩:=m.dn 5 qD;obtain ⟨A6,n6,c6,e6,o6⟩:=m.dn 6 qD;obtain ⟨A9,n9,c9,e9,o9⟩:=m.cv rfl;have HA:=qH m;have a3:=qH r;have s0:=r.c0;have s1:=r.c1;have s2:=r.c2;have s3:=r.c3;have s4:=r.c4;have s5:=r.c5;have s6:=r.c6;have s7:=r.c7;have z0:=r.frozen 0;have z1:=r.frozen 1;have z2:=r.frozen 2;have z3:=r.frozen 3;have z4:=r.frozen 4;have z5:=r.frozen 5;have z6:=r.frozen 6;have z7:=r.frozen 7;clear r m a2 V O H M F aa ab ac ad ae af ag hd j;refine bD rfl (fun K D=>?_);unfold fF;rw [e0,e1,e2,e3,e4,e5,e6,e9];go_simp;refine D.out _ _ ?_;obtain ⟨W,a1⟩:=qx (((((((((w'.setCell ⟨p,0,none⟩ (.slice A0 n0 c0)).setCell ⟨p,1,none⟩ (.slice A1 n1 c1)).setCell ⟨p,2,none⟩ (.slice A2 n2 c2)).setCell ⟨p,3,none⟩ (.slice A9 n9 c9)).setCell ⟨p,4,none⟩ (.slice A3 n3 c3)).setCell ⟨p,5,none⟩ (.slice A4 n4 c4)).setCell ⟨p,6,none⟩ (.slice A5 n5 c5)).setCell ⟨p,7,none⟩ (.slice A6 n6 c6)));rw [a1];have a4:Upd (fun k=>k=p) w' W:=by rw [<- a1];exact ((((((((eA (fun k=>k=p) w').put1 _).put1 _).put1 _).put1 _).put1 _).put1 _).put1 _).put1 _
   have a5:Blk W p 126 #[.slice A0 n0 c0,.slice A1 n1 c1,.slice A2 n2 c2,.slice A9 n9 c9,.slice A3 n3 c3,.slice A4 n4 c4,.slice A5 n5 c5,.slice A6 n6 c6]:=by rw [<- a1];exact (((((((a3.put 0 _).put 1 _).put 2 _).put 3 _).put 4 _).put 5 _).put 6 _).put 7 _
   have G:∀ {x:BS},IB w' w.heap.size x->IB W w.heap.size x:=fun h=>h.type (e':=126) a4 (fun g _ e=>e ▸ ⟨_,a3⟩) qD;obtain ⟨fs,a0⟩:∃ fs:List SF,fs=[(⟨⟨#[98,108,111,98,115]⟩,datQ q 0,A0,n0,c0⟩:SF),⟨⟨#[107,101,121,115]⟩,datQ q 1,A1,n1,c1⟩,⟨⟨#[108,97,98,101,108,115]⟩,datQ q 2,A2,n2,c2⟩,⟨⟨#[109,101,116,97]⟩,sH++[1],A9,n9,c9⟩,⟨⟨#[110,111,100,101,115]⟩,datQ q 3,A3,n3,c3⟩,⟨⟨#[112,114,111,112,115]⟩,datQ q 4,A4,n4,c4⟩,⟨⟨#[114,101,108,115]⟩,datQ q 5,A5,n5,c5⟩,⟨⟨#[116,121,112,101,115]⟩,datQ q 6,A6,n6,c6⟩]:=⟨_,rfl⟩
   have av:Hid (∀ x∈fs,IB W w.heap.size ⟨x.data,x.A,x.n,x.c⟩/\x.data.length<=16777216):=qH fun x hx=>by
    rw [a0] at hx;simp only [TA,XG,WF] at hx;rcases hx with rfl | rfl | rfl | rfl | rfl | rfl | rfl | rfl
    · exact ⟨G o0,(S.fl 6 qD).few⟩
    · exact ⟨G o1,(S.tb 2 qD).file.few⟩
    · exact ⟨G o2,(S.tb 0 qD).file.few⟩
    · exact ⟨G o9,(show (sH++[1]).length<=16777216 by decide)⟩
    · exact ⟨G o3,(S.fl 3 qD).few⟩
    · exact ⟨G o4,(S.fl 5 qD).few⟩
    · exact ⟨G o5,(S.fl 4 qD).few⟩
    exact ⟨G o6,(S.tb 1 qD).file.few⟩
   have aw:Hid (∀ i,i<8->∃ x,fs[i]?=some x/\x∈fs/\W.cell? ⟨p,i,none⟩=some (.slice x.A x.n x.c)/\∀ l,(Instr.index 127 tM (.int .i64 (i:Int))).run Tryz.prog l=.ok (.string x.name) l):=qH fun i hi=>by
    rw [a0];obtain rfl | rfl | rfl | rfl | rfl | rfl | rfl | rfl:i=0\/i=1\/i=2\/i=3\/i=4\/i=5\/i=6\/i=7:=qO
    all_goals exact ⟨_,rfl,qS,a5.cell _,fun l=>qK⟩
   have ax:Hid (fs.map SF.dat=RQ q):=qH (by rw [a0];rfl);have ay:Hid (fs.length=8):=qH (by rw [a0];rfl);have ah:Hid (Same w W):=qH (HA.sm.trans a4 fun x hx e=>qO);have az:Hid (p<W.heap.size):=qH a5.lt;clear a0 a1 a4 a5 G o0 o1 o2 o3 o4 o5 o6 o9 s0 s1 s2 s3 s4 s5 s6 s7 z0 z1 z2 z3 z4 z5 z6 z7 HA a3 D K e0 e1 e2 e3 e4 e5 e6 hp;have b0:=ZqZ;go_upto_region 3 with fail;have P:=Zuw W;have ai:=(iA W).alloc (.cells (madeCells #[.string ⟨#[]⟩,.slice none 0 0] 16) 41);generalize W.alloc (.cells (madeCells #[.string ⟨#[]⟩,.slice none 0 0] 16) 41)=wM at *;obtain ⟨zE,a7⟩:=qx W.heap.size;rw [a7] at P ⊢;have a6:=qH a7;have b1:=qH P;have b2:=qH ai;clear b0 P ai a7;go_wp2_with fail;refine (yY wM).mono ?_;rintro e wN ⟨rfl,a8⟩;have b3:Hid (Same W wN/\wN.ownsRow zE 41 2 (.slice (some ⟨zE,0,none⟩) 0 8) 0 ((fs.take 0).flatMap SF.cells)):=qH ⟨b2.trans a8 qf,mA b1 a8⟩;clear a8;go_wp2_with fail;go_loopg [4,54] 8 (fun g v s wr=>∃ (i:Nat) (A:Option Addr) (c:Nat),8-i=g/\i<=8/\v=.slice A i c/\s=.int .i64 (i:Int)/\Hid (Same W wr/\wr.ownsRow zE 41 2 (.slice A i c) i ((fs.take i).flatMap SF.cells)))
   case atStart=>exact ⟨0,_,8,rfl,qO,rfl,rfl,b3⟩
   obtain ⟨i,A,c,rfl,hi,rfl,rfl,HI⟩:=hrel;by_cases aj:i<8
   · obtain ⟨x,hx,hm,hc,bc⟩:=aw.out i aj;have d:wr.cell? ⟨p,i,none⟩=some (.slice x.A x.n x.c):=(HI.1.cell (p:=⟨p,i,none⟩) az (fun f=>f)).trans hc;have HX:=qH hx;have j1:(i:Int)<8:=qO;have bb:zE<=wr.heap.size:=by have:=HI.1.size;have:=a6.out;omega
     clear hx hm hc;go_wp2_with (at_builtin;go_must (refine XD rfl (.tmp 58) (.tmp 64) _ _ rfl zE 41 2 40 _ EK mU rfl (.slice A i c) i _ rfl (HI.2.alloc _) rfl (GD EK (Row.sf wr x) (fun u hu=>iZ [x] u (by rw [iD,OO,ZC];exact hu))) qM qO qP ?_);intro v7 w7 a9;obtain ⟨A7,c7,rfl⟩:=WA a9.own;have ak:=qH a9;clear a9);go_roundg (8-(i+1))
     case measure=>omega
     have b4:Same wr (wr.alloc (.cells x.cells.toArray 41)):=(iA wr).alloc _;refine ⟨i+1,A7,c7,rfl,qO,rfl,qN,qH ⟨?_,?_⟩⟩
     · refine (HI.1.trans b4 qf).trans ak.upd fun k N e=>?_;have:=(HI.2.lt k e).1;have:=a6.out;omega
     have h9:=ak.own;rw [eD,HX.out,jF];simpa using h9
   obtain rfl:i=8:=qO;have j1:¬ ((8:Nat):Int)<8:=qO;obtain ⟨aq,T⟩:=HI.out;rw [cB (by rw [ay.out];exact lA _)] at T;obtain ⟨gR,b8,ar⟩:∃ gR,A=some ⟨gR,0,none⟩/\8<=c/\c<=maxLen:=by
    rcases T.2 with ⟨_,U⟩ | ⟨g,bd,bf,hv,_,_,bg,bh,_⟩
    · cases U
    injection hv with V O H
    exact ⟨g,V,qO,qO⟩
   subst b8;have am:=qH ar;have b5:=qH T;have an:=qH aq;clear aj hi aq T ar HI;go_wp2_with fail;refine (ZsN wr am.1 am.2).mono ?_;rintro e wz ⟨rfl,rfl⟩;go_wp2;go_ret;have hr:=xF b5.out;have b6:w.heap.size<=zE:=by have:=ah.size;have:=a6.out;omega
   refine ⟨_,8,fs,rfl,⟨⟨hr.len,lA _,qM,(fun h=>by cases h),fun a ha=>?_⟩,fun x hx=>?_⟩,ax,ah.trans an.out qf⟩
   · obtain ⟨V,O,H,M⟩:=hr.cell a ha;exact ⟨V,O,tA b6 H.2,M⟩
   obtain ⟨V,O⟩:=av.out x hx;have H:Row wr (TyB wr w.heap.size) 1 x.A x.n x.c (x.data.map u8v):=V.same an.out;have M:=H.len;rw [nA] at M;exact ⟨H.mono fun b _ hb=>hb.1,qO⟩
 | succ f ih =>
   intro c s I L E z y C R w' a2 V O H M F m;obtain ⟨b9,au⟩:=ZvP hd V O H M qO F;refine tG rfl b9 (fun i hi=>?_);have N:=au i hi;unfold okI at N;split at N
   · obtain rfl:=eq_of_beq N;refine (JD rfl (fun K D=>?_) RD) 5 (QB.2 rfl);unfold fF;go_simp;refine (aa.out w' m.sm).mono ?_;rintro e X ⟨v,rfl,Y,o⟩;refine D _ _ (Z.out _ (m.sm.trans o qf)) (fun _=>?_);exact ih 1 s I L (upV E 0 v) z y C R X qO qO O H M (fun h=>by have:=F h;omega) (m.call (fun h=>by have:=F h;omega) o Y)
   · obtain rfl:=eq_of_beq N;refine (JD rfl (fun K D=>?_) RD) 11 (QB.2 rfl);unfold fF;go_simp;refine (ab.out w' m.sm).mono ?_;rintro e X ⟨v,rfl,Y,o⟩;refine D _ _ (Z.out _ (m.sm.trans o qf)) (fun _=>?_);exact ih 2 s I L (upV E 1 v) z y C R X qO qO O H M (fun h=>by have:=F h;omega) (m.call (fun h=>by have:=F h;omega) o Y)
   · obtain rfl:=eq_of_beq N;refine (JD rfl (fun K D=>?_) RD) 17 (QB.2 rfl);unfold fF;go_simp;refine (ac.out w' m.sm).mono ?_;rintro e X ⟨v,rfl,Y,o⟩;refine D _ _ (Z.out _ (m.sm.trans o qf)) (fun _=>?_);exact ih 3 s I L (upV E 2 v) z y C R X qO qO O H M (fun h=>by have:=F h;omega) (m.call (fun h=>by have:=F h;omega) o Y)
   · obtain rfl:=eq_of_beq N;refine (JD rfl (fun K D=>?_) RD) 25 (QB.2 rfl);unfold fF;go_simp;refine (ad.out w' m.sm).mono ?_;rintro e X ⟨v,rfl,Y,o⟩;refine D _ _ (Z.out _ (m.sm.trans o qf)) (fun _=>?_);exact ih 4 s I L (upV E 3 v) z y C R X qO qO O H M (fun h=>by have:=F h;omega) (m.call (fun h=>by have:=F h;omega) o Y)
   · obtain rfl:=eq_of_beq N;refine (JD rfl (fun K D=>?_) RD) 31 (QB.2 rfl);unfold fF;go_simp;refine (ae.out w' m.sm).mono ?_;rintro e X ⟨v,rfl,Y,o⟩;refine D _ _ (Z.out _ (m.sm.trans o qf)) (fun _=>?_);exact ih 5 s I L (upV E 4 v) z y C R X qO qO O H M (fun h=>by have:=F h;omega) (m.call (fun h=>by have:=F h;omega) o Y)
   · obtain rfl:=eq_of_beq N;refine (JD rfl (fun K D=>?_) RD) 37 (QB.2 rfl);unfold fF;go_simp;refine (af.out w' m.sm).mono ?_;rintro e X ⟨v,rfl,Y,o⟩;refine D _ _ (Z.out _ (m.sm.trans o qf)) (fun _=>?_);exact ih 6 s I L (upV E 5 v) z y C R X qO qO O H M (fun h=>by have:=F h;omega) (m.call (fun h=>by have:=F h;omega) o Y)
   · obtain rfl:=eq_of_beq N;refine (JD rfl (fun K D=>?_) RD) 43 (QB.2 rfl);unfold fF;go_simp;refine (ag.out w' m.sm).mono ?_;rintro e X ⟨v,rfl,Y,o⟩;refine D _ _ (Z.out _ (m.sm.trans o qf)) (fun _=>?_);exact ih 7 s I L (upV E 6 v) z y C R X qO qO O H M (fun h=>by have:=F h;omega) (m.call (fun h=>by have:=F h;omega) o Y)
   · obtain rfl:=eq_of_beq N;refine (JD rfl (fun K D=>?_) RD) 18 (QB.2 rfl);unfold fF;go_simp;have U:=m.bsl;refine D _ _ (Z.out _ U.sm) (fun _=>?_);exact ih c 1 I L E _ y C R _ qO V qO H M (fun h=>by have:=F h;omega) U
   · obtain rfl:=eq_of_beq N;refine (JD rfl (fun K D=>?_) RD) 19 (QB.2 rfl);obtain ⟨g,rfl,hg,ba,bi⟩:=m.lit rfl;have kc:(convert 39 39 (.slice (some ⟨g,0,none⟩) 6 6)).run Tryz.prog w'=.ok (.slice (some ⟨g,0,none⟩) 6 6) (w'.freeze ⟨g,6,none⟩ 1):=Zuv ba 6 6;unfold fF;go_simp;have U:=m.conv (fun h=>by have:=F h;omega);refine D.out _ _ (Z.out _ U.sm) (fun _=>?_);exact ih c 2 I L E _ _ C R _ qO V qO H M (fun h=>by have:=F h;omega) U
   · rw [kB,kB,jE,jE,jE] at N;obtain ⟨rfl,rfl,rfl⟩:=N;refine (JD rfl (fun K D=>?_) RD) 44 (QB.2 rfl);obtain ⟨A0,n0,c0,e0,o0⟩:=m.dn 0 qD;obtain ⟨A1,n1,c1,e1,o1⟩:=m.dn 1 qD;obtain ⟨A2,n2,c2,e2,o2⟩:=m.dn 2 qD;obtain ⟨A3,n3,c3,e3,o3⟩:=m.dn 3 qD;obtain ⟨A4,n4,c4,e4,o4⟩:=m.dn 4 qD;obtain ⟨A5,n5,c5,e5,o5⟩:=m.dn 5 qD;obtain ⟨A6,n6,c6,e6,o6⟩:=m.dn 6 qD;obtain ⟨A9,n9,c9,e9,o9⟩:=m.cv rfl;have U:FlA w w' q E z y (.agg #[E 0,E 1,E 2,y,E 3,E 4,E 5,E 6]) R 7 2 I 1:=⟨m.sm,m.dn,m.lit,m.cv,m.ap,fun _=>rfl⟩
     have hi:=ih 7 2 I 1 E z y _ R w' qO V O H qD (fun _=>⟨rfl,rfl⟩) U;unfold fF at hi ⊢;rw [e0,e1,e2,e3,e4,e5,e6,e9] at hi ⊢;go_simp;refine D.out _ _ (Z.out _ U.sm) (fun _=>?_);exact hi
   · obtain rfl:=eq_of_beq N;refine (JD rfl (fun K D=>?_) RD) 45 (QB.2 rfl);unfold fF;go_simp;have U:=m.arr;refine D _ _ (Z.out _ U.sm) (fun _=>?_);exact ih c s 1 L E z y C _ _ qO V O qD M F U
   cases N
end
section
structure PE (L L':List L1):Prop where
 len:L'.length=L.length
 at_:∀ (i:Nat) (l:L1),L[i]?=some l->∃ l':L1,L'[i]?=some l'/\l'.live=l.live/\l'.src=l.src/\l'.dst=l.dst/\(l.live=false->l'=l)
theorem PE.refl (L:List L1):PE L L:=⟨rfl,fun _ l h=>⟨l,h,rfl,rfl,rfl,fun _=>rfl⟩⟩
theorem PE.trans {L L' L'':List L1} (h:PE L L') (k:PE L' L''):PE L L'':=⟨k.len.trans h.len,fun i l d=>by obtain ⟨e,f,b,g,j,m⟩:=h.at_ i l d;obtain ⟨a,n,o,p,q,r⟩:=k.at_ i e f;exact ⟨a,n,o.trans b,p.trans g,q.trans j,fun c=>(r (b.trans c)).trans (m c)⟩⟩
theorem PE.none {L L':List L1} (h:PE L L') (hi:L[i]?=none):L'[i]?=none:=by rw [List.getElem?_eq_none_iff] at hi ⊢;rw [h.len];exact hi
theorem PE.touch {L L':List L1} (h:PE L L') (n:Int) (i:Nat):lC L' n i=lC L n i:=by
 unfold lC;rw [aA qO,aA qO,XB];cases hl:L[i]? with
 | none=>rw [h.none hl]
 | some l =>
   obtain ⟨e,a,b,c,d,_⟩:=h.at_ i l hl;rw [a];simp only [b,c,d]
theorem PE.incid {L L':List L1} (h:PE L L') (n:Int):OB L' n=OB L n:=by unfold OB;rw [h.len];exact uP fun i _=>by rw [h.touch]
theorem PE.touchL {L L':List L1} (h:PE L L') (ht:rJ L n i):rJ L' n i:=TK.1 ((h.touch n i).trans (TK.2 ht))
theorem Zux {L:List L1} {l:L1} (hl:L[i]?=some l) (hv:l.live=true) (m p q:Int):PE L (L.set i (RC l m p q)):=by
 obtain ⟨d,e,f⟩:=cO (node:=m) l p q;refine ⟨VF,fun j x a=>?_⟩;by_cases b:i=j
 · subst b;rw [hl] at a;injection a with a
   subst a;exact ⟨_,FG (IA.1 hl).1,d,e,f,fun c=>by rw [hv] at c;cases c⟩
 exact ⟨x,by rw [iI b];exact a,rfl,rfl,rfl,fun _=>rfl⟩
def yH (n:Int) (L L':List L1):Prop:=∀ (i:Nat) (l:L1),L[i]?=some l->l.live=true->(l.src=n\/l.dst=n)->∃ l':L1,L'[i]?=some l'/\l'.live=true/\l'.src=l.src/\l'.dst=l.dst/\sG l' n=sG l n/\SH l' n=SH l n/\lH l'=lH l
theorem yH.refl (n:Int) (L:List L1):yH n L L:=fun _ l h a _=>⟨l,h,a,rfl,rfl,rfl,rfl,rfl⟩
theorem yH.trans {L L' L'':List L1} (h:yH n L L') (k:yH n L' L''):yH n L L'':=fun i l e f b=>by obtain ⟨g,j,m,c,d,o,p,q⟩:=h i l e f b;obtain ⟨a,r,s,t,u,v,w,x⟩:=k i g j m (by rw [c,d];exact b);exact ⟨a,r,s,t.trans c,u.trans d,v.trans o,w.trans p,x.trans q⟩
theorem ZsO {p q:Int} {L:List L1} {l:L1} (hl:L[i]?=some l) (hm:l.src=m\/l.dst=m) (s:m≠n):yH n L (L.set i (RC l m p q)):=fun j x d h o=>by
 obtain ⟨r,e,k⟩:=cO (node:=m) l p q;by_cases g:i=j
 · subst g;rw [hl] at d;injection d with d
   subst d;refine ⟨_,FG (IA.1 hl).1,r.trans h,e,k,?_⟩;have f:(l.src==l.dst)=false:=by rw [WC];rcases hm with c | c <;> rcases o with a | a <;> omega
   refine ⟨?_,?_,?_⟩
   · unfold sG;rw [e];unfold RC;rcases hm with c | c
     · have a:l.src≠n:=qO;have b:l.dst≠m:=qO;rw [aA a,aA a,gA c,aA b]
     have a:l.src=n:=qO;have b:l.src≠m:=qO;rw [gA a,gA a,aA b]
   · unfold SH;rw [e];unfold RC;rcases hm with c | c
     · have a:l.src≠n:=qO;have b:l.dst≠m:=qO;rw [aA a,aA a,gA c,aA b]
     have a:l.src=n:=qO;have b:l.src≠m:=qO;rw [gA a,gA a,aA b]
   unfold lH;rw [e,k,f];rfl
 exact ⟨x,by rw [iI g];exact d,h,rfl,rfl,rfl,rfl,rfl⟩
theorem vO:∀ (ids:List Nat) (k:Int) (L:List L1),(∀ i∈ids,rJ L m i)->PE L (pC m k ids L)/\∀ n,m≠n->yH n L (pC m k ids L)
 | [],_,L,_=>⟨PE.refl L,fun n _=>yH.refl n L⟩
 | i::ids,k,L,ht=>by obtain ⟨l,a,e,b⟩:=ht i qS;have c:=Zux a e m k (dE ids);obtain ⟨f,g⟩:=vO ids (i:Int) (L.set i (RC l m k (dE ids))) fun j h=>c.touchL (ht j (by simp [h]));rw [pC,a];exact ⟨c.trans f,fun n d=>(ZsO a b d).trans (g n d)⟩
theorem jZ {L L':List L1} (hb:PE L L') (hk:yH n L L'):∀ (k:Nat) (last id:Int) (ids:List Int),QC L n k last id=.ok ids->QC L' n k last id=.ok ids
 | 0,last,id,ids,h=>by
   rw [QC] at h ⊢;by_cases b:id = -1
   · rwa [gA b] at h ⊢
   rw [aA b] at h;split at h <;> cases h
 | k+1,last,id,ids,h=>by
   rw [QC] at h ⊢;by_cases b:id = -1
   · rwa [gA b] at h ⊢
   rw [aA b] at h ⊢;by_cases c:lC L n id≠0
   · rw [gA c] at h;cases h
   rw [aA c] at h;have a:=uF.1 c;obtain ⟨i,rfl⟩:∃ i:Nat,id=(i:Int):=⟨id.toNat,by
    unfold lC at a;by_cases j:id<0
    · rw [gA j] at a;cases a
    omega⟩
   rw [hb.touch,aA c];obtain ⟨l,g,m,d⟩:=TK.1 a;obtain ⟨s,o,t,u,v,p,q,r⟩:=hk i l g m d;rw [XB,g] at h;rw [XB,o];simp only at h ⊢;rw [p,q,r];by_cases f:sG l n≠last\/lH l=true
   · rw [gA f] at h;cases h
   rw [aA f] at h ⊢;cases hr:QC L n k i (SH l n) with
   | error e=>rw [hr] at h;cases h
   | ok l2 =>
     rw [hr] at h;rw [jZ hb hk k _ _ _ hr];exact h
theorem aL {L:List L1}:i∈OB L n↔rJ L n i:=by unfold OB;rw [JJ,jE,TK,vF];exact ⟨fun h=>h.2,fun h=>⟨by obtain ⟨l,a,_⟩:=h;exact (IA.1 a).1,h⟩⟩
theorem kZ (L:List L1) (n:Int):(OB L n).Nodup:=List.filter_sublist.nodup iS
theorem ZsP (L:List L1) (n:Int):(OB L n).length<=L.length:=by have:=OL (fun i:Nat=>lC L n i==0) (List.range L.length);rwa [TI] at this
theorem nU:∀ (ns:List NA) (L:List L1),(ns.map NA.id).Nodup->PE L (tD ns L).1/\(∀ m,m ∉ ns.map NA.id->yH m L (tD ns L).1)/\(tD ns L).2.length=ns.length /\
 ∀ p∈ns.zip (tD ns L).2,∃ ids,QC (tD ns L).1 p.1.id (L.length+1) (-1) p.2=.ok ids/\ids.length=(OB L p.1.id).length
 | [],L,_=>⟨PE.refl L,fun m _=>yH.refl m L,rfl,fun p a=>by cases a⟩
 | n::ns,L,hd=>by
   rw [CB,lE] at hd;have k:(if OB L n.id=[] then L else pC n.id (-1) (OB L n.id) L)=pC n.id (-1) (OB L n.id) L:=by
    split
    · rename_i h;rw [h];rfl
    rfl
   have d:∀ i∈OB L n.id,rJ L n.id i:=fun i q=>aL.1 q;obtain ⟨b,r⟩:=vO (OB L n.id) (-1) L d;obtain ⟨e,f,s,t⟩:=nU ns (pC n.id (-1) (OB L n.id) L) hd.2;have l:tD (n::ns) L=((tD ns (pC n.id (-1) (OB L n.id) L)).1,dE (OB L n.id)::(tD ns (pC n.id (-1) (OB L n.id) L)).2):=by rw [tD,k]
   rw [l];refine ⟨b.trans e,fun m c=>?_,by simp [s],fun p a=>?_⟩
   · rw [CB,TA,not_or] at c;exact (r m (JF c.1)).trans (f m c.2)
   simp only [List.zip_cons_cons] at a;rcases TA.1 a with rfl | a
   · have o:=AX (OB L n.id) (-1) L (L.length+1) (kZ L n.id) d (by have:=ZsP L n.id;omega);exact ⟨_,jZ e (f n.id hd.1) _ _ _ _ o,qS⟩
   obtain ⟨ids,g,j⟩:=t p a;rw [b.len] at g;rw [b.incid] at j;exact ⟨ids,g,j⟩
def uM (l:L1):Prop:=inP l.sprev (-1) 2048=true/\inP l.snext (-1) 2048=true/\inP l.dprev (-1) 2048=true/\inP l.dnext (-1) 2048=true
theorem lZ:∀ (ids:List Nat) (n:Int) (L:List L1),(∀ i∈ids,i<2048)->inP n (-1) 2048=true->(∀ l∈L,uM l)->∀ l∈pC m n ids L,uM l
 | [],_,_,_,_,h=>h
 | i::ids,n,L,hi,hp,h=>by
   have k:=hi i qS;have b:inP (dE ids) (-1) 2048=true:=by
    cases ids with
    | nil=>rfl
    | cons j ids =>
      have:=hi j qS;rw [NB];simp only [dE];omega
   rw [pC];refine lZ ids (i:Int) _ (fun j c=>hi j (by simp [c])) (by rw [NB];omega) fun l a=>?_;cases hx:L[i]? with
   | none=>rw [hx] at a;exact h l a
   | some x =>
     rw [hx] at a;rcases iN a with a | rfl
     · exact h l a
     obtain ⟨d,e,f,g⟩:=h x (OC hx);unfold RC;split
     · split
       · exact ⟨hp,b,rfl,rfl⟩
       exact ⟨hp,b,f,g⟩
     exact ⟨d,e,hp,b⟩
theorem oU:∀ (ns:List NA) (L:List L1),L.length<=2048->(∀ l∈L,uM l)->∀ l∈(tD ns L).1,uM l
 | [],_,_,h=>h
 | n::ns,L,hL,h=>by
   have a:∀ i∈OB L n.id,i<2048:=fun i a=>by obtain ⟨l,c,_⟩:=aL.1 a;have:=(IA.1 c).1;omega
   have b:=(vO (OB L n.id) (-1) L fun i a=>aL.1 a).1;rw [tD];refine oU ns _ ?_ ?_
   · split
     · exact hL
     rw [b.len];exact hL
   split
   · exact h
   exact lZ _ _ _ a rfl h
theorem pU:∀ (ns:List NA) (L:List L1),L.length<=2048->∀ h∈(tD ns L).2,inP h (-1) 2048=true
 | [],_,_,h,a=>by cases a
 | n::ns,L,hL,h,a=>by
   have b:=(vO (OB L n.id) (-1) L fun i c=>aL.1 c).1;rw [tD] at a;rcases TA.1 a with rfl | a
   · cases hc:OB L n.id with
     | nil=>rfl
     | cons i ids =>
       obtain ⟨l,d,_⟩:=aL.1 (show i∈OB L n.id by rw [hc];simp);have:=(IA.1 d).1;rw [NB];simp only [dE];omega
   refine pU ns _ ?_ h a;split
   · exact hL
   rw [b.len];exact hL
def endR:Nat->List GRel->Nat
 | o,[]=>o
 | _,r::rs=>endR (r.id.toNat+1) rs
theorem qU:∀ (rs:List GRel) (L:List L1),(∀ r∈rs,(L.length:Int)<=r.id)->(rs.map GRel.id).Pairwise (fun a b=>a<b) ->
 (yE rs L).length=endR L.length rs/\(∀ i,i<L.length->(yE rs L)[i]?=L[i]?)/\(∀ r∈rs,(yE rs L)[r.id.toNat]?=some ⟨true,r.src,r.dst,-1,-1,-1,-1⟩) /\
 ∀ i,L.length<=i->i<(yE rs L).length->(∀ r∈rs,r.id.toNat≠i)->(yE rs L)[i]?=some dC
 | [],L,_,_=>⟨rfl,fun _ _=>rfl,fun r p=>by (cases p),fun i n e _=>by simp only [yE] at e;omega⟩
 | r::rs,L,hL,hp=>by
   rw [CB,TE] at hp;have u:=hL r qS;obtain ⟨M,f⟩:=qx ((L++List.replicate (r.id.toNat-L.length) dC)++[⟨true,r.src,r.dst,-1,-1,-1,-1⟩]);have d:(L++List.replicate (r.id.toNat-L.length) dC).length=r.id.toNat:=by rw [kA,aD];omega
   have h:M.length=r.id.toNat+1:=by rw [<- f,kA,d];rfl
   obtain ⟨n,e,q,s⟩:=qU rs M (fun x c=>by have:=hp.1 x.id (fD c);omega) hp.2;rw [yE,f,endR];have j:M[r.id.toNat]?=some ⟨true,r.src,r.dst,-1,-1,-1,-1⟩:=by rw [<- f,WG qO,d,SD];rfl
   refine ⟨by rw [n,h],fun i t=>?_,fun x c=>?_,fun i l m g=>?_⟩
   · rw [e i qO,<-f,PI qO,PI t]
   · rcases TA.1 c with rfl | c
     · rw [e _ qO];exact j
     exact q x c
   have o:=g r qS;by_cases k:i<M.length
   · rw [e i k,<-f,PI qO,WG l,kN,gA qO]
   exact s i qO m fun x c=>g x (by simp [c])
theorem rU {m:Nat}:∀ (rs:List GRel) (o:Nat),o<=m->(∀ r∈rs,0<=r.id/\r.id<(m:Int))->endR o rs<=m
 | [],_,h,_=>h
 | r::rs,_,h,hr=>rU rs _ (by have:=hr r qS;omega) fun x a=>hr x (by simp [a])
end
end Go.Proofs.YtmkjfhnlnhceiaaGreatDoor
