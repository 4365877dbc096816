/- Texts that the claim leans on: walks and plain laws, function by function. -/
import Derived.Test.YtmkjfhnlnhceiaaGreatDoorN34
set_option maxRecDepth 100000
set_option maxHeartbeats 16000000
namespace Go.Proofs.YtmkjfhnlnhceiaaGreatDoor
open Go.RowKit
attribute [local go_sem] Ybq
def datQ (q:BuP) (k:Nat):List UInt8:=match k with
 | 0=>ZaS (filD 8 1 32 (q.l 6))
 | 1=>ZaS (filD 3 1 42 (q.l 2))
 | 2=>ZaS (filD 1 1 42 (q.l 0))
 | 3=>ZaS (filD 4 1 17 (q.l 3))
 | 4=>ZaS (filD 6 1 20 (q.l 5))
 | 5=>ZaS (filD 5 1 31 (q.l 4))
 | _=>ZaS (filD 2 1 42 (q.l 1))
def Zpg (q:BuP):List ZdH:=List.zipWith ZdH.mk Zfb [datQ q 0,datQ q 1,datQ q 2,Zif++[1],datQ q 3,datQ q 4,datQ q 5,datQ q 6]
def FlK (b:Nat) (q:BuP) (wx:World):Prop:=wx.cell? ⟨b,0,none⟩=some (.pointer (some ⟨q.t 0,0,none⟩))/\wx.cell? ⟨b,1,none⟩=some (.pointer (some ⟨q.t 1,0,none⟩))/\wx.cell? ⟨b,2,none⟩=some (.pointer (some ⟨q.t 2,0,none⟩))/\wx.cell? ⟨b,3,none⟩=some (.pointer (some ⟨q.f 3,0,none⟩))/\wx.cell? ⟨b,4,none⟩=some (.pointer (some ⟨q.f 4,0,none⟩))/\wx.cell? ⟨b,5,none⟩=some (.pointer (some ⟨q.f 5,0,none⟩))/\wx.cell? ⟨b,6,none⟩=some (.pointer (some ⟨q.f 6,0,none⟩))
def fL (c s al bl:Nat):Array Bool:=#[true,true,true,true,true,decide (0<c),true,true,true,true,true,decide (1<c),true,true,true,true,true,decide (2<c),decide (0<s),decide (1<s),true,true,true,true,true,decide (3<c),true,true,true,true,true,decide (4<c),true,true,true,true,true,decide (5<c),true,true,true,true,true,decide (6<c),decide (0<bl),decide (0<al),false]
def fF (b:Nat) (q:BuP) (vs:Nat->Value) (v25 v26 v51 v3:Value):Act:=⟨#[.pointer (some ⟨b,0,none⟩),undef,.slice none 0 0,v3,undef,undef,undef,.pointer (some ⟨b,0,none⟩),.pointer (some ⟨b,0,none⟩),.pointer (some ⟨b,0,none⟩),.pointer (some ⟨b,6,none⟩),.pointer (some ⟨q.f 6,0,none⟩),vs 0,.pointer (some ⟨b,0,none⟩),.pointer (some ⟨b,0,none⟩),.pointer (some ⟨b,0,none⟩),.pointer (some ⟨b,2,none⟩),.pointer (some ⟨q.t 2,0,none⟩),vs 1,.pointer (some ⟨b,0,none⟩),.pointer (some ⟨b,0,none⟩),.pointer (some ⟨b,0,none⟩),.pointer (some ⟨b,0,none⟩),.pointer (some ⟨q.t 0,0,none⟩),vs 2,v25,v26,.pointer (some ⟨b,0,none⟩),.pointer (some ⟨b,0,none⟩),.pointer (some ⟨b,0,none⟩),.pointer (some ⟨b,3,none⟩),.pointer (some ⟨q.f 3,0,none⟩),vs 3,.pointer (some ⟨b,0,none⟩),.pointer (some ⟨b,0,none⟩),.pointer (some ⟨b,0,none⟩),.pointer (some ⟨b,5,none⟩),.pointer (some ⟨q.f 5,0,none⟩),vs 4,.pointer (some ⟨b,0,none⟩),.pointer (some ⟨b,0,none⟩),.pointer (some ⟨b,0,none⟩),.pointer (some ⟨b,4,none⟩),.pointer (some ⟨q.f 4,0,none⟩),vs 5,.pointer (some ⟨b,0,none⟩),.pointer (some ⟨b,0,none⟩),.pointer (some ⟨b,0,none⟩),.pointer (some ⟨b,1,none⟩),.pointer (some ⟨q.t 1,0,none⟩),vs 6,v51,undef,undef,undef,undef,undef,undef,undef,undef,undef,undef,undef,undef,undef,undef,undef,undef,undef],[]⟩
def upV (vs:Nat->Value) (c:Nat) (v:Value):Nat->Value:=fun j=>if j=c then v else vs j
def Dn (w0 w:World) (v:Value) (d:List UInt8):Prop:=∃ A n c,v=.slice A n c/\Zau w w0.heap.size ⟨d,A,n,c⟩
theorem Dn.same {w0 w w':World} {v:Value} {d:List UInt8} (h:Dn w0 w v d) (hu:Same w w'):Dn w0 w' v d:=by obtain ⟨A,n,c,rfl,h⟩:=h;exact ⟨A,n,c,rfl,h.same hu⟩
theorem Dn.mark {w0 w w':World} {v:Value} {d:List UInt8} {g:Nat} {cs:Array Value} (h:Dn w0 w v d) (hu:Upd (fun k=>k=g) w w') (hne:v.ownBlock≠some g) (hb:w'.heap[g]?=some (.cells cs 5 (cs.size,cs.size+1))):Dn w0 w' v d:=by obtain ⟨A,n,c,rfl,h⟩:=h;have b:Row w (TyB w w0.heap.size) 1 A n c (d.map u8v):=h;refine ⟨A,n,c,rfl,(⟨b.len,b.le,b.max,b.nil,fun a j=>?_⟩:Row w' (TyB w' w0.heap.size) 1 A n c (d.map u8v))⟩;obtain ⟨m,l,o,q⟩:=b.cell a j;have f:a.block≠g:=fun e=>hne (by rw [show A=some a from j];exact YaC some e);exact ⟨m,Ycd l hu.size,o.upd hu f,fun i u r=>(hu.cell (p:=⟨a.block,a.off+i,none⟩) l f).trans (q i u r)⟩
structure FlA (w0 w:World) (q:BuP) (vs:Nat->Value) (v25 v26 v51 v3:Value) (c s al bl:Nat):Prop where
 sm:Same w0 w
 dn:∀ k,k<c->Dn w0 w (vs k) (datQ q k)
 lit:s=1->∃ g,v25=.slice (some ⟨g,0,none⟩) 6 6/\w0.heap.size<=g/\Blk w g 5 #[.int .u8 71,.int .u8 83,.int .u8 84,.int .u8 82,.int .u8 0,.int .u8 1]/\∀ k,k<c->(vs k).ownBlock≠some g
 cv:s=2->Dn w0 w v26 (Zif++[1])
 ap:al=1->∃ p,v3=.pointer (some ⟨p,0,none⟩)/\w0.heap.size<=p/\Blk w p 126 #[.slice none 0 0,.slice none 0 0,.slice none 0 0,.slice none 0 0,.slice none 0 0,.slice none 0 0,.slice none 0 0,.slice none 0 0]
 bl:bl=1->v51=.agg #[vs 0,vs 1,vs 2,v26,vs 3,vs 4,vs 5,vs 6]
section
variable {w0 w w':World} {q:BuP} {vs:Nat->Value} {v25 v26 v51 v3 v:Value} {c s al bl:Nat}
theorem FlA.call (h:FlA w0 w q vs v25 v26 v51 v3 c s al bl) (hb:bl≠1) (hs:Same w w') (ho:OwnB w' w.heap.size v (datQ q c)):FlA w0 w' q (upV vs c v) v25 v26 v51 v3 (c+1) s al bl:=by
 have e:∀ k,k<c->upV vs c v k=vs k:=fun k m=>Yab qO;have l:upV vs c v c=v:=Yac rfl;refine ⟨h.sm.trans hs fun _ _ f=>f,fun k m=>?_,fun b=>?_,fun b=>(h.cv b).same hs,fun b=>?_,fun b=>absurd b hb⟩
 · by_cases a:k<c
   · rw [e k a];exact (h.dn k a).same hs
   obtain rfl:k=c:=qO;rw [l];obtain ⟨A,n,rfl⟩:=Zad ho;exact ⟨A,_,n,rfl,(Zau.of ho rfl).base h.sm.size⟩
 · obtain ⟨g,i,j,d,o⟩:=h.lit b;refine ⟨g,i,j,d.same hs,fun k m=>?_⟩;by_cases a:k<c
   · rw [e k a];exact o k a
   obtain rfl:k=c:=qO;rw [l];intro r;have:=(ho.lt g r).1;have:=d.lt;omega
 obtain ⟨p,i,j,d⟩:=h.ap b;exact ⟨p,i,j,d.same hs⟩
theorem Dn.lt {d:List UInt8} {g:Nat} (h:Dn w0 w v d) (hg:v.ownBlock=some g):g<w.heap.size:=by
 obtain ⟨A,n,c,rfl,h⟩:=h;have b:Row w (TyB w w0.heap.size) 1 A n c (d.map u8v):=h;cases A with
 | none=>simp [Value.ownBlock] at hg
 | some a =>
   have e:=(b.cell a rfl).2.1;have f:a.block=g:=by simpa [Value.ownBlock] using hg
   omega
theorem FlA.bsl (h:FlA w0 w q vs v25 v26 v51 v3 c 0 al bl):FlA w0 (w.alloc (.cells #[.int .u8 71,.int .u8 83,.int .u8 84,.int .u8 82,.int .u8 0,.int .u8 1] 5)) q vs (.slice (some ⟨w.heap.size,0,none⟩) 6 6) v26 v51 v3 c 1 al bl:=by
 have b:=(Yaa (fun _=>False) w).alloc (.cells #[.int .u8 71,.int .u8 83,.int .u8 84,.int .u8 82,.int .u8 0,.int .u8 1] 5);refine ⟨h.sm.alloc _,fun k a=>(h.dn k a).same b,fun _=>⟨_,rfl,h.sm.size,Yad w _ _,fun k a d=>?_⟩,fun e=>absurd e qD,fun e=>?_,h.bl⟩
 · have:=(h.dn k a).lt d;omega
 obtain ⟨p,f,g,i⟩:=h.ap e;exact ⟨p,f,g,i.same b⟩
theorem FlA.conv {g:Nat} (h:FlA w0 w q vs (.slice (some ⟨g,0,none⟩) 6 6) v26 v51 v3 c 1 al bl) (hbl:bl≠1):FlA w0 (w.freeze ⟨g,6,none⟩ 1) q vs (.slice (some ⟨g,0,none⟩) 6 6) (.slice (some ⟨g,0,none⟩) 6 6) v51 v3 c 2 al bl:=by
 obtain ⟨s,e,t,f,v⟩:=h.lit rfl;obtain rfl:g=s:=by injection e with e;injection e with e;injection e with e
 obtain ⟨j,b⟩:=Zqm f;refine ⟨h.sm.trans b fun x A e=>qO,fun k m=>(h.dn k m).mark b (v k m) j,fun e=>absurd e qD,fun _=>⟨_,6,6,rfl,?_⟩,fun e=>?_,fun e=>absurd e hbl⟩
 · have l:g<(w.freeze ⟨g,6,none⟩ 1).heap.size:=Ycd f.lt b.size;refine (⟨rfl,Yae _,by simp [maxLen],(fun h=>by cases h),fun a y=>?_⟩:Row _ (TyB _ w0.heap.size) 1 (some ⟨g,0,none⟩) 6 6 ((Zif++[1]).map u8v));cases y;refine ⟨rfl,l,⟨t,l,_,_,j⟩,fun i u n=>?_⟩;show (w.freeze ⟨g,6,none⟩ 1).cell? ⟨g,0+i,none⟩=some u;have d:(w.freeze ⟨g,6,none⟩ 1).cell? ⟨g,0+i,none⟩=(#[.int .u8 71,.int .u8 83,.int .u8 84,.int .u8 82,.int .u8 0,.int .u8 1]:Array Value)[0+i]?:=by simp only [World.cell?];rw [show (w.freeze ⟨g,6,none⟩ 1).heap[g]?=_ from j];rfl
   rw [d,YbJ];have r:(Zif++[1]).map u8v=[.int .u8 71,.int .u8 83,.int .u8 84,.int .u8 82,.int .u8 0,.int .u8 1]:=rfl;rw [r] at n;simpa using n
 obtain ⟨p,z,d,o⟩:=h.ap e;exact ⟨p,z,d,o.upd b (o.ne f qD)⟩
theorem FlA.arr (h:FlA w0 w q vs v25 v26 v51 v3 c s 0 bl):FlA w0 (w.alloc (.cells #[.slice none 0 0,.slice none 0 0,.slice none 0 0,.slice none 0 0,.slice none 0 0,.slice none 0 0,.slice none 0 0,.slice none 0 0] 126)) q vs v25 v26 v51 (.pointer (some ⟨w.heap.size,0,none⟩)) c s 1 bl:=by have a:=(Yaa (fun _=>False) w).alloc (.cells #[.slice none 0 0,.slice none 0 0,.slice none 0 0,.slice none 0 0,.slice none 0 0,.slice none 0 0,.slice none 0 0,.slice none 0 0] 126);refine ⟨h.sm.alloc _,fun k b=>(h.dn k b).same a,fun e=>?_,fun e=>(h.cv e).same a,fun _=>⟨_,rfl,h.sm.size,Yad w _ _⟩,h.bl⟩;obtain ⟨g,d,f,i,j⟩:=h.lit e;exact ⟨g,d,f,i.same a,j⟩
end
def okI (i c s al bl:Nat):Bool:=match i with
 | 5=>c==0
 | 11=>c==1
 | 17=>c==2
 | 25=>c==3
 | 31=>c==4
 | 37=>c==5
 | 43=>c==6
 | 18=>s==0
 | 19=>s==1
 | 44=>c==7 && (s==2 && bl==0)
 | 45=>al==0
 | _=>false
def fdec (ops:Array Oper):Bool:=(List.range 8).all fun c=>(List.range 3).all fun s=>(List.range 2).all fun al=>(List.range 2).all fun bl =>
 !(decide (c+s+al+bl<11) && (bl==0 || (c==7 && s==2))) || (!(Region.ready .any ops (fL c s al bl)).isEmpty && (Region.ready .any ops (fL c s al bl)).all fun i=>decide (i<46) && okI i c s al bl)
theorem ZuL {ops:Array Oper} (h:fdec ops=true) {c s al bl:Nat} (h1:c<=7) (h2:s<=2) (h3:al<=1) (h4:bl<=1) (h5:c+s+al+bl<11) (h6:bl=1->c=7/\s=2) :
 (!(Region.ready .any ops (fL c s al bl)).isEmpty && (Region.ready .any ops (fL c s al bl)).all fun i=>decide (i<46))=true/\∀ i∈Region.ready .any ops (fL c s al bl),okI i c s al bl=true:=by
 have e:=YcK.1 h c (Ycm.2 qO);have f:=YcK.1 e s (Ycm.2 qO);have g:=YcK.1 f al (Ycm.2 qO);have b:=YcK.1 g bl (Ycm.2 qO);have j:(decide (c+s+al+bl<11) && (bl==0 || (c==7 && s==2)))=true:=by rw [Yay,Ybc,YcH,YbE,Yay,YbE,YbE];exact ⟨h5,qO⟩
 rw [j,Bool.not_true,Bool.false_or,Yay,YcK] at b;obtain ⟨k,d⟩:=b;exact ⟨by rw [k,YbP,YcK];exact fun i a=>(Yay _ _ ▸ d i a).1,fun i a=>(Yay _ _ ▸ d i a).2⟩
theorem ESt.decd {P:Program} {ops:Array Oper} {Q:Exit->Act->World->Prop} {S:World->Prop} {n f:Nat} {listed:Array Bool} {a:Act} {w:World} (h:fdec ops=true->ESt P .any ops Q S n f listed a w) (hd:fdec ops=true:=by decide +kernel):ESt P .any ops Q S n f listed a w:=h hd
theorem ZmN (w:World) {B b:Nat} {c7 c8:Value} {q:BuP} {ns:Nat->List ByteArray} (h:BuM w B q ns) (hb:Blk w b 73 (q.cells c7 c8)) (hN:Nib w) :
 Calls Tryz.prog 28 #[.pointer (some ⟨b,0,none⟩)] w fun e w'=>∃ A c fs,e=.returned (.slice A 8 c)/\Fls w' (fun x=>w.heap.size<=x) A 8 c fs/\fs.map SF.dat=Zpg q/\Same w w':=by
 have Z:Hid (∀ l,Same w l->FlK b q l):=qH fun l o=>⟨(hb.same o).cell 0,(hb.same o).cell 1,(hb.same o).cell 2,(hb.same o).cell 3,(hb.same o).cell 4,(hb.same o).cell 5,(hb.same o).cell 6⟩
 have T:=qH h;have HN:=qH hN;clear h hb hN;go_enter Tryz.func28,Tryz.ntmps28;go_upto_region 1 with fail;refine Zaj 46 (fun l=>FlK b q l) (by kernel_rfl) (Z.out _ (Yaa _ w).drew) (fun b7=>?_);refine ESt.okd (fun j=>?_);refine YaZ 0 j (v:=?_) rfl (Or.inl ⟨by rfl,?_⟩) qA ?_;rotate_left
 · exact tkY
 simp only [Act.put,Yal,YaA,Yaz,Yaw,Yam,Yap];refine YaZ 1 j (v:=?_) rfl (Or.inl ⟨by rfl,?_⟩) qA ?_;rotate_left
 · exact tkY
 simp only [Act.put,Yal,YaA,Yaz,Yaw,Yam,Yap];refine YaZ 2 j (v:=?_) rfl (Or.inl ⟨by rfl,?_⟩) qA ?_;rotate_left
 · exact tkY
 simp only [Act.put,Yal,YaA,Yaz,Yaw,Yam,Yap];refine YaZ 3 j (v:=?_) rfl (Or.inl ⟨by rfl,?_⟩) qA ?_;rotate_left
 · exact tkY
 simp only [Act.put,Yal,YaA,Yaz,Yaw,Yam,Yap];refine YaZ 4 j (v:=?_) rfl (Or.inl ⟨by rfl,?_⟩) qA ?_;rotate_left
 · exact tkY
 simp only [Act.put,Yal,YaA,Yaz,Yaw,Yam,Yap];refine YaZ 6 j (v:=?_) rfl (Or.inl ⟨by rfl,?_⟩) qA ?_;rotate_left
 · exact tkY
 simp only [Act.put,Yal,YaA,Yaz,Yaw,Yam,Yap];refine YaZ 7 j (v:=?_) rfl (Or.inl ⟨by rfl,?_⟩) qA ?_;rotate_left
 · exact tkY
 simp only [Act.put,Yal,YaA,Yaz,Yaw,Yam,Yap];refine YaZ 8 j (v:=?_) rfl (Or.inl ⟨by rfl,?_⟩) qA ?_;rotate_left
 · exact tkY
 simp only [Act.put,Yal,YaA,Yaz,Yaw,Yam,Yap];refine YaZ 9 j (v:=?_) rfl (Or.inl ⟨by rfl,?_⟩) qA ?_;rotate_left
 · exact tkY
 simp only [Act.put,Yal,YaA,Yaz,Yaw,Yam,Yap];refine YaZ 10 j (v:=?_) rfl (Or.inl ⟨by rfl,?_⟩) qA ?_;rotate_left
 · exact tkY
 simp only [Act.put,Yal,YaA,Yaz,Yaw,Yam,Yap];refine YaZ 12 j (v:=?_) rfl (Or.inl ⟨by rfl,?_⟩) qA ?_;rotate_left
 · exact tkY
 simp only [Act.put,Yal,YaA,Yaz,Yaw,Yam,Yap];refine YaZ 13 j (v:=?_) rfl (Or.inl ⟨by rfl,?_⟩) qA ?_;rotate_left
 · exact tkY
 simp only [Act.put,Yal,YaA,Yaz,Yaw,Yam,Yap];refine YaZ 14 j (v:=?_) rfl (Or.inl ⟨by rfl,?_⟩) qA ?_;rotate_left
 · exact tkY
 simp only [Act.put,Yal,YaA,Yaz,Yaw,Yam,Yap];refine YaZ 15 j (v:=?_) rfl (Or.inl ⟨by rfl,?_⟩) qA ?_;rotate_left
 · exact tkY
 simp only [Act.put,Yal,YaA,Yaz,Yaw,Yam,Yap];refine YaZ 16 j (v:=?_) rfl (Or.inl ⟨by rfl,?_⟩) qA ?_;rotate_left
 · exact tkY
 simp only [Act.put,Yal,YaA,Yaz,Yaw,Yam,Yap];refine YaZ 20 j (v:=?_) rfl (Or.inl ⟨by rfl,?_⟩) qA ?_;rotate_left
 · exact tkY
 simp only [Act.put,Yal,YaA,Yaz,Yaw,Yam,Yap];refine YaZ 21 j (v:=?_) rfl (Or.inl ⟨by rfl,?_⟩) qA ?_;rotate_left
 · exact tkY
 simp only [Act.put,Yal,YaA,Yaz,Yaw,Yam,Yap];refine YaZ 22 j (v:=?_) rfl (Or.inl ⟨by rfl,?_⟩) qA ?_;rotate_left
 · exact tkY
 simp only [Act.put,Yal,YaA,Yaz,Yaw,Yam,Yap];refine YaZ 23 j (v:=?_) rfl (Or.inl ⟨by rfl,?_⟩) qA ?_;rotate_left
 · exact tkY
 simp only [Act.put,Yal,YaA,Yaz,Yaw,Yam,Yap];refine YaZ 24 j (v:=?_) rfl (Or.inl ⟨by rfl,?_⟩) qA ?_;rotate_left
 · exact tkY
 simp only [Act.put,Yal,YaA,Yaz,Yaw,Yam,Yap];refine YaZ 26 j (v:=?_) rfl (Or.inl ⟨by rfl,?_⟩) qA ?_;rotate_left
 · exact tkY
 simp only [Act.put,Yal,YaA,Yaz,Yaw,Yam,Yap];refine YaZ 27 j (v:=?_) rfl (Or.inl ⟨by rfl,?_⟩) qA ?_;rotate_left
 · exact tkY
 simp only [Act.put,Yal,YaA,Yaz,Yaw,Yam,Yap];refine YaZ 28 j (v:=?_) rfl (Or.inl ⟨by rfl,?_⟩) qA ?_;rotate_left
 · exact tkY
 simp only [Act.put,Yal,YaA,Yaz,Yaw,Yam,Yap];refine YaZ 29 j (v:=?_) rfl (Or.inl ⟨by rfl,?_⟩) qA ?_;rotate_left
 · exact tkY
 simp only [Act.put,Yal,YaA,Yaz,Yaw,Yam,Yap];refine YaZ 30 j (v:=?_) rfl (Or.inl ⟨by rfl,?_⟩) qA ?_;rotate_left
 · exact tkY
 simp only [Act.put,Yal,YaA,Yaz,Yaw,Yam,Yap];refine YaZ 32 j (v:=?_) rfl (Or.inl ⟨by rfl,?_⟩) qA ?_;rotate_left
 · exact tkY
 simp only [Act.put,Yal,YaA,Yaz,Yaw,Yam,Yap];refine YaZ 33 j (v:=?_) rfl (Or.inl ⟨by rfl,?_⟩) qA ?_;rotate_left
 · exact tkY
 simp only [Act.put,Yal,YaA,Yaz,Yaw,Yam,Yap];refine YaZ 34 j (v:=?_) rfl (Or.inl ⟨by rfl,?_⟩) qA ?_;rotate_left
 · exact tkY
 simp only [Act.put,Yal,YaA,Yaz,Yaw,Yam,Yap];refine YaZ 35 j (v:=?_) rfl (Or.inl ⟨by rfl,?_⟩) qA ?_;rotate_left
 · exact tkY
 simp only [Act.put,Yal,YaA,Yaz,Yaw,Yam,Yap];refine YaZ 36 j (v:=?_) rfl (Or.inl ⟨by rfl,?_⟩) qA ?_;rotate_left
 · exact tkY
 simp only [Act.put,Yal,YaA,Yaz,Yaw,Yam,Yap];refine YaZ 38 j (v:=?_) rfl (Or.inl ⟨by rfl,?_⟩) qA ?_;rotate_left
 · exact tkY
 simp only [Act.put,Yal,YaA,Yaz,Yaw,Yam,Yap];refine YaZ 39 j (v:=?_) rfl (Or.inl ⟨by rfl,?_⟩) qA ?_;rotate_left
 · exact tkY
 simp only [Act.put,Yal,YaA,Yaz,Yaw,Yam,Yap];refine YaZ 40 j (v:=?_) rfl (Or.inl ⟨by rfl,?_⟩) qA ?_;rotate_left
 · exact tkY
 simp only [Act.put,Yal,YaA,Yaz,Yaw,Yam,Yap];refine YaZ 41 j (v:=?_) rfl (Or.inl ⟨by rfl,?_⟩) qA ?_;rotate_left
 · exact tkY
 simp only [Act.put,Yal,YaA,Yaz,Yaw,Yam,Yap];refine YaZ 42 j (v:=?_) rfl (Or.inl ⟨by rfl,?_⟩) qA ?_;rotate_left
 · exact tkY
 simp only [Act.put,Yal,YaA,Yaz,Yaw,Yam,Yap];refine ESt.decd (fun hd=>?_);have aa:Hid (∀ l,Same w l->(Calls Tryz.prog 61 #[.pointer (some ⟨q.f 6,0,none⟩)] l fun e w'=>∃ v,e=.returned v/\OwnB w' l.heap.size v (datQ q 0)/\Same l w')):=qH fun l o=>Zcm l ((T.fl 6 qD).same o) qD qD (HN.same o);have ab:Hid (∀ l,Same w l->(Calls Tryz.prog 62 #[.pointer (some ⟨q.t 2,0,none⟩)] l fun e w'=>∃ v,e=.returned v/\OwnB w' l.heap.size v (datQ q 1)/\Same l w')):=qH fun l o=>Zeh ((T.tb 2 qD).same o) qD qD (HN.same o);have ac:Hid (∀ l,Same w l->(Calls Tryz.prog 62 #[.pointer (some ⟨q.t 0,0,none⟩)] l fun e w'=>∃ v,e=.returned v/\OwnB w' l.heap.size v (datQ q 2)/\Same l w')):=qH fun l o=>Zeh ((T.tb 0 qD).same o) qD qD (HN.same o);have ad:Hid (∀ l,Same w l->(Calls Tryz.prog 61 #[.pointer (some ⟨q.f 3,0,none⟩)] l fun e w'=>∃ v,e=.returned v/\OwnB w' l.heap.size v (datQ q 3)/\Same l w')):=qH fun l o=>Zcm l ((T.fl 3 qD).same o) qD qD (HN.same o);have ae:Hid (∀ l,Same w l->(Calls Tryz.prog 61 #[.pointer (some ⟨q.f 5,0,none⟩)] l fun e w'=>∃ v,e=.returned v/\OwnB w' l.heap.size v (datQ q 4)/\Same l w')):=qH fun l o=>Zcm l ((T.fl 5 qD).same o) qD qD (HN.same o);have af:Hid (∀ l,Same w l->(Calls Tryz.prog 61 #[.pointer (some ⟨q.f 4,0,none⟩)] l fun e w'=>∃ v,e=.returned v/\OwnB w' l.heap.size v (datQ q 5)/\Same l w')):=qH fun l o=>Zcm l ((T.fl 4 qD).same o) qD qD (HN.same o);have ag:Hid (∀ l,Same w l->(Calls Tryz.prog 62 #[.pointer (some ⟨q.t 1,0,none⟩)] l fun e w'=>∃ v,e=.returned v/\OwnB w' l.heap.size v (datQ q 6)/\Same l w')):=qH fun l o=>Zeh ((T.tb 1 qD).same o) qD qD (HN.same o);refine (fun (ao:∀ (f c s I L:Nat) (E:Nat->Value) (z y C R:Value) (w':World),f+c+s+I+L=11->c<=7->s<=2->I<=1->L<=1->(L=1->c=7/\s=2)->FlA w w' q E z y C R c s I L->ESt Tryz.prog .any _ _ (fun l=>FlK b q l) 46 (f+1) (fL c s I L) (fF b q E z y C R) w')=>ao 11 0 0 0 0 (fun _=>undef) undef undef undef undef w.drew rfl qD qD qD qD (fun h=>absurd h qD) ⟨(Yaa _ w).drew,fun k h=>absurd h (Ydn k),fun h=>absurd h qD,fun h=>absurd h qD,fun h=>absurd h qD,fun h=>absurd h qD⟩) ?_;intro f
 induction f with
 | zero =>
   intro c s I L E z y C R w' a2 W O H M F m;obtain ⟨rfl,rfl,rfl,rfl⟩:c=7/\s=2/\I=1/\L=1:=qO;obtain ⟨p,rfl,hp,r⟩:=m.ap rfl;obtain rfl:=m.bl rfl;obtain ⟨A0,n0,c0,e0,o0⟩:=m.dn 0 qD;obtain ⟨A1,n1,c1,e1,o1⟩:=m.dn 1 qD;obtain ⟨A2,n2,c2,e2,o2⟩:=m.dn 2 qD;obtain ⟨A3,n3,c3,e3,o3⟩:=m.dn 3 qD;obtain ⟨A4,n4,c4,e4,o4⟩:=m.dn 4 qD;obtain ⟨A5,n5,c5,e5,o5⟩:=m.dn 5 qD;obtain ⟨A6,n6,c6,e6,o6⟩:=m.dn 6 qD;obtain ⟨A9,n9,c9,e9,o9⟩:=m.cv rfl;have HA:=qH m;have a3:=qH r;have s0:=r.c0;have s1:=r.c1;have s2:=r.c2;have s3:=r.c3;have s4:=r.c4;have s5:=r.c5;have s6:=r.c6;have s7:=r.c7;have z0:=r.frozen 0;have z1:=r.frozen 1;have z2:=r.frozen 2;have z3:=r.frozen 3;have z4:=r.frozen 4;have z5:=r.frozen 5;have z6:=r.frozen 6;have z7:=r.frozen 7;clear r m a2 W O H M F aa ab ac ad ae af ag hd j;refine Ybi rfl (fun K D=>?_);unfold fF;rw [e0,e1,e2,e3,e4,e5,e6,e9];go_simp;refine D.out _ _ ?_;obtain ⟨S,a1⟩:∃ S,((((((((w'.setCell ⟨p,0,none⟩ (.slice A0 n0 c0)).setCell ⟨p,1,none⟩ (.slice A1 n1 c1)).setCell ⟨p,2,none⟩ (.slice A2 n2 c2)).setCell ⟨p,3,none⟩ (.slice A9 n9 c9)).setCell ⟨p,4,none⟩ (.slice A3 n3 c3)).setCell ⟨p,5,none⟩ (.slice A4 n4 c4)).setCell ⟨p,6,none⟩ (.slice A5 n5 c5)).setCell ⟨p,7,none⟩ (.slice A6 n6 c6))=S:=⟨_,rfl⟩
   rw [a1];have a4:Upd (fun k=>k=p) w' S:=by rw [<- a1];exact ((((((((Yaa (fun k=>k=p) w').put1 _).put1 _).put1 _).put1 _).put1 _).put1 _).put1 _).put1 _
   have a5:Blk S p 126 #[.slice A0 n0 c0,.slice A1 n1 c1,.slice A2 n2 c2,.slice A9 n9 c9,.slice A3 n3 c3,.slice A4 n4 c4,.slice A5 n5 c5,.slice A6 n6 c6]:=by rw [<- a1];exact (((((((a3.put 0 _).put 1 _).put 2 _).put 3 _).put 4 _).put 5 _).put 6 _).put 7 _
   have G:∀ {x:BS},Zau w' w.heap.size x->Zau S w.heap.size x:=fun h=>h.type (e':=126) a4 (fun g _ e=>e ▸ ⟨_,a3⟩) qD;obtain ⟨fs,a0⟩:∃ fs:List SF,fs=[(⟨⟨#[98,108,111,98,115]⟩,datQ q 0,A0,n0,c0⟩:SF),⟨⟨#[107,101,121,115]⟩,datQ q 1,A1,n1,c1⟩,⟨⟨#[108,97,98,101,108,115]⟩,datQ q 2,A2,n2,c2⟩,⟨⟨#[109,101,116,97]⟩,Zif++[1],A9,n9,c9⟩,⟨⟨#[110,111,100,101,115]⟩,datQ q 3,A3,n3,c3⟩,⟨⟨#[112,114,111,112,115]⟩,datQ q 4,A4,n4,c4⟩,⟨⟨#[114,101,108,115]⟩,datQ q 5,A5,n5,c5⟩,⟨⟨#[116,121,112,101,115]⟩,datQ q 6,A6,n6,c6⟩]:=⟨_,rfl⟩
   have av:Hid (∀ x∈fs,Zau S w.heap.size ⟨x.data,x.A,x.n,x.c⟩/\x.data.length<=16777216):=qH fun x hx=>by
    rw [a0] at hx;simp only [Yat,YcB,Ych] at hx;rcases hx with rfl | rfl | rfl | rfl | rfl | rfl | rfl | rfl
    · exact ⟨G o0,(T.fl 6 qD).few⟩
    · exact ⟨G o1,(T.tb 2 qD).file.few⟩
    · exact ⟨G o2,(T.tb 0 qD).file.few⟩
    · exact ⟨G o9,(show (Zif++[1]).length<=16777216 by decide)⟩
    · exact ⟨G o3,(T.fl 3 qD).few⟩
    · exact ⟨G o4,(T.fl 5 qD).few⟩
    · exact ⟨G o5,(T.fl 4 qD).few⟩
    exact ⟨G o6,(T.tb 1 qD).file.few⟩
   have aw:Hid (∀ i,i<8->∃ x,fs[i]?=some x/\x∈fs/\S.cell? ⟨p,i,none⟩=some (.slice x.A x.n x.c)/\∀ l,(Instr.index 127 Zhs (.int .i64 (i:Int))).run Tryz.prog l=.ok (.string x.name) l):=qH fun i hi=>by
    rw [a0];obtain rfl | rfl | rfl | rfl | rfl | rfl | rfl | rfl:i=0\/i=1\/i=2\/i=3\/i=4\/i=5\/i=6\/i=7:=qO
    all_goals exact ⟨_,rfl,by simp,a5.cell _,fun l=>by kernel_rfl⟩
   have ax:Hid (fs.map SF.dat=Zpg q):=qH (by rw [a0];rfl);have ay:Hid (fs.length=8):=qH (by rw [a0];rfl);have ah:Hid (Same w S):=qH (HA.sm.trans a4 fun x hx e=>qO);have az:Hid (p<S.heap.size):=qH a5.lt;clear a0 a1 a4 a5 G o0 o1 o2 o3 o4 o5 o6 o9 s0 s1 s2 s3 s4 s5 s6 s7 z0 z1 z2 z3 z4 z5 z6 z7 HA a3 D K e0 e1 e2 e3 e4 e5 e6 hp;have b0:=Zqn;go_upto_region 3 with fail;have P:=ZtB S;have ai:=(Yaa (fun _=>False) S).alloc (.cells (madeCells #[.string ⟨#[]⟩,.slice none 0 0] 16) 41);generalize S.alloc (.cells (madeCells #[.string ⟨#[]⟩,.slice none 0 0] 16) 41)=wM at *;obtain ⟨zE,a7⟩:∃ zE,S.heap.size=zE:=⟨_,rfl⟩
   rw [a7] at P ⊢;have a6:=qH a7;have b1:=qH P;have b2:=qH ai;clear b0 P ai a7;go_wp2_with fail;refine (Zjj wM).mono ?_;rintro e wN ⟨rfl,a8⟩;have b3:Hid (Same S wN/\wN.ownsRow zE 41 2 (.slice (some ⟨zE,0,none⟩) 0 8) 0 ((fs.take 0).flatMap SF.cells)):=qH ⟨b2.trans a8 fun _ _ e=>e,Zaa b1 a8⟩;clear a8;go_wp2_with fail;go_loopg [4,54] 8 (fun g v s wr=>∃ (i:Nat) (A:Option Addr) (c:Nat),8-i=g/\i<=8/\v=.slice A i c/\s=.int .i64 (i:Int)/\Hid (Same S wr/\wr.ownsRow zE 41 2 (.slice A i c) i ((fs.take i).flatMap SF.cells)))
   case atStart=>exact ⟨0,_,8,rfl,qO,rfl,rfl,b3⟩
   obtain ⟨i,A,c,rfl,hi,rfl,rfl,HI⟩:=hrel;by_cases aj:i<8
   · obtain ⟨x,hx,hm,hc,bc⟩:=aw.out i aj;have d:wr.cell? ⟨p,i,none⟩=some (.slice x.A x.n x.c):=(HI.1.cell (p:=⟨p,i,none⟩) az (fun f=>f)).trans hc;have HX:=qH hx;have j1:(i:Int)<8:=qO;have bb:zE<=wr.heap.size:=by have:=HI.1.size;have:=a6.out;omega
     clear hx hm hc;go_wp2_with (at_builtin;go_must (refine Zat rfl (.tmp 58) (.tmp 64) _ _ rfl zE 41 2 40 _ Tryz.underlying29 ZmM rfl (.slice A i c) i _ rfl (HI.2.alloc _) rfl (Zbg Tryz.underlying29 (Row.sf wr x) (fun u hu=>ZvG [x] u (by rw [Ybs,Yfj,Ybl];exact hu))) (by unfold maxLen;omega) qO (by simp;omega) ?_);intro v7 w7 a9;obtain ⟨A7,c7,rfl⟩:=Zad a9.own;have ak:=qH a9;clear a9);go_roundg (8-(i+1))
     case measure=>omega
     have b4:Same wr (wr.alloc (.cells x.cells.toArray 41)):=(Yaa (fun _=>False) wr).alloc _;refine ⟨i+1,A7,c7,rfl,qO,rfl,by go_num,qH ⟨?_,?_⟩⟩
     · refine (HI.1.trans b4 fun _ _ e=>e).trans ak.upd fun k N e=>?_;have:=(HI.2.lt k e).1;have:=a6.out;omega
     have h9:=ak.own;rw [Ybo,HX.out,YbS];simpa using h9
   obtain rfl:i=8:=qO;have j1:¬ ((8:Nat):Int)<8:=qO;obtain ⟨aq,U⟩:=HI.out;rw [YaB (by rw [ay.out];exact Yae _)] at U;obtain ⟨gR,b8,ar⟩:∃ gR,A=some ⟨gR,0,none⟩/\8<=c/\c<=maxLen:=by
    rcases U.2 with ⟨_,V⟩ | ⟨g,bd,bf,hv,_,_,bg,bh,_⟩
    · cases V
    injection hv with W O H
    exact ⟨g,W,qO,qO⟩
   subst b8;have am:=qH ar;have b5:=qH U;have an:=qH aq;clear aj hi aq U ar HI;go_wp2_with fail;refine (ZrX wr am.1 am.2).mono ?_;rintro e wz ⟨rfl,rfl⟩;go_wp2;go_ret;have hr:=Yca b5.out;have b6:w.heap.size<=zE:=by have:=ah.size;have:=a6.out;omega
   refine ⟨_,8,fs,rfl,⟨⟨hr.len,Yae _,by unfold maxLen;omega,(fun h=>by cases h),fun a ha=>?_⟩,fun x hx=>?_⟩,ax,ah.trans an.out fun _ _ e=>e⟩
   · obtain ⟨W,O,H,M⟩:=hr.cell a ha;exact ⟨W,O,Yaj b6 H.2,M⟩
   obtain ⟨W,O⟩:=av.out x hx;have H:Row wr (TyB wr w.heap.size) 1 x.A x.n x.c (x.data.map u8v):=W.same an.out;have M:=H.len;rw [Yag] at M;exact ⟨H.mono fun b _ hb=>hb.1,qO⟩
 | succ f ih =>
   intro c s I L E z y C R w' a2 W O H M F m;obtain ⟨b9,au⟩:=ZuL hd W O H M qO F;refine Yci rfl b9 (fun i hi=>?_);have N:=au i hi;unfold okI at N;split at N
   · obtain rfl:=eq_of_beq N;refine (Ybx rfl (fun K D=>?_) YbA) 5 (YaH.2 rfl);unfold fF;go_simp;refine (aa.out w' m.sm).mono ?_;rintro e X ⟨v,rfl,Y,o⟩;refine D _ _ (Z.out _ (m.sm.trans o fun _ _ f=>f)) (fun _=>?_);exact ih 1 s I L (upV E 0 v) z y C R X qO qO O H M (fun h=>by have:=F h;omega) (m.call (fun h=>by have:=F h;omega) o Y)
   · obtain rfl:=eq_of_beq N;refine (Ybx rfl (fun K D=>?_) YbA) 11 (YaH.2 rfl);unfold fF;go_simp;refine (ab.out w' m.sm).mono ?_;rintro e X ⟨v,rfl,Y,o⟩;refine D _ _ (Z.out _ (m.sm.trans o fun _ _ f=>f)) (fun _=>?_);exact ih 2 s I L (upV E 1 v) z y C R X qO qO O H M (fun h=>by have:=F h;omega) (m.call (fun h=>by have:=F h;omega) o Y)
   · obtain rfl:=eq_of_beq N;refine (Ybx rfl (fun K D=>?_) YbA) 17 (YaH.2 rfl);unfold fF;go_simp;refine (ac.out w' m.sm).mono ?_;rintro e X ⟨v,rfl,Y,o⟩;refine D _ _ (Z.out _ (m.sm.trans o fun _ _ f=>f)) (fun _=>?_);exact ih 3 s I L (upV E 2 v) z y C R X qO qO O H M (fun h=>by have:=F h;omega) (m.call (fun h=>by have:=F h;omega) o Y)
   · obtain rfl:=eq_of_beq N;refine (Ybx rfl (fun K D=>?_) YbA) 25 (YaH.2 rfl);unfold fF;go_simp;refine (ad.out w' m.sm).mono ?_;rintro e X ⟨v,rfl,Y,o⟩;refine D _ _ (Z.out _ (m.sm.trans o fun _ _ f=>f)) (fun _=>?_);exact ih 4 s I L (upV E 3 v) z y C R X qO qO O H M (fun h=>by have:=F h;omega) (m.call (fun h=>by have:=F h;omega) o Y)
   · obtain rfl:=eq_of_beq N;refine (Ybx rfl (fun K D=>?_) YbA) 31 (YaH.2 rfl);unfold fF;go_simp;refine (ae.out w' m.sm).mono ?_;rintro e X ⟨v,rfl,Y,o⟩;refine D _ _ (Z.out _ (m.sm.trans o fun _ _ f=>f)) (fun _=>?_);exact ih 5 s I L (upV E 4 v) z y C R X qO qO O H M (fun h=>by have:=F h;omega) (m.call (fun h=>by have:=F h;omega) o Y)
   · obtain rfl:=eq_of_beq N;refine (Ybx rfl (fun K D=>?_) YbA) 37 (YaH.2 rfl);unfold fF;go_simp;refine (af.out w' m.sm).mono ?_;rintro e X ⟨v,rfl,Y,o⟩;refine D _ _ (Z.out _ (m.sm.trans o fun _ _ f=>f)) (fun _=>?_);exact ih 6 s I L (upV E 5 v) z y C R X qO qO O H M (fun h=>by have:=F h;omega) (m.call (fun h=>by have:=F h;omega) o Y)
   · obtain rfl:=eq_of_beq N;refine (Ybx rfl (fun K D=>?_) YbA) 43 (YaH.2 rfl);unfold fF;go_simp;refine (ag.out w' m.sm).mono ?_;rintro e X ⟨v,rfl,Y,o⟩;refine D _ _ (Z.out _ (m.sm.trans o fun _ _ f=>f)) (fun _=>?_);exact ih 7 s I L (upV E 6 v) z y C R X qO qO O H M (fun h=>by have:=F h;omega) (m.call (fun h=>by have:=F h;omega) o Y)
   · obtain rfl:=eq_of_beq N;refine (Ybx rfl (fun K D=>?_) YbA) 18 (YaH.2 rfl);unfold fF;go_simp;have V:=m.bsl;refine D _ _ (Z.out _ V.sm) (fun _=>?_);exact ih c 1 I L E _ y C R _ qO W qO H M (fun h=>by have:=F h;omega) V
   · obtain rfl:=eq_of_beq N;refine (Ybx rfl (fun K D=>?_) YbA) 19 (YaH.2 rfl);obtain ⟨g,rfl,hg,ba,bi⟩:=m.lit rfl;have kc:(convert 39 39 (.slice (some ⟨g,0,none⟩) 6 6)).run Tryz.prog w'=.ok (.slice (some ⟨g,0,none⟩) 6 6) (w'.freeze ⟨g,6,none⟩ 1):=ZtA ba 6 6;unfold fF;go_simp;have V:=m.conv (fun h=>by have:=F h;omega);refine D.out _ _ (Z.out _ V.sm) (fun _=>?_);exact ih c 2 I L E _ _ C R _ qO W qO H M (fun h=>by have:=F h;omega) V
   · rw [Yay,Yay,YbE,YbE,YbE] at N;obtain ⟨rfl,rfl,rfl⟩:=N;refine (Ybx rfl (fun K D=>?_) YbA) 44 (YaH.2 rfl);obtain ⟨A0,n0,c0,e0,o0⟩:=m.dn 0 qD;obtain ⟨A1,n1,c1,e1,o1⟩:=m.dn 1 qD;obtain ⟨A2,n2,c2,e2,o2⟩:=m.dn 2 qD;obtain ⟨A3,n3,c3,e3,o3⟩:=m.dn 3 qD;obtain ⟨A4,n4,c4,e4,o4⟩:=m.dn 4 qD;obtain ⟨A5,n5,c5,e5,o5⟩:=m.dn 5 qD;obtain ⟨A6,n6,c6,e6,o6⟩:=m.dn 6 qD;obtain ⟨A9,n9,c9,e9,o9⟩:=m.cv rfl;have V:FlA w w' q E z y (.agg #[E 0,E 1,E 2,y,E 3,E 4,E 5,E 6]) R 7 2 I 1:=⟨m.sm,m.dn,m.lit,m.cv,m.ap,fun _=>rfl⟩
     have hi:=ih 7 2 I 1 E z y _ R w' qO W O H qD (fun _=>⟨rfl,rfl⟩) V;unfold fF at hi ⊢;rw [e0,e1,e2,e3,e4,e5,e6,e9] at hi ⊢;go_simp;refine D.out _ _ (Z.out _ V.sm) (fun _=>?_);exact hi
   · obtain rfl:=eq_of_beq N;refine (Ybx rfl (fun K D=>?_) YbA) 45 (YaH.2 rfl);unfold fF;go_simp;have V:=m.arr;refine D _ _ (Z.out _ V.sm) (fun _=>?_);exact ih c s 1 L E z y C _ _ qO W O qD M F V
   cases N
end Go.Proofs.YtmkjfhnlnhceiaaGreatDoor
