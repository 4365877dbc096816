/- Texts that the claim leans on: walks and plain laws, function by function. -/
import Derived.Laws.CopyOwn
import Derived.Test.YtkopcinhbjimiaaGreatDoorS24
set_option maxRecDepth 100000
set_option maxHeartbeats 16000000
namespace Go.Proofs.YtkopcinhbjimiaaGreatDoor
def Zaz (g:Zak):List (List UInt8):=Zas::Zai 1 [0,1]::(g.nodes.map (fun x=>Zai 2 (Zbr x))++g.rels.map (fun x=>Zai 3 (Zbx x)))
def ZbO (g:Zak):List UInt8:=Zai 4 (ZaY g.nodes.length g.rels.length g.wt (Zaz g).flatten)
def Zba (g:Zak):List (List UInt8):=Zaz g++[ZbO g]
def arcP (g:Zak):List UInt8:=(Zba g).flatten
theorem ZaN (g:Zak):arcP g=(Zaz g).flatten++ZbO g:=by
 unfold arcP Zba
 rw [List.flatten_append]
 simp
structure Zce (g:Zak):Prop where
 nodes:∀ x∈g.nodes,x.Wr/\(Zbr x).length<=1022+psW x.props
 rels:∀ x∈g.rels,x.Wr/\(Zbx x).length<=742+psW x.props
 nN:g.nodes.length<=1024
 nR:g.rels.length<=2048
 wt:g.wt<=262144
structure ZpK (g:Zak):Prop where
 nodes:∀ x∈g.nodes,∀ p∈x.props,p.val.Fits
 rels:∀ x∈g.rels,∀ p∈x.props,p.val.Fits
theorem Zip {s:ByteArray} (h:ZaZ s=true):s.size<=40:=by
 unfold ZaZ ZfU at h
 simp only [Bool.and_eq_true,decide_eq_true_eq] at h
 have:=h.1.1
 rw [ZaW] at this
 exact this
theorem ZfH:∀ (prev:Option ByteArray) (l:List GPr),Zbg prev l=0->∀ p∈l,p.key.size<=40/\chk p.val=0
 | _,[],_=>by simp
 | prev,q::l,h=>by
   simp only [Zbg] at h
   by_cases h1:ZaZ q.key=false
   · rw [if_pos h1] at h;cases h
   rw [if_neg h1] at h
   by_cases h2:Zbp q.key prev=true
   · rw [if_pos h2] at h;cases h
   rw [if_neg h2] at h
   by_cases h3:chk q.val≠0
   · rw [if_pos h3] at h;exact absurd h h3
   rw [if_neg h3] at h
   intro p hp
   rcases List.mem_cons.1 hp with rfl | hp
   · exact ⟨Zip (by simpa using h1),Decidable.not_not.1 h3⟩
   exact ZfH _ l h p hp
theorem ZgR:∀ (prev:Option ByteArray) (l:List ByteArray),ZbZ prev l=0->∀ p∈l,p.size<=40
 | _,[],_=>by simp
 | prev,q::l,h=>by
   simp only [ZbZ] at h
   by_cases h1:ZaZ q=false
   · rw [if_pos h1] at h;cases h
   rw [if_neg h1] at h
   by_cases h2:Zbp q prev=true
   · rw [if_pos h2] at h;cases h
   rw [if_neg h2] at h
   intro p hp
   rcases List.mem_cons.1 hp with rfl | hp
   · exact Zip (by simpa using h1)
   exact ZgR _ l h p hp
theorem ZpL {g:GVal} (h:chk g=0):(enc g).length<=65535:=by
 unfold enc
 rw [if_pos h]
 obtain ⟨_,_,_,h4,h5,h6,h7⟩:=ZdN h
 rw [List.length_append,Zab]
 unfold Zbz
 split
 · have:=ZcD g.kind g.num
   omega
 split
 · rw [Zch]
   omega
 rw [List.length_append,List.length_append,Zab]
 have h1:=ZbG (g.kind-4) g.nums
 have h2:=ZbL g.texts h7
 omega
theorem Zjw:∀ (l:List ByteArray),(∀ x∈l,x.size<=40)->(l.flatMap Zap).length<=41*l.length
 | [],_=>by simp
 | x::l,h=>by
   have h1:=Zjw l fun y hy=>h y (by simp [hy])
   have h2:=h x (by simp)
   rw [List.flatMap_cons,List.length_append,Zbn,List.length_cons]
   omega
theorem ZnI:∀ (l:List GPr),(∀ p∈l,p.key.size<=40)->(l.flatMap Zbj).length<=43*l.length+psW l
 | [],_=>by simp [psW]
 | p::l,h=>by
   have h1:=ZnI l fun y hy=>h y (by simp [hy])
   have h2:=h p (by simp)
   have e:(Zbj p).length=1+p.key.size+(2+(enc p.val).length):=by
    unfold Zbj
    rw [List.length_append,List.length_append,Zbn,Zab]
   rw [List.flatMap_cons,List.length_append,e,List.length_cons,Zll]
   omega
theorem ZpM {l:List GPr} (h:ZaF l=0):l.length<=16/\∀ p∈l,p.key.size<=40/\chk p.val=0:=by
 unfold ZaF at h
 by_cases h1:16<l.length
 · rw [if_pos h1] at h;cases h
 rw [if_neg h1] at h
 exact ⟨by omega,ZfH _ _ h⟩
theorem ZpN {l:List ByteArray} (h:ZaB l=0):l.length<=8/\∀ p∈l,p.size<=40:=by
 unfold ZaB at h
 by_cases h1:8<l.length
 · rw [if_pos h1] at h;cases h
 rw [if_neg h1] at h
 exact ⟨by omega,ZgR _ _ h⟩
theorem Zqx {l:List GPr} (h:ZaF l=0) (hf:∀ p∈l,p.val.Fits):l.length<=255/\(∀ p∈l,p.Wr)/\(ZbD l).length<=689+psW l:=by
 obtain ⟨h1,h2⟩:=ZpM h
 refine ⟨by omega,fun p hp=>⟨by have:=(h2 p hp).1;omega,(h2 p hp).2,hf p hp,ZpL (h2 p hp).2⟩,?_⟩
 have h3:=ZnI l fun p hp=>(h2 p hp).1
 unfold ZbD
 rw [List.length_append,Zab]
 omega
theorem ZlJ (th:Int->Bool):∀ (prev:Option Int) (i:Nat) (l:List GRel),ZaQ th prev i l=none->∀ x∈l,(0<=x.id/\x.id<2048)/\x.type.size<=40/\th x.src=true/\th x.dst=true
 | _,_,[],_=>by simp
 | prev,i,y::l,h=>by
   simp only [ZaQ] at h
   by_cases hz:ZbN th prev y=0
   · rw [if_neg (by rw [hz];simp)] at h
     have h2:=ZlJ th _ _ l h
     unfold ZbN at hz
     by_cases ha:y.id<0\/2048<=y.id
     · rw [if_pos ha] at hz;cases hz
     rw [if_neg ha] at hz
     by_cases hb:Zar y.id prev=true
     · rw [if_pos hb] at hz;cases hz
     rw [if_neg hb] at hz
     by_cases hg:ZaZ y.type=false
     · rw [if_pos hg] at hz;cases hz
     rw [if_neg hg] at hz
     by_cases ht:th y.src=false\/th y.dst=false
     · rw [if_pos ht] at hz;cases hz
     intro x hx
     rcases List.mem_cons.1 hx with rfl | hx
     · exact ⟨by omega,Zip (by simpa using hg),by simpa using fun h=>ht (.inl h),by simpa using fun h=>ht (.inr h)⟩
     exact h2 x hx
   rw [if_pos hz] at h;cases h
theorem ZoV {g:Zak} (h:ZaH g=none) (hw:g.wt<=262144) (hf:ZpK g):Zce g:=by
 obtain ⟨h1,h2⟩:=Zdf h
 obtain ⟨h3,h4⟩:=head_len h
 have hn:=Zfk _ _ _ h1
 have hn2:=(ZcE _ _ _ h1).2
 have hr:=(ZgQ _ _ _ _ h2).2
 have hr2:=ZlJ _ _ _ _ h2
 refine ⟨fun x hx=>?_,fun x hx=>?_,h3,h4,hw⟩
 · obtain ⟨a,b⟩:=hn x hx
   obtain ⟨c,d⟩:=ZpN a
   obtain ⟨e1,e2,e3⟩:=Zqx b (hf.nodes x hx)
   obtain ⟨i1,i2⟩:=(hn2 x hx).1
   refine ⟨⟨⟨i1,by omega⟩,by omega,fun l hl=>by have:=d l hl;omega,e1,e2⟩,?_⟩
   have h5:=Zjw x.labels d
   unfold Zbr
   simp only [List.length_append,Zab]
   omega
 obtain ⟨e1,e2,e3⟩:=Zqx (hr x hx) (hf.rels x hx)
 obtain ⟨⟨i1,i2⟩,i3,i4,i5⟩:=hr2 x hx
 have key:∀ y,Zec g y=true->0<=y/\y<1024:=fun y hy=>by
  unfold Zec at hy
  obtain ⟨z,hz,rfl⟩:=List.mem_map.1 (of_decide_eq_true hy)
  exact (hn2 z hz).1
 have k1:=key _ i4
 have k2:=key _ i5
 refine ⟨⟨⟨i1,by omega⟩,⟨k1.1,by omega⟩,⟨k2.1,by omega⟩,by omega,e1,e2⟩,?_⟩
 unfold Zbx
 simp only [List.length_append,Zab,Zbn]
 omega
theorem ZkD {α:Type} (f:α->List GPr):∀ (l:List α) (x:α),x∈l->psW (f x)<=psW (l.flatMap f)
 | [],x,h=>by cases h
 | y::l,x,h=>by
   rw [List.flatMap_cons,Zdc]
   rcases List.mem_cons.1 h with rfl | h
   · omega
   have:=ZkD f l x h
   omega
theorem ZkE {α:Type} (f:α->List GPr) (t k:Nat) (e:α->List UInt8):∀ (l:List α),(∀ x∈l,(e x).length<=k+psW (f x))->((l.map fun x=>Zai t (e x)).flatten).length<=(k+9)*l.length+psW (l.flatMap f)
 | [],_=>by simp
 | y::l,h=>by
   have h1:=ZkE f t k e l fun x hx=>h x (by simp [hx])
   have h2:=h y (by simp)
   rw [List.map_cons,List.flatten_cons,List.length_append,ZaE,List.flatMap_cons,Zdc,List.length_cons,Nat.mul_add]
   omega
section
variable {g:Zak}
theorem Zce.nd (h:Zce g) {x:ZaO} (hx:x∈g.nodes):x.Wr/\(Zbr x).length<=1048576:=by
 refine ⟨(h.nodes x hx).1,?_⟩
 have h1:=(h.nodes x hx).2
 have h2:=ZkD ZaO.props g.nodes x hx
 have h3:=h.wt
 unfold Zak.wt at h3
 omega
theorem Zce.rl (h:Zce g) {x:GRel} (hx:x∈g.rels):x.Wr/\(Zbx x).length<=1048576:=by
 refine ⟨(h.rels x hx).1,?_⟩
 have h1:=(h.rels x hx).2
 have h2:=ZkD GRel.props g.rels x hx
 have h3:=h.wt
 unfold Zak.wt at h3
 omega
theorem Zbe (g:Zak):(Zaz g).flatten=Zas++(Zai 1 [0,1]++((g.nodes.map fun x=>Zai 2 (Zbr x)).flatten++(g.rels.map fun x=>Zai 3 (Zbx x)).flatten)):=by
 unfold Zaz
 simp only [List.flatten_cons,List.flatten_append]
theorem Zce.head_len (h:Zce g):(Zaz g).flatten.length<=2900000:=by
 have h1:=ZkE ZaO.props 2 1022 Zbr g.nodes fun x hx=>(h.nodes x hx).2
 have h2:=ZkE GRel.props 3 742 Zbx g.rels fun x hx=>(h.rels x hx).2
 have h3:=h.wt
 have h4:=h.nN
 have h5:=h.nR
 unfold Zak.wt at h3
 rw [Zbe]
 simp only [List.length_append,ZaE,Zdb,List.length_cons,List.length_nil]
 have h6:(1022+9)*g.nodes.length<=(1022+9)*1024:=Nat.mul_le_mul_left _ h4
 have h7:(742+9)*g.rels.length<=(742+9)*2048:=Nat.mul_le_mul_left _ h5
 omega
theorem Zcr (g:Zak):(ZbO g).length=25:=by unfold ZbO;rw [ZaE,ZbH]
theorem Zce.arc_len (h:Zce g):(arcP g).length<=2900025:=by
 have:=h.head_len
 rw [ZaN,List.length_append,Zcr]
 omega
end
theorem Zdm {α:Type} (t:Nat) (ht:t<=255) (e:α->List UInt8) (r:List UInt8):∀ (l:List α),(∀ x∈l,(e x).length<=1048576) ->
 Zae ((l.map fun x=>Zai t (e x)).flatten++r)=((l.map fun x=>(⟨t,e x⟩:GFr))++(Zae r).1,(Zae r).2)
 | [],_=>rfl
 | y::l,h=>by
   have h1:=Zdm t ht e r l fun x hx=>h x (by simp [hx])
   rw [List.map_cons,List.flatten_cons,List.append_assoc,Zbk (Zge ht (h y (by simp))),h1]
   rfl
theorem ZgS (fs:List GFr):∀ (l:List ZaO) (ns:List ZaO) (all:List UInt8),(∀ x∈l,x.Wr) ->
 ZaI (l.map (fun x=>(⟨2,Zbr x⟩:GFr))++fs) ⟨1,⟨ns,[]⟩,all⟩=ZaI fs ⟨1,⟨ns++l,[]⟩,all++(l.map fun x=>Zai 2 (Zbr x)).flatten⟩
 | [],ns,all,_=>by simp
 | y::l,ns,all,h=>by
   have e1:Zby ⟨1,⟨ns,[]⟩,all⟩ ⟨2,Zbr y⟩=.ok ⟨1,⟨ns++[y],[]⟩,all++Zai 2 (Zbr y)⟩:=by
    unfold Zby
    simp [Zpw (h y (by simp))]
   rw [List.map_cons,List.cons_append]
   simp only [ZaI]
   rw [e1]
   simp only
   rw [ZgS fs l _ _ fun x hx=>h x (by simp [hx])]
   simp
theorem ZhP (fs:List GFr):∀ (l:List GRel) (st:Nat) (ns:List ZaO) (rs:List GRel) (all:List UInt8),(st=1\/st=2)->(∀ x∈l,x.Wr) ->
 ∃ st',(st'=1\/st'=2)/\ZaI (l.map (fun x=>(⟨3,Zbx x⟩:GFr))++fs) ⟨st,⟨ns,rs⟩,all⟩=ZaI fs ⟨st',⟨ns,rs++l⟩,all++(l.map fun x=>Zai 3 (Zbx x)).flatten⟩
 | [],st,ns,rs,all,hs,_=>⟨st,hs,by simp⟩
 | y::l,st,ns,rs,all,hs,h=>by
   have e1:Zby ⟨st,⟨ns,rs⟩,all⟩ ⟨3,Zbx y⟩=.ok ⟨2,⟨ns,rs++[y]⟩,all++Zai 3 (Zbx y)⟩:=by
    unfold Zby
    rcases hs with rfl | rfl <;> simp [Zpx (h y (by simp))]
   obtain ⟨st',h1,h2⟩:=ZhP fs l 2 ns (rs++[y]) (all++Zai 3 (Zbx y)) (.inr rfl) fun x hx=>h x (by simp [hx])
   refine ⟨st',h1,?_⟩
   rw [List.map_cons,List.cons_append]
   simp only [ZaI]
   rw [e1]
   simp only
   rw [h2]
   simp
def frs (g:Zak):List GFr:=⟨1,[0,1]⟩::(g.nodes.map (fun x=>⟨2,Zbr x⟩)++g.rels.map fun x=>⟨3,Zbx x⟩)
theorem ZgT {g:Zak} (h:Zce g) (r:List UInt8):Zae (((Zaz g).flatten++r).drop 8)=(frs g++(Zae r).1,(Zae r).2):=by
 have e:((Zaz g).flatten++r).drop 8=Zai 1 [0,1]++((g.nodes.map fun x=>Zai 2 (Zbr x)).flatten++((g.rels.map fun x=>Zai 3 (Zbx x)).flatten++r)):=by
  rw [Zbe,<-Zdb,List.append_assoc,List.drop_left]
  simp only [List.append_assoc]
 rw [e,Zbk (Zge (by omega) (by decide)),Zdm 2 (by omega) Zbr _ g.nodes fun x hx=>(h.nd hx).2,Zdm 3 (by omega) Zbx _ g.rels fun x hx=>(h.rl hx).2]
 simp [frs]
theorem ZhQ {g:Zak} (h:Zce g) (fs:List GFr):∃ st,(st=1\/st=2)/\ZaI (frs g++fs) ⟨0,noG,Zas⟩=ZaI fs ⟨st,g,(Zaz g).flatten⟩:=by
 have e1:Zby ⟨0,noG,Zas⟩ ⟨1,[0,1]⟩=.ok ⟨1,noG,Zas++Zai 1 [0,1]⟩:=by unfold Zby;simp
 obtain ⟨st,h1,h2⟩:=ZhP fs g.rels 1 g.nodes [] (Zas++Zai 1 [0,1]++(g.nodes.map fun x=>Zai 2 (Zbr x)).flatten) (.inl rfl) fun x hx=>(h.rl hx).1
 refine ⟨st,h1,?_⟩
 unfold frs
 rw [List.cons_append]
 simp only [ZaI]
 rw [e1]
 simp only [noG]
 rw [List.append_assoc,ZgS _ g.nodes [] _ fun x hx=>(h.nd hx).1,List.nil_append,h2,List.nil_append,Zbe]
 simp only [List.append_assoc]
theorem ZlK {g:Zak} (h:Zce g):fedP (arcP g)=.ok ⟨3,g,arcP g⟩:=by
 have hl:=h.arc_len
 have ht:ZbO g=Zai 4 (ZaY g.nodes.length g.rels.length g.wt (Zaz g).flatten):=rfl
 have h8:(arcP g).take 8=Zas:=by
  rw [ZaN,Zbe,<-Zdb,List.append_assoc,List.take_left]
 have hfr:Zae ((arcP g).drop 8)=(frs g++[⟨4,ZaY g.nodes.length g.rels.length g.wt (Zaz g).flatten⟩],[],0):=by
  rw [ZaN,ZgT h,ht]
  have e2:=Zbk (Zge (t:=4) (d:=ZaY g.nodes.length g.rels.length g.wt (Zaz g).flatten) (r:=[]) (by omega) (by rw [ZbH];omega))
  rw [List.append_nil] at e2
  rw [e2,ZbR]
 obtain ⟨st,h1,h2⟩:=ZhQ h [⟨4,ZaY g.nodes.length g.rels.length g.wt (Zaz g).flatten⟩]
 have e3:Zby ⟨st,g,(Zaz g).flatten⟩ ⟨4,ZaY g.nodes.length g.rels.length g.wt (Zaz g).flatten⟩=.ok ⟨3,g,arcP g⟩:=by
  unfold Zby
  rw [ZaN,ht]
  rcases h1 with rfl | rfl <;> simp
 unfold fedP
 rw [if_neg (by omega),if_neg (by rw [ZaN,Zbe];simp only [List.length_append,Zdb];omega),if_neg (by simp [h8]),hfr]
 simp only
 rw [h2]
 simp only [ZaI]
 rw [e3]
 simp
theorem ZfI (n:Nat):∀ (l:List UInt8),l.length<=n->l=((Zae l).1.map fun f=>Zai f.type f.data).flatten++(Zae l).2.1:=by
 induction n with
 | zero =>
   intro l h
   obtain rfl:l=[]:=List.length_eq_zero_iff.1 (by omega)
   rw [ZbR]
   rfl
 | succ n ih =>
   intro l h
   cases hx:oneP l with
   | error e=>rw [Zdh hx];rfl
   | ok o =>
     cases o with
     | none=>rw [ZbS hx];rfl
     | some p =>
       obtain ⟨f,r⟩:=p
       obtain ⟨hp,hr,hl,-,-⟩:=ZeE hx
       rw [Zbk hx]
       simp only [List.map_cons,List.flatten_cons,List.append_assoc]
       rw [<- ih r (by rw [hr,List.length_drop];omega),hp,hr,List.take_append_drop]
theorem ZnJ {s s':PSt} {f:GFr} (h:Zby s f=.ok s'):s'.all=s.all++Zai f.type f.data:=by
 unfold Zby at h
 split at h
 · cases h
 split at h
 · split at h
   · injection h with h;rw [<- h]
   cases h
 split at h
 · split at h
   · cases h
   injection h with h;rw [<- h]
 split at h
 · split at h
   · cases h
   injection h with h;rw [<- h]
 split at h
 · split at h
   · injection h with h;rw [<- h]
   cases h
 cases h
theorem ZhR:∀ (fs:List GFr) (s s':PSt),ZaI fs s=.ok s'->s'.all=s.all++(fs.map fun f=>Zai f.type f.data).flatten
 | [],s,s',h=>by simp only [ZaI] at h;injection h with h;rw [<- h];simp
 | f::fs,s,s',h=>by
   simp only [ZaI] at h
   cases hx:Zby s f with
   | error e=>rw [hx] at h;cases h
   | ok s1 =>
     rw [hx] at h
     rw [ZhR fs s1 s' h,ZnJ hx]
     simp
structure Zqy (g:Zak):Prop where
 nodes:∀ x∈g.nodes,x.Wr
 rels:∀ x∈g.rels,x.Wr
def InvP (s:PSt):Prop:=Zqy s.g /\
 (s.state=0/\s.g=noG/\s.all=Zas\/s.state=1/\s.g.rels=[]/\s.all=(Zaz s.g).flatten\/s.state=2/\s.all=(Zaz s.g).flatten\/s.state=3/\s.all=arcP s.g)
theorem Zjx {s s':PSt} {f:GFr} (hi:InvP s) (h:Zby s f=.ok s'):InvP s':=by
 obtain ⟨hw,hc⟩:=hi
 unfold Zby at h
 by_cases h3:s.state=3
 · rw [if_pos h3] at h;cases h
 rw [if_neg h3] at h
 by_cases h0:s.state=0/\f.type=1
 · rw [if_pos h0] at h
   by_cases hd:f.data=[0,1]
   · rw [if_pos hd] at h
     injection h with h
     rw [<- h]
     have hg:s.g=noG/\s.all=Zas:=by rcases hc with c | c | c | c <;> first | exact c.2 | (have:=c.1;omega)
     refine ⟨hw,.inr (.inl ⟨rfl,by simp only [hg.1];rfl,?_⟩)⟩
     simp only [hg.1,hg.2,h0.2,hd]
     simp [Zaz,noG]
   rw [if_neg hd] at h;cases h
 rw [if_neg h0] at h
 by_cases h1:s.state=1/\f.type=2
 · rw [if_pos h1] at h
   cases hn:pNd f.data with
   | none=>rw [hn] at h;cases h
   | some x =>
     rw [hn] at h
     injection h with h
     rw [<- h]
     obtain ⟨e1,e2⟩:=ZoC hn
     have hg:s.g.rels=[]/\s.all=(Zaz s.g).flatten:=by rcases hc with c | c | c | c <;> first | exact c.2 | (have:=c.1;omega)
     refine ⟨⟨fun y hy=>?_,hw.rels⟩,.inr (.inl ⟨rfl,hg.1,?_⟩)⟩
     · rcases List.mem_append.1 hy with hy | hy
       · exact hw.nodes y hy
       obtain rfl:y=x:=by simpa using hy
       exact e2
     simp only [hg.2,h1.2]
     rw [Zbe,Zbe,hg.1,<-e1]
     simp
 rw [if_neg h1] at h
 by_cases h2:s.state≠0/\f.type=3
 · rw [if_pos h2] at h
   cases hn:pRl f.data with
   | none=>rw [hn] at h;cases h
   | some x =>
     rw [hn] at h
     injection h with h
     rw [<- h]
     obtain ⟨e1,e2⟩:=ZoD hn
     have hg:s.all=(Zaz s.g).flatten:=by
      rcases hc with c | c | c | c
      · exact absurd c.1 h2.1
      · exact c.2.2
      · exact c.2
      exact absurd c.1 h3
     refine ⟨⟨hw.nodes,fun y hy=>?_⟩,.inr (.inr (.inl ⟨rfl,?_⟩))⟩
     · rcases List.mem_append.1 hy with hy | hy
       · exact hw.rels y hy
       obtain rfl:y=x:=by simpa using hy
       exact e2
     simp only [hg,h2.2]
     rw [Zbe,Zbe,<-e1]
     simp
 rw [if_neg h2] at h
 by_cases h4:s.state≠0/\f.type=4
 · rw [if_pos h4] at h
   by_cases hd:f.data=ZaY s.g.nodes.length s.g.rels.length s.g.wt s.all
   · rw [if_pos hd] at h
     injection h with h
     rw [<- h]
     have hg:s.all=(Zaz s.g).flatten:=by
      rcases hc with c | c | c | c
      · exact absurd c.1 h4.1
      · exact c.2.2
      · exact c.2
      exact absurd c.1 h3
     refine ⟨hw,.inr (.inr (.inr ⟨rfl,?_⟩))⟩
     simp only
     rw [ZaN,hd,h4.2]
     unfold ZbO
     rw [hg]
   rw [if_neg hd] at h;cases h
 rw [if_neg h4] at h;cases h
theorem Zfl:∀ (fs:List GFr) (s s':PSt),InvP s->ZaI fs s=.ok s'->InvP s'
 | [],s,s',hi,h=>by simp only [ZaI] at h;injection h with h;rw [<- h];exact hi
 | f::fs,s,s',hi,h=>by
   simp only [ZaI] at h
   cases hx:Zby s f with
   | error e=>rw [hx] at h;cases h
   | ok s1=>rw [hx] at h;exact Zfl fs s1 s' (Zjx hi hx) h
end Go.Proofs.YtkopcinhbjimiaaGreatDoor
namespace Go.Proofs.YtkopcinhbjimiaaGreatDoor
open Go.RowKit
def WtrV (w:World) (B r:Nat) (v:Value) (bs:List UInt8):Prop:=B<=r/\Blk w r 173 #[v]/\OwnB w B v bs
theorem Wtr.open {w:World} {B r:Nat} {bs:List UInt8} (h:Wtr w B r bs):∃ v,WtrV w B r v bs:=by
 obtain ⟨h1,v,h2,h3⟩:=h
 exact ⟨v,h1,h2,h3⟩
theorem WtrV.wtr {w:World} {B r:Nat} {v:Value} {bs:List UInt8} (h:WtrV w B r v bs):Wtr w B r bs:=⟨h.1,v,h.2.1,h.2.2⟩
theorem WtrV.upd {w w':World} {S:Nat->Prop} {B r:Nat} {v:Value} {bs:List UInt8} (h:WtrV w B r v bs) (hu:Upd S w w') (hr:¬ S r) (hs:∀ g,v.ownBlock=some g->¬ S g):WtrV w' B r v bs :=
 ⟨h.1,h.2.1.upd hu hr,Zam h.2.2 hu hs⟩
theorem WtrV.same {w w':World} {B r:Nat} {v:Value} {bs:List UInt8} (h:WtrV w B r v bs) (hu:Same w w'):WtrV w' B r v bs:=h.upd hu (fun f=>f) fun _ _ f=>f
theorem WtrV.lt {w:World} {B r:Nat} {v:Value} {bs:List UInt8} (h:WtrV w B r v bs):r<w.heap.size:=h.2.1.lt
structure WOn (w:World) (B r:Nat) (v:Value) (bs:List UInt8) (w':World):Prop where
 ex:∃ v',WtrV w' B r v' bs/\(v'.ownBlock=v.ownBlock\/∃ g,v'.ownBlock=some g/\w.heap.size<=g)
 upd:Upd (fun b=>b=r\/v.ownBlock=some b) w w'
theorem wnumV {w:World} {B r:Nat} {v:Value} {bs:List UInt8} (h:WtrV w B r v bs) (width n:Int) (hw:Zao width=true) (hn:0<=n) (hl:bs.length+8<=140737488355328) :
 Calls Tryz.prog 78 #[.pointer (some ⟨r,0,none⟩),.int .i64 width,.int .u64 n] w fun e w'=>e=.returned (.tuple #[])/\WOn w B r v (bs++beb width.toNat n.toNat) w':=by
 have h0w:0<=width:=by
  simp only [Zao,Bool.or_eq_true,beq_iff_eq] at hw
  omega
 obtain ⟨width,rfl⟩:=Int.eq_ofNat_of_zero_le h0w
 obtain ⟨n,rfl⟩:=Int.eq_ofNat_of_zero_le hn
 rw [Int.toNat_natCast,Int.toNat_natCast]
 clear h0w hn
 obtain ⟨hB,hb,ho⟩:=h
 have hlt:=hb.lt
 have hne:v.ownBlock≠some r:=hb.ne_own ho (by decide)
 have h0:=hb.cell 0
 simp only [List.getElem?_toArray,List.getElem?_cons_zero] at h0
 have hwid:1<=width/\width<=8:=by
  simp only [Zao,Bool.or_eq_true,beq_iff_eq] at hw
  omega
 have HW:=qH hw
 clear hw
 go_enter Tryz.func78,Tryz.ntmps78
 go_wp2_with fail
 refine (Zcp _ _).mono ?_
 rintro e w' ⟨rfl,rfl⟩
 rw [HW.out]
 go_wp2_with fail
 refine (Zla _ ho (by omega) width n hwid hl).mono ?_
 rintro e w1 ⟨v',rfl,hg⟩
 have hb1:=hg.blk hb hne
 have f1:=hb1.frozen 0
 have h1:=hb1.cell 0
 simp only [List.getElem?_toArray,List.getElem?_cons_zero] at h1
 obtain ⟨A,m,c,rfl⟩:=Zav hg.own
 go_wp2
 go_end0
 have hne':(Value.slice A m c).ownBlock≠some r:=hb1.ne_own hg.own (by decide)
 refine ⟨rfl,⟨_,⟨hB,hb1.put 0 _,?_⟩,hg.block⟩,(hg.upd.mono fun b _ hv=>.inr hv).put (.inl rfl) _⟩
 exact Zam hg.own ((Upd.refl (fun b=>b=r) w1).put1 _) fun g hgg hgr=>hne' (hgr ▸ hgg)
theorem wrawV {w:World} {F:Nat->Prop} {B r:Nat} {v:Value} {A:Option Addr} {n c:Nat} {bs xs:List UInt8} (h:WtrV w B r v bs) (hx:Bytes w F A n c xs) (hl:bs.length+n<=140737488355328) :
 Calls Tryz.prog 79 #[.pointer (some ⟨r,0,none⟩),.slice A n c] w fun e w'=>e=.returned (.tuple #[])/\WOn w B r v (bs++xs) w':=by
 obtain ⟨hB,hb,ho⟩:=h
 have hlt:=hb.lt
 have hne:v.ownBlock≠some r:=hb.ne_own ho (by decide)
 have h0:=hb.cell 0
 simp only [List.getElem?_toArray,List.getElem?_cons_zero] at h0
 have HL:=qH hx.len
 go_enter Tryz.func79,Tryz.ntmps79
 go_wp2_with (at_builtin;go_must (refine Zag rfl (.tmp 8) (.tmp 9) _ _ rfl B _ _ _ _ Tryz.underlying28 ZaR rfl v _ _ rfl ho rfl (Zal Tryz.underlying28 hx (ZcC xs)) (by unfold maxLen;omega) (by omega) (by omega) ?_);intro v' w1 hg;obtain ⟨A',m',c',rfl⟩:=Zav hg.own;have f1:w1.frozen? ⟨r,0,none⟩=false:=(hg.blk hb hne).frozen 0;have h1:w1.cell? ⟨r,0,none⟩=some v:=(hg.blk hb hne).cell 0)
 go_end0
 have hb1:=hg.blk hb hne
 have hne':(Value.slice A' m' c').ownBlock≠some r:=hb1.ne_own hg.own (by decide)
 refine ⟨rfl,⟨_,⟨hB,hb1.put 0 _,?_⟩,hg.block⟩,(hg.upd.mono fun b _ hv=>.inr hv).put (.inl rfl) _⟩
 have h2:=Zam hg.own ((Upd.refl (fun b=>b=r) w1).put1 (i:=0) (.slice A' m' c')) fun g hgg hgr=>hne' (hgr ▸ hgg)
 unfold OwnB
 rw [List.length_append,HL.out,List.map_append]
 exact h2
theorem WOn.same {w w1 w2:World} {B r:Nat} {v:Value} {bs:List UInt8} (h:WOn w B r v bs w1) (hu:Same w1 w2):WOn w B r v bs w2:=by
 obtain ⟨⟨v',h1,h2⟩,h3⟩:=h
 exact ⟨⟨v',h1.same hu,h2⟩,h3.same hu⟩
theorem WOn.of {w:World} {B r:Nat} {v:Value} {bs:List UInt8} (h:WtrV w B r v bs):WOn w B r v bs w:=⟨⟨v,h,.inl rfl⟩,Upd.refl _ _⟩
theorem WOn.on {w w1 w2:World} {B r:Nat} {v v1:Value} {bs2:List UInt8} (hu:Upd (fun b=>b=r\/v.ownBlock=some b) w w1) (ho:v1.ownBlock=v.ownBlock\/∃ g,v1.ownBlock=some g/\w.heap.size<=g) (h2:WOn w1 B r v1 bs2 w2):WOn w B r v bs2 w2:=by
 obtain ⟨⟨v2,h1,h3⟩,h4⟩:=h2
 refine ⟨⟨v2,h1,?_⟩,hu.trans h4 fun k hk hs=>?_⟩
 · rcases h3 with h3 | ⟨g,h5,h6⟩
   · rw [h3];exact ho
   exact .inr ⟨g,h5,Nat.le_trans hu.size h6⟩
 rcases hs with hs | hs
 · exact .inl hs
 rcases ho with ho | ⟨g,h5,h6⟩
 · rw [ho] at hs;exact .inr hs
 rw [h5] at hs;injection hs with hs;omega
theorem WOn.call {P:Program} {f:Nat} {args:Array Value} {X:Ending} {w w1:World} {B r:Nat} {v:Value} {bs bs1:List UInt8} (h:WOn w B r v bs w1) (k:∀ v1,WtrV w1 B r v1 bs->Calls P f args w1 fun e w'=>e=X/\WOn w1 B r v1 bs1 w') :
 Calls P f args w1 fun e w'=>e=X/\WOn w B r v bs1 w':=by
 obtain ⟨⟨v1,h1,h2⟩,h3⟩:=h
 exact (k v1 h1).mono fun _ _ ⟨a,b⟩=>⟨a,WOn.on h3 h2 b⟩
theorem WOn.upd2 {w w1:World} {B r:Nat} {v:Value} {bs bs1:List UInt8} (h:WtrV w B r v bs) (h1:WOn w B r v bs1 w1):Upd (fun b=>B<=b) w w1 :=
 h1.upd.mono fun b _ hb=>by
  rcases hb with rfl | hb
  · exact h.1
  exact (h.2.2.lt b hb).1
theorem WtrV.ne {w:World} {B r g:Nat} {v:Value} {bs:List UInt8} {t:TypeId} {cs:Array Value} (h:WtrV w B r v bs) (hb:Blk w g t cs) (h1:t≠173) (h2:5≠t):¬ (g=r\/v.ownBlock=some g):=by
 rintro (rfl | e)
 · have h3:=h.2.1
   unfold Blk at hb h3
   rw [hb] at h3
   injection h3 with h3
   injection h3 with _ h3 _
   exact h1 h3
 exact hb.ne_own h.2.2 h2 e
theorem wstrV {w:World} {B r:Nat} {v:Value} {bs:List UInt8} (h:WtrV w B r v bs) (s:ByteArray) (hl:bs.length+s.size<=140737488355328) :
 Calls Tryz.prog 155 #[.pointer (some ⟨r,0,none⟩),.string s] w fun e w'=>e=.returned (.tuple #[])/\WOn w B r v (bs++s.data.toList) w':=by
 obtain ⟨hB,hb,ho⟩:=h
 have hlt:=hb.lt
 have hne:v.ownBlock≠some r:=hb.ne_own ho (by decide)
 have h0:=hb.cell 0
 simp only [List.getElem?_toArray,List.getElem?_cons_zero] at h0
 go_enter Tryz.func155,Tryz.ntmps155
 go_wp2_with (at_builtin;go_must (refine Zag rfl (.tmp 8) (.tmp 9) _ _ rfl B _ _ _ _ Tryz.underlying28 ZaR rfl v _ _ rfl ho rfl (Src.ofString w Tryz.underlying9 s) (by unfold maxLen;omega) (by omega) (by omega) ?_);intro v' w1 hg;obtain ⟨A,m,c,rfl⟩:=Zav hg.own;have f1:w1.frozen? ⟨r,0,none⟩=false:=(hg.blk hb hne).frozen 0;have h1:w1.cell? ⟨r,0,none⟩=some v:=(hg.blk hb hne).cell 0)
 go_end0
 have hb1:=hg.blk hb hne
 have hne':(Value.slice A m c).ownBlock≠some r:=hb1.ne_own hg.own (by decide)
 refine ⟨rfl,⟨_,⟨hB,hb1.put 0 _,?_⟩,hg.block⟩,(hg.upd.mono fun b _ hv=>.inr hv).put (.inl rfl) _⟩
 have h2:=Zam hg.own ((Upd.refl (fun b=>b=r) w1).put1 (i:=0) (.slice A m c)) fun g hgg hgr=>hne' (hgr ▸ hgg)
 unfold OwnB
 rw [List.length_append,Zbd,List.map_append]
 exact h2
theorem ZfX {w:World} {B r:Nat} {v:Value} {bs:List UInt8} (h:WtrV w B r v bs) (width n:Nat) (hw:Zao width=true) (hl:bs.length+8<=140737488355328) :
 Calls Tryz.prog 78 #[.pointer (some ⟨r,0,none⟩),.int .i64 width,.int .u64 n] w fun e w'=>e=.returned (.tuple #[])/\WOn w B r v (bs++beb width n) w':=wnumV h width n hw (by omega) hl
theorem Ziq {w:World} {B r:Nat} {v:Value} {bs:List UInt8} (h:WtrV w B r v bs) (s:ByteArray) (hs:s.size<=255) (hl:bs.length<=70368744177664) :
 Calls Tryz.prog 115 #[.pointer (some ⟨r,0,none⟩),.string s] w fun e w'=>e=.returned (.tuple #[])/\WOn w B r v (bs++Zap s) w':=by
 have HW:=qH h
 clear h
 go_enter Tryz.func115,Tryz.ntmps115
 go_wp2_with fail
 refine (ZfX HW.out 1 s.size (by decide) (by omega)).mono ?_
 rintro e w1 ⟨rfl,⟨⟨v1,hw,ho⟩,hu⟩⟩
 have HO:=qH ho
 clear ho
 go_wp2_with fail
 refine (wstrV hw s ?_).mono ?_
 · rw [List.length_append,Zab];omega
 rintro e w2 ⟨rfl,hw2⟩
 go_wp2
 go_end0
 refine ⟨rfl,?_⟩
 have h1:=WOn.on hu HO.out hw2
 unfold Zap
 rw [List.append_assoc] at h1
 exact h1
theorem ZdF {α:Type} (f:α->List UInt8) (l:List α) (k:Nat):((l.take k).flatMap f).length<=(l.flatMap f).length:=by
 conv=>rhs;rw [<- List.take_append_drop k l]
 rw [List.flatMap_append,List.length_append]
 omega
theorem Zee {α β:Type} (f:α->β) (e:β->List UInt8) {l:List α} {k:Nat} {x:α} (h:l[k]?=some x):((l.take (k+1)).map f).flatMap e=((l.take k).map f).flatMap e++e (f x):=by
 rw [List.take_add_one,h]
 simp
theorem ZgU {α β:Type} (f:α->β) (e:β->List UInt8) (l:List α) (k:Nat):(((l.take k).map f).flatMap e).length<=((l.map f).flatMap e).length:=by
 rw [List.map_take]
 exact ZdF e _ k
theorem Zjy {F:Nat->Prop} {B r:Nat} {v:Value} {bs:List UInt8} {A:Option Addr} {n c:Nat} {ps:List PR} {w:World} (h:WtrV w B r v bs) (hp:RdPs w F A n c ps) (hF:∀ b,F b->b<B) (hx:∀ x∈ps,x.dat.Wr) (hf:Zel ps) (hn:n<=255) (hl:bs.length+(ZbD (ps.map PR.dat)).length<=70368744177664) :
 Calls Tryz.prog 116 #[.pointer (some ⟨r,0,none⟩),.slice A n c] w fun e w'=>e=.returned (.tuple #[])/\WOn w B r v (bs++ZbD (ps.map PR.dat)) w':=by
 have HR:=qH hp
 have HX:=qH hx
 have HFi:=qH hf
 have HF:=qH hF
 have HL:=qH hp.len
 have hmx:=hp.row.max
 have hle:=hp.row.le
 have hB:=h.1
 have hlt:=h.lt
 have hl':bs.length+1+((ps.map PR.dat).flatMap Zbj).length<=70368744177664:=by
  have e:(ZbD (ps.map PR.dat)).length=1+((ps.map PR.dat).flatMap Zbj).length:=by unfold ZbD;rw [List.length_append,Zab]
  omega
 have HLen:=qH hl'
 have HW:=qH h
 unfold maxLen at hmx
 clear h hp hx hf hF hl hl'
 go_enter Tryz.func116,Tryz.ntmps116
 go_wp2_with fail
 refine (ZfX HW.out 1 n (by decide) (by have:=HLen.out;omega)).mono ?_
 rintro e w1 ⟨rfl,hw1⟩
 have HW1:=qH hw1
 clear hw1
 go_wp2_with fail
 go_loopg [15] n (fun gh ix wr=>∃ i:Nat,n-i=gh/\i<=n/\ix=.int .i64 i/\Hid (WOn w B r v (bs++beb 1 n++((ps.take i).map PR.dat).flatMap Zbj) wr))
 case atStart=>exact ⟨0,rfl,Nat.zero_le _,rfl,qH (by simpa using HW1.out)⟩
 obtain ⟨i,rfl,hi,rfl,KW⟩:=hrel
 by_cases hlt:i<n
 · have HUr:=qH (KW.out.upd2 HW.out)
   have HRw:=qH (HR.out.upd HUr.out fun b hb hs=>by have:=HF.out b hb;omega)
   obtain ⟨b,o,x,rfl,hb,_,hxi,hxm,r0,r1,r2,r3,r4,r5⟩:=HRw.out.at_ hlt
   have HV:=qH (HRw.out.val x hxm)
   have HX1:=qH (HFi.out x hxm).1
   have HX2:=qH (HFi.out x hxm).2
   have HWr:=qH (HX.out x hxm)
   have HT:=qH (Zee PR.dat Zbj hxi)
   have HTl:=qH (ZgU PR.dat Zbj ps (i+1))
   obtain ⟨kx,⟨x0,x1,x2,x3,x4⟩,X1,a1,b1,X2,a2,b2⟩:=x
   simp only at r0 r1 r2 r3 r4 r5
   have hks:kx.size<=255:=HWr.1
   have hsz:=HUr.out.size
   have hs0:=(Upd.refl (fun _=>False) wr).alloc (.cells #[.string kx,.int .i64 x0,.int .i64 x1,.string x2,.slice X1 a1 b1,.slice X2 a2 b2] 48)
   have HB0:=qH (Blk.new wr 48 #[.string kx,.int .i64 x0,.int .i64 x1,.string x2,.slice X1 a1 b1,.slice X2 a2 b2])
   have HV0:=qH (HV.out.same hs0)
   have HW0:Hid (WOn w B r v (bs++beb 1 n++((ps.take i).map PR.dat).flatMap Zbj) (wr.alloc (.cells #[.string kx,.int .i64 x0,.int .i64 x1,.string x2,.slice X1 a1 b1,.slice X2 a2 b2] 48))):=qH (KW.out.same hs0)
   obtain ⟨pre,hpre⟩:∃ pre,pre=bs++beb 1 n++((ps.take i).map PR.dat).flatMap Zbj:=⟨_,rfl⟩
   have hpl:pre.length+(Zbj (PR.dat ⟨kx,⟨x0,x1,x2,x3,x4⟩,X1,a1,b1,X2,a2,b2⟩)).length<=70368744177664:=by
    have h1:=HTl.out
    have h2:=HLen.out
    rw [HT.out,List.length_append] at h1
    rw [hpre,List.length_append,List.length_append,Zab]
    omega
   have HPL:Hid (pre.length+(1+kx.size+(2+(enc ⟨x0,x1,x2,x3,x4⟩).length))<=70368744177664):=qH (by
    have e:(Zbj (PR.dat ⟨kx,⟨x0,x1,x2,x3,x4⟩,X1,a1,b1,X2,a2,b2⟩)).length=1+kx.size+(2+(enc ⟨x0,x1,x2,x3,x4⟩).length):=by
     unfold Zbj PR.dat
     rw [List.length_append,List.length_append,Zbn,Zab]
    omega)
   rw [<- hpre] at HW0
   have HE:Hid (pre++Zap kx++beb 2 (enc ⟨x0,x1,x2,x3,x4⟩).length++enc ⟨x0,x1,x2,x3,x4⟩=bs++beb 1 n++((ps.take (i+1)).map PR.dat).flatMap Zbj):=qH (by
    rw [HT.out,hpre]
    unfold Zbj PR.dat
    simp only [List.append_assoc])
   clear hpre hpl hs0 hxi hxm HV KW HRw HUr
   go_wp2_with (fail)
   clear r0 r1 r2 r3 r4 r5
   generalize wr.alloc (.cells #[.string kx,.int .i64 x0,.int .i64 x1,.string x2,.slice X1 a1 b1,.slice X2 a2 b2] 48)=w5 at *
   generalize wr.heap.size=g5 at *
   obtain ⟨⟨v5,hW5,hO5⟩,hU5⟩:=HW0.out
   have HW5:=qH hW5
   have HO5:=qH hO5
   have HU5:=qH hU5
   clear hW5 hO5 hU5 HW0
   refine (Ziq HW5.out kx hks (by have:=HPL.out;omega)).mono ?_
   rintro e w6 ⟨rfl,hw6⟩
   have HB6:=qH (HB0.out.upd hw6.upd (HW5.out.ne HB0.out (by decide) (by decide)))
   have HV6:=qH (HV0.out.upd (hw6.upd2 HW5.out) fun b hb hs=>by have:=HF.out b hb;omega)
   have HW6:=qH (WOn.on HU5.out HO5.out hw6)
   clear hw6 HB0 HV0 HU5 HO5 HW5
   have p1:w6.cell? ⟨g5,1,none⟩=some (.int .i64 x0):=HB6.out.cell 1
   have p2:w6.cell? ⟨g5,2,none⟩=some (.int .i64 x1):=HB6.out.cell 2
   have p3:w6.cell? ⟨g5,3,none⟩=some (.string x2):=HB6.out.cell 3
   have p4:w6.cell? ⟨g5,4,none⟩=some (.slice X1 a1 b1):=HB6.out.cell 4
   have p5:w6.cell? ⟨g5,5,none⟩=some (.slice X2 a2 b2):=HB6.out.cell 5
   go_wp2_with fail
   refine (Zgs w6 HV6.out HX1.out HX2.out).mono ?_
   rintro e w7 ⟨v7,rfl,hO7,hs7⟩
   clear p1 p2 p3 p4 p5 HB6 HV6
   obtain ⟨A7,c7,rfl⟩:=Zac hO7
   have hEl:(enc ⟨x0,x1,x2,x3,x4⟩).length<=65535:=HWr.2.2.2
   obtain ⟨E,hE⟩:∃ E,enc ⟨x0,x1,x2,x3,x4⟩=E:=⟨_,rfl⟩
   rw [hE] at hO7 HPL HE hEl ⊢
   have HO7:=qH ((ZaG hO7).mono (F':=fun b=>w6.heap.size<=b) fun b _ hb=>hb.2)
   obtain ⟨⟨v6,hW6,hP6⟩,hU6⟩:=HW6.out
   have HLr:=qH hW6.lt
   have HLv:=qH fun g (hg:v6.ownBlock=some g)=>(hW6.2.2.lt g hg).2
   have HW7:=qH (hW6.same hs7)
   have HP7:=qH hP6
   have HU7:=qH (hU6.same hs7)
   clear hO7 hW6 hP6 hU6 hs7 HW6 hE
   have HN:=qH fun b (hb:w6.heap.size<=b) (hs:b=r\/v6.ownBlock=some b)=>(show False by
    rcases hs with rfl | hs
    · have:=HLr.out;omega
    have:=HLv.out b hs;omega)
   go_wp2_with fail
   refine (ZfX HW7.out 2 E.length (by decide) (by have:=HPL.out;rw [List.length_append,Zbn];omega)).mono ?_
   rintro e w8 ⟨rfl,hw8⟩
   have HO8:=qH (HO7.out.upd hw8.upd HN.out)
   obtain ⟨⟨v8,hW8,hP8⟩,hU8⟩:=WOn.on HU7.out HP7.out hw8
   have HW8:=qH hW8
   have HP8:=qH hP8
   have HU8:=qH hU8
   clear hw8 hW8 hP8 hU8 HW7 HP7 HU7 HO7
   go_wp2_with fail
   refine (wrawV HW8.out HO8.out (by have:=HPL.out;rw [List.length_append,List.length_append,Zbn,Zab];omega)).mono ?_
   rintro e w9 ⟨rfl,hw9⟩
   have HW9:=qH (WOn.on HU8.out HP8.out hw9)
   clear hw9
   go_wp2
   go_roundg (n-(i+1))
   case measure=>omega
   case rel=>exact ⟨i+1,rfl,by omega,by go_num,qH (by rw [<- HE.out];exact HW9.out)⟩
 obtain rfl:i=n:=by omega
 go_wp2
 go_end0
 refine ⟨rfl,?_⟩
 have h1:=KW.out
 rw [List.take_of_length_le (by rw [HL.out];exact Nat.le_refl _),List.append_assoc] at h1
 unfold ZbD
 rw [List.length_map,HL.out]
 exact h1
theorem ZfJ {n:Int} (h:Id32 n):∃ m:Nat,n=(m:Int)/\u64 n=m/\m<4294967296:=by
 obtain ⟨h1,h2⟩:=ZeD h
 exact ⟨u64 n,h2.symm,rfl,h1⟩
theorem Zir {F:Nat->Prop} (w:World) (x:ND) (hlab:WRow w F 1 x.AL x.nL x.cL (x.labels.map Value.string)) (hp:RdPs w F x.AP x.nP x.cP x.props) (hw:x.dat.Wr) (hf:Zel x.props) (hl:(Zbr x.dat).length<=1048576) :
 Calls Tryz.prog 75 #[x.agg] w fun e w'=>∃ v,e=.returned v/\Hid (OwnB w' w.heap.size v (Zbr x.dat))/\Same w w':=by
 obtain ⟨id,lab,AL,nL,cL,ps,AP,nP,cP⟩:=x
 simp only at hlab hp hf
 obtain ⟨m,rfl,hm,hm32⟩:=ZfJ hw.id
 replace hm:u64 (m:Int)=m:=hm
 have hn1:lab.length=nL:=by have:=hlab.len;simpa using this
 have hn2:=hp.len
 have hLL:nL<=255:=by have:=hw.n;rw [<- hn1];exact this
 have hPP:nP<=255:=by have:=hw.np;rw [<- hn2];simpa [ND.dat] using this
 have HE:Hid (Zbr (ND.dat ⟨(m:Int),lab,AL,nL,cL,ps,AP,nP,cP⟩)=beb 4 m++beb 1 nL++lab.flatMap Zap++ZbD (ps.map PR.dat)):=qH (by
  unfold Zbr ND.dat
  simp only [hm,hn1,List.append_assoc])
 have HLab:=qH hw.lab
 have HPW:=qH (show ∀ y∈ps,y.dat.Wr from fun y hy=>hw.pr _ (List.mem_map_of_mem hy))
 rw [HE.out] at hl ⊢
 have HLen:Hid (5+(lab.flatMap Zap).length+(ZbD (ps.map PR.dat)).length<=1048576):=qH (by
  simp only [List.length_append,Zab] at hl
  omega)
 have HN1:=qH hn1
 have hs0:=(Upd.refl (fun _=>False) w).alloc (.cells #[.int .i64 (m:Int),.slice AL nL cL,.slice AP nP cP] 43)
 have HB0:=qH (Blk.new w 43 #[.int .i64 (m:Int),.slice AL nL cL,.slice AP nP cP])
 have HR0:=qH ((hlab.mono (F':=fun b=>b<w.heap.size) fun b h _=>h).same hs0)
 have HP0:=qH ((hp.mono (F':=fun b=>b<w.heap.size) fun b h _=>h).same hs0)
 have HFi:=qH hf
 have HS0:=qH hs0
 have HZ0:=qH (show w.heap.size<(w.alloc (.cells #[.int .i64 (m:Int),.slice AL nL cL,.slice AP nP cP] 43)).heap.size by rw [World.size_alloc];omega)
 clear hlab hp hw hf hl hm hs0 hn1 hn2
 go_enter Tryz.func75,Tryz.ntmps75
 go_wp2_with fail
 generalize w.alloc (.cells #[.int .i64 (m:Int),.slice AL nL cL,.slice AP nP cP] 43)=w1 at *
 generalize hg:w.heap.size=g at *
 refine (ZbK w1).mono ?_
 rintro e w2 ⟨r,rfl,hw2,hs2⟩
 obtain ⟨v2,hv2⟩:=hw2.open
 have HV2:=qH hv2
 have HS2:=qH (HS0.out.same hs2)
 have HB2:=qH (HB0.out.same hs2)
 have HR2:=qH (HR0.out.same hs2)
 have HP2:=qH (HP0.out.same hs2)
 have HO2:=qH (WOn.of hv2)
 have HZ2:=qH hs2.size
 have HUB:=qH fun (bs:List UInt8) (wx:World) (h:WOn w2 w1.heap.size r v2 bs wx)=>HB2.out.upd (h.upd2 HV2.out) (by have:=HZ0.out;omega)
 clear hw2 hs2 hv2 HB0 HR0 HP0
 have c0:=HB2.out.cell 0
 go_wp2_with fail
 refine (HO2.out.call fun v3 h3=>ZfX h3 4 m (by decide) (by simp)).mono ?_
 rintro e w3 ⟨rfl,hw3⟩
 have HO3:=qH hw3
 have c1:w3.cell? ⟨g,1,none⟩=some (.slice AL nL cL):=(HUB.out _ _ hw3).cell 1
 clear c0 hw3 HO2
 go_wp2_with fail
 refine (HO3.out.call fun v3 h3=>ZfX h3 1 nL (by decide) (by simp [Zab])).mono ?_
 rintro e w4 ⟨rfl,hw4⟩
 have HO4:Hid (WOn w2 w1.heap.size r v2 (beb 4 m++beb 1 nL) w4):=qH hw4
 clear c1 hw4 HO3
 have c1:w4.cell? ⟨g,1,none⟩=some (.slice AL nL cL):=(HUB.out _ _ HO4.out).cell 1
 have hmx:=HR2.out.max
 have hle:=HR2.out.le
 unfold maxLen at hmx
 go_wp2_with fail
 clear c1
 go_loopg [21] nL (fun gh ix wr=>∃ i:Nat,nL-i=gh/\i<=nL/\ix=.int .i64 i/\Hid (WOn w2 w1.heap.size r v2 (beb 4 m++beb 1 nL++(lab.take i).flatMap Zap) wr))
 case atStart=>exact ⟨0,rfl,Nat.zero_le _,rfl,qH (by simpa using HO4.out)⟩
 obtain ⟨i,rfl,hi,rfl,KW⟩:=hrel
 by_cases hlt:i<nL
 · obtain ⟨b,o,u,rfl,hbl,hbF,hu,hc⟩:=(HR2.out.upd (KW.out.upd2 HV2.out) fun b hb hs=>by have:=HZ0.out;omega).at_ hlt
   have hkl:i<lab.length:=by rw [HN1.out];exact hlt
   simp only [List.getElem?_map,List.getElem?_eq_getElem hkl,Option.map_some,Option.some.injEq] at hu
   subst hu
   have HT:=qH (ZaV Zap lab i hkl)
   have HSz:=qH (HLab.out lab[i] (List.getElem_mem hkl))
   have HLt:=qH (ZdF Zap lab i)
   generalize lab[i]=s at *
   go_wp2_with fail
   refine (KW.out.call fun v3 h3=>Ziq h3 s HSz.out (by
    have h1:=HLt.out
    have h2:=HLen.out
    rw [List.length_append,List.length_append,Zab,Zab]
    omega)).mono ?_
   rintro e w5 ⟨rfl,hw5⟩
   have HO5:=qH hw5
   clear hw5
   go_wp2
   go_roundg (nL-(i+1))
   case measure=>omega
   case rel=>exact ⟨i+1,rfl,by omega,by go_num,qH (by rw [HT.out,<-List.append_assoc];exact HO5.out)⟩
 obtain rfl:i=nL:=by omega
 have HO5:Hid (WOn w2 w1.heap.size r v2 (beb 4 m++beb 1 i++lab.flatMap Zap) wr):=qH (by
  have h1:=KW.out
  rwa [List.take_of_length_le (by rw [HN1.out];exact Nat.le_refl _)] at h1)
 have c2:wr.cell? ⟨g,2,none⟩=some (.slice AP nP cP):=(HUB.out _ _ KW.out).cell 2
 have HPr:=qH (HP2.out.upd (KW.out.upd2 HV2.out) fun b hb hs=>by have:=HZ0.out;omega)
 clear KW
 go_wp2_with fail
 refine (HO5.out.call fun v3 h3=>Zjy h3 HPr.out (fun b hb=>by have:=HZ0.out;omega) HPW.out HFi.out hPP (by
  have h2:=HLen.out
  rw [List.length_append,List.length_append,Zab,Zab]
  omega)).mono ?_
 rintro e w6 ⟨rfl,hw6⟩
 have HO6:=qH hw6
 clear c2 hw6
 obtain ⟨⟨v6,hW6,-⟩,hU6⟩:=HO6.out
 go_wp2_with fail
 refine (ZbB hW6.wtr (by
  have h2:=HLen.out
  rw [List.length_append,List.length_append,List.length_append,Zab,Zab]
  omega)).mono ?_
 rintro e w7 ⟨v7,rfl,hO7,hs7⟩
 have hz6:=hU6.size
 have hz2:=HZ2.out
 have hz0:=HZ0.out
 have hS:Same w w7:=HS2.out.trans ((HO6.out.upd2 HV2.out).same hs7) fun k hk hs=>by omega
 have HO7:=qH (Zad (base':=w.heap.size) hO7 (by omega))
 have HS7:=qH hS
 clear hO7 hs7 hW6 hU6 hS
 go_wp2
 go_ret
 exact ⟨_,rfl,qH (by rw [<- hg];exact HO7.out),HS7.out⟩
theorem Zjz {F:Nat->Prop} (w:World) (x:RL) (hp:RdPs w F x.AP x.nP x.cP x.props) (hw:x.dat.Wr) (hf:Zel x.props) (hl:(Zbx x.dat).length<=1048576) :
 Calls Tryz.prog 76 #[x.agg] w fun e w'=>∃ v,e=.returned v/\Hid (OwnB w' w.heap.size v (Zbx x.dat))/\Same w w':=by
 obtain ⟨id,ty,src,dst,ps,AP,nP,cP⟩:=x
 simp only at hp hf
 obtain ⟨m,rfl,hm,hm32⟩:=ZfJ hw.id
 obtain ⟨m1,rfl,hm1,hm132⟩:=ZfJ (show Id32 src from hw.src)
 obtain ⟨m2,rfl,hm2,hm232⟩:=ZfJ (show Id32 dst from hw.dst)
 have hn2:=hp.len
 replace hm:u64 (m:Int)=m:=hm
 have hPP:nP<=255:=by have:=hw.np;rw [<- hn2];simpa [RL.dat] using this
 have hty:ty.size<=255:=hw.type
 have HE:Hid (Zbx (RL.dat ⟨(m:Int),ty,(m1:Int),(m2:Int),ps,AP,nP,cP⟩)=beb 4 m++beb 4 m1++beb 4 m2++Zap ty++ZbD (ps.map PR.dat)):=qH (by
  unfold Zbx RL.dat
  simp only [hm,hm1,hm2,List.append_assoc])
 have HPW:=qH (show ∀ y∈ps,y.dat.Wr from fun y hy=>hw.pr _ (List.mem_map_of_mem hy))
 rw [HE.out] at hl ⊢
 have HLen:Hid (12+(Zap ty).length+(ZbD (ps.map PR.dat)).length<=1048576):=qH (by
  simp only [List.length_append,Zab] at hl
  omega)
 have hs0:=(Upd.refl (fun _=>False) w).alloc (.cells #[.int .i64 (m:Int),.string ty,.int .i64 (m1:Int),.int .i64 (m2:Int),.slice AP nP cP] 50)
 have HB0:=qH (Blk.new w 50 #[.int .i64 (m:Int),.string ty,.int .i64 (m1:Int),.int .i64 (m2:Int),.slice AP nP cP])
 have HP0:=qH ((hp.mono (F':=fun b=>b<w.heap.size) fun b h _=>h).same hs0)
 have HFi:=qH hf
 have HS0:=qH hs0
 have HZ0:=qH (show w.heap.size<(w.alloc (.cells #[.int .i64 (m:Int),.string ty,.int .i64 (m1:Int),.int .i64 (m2:Int),.slice AP nP cP] 50)).heap.size by rw [World.size_alloc];omega)
 clear hp hw hf hl hm hm1 hm2 hs0 hn2
 go_enter Tryz.func76,Tryz.ntmps76
 go_wp2_with fail
 generalize w.alloc (.cells #[.int .i64 (m:Int),.string ty,.int .i64 (m1:Int),.int .i64 (m2:Int),.slice AP nP cP] 50)=w1 at *
 generalize hg:w.heap.size=g at *
 refine (ZbK w1).mono ?_
 rintro e w2 ⟨r,rfl,hw2,hs2⟩
 obtain ⟨v2,hv2⟩:=hw2.open
 have HV2:=qH hv2
 have HS2:=qH (HS0.out.same hs2)
 have HB2:=qH (HB0.out.same hs2)
 have HP2:=qH (HP0.out.same hs2)
 have HO2:=qH (WOn.of hv2)
 have HZ2:=qH hs2.size
 have HUB:=qH fun (bs:List UInt8) (wx:World) (h:WOn w2 w1.heap.size r v2 bs wx)=>HB2.out.upd (h.upd2 HV2.out) (by have:=HZ0.out;omega)
 clear hw2 hs2 hv2 HB0 HP0
 have c0:=HB2.out.cell 0
 go_wp2_with fail
 refine (HO2.out.call fun v3 h3=>ZfX h3 4 m (by decide) (by simp)).mono ?_
 rintro e w3 ⟨rfl,hw3⟩
 have HO3:=qH hw3
 have c2:w3.cell? ⟨g,2,none⟩=some (.int .i64 (m1:Int)):=(HUB.out _ _ hw3).cell 2
 clear c0 hw3 HO2
 go_wp2_with fail
 refine (HO3.out.call fun v3 h3=>ZfX h3 4 m1 (by decide) (by simp [Zab])).mono ?_
 rintro e w4 ⟨rfl,hw4⟩
 have HO4:=qH hw4
 have c3:w4.cell? ⟨g,3,none⟩=some (.int .i64 (m2:Int)):=(HUB.out _ _ hw4).cell 3
 clear c2 hw4 HO3
 go_wp2_with fail
 refine (HO4.out.call fun v3 h3=>ZfX h3 4 m2 (by decide) (by simp [Zab])).mono ?_
 rintro e w5 ⟨rfl,hw5⟩
 have HO5:=qH hw5
 have c1:w5.cell? ⟨g,1,none⟩=some (.string ty):=(HUB.out _ _ hw5).cell 1
 clear c3 hw5 HO4
 go_wp2_with fail
 refine (HO5.out.call fun v3 h3=>Ziq h3 ty hty (by simp [Zab])).mono ?_
 rintro e w6 ⟨rfl,hw6⟩
 have HO6:Hid (WOn w2 w1.heap.size r v2 (beb 4 m++beb 4 m1++beb 4 m2++Zap ty) w6):=qH hw6
 have c4:w6.cell? ⟨g,4,none⟩=some (.slice AP nP cP):=(HUB.out _ _ hw6).cell 4
 have HPr:=qH (HP2.out.upd (hw6.upd2 HV2.out) fun b hb hs=>by have:=HZ0.out;omega)
 clear c1 hw6 HO5
 go_wp2_with fail
 refine (HO6.out.call fun v3 h3=>Zjy h3 HPr.out (fun b hb=>by have:=HZ0.out;omega) HPW.out HFi.out hPP (by
  have h2:=HLen.out
  rw [List.length_append,List.length_append,List.length_append,Zab,Zab,Zab]
  omega)).mono ?_
 rintro e w7 ⟨rfl,hw7⟩
 have HO7:=qH hw7
 clear c4 hw7
 obtain ⟨⟨v7,hW7,-⟩,hU7⟩:=HO7.out
 go_wp2_with fail
 refine (ZbB hW7.wtr (by
  have h2:=HLen.out
  rw [List.length_append,List.length_append,List.length_append,List.length_append,Zab,Zab,Zab]
  omega)).mono ?_
 rintro e w8 ⟨v8,rfl,hO8,hs8⟩
 have hz6:=hU7.size
 have hz2:=HZ2.out
 have hz0:=HZ0.out
 have hS:Same w w8:=HS2.out.trans ((HO7.out.upd2 HV2.out).same hs8) fun k hk hs=>by omega
 have HO8:=qH (Zad (base':=w.heap.size) hO8 (by omega))
 have HS8:=qH hS
 clear hO8 hs8 hW7 hU7 hS
 go_wp2
 go_ret
 exact ⟨_,rfl,qH (by rw [<- hg];exact HO8.out),HS8.out⟩
theorem ZlL (g:GR):g.dat.wt=wsum (g.ns.flatMap ND.props)+wsum (g.rs.flatMap RL.props):=by
 have h1:∀ l:List ND,psW ((l.map ND.dat).flatMap ZaO.props)=wsum (l.flatMap ND.props):=fun l=>by
  induction l with
  | nil=>rfl
  | cons x l ih =>
    rw [List.map_cons,List.flatMap_cons,Zdc,ih,List.flatMap_cons]
    unfold wsum
    rw [List.map_append,List.sum_append]
    congr 1
    unfold psW ND.dat
    simp only [List.map_map]
    rfl
 have h2:∀ l:List RL,psW ((l.map RL.dat).flatMap GRel.props)=wsum (l.flatMap RL.props):=fun l=>by
  induction l with
  | nil=>rfl
  | cons x l ih =>
    rw [List.map_cons,List.flatMap_cons,Zdc,ih,List.flatMap_cons]
    unfold wsum
    rw [List.map_append,List.sum_append]
    congr 1
    unfold psW RL.dat
    simp only [List.map_map]
    rfl
 unfold Zak.wt GR.dat
 rw [h1,h2]
end Go.Proofs.YtkopcinhbjimiaaGreatDoor
