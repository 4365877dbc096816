/- The law's own helpers: clone, same; the card's frame. -/
import Derived.Test.YtkopcinhbjimiaaGreatDoorK40
import Derived.Test.YtkopcinhbjimiaaGreatDoorK01
set_option maxRecDepth 100000
set_option maxHeartbeats 16000000
namespace Go.Proofs.YtkopcinhbjimiaaGreatDoor
open Go.RowKit
theorem clone20_spec {F:Nat->Prop} {A:Option Addr} {n c:Nat} {bs:List UInt8} (w:World) (hb:Bytes w F A n c bs) (hn:n<=140737488355328) :
 Calls Tryz.prog 20 #[.slice A n c] w fun e w'=>∃ v',e=.returned v'/\OwnB w' w.heap.size v' bs/\Same w w':=by
 have HL:=qH hb.len
 have hmax:n<=maxLen:=by have:=Row.le hb;have:=Row.max hb;omega
 go_enter Tryz.func20,Tryz.ntmps20
 go_wp2_with (at_builtin;go_must (refine wpList_app rfl (.tmp 3) (.tmp 4) _ _ rfl w.heap.size _ _ _ _ Tryz.underlying28 info_u8 rfl _ 0 [] rfl (World.ownsRow_made w #[] 0 (Nat.le_refl _) (Nat.zero_le _) rfl) rfl (src_row Tryz.underlying28 (Row.same hb ((Upd.refl _ w).alloc _)) (u8_oneCell bs)) (by omega) (by omega) (by simp) ?_);intro v' w1 happ)
 go_ret
 refine ⟨v',rfl,?_,?_⟩
 · have:=happ.own
   unfold OwnB
   rw [HL.out]
   simpa using this
 exact ((Upd.refl _ w).alloc _).trans happ.upd fun b hb hv=>by
  have:=Option.some.inj hv
  simp only at this
  omega
theorem same20_spec {F F':Nat->Prop} {A A':Option Addr} {n c n' c':Nat} {xs ys:List UInt8} (w:World) (h:Bytes w F A n c xs) (h':Bytes w F' A' n' c' ys) {r:Bool} (hr:decide (xs=ys)=r) :
 Calls Tryz.prog 16 #[.slice A n c,.slice A' n' c'] w fun e w'=>e=.returned (.bool r)/\w=w':=by
 have k1:=conv_bytes h
 have k2:=conv_bytes h'
 have he:(xs==ys)=r:=by
  rw [<- hr]
  by_cases hx:xs=ys
  · subst hx
    rw [decide_eq_true rfl,beq_self_eq_true]
  rw [decide_eq_false hx,beq_eq_false_iff_ne]
  exact hx
 clear h h' hr
 go_enter Tryz.func16,Tryz.ntmps16
 go_wp2
 go_ret
 exact ⟨by simp,rfl⟩
theorem psized_dat {w w':World} {F F':Nat->Prop} {A A':Option Addr} {n c n' c':Nat} {ps ps':List PR} (h:RdPs w F A n c ps) (h':RdPs w' F' A' n' c' ps') (hz:PsSized n ps) (hd:ps'.map PR.dat=ps.map PR.dat):PsSized n' ps':=by
 have hl:ps'.length=ps.length:=by have:=congrArg List.length hd;simpa using this
 refine ⟨by rw [<- h'.len,hl,h.len];exact hz.n,fun x hx=>?_⟩
 have h1:x.dat∈ps'.map PR.dat:=List.mem_map_of_mem hx
 rw [hd] at h1
 obtain ⟨y,hy,he⟩:=List.mem_map.1 h1
 have hk:y.key=x.key:=congrArg GPr.key he
 have hg:y.g=x.g:=congrArg GPr.val he
 have z:=hz.each y hy
 have r:=h.val y hy
 have r':=h'.val x hx
 have e1:y.g.nums.length=y.n1:=by have:=r.nums.len;simpa using this
 have e2:y.g.texts.length=y.n2:=by have:=r.texts.len;simpa using this
 have e1':x.g.nums.length=x.n1:=by have:=r'.nums.len;simpa using this
 have e2':x.g.texts.length=x.n2:=by have:=r'.texts.len;simpa using this
 rw [hg] at e1 e2
 exact ⟨by rw [<- e1',e1];exact z.s1,by rw [<- e2',e2];exact z.s2,by rw [<- hg];exact z.s3,by rw [<- hg];exact z.s4,by rw [<- hk];exact z.s5⟩
theorem gsized_dat {w w':World} {F F':Nat->Prop} {g g':GR} (h:RdG w F g) (h':RdG w' F' g') (hz:GSized g) (hd:g'.dat=g.dat):GSized g':=by
 have hln:g'.ns.length=g.ns.length:=by have:=congrArg (fun x:GGraph=>x.nodes.length) hd;simpa [GR.dat] using this
 have hlr:g'.rs.length=g.rs.length:=by have:=congrArg (fun x:GGraph=>x.rels.length) hd;simpa [GR.dat] using this
 refine ⟨by rw [<- h'.nodes.len,hln,h.nodes.len];exact hz.nN,by rw [<- h'.rels.len,hlr,h.rels.len];exact hz.nR,fun x hx=>?_,fun x hx=>?_⟩
 · have h1:x.dat∈g'.dat.nodes:=List.mem_map_of_mem hx
   rw [hd] at h1
   obtain ⟨y,hy,he⟩:=List.mem_map.1 h1
   have hl:y.labels=x.labels:=congrArg GNode.labels he
   have hp:y.props.map PR.dat=x.props.map PR.dat:=congrArg GNode.props he
   have z:=hz.ns y hy
   have e1:y.labels.length=y.nL:=by have:=(h.nodes.lab y hy).len;simpa using this
   have e2:x.labels.length=x.nL:=by have:=(h'.nodes.lab x hx).len;simpa using this
   rw [hl] at e1
   exact ⟨by rw [<- e2,e1];exact z.nL,by rw [<- hl];exact z.lab,psized_dat (h.nodes.pro y hy) (h'.nodes.pro x hx) z.pro hp.symm⟩
 have h1:x.dat∈g'.dat.rels:=List.mem_map_of_mem hx
 rw [hd] at h1
 obtain ⟨y,hy,he⟩:=List.mem_map.1 h1
 have ht:y.type=x.type:=congrArg GRel.type he
 have hp:y.props.map PR.dat=x.props.map PR.dat:=congrArg GRel.props he
 have z:=hz.rs y hy
 exact ⟨by rw [<- ht];exact z.type,psized_dat (h.rels.pro y hy) (h'.rels.pro x hx) z.pro hp.symm⟩
theorem awr_nil {G:GGraph} (h:(chkP G).1≠0):(pcsP G).flatten=[]:=by unfold pcsP;rw [if_neg h];rfl
theorem awr_arc {G:GGraph} (h:(chkP G).1=0):(pcsP G).flatten=arcP G:=by unfold pcsP;rw [if_pos h];rfl
theorem awr_bytes {G:GGraph} {w w':World} {v:Value} (h1:(chkP G).1≠0->v=.slice none 0 0) (h2:(chkP G).1=0->Lib.FreshBytes w.heap.size w' v (arcP G)) :
 ∃ A n c,v=.slice A n c/\Bytes w' (fun b=>w.heap.size<=b) A n c (pcsP G).flatten:=by
 by_cases h0:(chkP G).1=0
 · have hl:0<(arcP G).length:=by
    rw [arcP_split,List.length_append,tailP_len]
    omega
   obtain ⟨A,c,e,hb⟩:=fresh_bytes (h2 h0) hl
   rw [awr_arc h0]
   exact ⟨A,_,c,e,hb⟩
 rw [awr_nil h0,h1 h0]
 exact ⟨none,0,0,rfl,Bytes.nil_ _ _⟩
theorem takeP_ne0 {s:PSt} {f:GFr} {e:Int} (h:takeP s f=.error e):e≠0:=by
 unfold takeP at h
 repeat' split at h
 all_goals first
  | cases h;done
  | (injection h with h;omega)
theorem takesP_ne0:∀ (fs:List GFr) (s:PSt) {e:Int},takesP fs s=.error e->e≠0
 | [],s,e,h=>by simp only [takesP] at h;cases h
 | f::fs,s,e,h=>by
   simp only [takesP] at h
   cases hx:takeP s f with
   | error e'=>rw [hx] at h;injection h with h;rw [<- h];exact takeP_ne0 hx
   | ok s1=>rw [hx] at h;exact takesP_ne0 fs s1 h
theorem fedP_ne0 {b:List UInt8} {e:Int} (h:fedP b=.error e):e≠0:=by
 unfold fedP at h
 split at h
 · injection h with h;omega
 split at h
 · cases h
 split at h
 · injection h with h;omega
 cases hx:takesP (framesP (b.drop 8)).1 ⟨0,noG,magicP⟩ with
 | error e'=>rw [hx] at h;injection h with h;rw [<- h];exact takesP_ne0 _ _ hx
 | ok s =>
   rw [hx] at h
   simp only at h
   split at h
   · split at h
     · injection h with h;omega
     cases h
   split at h
   · rename_i h9;injection h with h;rw [<- h];exact h9
   cases h
theorem readP_err {bs:List UInt8} (h:(readP bs).1≠0):(readP bs).2=noG:=by
 unfold readP at h ⊢
 cases hx:fedP bs with
 | error e=>rfl
 | ok s =>
   rw [hx] at h
   simp only at h ⊢
   unfold ansP at h ⊢
   by_cases h3:s.state≠3
   · rw [if_pos h3]
   rw [if_neg h3] at h ⊢
   by_cases h4:(chkP s.g).1≠0
   · rw [if_pos h4]
   rw [if_neg h4] at h
   exact absurd rfl h
theorem readP_ok {bs:List UInt8} (h:(readP bs).1=0):(chkP (readP bs).2).1=0/\bs=arcP (readP bs).2:=by
 unfold readP at h ⊢
 cases hx:fedP bs with
 | error e =>
   rw [hx] at h
   exact absurd h (fedP_ne0 hx)
 | ok s =>
   rw [hx] at h
   simp only at h ⊢
   unfold ansP at h ⊢
   by_cases h3:s.state≠3
   · rw [if_pos h3] at h
     cases h
   rw [if_neg h3] at h ⊢
   by_cases h4:(chkP s.g).1≠0
   · rw [if_pos h4] at h
     exact absurd h h4
   rw [if_neg h4]
   exact ⟨Decidable.not_not.1 h4,(fedP_back hx (Decidable.not_not.1 h3)).1⟩
end Go.Proofs.YtkopcinhbjimiaaGreatDoor
