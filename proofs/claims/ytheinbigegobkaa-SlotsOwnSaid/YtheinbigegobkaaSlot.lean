/- Layer 16 in plain words: properties in slots. -/
import Derived.Test.YtheinbigegobkaaRound
namespace Go.Proofs.Ytheinbigegobkaa

/-- A property: its key, its value. -/
structure GKV where
  key : Int
  val : GVal

/-- Up to whole slots. -/
def pad8 (n : Nat) : Nat := (n + 7) / 8 * 8
/-- With zeros up to n bytes. -/
def padz (l : List UInt8) (n : Nat) : List UInt8 := l ++ List.replicate (n - l.length) 0
/-- In place: the key + 1, the value's bytes, zeros up to whole slots. -/
def inl (k : Int) (d : List UInt8) : List UInt8 := padz (beb 2 (k + 1).toNat ++ d) (pad8 (2 + d.length))
/-- Beside: the key + 1, the number of bytes, the bytes. -/
def bes (k : Int) (d : List UInt8) : List UInt8 := beb 2 (k + 1).toNat ++ (beb 2 d.length ++ d)
/-- How many slots a value takes; 0: it is wrong. -/
def needP (g : GVal) : Nat := if chk g = 0 then (2 + (enc g).length + 7) / 8 else 0

/-- One property more; m: the bytes of all slots. -/
def packStep (m : Nat) (st : List UInt8 × List UInt8) (p : GKV) : List UInt8 × List UInt8 :=
  if (inl p.key (enc p.val)).length ≤ m - st.1.length then (st.1 ++ inl p.key (enc p.val), st.2) else (st.1, st.2 ++ bes p.key (enc p.val))
/-- The first error; prev: the key ahead. -/
def packErr : Int → List GKV → Int
  | _, [] => 0
  | prev, p :: l => if p.key < 0 ∨ 200 ≤ p.key then 110 else if p.key ≤ prev then 6 else if chk p.val ≠ 0 then chk p.val else packErr p.key l
/-- Slots, bytes beside, error. -/
def packP (l : List GKV) (room : Int) : List UInt8 × List UInt8 × Int :=
  if room < 0 ∨ 16 < room then ([], [], 2)
  else if 16 < l.length then ([], [], 64)
  else if packErr (-1) l ≠ 0 then ([], [], packErr (-1) l)
  else (padz (l.foldl (packStep (8 * room.toNat)) ([], [])).1 (8 * room.toNat), (l.foldl (packStep (8 * room.toNat)) ([], [])).2, 0)

/-- All zeros? -/
def zerosB (l : List UInt8) : Bool := l.all (fun c => c == 0)
/-- What stands in place. -/
def inS : Nat → List UInt8 → Option (List GKV)
  | 0, _ => some []
  | m + 1, l =>
    if l = [] then some []
    else if be (l.take 2) = 0 then (if zerosB l = true then some [] else none)
    else if 200 < be (l.take 2) ∨ (decP (l.drop 2)).2.2 ≠ 0 then none
    else if zerosB ((l.take (pad8 (2 + (decP (l.drop 2)).2.1))).drop (2 + (decP (l.drop 2)).2.1)) = true then
      (inS m (l.drop (pad8 (2 + (decP (l.drop 2)).2.1)))).map (⟨(be (l.take 2) : Int) - 1, (decP (l.drop 2)).1⟩ :: ·)
    else none
/-- What stands beside. -/
def inO : Nat → List UInt8 → Option (List GKV)
  | 0, _ => some []
  | m + 1, l =>
    if l = [] then some []
    else if l.length < 4 then none
    else if be (l.take 2) = 0 ∨ 200 < be (l.take 2) ∨ l.length < 4 + be ((l.drop 2).take 2) then none
    else if (decD (be ((l.drop 2).take 2)) (decP ((l.drop 4).take (be ((l.drop 2).take 2))))).2 ≠ 0 then none
    else (inO m (l.drop (4 + be ((l.drop 2).take 2)))).map (⟨(be (l.take 2) : Int) - 1, (decD (be ((l.drop 2).take 2)) (decP ((l.drop 4).take (be ((l.drop 2).take 2))))).1⟩ :: ·)
/-- In the order of keys, equal ones as they were. -/
def byKey (l : List GKV) : List GKV := (List.range 200).flatMap fun (k : Nat) => l.filter fun p => p.key == (k : Int)
/-- The properties, the error. -/
def unpackP (s o : List UInt8) : List GKV × Int :=
  if s.length % 8 ≠ 0 ∨ 128 < s.length then ([], 4)
  else match inS s.length s with
    | none => ([], 160)
    | some a => match inO o.length o with
      | none => ([], 161)
      | some b =>
        if 16 < a.length + b.length then ([], 64)
        else if packP (byKey (a ++ b)) (s.length / 8) = (s, o, 0) then (byKey (a ++ b), 0) else ([], 162)
end Go.Proofs.Ytheinbigegobkaa
