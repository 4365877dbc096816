/- Layer 4 in plain words: what a value is, and what is wrong with it. No program here. -/
import Derived.WalkKit
namespace Go.Proofs.YtlnademnfnhbpaaGreat

/-- A value of the document. -/
structure GVal where
  kind : Int
  num : Int
  text : ByteArray
  nums : List Int
  texts : List ByteArray

/-- The 64 bits of a number. -/
def u64 (n : Int) : Nat := (n % 18446744073709551616).toNat

/-- A NaN in another form than the one. -/
def nanB (n : Int) : Bool := u64 n / 4503599627370496 % 2048 == 2047 && u64 n % 4503599627370496 != 0 && u64 n != 9221120237041090560

/-- The error of an element of the kind 1, 2 or 3. -/
def numErr (k n : Int) : Int := if k = 1 ∧ n ≠ 0 ∧ n ≠ 1 then 42 else if k = 3 ∧ nanB n = true then 43 else 0

/-- An unused field is not zero or not empty. -/
def fieldBad (g : GVal) : Bool :=
  (g.num != 0 && decide (3 < g.kind)) || (g.text.size != 0 && g.kind != 4) || (g.nums.length != 0 && (decide (g.kind < 5) || g.kind == 8)) || (g.texts.length != 0 && g.kind != 8)

/-- The error of the first element that is wrong. -/
def numsErr (k : Int) : List Int → Int
  | [] => 0
  | n :: l => if numErr k n ≠ 0 then numErr k n else numsErr k l

/-- What is wrong first; 0: nothing. -/
def chk (g : GVal) : Int :=
  if g.kind < 1 ∨ 8 < g.kind then 40
  else if fieldBad g = true then 41
  else if 40 < g.nums.length ∨ 40 < g.texts.length then 45
  else if 1000 < g.text.size ∨ g.texts.any (fun s => decide (1000 < s.size)) = true then 44
  else if g.kind < 4 then numErr g.kind g.num
  else numsErr (g.kind - 4) g.nums

/-- n in k bytes, the greatest first. -/
def beb : Nat → Nat → List UInt8
  | 0, _ => []
  | k + 1, n => UInt8.ofNat (n / 256 ^ k) :: beb k n

/-- A number's bytes: one for a bool, else eight. -/
def encNum (k n : Int) : List UInt8 := if k = 1 then beb 1 (u64 n) else beb 8 (u64 n)
/-- A text's bytes, its length ahead. -/
def encText (s : ByteArray) : List UInt8 := beb 2 s.size ++ s.data.toList
/-- What stands behind the kind. -/
def encBody (g : GVal) : List UInt8 :=
  if g.kind < 4 then encNum g.kind g.num
  else if g.kind = 4 then encText g.text
  else beb 1 (g.nums.length + g.texts.length) ++ (g.nums.flatMap (encNum (g.kind - 4)) ++ g.texts.flatMap encText)
/-- The bytes of a right value; none of another. -/
def enc (g : GVal) : List UInt8 := if chk g = 0 then beb 1 g.kind.toNat ++ encBody g else []

/-- The number that bytes write, the greatest first. -/
def be (bs : List UInt8) : Nat := bs.foldl (fun n c => n * 256 + c.toNat) 0

/-- 64 bits read as a number with a sign. -/
def i64 (n : Nat) : Int := if n < 9223372036854775808 then n else (n : Int) - 18446744073709551616

/-- An element of the kind 1, 2 or 3. -/
def pNum (k : Int) (l : List UInt8) : Except Int (Int × List UInt8) :=
  let width := if k = 1 then 1 else 8
  if l.length < width then .error 10
  else if numErr k (i64 (be (l.take width))) ≠ 0 then .error (numErr k (i64 (be (l.take width))))
  else .ok (i64 (be (l.take width)), l.drop width)

/-- A text. -/
def pText (l : List UInt8) : Except Int (ByteArray × List UInt8) :=
  if l.length < 2 then .error 10
  else if 1000 < be (l.take 2) then .error 44
  else if (l.drop 2).length < be (l.take 2) then .error 10
  else .ok (⟨((l.drop 2).take (be (l.take 2))).toArray⟩, (l.drop 2).drop (be (l.take 2)))

/-- So many elements. -/
def pMany {α : Type} (p : List UInt8 → Except Int (α × List UInt8)) : Nat → List UInt8 → Except Int (List α × List UInt8)
  | 0, l => .ok ([], l)
  | n + 1, l => match p l with
    | .error e => .error e
    | .ok (x, r) => match pMany p n r with
      | .error e => .error e
      | .ok (xs, r') => .ok (x :: xs, r')

/-- A list of the kind k, from its number of elements on. -/
def pList (k : Int) (l : List UInt8) : Except Int (GVal × List UInt8) :=
  match l with
  | [] => .error 10
  | c :: l =>
    if 40 < c.toNat then .error 45
    else if k = 8 then match pMany pText c.toNat l with
      | .error e => .error e
      | .ok (xs, r) => .ok (⟨k, 0, ⟨#[]⟩, [], xs⟩, r)
    else match pMany (pNum (k - 4)) c.toNat l with
      | .error e => .error e
      | .ok (xs, r) => .ok (⟨k, 0, ⟨#[]⟩, xs, []⟩, r)

/-- The value at the beginning, and what stands behind it. -/
def pVal (l : List UInt8) : Except Int (GVal × List UInt8) :=
  match l with
  | [] => .error 10
  | c :: l =>
    if c.toNat < 1 ∨ 8 < c.toNat then .error 40
    else if 4 < c.toNat then pList c.toNat l
    else if c.toNat = 4 then match pText l with
      | .error e => .error e
      | .ok (s, r) => .ok (⟨4, 0, s, [], []⟩, r)
    else match pNum c.toNat l with
      | .error e => .error e
      | .ok (n, r) => .ok (⟨c.toNat, n, ⟨#[]⟩, [], []⟩, r)

def noVal : GVal := ⟨0, 0, ⟨#[]⟩, [], []⟩
/-- The value, the number of its bytes, the error. -/
def decP (l : List UInt8) : GVal × Nat × Int :=
  match pVal l with
  | .error e => (noVal, 0, e)
  | .ok (g, r) => (g, l.length - r.length, 0)
/-- The value that l is. -/
def decV (l : List UInt8) : GVal × Int :=
  match pVal l with
  | .error e => (noVal, e)
  | .ok (g, []) => (g, 0)
  | .ok (_, _ :: _) => (noVal, 11)

end Go.Proofs.YtlnademnfnhbpaaGreat
