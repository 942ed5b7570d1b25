/-
  Tokens of the little language, in plain Lean: what a text is cut into, or its first fault.
-/
import Derived.Test.YthdkmhaneellcaaGreatDoorS61
namespace Go.Proofs.YthdkmhaneellcaaGreatDoor
open Go.RowKit
set_option linter.unusedSimpArgs false
set_option linter.unusedVariables false

def letterN (n : Int) : Bool := (decide (97 ≤ n) && decide (n ≤ 122)) || decide (n = 95)
def digitN (n : Int) : Bool := decide (48 ≤ n) && decide (n ≤ 57)
def blankN (n : Int) : Bool := decide (n = 32) || decide (n = 9) || decide (n = 13) || decide (n = 10)
def standsN (n : Int) : Bool := blankN n || (decide (32 ≤ n) && decide (n ≤ 126))
def wordN (n : Int) : Bool := letterN n || digitN n
/-- Over blanks and notes: where it ends, whether a byte there cannot stand; fuel: what is left. -/
def skipF (s : ByteArray) : Nat → Bool → Nat → Nat × Bool
  | 0, _, i => (i, false)
  | k + 1, note, i =>
    if standsN (bt s i) = false then (i, true)
    else if note = true then skipF s k (!decide (bt s i = 10)) (i + 1)
    else if blankN (bt s i) = true then skipF s k false (i + 1)
    else if i + 1 < s.size ∧ bt s i = 47 ∧ bt s (i + 1) = 47 then skipF s k true (i + 1)
    else (i, false)
def skipS (s : ByteArray) (note : Bool) (i : Nat) : Nat × Bool := skipF s (s.size - i) note i
/-- Where bytes of a kind end. -/
def runF (p : Int → Bool) (s : ByteArray) : Nat → Nat → Nat
  | 0, i => i
  | k + 1, i => if p (bt s i) = true then runF p s k (i + 1) else i
def runS (p : Int → Bool) (s : ByteArray) (i : Nat) : Nat := runF p s (s.size - i) i
section
variable {s : ByteArray} {i : Nat} {note : Bool} {p : Int → Bool}
theorem skipS_end (h : s.size ≤ i) : skipS s note i = (i, false) := by unfold skipS; rw [Nat.sub_eq_zero_of_le h]; rfl
theorem skipS_eq (h : i < s.size) : skipS s note i = if standsN (bt s i) = false then (i, true)
    else if note = true then skipS s (!decide (bt s i = 10)) (i + 1)
    else if blankN (bt s i) = true then skipS s false (i + 1)
    else if i + 1 < s.size ∧ bt s i = 47 ∧ bt s (i + 1) = 47 then skipS s true (i + 1)
    else (i, false) := by
  unfold skipS
  rw [show s.size - i = (s.size - (i + 1)) + 1 by omega]
  rfl
theorem runS_end (h : s.size ≤ i) : runS p s i = i := by unfold runS; rw [Nat.sub_eq_zero_of_le h]; rfl
theorem runS_eq (h : i < s.size) : runS p s i = if p (bt s i) = true then runS p s (i + 1) else i := by
  unfold runS
  rw [show s.size - i = (s.size - (i + 1)) + 1 by omega]
  rfl
theorem skipF_ge : ∀ (k : Nat) (note : Bool) (i : Nat), i ≤ (skipF s k note i).1 ∧ (skipF s k note i).1 ≤ i + k
  | 0, _, i => ⟨Nat.le_refl _, Nat.le_refl _⟩
  | k + 1, note, i => by
    unfold skipF
    split
    · exact ⟨Nat.le_refl _, by show i ≤ _; omega⟩
    · split
      · have := skipF_ge k (!decide (bt s i = 10)) (i + 1); omega
      · split
        · have := skipF_ge k false (i + 1); omega
        · split
          · have := skipF_ge k true (i + 1); omega
          · exact ⟨Nat.le_refl _, by show i ≤ _; omega⟩
theorem skipS_ge (h : i ≤ s.size) : i ≤ (skipS s note i).1 ∧ (skipS s note i).1 ≤ s.size := by
  have := skipF_ge (s := s) (s.size - i) note i
  unfold skipS; omega
theorem runF_ge : ∀ (k i : Nat), i ≤ runF p s k i ∧ runF p s k i ≤ i + k
  | 0, i => ⟨Nat.le_refl _, Nat.le_refl _⟩
  | k + 1, i => by
    unfold runF
    split
    · have := runF_ge k (i + 1); omega
    · exact ⟨Nat.le_refl _, by omega⟩
theorem runS_ge (h : i ≤ s.size) : i ≤ runS p s i ∧ runS p s i ≤ s.size := by
  have := runF_ge (p := p) (s := s) (s.size - i) i
  unfold runS; omega
/-- At a note's end. -/
theorem skip_nl (h : i < s.size) (hn : bt s i = 10) : skipS s true i = skipS s false i := by
  rw [skipS_eq h, skipS_eq h, hn]
  rfl
end
/-- The words. -/
def wordL : List ByteArray := [⟨#[105, 110, 116]⟩, ⟨#[108, 111, 99, 107]⟩, ⟨#[117, 110, 108, 111, 99, 107]⟩, ⟨#[116, 104, 114, 101, 97, 100]⟩, ⟨#[105, 102]⟩, ⟨#[101, 108, 115, 101]⟩, ⟨#[119, 104, 105, 108, 101]⟩, ⟨#[112, 114, 105, 110, 116]⟩, ⟨#[102, 101, 110, 99, 101]⟩, ⟨#[99, 97, 115]⟩]
def isWord (t : ByteArray) : Bool := wordL.any fun x => decide (x = t)
/-- The signs, the longer ones first. -/
def signL : List ByteArray := [⟨#[60, 61]⟩, ⟨#[62, 61]⟩, ⟨#[61, 61]⟩, ⟨#[33, 61]⟩, ⟨#[38, 38]⟩, ⟨#[124, 124]⟩, ⟨#[43]⟩, ⟨#[45]⟩, ⟨#[42]⟩, ⟨#[60]⟩, ⟨#[62]⟩, ⟨#[33]⟩, ⟨#[40]⟩, ⟨#[41]⟩, ⟨#[123]⟩, ⟨#[125]⟩, ⟨#[59]⟩, ⟨#[44]⟩, ⟨#[61]⟩]
/-- How long the sign at a byte is; 0: there is none. -/
def signN (s : ByteArray) (i : Nat) : Nat :=
  if i + 1 < s.size ∧ ((bt s i = 60 ∧ bt s (i + 1) = 61) ∨ (bt s i = 62 ∧ bt s (i + 1) = 61) ∨ (bt s i = 61 ∧ bt s (i + 1) = 61) ∨ (bt s i = 33 ∧ bt s (i + 1) = 61) ∨ (bt s i = 38 ∧ bt s (i + 1) = 38) ∨ (bt s i = 124 ∧ bt s (i + 1) = 124)) then 2
  else if bt s i ∈ ([43, 45, 42, 60, 62, 33, 40, 41, 123, 125, 59, 44, 61] : List Int) then 1 else 0
/-- The number that digits tell. -/
def numF (s : ByteArray) (i : Nat) : Nat → Int
  | 0 => 0
  | k + 1 => 10 * numF s i k + (bt s (i + k) - 48)
/-- The token at a byte, where it ends; or its fault. -/
def oneF (s : ByteArray) (i : Nat) : Option (Tok × Nat) :=
  if letterN (bt s i) = true then
    let e := runS wordN s i
    if isWord (s.extract i e) = true then some (⟨2, 0, i, s.extract i e⟩, e) else if 12 < e - i then none else some (⟨1, 0, i, s.extract i e⟩, e)
  else if digitN (bt s i) = true then
    let e := runS digitN s i
    if 9 < e - i ∨ (1 < e - i ∧ bt s i = 48) then none else some (⟨3, numF s i (e - i), i, s.extract i e⟩, e)
  else if signN s i = 0 then none else some (⟨4, 0, i, s.extract i (i + signN s i)⟩, i + signN s i)
/-- All tokens from a byte on, or the first fault: its code, its place. -/
def scanF (s : ByteArray) : Nat → Nat → List Tok → List Tok × Option (Int × Nat)
  | 0, _, l => (l, none)
  | k + 1, i, l =>
    let q := skipS s false i
    if q.2 = true then (l, some (4, q.1)) else if s.size ≤ q.1 then (l, none) else
    match oneF s q.1 with
    | none => (l, some (5, q.1))
    | some (t, e) => scanF s k e (l ++ [t])
end Go.Proofs.YthdkmhaneellcaaGreatDoor
