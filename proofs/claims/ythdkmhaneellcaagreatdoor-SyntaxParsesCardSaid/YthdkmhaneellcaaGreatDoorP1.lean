/-
  Nodes of the little language, in plain Lean: what tokens are read as, or the first fault. Fuel bounds how deep it goes; both the program's walk and the document's say the same for all that is enough.
-/
import Derived.Test.YthdkmhaneellcaaGreatDoorQ3
namespace Go.Proofs.YthdkmhaneellcaaGreatDoor
open Go.RowKit
set_option linter.unusedSimpArgs false
set_option linter.unusedVariables false

/-- A node. -/
structure Nd where
  k : Int
  n : Int
  a : Int
  t : ByteArray
  kids : List Int
deriving DecidableEq
instance : Inhabited Nd := ⟨⟨0, 0, 0, ⟨#[]⟩, []⟩⟩
/-- A parser: where it is, how deep, its nodes. -/
structure PS where
  i : Nat
  d : Nat
  l : List Nd
instance : Inhabited PS := ⟨⟨0, 0, []⟩⟩
/-- A fault: its code, its place. -/
abbrev RsP (α : Type) := Except (Int × Int) (α × PS)
/-- Tokens and the text's end. -/
structure TE where
  T : List Tok
  e : Int
section
variable (X : TE)
def atT (i : Nat) : Int := if i < X.T.length then (nth X.T i).a else X.e
/-- Is the next token one of these words or signs? -/
def isL (i : Nat) (tx : List ByteArray) : Bool := decide (i < X.T.length) && ((decide ((nth X.T i).k = 2) || decide ((nth X.T i).k = 4)) && inS tx (nth X.T i).t)
def isT (i : Nat) (s : ByteArray) : Bool := isL X i [s]
def kindT (i : Nat) (k : Int) : Bool := decide (i < X.T.length) && decide ((nth X.T i).k = k)
def badP {α : Type} (c : Int) (s : PS) : RsP α := .error (c, atT X s.i)
def takeP (x : ByteArray) (s : PS) : RsP Int := if isT X s.i x = true then .ok ((nth X.T s.i).a, { s with i := s.i + 1 }) else badP X 5 s
def nameP (s : PS) : RsP Tok := if kindT X s.i 1 = true then .ok (nth X.T s.i, { s with i := s.i + 1 }) else badP X 5 s
def openP (x : ByteArray) (s : PS) : RsP Int :=
  if isT X s.i x = true ∧ s.d = 20 then badP X 6 s else match takeP X x s with
    | .error e => .error e
    | .ok (a, s) => .ok (a, { s with d := s.d + 1 })
def shutP (x : ByteArray) (s : PS) : RsP Int := match takeP X x s with
    | .error e => .error e
    | .ok (a, s) => .ok (a, { s with d := s.d - 1 })
def putP (n : Nd) (s : PS) : RsP Int := .ok ((s.l.length : Int), { s with l := s.l ++ [n] })
def andP {α β : Type} (r : RsP α) (f : α → PS → RsP β) : RsP β := match r with
  | .error e => .error e
  | .ok (a, s) => f a s
end
/-- How tight a sign binds; 5: it is none between. -/
def levL : List (List ByteArray) := [[⟨#[124, 124]⟩], [⟨#[38, 38]⟩], [⟨#[61, 61]⟩, ⟨#[33, 61]⟩, ⟨#[60]⟩, ⟨#[60, 61]⟩, ⟨#[62]⟩, ⟨#[62, 61]⟩], [⟨#[43]⟩, ⟨#[45]⟩], [⟨#[42]⟩]]
/-- What is to be read. -/
inductive NT where
  | expr (k : Nat) | bin (k : Nat) (left : Int) | unary | held | block | stmts (a : Int) (kids : List Int) | stmt
section
variable (X : TE)
/-- Is the next token a sign of level k? -/
def lvT (i : Nat) (k : Nat) : Bool := isL X i (nth levL k)
/-- What is behind some kids of a cas. -/
def casR (rec_ : NT → PS → RsP Int) : Nat → List Int → PS → RsP (List Int)
  | 0, kids, s => andP (shutP X ⟨#[41]⟩ s) fun _ s => .ok (kids, s)
  | n + 1, kids, s => andP (takeP X ⟨#[44]⟩ s) fun _ s => andP (rec_ (.expr 0) s) fun b s => casR rec_ n (kids ++ [b]) s
def casP (rec_ : NT → PS → RsP Int) (s : PS) : RsP (List Int) :=
  andP (openP X ⟨#[40]⟩ { s with i := s.i + 1 }) fun _ s => andP (nameP X s) fun t s => andP (putP ⟨16, 0, t.a, t.t, []⟩ s) fun a s => casR X rec_ 2 [a] s
/-- A name is put: what kind of node it is, its name, its kids. -/
def asgP (rec_ : NT → PS → RsP Int) (s : PS) : RsP (Int × ByteArray × List Int) :=
  andP (nameP X s) fun t s => andP (takeP X ⟨#[61]⟩ s) fun _ s =>
    if isT X s.i ⟨#[99, 97, 115]⟩ = true then andP (casP X rec_ s) fun kids s => andP (takeP X ⟨#[59]⟩ s) fun _ s => .ok ((8, t.t, kids), s)
    else andP (rec_ (.expr 0) s) fun k s => andP (takeP X ⟨#[59]⟩ s) fun _ s => .ok ((7, t.t, [k]), s)
def stepP (rec_ : NT → PS → RsP Int) : NT → PS → RsP Int
  | .expr k, s => if k = 5 then rec_ .unary s else andP (rec_ (.expr (k + 1)) s) fun l s => rec_ (.bin k l) s
  | .bin k l, s => if lvT X s.i k = true then
      andP (rec_ (.expr (k + 1)) { s with i := s.i + 1 }) fun r s2 => andP (putP ⟨19, 0, (nth X.T s.i).a, (nth X.T s.i).t, [l, r]⟩ s2) fun q s3 => rec_ (.bin k q) s3
    else .ok (l, s)
  | .unary, s =>
    if isL X s.i [⟨#[45]⟩, ⟨#[33]⟩] = true then
      andP (openP X (nth X.T s.i).t s) fun _ s1 => andP (rec_ .unary s1) fun k s2 =>
        putP ⟨if (nth X.T s.i).t = ⟨#[45]⟩ then 17 else 18, 0, atT X s.i, ⟨#[]⟩, [k]⟩ { s2 with d := s2.d - 1 }
    else if isT X s.i ⟨#[40]⟩ = true then rec_ .held s
    else if kindT X s.i 3 = true then putP ⟨15, (nth X.T s.i).n, atT X s.i, ⟨#[]⟩, []⟩ { s with i := s.i + 1 }
    else andP (nameP X s) fun t s1 => putP ⟨16, 0, atT X s.i, t.t, []⟩ s1
  | .held, s => andP (openP X ⟨#[40]⟩ s) fun _ s => andP (rec_ (.expr 0) s) fun k s => andP (shutP X ⟨#[41]⟩ s) fun _ s => .ok (k, s)
  | .block, s => andP (openP X ⟨#[123]⟩ s) fun a s => rec_ (.stmts a []) s
  | .stmts a kids, s => if isT X s.i ⟨#[125]⟩ = true then andP (shutP X ⟨#[125]⟩ s) fun _ s => putP ⟨5, 0, a, ⟨#[]⟩, kids⟩ s
    else andP (rec_ .stmt s) fun k s => rec_ (.stmts a (kids ++ [k])) s
  | .stmt, s =>
    let at_ := atT X s.i
    if isT X s.i ⟨#[105, 110, 116]⟩ = true then
      andP (nameP X { s with i := s.i + 1 }) fun t s => andP (takeP X ⟨#[61]⟩ s) fun _ s => andP (rec_ (.expr 0) s) fun k s => andP (takeP X ⟨#[59]⟩ s) fun _ s => putP ⟨6, 0, at_, t.t, [k]⟩ s
    else if isT X s.i ⟨#[105, 102]⟩ = true then
      andP (rec_ .held { s with i := s.i + 1 }) fun k s => andP (rec_ .block s) fun b s =>
        if isT X s.i ⟨#[101, 108, 115, 101]⟩ = true then andP (rec_ .block { s with i := s.i + 1 }) fun c s => putP ⟨9, 0, at_, ⟨#[]⟩, [k, b, c]⟩ s
        else putP ⟨9, 0, at_, ⟨#[]⟩, [k, b]⟩ s
    else if isT X s.i ⟨#[119, 104, 105, 108, 101]⟩ = true then
      andP (rec_ .held { s with i := s.i + 1 }) fun k s => andP (rec_ .block s) fun b s => putP ⟨10, 0, at_, ⟨#[]⟩, [k, b]⟩ s
    else if isT X s.i ⟨#[112, 114, 105, 110, 116]⟩ = true then
      andP (rec_ .held { s with i := s.i + 1 }) fun k s => andP (takeP X ⟨#[59]⟩ s) fun _ s => putP ⟨11, 0, at_, ⟨#[]⟩, [k]⟩ s
    else if isL X s.i [⟨#[108, 111, 99, 107]⟩, ⟨#[117, 110, 108, 111, 99, 107]⟩] = true then
      let kd : Int := if (nth X.T s.i).t = ⟨#[117, 110, 108, 111, 99, 107]⟩ then 13 else 12
      andP (openP X ⟨#[40]⟩ { s with i := s.i + 1 }) fun _ s => andP (nameP X s) fun t s => andP (shutP X ⟨#[41]⟩ s) fun _ s => andP (takeP X ⟨#[59]⟩ s) fun _ s => putP ⟨kd, 0, at_, t.t, []⟩ s
    else if isT X s.i ⟨#[102, 101, 110, 99, 101]⟩ = true then
      andP (takeP X ⟨#[59]⟩ { s with i := s.i + 1 }) fun _ s => putP ⟨14, 0, at_, ⟨#[]⟩, []⟩ s
    else andP (asgP X rec_ s) fun r s => putP ⟨r.1, 0, at_, r.2.1, r.2.2⟩ s
def parseP : Nat → NT → PS → RsP Int
  | 0, _, s => .error (0, 0)
  | f + 1, nt, s => stepP X (parseP f) nt s
/-- A global or a lock. -/
def globP (s : PS) : RsP Int :=
  if isT X s.i ⟨#[108, 111, 99, 107]⟩ = true then
    andP (nameP X { s with i := s.i + 1 }) fun t s1 => andP (takeP X ⟨#[59]⟩ s1) fun _ s2 => putP ⟨3, 0, (nth X.T s.i).a, t.t, []⟩ s2
  else andP (takeP X ⟨#[105, 110, 116]⟩ s) fun a s => andP (nameP X s) fun t s =>
    if isT X s.i ⟨#[61]⟩ = true then
      let mn := isT X (s.i + 1) ⟨#[45]⟩
      let j := if mn = true then s.i + 1 + 1 else s.i + 1
      if kindT X j 3 = true then
        andP (takeP X ⟨#[59]⟩ { s with i := j + 1 }) fun _ s => putP ⟨2, if mn = true then -(nth X.T j).n else (nth X.T j).n, a, t.t, []⟩ s
      else badP X 5 { s with i := j }
    else andP (takeP X ⟨#[59]⟩ s) fun _ s => putP ⟨2, 0, a, t.t, []⟩ s
/-- All globals, behind some. -/
def globsP : Nat → List Int → PS → RsP (List Int)
  | 0, _, s => .error (0, 0)
  | f + 1, kids, s => if isL X s.i [⟨#[105, 110, 116]⟩, ⟨#[108, 111, 99, 107]⟩] = true then andP (globP X s) fun k s => globsP f (kids ++ [k]) s else .ok (kids, s)
/-- All threads, behind what there is. -/
def thrsP : Nat → List Int → PS → RsP (List Int)
  | 0, _, s => .error (0, 0)
  | f + 1, kids, s => if s.i < X.T.length then
      andP (takeP X ⟨#[116, 104, 114, 101, 97, 100]⟩ s) fun a s => andP (parseP X (20 * (X.T.length + 1)) .block s) fun b s => andP (putP ⟨4, 0, a, ⟨#[]⟩, [b]⟩ s) fun k s => thrsP f (kids ++ [k]) s
    else .ok (kids, s)
def restT (kids : List Int) (s : PS) : RsP Int := putP ⟨1, 0, 0, ⟨#[]⟩, kids⟩ s
def restG (kids : List Int) (s : PS) : RsP Int := andP (thrsP X (X.T.length + 1) kids s) (restT)
def progP : RsP Int := andP (globsP X (X.T.length + 1) [] ⟨0, 0, []⟩) (restG X)
/-- How much fuel is enough. -/
def rankT : NT → Nat
  | .expr k => 3 + (5 - k) | .bin k _ => 1 | .unary => 2 | .held => 1 | .block => 1 | .stmts _ _ => 11 | .stmt => 10
def enough (nt : NT) (i : Nat) : Nat := 20 * (X.T.length - i) + rankT nt
end
end Go.Proofs.YthdkmhaneellcaaGreatDoor
