/- Places, in plain Lean: what package place computes. -/
import Derived.Test.YtheampfoedhipaaGreatDoorDt
namespace Go.Proofs.YtheampfoedhipaaGreatDoor


/-- A byte's rank: the slash is the lowest. -/
def wt (c : Int) : Int := if c = 47 then -1 else c

def ord : Str → Str → Int
  | [], [] => 0
  | [], _ :: _ => -1
  | _ :: _, [] => 1
  | x :: xs, y :: ys => if wt x.toNat < wt y.toNat then -1 else if wt y.toNat < wt x.toNat then 1 else ord xs ys

/-- May this byte stand in a name? -/
def nameByte (c : UInt8) : Bool := (65 ≤ c && c ≤ 90) || (97 ≤ c && c ≤ 122) || (48 ≤ c && c ≤ 57) || c == 95 || c == 45 || c == 46
/-- What the table of names holds. -/
def nameTab (i : Nat) : Int := if nameByte (UInt8.ofNat i) then 1 else 0

def isName (s : Str) : Bool := !(s == []) && s.length ≤ 16 && !(s == [46]) && !(s == [46, 46]) && s.all nameByte

/-- A text cut at its slashes. -/
def cuts : Str → List Str
  | [] => [[]]
  | c :: s => if c = 47 then [] :: cuts s else match cuts s with
    | [] => [[c]]
    | h :: t => (c :: h) :: t

theorem cuts_ne (s : Str) : cuts s ≠ [] := by
  cases s with
  | nil => simp [cuts]
  | cons c s =>
    unfold cuts
    split
    · simp
    · split <;> simp

/-- A place cut into its names, and the error's number. -/
def parse (s : Str) : List Str × Int :=
  if s.length > 102 then ([], 2) else if s = [47] then ([], 0) else
  match s with
  | 47 :: r => if (cuts r).length > 6 then ([], 10) else if (cuts r).all isName then (cuts r, 0) else ([], 10)
  | _ => ([], 10)

/-- Names joined, a slash ahead of each. -/
def joined : List Str → Str
  | [] => []
  | [x] => x
  | x :: y :: l => x ++ 47 :: joined (y :: l)
def placed (l : List Str) : Str := 47 :: joined l
def parent (s : Str) : Str × Int :=
  if (parse s).2 ≠ 0 then ([], (parse s).2) else if (parse s).1 = [] then ([], 47) else (placed (parse s).1.dropLast, 0)
def nameOf (s : Str) : Str × Int :=
  if (parse s).2 ≠ 0 ∨ (parse s).1 = [] then ([], (parse s).2) else ((parse s).1.getLastD [], 0)
def covers (kind : Int) (watched : Str) (change : Int) (changed : Str) : Bool :=
  if (parse watched).2 ≠ 0 ∨ (parse changed).2 ≠ 0 ∨ change < 1 ∨ change > 3 ∨ ¬ (parse watched).1.isPrefixOf (parse changed).1 then false
  else if kind = 1 then (parse changed).1.length == (parse watched).1.length
  else if kind = 2 then change != 2 && decide ((parse changed).1.length ≤ (parse watched).1.length + 1)
  else kind == 3
def placeOk (s : Str) : Bool := (parse s).2 == 0
def kindOk (n : Int) : Bool := decide (1 ≤ n) && decide (n ≤ 3)
def fitsP (a : Str) (n : Int) : Bool := decide (a.length ≤ 64) && decide (0 ≤ n) && decide (n ≤ 2147483647)
end Go.Proofs.YtheampfoedhipaaGreatDoor
