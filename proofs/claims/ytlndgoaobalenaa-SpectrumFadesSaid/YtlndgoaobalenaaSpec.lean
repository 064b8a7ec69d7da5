/- What the functions compute, in plain terms: no program, no memory. -/
import Derived.Test.YtlndgoaobalenaaBase
namespace Go.Proofs.Ytlndgoaobalenaa
open Go.RowKit
/-- The error of a check: OK or ErrArg. -/
def okN (b : Bool) : Int := if b then 0 else 1
theorem okN_true : okN true = 0 := rfl
theorem okN_false : okN false = 1 := rfl
def powB (n : Int) : Bool := decide (0 ≤ n) && decide (n ≤ 68719476736)
def ptB (p : Pt) : Bool := decide (0 ≤ p.x) && decide (p.x ≤ 10000) && decide (0 ≤ p.y) && decide (p.y ≤ 10000)
def rightB (thr noise : Int) : Bool := decide (1000 ≤ thr) && decide (thr ≤ 100000) && decide (1 ≤ noise) && decide (noise ≤ 68719476736)
def wlB (q : Wl) : Bool := ptB q.a && ptB q.b && decide (0 ≤ q.f) && decide (q.f ≤ 1000)
def chB (n : Int) : Bool := decide (0 ≤ n) && decide (n < 16)
def ndB (n : Int) : Bool := decide (0 ≤ n) && decide (n < 32)
def ivB (a b : Int) : Bool := decide (0 ≤ a) && decide (a ≤ b) && decide (b ≤ 1099511627776)
def tmB (t : Int) : Bool := decide (0 ≤ t) && decide (t ≤ 1099511627776)
theorem wrap64_zero : wrap64 0 = 0 := by unfold wrap64; omega
def squareW (a b : Pt) : Int := wrap64 (wrap64 (wrap64 (a.x - b.x) * wrap64 (a.x - b.x)) + wrap64 (wrap64 (a.y - b.y) * wrap64 (a.y - b.y)))
def squareI (a b : Pt) : Int := (a.x - b.x) * (a.x - b.x) + (a.y - b.y) * (a.y - b.y)
def cmpI (a b : Int) : Int := if a < b then -1 else if b < a then 1 else 0
def turnW (a b c : Pt) : Int := cmpI (wrap64 (wrap64 (b.x - a.x) * wrap64 (c.y - a.y))) (wrap64 (wrap64 (b.y - a.y) * wrap64 (c.x - a.x)))
def turnV (a b c : Pt) : Int := if 0 < wrap64 (wrap64 (wrap64 (b.x - a.x) * wrap64 (c.y - a.y)) - wrap64 (wrap64 (b.y - a.y) * wrap64 (c.x - a.x))) then 1 else if wrap64 (wrap64 (wrap64 (b.x - a.x) * wrap64 (c.y - a.y)) - wrap64 (wrap64 (b.y - a.y) * wrap64 (c.x - a.x))) < 0 then -1 else 0
/-- The sign of the turn from a by way of b to c. -/
def turnI (a b c : Pt) : Int := cmpI ((b.x - a.x) * (c.y - a.y)) ((b.y - a.y) * (c.x - a.x))
def withinB (a b p : Pt) : Bool := decide (min a.x b.x ≤ p.x) && decide (p.x ≤ max a.x b.x) && decide (min a.y b.y ≤ p.y) && decide (p.y ≤ max a.y b.y)
def onW (p a b : Pt) : Bool := (decide (p.x = a.x) && decide (p.y = a.y)) || (decide (p.x = b.x) && decide (p.y = b.y)) || (decide (turnW a b p = 0) && withinB a b p)
def crossW (a b : Pt) (q : Wl) : Bool := onW q.a a b || onW q.b a b || onW a q.a q.b || onW b q.a q.b || (decide (wrap64 (turnW a b q.a * turnW a b q.b) < 0) && decide (wrap64 (turnW q.a q.b a * turnW q.a q.b b) < 0))
def crossV (a b : Pt) (q : Wl) : Bool := (decide (wrap64 (turnV a b q.a * turnV a b q.b) < 0) && decide (wrap64 (turnV q.a q.b a * turnV q.a q.b b) < 0)) || (decide (turnV a b q.a = 0) && withinB a b q.a) || (decide (turnV a b q.b = 0) && withinB a b q.b) || (decide (turnV q.a q.b a = 0) && withinB q.a q.b a) || (decide (turnV q.a q.b b = 0) && withinB q.a q.b b)
/-- Whether the path from a to b crosses a wall. -/
def crossB (a b : Pt) (q : Wl) : Bool := (decide (turnI a b q.a * turnI a b q.b < 0) && decide (turnI q.a q.b a * turnI q.a q.b b < 0)) || (decide (turnI a b q.a = 0) && withinB a b q.a) || (decide (turnI a b q.b = 0) && withinB a b q.b) || (decide (turnI q.a q.b a = 0) && withinB q.a q.b a) || (decide (turnI q.a q.b b = 0) && withinB q.a q.b b)
def headB (s : Site) : Bool := decide (2 ≤ s.nodes.length) && decide (s.nodes.length ≤ 32) && decide (s.powers.length = s.nodes.length) && decide (s.walls.length ≤ 32) && (decide (s.ex = 2) || decide (s.ex = 4)) && rightB s.thr s.noise
def siteB (s : Site) : Bool := headB s && s.nodes.all ptB && s.powers.all powB && s.walls.all wlB
/-- All of the first k elements meet p. -/
def allTo {α : Type} (p : α → Bool) (xs : List α) (k : Nat) : Prop := ∀ i x, i < k → xs[i]? = some x → p x = true
theorem allTo.zero {α : Type} (p : α → Bool) (xs : List α) : allTo p xs 0 := fun _ _ h => absurd h (Nat.not_lt_zero _)
theorem allTo.succ {α : Type} {p : α → Bool} {xs : List α} {k : Nat} (h : allTo p xs k) {x : α} (hx : xs[k]? = some x) (hp : p x = true) : allTo p xs (k + 1) := by
  intro i y hi hy
  rcases Nat.lt_succ_iff_lt_or_eq.1 hi with h1 | rfl
  · exact h i y h1 hy
  · rw [hx] at hy; cases hy; exact hp
theorem allTo.all {α : Type} {p : α → Bool} {xs : List α} {k : Nat} (h : allTo p xs k) (hk : xs.length ≤ k) : xs.all p = true := by
  rw [List.all_eq_true]
  intro x hx
  obtain ⟨i, hi, rfl⟩ := List.mem_iff_getElem.1 hx
  exact h i _ (Nat.lt_of_lt_of_le hi hk) (List.getElem?_eq_getElem hi)
theorem all_false {α : Type} {p : α → Bool} {xs : List α} {k : Nat} {x : α} (hx : xs[k]? = some x) (hp : p x = false) : xs.all p = false := by
  rw [Bool.eq_false_iff]
  intro h
  have := List.all_eq_true.1 h x (List.mem_of_getElem? hx)
  simp [hp] at this
end Go.Proofs.Ytlndgoaobalenaa
