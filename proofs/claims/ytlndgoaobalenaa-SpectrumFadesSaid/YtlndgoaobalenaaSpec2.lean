/- What the functions of the spectrum compute, in plain terms. -/
import Derived.Test.YtlndgoaobalenaaSpec
namespace Go.Proofs.Ytlndgoaobalenaa
open Go.RowKit
def okI (ch : List Int) (k : Nat) : Bool := chB (ch[k]?.getD 0) && (decide (k = 0) || decide (ch[k - 1]?.getD 0 < ch[k]?.getD 0))
def incB (ch : List Int) : Bool := (List.range ch.length).all (okI ch)
def perB (s : Src) : Bool := decide (0 ≤ s.frm) && decide (s.frm ≤ s.to) && decide (s.to ≤ s.per) && decide (1 ≤ s.per) && decide (s.per ≤ 1000000000)
def srcB (s : Src) : Bool := ptB s.pt && powB s.pow && incB s.ch && perB s
def endB (n : Int) : Bool := decide (n = -1) || ndB n
def fdB (f : Fd) : Bool := endB f.frm && endB f.to && (decide (f.ch = -1) || chB f.ch) && ivB f.first f.til && decide (0 ≤ f.fac) && decide (f.fac ≤ 1000)
def spmB (x : Spm) : Bool := decide (x.srcs.length ≤ 16) && decide (x.fds.length ≤ 64) && x.srcs.all srcB && x.fds.all fdB
theorem inc_all {ch : List Int} (h : ∀ i, i < ch.length → okI ch i = true) : incB ch = true := by
  simp only [incB, List.all_eq_true, List.mem_range]; exact h
theorem inc_not {ch : List Int} {k : Nat} (hk : k < ch.length) (h : okI ch k = false) : incB ch = false := by
  rw [Bool.eq_false_iff]; intro hc
  simp only [incB, List.all_eq_true, List.mem_range] at hc
  rw [hc k hk] at h; cases h
/-- A valid transmitter is on at some time of an interval. -/
def onB (s : Src) (f t : Int) : Bool := decide (f ≠ t) && decide (s.frm ≠ s.to) && ((decide (f % s.per < s.to) && decide (s.frm < f % s.per + t - f)) || decide (s.frm + s.per < f % s.per + t - f))
def isOn (s : Src) (f t : Int) : Bool := srcB s && ivB f t && onB s f t
def dutyI (s : Src) : Int := if srcB s then (s.to - s.frm) * 1000 / s.per else 0
theorem srcB_per {s : Src} (h : srcB s = true) : 0 ≤ s.frm ∧ s.frm ≤ s.to ∧ s.to ≤ s.per ∧ 1 ≤ s.per ∧ s.per ≤ 1000000000 := by
  simp [srcB, perB] at h; omega
theorem ivB_is {a b : Int} (h : ivB a b = true) : 0 ≤ a ∧ a ≤ b ∧ b ≤ 1099511627776 := by
  simp [ivB] at h; omega
/-- The index of the first element that meets p; -1 if there is none. -/
def idxI {α : Type} (p : α → Bool) (xs : List α) : Int := match xs.findIdx? p with
  | some i => (i : Int)
  | none => -1
theorem idx_some {α : Type} {p : α → Bool} {xs : List α} {k : Nat} {x : α} (ha : allTo (fun x => !p x) xs k) (hx : xs[k]? = some x) (hp : p x = true) : (k : Int) = idxI p xs := by
  have : xs.findIdx? p = some k := by
    rw [List.findIdx?_eq_some_iff_getElem]
    obtain ⟨hk, rfl⟩ := List.getElem?_eq_some_iff.1 hx
    refine ⟨hk, hp, fun j hj => ?_⟩
    have := ha j _ hj (List.getElem?_eq_getElem (by omega))
    simpa using this
  simp [idxI, this]
theorem idx_none {α : Type} {p : α → Bool} {xs : List α} {k : Nat} (ha : allTo (fun x => !p x) xs k) (hk : xs.length ≤ k) : (-1 : Int) = idxI p xs := by
  have : xs.findIdx? p = none := by
    rw [List.findIdx?_eq_none_iff]
    intro x hx
    obtain ⟨i, hi, rfl⟩ := List.mem_iff_getElem.1 hx
    have := ha i _ (Nat.lt_of_lt_of_le hi hk) (List.getElem?_eq_getElem hi)
    simpa using this
  simp [idxI, this]
theorem idx_any {α : Type} (p : α → Bool) (xs : List α) : decide (0 ≤ idxI p xs) = xs.any p := by
  unfold idxI
  cases h : xs.findIdx? p with
  | none =>
    rw [List.findIdx?_eq_none_iff] at h
    have : xs.any p = false := by rw [List.any_eq_false]; intro x hx; simp [h x hx]
    simp [this]
  | some i =>
    rw [List.findIdx?_eq_some_iff_getElem] at h
    obtain ⟨hi, hp, _⟩ := h
    have : xs.any p = true := List.any_eq_true.2 ⟨_, List.getElem_mem hi, hp⟩
    simp [this]
theorem any_not {α : Type} (p : α → Bool) (xs : List α) : (xs.any fun x => !p x) = !xs.all p := by
  induction xs with
  | nil => rfl
  | cons x xs ih => simp [ih]
end Go.Proofs.Ytlndgoaobalenaa
