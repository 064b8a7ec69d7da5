/- Crossings and powers of valid points: no wrap. -/
import Derived.Test.YtlndgoaobalenaaSpec3
namespace Go.Proofs.Ytlndgoaobalenaa
open Go.RowKit
set_option linter.unusedVariables false
set_option linter.unusedSimpArgs false
theorem mul_bd {u v M : Int} (h0 : -M ≤ u) (h1 : u ≤ M) (h2 : -M ≤ v) (h3 : v ≤ M) : -(M * M) ≤ u * v ∧ u * v ≤ M * M := by
  have a := Int.mul_nonneg (show 0 ≤ M - u by omega) (show 0 ≤ M + v by omega)
  have b := Int.mul_nonneg (show 0 ≤ M + u by omega) (show 0 ≤ M - v by omega)
  have c := Int.mul_nonneg (show 0 ≤ M - u by omega) (show 0 ≤ M - v by omega)
  have d := Int.mul_nonneg (show 0 ≤ M + u by omega) (show 0 ≤ M + v by omega)
  simp only [Int.sub_mul, Int.add_mul, Int.mul_sub, Int.mul_add] at a b c d
  have e : u * M = M * u := Int.mul_comm _ _
  omega
theorem pt_bd {p : Pt} (h : ptB p = true) : 0 ≤ p.x ∧ p.x ≤ 10000 ∧ 0 ≤ p.y ∧ p.y ≤ 10000 := by
  simp only [ptB, Bool.and_eq_true, decide_eq_true_eq] at h
  omega
theorem w64 {n : Int} (h0 : -4611686018427387904 ≤ n) (h1 : n ≤ 4611686018427387904) : wrap64 n = n := by unfold wrap64; omega
theorem turnW_is {a b c : Pt} (ha : ptB a = true) (hb : ptB b = true) (hc : ptB c = true) : turnW a b c = turnI a b c := by
  have := pt_bd ha; have := pt_bd hb; have := pt_bd hc
  obtain ⟨m1, m2⟩ := mul_bd (u := b.x - a.x) (v := c.y - a.y) (M := 10000) (by omega) (by omega) (by omega) (by omega)
  obtain ⟨m3, m4⟩ := mul_bd (u := b.y - a.y) (v := c.x - a.x) (M := 10000) (by omega) (by omega) (by omega) (by omega)
  unfold turnW turnI
  rw [w64 (n := b.x - a.x) (by omega) (by omega), w64 (n := c.y - a.y) (by omega) (by omega), w64 (n := b.y - a.y) (by omega) (by omega), w64 (n := c.x - a.x) (by omega) (by omega), w64 (by omega) (by omega), w64 (by omega) (by omega)]
theorem turnV_is {a b c : Pt} (ha : ptB a = true) (hb : ptB b = true) (hc : ptB c = true) : turnV a b c = turnI a b c := by
  have := pt_bd ha; have := pt_bd hb; have := pt_bd hc
  obtain ⟨m1, m2⟩ := mul_bd (u := b.x - a.x) (v := c.y - a.y) (M := 10000) (by omega) (by omega) (by omega) (by omega)
  obtain ⟨m3, m4⟩ := mul_bd (u := b.y - a.y) (v := c.x - a.x) (M := 10000) (by omega) (by omega) (by omega) (by omega)
  unfold turnV turnI cmpI
  rw [w64 (n := b.x - a.x) (by omega) (by omega), w64 (n := c.y - a.y) (by omega) (by omega), w64 (n := b.y - a.y) (by omega) (by omega), w64 (n := c.x - a.x) (by omega) (by omega), w64 (n := (b.x - a.x) * (c.y - a.y)) (by omega) (by omega), w64 (n := (b.y - a.y) * (c.x - a.x)) (by omega) (by omega), w64 (by omega) (by omega)]
  generalize (b.x - a.x) * (c.y - a.y) = X
  generalize (b.y - a.y) * (c.x - a.x) = Y
  by_cases c1 : 0 < X - Y
  · rw [if_pos c1, if_neg (by omega), if_pos (by omega)]
  · rw [if_neg c1]
    by_cases c2 : X - Y < 0
    · rw [if_pos c2, if_pos (by omega)]
    · rw [if_neg c2, if_neg (by omega), if_neg (by omega)]
theorem turn_bd (a b c : Pt) : -1 ≤ turnI a b c ∧ turnI a b c ≤ 1 := by
  unfold turnI cmpI
  split
  · omega
  · split <;> omega
theorem turn_w (a b c d e f : Pt) : wrap64 (turnI a b c * turnI d e f) = turnI a b c * turnI d e f := by
  obtain ⟨h0, h1⟩ := turn_bd a b c
  obtain ⟨h2, h3⟩ := turn_bd d e f
  obtain ⟨m1, m2⟩ := mul_bd (M := 1) h0 h1 h2 h3
  exact w64 (by omega) (by omega)
theorem onW_is {p a b : Pt} (hp : ptB p = true) (ha : ptB a = true) (hb : ptB b = true) : onW p a b = (decide (turnI a b p = 0) && withinB a b p) := by
  unfold onW
  rw [turnW_is ha hb hp]
  rw [Bool.eq_iff_iff]
  constructor
  · intro h
    simp only [Bool.or_eq_true, Bool.and_eq_true, decide_eq_true_eq] at h
    rcases h with (⟨h1, h2⟩ | ⟨h1, h2⟩) | ⟨h1, h2⟩
    · have e : p = a := by cases p; cases a; simp_all
      subst e
      simp [turnI, cmpI, withinB]
      omega
    · have e : p = b := by cases p; cases b; simp_all
      subst e
      have e2 : (p.y - a.y) * (p.x - a.x) = (p.x - a.x) * (p.y - a.y) := Int.mul_comm _ _
      simp [turnI, cmpI, withinB, e2]
      omega
    · simp [h1, h2]
  · intro h
    simp only [Bool.and_eq_true, decide_eq_true_eq] at h
    simp [h.1, h.2]
theorem crossW_is {a b : Pt} {q : Wl} (ha : ptB a = true) (hb : ptB b = true) (hq : wlB q = true) : crossW a b q = crossB a b q := by
  simp only [wlB, Bool.and_eq_true] at hq
  obtain ⟨⟨⟨h1, h2⟩, _⟩, _⟩ := hq
  unfold crossW crossB
  rw [onW_is h1 ha hb, onW_is h2 ha hb, onW_is ha h1 h2, onW_is hb h1 h2, turnW_is ha hb h1, turnW_is ha hb h2, turnW_is h1 h2 ha, turnW_is h1 h2 hb, turn_w, turn_w]
  generalize (decide (turnI a b q.a = 0) && withinB a b q.a) = A
  generalize (decide (turnI a b q.b = 0) && withinB a b q.b) = B
  generalize (decide (turnI q.a q.b a = 0) && withinB q.a q.b a) = C
  generalize (decide (turnI q.a q.b b = 0) && withinB q.a q.b b) = D
  generalize (decide (turnI a b q.a * turnI a b q.b < 0) && decide (turnI q.a q.b a * turnI q.a q.b b < 0)) = E
  cases A <;> cases B <;> cases C <;> cases D <;> cases E <;> rfl
theorem crossV_is {a b : Pt} {q : Wl} (ha : ptB a = true) (hb : ptB b = true) (hq : wlB q = true) : crossV a b q = crossB a b q := by
  simp only [wlB, Bool.and_eq_true] at hq
  obtain ⟨⟨⟨h1, h2⟩, _⟩, _⟩ := hq
  unfold crossV crossB
  rw [turnV_is ha hb h1, turnV_is ha hb h2, turnV_is h1 h2 ha, turnV_is h1 h2 hb, turn_w, turn_w]
theorem mul_self_nonneg' (u : Int) : 0 ≤ u * u := by
  rcases Int.le_total 0 u with h | h
  · exact Int.mul_nonneg h h
  · exact Int.mul_nonneg_of_nonpos_of_nonpos h h
theorem square_is {a b : Pt} (ha : ptB a = true) (hb : ptB b = true) : squareW a b = squareI a b ∧ 0 ≤ squareI a b ∧ squareI a b ≤ 200000000 := by
  have := pt_bd ha; have := pt_bd hb
  obtain ⟨m1, m2⟩ := mul_bd (u := a.x - b.x) (v := a.x - b.x) (M := 10000) (by omega) (by omega) (by omega) (by omega)
  obtain ⟨m3, m4⟩ := mul_bd (u := a.y - b.y) (v := a.y - b.y) (M := 10000) (by omega) (by omega) (by omega) (by omega)
  have n1 : 0 ≤ (a.x - b.x) * (a.x - b.x) := mul_self_nonneg' _
  have n2 : 0 ≤ (a.y - b.y) * (a.y - b.y) := mul_self_nonneg' _
  refine ⟨?_, by unfold squareI; omega, by unfold squareI; omega⟩
  unfold squareW squareI
  rw [w64 (n := a.x - b.x) (by omega) (by omega), w64 (n := a.y - b.y) (by omega) (by omega), w64 (n := (a.x - b.x) * (a.x - b.x)) (by omega) (by omega), w64 (n := (a.y - b.y) * (a.y - b.y)) (by omega) (by omega), w64 (by omega) (by omega)]
/-- The power at a point of a sender at another one, walls not counted. -/
def baseI (ex : Int) (a : Pt) (p : Int) (b : Pt) : Int :=
  if ex = 4 then p * 100 / max (squareI a b) 100 * 100 / max (squareI a b) 100 else p * 100 / max (squareI a b) 100
/-- .. behind the first walls. -/
def wallI (a b : Pt) (p : Int) (q : Wl) : Int := if crossB a b q then p * q.f / 1000 else p
def atI (s : Site) (a : Pt) (p : Int) (b : Pt) : Int := s.walls.foldl (wallI a b) (baseI s.ex a p b)
theorem pow_is {n : Int} (h : powB n = true) : 0 ≤ n ∧ n ≤ 68719476736 := by
  simp only [powB, Bool.and_eq_true, decide_eq_true_eq] at h
  exact h
theorem is_pow {n : Int} (h0 : 0 ≤ n) (h1 : n ≤ 68719476736) : powB n = true := by simp [powB, h0, h1]
theorem down {p m : Int} (h0 : 0 ≤ p) (hm : 100 ≤ m) : 0 ≤ p * 100 / m ∧ p * 100 / m ≤ p := by
  refine ⟨Int.ediv_nonneg (by omega) (by omega), ?_⟩
  have h : p * 100 ≤ p * m := Int.mul_le_mul_of_nonneg_left hm h0
  exact Int.le_trans (Int.ediv_le_ediv (by omega) h) (by rw [Int.mul_ediv_cancel _ (by omega)]; exact Int.le_refl _)
theorem scale_bd {p f : Int} (h0 : 0 ≤ p) (h1 : 0 ≤ f) (h2 : f ≤ 1000) : 0 ≤ p * f / 1000 ∧ p * f / 1000 ≤ p := by
  refine ⟨Int.ediv_nonneg (Int.mul_nonneg h0 h1) (by omega), ?_⟩
  have h : p * f ≤ p * 1000 := Int.mul_le_mul_of_nonneg_left h2 h0
  exact Int.le_trans (Int.ediv_le_ediv (by omega) h) (by rw [Int.mul_ediv_cancel _ (by omega)]; exact Int.le_refl _)
theorem base_pow (ex : Int) {p : Int} (a b : Pt) (h : powB p = true) : powB (baseI ex a p b) = true := by
  obtain ⟨h0, h1⟩ := pow_is h
  have hm : 100 ≤ max (squareI a b) 100 := Int.le_max_right _ _
  obtain ⟨d0, d1⟩ := down h0 hm
  obtain ⟨d2, d3⟩ := down d0 hm
  unfold baseI
  split <;> exact is_pow (by omega) (by omega)
theorem wall_pow {a b : Pt} {p : Int} {q : Wl} (h : powB p = true) (hq : wlB q = true) : powB (wallI a b p q) = true := by
  obtain ⟨h0, h1⟩ := pow_is h
  simp only [wlB, Bool.and_eq_true, decide_eq_true_eq] at hq
  obtain ⟨d0, d1⟩ := scale_bd h0 hq.1.2 hq.2
  unfold wallI
  split
  · exact is_pow (by omega) (by omega)
  · exact h
theorem walls_pow {a b : Pt} : ∀ (ws : List Wl) {p : Int}, powB p = true → (∀ q, q ∈ ws → wlB q = true) → powB (ws.foldl (wallI a b) p) = true
  | [], _, h, _ => h
  | q :: ws, _, h, hq => walls_pow ws (wall_pow h (hq q (by simp))) fun q' h' => hq q' (by simp [h'])
theorem walls_snoc {a b : Pt} {ws : List Wl} {k : Nat} {q : Wl} (p : Int) (hx : ws[k]? = some q) : (ws.take (k + 1)).foldl (wallI a b) p = wallI a b ((ws.take k).foldl (wallI a b) p) q := by
  rw [List.take_add_one, hx]
  simp
end Go.Proofs.Ytlndgoaobalenaa
