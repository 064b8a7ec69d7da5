/- More fadings, more transmitters, longer intervals: in plain terms. -/
import Derived.Test.YtlndgoaobalenaaSpec7
import Derived.Test.YtlndgoaobalenaaSpec4
import Derived.Test.YtlndgoaobalenaaIter2
namespace Go.Proofs.Ytlndgoaobalenaa
open Go.RowKit
set_option linter.unusedVariables false
/-! ### Fadings -/
def moreF (x : Spm) (f : Fd) : Spm := ⟨x.srcs, x.fds ++ [f]⟩
theorem factor_more (x : Spm) (f : Fd) (a b c t : Int) : factorI (moreF x f) a b c t = if appB f a b c t then min (factorI x a b c t) f.fac else factorI x a b c t := by
  simp only [factorI, moreF, leastI, List.foldl_append, List.foldl_cons, List.foldl_nil]
theorem more_fd {x : Spm} {f : Fd} (h : spmB (moreF x f) = true) : fdB f = true := spm_fds h (by simp [moreF])
def noneS : Spm := ⟨[], []⟩
theorem sig_full {s : Site} {x : Spm} {a b c t : Int} (h : sigE s x a b c t = 0) : sigE s noneS a b c t = 0 ∧ sigN s noneS a b c t = betweenI s a b ∧ nodesE s x a b = 0 ∧ chB c = true ∧ tmB t = true := by
  by_cases z : nodesE s x a b = 0
  · simp only [sigE, z, if_true] at h
    obtain ⟨hv, hxv, ha, hb⟩ := nodes_zero z
    have hct : (chB c && tmB t) = true := by
      rcases Bool.eq_false_or_eq_true (chB c && tmB t) with q | q
      · exact q
      · rw [q] at h; cases h
    simp only [Bool.and_eq_true] at hct
    have hn : nodesE s noneS a b = 0 := by simp [nodesE, hv, ha, hb, noneS, spmB]
    have he : sigE s noneS a b c t = 0 := by simp [sigE, hn, hct.1, hct.2]
    refine ⟨he, ?_, z, hct.1, hct.2⟩
    have : factorI noneS a b c t = 1000 := rfl
    simp only [sigN, he, if_true, this]
    exact Int.mul_ediv_cancel _ (by omega)
  · rw [sigE, if_neg z] at h
    exact absurd h z
/-- The signal with a further fading: an error only if the spectrum is none. -/
theorem sig_more {s : Site} {x : Spm} {f : Fd} {a b c t : Int} (h : sigE s x a b c t = 0) :
    (sigE s (moreF x f) a b c t = 0 ∧ spmB (moreF x f) = true) ∨ (sigE s (moreF x f) a b c t = 1 ∧ spmB (moreF x f) = false) := by
  obtain ⟨_, _, hn, hc, ht⟩ := sig_full h
  obtain ⟨hv, hxv, ha, hb⟩ := nodes_zero hn
  rcases Bool.eq_false_or_eq_true (spmB (moreF x f)) with q | q
  · left
    have : nodesE s (moreF x f) a b = 0 := by simp [nodesE, hv, ha, hb, q]
    exact ⟨by simp [sigE, this, hc, ht], q⟩
  · right
    have : nodesE s (moreF x f) a b = 1 := by simp [nodesE, q]
    exact ⟨by simp [sigE, this], q⟩
theorem sig_after {s : Site} {x : Spm} {f : Fd} {a b c t : Int} (h : sigE s x a b c t = 0) (h2 : sigE s (moreF x f) a b c t = 0) (hm : spmB (moreF x f) = true) :
    (appB f a b c t = false → sigN s (moreF x f) a b c t = sigN s x a b c t) ∧ (appB f a b c t = true → sigN s (moreF x f) a b c t ≤ sigN s x a b c t ∧ sigN s (moreF x f) a b c t ≤ betweenI s a b * f.fac / 1000) := by
  obtain ⟨_, _, hn, hc, ht⟩ := sig_full h
  obtain ⟨hv, hxv, ha, hb⟩ := nodes_zero hn
  obtain ⟨p0, p1⟩ := pow_is (between_pow (b := b) hv ha)
  have e1 : sigN s x a b c t = betweenI s a b * factorI x a b c t / 1000 := by simp [sigN, h]
  have e2 : sigN s (moreF x f) a b c t = betweenI s a b * factorI (moreF x f) a b c t / 1000 := by simp [sigN, h2]
  constructor
  · intro q
    rw [e1, e2, factor_more, q]
    rfl
  · intro q
    rw [e1, e2, factor_more, q, if_pos rfl]
    exact ⟨mono_scale p0 (Int.min_le_left _ _), mono_scale p0 (Int.min_le_right _ _)⟩
theorem sig_le {s : Site} {x : Spm} {a b c t : Int} (h : sigE s x a b c t = 0) : sigN s x a b c t ≤ betweenI s a b ∧ wstN s x a b ≤ sigN s x a b c t ∧ 0 ≤ wstN s x a b ∧ 0 ≤ betweenI s a b ∧ betweenI s a b ≤ 68719476736 := by
  obtain ⟨_, _, hn, hc, ht⟩ := sig_full h
  obtain ⟨hv, hxv, ha, hb⟩ := nodes_zero hn
  obtain ⟨p0, p1⟩ := pow_is (between_pow (b := b) hv ha)
  obtain ⟨k1, k2, k3, k4⟩ := sig_ok hn hc ht
  obtain ⟨f0, f1⟩ := factor_bd hxv a b c t
  refine ⟨?_, k3, k4, p0, p1⟩
  rw [k2]
  exact (scale_bd p0 f0 f1).2
/-! ### Transmitters -/
def powSum (s : Site) (b : Pt) (l : List Src) : Int := (l.map fun q => atN s q.pt q.pow b).sum
theorem atN_bd (s : Site) (a : Pt) (p : Int) (b : Pt) : 0 ≤ atN s a p b ∧ atN s a p b ≤ 68719476736 := by
  unfold atN
  split
  · rename_i h
    simp only [Bool.and_eq_true] at h
    exact pow_is (at_pow h.1 _ _ h.2.2)
  · omega
theorem sum_cons (s : Site) (b : Pt) (q : Src) (l : List Src) : powSum s b (q :: l) = atN s q.pt q.pow b + powSum s b l := by simp [powSum]
theorem sum_bd (s : Site) (b : Pt) : ∀ l : List Src, 0 ≤ powSum s b l ∧ powSum s b l ≤ l.length * 68719476736
  | [] => by simp [powSum]
  | q :: l => by
    obtain ⟨h1, h2⟩ := sum_bd s b l
    obtain ⟨h3, h4⟩ := atN_bd s q.pt q.pow b
    rw [sum_cons, List.length_cons]
    omega
theorem fold_sum (s : Site) (b : Pt) : ∀ (l : List Src) (m : Int), 0 ≤ m → m + l.length * 68719476736 ≤ 4611686018427387904 → l.foldl (fun n q => wrap64 (n + atN s q.pt q.pow b)) m = m + powSum s b l
  | [], m, _, _ => by simp [powSum]
  | q :: l, m, h0, h1 => by
    obtain ⟨h3, h4⟩ := atN_bd s q.pt q.pow b
    rw [List.length_cons] at h1
    rw [List.foldl_cons, w64 (by omega) (by omega), fold_sum s b l _ (by omega) (by omega), sum_cons]
    omega
theorem ext_sum {s : Site} {b : Pt} {srcs : List Src} (c f t : Int) (h : srcs.length ≤ 17) : extSum s b srcs c f t = powSum s b (srcs.filter (actB c f t)) := by
  have hl := List.length_filter_le (actB c f t) srcs
  unfold extSum
  rw [fold_sum s b _ 0 (by omega) (by omega)]
  omega
theorem sum_filter (s : Site) (b : Pt) (p q : Src → Bool) : ∀ l : List Src, (∀ x, x ∈ l → p x = true → q x = true) → powSum s b (l.filter p) ≤ powSum s b (l.filter q)
  | [], _ => Int.le_refl _
  | x :: l, h => by
    have ih := sum_filter s b p q l fun y hy => h y (List.mem_cons_of_mem _ hy)
    obtain ⟨h3, h4⟩ := atN_bd s x.pt x.pow b
    simp only [List.filter_cons]
    rcases Bool.eq_false_or_eq_true (p x) with e | e
    · have e2 := h x (List.mem_cons_self ..) e
      rw [e, e2]
      simp only [if_true, sum_cons]
      omega
    · rw [e]
      simp only [Bool.false_eq_true, if_false]
      rcases Bool.eq_false_or_eq_true (q x) with e2 | e2
      · rw [e2]
        simp only [if_true, sum_cons]
        omega
      · rw [e2]
        simpa using ih
theorem on_longer {s : Src} (hs : srcB s = true) {f t u : Int} (h0 : 0 ≤ f) (h1 : f ≤ t) (h2 : t ≤ u) (h : onB s f t = true) : onB s f u = true := by
  rw [on_iff hs h0 h1] at h
  rw [on_iff hs h0 (by omega)]
  obtain ⟨x, x1, x2, x3⟩ := h
  exact ⟨x, x1, by omega, x3⟩
theorem ext_zero {s : Site} {x : Spm} {a c f t : Int} (h : extE s x a c f t = 0) : siteB s = true ∧ spmB x = true ∧ inB s a = true ∧ chB c = true ∧ ivB f t = true := by
  unfold extE at h
  split at h
  · rename_i h1
    split at h
    · rename_i h2
      split at h
      · rename_i h3
        simp only [Bool.and_eq_true] at h1 h3
        exact ⟨h1.1, h1.2, h2, h3.1, h3.2⟩
      · cases h
    · cases h
  · cases h
theorem spm_len {x : Spm} (h : spmB x = true) : x.srcs.length ≤ 16 ∧ x.fds.length ≤ 64 := by
  simp only [spmB, Bool.and_eq_true, decide_eq_true_eq] at h
  omega
theorem ext_is {s : Site} {x : Spm} {a c f t : Int} (h : extE s x a c f t = 0) : extN s x a c f t = powSum s (nodeI s a) (x.srcs.filter (actB c f t)) := by
  obtain ⟨_, hx, _⟩ := ext_zero h
  have := spm_len hx
  rw [extN, if_pos h, ext_sum c f t (by omega)]
theorem ext_pos {s : Site} {x : Spm} {a c f t : Int} (h : extE s x a c f t = 0) : 0 ≤ extN s x a c f t := by
  rw [ext_is h]; exact (sum_bd _ _ _).1
theorem ext_longer {s : Site} {x : Spm} {a c f t u : Int} (h : extE s x a c f t = 0) (h2 : extE s x a c f u = 0) (hu : t ≤ u) : extN s x a c f t ≤ extN s x a c f u := by
  rw [ext_is h, ext_is h2]
  obtain ⟨_, hx, _, _, hi⟩ := ext_zero h
  obtain ⟨i0, i1, i2⟩ := ivB_is hi
  refine sum_filter _ _ _ _ _ fun y hy hp => ?_
  simp only [actB, Bool.and_eq_true] at hp ⊢
  exact ⟨hp.1, on_longer (spm_srcs hx hy) i0 i1 hu hp.2⟩
def moreS (x : Spm) (q : Src) : Spm := ⟨x.srcs ++ [q], x.fds⟩
theorem ext_more {s : Site} {x : Spm} {q : Src} {a c f t : Int} (h : extE s x a c f t = 0) :
    (extE s (moreS x q) a c f t = 0 ∧ extN s x a c f t ≤ extN s (moreS x q) a c f t) ∨ (extE s (moreS x q) a c f t = 1 ∧ spmB (moreS x q) = false) := by
  obtain ⟨hs, hx, ha, hc, hi⟩ := ext_zero h
  rcases Bool.eq_false_or_eq_true (spmB (moreS x q)) with z | z
  · left
    have h2 : extE s (moreS x q) a c f t = 0 := by simp [extE, hs, z, ha, hc, hi]
    refine ⟨h2, ?_⟩
    rw [ext_is h, ext_is h2]
    simp only [moreS, List.filter_append]
    have h3 : powSum s (nodeI s a) (x.srcs.filter (actB c f t) ++ [q].filter (actB c f t)) = powSum s (nodeI s a) (x.srcs.filter (actB c f t)) + powSum s (nodeI s a) ([q].filter (actB c f t)) := by simp [powSum]
    have := (sum_bd s (nodeI s a) ([q].filter (actB c f t))).1
    omega
  · right
    exact ⟨by simp [extE, z], z⟩
theorem ext_clear {s : Site} {x : Spm} {a c f t : Int} (h : extE s x a c f t = 0) (hc : hasB (clearL x f t) c = true) : extN s x a c f t = 0 := by
  rw [ext_is h]
  obtain ⟨hs, hx, ha, hch, hi⟩ := ext_zero h
  have hm : c ∈ clearL x f t := by simpa [hasB] using hc
  simp only [clearL, hx, hi, Bool.true_and, if_true, clrTo, List.mem_map, List.mem_filter] at hm
  obtain ⟨n, ⟨_, hn⟩, rfl⟩ := hm
  have : x.srcs.filter (actB (n : Int) f t) = [] := by
    rw [List.filter_eq_nil_iff]
    intro y hy hq
    simp only [clrB, List.all_eq_true] at hn
    have := hn y hy
    rw [hq] at this
    cases this
  rw [this]
  rfl
end Go.Proofs.Ytlndgoaobalenaa
