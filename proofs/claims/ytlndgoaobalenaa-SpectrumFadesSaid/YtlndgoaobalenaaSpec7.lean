/- The worst signal: where it is reached. -/
import Derived.Test.YtlndgoaobalenaaSpec6
namespace Go.Proofs.Ytlndgoaobalenaa
open Go.RowKit
theorem fold_min (p : Fd → Bool) : ∀ (fs : List Fd) (m : Int), fs.foldl (fun m f => if p f then min m f.fac else m) m ≤ m ∧ (∀ f, f ∈ fs → p f = true → fs.foldl (fun m f => if p f then min m f.fac else m) m ≤ f.fac) ∧
    (fs.foldl (fun m f => if p f then min m f.fac else m) m = m ∨ ∃ f, f ∈ fs ∧ p f = true ∧ fs.foldl (fun m f => if p f then min m f.fac else m) m = f.fac)
  | [], m => ⟨Int.le_refl _, fun f h => (by cases h), .inl rfl⟩
  | x :: fs, m => by
    rw [List.foldl_cons]
    by_cases hp : p x = true
    · rw [if_pos hp]
      obtain ⟨h1, h2, h3⟩ := fold_min p fs (min m x.fac)
      refine ⟨by omega, fun f hf hpf => ?_, ?_⟩
      · rcases List.mem_cons.1 hf with rfl | hf
        · omega
        · exact h2 f hf hpf
      · rcases h3 with h3 | ⟨f, hf, hpf, h3⟩
        · rcases Int.le_total m x.fac with h | h
          · left; rw [h3]; omega
          · right; exact ⟨x, List.mem_cons_self .., hp, by rw [h3]; omega⟩
        · right; exact ⟨f, List.mem_cons_of_mem _ hf, hpf, h3⟩
    · rw [if_neg hp]
      obtain ⟨h1, h2, h3⟩ := fold_min p fs m
      refine ⟨h1, fun f hf hpf => ?_, ?_⟩
      · rcases List.mem_cons.1 hf with rfl | hf
        · exact absurd hpf hp
        · exact h2 f hf hpf
      · rcases h3 with h3 | ⟨f, hf, hpf, h3⟩
        · exact .inl h3
        · right; exact ⟨f, List.mem_cons_of_mem _ hf, hpf, h3⟩
theorem least_le1000 (p : Fd → Bool) (fs : List Fd) : leastI p fs ≤ 1000 := (fold_min p fs 1000).1
theorem least_le {p : Fd → Bool} {fs : List Fd} {f : Fd} (hf : f ∈ fs) (hp : p f = true) : leastI p fs ≤ f.fac := (fold_min p fs 1000).2.1 f hf hp
theorem least_is (p : Fd → Bool) (fs : List Fd) : leastI p fs = 1000 ∨ ∃ f, f ∈ fs ∧ p f = true ∧ leastI p fs = f.fac := (fold_min p fs 1000).2.2
theorem least_mono {p q : Fd → Bool} {fs : List Fd} (h : ∀ f, f ∈ fs → p f = true → q f = true) : leastI q fs ≤ leastI p fs := by
  rcases least_is p fs with e | ⟨f, hf, hp, e⟩
  · rw [e]; exact least_le1000 _ _
  · rw [e]; exact least_le hf (h f hf hp)
theorem worst_le (x : Spm) (a b c t : Int) : worstI x a b ≤ factorI x a b c t := by
  refine least_mono fun f _ h => ?_
  simp only [appB, Bool.and_eq_true, decide_eq_true_eq] at h
  simp only [everB, Bool.and_eq_true, decide_eq_true_eq]
  exact ⟨h.1.1.1, by omega⟩
def timesL (x : Spm) : List Int := [0, 1099511627776] ++ x.fds.map (·.first)
theorem times_ok {x : Spm} (h : spmB x = true) {t : Int} (ht : t ∈ timesL x) : tmB t = true := by
  simp only [timesL, List.cons_append, List.nil_append, List.mem_cons, List.mem_map] at ht
  rcases ht with rfl | rfl | ⟨f, hf, rfl⟩
  · rfl
  · rfl
  · have := spm_fds h hf
    simp only [fdB, ivB, Bool.and_eq_true, decide_eq_true_eq] at this
    simp only [tmB, Bool.and_eq_true, decide_eq_true_eq]
    omega
theorem worst_at {x : Spm} (h : spmB x = true) (a b : Int) : ∃ t c, t ∈ timesL x ∧ c < 16 ∧ factorI x a b ((c : Nat) : Int) t = worstI x a b := by
  rcases least_is (fun f => everB f a b) x.fds with e | ⟨f, hf, hp, e⟩
  · refine ⟨0, 0, by simp [timesL], by omega, ?_⟩
    have h1 := worst_le x a b ((0 : Nat) : Int) 0
    have h2 : factorI x a b ((0 : Nat) : Int) 0 ≤ 1000 := least_le1000 _ _
    have h3 : worstI x a b = 1000 := e
    omega
  · have hv := spm_fds h hf
    simp only [everB, Bool.and_eq_true, decide_eq_true_eq] at hp
    obtain ⟨hb, hft⟩ := hp
    have hch : f.ch = -1 ∨ (0 ≤ f.ch ∧ f.ch < 16) := by
      simp only [fdB, chB, Bool.and_eq_true, Bool.or_eq_true, decide_eq_true_eq] at hv
      omega
    refine ⟨f.first, if f.ch = -1 then 0 else f.ch.toNat, ?_, ?_, ?_⟩
    · simp only [timesL, List.cons_append, List.nil_append, List.mem_cons, List.mem_map]
      exact .inr (.inr ⟨f, hf, rfl⟩)
    · split <;> omega
    · have h1 := worst_le x a b (((if f.ch = -1 then 0 else f.ch.toNat : Nat) : Nat) : Int) f.first
      have h2 : factorI x a b (((if f.ch = -1 then 0 else f.ch.toNat : Nat) : Nat) : Int) f.first ≤ f.fac := by
        refine least_le hf ?_
        simp only [appB, Bool.and_eq_true, Bool.or_eq_true, decide_eq_true_eq]
        refine ⟨⟨⟨hb, ?_⟩, by omega⟩, hft⟩
        rcases hch with hc | hc
        · exact .inl hc
        · right; rw [if_neg (by omega)]; omega
      have h3 : worstI x a b = f.fac := e
      omega
theorem mono_scale {p m n : Int} (h0 : 0 ≤ p) (h : m ≤ n) : p * m / 1000 ≤ p * n / 1000 := Int.ediv_le_ediv (by omega) (Int.mul_le_mul_of_nonneg_left h h0)
/-- The numbers of the statement's two loops. -/
theorem sig_ok {s : Site} {x : Spm} {a b c t : Int} (hn : nodesE s x a b = 0) (hc : chB c = true) (ht : tmB t = true) : sigE s x a b c t = 0 ∧ sigN s x a b c t = betweenI s a b * factorI x a b c t / 1000 ∧ wstN s x a b ≤ sigN s x a b c t ∧ 0 ≤ wstN s x a b := by
  have hE : sigE s x a b c t = 0 := by simp [sigE, hn, hc, ht]
  obtain ⟨hv, hxv, ha, hb⟩ := nodes_zero hn
  obtain ⟨p0, p1⟩ := pow_is (between_pow (b := b) hv ha)
  obtain ⟨f0, f1⟩ := worst_bd hxv a b
  have hN : sigN s x a b c t = betweenI s a b * factorI x a b c t / 1000 := by simp [sigN, hE]
  have hW : wstN s x a b = betweenI s a b * worstI x a b / 1000 := by simp [wstN, hn]
  refine ⟨hE, hN, ?_, ?_⟩
  · rw [hN, hW]; exact mono_scale p0 (worst_le x a b c t)
  · rw [hW]; exact (scale_bd p0 f0 f1).1
theorem sig_at {s : Site} {x : Spm} {a b : Int} (hn : nodesE s x a b = 0) : ∃ t c, t ∈ timesL x ∧ c < 16 ∧ sigN s x a b ((c : Nat) : Int) t = wstN s x a b := by
  obtain ⟨hv, hxv, ha, hb⟩ := nodes_zero hn
  obtain ⟨t, c, h1, h2, h3⟩ := worst_at hxv a b
  refine ⟨t, c, h1, h2, ?_⟩
  rw [(sig_ok hn (by simp [chB]; omega) (times_ok hxv h1)).2.1, h3]
  simp [wstN, hn]
/-- L is the least so far of the numbers P t c, of the first n times whole and of c channels of the next one; -1: none yet. -/
structure LInv (P : Int → Nat → Int) (ts : List Int) (n c : Nat) (L : Int) : Prop where
  low : (L = -1 ∧ n = 0 ∧ c = 0) ∨ (0 ≤ L ∧ ∃ t c', t ∈ ts ∧ c' < 16 ∧ L = P t c')
  all : ∀ i t c', ts[i]? = some t → c' < 16 → (i < n ∨ i = n ∧ c' < c) → 0 ≤ L ∧ L ≤ P t c'
theorem LInv.zero (P : Int → Nat → Int) (ts : List Int) : LInv P ts 0 0 (-1) := ⟨.inl ⟨rfl, rfl, rfl⟩, fun i t c' _ _ h => by omega⟩
theorem LInv.next {P : Int → Nat → Int} {ts : List Int} {n c : Nat} {L L' : Int} {t : Int} (h : LInv P ts n c L) (ht : ts[n]? = some t) (hc : c < 16) (h0 : 0 ≤ P t c) (hL : L' = if L < 0 ∨ P t c < L then P t c else L) : LInv P ts n (c + 1) L' := by
  subst hL
  have hm := List.mem_of_getElem? ht
  by_cases q : L < 0 ∨ P t c < L
  · rw [if_pos q]
    refine ⟨.inr ⟨h0, t, c, hm, hc, rfl⟩, fun i u c' hu hc' hi => ⟨h0, ?_⟩⟩
    by_cases e : i = n ∧ c' = c
    · obtain ⟨rfl, rfl⟩ := e
      rw [ht] at hu
      cases hu
      exact Int.le_refl _
    · have := h.all i u c' hu hc' (by omega)
      omega
  · rw [if_neg q]
    refine ⟨?_, fun i u c' hu hc' hi => ?_⟩
    · rcases h.low with ⟨h1, _⟩ | h1
      · omega
      · exact .inr h1
    · by_cases e : i = n ∧ c' = c
      · obtain ⟨rfl, rfl⟩ := e
        rw [ht] at hu
        cases hu
        omega
      · exact h.all i u c' hu hc' (by omega)
theorem LInv.row {P : Int → Nat → Int} {ts : List Int} {n : Nat} {L : Int} (h : LInv P ts n 16 L) : LInv P ts (n + 1) 0 L := by
  refine ⟨?_, fun i t c' ht hc' hi => h.all i t c' ht hc' (by omega)⟩
  rcases h.low with ⟨_, _, h1⟩ | h1
  · omega
  · exact .inr h1
theorem LInv.fin {P : Int → Nat → Int} {ts : List Int} {L W : Int} (h : LInv P ts ts.length 0 L) (hW : ∀ t c, t ∈ ts → c < 16 → W ≤ P t c) (ha : ∃ t c, t ∈ ts ∧ c < 16 ∧ P t c = W) : L = W := by
  obtain ⟨t, c, ht, hc, e⟩ := ha
  obtain ⟨i, hi, rfl⟩ := List.mem_iff_getElem.1 ht
  have h1 := h.all i _ c (List.getElem?_eq_getElem hi) hc (.inl hi)
  rcases h.low with ⟨h2, _⟩ | ⟨_, u, c', hu, hc', rfl⟩
  · omega
  · have := hW u c' hu hc'
    omega
end Go.Proofs.Ytlndgoaobalenaa
