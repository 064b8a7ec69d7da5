/- Walks: the program's check of a site. -/
import Derived.Test.YtlndgoaobalenaaGeo1
import Derived.Test.YtlndgoaobalenaaSpec2
namespace Go.Proofs.Ytlndgoaobalenaa
open Go.RowKit
set_option linter.unusedVariables false
set_option linter.unusedSimpArgs false
set_option maxHeartbeats 4000000
set_option maxRecDepth 100000
theorem gCheck1 (p : Pt) (w : World) : Calls Try.prog 68 #[.agg #[.int .i64 (p).x, .int .i64 (p).y]] w fun e w' => e = .returned (.bool (!ptB p)) ∧ Below w.heap.size w w' := by
  have hu := Try.underlying27
  go_enter Try.func68, Try.ntmps68
  go_wp2_with fail
  refine (gPoint p _).mono ?_
  rintro e w2 ⟨rfl, hb2⟩
  go_wp2
  go_ret
  exact ⟨ret_bool rfl, b_then (by (repeat (first | exact Below.refl _ _ | assumption | apply b_alloc | apply b_drewN | apply b_drew))) hb2⟩
theorem gCheck2 (n : Int) (w : World) : Calls Try.prog 72 #[.int .i64 n] w fun e w' => e = .returned (.bool (!powB n)) ∧ w = w' := by
  go_enter Try.func72, Try.ntmps72
  go_wp2_with fail
  refine (gIsPower n _).mono ?_
  rintro e w2 ⟨rfl, rfl⟩
  go_wp2
  go_ret
  exact ⟨ret_bool rfl, rfl⟩
theorem gCheck2' (n : Int) (w : World) : Calls Try.prog 72 #[.int .i64 n] w fun e w' => e = .returned (.bool (!powB n)) ∧ Below w.heap.size w w' := (gCheck2 n w).mono fun _ _ ⟨h, k⟩ => ⟨h, k ▸ Below.refl _ _⟩
theorem gCheck3 (q : Wl) (B : Nat) (w : World) (h : w.cell? ⟨B, 0, none⟩ = some (.func (.func 68) #[] #[])) : Calls Try.prog 75 #[.agg #[.int .i64 (q).a.x, .int .i64 (q).a.y, .int .i64 (q).b.x, .int .i64 (q).b.y, .int .i64 (q).f], .pointer (some ⟨B, 0, none⟩)] w fun e w' => e = .returned (.bool (!wlB q)) ∧ Below w.heap.size w w' := by
  have hu := Try.underlying27
  have hu2 := Try.underlying92
  obtain ⟨W1, hW1⟩ : ∃ W : World, W = (w.alloc (.cells #[.int .i64 (q).a.x, .int .i64 (q).a.y, .int .i64 (q).b.x, .int .i64 (q).b.y, .int .i64 (q).f] 92)) := ⟨_, rfl⟩
  have hb1 : Below w.heap.size w W1 := by rw [hW1]; (repeat (first | exact Below.refl _ _ | assumption | apply b_alloc | apply b_drewN | apply b_drew))
  have p : ∀ wr : World, Below W1.heap.size W1 wr → wr.cell? ⟨w.heap.size, 0, none⟩ = some (.int .i64 (q).a.x) ∧ wr.cell? ⟨w.heap.size, 1, none⟩ = some (.int .i64 (q).a.y) ∧ wr.cell? ⟨w.heap.size, 2, none⟩ = some (.int .i64 (q).b.x) ∧ wr.cell? ⟨w.heap.size, 3, none⟩ = some (.int .i64 (q).b.y) ∧ wr.cell? ⟨w.heap.size, 4, none⟩ = some (.int .i64 (q).f) := fun wr hwr => ⟨cell_mono hwr (by rw [hW1]; go_simp), cell_mono hwr (by rw [hW1]; go_simp), cell_mono hwr (by rw [hW1]; go_simp), cell_mono hwr (by rw [hW1]; go_simp), cell_mono hwr (by rw [hW1]; go_simp)⟩
  have HW := Lib.hid hW1
  clear hW1
  have m := cell_mono (HW.out ▸ hb1) h
  go_enter Try.func75, Try.ntmps75
  go_wp2_with fail
  rw [← HW.out]
  refine (gCheck1 q.a _).mono ?_
  rintro e w2 ⟨rfl, hb2⟩
  have hbz := b_then hb1 hb2
  have m2 := cell_mono hbz h
  obtain ⟨b0, b1, b2, b3, b4⟩ := p _ hb2
  rcases Bool.eq_false_or_eq_true (ptB q.a) with r | r
  · rw [r]
    have R := Lib.hid r
    clear r
    go_wp2_with fail
    refine (gCheck1 q.b _).mono ?_
    rintro e w3 ⟨rfl, hb3⟩
    obtain ⟨c0, c1, c2, c3, c4⟩ := p _ (b_then hb2 hb3)
    have hbz3 := b_then hbz hb3
    rcases Bool.eq_false_or_eq_true (ptB q.b) with r | r
    · rw [r]
      have R2 := Lib.hid r
      clear r
      go_wp2
      all_goals (go_ret; exact ⟨ret_bool (by rw [Bool.eq_iff_iff]; simp [wlB, R.out, R2.out]; try omega), hbz3⟩)
    · rw [r]
      have R2 := Lib.hid r
      clear r
      go_wp2
      go_ret
      exact ⟨ret_bool (by simp [wlB, R.out, R2.out]), hbz3⟩
  · rw [r]
    have R := Lib.hid r
    clear r
    go_wp2
    go_ret
    exact ⟨ret_bool (by simp [wlB, R.out]), hbz⟩
theorem idxPt (xs : List Pt) (v : Value) (w : World) (h : SlV 2 KPt w v xs)  : Calls Try.prog 83 #[v, .func (.func 68) #[] #[]] w fun e w' => e = .returned (.int .i64 (idxI (fun x => !ptB x) xs)) ∧ Below w.heap.size w w' := by
  obtain ⟨A, c, rfl, hc, hm, hr⟩ := h
  unfold big at hm
  go_enter Try.func83, Try.ntmps83
  go_wp2_with fail
  go_loopw [8] (fun i wr => ∃ k : Nat, k ≤ xs.length ∧ i = .int .i64 k ∧ allTo (fun x => !!ptB x) xs k ∧ Below w.heap.size w wr) (fun i _ => xs.length - (intOf i).toNat)
  case atStart => exact ⟨0, Nat.zero_le _, rfl, allTo.zero _ _, Below.refl _ _⟩
  case round =>
    obtain ⟨k, hk, rfl, ha, hbw⟩ := hrel
    by_cases hlt : k < xs.length
    · obtain ⟨x, hx⟩ : ∃ x, xs[k]? = some x := ⟨_, List.getElem?_eq_getElem hlt⟩
      obtain ⟨b, off, rfl, h0, h1⟩ := hr.pt hbw hx
      have Hx := Lib.hid hx
      clear hx
      go_wp2_with fail
      refine (gCheck1 x _).mono ?_
      rintro e w2 ⟨rfl, hb2⟩
      rcases Bool.eq_false_or_eq_true (!ptB x) with q | q
      · rw [q]
        have Hq := Lib.hid q
        go_wp2
        go_ret
        exact ⟨ret_int (idx_some ha Hx.out Hq.out), b_then hbw hb2⟩
      · rw [q]
        have Hq := Lib.hid q
        go_wp2
        go_roundw
        case rel => exact ⟨k + 1, by omega, by go_num, ha.succ Hx.out (by rw [Hq.out]; rfl), b_then hbw hb2⟩
        case measure => simp [intOf]; omega
    · go_wp2
      go_ret
      exact ⟨ret_int (idx_none ha (by omega)), hbw⟩
theorem conPt (xs : List Pt) (v : Value) (w : World) (h : SlV 2 KPt w v xs)  : Calls Try.prog 70 #[v, .func (.func 68) #[] #[]] w fun e w' => e = .returned (.bool (xs.any fun x => !ptB x)) ∧ Below w.heap.size w w' := by
  have hh := h
  obtain ⟨A, c, rfl, hc, hm, hr⟩ := h
  go_enter Try.func70, Try.ntmps70
  go_wp2_with fail
  refine (idxPt xs _ _ hh ).mono ?_
  rintro e w2 ⟨rfl, hb2⟩
  go_wp2
  go_ret
  exact ⟨ret_bool (by rw [← idx_any]), hb2⟩
theorem idxPow (xs : List Int) (v : Value) (w : World) (h : SlV 1 KI w v xs)  : Calls Try.prog 84 #[v, .func (.func 72) #[] #[]] w fun e w' => e = .returned (.int .i64 (idxI (fun x => !powB x) xs)) ∧ Below w.heap.size w w' := by
  obtain ⟨A, c, rfl, hc, hm, hr⟩ := h
  unfold big at hm
  go_enter Try.func84, Try.ntmps84
  go_wp2_with fail
  go_loopw [8] (fun i wr => ∃ k : Nat, k ≤ xs.length ∧ i = .int .i64 k ∧ allTo (fun x => !!powB x) xs k ∧ Below w.heap.size w wr) (fun i _ => xs.length - (intOf i).toNat)
  case atStart => exact ⟨0, Nat.zero_le _, rfl, allTo.zero _ _, Below.refl _ _⟩
  case round =>
    obtain ⟨k, hk, rfl, ha, hbw⟩ := hrel
    by_cases hlt : k < xs.length
    · obtain ⟨x, hx⟩ : ∃ x, xs[k]? = some x := ⟨_, List.getElem?_eq_getElem hlt⟩
      obtain ⟨b, off, rfl, h0⟩ := hr.int hbw hx
      have Hx := Lib.hid hx
      clear hx
      go_wp2_with fail
      refine (gCheck2' x _).mono ?_
      rintro e w2 ⟨rfl, hb2⟩
      rcases Bool.eq_false_or_eq_true (!powB x) with q | q
      · rw [q]
        have Hq := Lib.hid q
        go_wp2
        go_ret
        exact ⟨ret_int (idx_some ha Hx.out Hq.out), b_then hbw hb2⟩
      · rw [q]
        have Hq := Lib.hid q
        go_wp2
        go_roundw
        case rel => exact ⟨k + 1, by omega, by go_num, ha.succ Hx.out (by rw [Hq.out]; rfl), b_then hbw hb2⟩
        case measure => simp [intOf]; omega
    · go_wp2
      go_ret
      exact ⟨ret_int (idx_none ha (by omega)), hbw⟩
theorem conPow (xs : List Int) (v : Value) (w : World) (h : SlV 1 KI w v xs)  : Calls Try.prog 71 #[v, .func (.func 72) #[] #[]] w fun e w' => e = .returned (.bool (xs.any fun x => !powB x)) ∧ Below w.heap.size w w' := by
  have hh := h
  obtain ⟨A, c, rfl, hc, hm, hr⟩ := h
  go_enter Try.func71, Try.ntmps71
  go_wp2_with fail
  refine (idxPow xs _ _ hh ).mono ?_
  rintro e w2 ⟨rfl, hb2⟩
  go_wp2
  go_ret
  exact ⟨ret_bool (by rw [← idx_any]), hb2⟩
theorem idxWl (xs : List Wl) (v : Value) (w : World) (h : SlV 5 KWl w v xs) {B : Nat} (hB : w.cell? ⟨B, 0, none⟩ = some (.func (.func 68) #[] #[])) : Calls Try.prog 85 #[v, .func (.func 75) #[] #[.pointer (some ⟨B, 0, none⟩)]] w fun e w' => e = .returned (.int .i64 (idxI (fun x => !wlB x) xs)) ∧ Below w.heap.size w w' := by
  obtain ⟨A, c, rfl, hc, hm, hr⟩ := h
  unfold big at hm
  go_enter Try.func85, Try.ntmps85
  go_wp2_with fail
  go_loopw [8] (fun i wr => ∃ k : Nat, k ≤ xs.length ∧ i = .int .i64 k ∧ allTo (fun x => !!wlB x) xs k ∧ Below w.heap.size w wr) (fun i _ => xs.length - (intOf i).toNat)
  case atStart => exact ⟨0, Nat.zero_le _, rfl, allTo.zero _ _, Below.refl _ _⟩
  case round =>
    obtain ⟨k, hk, rfl, ha, hbw⟩ := hrel
    by_cases hlt : k < xs.length
    · obtain ⟨x, hx⟩ : ∃ x, xs[k]? = some x := ⟨_, List.getElem?_eq_getElem hlt⟩
      obtain ⟨b, off, rfl, h0, h1, h2, h3, h4⟩ := hr.wl hbw hx
      have Hx := Lib.hid hx
      clear hx
      go_wp2_with fail
      refine (gCheck3 x B _ (cell_mono hbw hB)).mono ?_
      rintro e w2 ⟨rfl, hb2⟩
      rcases Bool.eq_false_or_eq_true (!wlB x) with q | q
      · rw [q]
        have Hq := Lib.hid q
        go_wp2
        go_ret
        exact ⟨ret_int (idx_some ha Hx.out Hq.out), b_then hbw hb2⟩
      · rw [q]
        have Hq := Lib.hid q
        go_wp2
        go_roundw
        case rel => exact ⟨k + 1, by omega, by go_num, ha.succ Hx.out (by rw [Hq.out]; rfl), b_then hbw hb2⟩
        case measure => simp [intOf]; omega
    · go_wp2
      go_ret
      exact ⟨ret_int (idx_none ha (by omega)), hbw⟩
theorem conWl (xs : List Wl) (v : Value) (w : World) (h : SlV 5 KWl w v xs) {B : Nat} (hB : w.cell? ⟨B, 0, none⟩ = some (.func (.func 68) #[] #[])) : Calls Try.prog 74 #[v, .func (.func 75) #[] #[.pointer (some ⟨B, 0, none⟩)]] w fun e w' => e = .returned (.bool (xs.any fun x => !wlB x)) ∧ Below w.heap.size w w' := by
  have hh := h
  obtain ⟨A, c, rfl, hc, hm, hr⟩ := h
  go_enter Try.func74, Try.ntmps74
  go_wp2_with fail
  refine (idxWl xs _ _ hh hB).mono ?_
  rintro e w2 ⟨rfl, hb2⟩
  go_wp2
  go_ret
  exact ⟨ret_bool (by rw [← idx_any]), hb2⟩
end Go.Proofs.Ytlndgoaobalenaa
