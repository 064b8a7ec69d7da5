/- Walks: an external transmitter is valid. -/
import Derived.Test.YtlndgoaobalenaaSpec2
import Derived.Test.YtlndgoaobalenaaGeo1
namespace Go.Proofs.Ytlndgoaobalenaa
open Go.RowKit
attribute [local go_sem high] max2_mx min2_mn max_two min_two
set_option linter.unusedVariables false
set_option linter.unusedSimpArgs false
set_option maxHeartbeats 4000000
set_option maxRecDepth 100000
theorem sSource (s : Src) (v : Value) (w : World) (h : SlV 1 KI w v s.ch) : Calls Try.prog 35 #[.agg #[.int .i64 (s).pt.x, .int .i64 (s).pt.y, .int .i64 (s).pow, v, .int .i64 (s).per, .int .i64 (s).frm, .int .i64 (s).to]] w fun e w' => e = .returned (.bool (srcB s)) ∧ Below w.heap.size w w' := by
  have hu := Try.underlying27
  have hu2 := Try.underlying30
  obtain ⟨⟨px, py⟩, pow, ch, per, frm, to⟩ := s
  obtain ⟨A, c, rfl, hc, hm, hr⟩ := h
  dsimp only at *
  unfold big at hm
  obtain ⟨W1, hW1⟩ : ∃ W1, W1 = w.alloc (.cells #[.int .i64 px, .int .i64 py, .int .i64 pow, .slice A ch.length c, .int .i64 per, .int .i64 frm, .int .i64 to] 30) := ⟨_, rfl⟩
  have hb1 : Below w.heap.size w W1 := by rw [hW1]; (repeat (first | exact Below.refl _ _ | assumption | apply b_alloc | apply b_drewN | apply b_drew))
  have HW := Lib.hid hW1
  clear hW1
  by_cases hh : (ptB ⟨px, py⟩ && powB pow) = true
  · have HH := Lib.hid hh
    simp only [ptB, powB, Bool.and_eq_true, decide_eq_true_eq] at hh
    have g1 : decide (min px py < 0) = false := by simp; omega
    have g2 : decide (10000 < max px py) = false := by simp; omega
    have g3 : decide (pow < 0) = false := by simp; omega
    have g4 : decide (68719476736 < pow) = false := by simp; omega
    clear hh
    go_enter Try.func35, Try.ntmps35
    go_wp2_with fail
    rw [← HW.out]
    go_loopw [36] (fun i wr => ∃ k : Nat, k ≤ ch.length ∧ i = .int .i64 k ∧ (∀ i, i < k → okI ch i = true) ∧ Below W1.heap.size W1 wr) (fun i _ => ch.length - (intOf i).toNat)
    case atStart => exact ⟨0, Nat.zero_le _, rfl, fun _ h => absurd h (Nat.not_lt_zero _), Below.refl _ _⟩
    case round =>
      obtain ⟨k, hk, rfl, ha, hbw⟩ := hrel
      have hs2 := box_at hbw HW.out 3 rfl
      have hs3 := box_at hbw HW.out 4 rfl
      have hs4 := box_at hbw HW.out 5 rfl
      have hs5 := box_at hbw HW.out 6 rfl
      by_cases hlt : k < ch.length
      · obtain ⟨x, hx⟩ : ∃ x, ch[k]? = some x := ⟨_, List.getElem?_eq_getElem hlt⟩
        have hgx : ch[k]?.getD 0 = x := by rw [hx]; rfl
        obtain ⟨b, off, rfl, hx0⟩ := hr.int (b_then hb1 hbw) hx
        have Hx := Lib.hid hx
        have Hgx := Lib.hid hgx
        clear hx hgx
        go_wp2_with fail
        refine (sChannel x _).mono ?_
        rintro e w' ⟨rfl, rfl⟩
        rcases Bool.eq_false_or_eq_true (chB x) with q | q
        · rw [q]
          rcases k with _ | j
          · go_wp2
            go_roundw
            case rel => exact ⟨1, by omega, by go_num, fun i hi => (by obtain rfl : i = 0 := (by omega); simp [okI, Hgx.out, q]), hbw⟩
            case measure => simp [intOf]; omega
          · obtain ⟨y, hy⟩ : ∃ y, ch[j]? = some y := ⟨_, List.getElem?_eq_getElem (by omega)⟩
            have hgy : ch[j]?.getD 0 = y := by rw [hy]; rfl
            obtain ⟨b', off', e', hy0⟩ := hr.int (b_then hb1 hbw) hy
            cases e'
            have Hgy := Lib.hid hgy
            clear hy hgy
            have hj : (0 : Int) < (j : Int) + 1 := by omega
            have hj0 : decide ((0 : Int) ≤ (j : Int)) = true := by simp
            have hj1 : decide ((j : Int) < (ch.length : Int)) = true := by simp; omega
            have hsl := box_at hbw HW.out 3 rfl
            by_cases hxy : x ≤ y
            · go_wp2
              go_ret
              exact ⟨ret_bool (by
                have : okI ch (j + 1) = false := by simp [okI, Hgx.out, Hgy.out, q]; omega
                simp [srcB, inc_not hlt this]), b_then hb1 hbw⟩
            · go_wp2
              go_roundw
              case rel =>
                have hok : okI ch (j + 1) = true := (by have h1 : y < x := (by omega); simp [okI, Hgx.out, Hgy.out, q, h1])
                exact ⟨j + 1 + 1, by omega, by go_num, fun i hi => (by
                  rcases Nat.lt_succ_iff_lt_or_eq.1 hi with h1 | rfl
                  · exact ha i h1
                  · exact hok), hbw⟩
              case measure => simp [intOf]; omega
        · rw [q]
          go_wp2
          go_ret
          exact ⟨ret_bool (by
            have : okI ch k = false := by simp [okI, Hgx.out, q]
            simp [srcB, inc_not hlt this]), b_then hb1 hbw⟩
      · have hinc := inc_all (ch := ch) (fun i hi => ha i (by omega))
        have Hi := Lib.hid hinc
        clear hinc ha
        have hfin : srcB ⟨⟨px, py⟩, pow, ch, per, frm, to⟩ = perB ⟨⟨px, py⟩, pow, ch, per, frm, to⟩ := by
          have := HH.out
          simp only [Bool.and_eq_true] at this
          simp [srcB, this, Hi.out]
        have Hfin := Lib.hid hfin
        clear hfin
        go_wp2
        all_goals (go_ret; exact ⟨ret_bool (by rw [Hfin.out, Bool.eq_iff_iff]; simp [perB]; try omega), b_then hb1 hbw⟩)
  · have hfin : srcB ⟨⟨px, py⟩, pow, ch, per, frm, to⟩ = false := by
      rw [Bool.eq_false_iff]; intro h; apply hh; simp only [srcB, Bool.and_eq_true] at h ⊢; exact h.1.1
    have hn : px < 0 ∨ py < 0 ∨ 10000 < px ∨ 10000 < py ∨ pow < 0 ∨ 68719476736 < pow := by
      simp [ptB, powB] at hh; omega
    have Hfin := Lib.hid hfin
    have HN := Lib.hid hn
    clear hfin hh hn
    go_enter Try.func35, Try.ntmps35
    go_wp2_with fail
    all_goals first
      | (go_ret; exact ⟨ret_bool (by rw [Hfin.out]), by (repeat (first | exact Below.refl _ _ | assumption | apply b_alloc | apply b_drewN | apply b_drew))⟩)
      | (exfalso; have := HN.out; omega)
end Go.Proofs.Ytlndgoaobalenaa
