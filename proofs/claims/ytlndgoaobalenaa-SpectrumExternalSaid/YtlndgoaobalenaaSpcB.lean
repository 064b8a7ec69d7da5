/- slices.Equal. -/
import Derived.Test.YtlndgoaobalenaaBase
import Derived.Test.YtlndgoaobalenaaSpec
namespace Go.Proofs.Ytlndgoaobalenaa
open Go.RowKit
set_option linter.unusedVariables false
set_option linter.unusedSimpArgs false
set_option maxHeartbeats 4000000
set_option maxRecDepth 100000
theorem eq_true {xs ys : List Int} {k : Nat} (hl : xs.length = ys.length) (h : ∀ i, i < k → xs[i]? = ys[i]?) (hk : xs.length ≤ k) : decide (xs = ys) = true := by
  rw [decide_eq_true_eq]
  refine List.ext_getElem? fun i => ?_
  by_cases c : i < k
  · exact h i c
  · rw [List.getElem?_eq_none (by omega), List.getElem?_eq_none (by omega)]
theorem xEqual (xs ys : List Int) (u v : Value) (w : World) (hx : SlV 1 KI w u xs) (hy : SlV 1 KI w v ys) : Calls Try.prog 24 #[u, v] w fun e w' => e = .returned (.bool (decide (xs = ys))) ∧ Below w.heap.size w w' := by
  obtain ⟨A, c, rfl, hc, hm, hr⟩ := hx
  obtain ⟨B, d, rfl, hd, hn, hs⟩ := hy
  unfold big at hm hn
  go_enter Try.func24, Try.ntmps24
  by_cases hl : xs.length = ys.length
  · have HL := Lib.hid hl
    rw [← hl]
    have hl' := hl
    clear hl hl'
    go_wp2_with fail
    go_loopw [13] (fun i wr => ∃ k : Nat, k ≤ xs.length ∧ i = .int .i64 k ∧ (∀ i, i < k → xs[i]? = ys[i]?) ∧ Below w.heap.size w wr) (fun i _ => xs.length - (intOf i).toNat)
    case atStart => exact ⟨0, Nat.zero_le _, rfl, fun i h => absurd h (Nat.not_lt_zero _), Below.refl _ _⟩
    case round =>
      obtain ⟨k, hk, rfl, ha, hbw⟩ := hrel
      by_cases hlt : k < xs.length
      · obtain ⟨x, hxk⟩ : ∃ x, xs[k]? = some x := ⟨_, List.getElem?_eq_getElem hlt⟩
        obtain ⟨y, hyk⟩ : ∃ y, ys[k]? = some y := ⟨_, List.getElem?_eq_getElem (by rw [← HL.out]; exact hlt)⟩
        obtain ⟨b, o, rfl, e0⟩ := hr.int hbw hxk
        obtain ⟨b2, o2, rfl, e1⟩ := hs.int hbw hyk
        have L0 := Later.cell e0
        have L1 := Later.cell e1
        have i0 : (0 : Int) ≤ (k : Int) := by omega
        have i1 : (k : Int) < (xs.length : Int) := by omega
        have Hx := Lib.hid hxk
        have Hy := Lib.hid hyk
        clear hxk hyk
        by_cases c : x = y
        · subst c
          go_wp2_with fail
          refine wp_region_later (by kernel_rfl) (by kernel_rfl) ?_
          repeat (go_big_quiet_step (fail))
          refine wpQuiet_nil ?_
          rintro _ ⟨z, rfl⟩
          have hbz := b_then hbw z.below
          go_wp2
          go_roundw
          case rel =>
            refine ⟨k + 1, by omega, by go_num, fun i hi => ?_, hbz⟩
            by_cases ci : i < k
            · exact ha i ci
            · obtain rfl : i = k := by omega
              rw [Hx.out, Hy.out]
          case measure => simp [intOf]; omega
        · have c2 : (x == y) = false := by simpa using c
          go_wp2_with fail
          refine wp_region_later (by kernel_rfl) (by kernel_rfl) ?_
          repeat (go_big_quiet_step (fail))
          refine wpQuiet_nil ?_
          rintro _ ⟨z, rfl⟩
          have hbz := b_then hbw z.below
          have hfin : decide (xs = ys) = false := by
            rw [decide_eq_false_iff_not]
            rintro rfl
            have := Hx.out.symm.trans Hy.out
            exact c (by simpa using this)
          have Hfin := Lib.hid hfin
          have Hc := Lib.hid c
          clear c hfin
          go_wp2_with fail
          all_goals first
            | (exfalso; have := Hc.out; omega)
            | (go_ret; exact ⟨ret_bool (by rw [Hfin.out]), hbz⟩)
      · have hfin := eq_true HL.out ha (by omega)
        have Hfin := Lib.hid hfin
        clear hfin
        go_wp2
        go_ret
        exact ⟨ret_bool (by rw [Hfin.out]), hbw⟩
  · have hfin : decide (xs = ys) = false := by
      rw [decide_eq_false_iff_not]
      rintro rfl
      exact hl rfl
    have Hfin := Lib.hid hfin
    have g : ((xs.length : Int) != (ys.length : Int)) = true := by simp; omega
    clear hfin hl
    go_wp2
    go_ret
    exact ⟨ret_bool (by rw [Hfin.out]), by (repeat (first | exact Below.refl _ _ | assumption | apply b_alloc | apply b_drewN | apply b_drew))⟩
end Go.Proofs.Ytlndgoaobalenaa
