/- Clear channels: the reference. -/
import Derived.Test.YtlndgoaobalenaaIter2
import Derived.Test.YtlndgoaobalenaaSpc5
namespace Go.Proofs.Ytlndgoaobalenaa
open Go.RowKit Go.Shelf
set_option linter.unusedVariables false
set_option linter.unusedSimpArgs false
set_option maxHeartbeats 4000000
set_option maxRecDepth 100000
theorem r06Clear (x : Spm) (v : Value) (f t : Int) (w : World) (hx : SpmV w v x) : Calls Try.prog 25 #[v, .int .i64 f, .int .i64 t] w fun e w' => ∃ u, e = .returned u ∧ SlV 1 KI w' u (clearL x f t) ∧ Below w.heap.size w w' := by
  have hu := Try.underlying25
  have hu2 := Try.underlying30
  have hx' := Lib.hid hx
  obtain ⟨srcs, fds⟩ := x
  obtain ⟨v0, v1, rfl, h0, h1⟩ := hx
  obtain ⟨A0, c0, rfl, hc0, hm0, hr0⟩ := h0
  obtain ⟨A1, c1, rfl, hc1, hm1, hr1⟩ := h1
  dsimp only at *
  unfold big at hm0
  obtain ⟨W1, hW1⟩ : ∃ W : World, W = ((w.alloc (.cells #[.slice A0 srcs.length c0, .slice A1 fds.length c1] 25)).alloc (.cells #[] 3)) := ⟨_, rfl⟩
  have hb1 : Below w.heap.size w W1 := by rw [hW1]; (repeat (first | exact Below.refl _ _ | assumption | apply b_alloc | apply b_drewN | apply b_drew))
  have q : ∀ wr : World, Below W1.heap.size W1 wr → wr.cell? ⟨w.heap.size, 0, none⟩ = some (.slice A0 srcs.length c0) ∧ wr.cell? ⟨w.heap.size, 1, none⟩ = some (.slice A1 fds.length c1) := fun wr hwr => ⟨cell_mono hwr (by rw [hW1]; go_simp), cell_mono hwr (by rw [hW1]; go_simp)⟩
  have HW := Lib.hid hW1
  clear hW1
  go_enter Try.func25, Try.ntmps25
  go_wp2_with fail
  rw [← HW.out]
  refine (r06Check ⟨srcs, fds⟩ _ _ (hx'.out.mono hb1)).mono ?_
  rintro e w2 ⟨rfl, hb2⟩
  have hbz := b_then hb1 hb2
  obtain ⟨l0, l1⟩ := q _ hb2
  have hemp : ∀ W : World, SlV 1 KI W (.slice (some ⟨w.heap.size + 1, 0, none⟩) 0 0) [] := fun W => ⟨_, _, rfl, Nat.le_refl _, Nat.zero_le _, fun h => absurd rfl h⟩
  rcases Bool.eq_false_or_eq_true (spmB ⟨srcs, fds⟩) with z | z
  · rw [z, okN_true]
    have Q := Lib.hid z
    clear z
    go_wp2_with fail
    refine (r06Interval f t _).mono ?_
    rintro e w3 ⟨rfl, rfl⟩
    rcases Bool.eq_false_or_eq_true (ivB f t) with z1 | z1
    · rw [z1]
      have Q1 := Lib.hid z1
      clear z1
      go_wp2_with fail
      have HC : clearL ⟨srcs, fds⟩ f t = clrTo srcs f t 16 := by simp [clearL, Q.out, Q1.out]
      have HCC := Lib.hid HC
      clear HC
      have own0 : w2.ownsRow (w.heap.size + 1) 3 1 (.slice (some ⟨w.heap.size + 1, 0, none⟩) 0 0) 0 [] := by
        refine ⟨by simp, .inr ⟨_, _, #[], rfl, by omega, ?_, by omega, by omega, rfl, rfl⟩⟩
        have hlt : w.heap.size + 1 < W1.heap.size := by rw [HW.out]; simp
        rw [hb2.block _ hlt, HW.out]
        have h9 := World.alloc_heap_new (w.alloc (.cells #[.slice A0 srcs.length c0, .slice A1 fds.length c1] 25)) (.cells #[] 3)
        simpa using h9
      have hsz1 : w.heap.size + 2 = W1.heap.size := by rw [HW.out]; simp
      have hb20 : Below (w.heap.size + 1) W1 w2 := hb2.mono (by omega)
      have hto : ∀ wr, Below (w.heap.size + 1) W1 wr → Below w.heap.size w wr := fun wr h => hb1.trans (h.mono (by omega))
      obtain ⟨k0, k1⟩ := q _ (Below.refl _ _)
      go_loopw [7, 8] (fun o c wr => ∃ k : Nat, k ≤ 16 ∧ c = .int .i64 k ∧ (∃ A n c, o = .slice A n c) ∧ wr.ownsRow (w.heap.size + 1) 3 1 o (clrTo srcs f t k).length ((clrTo srcs f t k).map (Value.int .i64)) ∧ Below (w.heap.size + 1) W1 wr) (fun _ c _ => 16 - (intOf c).toNat)
      case atStart => exact ⟨0, by omega, rfl, ⟨_, _, _, rfl⟩, own0, hb20⟩
      case round =>
        obtain ⟨k, hk, rfl, ⟨Ao, no, co, rfl⟩, hown, hbw⟩ := hrel
        have m0 := (hbw.cell (by simp)).trans k0
        have m1 := (hbw.cell (by simp)).trans k1
        by_cases hlt : k < 16
        · have hlt' : decide ((k : Int) < 16) = true := by simp; omega
          go_wp2_with fail
          have hcs := clr_snoc srcs f t k
          have Hcs := Lib.hid hcs
          clear hcs
          go_loopw [9, 10] (fun g i wi => ∃ j : Nat, j ≤ srcs.length ∧ i = .int .i64 j ∧ g = .bool ((srcs.take j).all fun s => !actB (k : Int) f t s) ∧ Below wr.heap.size wr wi) (fun _ i _ => srcs.length - (intOf i).toNat)
          case atStart => exact ⟨0, Nat.zero_le _, rfl, rfl, Below.refl _ _⟩
          case round =>
            obtain ⟨j, hj, rfl, rfl, hbi⟩ := hrel
            have hbwi : Below (w.heap.size + 1) W1 _ := hbw.trans (hbi.mono (by have := hbw.size; omega))
            have n0 := (hbwi.cell (by simp)).trans k0
            have n1 := (hbwi.cell (by simp)).trans k1
            by_cases hl2 : j < srcs.length
            · obtain ⟨y, hy⟩ : ∃ y, srcs[j]? = some y := ⟨_, List.getElem?_eq_getElem hl2⟩
              have hall : ((srcs.take (j + 1)).all fun s => !actB (k : Int) f t s) = (((srcs.take j).all fun s => !actB (k : Int) f t s) && !actB (k : Int) f t y) := by
                rw [List.take_add_one, hy, List.all_append]; simp
              have Hall := Lib.hid hall
              obtain ⟨B, off, u, rfl, hu', e0, e1, e2, e3, e4, e5, e6⟩ := hr0.src (hto _ hbwi) hy
              have hyv := spm_srcs (x := ⟨srcs, fds⟩) Q.out (List.mem_of_getElem? hy)
              have hu0 := Lib.hid hu'
              obtain ⟨A', c', rfl, _⟩ := hu'
              clear hall hy
              generalize hg : ((srcs.take j).all fun s => !actB (k : Int) f t s) = g at Hall ⊢
              clear hg
              rcases g with _ | _
              · go_wp2
                go_roundw
                case rel => exact ⟨j + 1, by omega, by go_num, by rw [Hall.out]; rfl, hbi⟩
                case measure => simp [intOf]; omega
              · go_wp2_with fail
                refine (r06has y.ch (k : Int) _ _ hu0.out).mono ?_
                rintro e w4 ⟨rfl, rfl⟩
                rcases Bool.eq_false_or_eq_true (hasB y.ch (k : Int)) with r | r
                · rw [r]
                  have Hr := Lib.hid r
                  clear r
                  go_wp2_with fail
                  refine (r06On y _ f t _ hu0.out).mono ?_
                  rintro e w5 ⟨rfl, hb5⟩
                  have hion : isOn y f t = onB y f t := by simp [isOn, hyv, Q1.out]
                  rw [hion]
                  go_wp2
                  go_roundw
                  case rel => exact ⟨j + 1, by omega, by go_num, by rw [Hall.out]; simp [actB, Hr.out], b_then hbi hb5⟩
                  case measure => simp [intOf]; omega
                · rw [r]
                  go_wp2
                  go_roundw
                  case rel => exact ⟨j + 1, by omega, by go_num, by rw [Hall.out]; simp [actB, r], hbi⟩
                  case measure => simp [intOf]; omega
            · obtain rfl : j = srcs.length := by omega
              rw [List.take_length]
              have hownI := own_below hown hbi
              have hcl := clr_len srcs f t k
              have hbase : w.heap.size + 1 ≤ _ := Nat.le_trans (by omega) hbwi.size
              have hcb : (srcs.all fun s => !actB (k : Int) f t s) = clrB srcs f t k := rfl
              rw [hcb]
              have Hcs2 := Hcs.out
              rcases Bool.eq_false_or_eq_true (clrB srcs f t k) with y | y
              · rw [y] at Hcs2 ⊢
                simp only [if_true] at Hcs2
                have Hsn := Lib.hid Hcs2
                clear Hcs2 y hcb
                go_wp2_with ((at_builtin; refine append_num (w0 := W1) (w.heap.size + 1) rfl (.tmp 56) (.tmp 58) 28 3 rfl Try.underlying28 infoInt (.slice Ao no co) (clrTo srcs f t k) (k : Int) rfl rfl hownI hbwi hbase (by omega) ?_; intro v1 w1 hown1 hb1x hg1 hat1; obtain ⟨A2, c2, rfl⟩ := own_slice hown1))
                go_roundw
                case rel => exact ⟨k + 1, by omega, by go_num, ⟨_, _, _, rfl⟩, by rw [Hsn.out]; simpa using hown1, hb1x⟩
                case measure => simp [intOf]; omega
              · rw [y] at Hcs2 ⊢
                simp only [Bool.false_eq_true, if_false, List.append_nil] at Hcs2
                have Hsn := Lib.hid Hcs2
                clear Hcs2 y hcb
                go_wp2
                go_roundw
                case rel => exact ⟨k + 1, by omega, by go_num, ⟨_, _, _, rfl⟩, by rw [Hsn.out]; exact hownI, hbwi⟩
                case measure => simp [intOf]; omega
        · obtain rfl : k = 16 := by omega
          have hcl := clr_len srcs f t 16
          have hsl := own_sl hown (by unfold big; omega)
          go_wp2
          go_ret
          exact ⟨_, rfl, by rw [HCC.out]; exact hsl, hto _ hbw⟩
    · rw [z1]
      have hn : clearL ⟨srcs, fds⟩ f t = [] := by simp [clearL, z1]
      go_wp2
      go_ret
      exact ⟨_, rfl, by rw [hn]; exact hemp _, hbz⟩
  · rw [z, okN_false]
    have hn : clearL ⟨srcs, fds⟩ f t = [] := by simp [clearL, z]
    go_wp2
    go_ret
    exact ⟨_, rfl, by rw [hn]; exact hemp _, hbz⟩
end Go.Proofs.Ytlndgoaobalenaa
