/- The law functions: the worst signal. -/
import Derived.Test.YtlndgoaobalenaaAwake
import Derived.Test.YtlndgoaobalenaaSpcF
import Derived.Test.YtlndgoaobalenaaSpec7
import Derived.Test.YtlndgoaobalenaaApp
import Derived.Test.YtlndgoaobalenaaIter2
namespace Go.Proofs.Ytlndgoaobalenaa
open Go.RowKit
set_option linter.unusedVariables false
set_option linter.unusedSimpArgs false
set_option maxHeartbeats 4000000
set_option maxRecDepth 100000
def sigP (s : Site) (x : Spm) (a b : Int) (t : Int) (c : Nat) : Int := sigN s x a b (c : Int) t
theorem times_snoc {x : Spm} {k : Nat} {f : Fd} (hx : x.fds[k]? = some f) : ([0, 1099511627776] ++ (x.fds.take (k + 1)).map (·.first) : List Int) = ([0, 1099511627776] ++ (x.fds.take k).map (·.first)) ++ [f.first] := by
  rw [List.take_add_one, hx]; simp
theorem lWorst (s : Site) (x : Spm) (v xv : Value) (a b : Int) (w : World) (hs : SiteV w v s) (hx : SpmV w xv x) :
    Calls Try.prog 8 #[v, xv, .agg #[.int .i64 a, .int .i64 b]] w fun e w' => e = .returned (.bool true) ∧ Below w.heap.size w w' := by
  have hu := Try.underlying45
  have hu2 := Try.underlying25
  have hu3 := Try.underlying61
  have hu4 := Try.underlying47
  have hs' := Lib.hid hs
  obtain ⟨v0, v1, v2, rfl, h0, h1, h2⟩ := hs
  obtain ⟨A0, c0, rfl, hc0, hm0, hr0⟩ := h0
  obtain ⟨A1, c1, rfl, hc1, hm1, hr1⟩ := h1
  obtain ⟨A2, c2, rfl, hc2, hm2, hr2⟩ := h2
  unfold big at hm0 hm1 hm2
  have hx' := Lib.hid hx
  obtain ⟨x0, x1, rfl, h3, h4⟩ := hx
  have H3 := Lib.hid h3
  have H4 := Lib.hid h4
  obtain ⟨A3, c3, rfl, hc3, hm3, hr3⟩ := h3
  obtain ⟨A4, c4, rfl, hc4, hm4, hr4⟩ := h4
  unfold big at hm3 hm4
  obtain ⟨W1, hW1⟩ : ∃ W : World, W = (((w.alloc (.cells #[.slice A0 s.nodes.length c0, .slice A1 s.powers.length c1, .slice A2 s.walls.length c2, .int .i64 s.ex, .int .i64 s.noise, .int .i64 s.thr] 45)).alloc (.cells #[.slice A3 x.srcs.length c3, .slice A4 x.fds.length c4] 25)).alloc (.cells #[.int .i64 a, .int .i64 b] 61)) := ⟨_, rfl⟩
  have hb1 : Below w.heap.size w W1 := by rw [hW1]; (repeat (first | exact Below.refl _ _ | assumption | apply b_alloc | apply b_drewN | apply b_drew))
  have q : ∀ wr : World, Below W1.heap.size W1 wr → wr.cell? ⟨w.heap.size, 0, none⟩ = some (.slice A0 s.nodes.length c0) ∧ wr.cell? ⟨w.heap.size, 1, none⟩ = some (.slice A1 s.powers.length c1) ∧ wr.cell? ⟨w.heap.size, 2, none⟩ = some (.slice A2 s.walls.length c2) ∧ wr.cell? ⟨w.heap.size, 3, none⟩ = some (.int .i64 s.ex) ∧ wr.cell? ⟨w.heap.size, 4, none⟩ = some (.int .i64 s.noise) ∧ wr.cell? ⟨w.heap.size, 5, none⟩ = some (.int .i64 s.thr) ∧ wr.cell? ⟨w.heap.size + 1, 0, none⟩ = some (.slice A3 x.srcs.length c3) ∧ wr.cell? ⟨w.heap.size + 1, 1, none⟩ = some (.slice A4 x.fds.length c4) ∧ wr.cell? ⟨w.heap.size + 1 + 1, 0, none⟩ = some (.int .i64 a) ∧ wr.cell? ⟨w.heap.size + 1 + 1, 1, none⟩ = some (.int .i64 b) := fun wr hwr => ⟨cell_mono hwr (by rw [hW1]; go_simp), cell_mono hwr (by rw [hW1]; go_simp), cell_mono hwr (by rw [hW1]; go_simp), cell_mono hwr (by rw [hW1]; go_simp), cell_mono hwr (by rw [hW1]; go_simp), cell_mono hwr (by rw [hW1]; go_simp), cell_mono hwr (by rw [hW1]; go_simp), cell_mono hwr (by rw [hW1]; go_simp), cell_mono hwr (by rw [hW1]; go_simp), cell_mono hwr (by rw [hW1]; go_simp)⟩
  have HW := Lib.hid hW1
  clear hW1
  go_enter Try.func8, Try.ntmps8
  go_wp2_with fail
  rw [← HW.out]
  have hbA1 : Below W1.heap.size W1 W1 := Below.refl _ _
  refine (awake _).mono ?_
  rintro e w2 ⟨rfl, hbA2⟩
  have hbz2 := b_then hb1 hbA2
  obtain ⟨l20, l21, l22, l23, l24, l25, l26, l27, l28, l29⟩ := q _ hbA2
  obtain ⟨n0, n1, n2, n3, n4, n5, n6, n7, n8, n9⟩ := q _ hbA2; have Ln0 := Later.cell n0; have Ln1 := Later.cell n1; have Ln2 := Later.cell n2; have Ln3 := Later.cell n3; have Ln4 := Later.cell n4; have Ln5 := Later.cell n5; have Ln6 := Later.cell n6; have Ln7 := Later.cell n7; have Ln8 := Later.cell n8; have Ln9 := Later.cell n9
  go_wp2_with fail
  refine wp_region_later (by kernel_rfl) (by kernel_rfl) ?_
  repeat (go_big_quiet_step (fail))
  refine wpQuiet_nil ?_
  rintro wz ⟨⟨_, hwz⟩, he⟩
  simp only at he
  subst he
  have hbAz := b_then hbA2 hwz
  have hbzz := b_then hb1 hbAz
  obtain ⟨o0, o1, o2, o3, o4, o5, o6, o7, o8, o9⟩ := q _ hbAz
  go_wp2_with fail
  refine (r05Few s _ _ (hs'.out.mono hbzz)).mono ?_
  rintro e w3 ⟨rfl, hb3⟩
  have hbA3 := b_then hbAz hb3
  have hbz3 := b_then hb1 hbA3
  obtain ⟨l30, l31, l32, l33, l34, l35, l36, l37, l38, l39⟩ := q _ hbA3
  rcases Bool.eq_false_or_eq_true (decide (s.nodes.length ≤ 40) && decide (s.powers.length ≤ 40) && decide (s.walls.length ≤ 40)) with q1 | q1
  rotate_left
  · rw [q1]
    go_wp2
    go_ret
    exact ⟨rfl, hbz3⟩
  rw [q1]
  clear q1
  go_wp2_with fail
  refine (r06Few x _ _ (hx'.out.mono hbz3)).mono ?_
  rintro e w4 ⟨rfl, hb4⟩
  have hbA4 := b_then hbA3 hb4
  have hbz4 := b_then hb1 hbA4
  obtain ⟨l40, l41, l42, l43, l44, l45, l46, l47, l48, l49⟩ := q _ hbA4
  rcases Bool.eq_false_or_eq_true (fewB x) with q2 | q2
  rotate_left
  · rw [q2]
    go_wp2
    go_ret
    exact ⟨rfl, hbz4⟩
  rw [q2]
  clear q2
  go_wp2_with fail
  refine (sWorst s x _ _ a b _ (hs'.out.mono hbz4) (hx'.out.mono hbz4)).mono ?_
  rintro e w5 ⟨rfl, hb5⟩
  have hbA5 := b_then hbA4 hb5
  have hbz5 := b_then hb1 hbA5
  obtain ⟨l50, l51, l52, l53, l54, l55, l56, l57, l58, l59⟩ := q _ hbA5
  by_cases z : nodesE s x a b = 0
  · rw [z]
    have Q := Lib.hid z
    have hwst0 : 0 ≤ wstN s x a b := (sig_ok (c := 0) (t := 0) z rfl rfl).2.2.2
    obtain ⟨_, hxv, _, _⟩ := nodes_zero z
    have HXV := Lib.hid hxv
    have hfl : x.fds.length ≤ 64 := by simp only [spmB, Bool.and_eq_true, decide_eq_true_eq] at hxv; omega
    clear z hxv
    have own0 : (w5.alloc (.cells #[.int .i64 0, .int .i64 1099511627776] 3)).ownsRow w5.heap.size 3 1 (.slice (some ⟨w5.heap.size, 0, none⟩) 2 2) 2 [.int .i64 0, .int .i64 1099511627776] :=
      ⟨by simp, .inr ⟨_, _, #[.int .i64 0, .int .i64 1099511627776], rfl, Nat.le_refl _, World.alloc_heap_new _ _, by omega, by first | omega | simp | decide | exact Nat.le_refl _, rfl, rfl⟩⟩
    have hb50 : Below w5.heap.size w5 (w5.alloc (.cells #[.int .i64 0, .int .i64 1099511627776] 3)) := b_alloc (Below.refl _ _) _
    obtain ⟨p0, p1, p2, p3, p4, p5, p6, p7, p8, p9⟩ := q _ (b_then hbA5 hb50)
    go_wp2_with fail
    go_loopw [11, 50] (fun o i wr => ∃ k : Nat, k ≤ x.fds.length ∧ i = .int .i64 k ∧ (∃ A n c, o = .slice A n c) ∧ wr.ownsRow w5.heap.size 3 1 o ([0, 1099511627776] ++ (x.fds.take k).map (·.first) : List Int).length ((([0, 1099511627776] ++ (x.fds.take k).map (·.first) : List Int)).map (Value.int .i64)) ∧ Below w5.heap.size w5 wr) (fun _ i _ => x.fds.length - (intOf i).toNat)
    case atStart => exact ⟨0, Nat.zero_le _, rfl, ⟨_, _, _, rfl⟩, own0, hb50⟩
    case round =>
      obtain ⟨k, hk, rfl, ⟨Ao, no, co, rfl⟩, hown, hbw⟩ := hrel
      by_cases hlt : k < x.fds.length
      · obtain ⟨f, hf⟩ : ∃ f, x.fds[k]? = some f := ⟨_, List.getElem?_eq_getElem hlt⟩
        obtain ⟨b0, off, hAe, e0, e1, e2, e3, e4, e5⟩ := hr4.fd (b_then hbz5 hbw) hf
        subst hAe
        have hsn := times_snoc hf
        have hln : ([0, 1099511627776] ++ (x.fds.take k).map (·.first) : List Int).length ≤ 66 := by simp; omega
        generalize hpg : ([0, 1099511627776] ++ (x.fds.take k).map (·.first) : List Int) = pk at hsn hown hln
        have Hsn := Lib.hid hsn
        clear hf hsn hpg
        have hba : Below w5.heap.size w5 (wr.alloc (.cells #[.int .i64 f.frm, .int .i64 f.to, .int .i64 f.ch, .int .i64 f.first, .int .i64 f.til, .int .i64 f.fac] 47)) := b_alloc hbw _
        have hoa := own_below hown (b_alloc (Below.refl _ wr) (.cells #[.int .i64 f.frm, .int .i64 f.to, .int .i64 f.ch, .int .i64 f.first, .int .i64 f.til, .int .i64 f.fac] 47))
        have hsb := hba.size
        go_wp2_with ((at_builtin; refine append_num2 (w0 := w5) w5.heap.size (B := wr.heap.size + 1) (by simp) rfl (.tmp 54) (.tmp 57) 28 3 rfl Try.underlying28 infoInt (.slice Ao no co) pk f.first rfl rfl hoa hba hsb (by omega) ?_; intro v1 w1 hown1 hb1x hg1 hat1; obtain ⟨A2x, c2x, rfl⟩ := own_slice hown1))
        go_roundw
        case rel => exact ⟨k + 1, by omega, by go_num, ⟨_, _, _, rfl⟩, by rw [Hsn.out]; simpa using hown1, hb1x⟩
        case measure => simp [intOf]; omega
      · obtain rfl : k = x.fds.length := by omega
        rw [List.take_length] at hown
        have hln : ([0, 1099511627776] ++ x.fds.map (·.first) : List Int).length ≤ 66 := by simp; omega
        have hsl : SlV 1 KI wr (.slice Ao no co) (timesL x) := own_sl hown (Nat.le_trans hln (by unfold big; omega))
        have hln2 : (timesL x).length ≤ 66 := hln
        obtain ⟨A9, c9, h9, hc9, hm9, hr9⟩ := id hsl
        cases h9
        have HRR := Lib.hid hr9
        clear hown hln hsl hm9
        have hb5w := hbw
        have hbAw := b_then hbA5 hbw
        go_wp2_with fail
        go_loopw [14, 62] (fun L i wq => ∃ (n : Nat) (l : Int), n ≤ (timesL x).length ∧ i = .int .i64 n ∧ L = .int .i64 l ∧ LInv (sigP s x a b) (timesL x) n 0 l ∧ Below wr.heap.size wr wq) (fun _ i _ => (timesL x).length - (intOf i).toNat)
        case atStart => exact ⟨0, -1, Nat.zero_le _, rfl, rfl, LInv.zero _ _, Below.refl _ _⟩
        case round =>
          obtain ⟨n, l, hn, rfl, rfl, hli, hbq⟩ := hrel
          have HLI := Lib.hid hli
          clear hli
          by_cases hl2 : n < (timesL x).length
          · obtain ⟨t, ht⟩ : ∃ t, (timesL x)[n]? = some t := ⟨_, List.getElem?_eq_getElem hl2⟩
            obtain ⟨b1, o1, hAe, e0⟩ := HRR.out.int hbq ht
            subst hAe
            have htm := times_ok HXV.out (List.mem_of_getElem? ht)
            have HT := Lib.hid ht
            have HTM := Lib.hid htm
            clear ht htm
            go_wp2_with fail
            go_loopw [14, 66] (fun L i wi => ∃ (c : Nat) (l2 : Int), c ≤ 16 ∧ i = .int .i64 c ∧ L = .int .i64 l2 ∧ LInv (sigP s x a b) (timesL x) n c l2 ∧ Below wr.heap.size wr wi) (fun _ i _ => 16 - (intOf i).toNat)
            case atStart => exact ⟨0, l, Nat.zero_le _, rfl, rfl, HLI.out, Below.refl _ _⟩
            case round =>
              obtain ⟨c, l2, hc, rfl, rfl, hli2, hbi⟩ := hrel
              have HL2 := Lib.hid hli2
              clear hli2
              have hbAi := b_then hbAw (b_then hbq hbi)
              have hbzi := b_then hb1 hbAi
              by_cases hlc : c < 16
              · have hch : chB (c : Int) = true := by simp [chB]; omega
                obtain ⟨k1, k2, k3, k4⟩ := sig_ok Q.out hch HTM.out
                have K1 := Lib.hid k1
                clear k1 k2 hch
                obtain ⟨g0, g1, g2, g3, g4, g5, g6, g7, g8, g9⟩ := q _ hbAi
                go_wp2_with fail
                refine (sSignal s x _ _ a b (c : Int) t _ (hs'.out.mono hbzi) (hx'.out.mono hbzi)).mono ?_
                rintro e w7 ⟨rfl, hb7⟩
                rw [K1.out]
                have hp2 : sigP s x a b t c = sigN s x a b (c : Int) t := rfl
                have HP2 := Lib.hid hp2
                clear hp2
                generalize sigN s x a b (c : Int) t = p at *
                have g1 : decide (p < wstN s x a b) = false := by simp; omega
                rcases Bool.eq_false_or_eq_true (decide (l2 < 0)) with y1 | y1 <;> rcases Bool.eq_false_or_eq_true (decide (p < l2)) with y2 | y2
                all_goals
                  (have hz1 := y1
                   have hz2 := y2
                   simp only [decide_eq_true_eq, decide_eq_false_iff_not] at hz1 hz2
                   go_wp2
                   go_roundw
                   case rel => exact ⟨c + 1, _, by omega, by go_num, rfl, HL2.out.next HT.out hlc (by rw [HP2.out]; omega) (by rw [HP2.out]; split <;> omega), b_then hbi hb7⟩
                   case measure => simp [intOf]; omega)
              · obtain rfl : c = 16 := by omega
                go_wp2
                go_roundw
                case rel => exact ⟨n + 1, l2, by omega, by go_num, rfl, HL2.out.row, b_then hbq hbi⟩
                case measure => simp [intOf]; omega
          · obtain rfl : n = (timesL x).length := by omega
            have hfin : l = wstN s x a b := HLI.out.fin (fun t c ht hc => (sig_ok Q.out (by simp [chB]; omega) (times_ok HXV.out ht)).2.2.1) (sig_at Q.out)
            have hz := b_then hbz5 (b_then hb5w hbq)
            clear HLI
            subst hfin
            go_wp2
            go_ret
            exact ⟨ret_bool (by simp), hz⟩
  · have hw0 : wstN s x a b = 0 := by simp [wstN, z]
    rw [hw0]
    have g : (nodesE s x a b != 0) = true := by simpa using z
    have g2 : (nodesE s x a b == 0) = false := by simpa using z
    clear hw0
    generalize nodesE s x a b = E at *
    clear z
    go_wp2
    go_ret
    exact ⟨rfl, hbz5⟩
end Go.Proofs.Ytlndgoaobalenaa
