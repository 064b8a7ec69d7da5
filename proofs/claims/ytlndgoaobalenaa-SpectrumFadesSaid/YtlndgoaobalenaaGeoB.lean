/- The reference's power at a point. -/
import Derived.Test.YtlndgoaobalenaaGeo2
import Derived.Test.YtlndgoaobalenaaGeo4
import Derived.Test.YtlndgoaobalenaaGeoA
namespace Go.Proofs.Ytlndgoaobalenaa
open Go.RowKit
attribute [local go_sem high] max2_mx min2_mn max_two min_two
set_option linter.unusedVariables false
set_option linter.unusedSimpArgs false
set_option maxHeartbeats 4000000
set_option maxRecDepth 100000
theorem r05CrossV (a b : Pt) (q : Wl) (ha : ptB a = true) (hb : ptB b = true) (hq : wlB q = true) {r : Bool} (hr : crossB a b q = r) (w : World) : Calls Try.prog 90 #[.agg #[.int .i64 (a).x, .int .i64 (a).y], .agg #[.int .i64 (b).x, .int .i64 (b).y], .agg #[.int .i64 (q).a.x, .int .i64 (q).a.y, .int .i64 (q).b.x, .int .i64 (q).b.y, .int .i64 (q).f]] w fun e w' => e = .returned (.bool r) ∧ Below w.heap.size w w' := by
  rw [← hr, ← crossV_is ha hb hq]
  exact r05CrossX a.x a.y b.x b.y q.a.x q.a.y q.b.x q.b.y q.f w
theorem r05At0 (s : Site) (v : Value) (a : Pt) (p : Int) (b : Pt) (w : World) (hs : SiteV w v s) (hv : siteB s = true) (ha : ptB a = true) (hb : ptB b = true) (hp : powB p = true) :
    Calls Try.prog 79 #[v, .agg #[.int .i64 (a).x, .int .i64 (a).y], .int .i64 p, .agg #[.int .i64 (b).x, .int .i64 (b).y]] w fun e w' => e = .returned (.int .i64 (atI s a p b)) ∧ Below w.heap.size w w' := by
  have hu := Try.underlying45
  have hu2 := Try.underlying27
  have hu3 := Try.underlying92
  obtain ⟨nodes, powers, walls, ex, noise, thr⟩ := s
  obtain ⟨v0, v1, v2, rfl, h0, h1, h2⟩ := hs
  obtain ⟨A0, c0, rfl, _⟩ := h0
  obtain ⟨A1, c1, rfl, _⟩ := h1
  obtain ⟨A2, c2, rfl, hc2, hm2, hr2⟩ := h2
  dsimp only at *
  unfold big at hm2
  obtain ⟨sq, sq0, sq1⟩ := square_is ha hb
  have hwl : ∀ q, q ∈ walls → wlB q = true := by
    simp only [siteB, Bool.and_eq_true, List.all_eq_true] at hv
    exact hv.2
  obtain ⟨p0, p1⟩ := pow_is hp
  obtain ⟨W1, hW1⟩ : ∃ W : World, W = (((w.alloc (.cells #[.slice A0 nodes.length c0, .slice A1 powers.length c1, .slice A2 walls.length c2, .int .i64 ex, .int .i64 noise, .int .i64 thr] 45)).alloc (.cells #[.int .i64 (a).x, .int .i64 (a).y] 27)).alloc (.cells #[.int .i64 (b).x, .int .i64 (b).y] 27)) := ⟨_, rfl⟩
  have hb1 : Below w.heap.size w W1 := by rw [hW1]; (repeat (first | exact Below.refl _ _ | assumption | apply b_alloc | apply b_drewN | apply b_drew))
  have bx : ∀ wr : World, Below W1.heap.size W1 wr → wr.cell? ⟨w.heap.size, 0, none⟩ = some (.slice A0 nodes.length c0) ∧ wr.cell? ⟨w.heap.size, 1, none⟩ = some (.slice A1 powers.length c1) ∧ wr.cell? ⟨w.heap.size, 2, none⟩ = some (.slice A2 walls.length c2) ∧ wr.cell? ⟨w.heap.size, 3, none⟩ = some (.int .i64 ex) ∧ wr.cell? ⟨w.heap.size, 4, none⟩ = some (.int .i64 noise) ∧ wr.cell? ⟨w.heap.size, 5, none⟩ = some (.int .i64 thr) ∧ wr.cell? ⟨w.heap.size + 1, 0, none⟩ = some (.int .i64 (a).x) ∧ wr.cell? ⟨w.heap.size + 1, 1, none⟩ = some (.int .i64 (a).y) ∧ wr.cell? ⟨w.heap.size + 1 + 1, 0, none⟩ = some (.int .i64 (b).x) ∧ wr.cell? ⟨w.heap.size + 1 + 1, 1, none⟩ = some (.int .i64 (b).y) := fun wr hwr => ⟨cell_mono hwr (by rw [hW1]; go_simp), cell_mono hwr (by rw [hW1]; go_simp), cell_mono hwr (by rw [hW1]; go_simp), cell_mono hwr (by rw [hW1]; go_simp), cell_mono hwr (by rw [hW1]; go_simp), cell_mono hwr (by rw [hW1]; go_simp), cell_mono hwr (by rw [hW1]; go_simp), cell_mono hwr (by rw [hW1]; go_simp), cell_mono hwr (by rw [hW1]; go_simp), cell_mono hwr (by rw [hW1]; go_simp)⟩
  have HW := Lib.hid hW1
  clear hW1
  go_enter Try.func79, Try.ntmps79
  go_wp2_with fail
  rw [← HW.out]
  refine (r05SquareW a b _).mono ?_
  rintro e w2 ⟨rfl, hb2⟩
  rw [sq]
  obtain ⟨l0, l1, l2, l3, l4, l5, l6, l7, l8, l9⟩ := bx _ hb2
  have hM0 : 100 ≤ max (squareI a b) 100 := Int.le_max_right _ _
  have hM1 : max (squareI a b) 100 ≤ 200000000 := Int.max_le.2 ⟨sq1, by omega⟩
  generalize hM : max (squareI a b) 100 = M at hM0 hM1
  obtain ⟨d0, d1⟩ := down p0 hM0
  obtain ⟨d2, d3⟩ := down d0 hM0
  by_cases hex : ex = 4
  · subst hex
    have hbase : baseI 4 a p b = p * 100 / M * 100 / M := by simp [baseI, hM]
    have Hbase := Lib.hid hbase
    clear hbase
    generalize hpb : p * 100 / M * 100 / M = pb at *
    go_wp2_with fail
    have hpw0 : powB pb = true := by rw [← Hbase.out]; exact base_pow _ a b hp
    have Hpw0 := Lib.hid hpw0
    clear hpw0
    go_loopw [10, 11] (fun q i wr => ∃ k : Nat, k ≤ walls.length ∧ i = .int .i64 k ∧ q = .int .i64 ((walls.take k).foldl (wallI a b) pb) ∧ Below W1.heap.size W1 wr) (fun _ i _ => walls.length - (intOf i).toNat)
    case atStart => exact ⟨0, Nat.zero_le _, rfl, by rw [hpb]; rfl, hb2⟩
    case round =>
      obtain ⟨k, hk, rfl, rfl, hbw⟩ := hrel
      clear l0 l1 l2 l3 l4 l5 l6 l7 l8 l9
      obtain ⟨m0, m1, m2, m3, m4, m5, m6, m7, m8, m9⟩ := bx _ hbw; have Lm0 := Later.cell m0; have Lm1 := Later.cell m1; have Lm2 := Later.cell m2; have Lm3 := Later.cell m3; have Lm4 := Later.cell m4; have Lm5 := Later.cell m5; have Lm6 := Later.cell m6; have Lm7 := Later.cell m7; have Lm8 := Later.cell m8; have Lm9 := Later.cell m9
      by_cases hlt : k < walls.length
      · obtain ⟨q, hx⟩ : ∃ q, walls[k]? = some q := ⟨_, List.getElem?_eq_getElem hlt⟩
        obtain ⟨B, off, rfl, e0, e1, e2, e3, e4⟩ := hr2.wl (b_then hb1 hbw) hx
        have E0 := Later.cell e0
        have E1 := Later.cell e1
        have E2 := Later.cell e2
        have E3 := Later.cell e3
        have E4 := Later.cell e4
        have hq := hwl q (List.mem_of_getElem? hx)
        have hsn := walls_snoc (a := a) (b := b) pb hx
        have hpk := walls_pow (a := a) (b := b) (walls.take k) Hpw0.out (fun q hq => hwl q (List.mem_of_mem_take hq))
        generalize hpg : (walls.take k).foldl (wallI a b) pb = pk at hsn hpk ⊢
        have Hsn := Lib.hid hsn
        have Hq := Lib.hid hq
        obtain ⟨k0, k1⟩ := pow_is hpk
        simp only [wlB, Bool.and_eq_true, decide_eq_true_eq] at hq
        obtain ⟨⟨_, f0⟩, f1⟩ := hq
        have hm0 : 0 ≤ pk * q.f := Int.mul_nonneg k0 f0
        have hm1 : pk * q.f ≤ 68719476736 * 1000 := Int.mul_le_mul k1 f1 f0 (by omega)
        have hw : wrap64 (pk * q.f) = pk * q.f := w64 (by omega) (by omega)
        have i0 : (0 : Int) ≤ (k : Int) := by omega
        have i1 : (k : Int) < (walls.length : Int) := by omega
        clear hx hsn hpk hpg
        rcases Bool.eq_false_or_eq_true (crossB a b q) with r | r
        · go_wp2_with fail
          refine wp_region_later (by kernel_rfl) (by kernel_rfl) ?_
          repeat (go_big_quiet_step ((go_at_call 90; exact later_of (r05CrossV a b q ha hb Hq.out r _))))
          refine wpQuiet_nil ?_
          rintro _ ⟨z, rfl⟩
          have hbz := b_then hbw z.below
          have x4 := cell_mono z.below e4
          obtain ⟨n0, n1, n2, n3, n4, n5, n6, n7, n8, n9⟩ := bx _ hbz
          go_wp2
          go_roundw
          case rel => exact ⟨k + 1, by omega, by go_num, by rw [Hsn.out]; simp [wallI, r], hbz⟩
          case measure => simp [intOf]; omega
        · go_wp2_with fail
          refine wp_region_later (by kernel_rfl) (by kernel_rfl) ?_
          repeat (go_big_quiet_step ((go_at_call 90; exact later_of (r05CrossV a b q ha hb Hq.out r _))))
          refine wpQuiet_nil ?_
          rintro _ ⟨z, rfl⟩
          have hbz := b_then hbw z.below
          go_wp2
          go_roundw
          case rel => exact ⟨k + 1, by omega, by go_num, by rw [Hsn.out]; simp [wallI, r], hbz⟩
          case measure => simp [intOf]; omega
      · obtain rfl : k = walls.length := by omega
        go_wp2
        go_ret
        exact ⟨ret_int (by rw [List.take_length]; simp only [atI, Hbase.out]), b_then hb1 hbw⟩
  · have hex1 : (ex == 4) = false := by simpa using hex
    have hbase : baseI ex a p b = p * 100 / M := by simp [baseI, hex, hM]
    have Hbase := Lib.hid hbase
    clear hbase
    generalize hpb : p * 100 / M = pb at *
    go_wp2_with fail
    have hpw0 : powB pb = true := by rw [← Hbase.out]; exact base_pow _ a b hp
    have Hpw0 := Lib.hid hpw0
    clear hpw0
    go_loopw [10, 11] (fun q i wr => ∃ k : Nat, k ≤ walls.length ∧ i = .int .i64 k ∧ q = .int .i64 ((walls.take k).foldl (wallI a b) pb) ∧ Below W1.heap.size W1 wr) (fun _ i _ => walls.length - (intOf i).toNat)
    case atStart => exact ⟨0, Nat.zero_le _, rfl, by rw [hpb]; rfl, hb2⟩
    case round =>
      obtain ⟨k, hk, rfl, rfl, hbw⟩ := hrel
      clear l0 l1 l2 l3 l4 l5 l6 l7 l8 l9
      obtain ⟨m0, m1, m2, m3, m4, m5, m6, m7, m8, m9⟩ := bx _ hbw; have Lm0 := Later.cell m0; have Lm1 := Later.cell m1; have Lm2 := Later.cell m2; have Lm3 := Later.cell m3; have Lm4 := Later.cell m4; have Lm5 := Later.cell m5; have Lm6 := Later.cell m6; have Lm7 := Later.cell m7; have Lm8 := Later.cell m8; have Lm9 := Later.cell m9
      by_cases hlt : k < walls.length
      · obtain ⟨q, hx⟩ : ∃ q, walls[k]? = some q := ⟨_, List.getElem?_eq_getElem hlt⟩
        obtain ⟨B, off, rfl, e0, e1, e2, e3, e4⟩ := hr2.wl (b_then hb1 hbw) hx
        have E0 := Later.cell e0
        have E1 := Later.cell e1
        have E2 := Later.cell e2
        have E3 := Later.cell e3
        have E4 := Later.cell e4
        have hq := hwl q (List.mem_of_getElem? hx)
        have hsn := walls_snoc (a := a) (b := b) pb hx
        have hpk := walls_pow (a := a) (b := b) (walls.take k) Hpw0.out (fun q hq => hwl q (List.mem_of_mem_take hq))
        generalize hpg : (walls.take k).foldl (wallI a b) pb = pk at hsn hpk ⊢
        have Hsn := Lib.hid hsn
        have Hq := Lib.hid hq
        obtain ⟨k0, k1⟩ := pow_is hpk
        simp only [wlB, Bool.and_eq_true, decide_eq_true_eq] at hq
        obtain ⟨⟨_, f0⟩, f1⟩ := hq
        have hm0 : 0 ≤ pk * q.f := Int.mul_nonneg k0 f0
        have hm1 : pk * q.f ≤ 68719476736 * 1000 := Int.mul_le_mul k1 f1 f0 (by omega)
        have hw : wrap64 (pk * q.f) = pk * q.f := w64 (by omega) (by omega)
        have i0 : (0 : Int) ≤ (k : Int) := by omega
        have i1 : (k : Int) < (walls.length : Int) := by omega
        clear hx hsn hpk hpg
        rcases Bool.eq_false_or_eq_true (crossB a b q) with r | r
        · go_wp2_with fail
          refine wp_region_later (by kernel_rfl) (by kernel_rfl) ?_
          repeat (go_big_quiet_step ((go_at_call 90; exact later_of (r05CrossV a b q ha hb Hq.out r _))))
          refine wpQuiet_nil ?_
          rintro _ ⟨z, rfl⟩
          have hbz := b_then hbw z.below
          have x4 := cell_mono z.below e4
          obtain ⟨n0, n1, n2, n3, n4, n5, n6, n7, n8, n9⟩ := bx _ hbz
          go_wp2
          go_roundw
          case rel => exact ⟨k + 1, by omega, by go_num, by rw [Hsn.out]; simp [wallI, r], hbz⟩
          case measure => simp [intOf]; omega
        · go_wp2_with fail
          refine wp_region_later (by kernel_rfl) (by kernel_rfl) ?_
          repeat (go_big_quiet_step ((go_at_call 90; exact later_of (r05CrossV a b q ha hb Hq.out r _))))
          refine wpQuiet_nil ?_
          rintro _ ⟨z, rfl⟩
          have hbz := b_then hbw z.below
          go_wp2
          go_roundw
          case rel => exact ⟨k + 1, by omega, by go_num, by rw [Hsn.out]; simp [wallI, r], hbz⟩
          case measure => simp [intOf]; omega
      · obtain rfl : k = walls.length := by omega
        go_wp2
        go_ret
        exact ⟨ret_int (by rw [List.take_length]; simp only [atI, Hbase.out]), b_then hb1 hbw⟩
end Go.Proofs.Ytlndgoaobalenaa
