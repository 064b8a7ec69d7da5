/- External power: the reference. -/
import Derived.Test.YtlndgoaobalenaaSpc8
import Derived.Test.YtlndgoaobalenaaIter1
namespace Go.Proofs.Ytlndgoaobalenaa
open Go.RowKit
set_option linter.unusedVariables false
set_option linter.unusedSimpArgs false
set_option maxHeartbeats 4000000
set_option maxRecDepth 100000
def extSum (s : Site) (b : Pt) (srcs : List Src) (c f t : Int) : Int := (srcs.filter (actB c f t)).foldl (fun n q => wrap64 (n + atN s q.pt q.pow b)) 0
def nodeI (s : Site) (a : Int) : Pt := s.nodes[a.toNat]?.getD ⟨0, 0⟩
def extE (s : Site) (x : Spm) (a c f t : Int) : Int := if siteB s && spmB x then (if inB s a then (if chB c && ivB f t then 0 else 2) else 7) else 1
def extN (s : Site) (x : Spm) (a c f t : Int) : Int := if extE s x a c f t = 0 then extSum s (nodeI s a) x.srcs c f t else 0
theorem ext_snoc (s : Site) (b : Pt) (c f t : Int) {srcs : List Src} {k : Nat} {q : Src} (hx : srcs[k]? = some q) :
    extSum s b (srcs.take (k + 1)) c f t = if actB c f t q then wrap64 (extSum s b (srcs.take k) c f t + atN s q.pt q.pow b) else extSum s b (srcs.take k) c f t := by
  unfold extSum
  rw [List.take_add_one, hx, List.filter_append, List.foldl_append]
  simp only [Option.toList_some, List.filter_cons, List.filter_nil]
  split <;> rfl
theorem r06External (s : Site) (x : Spm) (v xv : Value) (a c f t : Int) (w : World) (hs : SiteV w v s) (hx : SpmV w xv x) :
    Calls Try.prog 23 #[v, xv, .int .i64 a, .int .i64 c, .int .i64 f, .int .i64 t] w fun e w' => e = .returned (.tuple #[.int .i64 (extN s x a c f t), .int .i64 (extE s x a c f t)]) ∧ Below w.heap.size w w' := by
  have hu := Try.underlying45
  have hu2 := Try.underlying25
  have hu3 := Try.underlying30
  have hu4 := Try.underlying27
  have hs' := Lib.hid hs
  have hx' := Lib.hid hx
  obtain ⟨v0, v1, v2, rfl, h0, h1, h2⟩ := hs
  obtain ⟨A0, c0, rfl, hc0, hm0, hr0⟩ := h0
  obtain ⟨A1, c1, rfl, _⟩ := h1
  obtain ⟨A2, c2, rfl, _⟩ := h2
  obtain ⟨x0, x1, rfl, h3, h4⟩ := hx
  obtain ⟨A3, c3, rfl, hc3, hm3, hr3⟩ := h3
  obtain ⟨A4, c4, rfl, _⟩ := h4
  unfold big at hm0 hm3
  obtain ⟨R, hR⟩ : ∃ R, extE s x a c f t = R := ⟨_, rfl⟩
  obtain ⟨N, hN⟩ : ∃ N, extN s x a c f t = N := ⟨_, rfl⟩
  rw [hR, hN]
  have HR := Lib.hid hR
  have HN := Lib.hid hN
  clear hR hN
  obtain ⟨W1, hW1⟩ : ∃ W : World, W = ((w.alloc (.cells #[.slice A0 s.nodes.length c0, .slice A1 s.powers.length c1, .slice A2 s.walls.length c2, .int .i64 s.ex, .int .i64 s.noise, .int .i64 s.thr] 45)).alloc (.cells #[.slice A3 x.srcs.length c3, .slice A4 x.fds.length c4] 25)) := ⟨_, rfl⟩
  have hb1 : Below w.heap.size w W1 := by rw [hW1]; (repeat (first | exact Below.refl _ _ | assumption | apply b_alloc | apply b_drewN | apply b_drew))
  have q : ∀ wr : World, Below W1.heap.size W1 wr → wr.cell? ⟨w.heap.size, 0, none⟩ = some (.slice A0 s.nodes.length c0) ∧ wr.cell? ⟨w.heap.size, 1, none⟩ = some (.slice A1 s.powers.length c1) ∧ wr.cell? ⟨w.heap.size, 2, none⟩ = some (.slice A2 s.walls.length c2) ∧ wr.cell? ⟨w.heap.size, 3, none⟩ = some (.int .i64 s.ex) ∧ wr.cell? ⟨w.heap.size, 4, none⟩ = some (.int .i64 s.noise) ∧ wr.cell? ⟨w.heap.size, 5, none⟩ = some (.int .i64 s.thr) ∧ wr.cell? ⟨w.heap.size + 1, 0, none⟩ = some (.slice A3 x.srcs.length c3) ∧ wr.cell? ⟨w.heap.size + 1, 1, none⟩ = some (.slice A4 x.fds.length c4) := fun wr hwr => ⟨cell_mono hwr (by rw [hW1]; go_simp), cell_mono hwr (by rw [hW1]; go_simp), cell_mono hwr (by rw [hW1]; go_simp), cell_mono hwr (by rw [hW1]; go_simp), cell_mono hwr (by rw [hW1]; go_simp), cell_mono hwr (by rw [hW1]; go_simp), cell_mono hwr (by rw [hW1]; go_simp), cell_mono hwr (by rw [hW1]; go_simp)⟩
  have HW := Lib.hid hW1
  clear hW1
  go_enter Try.func23, Try.ntmps23
  go_wp2_with fail
  rw [← HW.out]
  refine (r06nodes s x _ _ a a _ (hs'.out.mono hb1) (hx'.out.mono hb1)).mono ?_
  rintro e w2 ⟨rfl, hb2⟩
  have hbz := b_then hb1 hb2
  rcases Bool.eq_false_or_eq_true (siteB s && spmB x) with z | z
  · rcases Bool.eq_false_or_eq_true (inB s a) with z1 | z1
    · have hnE : nodesE s x a a = 0 := by simp only [nodesE, z, z1]; rfl
      rw [hnE]
      have Q := Lib.hid z
      have Q1 := Lib.hid z1
      clear z z1 hnE
      go_wp2_with fail
      refine (r06Channel c _).mono ?_
      rintro e w3 ⟨rfl, rfl⟩
      rcases Bool.eq_false_or_eq_true (chB c) with z2 | z2
      · rw [z2]
        have Q2 := Lib.hid z2
        clear z2
        go_wp2_with fail
        refine (r06Interval f t _).mono ?_
        rintro e w3 ⟨rfl, rfl⟩
        rcases Bool.eq_false_or_eq_true (ivB f t) with z3 | z3
        · rw [z3]
          have Q3 := Lib.hid z3
          clear z3
          have hRe : R = 0 := by rw [← HR.out]; simp only [extE, Q.out, Q1.out, Q2.out, Q3.out]; rfl
          subst hRe
          have hNe : N = extSum s (nodeI s a) x.srcs c f t := by rw [← HN.out, extN, HR.out]; rfl
          have HNe := Lib.hid hNe
          clear hNe
          go_wp2_with fail
          have hin := Q1.out
          simp only [inB, Bool.and_eq_true, decide_eq_true_eq] at hin
          obtain ⟨in0, in1⟩ := hin
          have hsp := Q.out
          simp only [Bool.and_eq_true] at hsp
          obtain ⟨hsv, hxv⟩ := hsp
          obtain ⟨nd, hnd⟩ : ∃ nd, s.nodes[a.toNat]? = some nd := ⟨_, List.getElem?_eq_getElem (by omega)⟩
          have hni : nodeI s a = nd := by simp [nodeI, hnd]
          rw [hni] at HNe
          obtain ⟨Bn, on, rfl, _, _⟩ := hr0.pt (b_then hb1 hb2) hnd
          have HSV := Lib.hid hsv
          have HXV := Lib.hid hxv
          have HND := Lib.hid hnd
          clear hni hnd hsv hxv
          go_loopw [15, 16] (fun n i wr => ∃ k : Nat, k ≤ x.srcs.length ∧ i = .int .i64 k ∧ n = .int .i64 (extSum s nd (x.srcs.take k) c f t) ∧ Below W1.heap.size W1 wr) (fun _ i _ => x.srcs.length - (intOf i).toNat)
          case atStart => exact ⟨0, Nat.zero_le _, rfl, rfl, hb2⟩
          case round =>
            obtain ⟨k, hk, rfl, rfl, hbw⟩ := hrel
            obtain ⟨l0, l1, l2, l3, l4, l5, l6, l7⟩ := q _ hbw
            by_cases hlt : k < x.srcs.length
            · obtain ⟨y, hy⟩ : ∃ y, x.srcs[k]? = some y := ⟨_, List.getElem?_eq_getElem hlt⟩
              have hyv := spm_srcs HXV.out (List.mem_of_getElem? hy)
              obtain ⟨B, off, u, rfl, hu', e0, e1, e2, e3, e4, e5, e6⟩ := hr3.src (b_then hb1 hbw) hy
              have hu0 := Lib.hid hu'
              obtain ⟨A', c', rfl, _⟩ := hu'
              have hsn := ext_snoc s nd c f t hy
              have Hsn := Lib.hid hsn
              have Hyv := Lib.hid hyv
              have Hy := Lib.hid hy
              clear hsn hyv hy
              generalize hpg : extSum s nd (x.srcs.take k) c f t = pk at Hsn ⊢
              clear hpg
              have hbn : Below wr.heap.size wr (wr.alloc (.cells #[.int .i64 y.pt.x, .int .i64 y.pt.y, .int .i64 y.pow, .slice A' y.ch.length c', .int .i64 y.per, .int .i64 y.frm, .int .i64 y.to] 30)) := b_alloc (Below.refl _ _) _
              obtain ⟨m0, m1, m2, m3, m4, m5, m6, m7⟩ := q _ (b_then hbw hbn)
              go_wp2_with fail
              refine (r06has y.ch c _ _ (hu0.out.mono KI.st hbn)).mono ?_
              rintro e w3 ⟨rfl, rfl⟩
              rcases Bool.eq_false_or_eq_true (hasB y.ch c) with r | r
              · rw [r]
                have Hr := Lib.hid r
                clear r
                go_wp2_with fail
                refine (r06On y _ f t _ (hu0.out.mono KI.st hbn)).mono ?_
                rintro e w4 ⟨rfl, hb4⟩
                have hion : isOn y f t = onB y f t := by simp [isOn, Hyv.out, Q3.out]
                rw [hion]
                have hbw4 := b_then hbw (b_then hbn hb4)
                rcases Bool.eq_false_or_eq_true (onB y f t) with r2 | r2
                · rw [r2]
                  have Hr2 := Lib.hid r2
                  clear r2
                  obtain ⟨n0, n1, n2, n3, n4, n5, n6, n7⟩ := q _ hbw4; have Ln0 := Later.cell n0; have Ln1 := Later.cell n1; have Ln2 := Later.cell n2; have Ln3 := Later.cell n3; have Ln4 := Later.cell n4; have Ln5 := Later.cell n5; have Ln6 := Later.cell n6; have Ln7 := Later.cell n7
                  have L0 := Later.cell (box_at hb4 rfl 0 rfl)
                  have L1 := Later.cell (box_at hb4 rfl 1 rfl)
                  have L2 := Later.cell (box_at hb4 rfl 2 rfl)
                  obtain ⟨_, _, hAe, d0, d1⟩ := hr0.pt (b_then hb1 hbw4) HND.out
                  cases hAe
                  have D0 := Later.cell d0
                  have D1 := Later.cell d1
                  go_wp2_with fail
                  have hsL : ∀ z : Later w4, SiteV z.W _ s := fun z => hs'.out.mono (b_then (b_then hb1 hbw4) z.below)
                  refine wp_region_later (by kernel_rfl) (by kernel_rfl) ?_
                  repeat (go_big_quiet_step ((go_at_call 52; exact later_of (r05At s _ y.pt y.pow nd _ (hsL _)))))
                  refine wpQuiet_nil ?_
                  rintro _ ⟨z, rfl⟩
                  have hbz2 := b_then hbw4 z.below
                  go_wp2
                  go_roundw
                  case rel => exact ⟨k + 1, by omega, by go_num, by rw [Hsn.out]; simp [actB, Hr.out, Hr2.out], hbz2⟩
                  case measure => simp [intOf]; omega
                · rw [r2]
                  go_wp2
                  go_roundw
                  case rel => exact ⟨k + 1, by omega, by go_num, by rw [Hsn.out]; simp [actB, r2], hbw4⟩
                  case measure => simp [intOf]; omega
              · rw [r]
                go_wp2
                go_roundw
                case rel => exact ⟨k + 1, by omega, by go_num, by rw [Hsn.out]; simp [actB, r], b_then hbw hbn⟩
                case measure => simp [intOf]; omega
            · obtain rfl : k = x.srcs.length := by omega
              go_wp2
              go_ret2
              exact ⟨ret_two (by rw [HNe.out, List.take_length]; rfl) rfl, b_then hb1 hbw⟩
        · rw [z3]
          have hRe : R = 2 := by rw [← HR.out]; simp only [extE, Q.out, Q1.out, Q2.out, z3]; rfl
          subst hRe
          have hNe : N = 0 := by rw [← HN.out, extN, HR.out]; rfl
          subst hNe
          go_wp2
          go_ret2
          exact ⟨rfl, hbz⟩
      · rw [z2]
        have hRe : R = 2 := by rw [← HR.out]; simp only [extE, Q.out, Q1.out, z2]; rfl
        subst hRe
        have hNe : N = 0 := by rw [← HN.out, extN, HR.out]; rfl
        subst hNe
        go_wp2
        go_ret2
        exact ⟨rfl, hbz⟩
    · have hnE : nodesE s x a a = 7 := by simp only [nodesE, z, z1]; rfl
      have hRe : R = 7 := by rw [← HR.out]; simp only [extE, z, z1]; rfl
      subst hRe
      have hNe : N = 0 := by rw [← HN.out, extN, HR.out]; rfl
      subst hNe
      rw [hnE]
      go_wp2
      go_ret2
      exact ⟨rfl, hbz⟩
  · have hnE : nodesE s x a a = 1 := by simp only [nodesE, z]; rfl
    have hRe : R = 1 := by rw [← HR.out]; simp only [extE, z]; rfl
    subst hRe
    have hNe : N = 0 := by rw [← HN.out, extN, HR.out]; rfl
    subst hNe
    rw [hnE]
    go_wp2
    go_ret2
    exact ⟨rfl, hbz⟩
end Go.Proofs.Ytlndgoaobalenaa
