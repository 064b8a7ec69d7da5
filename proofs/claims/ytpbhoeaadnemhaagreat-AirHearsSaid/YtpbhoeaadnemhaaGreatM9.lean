/- External power: the program. -/
import Derived.Test.YtpbhoeaadnemhaaGreatM8
import Derived.Test.YtpbhoeaadnemhaaGreatM1
namespace Go.Proofs.YtpbhoeaadnemhaaGreat
open Go.RowKit Go.Shelf
attribute [local go_sem] Oper.semAt_some
set_option linter.unusedVariables false
set_option linter.unusedSimpArgs false
set_option maxHeartbeats 4000000
set_option maxRecDepth 100000
theorem sExternal (s : Site) (x : Spm) (v xv : Value) (a c f t : Int) (w : World) (hs : SiteV w v s) (hx : SpmV w xv x) :
    Calls Tryz.prog 47 #[v, xv, .int .i64 a, .int .i64 c, .int .i64 f, .int .i64 t] w fun e w' => e = .returned (.tuple #[.int .i64 (extN s x a c f t), .int .i64 (extE s x a c f t)]) ∧ Below w.heap.size w w' := by
  have hu := Tryz.underlying26
  have hu2 := Tryz.underlying30
  have hu3 := Tryz.underlying83
  have hu4 := Tryz.underlying54
  have hs' := Lib.hid hs
  have hx' := Lib.hid hx
  obtain ⟨v0, v1, v2, rfl, h0, h1, h2⟩ := hs
  obtain ⟨A0, c0, rfl, hc0, hm0, hr0⟩ := h0
  obtain ⟨A1, c1, rfl, _⟩ := h1
  obtain ⟨A2, c2, rfl, _⟩ := h2
  obtain ⟨x0, x1, rfl, h3, h4⟩ := hx
  have H3 := Lib.hid h3
  obtain ⟨A3, c3, rfl, hc3, hm3, hr3⟩ := h3
  obtain ⟨A4, c4, rfl, _⟩ := h4
  unfold big at hm0 hm3
  obtain ⟨R, hR⟩ : ∃ R, extE s x a c f t = R := ⟨_, rfl⟩
  obtain ⟨N, hN⟩ : ∃ N, extN s x a c f t = N := ⟨_, rfl⟩
  rw [hR, hN]
  have HR := Lib.hid hR
  have HN := Lib.hid hN
  clear hR hN
  obtain ⟨W1, hW1⟩ : ∃ W : World, W = (((w.alloc (.cells #[.slice A0 s.nodes.length c0, .slice A1 s.powers.length c1, .slice A2 s.walls.length c2, .int .i64 s.ex, .int .i64 s.noise, .int .i64 s.thr] 26)).alloc (.cells #[.slice A3 x.srcs.length c3, .slice A4 x.fds.length c4] 30)).alloc (.cells #[.int .i64 a] 3)) := ⟨_, rfl⟩; have hb1 : Below w.heap.size w W1 := (by rw [hW1]; (repeat (first | exact Below.refl _ _ | assumption | apply b_alloc | apply b_drewN | apply b_drew))); have q : ∀ wq : World, Below W1.heap.size W1 wq → wq.cell? ⟨w.heap.size, 0, none⟩ = some (.slice A0 s.nodes.length c0) ∧ wq.cell? ⟨w.heap.size, 1, none⟩ = some (.slice A1 s.powers.length c1) ∧ wq.cell? ⟨w.heap.size, 2, none⟩ = some (.slice A2 s.walls.length c2) ∧ wq.cell? ⟨w.heap.size, 3, none⟩ = some (.int .i64 s.ex) ∧ wq.cell? ⟨w.heap.size, 4, none⟩ = some (.int .i64 s.noise) ∧ wq.cell? ⟨w.heap.size, 5, none⟩ = some (.int .i64 s.thr) ∧ wq.cell? ⟨w.heap.size + 1, 0, none⟩ = some (.slice A3 x.srcs.length c3) ∧ wq.cell? ⟨w.heap.size + 1, 1, none⟩ = some (.slice A4 x.fds.length c4) ∧ wq.cell? ⟨w.heap.size + 1 + 1, 0, none⟩ = some (.int .i64 a) := (fun wq hwr => ⟨cell_mono hwr (by rw [hW1]; go_simp), cell_mono hwr (by rw [hW1]; go_simp), cell_mono hwr (by rw [hW1]; go_simp), cell_mono hwr (by rw [hW1]; go_simp), cell_mono hwr (by rw [hW1]; go_simp), cell_mono hwr (by rw [hW1]; go_simp), cell_mono hwr (by rw [hW1]; go_simp), cell_mono hwr (by rw [hW1]; go_simp), cell_mono hwr (by rw [hW1]; go_simp)⟩); have HW := Lib.hid hW1; clear hW1
  refine (callsIn_wide (n := 10)).1 (callsIn_of_wp_marks Tryz.func47 rfl trivial (wpIn_wide.2 ?_) rfl)
  simp only [Tryz.ntmps47, List.size_toArray, List.length_cons, List.length_nil, Nat.reduceAdd, Nat.reduceSub, Array.replicate_succ, Array.replicate_zero, List.push_toArray, List.append_toArray, List.nil_append, List.cons_append]
  go_wp2_with fail
  rw [← HW.out]
  refine (gCheck s _ _ (hs'.out.mono hb1)).mono ?_
  rintro e w2 ⟨rfl, hb2⟩
  have hbz := b_then hb1 hb2
  obtain ⟨l0, l1, l2, l3, l4, l5, l6, l7, l8⟩ := q _ hb2
  rcases Bool.eq_false_or_eq_true (siteB s) with z | z
  · rw [z, okN_true]
    have Q := Lib.hid z
    clear z
    go_wp2_with fail
    refine (sCheck x _ _ (hx'.out.mono hbz)).mono ?_
    rintro e w3 ⟨rfl, hb3⟩
    have hb23 := b_then hb2 hb3
    have hbz3 := b_then hb1 hb23
    obtain ⟨m0, m1, m2, m3, m4, m5, m6, m7, m8⟩ := q _ hb23
    rcases Bool.eq_false_or_eq_true (spmB x) with z1 | z1
    · rw [z1, okN_true]
      have Q1 := Lib.hid z1
      clear z1
      by_cases G : 0 ≤ a ∧ a < s.nodes.length
      · obtain ⟨in0, in1⟩ := G
        have hin : inB s a = true := by simp [inB, in0, in1]
        have Q2 := Lib.hid hin
        clear hin
        go_wp2_with fail
        refine (sChannel c _).mono ?_
        rintro e w4 ⟨rfl, rfl⟩
        rcases Bool.eq_false_or_eq_true (chB c) with z2 | z2
        · rw [z2]
          have Q3 := Lib.hid z2
          clear z2
          go_wp2_with fail
          refine (sInterval f t _).mono ?_
          rintro e w4 ⟨rfl, rfl⟩
          rcases Bool.eq_false_or_eq_true (ivB f t) with z3 | z3
          · rw [z3]
            have Q4 := Lib.hid z3
            clear z3
            have hbA : Below w3.heap.size w3 (w3.alloc (.cells #[.int .i64 0] 3)) := b_alloc (Below.refl _ _) _
            obtain ⟨n0, n1, n2, n3, n4, n5, n6, n7, n8⟩ := q _ (b_then hb23 hbA)
            go_wp2_with fail
            refine (sActive _ _ c f t _ ⟨_, _, _, rfl⟩ ⟨_, _, _, rfl⟩).mono ?_
            rintro e w4 ⟨rfl, rfl⟩
            go_wp2_with fail
            obtain ⟨nd, hnd⟩ : ∃ nd, s.nodes[a.toNat]? = some nd := ⟨_, List.getElem?_eq_getElem (by omega)⟩
            have hni : nodeI s a = nd := by simp [nodeI, hnd]
            obtain ⟨Bn, on, rfl, _, _⟩ := hr0.pt (b_then hb1 hb2) hnd
            have HND := Lib.hid hnd
            have HNI := Lib.hid hni
            clear hnd hni
            have hA : ActF (w3.heap.size + 1) (w3.heap.size + 1 + 1) (w3.heap.size + 1 + 1 + 1) (w3.heap.size + 1 + 1 + 1 + 1) (.slice A3 x.srcs.length c3) (.slice A4 x.fds.length c4) c f t w
                (((((w3.alloc (.cells #[.int .i64 0] 3)).alloc (.cells #[.slice A3 x.srcs.length c3, .slice A4 x.fds.length c4] 30)).alloc (.cells #[.int .i64 c] 3)).alloc (.cells #[.int .i64 f] 3)).alloc (.cells #[.int .i64 t] 3)) :=
              ⟨by go_simp, by go_simp, by go_simp, by go_simp, by go_simp, by (repeat (first | exact Below.refl _ _ | assumption | apply b_alloc | apply b_drewN | apply b_drew))⟩
            have hB0 : Below w3.heap.size w3 (((((w3.alloc (.cells #[.int .i64 0] 3)).alloc (.cells #[.slice A3 x.srcs.length c3, .slice A4 x.fds.length c4] 30)).alloc (.cells #[.int .i64 c] 3)).alloc (.cells #[.int .i64 f] 3)).alloc (.cells #[.int .i64 t] 3)) := by (repeat (first | exact Below.refl _ _ | assumption | apply b_alloc | apply b_drewN | apply b_drew))
            have hsz : (((((w3.alloc (.cells #[.int .i64 0] 3)).alloc (.cells #[.slice A3 x.srcs.length c3, .slice A4 x.fds.length c4] 30)).alloc (.cells #[.int .i64 c] 3)).alloc (.cells #[.int .i64 f] 3)).alloc (.cells #[.int .i64 t] 3)).heap.size = w3.heap.size + 5 := by simp
            have hq0 := ((((Boxed.new w3 3 (.int .i64 0)).alloc (.cells #[.slice A3 x.srcs.length c3, .slice A4 x.fds.length c4] 30)).alloc (.cells #[.int .i64 c] 3)).alloc (.cells #[.int .i64 f] 3)).alloc (.cells #[.int .i64 t] 3)
            generalize hW0 : (((((w3.alloc (.cells #[.int .i64 0] 3)).alloc (.cells #[.slice A3 x.srcs.length c3, .slice A4 x.fds.length c4] 30)).alloc (.cells #[.int .i64 c] 3)).alloc (.cells #[.int .i64 f] 3)).alloc (.cells #[.int .i64 t] 3)) = W0 at *
            clear hW0
            have hz1 := hb1.size
            have hz23 := hb23.size
            refine (wpIn_wide (n := 10)).1 (wpIn_rangeFunc_ownH (F := Fence.wide) rfl (by omega) (gf := 91) (lb := #[.pointer (some ⟨w3.heap.size + 1, 0, none⟩), .pointer (some ⟨w3.heap.size + 1 + 1, 0, none⟩), .pointer (some ⟨w3.heap.size + 1 + 1 + 1, 0, none⟩), .pointer (some ⟨w3.heap.size + 1 + 1 + 1 + 1, 0, none⟩)]) rfl trivial (enters_of Tryz.func91 (by kernel_rfl) rfl)
              (active1 9 (by omega) _ _ _ _ _ _ x.srcs c f t w W0 H3.out (fun s hs => spm_srcs Q1.out hs) Q4.out hA (Bbt W0.heap.size w3.heap.size) ?kf) bbt_t (bbt_b (Nat.le_refl _)) (Below.refl _ _) (fun _ => rfl)
              (fun pre W => Boxed W w3.heap.size 3 (.int .i64 (List.foldl (fun (n : Int) (q : SrcC) => wrap64 (n + atN s q.1.pt q.1.pow nd)) 0 pre)) ∧ Bbt W0.heap.size w3.heap.size W0 W) (fun _ _ _ => False)
              (OwnFrom.and (Own.from (boxed_own _ _ _) _) (ownFrom_bbt (Nat.le_refl _) (Nat.le_refl _))) (fun _ _ _ _ _ hs _ _ => hs) ⟨hq0, Bbt.refl _ _ _⟩
              (fun (y : SrcC) a' W => ∃ (B' : Nat) (u0 u1 u2 u3 u4 u5 u7 u9 u10 u11 u12 u13 u16 u17 u18 u19 u20 u21 u22 u23 u24 u25 u26 u27 u28 u29 u30 u31 u32 u33 u34 u35 u36 u37 u38 u39 u40 u41 u42 u43 u44 u45 u46 u47 u48 u49 u50 u51 u52 u53 u54 u55 u56 u57 u58 u59 u60 u61 u62 u63 u64 u65 u66 u67 u68 u69 u70 : Value), W.heap[B']? = some (.cells #[.int .i64 (y.1).pt.x, .int .i64 (y.1).pt.y, .int .i64 (y.1).pow, .slice y.2.1 y.2.2.1 y.2.2.2, .int .i64 (y.1).per, .int .i64 (y.1).frm, .int .i64 (y.1).to] 83 (0, 0)) ∧ a' = { tmps := #[u0, u1, u2, u3, u4, u5, .pointer (some ⟨w.heap.size, 0, none⟩), u7, .pointer (some ⟨w.heap.size + 1 + 1, 0, none⟩), u9, u10, u11, u12, u13, .pointer (some ⟨w3.heap.size, 0, none⟩), .pointer (some ⟨B', 0, none⟩), u16, u17, u18, u19, u20, u21, u22, u23, u24, u25, u26, u27, u28, u29, u30, u31, u32, u33, u34, u35, u36, u37, u38, u39, u40, u41, u42, u43, u44, u45, u46, u47, u48, u49, u50, u51, u52, u53, u54, u55, u56, u57, u58, u59, u60, u61, u62, u63, u64, u65, u66, u67, u68, u69, u70], defers := [] })
              ?ax ?assign ?body ?done ?stop)
            case kf =>
              intro X Y hXY hX
              exact ⟨(hXY.cell (by simp; omega) (by simp)).trans hX.h0, (hXY.cell (by simp; omega) (by simp)).trans hX.h1, (hXY.cell (by simp; omega) (by simp; omega)).trans hX.h5, (hXY.cell (by simp; omega) (by simp; omega)).trans hX.h6, (hXY.cell (by simp; omega) (by simp; omega)).trans hX.h7, hX.below.trans (hXY.below (by omega) (by omega))⟩
            case ax =>
              rintro y a' _ W W' row ⟨B', u0, u1, u2, u3, u4, u5, u7, u9, u10, u11, u12, u13, u16, u17, u18, u19, u20, u21, u22, u23, u24, u25, u26, u27, u28, u29, u30, u31, u32, u33, u34, u35, u36, u37, u38, u39, u40, u41, u42, u43, u44, u45, u46, u47, u48, u49, u50, u51, u52, u53, u54, u55, u56, u57, u58, u59, u60, u61, u62, u63, u64, u65, u66, u67, u68, u69, u70, hh, he⟩ hg hr
              refine ⟨B', u0, u1, u2, u3, u4, u5, u7, u9, u10, u11, u12, u13, u16, u17, u18, u19, u20, u21, u22, u23, u24, u25, u26, u27, u28, u29, u30, u31, u32, u33, u34, u35, u36, u37, u38, u39, u40, u41, u42, u43, u44, u45, u46, u47, u48, u49, u50, u51, u52, u53, u54, u55, u56, u57, u58, u59, u60, u61, u62, u63, u64, u65, u66, u67, u68, u69, u70, (hg.block B' (Array.getElem?_eq_some_iff.1 hh).1 (fun e => ?_)).trans hh, he⟩
              obtain ⟨_, o, ho, hc⟩ := hr B' e.symm
              rw [hh] at ho
              cases ho
              cases hc
            case assign =>
              intro l pre y W K hI hK
              simp only [encSrc]
              gi_wp2
              exact hK _ _ ((KeepsOthers.alloc _ _).from _) (Bbt.of_below ((Below.refl _ W).alloc hI.2.size _)) ⟨hI.1.alloc _, hI.2.trans (Bbt.of_below ((Below.refl _ W).alloc hI.2.size _))⟩ ⟨_, _, _, _, _, _, _, _, _, _, _, _, _, _, _, _, _, _, _, _, _, _, _, _, _, _, _, _, _, _, _, _, _, _, _, _, _, _, _, _, _, _, _, _, _, _, _, _, _, _, _, _, _, _, _, _, _, _, _, _, _, _, _, _, _, _, _, _, World.alloc_heap_new _ _, rfl⟩
            case body =>
              rintro l pre y a' W hl _ ⟨hq1, hB1⟩ ⟨B', u0, u1, u2, u3, u4, u5, u7, u9, u10, u11, u12, u13, u16, u17, u18, u19, u20, u21, u22, u23, u24, u25, u26, u27, u28, u29, u30, u31, u32, u33, u34, u35, u36, u37, u38, u39, u40, u41, u42, u43, u44, u45, u46, u47, u48, u49, u50, u51, u52, u53, u54, u55, u56, u57, u58, u59, u60, u61, u62, u63, u64, u65, u66, u67, u68, u69, u70, hh, rfl⟩ hN
              have hbW : Below W1.heap.size W1 W := (b_then hb23 hB0).trans (hB1.below (by omega) (by omega))
              obtain ⟨n0, n1, n2, n3, n4, n5, n6, n7, n8⟩ := q _ hbW; have Ln0 := Later.cell n0; have Ln1 := Later.cell n1; have Ln2 := Later.cell n2; have Ln3 := Later.cell n3; have Ln4 := Later.cell n4; have Ln5 := Later.cell n5; have Ln6 := Later.cell n6; have Ln7 := Later.cell n7; have Ln8 := Later.cell n8
              obtain ⟨_, _, hAe, d0, d1⟩ := hr0.pt (b_then hb1 hbW) HND.out
              cases hAe
              have D0 := Later.cell d0
              have D1 := Later.cell d1
              have L0 := Later.cell (show W.cell? ⟨B', 0, none⟩ = some (.int .i64 y.1.pt.x) by simp [World.cell?, hh])
              have L1 := Later.cell (show W.cell? ⟨B', 1, none⟩ = some (.int .i64 y.1.pt.y) by simp [World.cell?, hh])
              have L2 := Later.cell (show W.cell? ⟨B', 2, none⟩ = some (.int .i64 y.1.pow) by simp [World.cell?, hh])
              have hsL : ∀ z : Later W, SiteV z.W _ s := fun z => hs'.out.mono (b_then (b_then hb1 hbW) z.below)
              gi_wp2_with fail
              refine wpIn_region_later_round (by kernel_rfl) (by kernel_rfl) (by kernel_rfl) ?_
              repeat (go_big_quiet_step ((go_at_call 71; exact later_of (gAt s _ y.1.pt y.1.pow nd _ (hsL _)))))
              refine wpQuiet_nil ?_
              rintro _ ⟨z, rfl⟩
              have hqz : Boxed z.W w3.heap.size 3 (.int .i64 (List.foldl (fun (n : Int) (q : SrcC) => wrap64 (n + atN s q.1.pt q.1.pow nd)) 0 pre)) := (z.below.block _ hq1.lt).trans hq1
              have hBz : Bbt W0.heap.size w3.heap.size W z.W := Bbt.of_below (z.below.mono hB1.size)
              have cq := hqz.cell
              have fq := hqz.frozen
              gi_wp2
              exact ⟨((keeps_below z.below).trans (KeepsOthers.setCell _ _ _)).from _, hBz.trans (Bbt.setCell _ _ _ _), by have h2 := hqz.set (.int .i64 (wrap64 (List.foldl (fun (n : Int) (q : SrcC) => wrap64 (n + atN s q.1.pt q.1.pow nd)) 0 pre + atN s y.1.pt y.1.pow nd))); simpa [List.foldl_append] using h2, hB1.trans (hBz.trans (Bbt.setCell _ _ _ _))⟩
            case stop =>
              rintro D c pre W _ _ h _
              exact h.elim
            case done =>
              rintro D xs W hD hxs ⟨hq1, hB1⟩ hK
              have cq := hq1.cell
              have hfin : List.foldl (fun (n : Int) (q : SrcC) => wrap64 (n + atN s q.1.pt q.1.pow nd)) 0 xs = extSum s (nodeI s a) x.srcs c f t := by
                unfold extSum
                rw [← hxs, List.foldl_map, HNI.out]
              have Hfin := Lib.hid hfin
              clear hfin
              have hRe : R = 0 := by rw [← HR.out]; simp only [extE, Q.out, Q1.out, Q2.out, Q3.out, Q4.out]; rfl
              subst hRe
              have hNe : N = extSum s (nodeI s a) x.srcs c f t := by rw [← HN.out, extN, HR.out]; rfl
              have HNe := Lib.hid hNe
              clear hNe
              go_wp2
              refine leaves_marks [D] W (by simp) (by simpa using hK) (fun W' hW' => ⟨_, results_tmp2 rfl _ _ _, ?_, ?_⟩)
              · exact ret_two (by rw [Hfin.out, HNe.out]; rfl) rfl
              exact ((hbz3.trans (hB0.mono (by omega))).trans (hB1.below (by omega) (by omega))).trans (hW'.below (by simp; omega))
          · rw [z3]
            have hRe : R = 2 := by rw [← HR.out]; simp only [extE, Q.out, Q1.out, Q2.out, Q3.out, z3]; rfl
            subst hRe
            have hNe : N = 0 := by rw [← HN.out, extN, HR.out]; rfl
            subst hNe
            go_wp2
            exact ⟨_, results_tmp2 rfl _ _ _, ret_two rfl rfl, hbz3⟩
        · rw [z2]
          have hRe : R = 2 := by rw [← HR.out]; simp only [extE, Q.out, Q1.out, Q2.out, z2]; rfl
          subst hRe
          have hNe : N = 0 := by rw [← HN.out, extN, HR.out]; rfl
          subst hNe
          go_wp2
          exact ⟨_, results_tmp2 rfl _ _ _, ret_two rfl rfl, hbz3⟩
      · have hin : inB s a = false := by rw [Bool.eq_false_iff]; intro h; apply G; simpa [inB] using h
        have HG := Lib.hid G
        clear G
        have hRe : R = 7 := by rw [← HR.out]; simp only [extE, Q.out, Q1.out, hin]; rfl
        subst hRe
        have hNe : N = 0 := by rw [← HN.out, extN, HR.out]; rfl
        subst hNe
        go_wp2_with fail
        all_goals first
          | (exfalso; have := HG.out; omega)
          | exact ⟨_, results_tmp2 rfl _ _ _, ret_two rfl rfl, hbz3⟩
    · rw [z1, okN_false]
      have hRe : R = 1 := by rw [← HR.out]; simp only [extE, Q.out, z1]; rfl
      subst hRe
      have hNe : N = 0 := by rw [← HN.out, extN, HR.out]; rfl
      subst hNe
      go_wp2
      exact ⟨_, results_tmp2 rfl _ _ _, ret_two rfl rfl, hbz3⟩
  · rw [z, okN_false]
    have hRe : R = 1 := by rw [← HR.out]; simp only [extE, z]; rfl
    subst hRe
    have hNe : N = 0 := by rw [← HN.out, extN, HR.out]; rfl
    subst hNe
    go_wp2
    exact ⟨_, results_tmp2 rfl _ _ _, ret_two rfl rfl, hbz⟩
end Go.Proofs.YtpbhoeaadnemhaaGreat
