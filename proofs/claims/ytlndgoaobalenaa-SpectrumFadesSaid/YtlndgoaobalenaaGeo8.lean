/- The program's power at a point. -/
import Derived.Test.YtlndgoaobalenaaGeo7
namespace Go.Proofs.Ytlndgoaobalenaa
open Go.RowKit Go.Shelf
attribute [local go_sem] Oper.semAt_some
attribute [local go_sem high] max2_mx min2_mn max_two min_two
set_option linter.unusedVariables false
set_option linter.unusedSimpArgs false
set_option maxHeartbeats 4000000
set_option maxRecDepth 100000
theorem walls_fold {a b : Pt} (ha : ptB a = true) (hb : ptB b = true) : ∀ (ws : List Wl) {p : Int}, powB p = true → (∀ q, q ∈ ws → wlB q = true) → (ws.filter (crossW a b)).foldl (fun p q => scaleN p q.f) p = ws.foldl (wallI a b) p
  | [], _, _, _ => rfl
  | q :: ws, p, hp, hq => by
    have h1 := hq q (by simp)
    have h2 : ∀ q', q' ∈ ws → wlB q' = true := fun q' h' => hq q' (by simp [h'])
    have h3 := wall_pow (a := a) (b := b) hp h1
    have ih := walls_fold ha hb ws h3 h2
    rw [List.foldl_cons, ← ih, List.filter_cons, crossW_is ha hb h1]
    by_cases c : crossB a b q = true
    · have e : scaleN p q.f = wallI a b p q := by
        have h4 := h1
        simp only [wlB, Bool.and_eq_true, decide_eq_true_eq] at h4
        simp [scaleN, scaleB, wallI, c, hp, h4.1.2, h4.2]
      rw [if_pos c, List.foldl_cons, e]
    · have e : wallI a b p q = p := by simp [wallI, c]
      rw [if_neg c, e]
theorem gCrossed (x0 x1 x2 : Value) (ex noise thr : Int) (a b : Pt) (w : World) (h0 : ∃ A n k, x0 = .slice A n k) (h1 : ∃ A n k, x1 = .slice A n k) (h2 : ∃ A n k, x2 = .slice A n k) :
    Calls Try.prog 87 #[.agg #[x0, x1, x2, .int .i64 ex, .int .i64 noise, .int .i64 thr], .agg #[.int .i64 (a).x, .int .i64 (a).y], .agg #[.int .i64 (b).x, .int .i64 (b).y]] w fun e w' =>
      e = .returned (.func (.func 92) #[] #[.pointer (some ⟨w.heap.size, 0, none⟩), .pointer (some ⟨w.heap.size + 1, 0, none⟩), .pointer (some ⟨w.heap.size + 1 + 1, 0, none⟩)]) ∧
      ((w.alloc (.cells #[x0, x1, x2, .int .i64 ex, .int .i64 noise, .int .i64 thr] 45)).alloc (.cells #[.int .i64 a.x, .int .i64 a.y] 27)).alloc (.cells #[.int .i64 b.x, .int .i64 b.y] 27) = w' := by
  have hu := Try.underlying45
  have hu2 := Try.underlying27
  obtain ⟨A0, n0, k0, rfl⟩ := h0
  obtain ⟨A1, n1, k1, rfl⟩ := h1
  obtain ⟨A2, n2, k2, rfl⟩ := h2
  go_enter Try.func87, Try.ntmps87
  go_wp2
  go_ret
  exact ⟨rfl, rfl⟩
structure AtF (n : Nat) (v0 v1 v2 : Value) (ex noise thr : Int) (a b : Pt) (W : World) : Prop where
  s0 : W.cell? ⟨n, 0, none⟩ = some v0
  s1 : W.cell? ⟨n, 1, none⟩ = some v1
  s2 : W.cell? ⟨n, 2, none⟩ = some v2
  s3 : W.cell? ⟨n, 3, none⟩ = some (.int .i64 ex)
  s4 : W.cell? ⟨n, 4, none⟩ = some (.int .i64 noise)
  s5 : W.cell? ⟨n, 5, none⟩ = some (.int .i64 thr)
  a0 : W.cell? ⟨n + 1, 0, none⟩ = some (.int .i64 a.x)
  a1 : W.cell? ⟨n + 1, 1, none⟩ = some (.int .i64 a.y)
  b0 : W.cell? ⟨n + 1 + 1 + 1, 0, none⟩ = some (.int .i64 b.x)
  b1 : W.cell? ⟨n + 1 + 1 + 1, 1, none⟩ = some (.int .i64 b.y)
theorem AtF.bbt {n : Nat} {v0 v1 v2 : Value} {ex noise thr : Int} {a b : Pt} {W W' : World} (h : AtF n v0 v1 v2 ex noise thr a b W) (hb : Bbt (n + 4) (n + 1 + 1) W W') : AtF n v0 v1 v2 ex noise thr a b W' :=
  ⟨(hb.cell (by simp) (by simp; try omega)).trans h.s0, (hb.cell (by simp) (by simp; try omega)).trans h.s1, (hb.cell (by simp) (by simp; try omega)).trans h.s2, (hb.cell (by simp) (by simp; try omega)).trans h.s3, (hb.cell (by simp) (by simp; try omega)).trans h.s4, (hb.cell (by simp) (by simp; try omega)).trans h.s5,
   (hb.cell (by simp) (by simp)).trans h.a0, (hb.cell (by simp) (by simp)).trans h.a1, (hb.cell (by simp) (by simp)).trans h.b0, (hb.cell (by simp) (by simp)).trans h.b1⟩
theorem gAt0 (s : Site) (v : Value) (a : Pt) (p : Int) (b : Pt) (w : World) (hs : SiteV w v s) (hv : siteB s = true) (ha : ptB a = true) (hb : ptB b = true) (hp : powB p = true) :
    Calls Try.prog 77 #[v, .agg #[.int .i64 (a).x, .int .i64 (a).y], .int .i64 p, .agg #[.int .i64 (b).x, .int .i64 (b).y]] w fun e w' => e = .returned (.int .i64 (atI s a p b)) ∧ Below w.heap.size w w' := by
  have hu := Try.underlying45
  have hu2 := Try.underlying27
  have hu3 := Try.underlying92
  obtain ⟨nodes, powers, walls, ex, noise, thr⟩ := s
  obtain ⟨v0, v1, v2, rfl, h0, h1, h2⟩ := hs
  obtain ⟨A0, c0, rfl, _⟩ := h0
  obtain ⟨A1, c1, rfl, _⟩ := h1
  have H2 := Lib.hid h2
  obtain ⟨A2, c2, rfl, _⟩ := h2
  dsimp only at *
  obtain ⟨sq, sq0, sq1⟩ := square_is ha hb
  have hwl : ∀ q, q ∈ walls → wlB q = true := by
    simp only [siteB, Bool.and_eq_true, List.all_eq_true] at hv
    exact hv.2
  obtain ⟨p0, p1⟩ := pow_is hp
  refine (callsIn_wide (n := 10)).1 (callsIn_of_wp_marks Try.func77 rfl trivial (wpIn_wide.2 ?_) rfl)
  simp only [Try.ntmps77, List.size_toArray, List.length_cons, List.length_nil, Nat.reduceAdd, Nat.reduceSub, Array.replicate_succ, Array.replicate_zero, List.push_toArray, List.append_toArray, List.nil_append, List.cons_append]
  go_wp2_with fail
  refine (gSquareW a b _).mono ?_
  rintro e w2 ⟨rfl, hb2⟩
  rw [sq]
  have F1 : AtF w.heap.size (.slice A0 nodes.length c0) (.slice A1 powers.length c1) (.slice A2 walls.length c2) ex noise thr a b ((((w.alloc (.cells #[.slice A0 nodes.length c0, .slice A1 powers.length c1, .slice A2 walls.length c2, .int .i64 ex, .int .i64 noise, .int .i64 thr] 45)).alloc (.cells #[.int .i64 a.x, .int .i64 a.y] 27)).alloc (.cells #[.int .i64 p] 3)).alloc (.cells #[.int .i64 b.x, .int .i64 b.y] 27)) :=
    ⟨by go_simp, by go_simp, by go_simp, by go_simp, by go_simp, by go_simp, by go_simp, by go_simp, by go_simp, by go_simp⟩
  have Q1 : Boxed ((((w.alloc (.cells #[.slice A0 nodes.length c0, .slice A1 powers.length c1, .slice A2 walls.length c2, .int .i64 ex, .int .i64 noise, .int .i64 thr] 45)).alloc (.cells #[.int .i64 a.x, .int .i64 a.y] 27)).alloc (.cells #[.int .i64 p] 3)).alloc (.cells #[.int .i64 b.x, .int .i64 b.y] 27)) (w.heap.size + 1 + 1) 3 (.int .i64 p) := by
    have := (Boxed.new ((w.alloc (.cells #[.slice A0 nodes.length c0, .slice A1 powers.length c1, .slice A2 walls.length c2, .int .i64 ex, .int .i64 noise, .int .i64 thr] 45)).alloc (.cells #[.int .i64 a.x, .int .i64 a.y] 27)) 3 (.int .i64 p)).alloc (.cells #[.int .i64 b.x, .int .i64 b.y] 27)
    simpa using this
  have hbb : Below w.heap.size w ((((w.alloc (.cells #[.slice A0 nodes.length c0, .slice A1 powers.length c1, .slice A2 walls.length c2, .int .i64 ex, .int .i64 noise, .int .i64 thr] 45)).alloc (.cells #[.int .i64 a.x, .int .i64 a.y] 27)).alloc (.cells #[.int .i64 p] 3)).alloc (.cells #[.int .i64 b.x, .int .i64 b.y] 27)) := by (repeat (first | exact Below.refl _ _ | assumption | apply b_alloc | apply b_drewN | apply b_drew))
  have hsz : ((((w.alloc (.cells #[.slice A0 nodes.length c0, .slice A1 powers.length c1, .slice A2 walls.length c2, .int .i64 ex, .int .i64 noise, .int .i64 thr] 45)).alloc (.cells #[.int .i64 a.x, .int .i64 a.y] 27)).alloc (.cells #[.int .i64 p] 3)).alloc (.cells #[.int .i64 b.x, .int .i64 b.y] 27)).heap.size = w.heap.size + 4 := by simp
  generalize hW1 : ((((w.alloc (.cells #[.slice A0 nodes.length c0, .slice A1 powers.length c1, .slice A2 walls.length c2, .int .i64 ex, .int .i64 noise, .int .i64 thr] 45)).alloc (.cells #[.int .i64 a.x, .int .i64 a.y] 27)).alloc (.cells #[.int .i64 p] 3)).alloc (.cells #[.int .i64 b.x, .int .i64 b.y] 27)) = W1 at *
  clear hW1
  have B2 : Bbt (w.heap.size + 4) (w.heap.size + 1 + 1) W1 w2 := .of_below (hsz ▸ hb2)
  have F2 := F1.bbt B2
  have Q2 : Boxed w2 (w.heap.size + 1 + 1) 3 (.int .i64 p) := (hb2.block _ Q1.lt).trans Q1
  have q2 := Q2.cell
  have fz2 := Q2.frozen
  obtain ⟨s0, s1, s2, s3, s4, s5, a0, a1, b0, b1⟩ := id F2
  have hM0 : 100 ≤ max (squareI a b) 100 := Int.le_max_right _ _
  have hM1 : max (squareI a b) 100 ≤ 200000000 := Int.max_le.2 ⟨sq1, by omega⟩
  generalize hM : max (squareI a b) 100 = M at hM0 hM1
  obtain ⟨d0, d1⟩ := down p0 hM0
  obtain ⟨d2, d3⟩ := down d0 hM0
  by_cases hex : ex = 4
  · subst hex
    have hbase : baseI 4 a p b = p * 100 / M * 100 / M := by simp [baseI, hM]
    have Hbase := Lib.hid hbase
    clear hbase
    have B3 : Bbt (w.heap.size + 4) (w.heap.size + 1 + 1) w2 ((w2.setCell ⟨w.heap.size + 1 + 1, 0, none⟩ (.int .i64 (p * 100 / M))).setCell ⟨w.heap.size + 1 + 1, 0, none⟩ (.int .i64 (p * 100 / M * 100 / M))) := (Bbt.setCell _ _ _ _).trans (Bbt.setCell _ _ _ _)
    have Q3 := (Q2.set (.int .i64 (p * 100 / M))).set (.int .i64 (p * 100 / M * 100 / M))
    go_wp2_with fail
    generalize hX : ((w2.setCell ⟨w.heap.size + 1 + 1, 0, none⟩ (.int .i64 (p * 100 / M))).setCell ⟨w.heap.size + 1 + 1, 0, none⟩ (.int .i64 (p * 100 / M * 100 / M))) = X at *
    generalize hpb : p * 100 / M * 100 / M = pb at *
    clear hX
    refine (gCrossed _ _ _ 4 noise thr a b _ ⟨_, _, _, rfl⟩ ⟨_, _, _, rfl⟩ ⟨_, _, _, rfl⟩).mono ?_
    rintro e w3 ⟨rfl, rfl⟩
    go_wp2_with fail
    have hXb : Below w.heap.size w X := hbb.trans ((B2.trans B3).below (by omega) (by omega))
    have hsX : w.heap.size + 4 ≤ X.heap.size := by have := (B2.trans B3).size; omega
    have hA : CrF X.heap.size (X.heap.size + 1) (X.heap.size + 1 + 1) (.slice A2 walls.length c2) a b w (((X.alloc (.cells #[.slice A0 nodes.length c0, .slice A1 powers.length c1, .slice A2 walls.length c2, .int .i64 4, .int .i64 noise, .int .i64 thr] 45)).alloc (.cells #[.int .i64 a.x, .int .i64 a.y] 27)).alloc (.cells #[.int .i64 b.x, .int .i64 b.y] 27)) := ⟨by go_simp, by go_simp, by go_simp, by go_simp, by go_simp, b_alloc (b_alloc (b_alloc hXb _) _) _⟩
    have hQ0 : Boxed (((X.alloc (.cells #[.slice A0 nodes.length c0, .slice A1 powers.length c1, .slice A2 walls.length c2, .int .i64 4, .int .i64 noise, .int .i64 thr] 45)).alloc (.cells #[.int .i64 a.x, .int .i64 a.y] 27)).alloc (.cells #[.int .i64 b.x, .int .i64 b.y] 27)) (w.heap.size + 1 + 1) 3 (.int .i64 pb) := ((Q3.alloc _).alloc _).alloc _
    have hs0 : ((((X.alloc (.cells #[.slice A0 nodes.length c0, .slice A1 powers.length c1, .slice A2 walls.length c2, .int .i64 4, .int .i64 noise, .int .i64 thr] 45)).alloc (.cells #[.int .i64 a.x, .int .i64 a.y] 27)).alloc (.cells #[.int .i64 b.x, .int .i64 b.y] 27))).heap.size = X.heap.size + 3 := by simp
    generalize hW0 : (((X.alloc (.cells #[.slice A0 nodes.length c0, .slice A1 powers.length c1, .slice A2 walls.length c2, .int .i64 4, .int .i64 noise, .int .i64 thr] 45)).alloc (.cells #[.int .i64 a.x, .int .i64 a.y] 27)).alloc (.cells #[.int .i64 b.x, .int .i64 b.y] 27)) = W0 at *
    clear hW0
    refine (wpIn_wide (n := 10)).1 (wpIn_rangeFunc_ownH (F := Fence.wide) rfl (by omega) (gf := 92) (lb := #[.pointer (some ⟨X.heap.size, 0, none⟩), .pointer (some ⟨X.heap.size + 1, 0, none⟩), .pointer (some ⟨X.heap.size + 1 + 1, 0, none⟩)]) rfl trivial (enters_of Try.func92 (by kernel_rfl) rfl)
      (crossed1 9 (by omega) _ _ _ _ walls a b w W0 H2.out hA (Bbt W0.heap.size (w.heap.size + 1 + 1)) ?kf) bbt_t (bbt_b (Nat.le_refl _)) (Below.refl _ _) (fun _ => rfl)
      (fun pre W => Boxed W (w.heap.size + 1 + 1) 3 (.int .i64 (List.foldl (fun p q => scaleN p q.f) pb pre)) ∧ Bbt W0.heap.size (w.heap.size + 1 + 1) W0 W) (fun _ _ _ => False)
      (OwnFrom.and (Own.from (boxed_own _ _ _) _) (ownFrom_bbt (Nat.le_refl _) (Nat.le_refl _))) (fun _ _ _ _ _ hs _ _ => hs) ⟨hQ0, Bbt.refl _ _ _⟩
      (fun (x : Wl) a' W => ∃ (B' : Nat) (u0 u1 u2 u3 u4 u5 u7 u8 u9 u11 u12 u13 u14 u15 u16 u17 u18 u19 u20 u21 u22 u23 u24 u25 u26 u27 u28 u29 u30 u31 u32 u33 u34 u35 u36 u37 u38 : Value), W.heap[B']? = some (.cells #[.int .i64 x.a.x, .int .i64 x.a.y, .int .i64 x.b.x, .int .i64 x.b.y, .int .i64 x.f] 92 (0, 0)) ∧ a' = { tmps := #[u0, u1, u2, u3, u4, u5, .pointer (some ⟨w.heap.size + 1 + 1, 0, none⟩), u7, u8, u9, .pointer (some ⟨B', 0, none⟩), u11, u12, u13, u14, u15, u16, u17, u18, u19, u20, u21, u22, u23, u24, u25, u26, u27, u28, u29, u30, u31, u32, u33, u34, u35, u36, u37, u38], defers := [] })
      ?ax ?assign ?body ?done ?stop)
    case kf =>
      intro Y Z hYZ hY
      exact ⟨(hYZ.cell (by simp; omega) (by simp; omega)).trans hY.h2, (hYZ.cell (by simp; omega) (by simp; omega)).trans hY.a0, (hYZ.cell (by simp; omega) (by simp; omega)).trans hY.a1, (hYZ.cell (by simp; omega) (by simp; omega)).trans hY.c0, (hYZ.cell (by simp; omega) (by simp; omega)).trans hY.c1, hY.below.trans (hYZ.below (by omega) (by omega))⟩
    case ax =>
      rintro x a' _ W W' row ⟨B', u0, u1, u2, u3, u4, u5, u7, u8, u9, u11, u12, u13, u14, u15, u16, u17, u18, u19, u20, u21, u22, u23, u24, u25, u26, u27, u28, u29, u30, u31, u32, u33, u34, u35, u36, u37, u38, hh, he⟩ hg hr
      refine ⟨B', u0, u1, u2, u3, u4, u5, u7, u8, u9, u11, u12, u13, u14, u15, u16, u17, u18, u19, u20, u21, u22, u23, u24, u25, u26, u27, u28, u29, u30, u31, u32, u33, u34, u35, u36, u37, u38, (hg.block B' (Array.getElem?_eq_some_iff.1 hh).1 (fun e => ?_)).trans hh, he⟩
      obtain ⟨_, o, ho, hc⟩ := hr B' e.symm
      rw [hh] at ho
      cases ho
      cases hc
    case assign =>
      intro l pre x W K hI hK
      simp only [encWl]
      gi_wp2
      exact hK _ _ ((KeepsOthers.alloc _ _).from _) (Bbt.of_below ((Below.refl _ W).alloc hI.2.size _)) ⟨hI.1.alloc _, hI.2.trans (Bbt.of_below ((Below.refl _ W).alloc hI.2.size _))⟩ ⟨_, _, _, _, _, _, _, _, _, _, _, _, _, _, _, _, _, _, _, _, _, _, _, _, _, _, _, _, _, _, _, _, _, _, _, _, _, _, World.alloc_heap_new _ _, rfl⟩
    case body =>
      rintro l pre x a' W hl _ ⟨hq1, hB1⟩ ⟨B', u0, u1, u2, u3, u4, u5, u7, u8, u9, u11, u12, u13, u14, u15, u16, u17, u18, u19, u20, u21, u22, u23, u24, u25, u26, u27, u28, u29, u30, u31, u32, u33, u34, u35, u36, u37, u38, hh, rfl⟩ hN
      have cq := hq1.cell
      have fq := hq1.frozen
      have hc : W.cell? ⟨B', 2, none⟩ = some (.int .i64 x.b.x) := by simp [World.cell?, hh]
      have hc4 : W.cell? ⟨B', 4, none⟩ = some (.int .i64 x.f) := by simp [World.cell?, hh]
      gi_wp2_with fail
      refine ⟨trivial, ?_⟩
      refine (callsIn_wide.2 (pScale _ _ _)).mono ?_
      rintro e w4 ⟨rfl, rfl⟩
      gi_wp2
      exact ⟨(KeepsOthers.setCell _ _ _).from _, Bbt.setCell _ _ _ _, by have h2 := hq1.set (.int .i64 (scaleN (List.foldl (fun p q => scaleN p q.f) pb pre) x.f)); simpa [List.foldl_append] using h2, hB1.trans (Bbt.setCell _ _ _ _)⟩
    case stop =>
      rintro D c pre W _ _ h _
      exact h.elim
    case done =>
      rintro D xs W hD hxs ⟨hq1, hB1⟩ hK
      subst hxs
      have cq := hq1.cell
      have hfin : List.foldl (fun p q => scaleN p q.f) pb (walls.filter (crossW a b)) = atI ⟨nodes, powers, walls, 4, noise, thr⟩ a p b := by
        rw [walls_fold ha hb walls (by rw [← Hbase.out]; exact base_pow _ a b hp) hwl]
        simp only [atI, Hbase.out]
      have Hfin := Lib.hid hfin
      clear hfin
      go_wp2
      refine leaves_marks [D] W (by simp) (by simpa using hK) (fun W' hW' => ⟨_, results_tmp rfl _ _ _, ?_, ?_⟩)
      · exact ret_int Hfin.out
      exact (hA.below.trans (hB1.below (by omega) (by omega))).trans (hW'.below (by simp; omega))
  · have hex1 : (ex == 4) = false := by simpa using hex
    have hbase : baseI ex a p b = p * 100 / M := by simp [baseI, hex, hM]
    have Hbase := Lib.hid hbase
    clear hbase
    have B3 : Bbt (w.heap.size + 4) (w.heap.size + 1 + 1) w2 (w2.setCell ⟨w.heap.size + 1 + 1, 0, none⟩ (.int .i64 (p * 100 / M))) := Bbt.setCell _ _ _ _
    have Q3 := Q2.set (.int .i64 (p * 100 / M))
    go_wp2_with fail
    generalize hX : (w2.setCell ⟨w.heap.size + 1 + 1, 0, none⟩ (.int .i64 (p * 100 / M))) = X at *
    generalize hpb : p * 100 / M = pb at *
    clear hX
    refine (gCrossed _ _ _ ex noise thr a b _ ⟨_, _, _, rfl⟩ ⟨_, _, _, rfl⟩ ⟨_, _, _, rfl⟩).mono ?_
    rintro e w3 ⟨rfl, rfl⟩
    go_wp2_with fail
    have hXb : Below w.heap.size w X := hbb.trans ((B2.trans B3).below (by omega) (by omega))
    have hsX : w.heap.size + 4 ≤ X.heap.size := by have := (B2.trans B3).size; omega
    have hA : CrF X.heap.size (X.heap.size + 1) (X.heap.size + 1 + 1) (.slice A2 walls.length c2) a b w (((X.alloc (.cells #[.slice A0 nodes.length c0, .slice A1 powers.length c1, .slice A2 walls.length c2, .int .i64 ex, .int .i64 noise, .int .i64 thr] 45)).alloc (.cells #[.int .i64 a.x, .int .i64 a.y] 27)).alloc (.cells #[.int .i64 b.x, .int .i64 b.y] 27)) := ⟨by go_simp, by go_simp, by go_simp, by go_simp, by go_simp, b_alloc (b_alloc (b_alloc hXb _) _) _⟩
    have hQ0 : Boxed (((X.alloc (.cells #[.slice A0 nodes.length c0, .slice A1 powers.length c1, .slice A2 walls.length c2, .int .i64 ex, .int .i64 noise, .int .i64 thr] 45)).alloc (.cells #[.int .i64 a.x, .int .i64 a.y] 27)).alloc (.cells #[.int .i64 b.x, .int .i64 b.y] 27)) (w.heap.size + 1 + 1) 3 (.int .i64 pb) := ((Q3.alloc _).alloc _).alloc _
    have hs0 : ((((X.alloc (.cells #[.slice A0 nodes.length c0, .slice A1 powers.length c1, .slice A2 walls.length c2, .int .i64 ex, .int .i64 noise, .int .i64 thr] 45)).alloc (.cells #[.int .i64 a.x, .int .i64 a.y] 27)).alloc (.cells #[.int .i64 b.x, .int .i64 b.y] 27))).heap.size = X.heap.size + 3 := by simp
    generalize hW0 : (((X.alloc (.cells #[.slice A0 nodes.length c0, .slice A1 powers.length c1, .slice A2 walls.length c2, .int .i64 ex, .int .i64 noise, .int .i64 thr] 45)).alloc (.cells #[.int .i64 a.x, .int .i64 a.y] 27)).alloc (.cells #[.int .i64 b.x, .int .i64 b.y] 27)) = W0 at *
    clear hW0
    refine (wpIn_wide (n := 10)).1 (wpIn_rangeFunc_ownH (F := Fence.wide) rfl (by omega) (gf := 92) (lb := #[.pointer (some ⟨X.heap.size, 0, none⟩), .pointer (some ⟨X.heap.size + 1, 0, none⟩), .pointer (some ⟨X.heap.size + 1 + 1, 0, none⟩)]) rfl trivial (enters_of Try.func92 (by kernel_rfl) rfl)
      (crossed1 9 (by omega) _ _ _ _ walls a b w W0 H2.out hA (Bbt W0.heap.size (w.heap.size + 1 + 1)) ?kf) bbt_t (bbt_b (Nat.le_refl _)) (Below.refl _ _) (fun _ => rfl)
      (fun pre W => Boxed W (w.heap.size + 1 + 1) 3 (.int .i64 (List.foldl (fun p q => scaleN p q.f) pb pre)) ∧ Bbt W0.heap.size (w.heap.size + 1 + 1) W0 W) (fun _ _ _ => False)
      (OwnFrom.and (Own.from (boxed_own _ _ _) _) (ownFrom_bbt (Nat.le_refl _) (Nat.le_refl _))) (fun _ _ _ _ _ hs _ _ => hs) ⟨hQ0, Bbt.refl _ _ _⟩
      (fun (x : Wl) a' W => ∃ (B' : Nat) (u0 u1 u2 u3 u4 u5 u7 u8 u9 u11 u12 u13 u14 u15 u16 u17 u18 u19 u20 u21 u22 u23 u24 u25 u26 u27 u28 u29 u30 u31 u32 u33 u34 u35 u36 u37 u38 : Value), W.heap[B']? = some (.cells #[.int .i64 x.a.x, .int .i64 x.a.y, .int .i64 x.b.x, .int .i64 x.b.y, .int .i64 x.f] 92 (0, 0)) ∧ a' = { tmps := #[u0, u1, u2, u3, u4, u5, .pointer (some ⟨w.heap.size + 1 + 1, 0, none⟩), u7, u8, u9, .pointer (some ⟨B', 0, none⟩), u11, u12, u13, u14, u15, u16, u17, u18, u19, u20, u21, u22, u23, u24, u25, u26, u27, u28, u29, u30, u31, u32, u33, u34, u35, u36, u37, u38], defers := [] })
      ?ax ?assign ?body ?done ?stop)
    case kf =>
      intro Y Z hYZ hY
      exact ⟨(hYZ.cell (by simp; omega) (by simp; omega)).trans hY.h2, (hYZ.cell (by simp; omega) (by simp; omega)).trans hY.a0, (hYZ.cell (by simp; omega) (by simp; omega)).trans hY.a1, (hYZ.cell (by simp; omega) (by simp; omega)).trans hY.c0, (hYZ.cell (by simp; omega) (by simp; omega)).trans hY.c1, hY.below.trans (hYZ.below (by omega) (by omega))⟩
    case ax =>
      rintro x a' _ W W' row ⟨B', u0, u1, u2, u3, u4, u5, u7, u8, u9, u11, u12, u13, u14, u15, u16, u17, u18, u19, u20, u21, u22, u23, u24, u25, u26, u27, u28, u29, u30, u31, u32, u33, u34, u35, u36, u37, u38, hh, he⟩ hg hr
      refine ⟨B', u0, u1, u2, u3, u4, u5, u7, u8, u9, u11, u12, u13, u14, u15, u16, u17, u18, u19, u20, u21, u22, u23, u24, u25, u26, u27, u28, u29, u30, u31, u32, u33, u34, u35, u36, u37, u38, (hg.block B' (Array.getElem?_eq_some_iff.1 hh).1 (fun e => ?_)).trans hh, he⟩
      obtain ⟨_, o, ho, hc⟩ := hr B' e.symm
      rw [hh] at ho
      cases ho
      cases hc
    case assign =>
      intro l pre x W K hI hK
      simp only [encWl]
      gi_wp2
      exact hK _ _ ((KeepsOthers.alloc _ _).from _) (Bbt.of_below ((Below.refl _ W).alloc hI.2.size _)) ⟨hI.1.alloc _, hI.2.trans (Bbt.of_below ((Below.refl _ W).alloc hI.2.size _))⟩ ⟨_, _, _, _, _, _, _, _, _, _, _, _, _, _, _, _, _, _, _, _, _, _, _, _, _, _, _, _, _, _, _, _, _, _, _, _, _, _, World.alloc_heap_new _ _, rfl⟩
    case body =>
      rintro l pre x a' W hl _ ⟨hq1, hB1⟩ ⟨B', u0, u1, u2, u3, u4, u5, u7, u8, u9, u11, u12, u13, u14, u15, u16, u17, u18, u19, u20, u21, u22, u23, u24, u25, u26, u27, u28, u29, u30, u31, u32, u33, u34, u35, u36, u37, u38, hh, rfl⟩ hN
      have cq := hq1.cell
      have fq := hq1.frozen
      have hc : W.cell? ⟨B', 2, none⟩ = some (.int .i64 x.b.x) := by simp [World.cell?, hh]
      have hc4 : W.cell? ⟨B', 4, none⟩ = some (.int .i64 x.f) := by simp [World.cell?, hh]
      gi_wp2_with fail
      refine ⟨trivial, ?_⟩
      refine (callsIn_wide.2 (pScale _ _ _)).mono ?_
      rintro e w4 ⟨rfl, rfl⟩
      gi_wp2
      exact ⟨(KeepsOthers.setCell _ _ _).from _, Bbt.setCell _ _ _ _, by have h2 := hq1.set (.int .i64 (scaleN (List.foldl (fun p q => scaleN p q.f) pb pre) x.f)); simpa [List.foldl_append] using h2, hB1.trans (Bbt.setCell _ _ _ _)⟩
    case stop =>
      rintro D c pre W _ _ h _
      exact h.elim
    case done =>
      rintro D xs W hD hxs ⟨hq1, hB1⟩ hK
      subst hxs
      have cq := hq1.cell
      have hfin : List.foldl (fun p q => scaleN p q.f) pb (walls.filter (crossW a b)) = atI ⟨nodes, powers, walls, ex, noise, thr⟩ a p b := by
        rw [walls_fold ha hb walls (by rw [← Hbase.out]; exact base_pow _ a b hp) hwl]
        simp only [atI, Hbase.out]
      have Hfin := Lib.hid hfin
      clear hfin
      go_wp2
      refine leaves_marks [D] W (by simp) (by simpa using hK) (fun W' hW' => ⟨_, results_tmp rfl _ _ _, ?_, ?_⟩)
      · exact ret_int Hfin.out
      exact (hA.below.trans (hB1.below (by omega) (by omega))).trans (hW'.below (by simp; omega))
end Go.Proofs.Ytlndgoaobalenaa
