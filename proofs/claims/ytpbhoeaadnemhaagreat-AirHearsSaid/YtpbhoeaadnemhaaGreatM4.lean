/- Walks: the program's check of a site. Walks: scaling a power; the walls that a path crosses. The iterator over the walls that a path crosses. The program's power at a point. -/
import Derived.Test.YtpbhoeaadnemhaaGreatM2
import Derived.Test.YtpbhoeaadnemhaaGreatM1
namespace Go.Proofs.YtpbhoeaadnemhaaGreat
open Go.RowKit
set_option linter.unusedVariables false
set_option linter.unusedSimpArgs false
set_option maxHeartbeats 4000000
set_option maxRecDepth 100000
theorem gCheck1 (p : Pt) (w : World) : Calls Tryz.prog 73 #[.agg #[.int .i64 (p).x, .int .i64 (p).y]] w fun e w' => e = .returned (.bool (!ptB p)) ∧ Below w.heap.size w w' := by
  have hu := Tryz.underlying54
  go_enter Tryz.func73, Tryz.ntmps73
  go_wp2_with fail
  refine (gPoint p _).mono ?_
  rintro e w2 ⟨rfl, hb2⟩
  go_wp2
  go_ret
  exact ⟨ret_bool rfl, b_then (by (repeat (first | exact Below.refl _ _ | assumption | apply b_alloc | apply b_drewN | apply b_drew))) hb2⟩
theorem gCheck2 (n : Int) (w : World) : Calls Tryz.prog 77 #[.int .i64 n] w fun e w' => e = .returned (.bool (!powB n)) ∧ w = w' := by
  go_enter Tryz.func77, Tryz.ntmps77
  go_wp2_with fail
  refine (gIsPower n _).mono ?_
  rintro e w2 ⟨rfl, rfl⟩
  go_wp2
  go_ret
  exact ⟨ret_bool rfl, rfl⟩
theorem gCheck2' (n : Int) (w : World) : Calls Tryz.prog 77 #[.int .i64 n] w fun e w' => e = .returned (.bool (!powB n)) ∧ Below w.heap.size w w' := (gCheck2 n w).mono fun _ _ ⟨h, k⟩ => ⟨h, k ▸ Below.refl _ _⟩
theorem gCheck3 (q : Wl) (B : Nat) (w : World) (h : w.cell? ⟨B, 0, none⟩ = some (.func (.func 73) #[] #[])) : Calls Tryz.prog 80 #[.agg #[.int .i64 (q).a.x, .int .i64 (q).a.y, .int .i64 (q).b.x, .int .i64 (q).b.y, .int .i64 (q).f], .pointer (some ⟨B, 0, none⟩)] w fun e w' => e = .returned (.bool (!wlB q)) ∧ Below w.heap.size w w' := by
  have hu := Tryz.underlying54
  have hu2 := Tryz.underlying91
  obtain ⟨W1, hW1⟩ : ∃ W : World, W = (w.alloc (.cells #[.int .i64 (q).a.x, .int .i64 (q).a.y, .int .i64 (q).b.x, .int .i64 (q).b.y, .int .i64 (q).f] 91)) := ⟨_, rfl⟩; have hb1 : Below w.heap.size w W1 := (by rw [hW1]; (repeat (first | exact Below.refl _ _ | assumption | apply b_alloc | apply b_drewN | apply b_drew))); have p : ∀ wq : World, Below W1.heap.size W1 wq → wq.cell? ⟨w.heap.size, 0, none⟩ = some (.int .i64 (q).a.x) ∧ wq.cell? ⟨w.heap.size, 1, none⟩ = some (.int .i64 (q).a.y) ∧ wq.cell? ⟨w.heap.size, 2, none⟩ = some (.int .i64 (q).b.x) ∧ wq.cell? ⟨w.heap.size, 3, none⟩ = some (.int .i64 (q).b.y) ∧ wq.cell? ⟨w.heap.size, 4, none⟩ = some (.int .i64 (q).f) := (fun wq hwr => ⟨cell_mono hwr (by rw [hW1]; go_simp), cell_mono hwr (by rw [hW1]; go_simp), cell_mono hwr (by rw [hW1]; go_simp), cell_mono hwr (by rw [hW1]; go_simp), cell_mono hwr (by rw [hW1]; go_simp)⟩); have HW := Lib.hid hW1; clear hW1
  have m := cell_mono (HW.out ▸ hb1) h
  go_enter Tryz.func80, Tryz.ntmps80
  go_wp2_with fail
  rw [← HW.out]
  refine (gCheck1 q.a _).mono ?_
  rintro e w2 ⟨rfl, hb2⟩
  have hbz := b_then hb1 hb2
  have m2 := cell_mono hbz h
  obtain ⟨b0, b1, b2, b3, b4⟩ := p _ hb2
  rcases Bool.eq_false_or_eq_true (ptB q.a) with r | r
  · rw [r]
    have R := Lib.hid r
    clear r
    go_wp2_with fail
    refine (gCheck1 q.b _).mono ?_
    rintro e w3 ⟨rfl, hb3⟩
    obtain ⟨c0, c1, c2, c3, c4⟩ := p _ (b_then hb2 hb3)
    have hbz3 := b_then hbz hb3
    rcases Bool.eq_false_or_eq_true (ptB q.b) with r | r
    · rw [r]
      have R2 := Lib.hid r
      clear r
      go_wp2
      all_goals (go_ret; exact ⟨ret_bool (by rw [Bool.eq_iff_iff]; simp [wlB, R.out, R2.out]; try omega), hbz3⟩)
    · rw [r]
      have R2 := Lib.hid r
      clear r
      go_wp2
      go_ret
      exact ⟨ret_bool (by simp [wlB, R.out, R2.out]), hbz3⟩
  · rw [r]
    have R := Lib.hid r
    clear r
    go_wp2
    go_ret
    exact ⟨ret_bool (by simp [wlB, R.out]), hbz⟩
theorem idxPt (xs : List Pt) (v : Value) (w : World) (h : SlV 2 KPt w v xs)  : Calls Tryz.prog 97 #[v, .func (.func 73) #[] #[]] w fun e w' => e = .returned (.int .i64 (idxI (fun x => !ptB x) xs)) ∧ Below w.heap.size w w' := by
  obtain ⟨A, c, rfl, hc, hm, hr⟩ := h
  unfold big at hm
  go_enter Tryz.func97, Tryz.ntmps97
  go_wp2_with fail
  go_loopw [8] (fun i wr => ∃ k : Nat, k ≤ xs.length ∧ i = .int .i64 k ∧ allTo (fun x => !!ptB x) xs k ∧ Below w.heap.size w wr) (fun i _ => xs.length - (intOf i).toNat)
  case atStart => exact ⟨0, Nat.zero_le _, rfl, allTo.zero _ _, Below.refl _ _⟩
  case round =>
    obtain ⟨k, hk, rfl, ha, hbw⟩ := hrel
    by_cases hlt : k < xs.length
    · obtain ⟨x, hx⟩ : ∃ x, xs[k]? = some x := ⟨_, List.getElem?_eq_getElem hlt⟩
      obtain ⟨b, off, rfl, h0, h1⟩ := hr.pt hbw hx
      have Hx := Lib.hid hx
      clear hx
      go_wp2_with fail
      refine (gCheck1 x _).mono ?_
      rintro e w2 ⟨rfl, hb2⟩
      rcases Bool.eq_false_or_eq_true (!ptB x) with q | q
      · rw [q]
        have Hq := Lib.hid q
        go_wp2
        go_ret
        exact ⟨ret_int (idx_some ha Hx.out Hq.out), b_then hbw hb2⟩
      · rw [q]
        have Hq := Lib.hid q
        go_wp2
        go_roundw
        case rel => exact ⟨k + 1, by omega, by go_num, ha.succ Hx.out (by rw [Hq.out]; rfl), b_then hbw hb2⟩
        case measure => simp [intOf]; omega
    · go_wp2
      go_ret
      exact ⟨ret_int (idx_none ha (by omega)), hbw⟩
theorem conPt (xs : List Pt) (v : Value) (w : World) (h : SlV 2 KPt w v xs)  : Calls Tryz.prog 75 #[v, .func (.func 73) #[] #[]] w fun e w' => e = .returned (.bool (xs.any fun x => !ptB x)) ∧ Below w.heap.size w w' := by
  have hh := h
  obtain ⟨A, c, rfl, hc, hm, hr⟩ := h
  go_enter Tryz.func75, Tryz.ntmps75
  go_wp2_with fail
  refine (idxPt xs _ _ hh ).mono ?_
  rintro e w2 ⟨rfl, hb2⟩
  go_wp2
  go_ret
  exact ⟨ret_bool (by rw [← idx_any]), hb2⟩
theorem idxPow (xs : List Int) (v : Value) (w : World) (h : SlV 1 KI w v xs)  : Calls Tryz.prog 98 #[v, .func (.func 77) #[] #[]] w fun e w' => e = .returned (.int .i64 (idxI (fun x => !powB x) xs)) ∧ Below w.heap.size w w' := by
  obtain ⟨A, c, rfl, hc, hm, hr⟩ := h
  unfold big at hm
  go_enter Tryz.func98, Tryz.ntmps98
  go_wp2_with fail
  go_loopw [8] (fun i wr => ∃ k : Nat, k ≤ xs.length ∧ i = .int .i64 k ∧ allTo (fun x => !!powB x) xs k ∧ Below w.heap.size w wr) (fun i _ => xs.length - (intOf i).toNat)
  case atStart => exact ⟨0, Nat.zero_le _, rfl, allTo.zero _ _, Below.refl _ _⟩
  case round =>
    obtain ⟨k, hk, rfl, ha, hbw⟩ := hrel
    by_cases hlt : k < xs.length
    · obtain ⟨x, hx⟩ : ∃ x, xs[k]? = some x := ⟨_, List.getElem?_eq_getElem hlt⟩
      obtain ⟨b, off, rfl, h0⟩ := hr.int hbw hx
      have Hx := Lib.hid hx
      clear hx
      go_wp2_with fail
      refine (gCheck2' x _).mono ?_
      rintro e w2 ⟨rfl, hb2⟩
      rcases Bool.eq_false_or_eq_true (!powB x) with q | q
      · rw [q]
        have Hq := Lib.hid q
        go_wp2
        go_ret
        exact ⟨ret_int (idx_some ha Hx.out Hq.out), b_then hbw hb2⟩
      · rw [q]
        have Hq := Lib.hid q
        go_wp2
        go_roundw
        case rel => exact ⟨k + 1, by omega, by go_num, ha.succ Hx.out (by rw [Hq.out]; rfl), b_then hbw hb2⟩
        case measure => simp [intOf]; omega
    · go_wp2
      go_ret
      exact ⟨ret_int (idx_none ha (by omega)), hbw⟩
theorem conPow (xs : List Int) (v : Value) (w : World) (h : SlV 1 KI w v xs)  : Calls Tryz.prog 76 #[v, .func (.func 77) #[] #[]] w fun e w' => e = .returned (.bool (xs.any fun x => !powB x)) ∧ Below w.heap.size w w' := by
  have hh := h
  obtain ⟨A, c, rfl, hc, hm, hr⟩ := h
  go_enter Tryz.func76, Tryz.ntmps76
  go_wp2_with fail
  refine (idxPow xs _ _ hh ).mono ?_
  rintro e w2 ⟨rfl, hb2⟩
  go_wp2
  go_ret
  exact ⟨ret_bool (by rw [← idx_any]), hb2⟩
theorem idxWl (xs : List Wl) (v : Value) (w : World) (h : SlV 5 KWl w v xs) {B : Nat} (hB : w.cell? ⟨B, 0, none⟩ = some (.func (.func 73) #[] #[])) : Calls Tryz.prog 99 #[v, .func (.func 80) #[] #[.pointer (some ⟨B, 0, none⟩)]] w fun e w' => e = .returned (.int .i64 (idxI (fun x => !wlB x) xs)) ∧ Below w.heap.size w w' := by
  obtain ⟨A, c, rfl, hc, hm, hr⟩ := h
  unfold big at hm
  go_enter Tryz.func99, Tryz.ntmps99
  go_wp2_with fail
  go_loopw [8] (fun i wr => ∃ k : Nat, k ≤ xs.length ∧ i = .int .i64 k ∧ allTo (fun x => !!wlB x) xs k ∧ Below w.heap.size w wr) (fun i _ => xs.length - (intOf i).toNat)
  case atStart => exact ⟨0, Nat.zero_le _, rfl, allTo.zero _ _, Below.refl _ _⟩
  case round =>
    obtain ⟨k, hk, rfl, ha, hbw⟩ := hrel
    by_cases hlt : k < xs.length
    · obtain ⟨x, hx⟩ : ∃ x, xs[k]? = some x := ⟨_, List.getElem?_eq_getElem hlt⟩
      obtain ⟨b, off, rfl, h0, h1, h2, h3, h4⟩ := hr.wl hbw hx
      have Hx := Lib.hid hx
      clear hx
      go_wp2_with fail
      refine (gCheck3 x B _ (cell_mono hbw hB)).mono ?_
      rintro e w2 ⟨rfl, hb2⟩
      rcases Bool.eq_false_or_eq_true (!wlB x) with q | q
      · rw [q]
        have Hq := Lib.hid q
        go_wp2
        go_ret
        exact ⟨ret_int (idx_some ha Hx.out Hq.out), b_then hbw hb2⟩
      · rw [q]
        have Hq := Lib.hid q
        go_wp2
        go_roundw
        case rel => exact ⟨k + 1, by omega, by go_num, ha.succ Hx.out (by rw [Hq.out]; rfl), b_then hbw hb2⟩
        case measure => simp [intOf]; omega
    · go_wp2
      go_ret
      exact ⟨ret_int (idx_none ha (by omega)), hbw⟩
theorem conWl (xs : List Wl) (v : Value) (w : World) (h : SlV 5 KWl w v xs) {B : Nat} (hB : w.cell? ⟨B, 0, none⟩ = some (.func (.func 73) #[] #[])) : Calls Tryz.prog 79 #[v, .func (.func 80) #[] #[.pointer (some ⟨B, 0, none⟩)]] w fun e w' => e = .returned (.bool (xs.any fun x => !wlB x)) ∧ Below w.heap.size w w' := by
  have hh := h
  obtain ⟨A, c, rfl, hc, hm, hr⟩ := h
  go_enter Tryz.func79, Tryz.ntmps79
  go_wp2_with fail
  refine (idxWl xs _ _ hh hB).mono ?_
  rintro e w2 ⟨rfl, hb2⟩
  go_wp2
  go_ret
  exact ⟨ret_bool (by rw [← idx_any]), hb2⟩
end Go.Proofs.YtpbhoeaadnemhaaGreat
namespace Go.Proofs.YtpbhoeaadnemhaaGreat
open Go.RowKit Go.Shelf
attribute [local go_sem] Oper.semAt_some
set_option linter.unusedVariables false
set_option linter.unusedSimpArgs false
set_option maxHeartbeats 4000000
set_option maxRecDepth 100000
def scaleB (p f : Int) : Bool := powB p && decide (0 ≤ f) && decide (f ≤ 1000)
def scaleE (p f : Int) : Int := if scaleB p f then 0 else 2
def scaleN (p f : Int) : Int := if scaleB p f then p * f / 1000 else 0
theorem pScale (p f : Int) (w : World) : Calls Tryz.prog 67 #[.int .i64 p, .int .i64 f] w fun e w' => e = .returned (.tuple #[.int .i64 (scaleN p f), .int .i64 (scaleE p f)]) ∧ w = w' := by
  go_enter Tryz.func67, Tryz.ntmps67
  go_wp2_with fail
  refine (pPower p _).mono ?_
  rintro e w2 ⟨rfl, rfl⟩
  rcases Bool.eq_false_or_eq_true (powB p) with q | q
  · rw [q]
    have Hq := Lib.hid q
    obtain ⟨h0, h1⟩ := pow_is q
    clear q
    by_cases hf : 0 ≤ f ∧ f ≤ 1000
    · obtain ⟨f0, f1⟩ := hf
      have hm0 : 0 ≤ p * f := Int.mul_nonneg h0 f0
      have hm1 : p * f ≤ 68719476736 * 1000 := Int.mul_le_mul h1 f1 f0 (by omega)
      have hw : wrap64 (p * f) = p * f := w64 (by omega) (by omega)
      have hs : scaleB p f = true := by simp [scaleB, Hq.out, f0, f1]
      have Hs := Lib.hid hs
      clear hs
      go_wp2
      go_ret2
      exact ⟨ret_two (by simp [scaleN, Hs.out]) (by simp [scaleE, Hs.out]), rfl⟩
    · have hs : scaleB p f = false := by simp only [scaleB, Hq.out, Bool.true_and]; rw [Bool.eq_false_iff]; intro h; simp only [Bool.and_eq_true, decide_eq_true_eq] at h; exact hf h
      have Hs := Lib.hid hs
      have Hf := Lib.hid hf
      clear hs hf
      go_wp2_with fail
      all_goals first
        | (go_ret2; exact ⟨ret_two (by simp [scaleN, Hs.out]) (by simp [scaleE, Hs.out]), rfl⟩)
        | (exfalso; have := Hf.out; omega)
  · rw [q]
    have hs : scaleB p f = false := by simp [scaleB, q]
    have Hs := Lib.hid hs
    clear hs
    go_wp2
    go_ret2
    exact ⟨ret_two (by simp [scaleN, Hs.out]) (by simp [scaleE, Hs.out]), rfl⟩
end Go.Proofs.YtpbhoeaadnemhaaGreat
namespace Go.Proofs.YtpbhoeaadnemhaaGreat
open Go.RowKit Go.Shelf
attribute [local go_sem] Oper.semAt_some
set_option linter.unusedVariables false
set_option linter.unusedSimpArgs false
set_option maxHeartbeats 4000000
set_option maxRecDepth 100000
structure CrF (b4 b5 b6 : Nat) (v2 : Value) (a b : Pt) (w0 W : World) : Prop where
  h2 : W.cell? ⟨b4, 2, none⟩ = some v2
  a0 : W.cell? ⟨b5, 0, none⟩ = some (.int .i64 a.x)
  a1 : W.cell? ⟨b5, 1, none⟩ = some (.int .i64 a.y)
  c0 : W.cell? ⟨b6, 0, none⟩ = some (.int .i64 b.x)
  c1 : W.cell? ⟨b6, 1, none⟩ = some (.int .i64 b.y)
  below : Below w0.heap.size w0 W
theorem CrF.mono {b4 b5 b6 : Nat} {v2 : Value} {a b : Pt} {w0 W W1 : World} (h : CrF b4 b5 b6 v2 a b w0 W) (hb : Below W.heap.size W W1) : CrF b4 b5 b6 v2 a b w0 W1 :=
  ⟨cell_mono hb h.h2, cell_mono hb h.a0, cell_mono hb h.a1, cell_mono hb h.c0, cell_mono hb h.c1, b_then h.below hb⟩
def encWl (q : Wl) : Array Value := #[.agg #[.int .i64 (q).a.x, .int .i64 (q).a.y, .int .i64 (q).b.x, .int .i64 (q).b.y, .int .i64 (q).f]]
theorem crossed1 (n : Nat) (hn : 1 ≤ n) (b4 b5 b6 : Nat) (v2 : Value) (walls : List Wl) (a b : Pt) (w0 w1 : World) (hS : SlV 5 KWl w0 v2 walls) (hF : CrF b4 b5 b6 v2 a b w0 w1)
    (Kp : World → World → Prop) (hK : ∀ A B, Kp A B → CrF b4 b5 b6 v2 a b w0 A → CrF b4 b5 b6 v2 a b w0 B) :
    SeqStopsK Fence.wide n Tryz.prog 110 #[.pointer (some ⟨b4, 0, none⟩), .pointer (some ⟨b5, 0, none⟩), .pointer (some ⟨b6, 0, none⟩)] encWl Kp
      (fun xs => xs = walls.filter (crossW a b)) (fun _ => True) walls.length w1 := by
  intro l J Jx W hW hJ hJx hY h0
  have hFW := hF.mono hW
  obtain ⟨A, c0, rfl, hc, hm, hr⟩ := hS
  unfold big at hm
  have hu := Tryz.underlying54
  have hu2 := Tryz.underlying91
  have hu3 := Tryz.underlying26
  obtain ⟨f2, f0, f1, g0, g1, f8⟩ := id hFW
  refine callsIn_of_wp Tryz.func110 rfl trivial ?_ rfl
  simp only [Tryz.ntmps110, List.size_toArray, List.length_cons, List.length_nil, Nat.reduceAdd, Nat.reduceSub, Array.replicate_succ, Array.replicate_zero, List.push_toArray, List.append_toArray, List.nil_append, List.cons_append]
  gi_wp2
  gi_loopw [10] (fun i wr => ∃ (k : Nat) (pre : List Wl), k ≤ walls.length ∧ i = .int .i64 k ∧ pre.length ≤ k ∧ pre = (walls.take k).filter (crossW a b) ∧ CrF b4 b5 b6 (.slice A walls.length c0) a b w0 wr ∧ J pre wr) (fun i _ => walls.length - (intOf i).toNat)
  case atStart => exact ⟨0, [], Nat.zero_le _, rfl, Nat.le_refl _, rfl, hFW, h0⟩
  case round =>
    obtain ⟨k, pre, hk, rfl, hpl, hpre, hFw, hJw⟩ := hrel
    clear f0 f1 f2 g0 g1 f8
    by_cases hlt : k < walls.length
    · obtain ⟨q, hx⟩ : ∃ q, walls[k]? = some q := ⟨_, List.getElem?_eq_getElem hlt⟩
      obtain ⟨B, off, rfl, e0, e1, e2, e3, e4⟩ := hr.wl hFw.below hx
      have htk : (walls.take (k + 1)).filter (crossW a b) = (walls.take k).filter (crossW a b) ++ (if crossW a b q then [q] else []) := by
        rw [List.take_add_one, hx, List.filter_append]; simp only [Option.toList_some, List.filter_cons, List.filter_nil]
      have Htk := Lib.hid htk
      have Hpre := Lib.hid hpre
      clear hx htk hpre
      have hbn : Below wr.heap.size wr (wr.alloc (.cells #[.int .i64 q.a.x, .int .i64 q.a.y, .int .i64 q.b.x, .int .i64 q.b.y, .int .i64 q.f] 91)) := b_alloc (Below.refl _ _) _
      have hFn := hFw.mono hbn
      obtain ⟨f2, f0, f1, g0, g1, f8⟩ := id hFw
      obtain ⟨f2', f0', f1', g0', g1', f8'⟩ := id hFn
      gi_wp2_with fail
      refine ⟨trivial, ?_⟩
      refine (callsIn_wide.2 (gCrossW a b q _)).mono ?_
      rintro e w3 ⟨rfl, hb3⟩
      have hbz := b_then hbn hb3
      have hF3 := hFn.mono hb3
      have t0 := box_at hb3 rfl 0 rfl
      have t1 := box_at hb3 rfl 1 rfl
      have t2 := box_at hb3 rfl 2 rfl
      have t3 := box_at hb3 rfl 3 rfl
      have t4 := box_at hb3 rfl 4 rfl
      have hJ3 := hJ pre wr w3 none hJw (grown_below hbz none) (fun r e => by cases e)
      rcases Bool.eq_false_or_eq_true (crossW a b q) with r | r
      · rw [r]
        have Hr := Lib.hid r
        clear r
        obtain ⟨fn, tmps, assign, body, hy, hR⟩ := hY pre q w3 hJ3 (by omega)
        simp only [encWl] at hy
        gi_wp2_with fail
        refine hR.mono ?_
        rintro e W4 (⟨rfl, hJ4, hk4⟩ | ⟨rfl, hJx4⟩)
        · have hF4 := hK _ _ hk4 hF3
          gi_wp2
          go_roundw
          case rel => exact ⟨k + 1, pre ++ [q], by omega, by go_num, by simp; omega, by rw [Htk.out, Hpre.out]; simp [Hr.out], hF4, hJ4⟩
          case measure => simp [intOf]; omega
        · gi_wp2
          refine bodyPost_ret (results_none rfl _ _ _) rfl ?_
          exact ⟨⟨_, rfl⟩, .inr ⟨_, trivial, hJx4⟩⟩
      · rw [r]
        gi_wp2_with fail
        refine ⟨fun _ h => (by cases h), ?_⟩
        gi_wp2
        go_roundw
        case rel => exact ⟨k + 1, pre, by omega, by go_num, by omega, by rw [Htk.out, Hpre.out]; simp [r], hF3, hJ3⟩
        case measure => simp [intOf]; omega
    · gi_wp2
      go_end0
      exact ⟨⟨_, rfl⟩, .inl ⟨pre, by rw [hpre, List.take_of_length_le (by omega)], hJw⟩⟩
end Go.Proofs.YtpbhoeaadnemhaaGreat
namespace Go.Proofs.YtpbhoeaadnemhaaGreat
open Go.RowKit Go.Shelf
attribute [local go_sem] Oper.semAt_some
attribute [local go_sem high] max2_mx min2_mn max_two min_two
set_option linter.unusedVariables false
set_option linter.unusedSimpArgs false
set_option maxHeartbeats 4000000
set_option maxRecDepth 100000
theorem walls_fold {a b : Pt} (ha : ptB a = true) (hb : ptB b = true) : ∀ (ws : List Wl) {p : Int}, powB p = true → (∀ q, q ∈ ws → wlB q = true) → (ws.filter (crossW a b)).foldl (fun p q => scaleN p q.f) p = ws.foldl (wallI a b) p
  | [], _, _, _ => rfl
  | q :: ws, p, hp, hq => by
    have h1 := hq q (by simp)
    have h2 : ∀ q', q' ∈ ws → wlB q' = true := fun q' h' => hq q' (by simp [h'])
    have h3 := wall_pow (a := a) (b := b) hp h1
    have ih := walls_fold ha hb ws h3 h2
    rw [List.foldl_cons, ← ih, List.filter_cons, crossW_is ha hb h1]
    by_cases c : crossB a b q = true
    · have e : scaleN p q.f = wallI a b p q := by
        have h4 := h1
        simp only [wlB, Bool.and_eq_true, decide_eq_true_eq] at h4
        simp [scaleN, scaleB, wallI, c, hp, h4.1.2, h4.2]
      rw [if_pos c, List.foldl_cons, e]
    · have e : wallI a b p q = p := by simp [wallI, c]
      rw [if_neg c, e]
theorem gCrossed (x0 x1 x2 : Value) (ex noise thr : Int) (a b : Pt) (w : World) (h0 : ∃ A n k, x0 = .slice A n k) (h1 : ∃ A n k, x1 = .slice A n k) (h2 : ∃ A n k, x2 = .slice A n k) :
    Calls Tryz.prog 107 #[.agg #[x0, x1, x2, .int .i64 ex, .int .i64 noise, .int .i64 thr], .agg #[.int .i64 (a).x, .int .i64 (a).y], .agg #[.int .i64 (b).x, .int .i64 (b).y]] w fun e w' =>
      e = .returned (.func (.func 110) #[] #[.pointer (some ⟨w.heap.size, 0, none⟩), .pointer (some ⟨w.heap.size + 1, 0, none⟩), .pointer (some ⟨w.heap.size + 1 + 1, 0, none⟩)]) ∧
      ((w.alloc (.cells #[x0, x1, x2, .int .i64 ex, .int .i64 noise, .int .i64 thr] 26)).alloc (.cells #[.int .i64 a.x, .int .i64 a.y] 54)).alloc (.cells #[.int .i64 b.x, .int .i64 b.y] 54) = w' := by
  have hu := Tryz.underlying26
  have hu2 := Tryz.underlying54
  obtain ⟨A0, n0, k0, rfl⟩ := h0
  obtain ⟨A1, n1, k1, rfl⟩ := h1
  obtain ⟨A2, n2, k2, rfl⟩ := h2
  go_enter Tryz.func107, Tryz.ntmps107
  go_wp2
  go_ret
  exact ⟨rfl, rfl⟩
structure AtF (n : Nat) (v0 v1 v2 : Value) (ex noise thr : Int) (a b : Pt) (W : World) : Prop where
  s0 : W.cell? ⟨n, 0, none⟩ = some v0
  s1 : W.cell? ⟨n, 1, none⟩ = some v1
  s2 : W.cell? ⟨n, 2, none⟩ = some v2
  s3 : W.cell? ⟨n, 3, none⟩ = some (.int .i64 ex)
  s4 : W.cell? ⟨n, 4, none⟩ = some (.int .i64 noise)
  s5 : W.cell? ⟨n, 5, none⟩ = some (.int .i64 thr)
  a0 : W.cell? ⟨n + 1, 0, none⟩ = some (.int .i64 a.x)
  a1 : W.cell? ⟨n + 1, 1, none⟩ = some (.int .i64 a.y)
  b0 : W.cell? ⟨n + 1 + 1 + 1, 0, none⟩ = some (.int .i64 b.x)
  b1 : W.cell? ⟨n + 1 + 1 + 1, 1, none⟩ = some (.int .i64 b.y)
theorem AtF.bbt {n : Nat} {v0 v1 v2 : Value} {ex noise thr : Int} {a b : Pt} {W W' : World} (h : AtF n v0 v1 v2 ex noise thr a b W) (hb : Bbt (n + 4) (n + 1 + 1) W W') : AtF n v0 v1 v2 ex noise thr a b W' :=
  ⟨(hb.cell (by simp) (by simp; try omega)).trans h.s0, (hb.cell (by simp) (by simp; try omega)).trans h.s1, (hb.cell (by simp) (by simp; try omega)).trans h.s2, (hb.cell (by simp) (by simp; try omega)).trans h.s3, (hb.cell (by simp) (by simp; try omega)).trans h.s4, (hb.cell (by simp) (by simp; try omega)).trans h.s5,
   (hb.cell (by simp) (by simp)).trans h.a0, (hb.cell (by simp) (by simp)).trans h.a1, (hb.cell (by simp) (by simp)).trans h.b0, (hb.cell (by simp) (by simp)).trans h.b1⟩
theorem gAt0 (s : Site) (v : Value) (a : Pt) (p : Int) (b : Pt) (w : World) (hs : SiteV w v s) (hv : siteB s = true) (ha : ptB a = true) (hb : ptB b = true) (hp : powB p = true) :
    Calls Tryz.prog 94 #[v, .agg #[.int .i64 (a).x, .int .i64 (a).y], .int .i64 p, .agg #[.int .i64 (b).x, .int .i64 (b).y]] w fun e w' => e = .returned (.int .i64 (atI s a p b)) ∧ Below w.heap.size w w' := by
  have hu := Tryz.underlying26
  have hu2 := Tryz.underlying54
  have hu3 := Tryz.underlying91
  obtain ⟨nodes, powers, walls, ex, noise, thr⟩ := s
  obtain ⟨v0, v1, v2, rfl, h0, h1, h2⟩ := hs
  obtain ⟨A0, c0, rfl, _⟩ := h0
  obtain ⟨A1, c1, rfl, _⟩ := h1
  have H2 := Lib.hid h2
  obtain ⟨A2, c2, rfl, _⟩ := h2
  dsimp only at *
  obtain ⟨sq, sq0, sq1⟩ := square_is ha hb
  have hwl : ∀ q, q ∈ walls → wlB q = true := by
    simp only [siteB, Bool.and_eq_true, List.all_eq_true] at hv
    exact hv.2
  obtain ⟨p0, p1⟩ := pow_is hp
  refine (callsIn_wide (n := 10)).1 (callsIn_of_wp_marks Tryz.func94 rfl trivial (wpIn_wide.2 ?_) rfl)
  simp only [Tryz.ntmps94, List.size_toArray, List.length_cons, List.length_nil, Nat.reduceAdd, Nat.reduceSub, Array.replicate_succ, Array.replicate_zero, List.push_toArray, List.append_toArray, List.nil_append, List.cons_append]
  go_wp2_with fail
  refine (gSquareW a b _).mono ?_
  rintro e w2 ⟨rfl, hb2⟩
  rw [sq]
  have F1 : AtF w.heap.size (.slice A0 nodes.length c0) (.slice A1 powers.length c1) (.slice A2 walls.length c2) ex noise thr a b ((((w.alloc (.cells #[.slice A0 nodes.length c0, .slice A1 powers.length c1, .slice A2 walls.length c2, .int .i64 ex, .int .i64 noise, .int .i64 thr] 26)).alloc (.cells #[.int .i64 a.x, .int .i64 a.y] 54)).alloc (.cells #[.int .i64 p] 3)).alloc (.cells #[.int .i64 b.x, .int .i64 b.y] 54)) :=
    ⟨by go_simp, by go_simp, by go_simp, by go_simp, by go_simp, by go_simp, by go_simp, by go_simp, by go_simp, by go_simp⟩
  have Q1 : Boxed ((((w.alloc (.cells #[.slice A0 nodes.length c0, .slice A1 powers.length c1, .slice A2 walls.length c2, .int .i64 ex, .int .i64 noise, .int .i64 thr] 26)).alloc (.cells #[.int .i64 a.x, .int .i64 a.y] 54)).alloc (.cells #[.int .i64 p] 3)).alloc (.cells #[.int .i64 b.x, .int .i64 b.y] 54)) (w.heap.size + 1 + 1) 3 (.int .i64 p) := by
    have := (Boxed.new ((w.alloc (.cells #[.slice A0 nodes.length c0, .slice A1 powers.length c1, .slice A2 walls.length c2, .int .i64 ex, .int .i64 noise, .int .i64 thr] 26)).alloc (.cells #[.int .i64 a.x, .int .i64 a.y] 54)) 3 (.int .i64 p)).alloc (.cells #[.int .i64 b.x, .int .i64 b.y] 54)
    simpa using this
  have hbb : Below w.heap.size w ((((w.alloc (.cells #[.slice A0 nodes.length c0, .slice A1 powers.length c1, .slice A2 walls.length c2, .int .i64 ex, .int .i64 noise, .int .i64 thr] 26)).alloc (.cells #[.int .i64 a.x, .int .i64 a.y] 54)).alloc (.cells #[.int .i64 p] 3)).alloc (.cells #[.int .i64 b.x, .int .i64 b.y] 54)) := by (repeat (first | exact Below.refl _ _ | assumption | apply b_alloc | apply b_drewN | apply b_drew))
  have hsz : ((((w.alloc (.cells #[.slice A0 nodes.length c0, .slice A1 powers.length c1, .slice A2 walls.length c2, .int .i64 ex, .int .i64 noise, .int .i64 thr] 26)).alloc (.cells #[.int .i64 a.x, .int .i64 a.y] 54)).alloc (.cells #[.int .i64 p] 3)).alloc (.cells #[.int .i64 b.x, .int .i64 b.y] 54)).heap.size = w.heap.size + 4 := by simp
  generalize hW1 : ((((w.alloc (.cells #[.slice A0 nodes.length c0, .slice A1 powers.length c1, .slice A2 walls.length c2, .int .i64 ex, .int .i64 noise, .int .i64 thr] 26)).alloc (.cells #[.int .i64 a.x, .int .i64 a.y] 54)).alloc (.cells #[.int .i64 p] 3)).alloc (.cells #[.int .i64 b.x, .int .i64 b.y] 54)) = W1 at *
  clear hW1
  have B2 : Bbt (w.heap.size + 4) (w.heap.size + 1 + 1) W1 w2 := .of_below (hsz ▸ hb2)
  have F2 := F1.bbt B2
  have Q2 : Boxed w2 (w.heap.size + 1 + 1) 3 (.int .i64 p) := (hb2.block _ Q1.lt).trans Q1
  have q2 := Q2.cell
  have fz2 := Q2.frozen
  obtain ⟨s0, s1, s2, s3, s4, s5, a0, a1, b0, b1⟩ := id F2
  have hM0 : 100 ≤ max (squareI a b) 100 := Int.le_max_right _ _
  have hM1 : max (squareI a b) 100 ≤ 200000000 := Int.max_le.2 ⟨sq1, by omega⟩
  generalize hM : max (squareI a b) 100 = M at hM0 hM1
  obtain ⟨d0, d1⟩ := down p0 hM0
  obtain ⟨d2, d3⟩ := down d0 hM0
  by_cases hex : ex = 4
  · subst hex
    have hbase : baseI 4 a p b = p * 100 / M * 100 / M := by simp [baseI, hM]
    have Hbase := Lib.hid hbase
    clear hbase
    have B3 : Bbt (w.heap.size + 4) (w.heap.size + 1 + 1) w2 ((w2.setCell ⟨w.heap.size + 1 + 1, 0, none⟩ (.int .i64 (p * 100 / M))).setCell ⟨w.heap.size + 1 + 1, 0, none⟩ (.int .i64 (p * 100 / M * 100 / M))) := (Bbt.setCell _ _ _ _).trans (Bbt.setCell _ _ _ _)
    have Q3 := (Q2.set (.int .i64 (p * 100 / M))).set (.int .i64 (p * 100 / M * 100 / M))
    go_wp2_with fail
    generalize hX : ((w2.setCell ⟨w.heap.size + 1 + 1, 0, none⟩ (.int .i64 (p * 100 / M))).setCell ⟨w.heap.size + 1 + 1, 0, none⟩ (.int .i64 (p * 100 / M * 100 / M))) = X at *
    generalize hpb : p * 100 / M * 100 / M = pb at *
    clear hX
    refine (gCrossed _ _ _ 4 noise thr a b _ ⟨_, _, _, rfl⟩ ⟨_, _, _, rfl⟩ ⟨_, _, _, rfl⟩).mono ?_
    rintro e w3 ⟨rfl, rfl⟩
    go_wp2_with fail
    have hXb : Below w.heap.size w X := hbb.trans ((B2.trans B3).below (by omega) (by omega))
    have hsX : w.heap.size + 4 ≤ X.heap.size := by have := (B2.trans B3).size; omega
    have hA : CrF X.heap.size (X.heap.size + 1) (X.heap.size + 1 + 1) (.slice A2 walls.length c2) a b w (((X.alloc (.cells #[.slice A0 nodes.length c0, .slice A1 powers.length c1, .slice A2 walls.length c2, .int .i64 4, .int .i64 noise, .int .i64 thr] 26)).alloc (.cells #[.int .i64 a.x, .int .i64 a.y] 54)).alloc (.cells #[.int .i64 b.x, .int .i64 b.y] 54)) := ⟨by go_simp, by go_simp, by go_simp, by go_simp, by go_simp, b_alloc (b_alloc (b_alloc hXb _) _) _⟩
    have hQ0 : Boxed (((X.alloc (.cells #[.slice A0 nodes.length c0, .slice A1 powers.length c1, .slice A2 walls.length c2, .int .i64 4, .int .i64 noise, .int .i64 thr] 26)).alloc (.cells #[.int .i64 a.x, .int .i64 a.y] 54)).alloc (.cells #[.int .i64 b.x, .int .i64 b.y] 54)) (w.heap.size + 1 + 1) 3 (.int .i64 pb) := ((Q3.alloc _).alloc _).alloc _
    have hs0 : ((((X.alloc (.cells #[.slice A0 nodes.length c0, .slice A1 powers.length c1, .slice A2 walls.length c2, .int .i64 4, .int .i64 noise, .int .i64 thr] 26)).alloc (.cells #[.int .i64 a.x, .int .i64 a.y] 54)).alloc (.cells #[.int .i64 b.x, .int .i64 b.y] 54))).heap.size = X.heap.size + 3 := by simp
    generalize hW0 : (((X.alloc (.cells #[.slice A0 nodes.length c0, .slice A1 powers.length c1, .slice A2 walls.length c2, .int .i64 4, .int .i64 noise, .int .i64 thr] 26)).alloc (.cells #[.int .i64 a.x, .int .i64 a.y] 54)).alloc (.cells #[.int .i64 b.x, .int .i64 b.y] 54)) = W0 at *
    clear hW0
    refine (wpIn_wide (n := 10)).1 (wpIn_rangeFunc_ownH (F := Fence.wide) rfl (by omega) (gf := 110) (lb := #[.pointer (some ⟨X.heap.size, 0, none⟩), .pointer (some ⟨X.heap.size + 1, 0, none⟩), .pointer (some ⟨X.heap.size + 1 + 1, 0, none⟩)]) rfl trivial (enters_of Tryz.func110 (by kernel_rfl) rfl)
      (crossed1 9 (by omega) _ _ _ _ walls a b w W0 H2.out hA (Bbt W0.heap.size (w.heap.size + 1 + 1)) ?kf) bbt_t (bbt_b (Nat.le_refl _)) (Below.refl _ _) (fun _ => rfl)
      (fun pre W => Boxed W (w.heap.size + 1 + 1) 3 (.int .i64 (List.foldl (fun p q => scaleN p q.f) pb pre)) ∧ Bbt W0.heap.size (w.heap.size + 1 + 1) W0 W) (fun _ _ _ => False)
      (OwnFrom.and (Own.from (boxed_own _ _ _) _) (ownFrom_bbt (Nat.le_refl _) (Nat.le_refl _))) (fun _ _ _ _ _ hs _ _ => hs) ⟨hQ0, Bbt.refl _ _ _⟩
      (fun (x : Wl) a' W => ∃ (B' : Nat) (u0 u1 u2 u3 u4 u5 u7 u8 u9 u11 u12 u13 u14 u15 u16 u17 u18 u19 u20 u21 u22 u23 u24 u25 u26 u27 u28 u29 u30 u31 u32 u33 u34 u35 u36 u37 u38 : Value), W.heap[B']? = some (.cells #[.int .i64 x.a.x, .int .i64 x.a.y, .int .i64 x.b.x, .int .i64 x.b.y, .int .i64 x.f] 91 (0, 0)) ∧ a' = { tmps := #[u0, u1, u2, u3, u4, u5, .pointer (some ⟨w.heap.size + 1 + 1, 0, none⟩), u7, u8, u9, .pointer (some ⟨B', 0, none⟩), u11, u12, u13, u14, u15, u16, u17, u18, u19, u20, u21, u22, u23, u24, u25, u26, u27, u28, u29, u30, u31, u32, u33, u34, u35, u36, u37, u38], defers := [] })
      ?ax ?assign ?body ?done ?stop)
    case kf =>
      intro Y Z hYZ hY
      exact ⟨(hYZ.cell (by simp; omega) (by simp; omega)).trans hY.h2, (hYZ.cell (by simp; omega) (by simp; omega)).trans hY.a0, (hYZ.cell (by simp; omega) (by simp; omega)).trans hY.a1, (hYZ.cell (by simp; omega) (by simp; omega)).trans hY.c0, (hYZ.cell (by simp; omega) (by simp; omega)).trans hY.c1, hY.below.trans (hYZ.below (by omega) (by omega))⟩
    case ax =>
      rintro x a' _ W W' row ⟨B', u0, u1, u2, u3, u4, u5, u7, u8, u9, u11, u12, u13, u14, u15, u16, u17, u18, u19, u20, u21, u22, u23, u24, u25, u26, u27, u28, u29, u30, u31, u32, u33, u34, u35, u36, u37, u38, hh, he⟩ hg hr
      refine ⟨B', u0, u1, u2, u3, u4, u5, u7, u8, u9, u11, u12, u13, u14, u15, u16, u17, u18, u19, u20, u21, u22, u23, u24, u25, u26, u27, u28, u29, u30, u31, u32, u33, u34, u35, u36, u37, u38, (hg.block B' (Array.getElem?_eq_some_iff.1 hh).1 (fun e => ?_)).trans hh, he⟩
      obtain ⟨_, o, ho, hc⟩ := hr B' e.symm
      rw [hh] at ho
      cases ho
      cases hc
    case assign =>
      intro l pre x W K hI hK
      simp only [encWl]
      gi_wp2
      exact hK _ _ ((KeepsOthers.alloc _ _).from _) (Bbt.of_below ((Below.refl _ W).alloc hI.2.size _)) ⟨hI.1.alloc _, hI.2.trans (Bbt.of_below ((Below.refl _ W).alloc hI.2.size _))⟩ ⟨_, _, _, _, _, _, _, _, _, _, _, _, _, _, _, _, _, _, _, _, _, _, _, _, _, _, _, _, _, _, _, _, _, _, _, _, _, _, World.alloc_heap_new _ _, rfl⟩
    case body =>
      rintro l pre x a' W hl _ ⟨hq1, hB1⟩ ⟨B', u0, u1, u2, u3, u4, u5, u7, u8, u9, u11, u12, u13, u14, u15, u16, u17, u18, u19, u20, u21, u22, u23, u24, u25, u26, u27, u28, u29, u30, u31, u32, u33, u34, u35, u36, u37, u38, hh, rfl⟩ hN
      have cq := hq1.cell
      have fq := hq1.frozen
      have hc : W.cell? ⟨B', 2, none⟩ = some (.int .i64 x.b.x) := by simp [World.cell?, hh]
      have hc4 : W.cell? ⟨B', 4, none⟩ = some (.int .i64 x.f) := by simp [World.cell?, hh]
      gi_wp2_with fail
      refine ⟨trivial, ?_⟩
      refine (callsIn_wide.2 (pScale _ _ _)).mono ?_
      rintro e w4 ⟨rfl, rfl⟩
      gi_wp2
      exact ⟨(KeepsOthers.setCell _ _ _).from _, Bbt.setCell _ _ _ _, by have h2 := hq1.set (.int .i64 (scaleN (List.foldl (fun p q => scaleN p q.f) pb pre) x.f)); simpa [List.foldl_append] using h2, hB1.trans (Bbt.setCell _ _ _ _)⟩
    case stop =>
      rintro D c pre W _ _ h _
      exact h.elim
    case done =>
      rintro D xs W hD hxs ⟨hq1, hB1⟩ hK
      subst hxs
      have cq := hq1.cell
      have hfin : List.foldl (fun p q => scaleN p q.f) pb (walls.filter (crossW a b)) = atI ⟨nodes, powers, walls, 4, noise, thr⟩ a p b := by
        rw [walls_fold ha hb walls (by rw [← Hbase.out]; exact base_pow _ a b hp) hwl]
        simp only [atI, Hbase.out]
      have Hfin := Lib.hid hfin
      clear hfin
      go_wp2
      refine leaves_marks [D] W (by simp) (by simpa using hK) (fun W' hW' => ⟨_, results_tmp rfl _ _ _, ?_, ?_⟩)
      · exact ret_int Hfin.out
      exact (hA.below.trans (hB1.below (by omega) (by omega))).trans (hW'.below (by simp; omega))
  · have hex1 : (ex == 4) = false := by simpa using hex
    have hbase : baseI ex a p b = p * 100 / M := by simp [baseI, hex, hM]
    have Hbase := Lib.hid hbase
    clear hbase
    have B3 : Bbt (w.heap.size + 4) (w.heap.size + 1 + 1) w2 (w2.setCell ⟨w.heap.size + 1 + 1, 0, none⟩ (.int .i64 (p * 100 / M))) := Bbt.setCell _ _ _ _
    have Q3 := Q2.set (.int .i64 (p * 100 / M))
    go_wp2_with fail
    generalize hX : (w2.setCell ⟨w.heap.size + 1 + 1, 0, none⟩ (.int .i64 (p * 100 / M))) = X at *
    generalize hpb : p * 100 / M = pb at *
    clear hX
    refine (gCrossed _ _ _ ex noise thr a b _ ⟨_, _, _, rfl⟩ ⟨_, _, _, rfl⟩ ⟨_, _, _, rfl⟩).mono ?_
    rintro e w3 ⟨rfl, rfl⟩
    go_wp2_with fail
    have hXb : Below w.heap.size w X := hbb.trans ((B2.trans B3).below (by omega) (by omega))
    have hsX : w.heap.size + 4 ≤ X.heap.size := by have := (B2.trans B3).size; omega
    have hA : CrF X.heap.size (X.heap.size + 1) (X.heap.size + 1 + 1) (.slice A2 walls.length c2) a b w (((X.alloc (.cells #[.slice A0 nodes.length c0, .slice A1 powers.length c1, .slice A2 walls.length c2, .int .i64 ex, .int .i64 noise, .int .i64 thr] 26)).alloc (.cells #[.int .i64 a.x, .int .i64 a.y] 54)).alloc (.cells #[.int .i64 b.x, .int .i64 b.y] 54)) := ⟨by go_simp, by go_simp, by go_simp, by go_simp, by go_simp, b_alloc (b_alloc (b_alloc hXb _) _) _⟩
    have hQ0 : Boxed (((X.alloc (.cells #[.slice A0 nodes.length c0, .slice A1 powers.length c1, .slice A2 walls.length c2, .int .i64 ex, .int .i64 noise, .int .i64 thr] 26)).alloc (.cells #[.int .i64 a.x, .int .i64 a.y] 54)).alloc (.cells #[.int .i64 b.x, .int .i64 b.y] 54)) (w.heap.size + 1 + 1) 3 (.int .i64 pb) := ((Q3.alloc _).alloc _).alloc _
    have hs0 : ((((X.alloc (.cells #[.slice A0 nodes.length c0, .slice A1 powers.length c1, .slice A2 walls.length c2, .int .i64 ex, .int .i64 noise, .int .i64 thr] 26)).alloc (.cells #[.int .i64 a.x, .int .i64 a.y] 54)).alloc (.cells #[.int .i64 b.x, .int .i64 b.y] 54))).heap.size = X.heap.size + 3 := by simp
    generalize hW0 : (((X.alloc (.cells #[.slice A0 nodes.length c0, .slice A1 powers.length c1, .slice A2 walls.length c2, .int .i64 ex, .int .i64 noise, .int .i64 thr] 26)).alloc (.cells #[.int .i64 a.x, .int .i64 a.y] 54)).alloc (.cells #[.int .i64 b.x, .int .i64 b.y] 54)) = W0 at *
    clear hW0
    refine (wpIn_wide (n := 10)).1 (wpIn_rangeFunc_ownH (F := Fence.wide) rfl (by omega) (gf := 110) (lb := #[.pointer (some ⟨X.heap.size, 0, none⟩), .pointer (some ⟨X.heap.size + 1, 0, none⟩), .pointer (some ⟨X.heap.size + 1 + 1, 0, none⟩)]) rfl trivial (enters_of Tryz.func110 (by kernel_rfl) rfl)
      (crossed1 9 (by omega) _ _ _ _ walls a b w W0 H2.out hA (Bbt W0.heap.size (w.heap.size + 1 + 1)) ?kf) bbt_t (bbt_b (Nat.le_refl _)) (Below.refl _ _) (fun _ => rfl)
      (fun pre W => Boxed W (w.heap.size + 1 + 1) 3 (.int .i64 (List.foldl (fun p q => scaleN p q.f) pb pre)) ∧ Bbt W0.heap.size (w.heap.size + 1 + 1) W0 W) (fun _ _ _ => False)
      (OwnFrom.and (Own.from (boxed_own _ _ _) _) (ownFrom_bbt (Nat.le_refl _) (Nat.le_refl _))) (fun _ _ _ _ _ hs _ _ => hs) ⟨hQ0, Bbt.refl _ _ _⟩
      (fun (x : Wl) a' W => ∃ (B' : Nat) (u0 u1 u2 u3 u4 u5 u7 u8 u9 u11 u12 u13 u14 u15 u16 u17 u18 u19 u20 u21 u22 u23 u24 u25 u26 u27 u28 u29 u30 u31 u32 u33 u34 u35 u36 u37 u38 : Value), W.heap[B']? = some (.cells #[.int .i64 x.a.x, .int .i64 x.a.y, .int .i64 x.b.x, .int .i64 x.b.y, .int .i64 x.f] 91 (0, 0)) ∧ a' = { tmps := #[u0, u1, u2, u3, u4, u5, .pointer (some ⟨w.heap.size + 1 + 1, 0, none⟩), u7, u8, u9, .pointer (some ⟨B', 0, none⟩), u11, u12, u13, u14, u15, u16, u17, u18, u19, u20, u21, u22, u23, u24, u25, u26, u27, u28, u29, u30, u31, u32, u33, u34, u35, u36, u37, u38], defers := [] })
      ?ax ?assign ?body ?done ?stop)
    case kf =>
      intro Y Z hYZ hY
      exact ⟨(hYZ.cell (by simp; omega) (by simp; omega)).trans hY.h2, (hYZ.cell (by simp; omega) (by simp; omega)).trans hY.a0, (hYZ.cell (by simp; omega) (by simp; omega)).trans hY.a1, (hYZ.cell (by simp; omega) (by simp; omega)).trans hY.c0, (hYZ.cell (by simp; omega) (by simp; omega)).trans hY.c1, hY.below.trans (hYZ.below (by omega) (by omega))⟩
    case ax =>
      rintro x a' _ W W' row ⟨B', u0, u1, u2, u3, u4, u5, u7, u8, u9, u11, u12, u13, u14, u15, u16, u17, u18, u19, u20, u21, u22, u23, u24, u25, u26, u27, u28, u29, u30, u31, u32, u33, u34, u35, u36, u37, u38, hh, he⟩ hg hr
      refine ⟨B', u0, u1, u2, u3, u4, u5, u7, u8, u9, u11, u12, u13, u14, u15, u16, u17, u18, u19, u20, u21, u22, u23, u24, u25, u26, u27, u28, u29, u30, u31, u32, u33, u34, u35, u36, u37, u38, (hg.block B' (Array.getElem?_eq_some_iff.1 hh).1 (fun e => ?_)).trans hh, he⟩
      obtain ⟨_, o, ho, hc⟩ := hr B' e.symm
      rw [hh] at ho
      cases ho
      cases hc
    case assign =>
      intro l pre x W K hI hK
      simp only [encWl]
      gi_wp2
      exact hK _ _ ((KeepsOthers.alloc _ _).from _) (Bbt.of_below ((Below.refl _ W).alloc hI.2.size _)) ⟨hI.1.alloc _, hI.2.trans (Bbt.of_below ((Below.refl _ W).alloc hI.2.size _))⟩ ⟨_, _, _, _, _, _, _, _, _, _, _, _, _, _, _, _, _, _, _, _, _, _, _, _, _, _, _, _, _, _, _, _, _, _, _, _, _, _, World.alloc_heap_new _ _, rfl⟩
    case body =>
      rintro l pre x a' W hl _ ⟨hq1, hB1⟩ ⟨B', u0, u1, u2, u3, u4, u5, u7, u8, u9, u11, u12, u13, u14, u15, u16, u17, u18, u19, u20, u21, u22, u23, u24, u25, u26, u27, u28, u29, u30, u31, u32, u33, u34, u35, u36, u37, u38, hh, rfl⟩ hN
      have cq := hq1.cell
      have fq := hq1.frozen
      have hc : W.cell? ⟨B', 2, none⟩ = some (.int .i64 x.b.x) := by simp [World.cell?, hh]
      have hc4 : W.cell? ⟨B', 4, none⟩ = some (.int .i64 x.f) := by simp [World.cell?, hh]
      gi_wp2_with fail
      refine ⟨trivial, ?_⟩
      refine (callsIn_wide.2 (pScale _ _ _)).mono ?_
      rintro e w4 ⟨rfl, rfl⟩
      gi_wp2
      exact ⟨(KeepsOthers.setCell _ _ _).from _, Bbt.setCell _ _ _ _, by have h2 := hq1.set (.int .i64 (scaleN (List.foldl (fun p q => scaleN p q.f) pb pre) x.f)); simpa [List.foldl_append] using h2, hB1.trans (Bbt.setCell _ _ _ _)⟩
    case stop =>
      rintro D c pre W _ _ h _
      exact h.elim
    case done =>
      rintro D xs W hD hxs ⟨hq1, hB1⟩ hK
      subst hxs
      have cq := hq1.cell
      have hfin : List.foldl (fun p q => scaleN p q.f) pb (walls.filter (crossW a b)) = atI ⟨nodes, powers, walls, ex, noise, thr⟩ a p b := by
        rw [walls_fold ha hb walls (by rw [← Hbase.out]; exact base_pow _ a b hp) hwl]
        simp only [atI, Hbase.out]
      have Hfin := Lib.hid hfin
      clear hfin
      go_wp2
      refine leaves_marks [D] W (by simp) (by simpa using hK) (fun W' hW' => ⟨_, results_tmp rfl _ _ _, ?_, ?_⟩)
      · exact ret_int Hfin.out
      exact (hA.below.trans (hB1.below (by omega) (by omega))).trans (hW'.below (by simp; omega))
end Go.Proofs.YtpbhoeaadnemhaaGreat
