/- The iterator over the emissions that count in an interference. The interference with an emission at a node. Whether a node receives an emission: the walk of the scene's method. -/
import Derived.Test.YtpbhoeaadnemhaaGreatMD
import Derived.Test.YtpbhoeaadnemhaaGreatM1
namespace Go.Proofs.YtpbhoeaadnemhaaGreat
open Go.RowKit Go.Shelf
attribute [local go_sem] Oper.semAt_some
set_option linter.unusedVariables false
set_option linter.unusedSimpArgs false
set_option maxHeartbeats 4000000
set_option maxRecDepth 100000
structure OtF (b1 b2 b3 : Nat) (v : Value) (i node : Int) (w0 W : World) : Prop where
  hl : W.cell? ⟨b1, 8, none⟩ = some v
  hi : W.cell? ⟨b2, 0, none⟩ = some (.int .i64 i)
  hn : W.cell? ⟨b3, 0, none⟩ = some (.int .i64 node)
  below : Below w0.heap.size w0 W
theorem OtF.mono {b1 b2 b3 : Nat} {v : Value} {i node : Int} {w0 W W1 : World} (h : OtF b1 b2 b3 v i node w0 W) (hb : Below W.heap.size W W1) : OtF b1 b2 b3 v i node w0 W1 :=
  ⟨cell_mono hb h.hl, cell_mono hb h.hi, cell_mono hb h.hn, b_then h.below hb⟩
def encEm (l : List Em) (k : Nat) : Array Value := #[.int .i64 k, .agg #[.int .i64 (emD l k).node, .int .i64 (emD l k).ch, .int .i64 (emD l k).frm, .int .i64 (emD l k).to]]
theorem others1 (n : Nat) (hn : 1 ≤ n) (b1 b2 b3 : Nat) (l : List Em) (i : Nat) (hi : i < l.length) (node : Int) (v : Value) (w0 w1 : World) (hS : SlV 4 KEm w0 v l) (hF : OtF b1 b2 b3 v i node w0 w1)
    (Kp : World → World → Prop) (hK : ∀ A B, Kp A B → OtF b1 b2 b3 v i node w0 A → OtF b1 b2 b3 v i node w0 B) :
    SeqStopsK Fence.wide n Tryz.prog 48 #[.pointer (some ⟨b1, 0, none⟩), .pointer (some ⟨b2, 0, none⟩), .pointer (some ⟨b3, 0, none⟩)] (encEm l) Kp
      (fun xs => xs = othL l i node) (fun _ => True) l.length w1 := by
  intro lb J Jx W hW hJ hJx hY h0
  have hFW := hF.mono hW
  obtain ⟨A, c0, rfl, hc, hm, hr⟩ := hS
  unfold big at hm
  have hu := Tryz.underlying42
  have hu4 := Tryz.underlying59
  have i0 : (0 : Int) ≤ (i : Int) := by omega
  have i1 : (i : Int) < (l.length : Int) := by omega
  obtain ⟨f0, f1, f2, f8⟩ := id hFW
  refine callsIn_of_wp Tryz.func48 rfl trivial ?_ rfl
  simp only [Tryz.ntmps48, List.size_toArray, List.length_cons, List.length_nil, Nat.reduceAdd, Nat.reduceSub, Array.replicate_succ, Array.replicate_zero, List.push_toArray, List.append_toArray, List.nil_append, List.cons_append]
  gi_wp2
  gi_loopw [10] (fun j wr => ∃ (k : Nat) (pre : List Nat), k ≤ l.length ∧ j = .int .i64 k ∧ pre.length ≤ k ∧ pre = othTo l i node k ∧ OtF b1 b2 b3 (.slice A l.length c0) i node w0 wr ∧ J pre wr) (fun j _ => l.length - (intOf j).toNat)
  case atStart => exact ⟨0, [], Nat.zero_le _, rfl, Nat.le_refl _, rfl, hFW, h0⟩
  case round =>
    obtain ⟨k, pre, hk, rfl, hpl, hpre, hFw, hJw⟩ := hrel
    clear f0 f1 f2 f8
    by_cases hlt : k < l.length
    · have hx := emD_get hlt
      have hg := emD_get hi
      have hos := oth_succ l i node k
      have Hos := Lib.hid hos
      clear hos
      obtain ⟨b, off, rfl, e0, e1, e2, e3⟩ := hr.em hFw.below hx
      obtain ⟨_, _, hAe, a0, a1, a2, a3⟩ := hr.em hFw.below hg
      cases hAe
      have Hpre := Lib.hid hpre
      clear hx hg hpre
      have hy0 : encEm l k = #[.int .i64 k, .agg #[.int .i64 (emD l k).node, .int .i64 (emD l k).ch, .int .i64 (emD l k).frm, .int .i64 (emD l k).to]] := rfl
      have HY0 := Lib.hid hy0
      clear hy0
      generalize emD l k = y at *
      generalize emD l i = a at *
      have hbn : Below wr.heap.size wr (wr.alloc (.cells #[.int .i64 y.node, .int .i64 y.ch, .int .i64 y.frm, .int .i64 y.to] 42)) := b_alloc (Below.refl _ _) _
      have hFn := hFw.mono hbn
      obtain ⟨f0, f1, f2, f8⟩ := id hFw
      obtain ⟨f0', f1', f2', f8'⟩ := id hFn
      have F0 := Later.cell f0'
      have F1 := Later.cell f1'
      have F2 := Later.cell f2'
      have E0 := Later.cell (cell_mono hbn a0)
      have E1 := Later.cell (cell_mono hbn a1)
      have E2 := Later.cell (cell_mono hbn a2)
      have E3 := Later.cell (cell_mono hbn a3)
      have N0 := Later.cell (box_at (Below.refl _ (wr.alloc (.cells #[.int .i64 y.node, .int .i64 y.ch, .int .i64 y.frm, .int .i64 y.to] 42))) rfl 0 rfl)
      have N1 := Later.cell (box_at (Below.refl _ (wr.alloc (.cells #[.int .i64 y.node, .int .i64 y.ch, .int .i64 y.frm, .int .i64 y.to] 42))) rfl 1 rfl)
      have N2 := Later.cell (box_at (Below.refl _ (wr.alloc (.cells #[.int .i64 y.node, .int .i64 y.ch, .int .i64 y.frm, .int .i64 y.to] 42))) rfl 2 rfl)
      have N3 := Later.cell (box_at (Below.refl _ (wr.alloc (.cells #[.int .i64 y.node, .int .i64 y.ch, .int .i64 y.frm, .int .i64 y.to] 42))) rfl 3 rfl)
      by_cases q1 : k = i
      · have g1 : ((k : Int) != (i : Int)) = false := by simp [q1]
        have g1' : ((k : Int) == (i : Int)) = true := by simp [q1]
        have hc : cntB a i node k y = false := by simp [cntB, q1]
        have HC := Lib.hid hc
        clear hc q1
        gi_wp2_with fail
        refine wpIn_region_tail_wide 3 (by kernel_rfl) (by kernel_rfl) ?_
        simp only [List.length_cons, List.length_nil, Nat.reduceAdd, Nat.reduceSub, List.take_succ_cons, List.take_zero, List.drop_succ_cons, List.drop_zero]
        repeat (go_big_quiet_step ((go_at_call 19; exact later_of (aOverlapV _ _ _ (by with_reducible assumption)))))
        refine wpQuiet_nil ?_
        rintro _ ⟨z, rfl⟩
        have hbz := b_then hbn z.below
        have hJ3 := hJ pre wr z.W none hJw (grown_below hbz none) (fun r e => by cases e)
        gi_wp2_with fail
        refine ⟨fun _ h => (by cases h), ?_⟩
        gi_wp2
        go_roundw
        case rel => exact ⟨k + 1, pre, by omega, by go_num, by omega, by rw [Hos.out, HC.out]; exact Hpre.out, hFn.mono z.below, hJ3⟩
        case measure => simp [intOf]; omega
      have g1 : ((k : Int) != (i : Int)) = true := by simp; omega
      have g1' : ((k : Int) == (i : Int)) = false := by simp; omega
      by_cases q2 : y.ch = a.ch
      rotate_left
      · have g2 : (y.ch == a.ch) = false := by simpa using q2
        have hc : cntB a i node k y = false := by simp [cntB, q2]
        have HC := Lib.hid hc
        clear hc q2
        gi_wp2_with fail
        refine wpIn_region_tail_wide 3 (by kernel_rfl) (by kernel_rfl) ?_
        simp only [List.length_cons, List.length_nil, Nat.reduceAdd, Nat.reduceSub, List.take_succ_cons, List.take_zero, List.drop_succ_cons, List.drop_zero]
        repeat (go_big_quiet_step ((go_at_call 19; exact later_of (aOverlapV _ _ _ (by with_reducible assumption)))))
        refine wpQuiet_nil ?_
        rintro _ ⟨z, rfl⟩
        have hbz := b_then hbn z.below
        have hJ3 := hJ pre wr z.W none hJw (grown_below hbz none) (fun r e => by cases e)
        gi_wp2_with fail
        refine ⟨fun _ h => (by cases h), ?_⟩
        gi_wp2
        go_roundw
        case rel => exact ⟨k + 1, pre, by omega, by go_num, by omega, by rw [Hos.out, HC.out]; exact Hpre.out, hFn.mono z.below, hJ3⟩
        case measure => simp [intOf]; omega
      have g2 : (y.ch == a.ch) = true := by simpa using q2
      by_cases q3 : y.node = node
      · have g3 : (y.node != node) = false := by simp [q3]
        have g3' : (y.node == node) = true := by simp [q3]
        have hc : cntB a i node k y = false := by simp [cntB, q3]
        have HC := Lib.hid hc
        clear hc q2 q3
        gi_wp2_with fail
        refine wpIn_region_tail_wide 3 (by kernel_rfl) (by kernel_rfl) ?_
        simp only [List.length_cons, List.length_nil, Nat.reduceAdd, Nat.reduceSub, List.take_succ_cons, List.take_zero, List.drop_succ_cons, List.drop_zero]
        repeat (go_big_quiet_step ((go_at_call 19; exact later_of (aOverlapV _ _ _ (by with_reducible assumption)))))
        refine wpQuiet_nil ?_
        rintro _ ⟨z, rfl⟩
        have hbz := b_then hbn z.below
        have hJ3 := hJ pre wr z.W none hJw (grown_below hbz none) (fun r e => by cases e)
        gi_wp2_with fail
        refine ⟨fun _ h => (by cases h), ?_⟩
        gi_wp2
        go_roundw
        case rel => exact ⟨k + 1, pre, by omega, by go_num, by omega, by rw [Hos.out, HC.out]; exact Hpre.out, hFn.mono z.below, hJ3⟩
        case measure => simp [intOf]; omega
      have g3 : (y.node != node) = true := by simpa using q3
      have g3' : (y.node == node) = false := by simpa using q3
      rcases Bool.eq_false_or_eq_true (overB a y) with q4 | q4
      rotate_left
      · have hc : cntB a i node k y = false := by simp [cntB, q4]
        have HC := Lib.hid hc
        clear hc q2 q3
        gi_wp2_with fail
        refine wpIn_region_tail_wide 3 (by kernel_rfl) (by kernel_rfl) ?_
        simp only [List.length_cons, List.length_nil, Nat.reduceAdd, Nat.reduceSub, List.take_succ_cons, List.take_zero, List.drop_succ_cons, List.drop_zero]
        repeat (go_big_quiet_step ((go_at_call 19; exact later_of (aOverlapV _ _ _ (by with_reducible assumption)))))
        refine wpQuiet_nil ?_
        rintro _ ⟨z, rfl⟩
        have hbz := b_then hbn z.below
        have hJ3 := hJ pre wr z.W none hJw (grown_below hbz none) (fun r e => by cases e)
        gi_wp2_with fail
        refine ⟨fun _ h => (by cases h), ?_⟩
        gi_wp2
        go_roundw
        case rel => exact ⟨k + 1, pre, by omega, by go_num, by omega, by rw [Hos.out, HC.out]; exact Hpre.out, hFn.mono z.below, hJ3⟩
        case measure => simp [intOf]; omega
      have hc : cntB a i node k y = true := by simp [cntB, q1, q2, q3, q4]
      have HC := Lib.hid hc
      clear hc q1 q2 q3
      gi_wp2_with fail
      refine wpIn_region_tail_wide 3 (by kernel_rfl) (by kernel_rfl) ?_
      simp only [List.length_cons, List.length_nil, Nat.reduceAdd, Nat.reduceSub, List.take_succ_cons, List.take_zero, List.drop_succ_cons, List.drop_zero]
      repeat (go_big_quiet_step ((go_at_call 19; exact later_of (aOverlapV _ _ _ (by with_reducible assumption)))))
      refine wpQuiet_nil ?_
      rintro _ ⟨z, rfl⟩
      have hbz := b_then hbn z.below
      have hJ3 := hJ pre wr z.W none hJw (grown_below hbz none) (fun r e => by cases e)
      obtain ⟨fn, tmps, assign, body, hy, hR⟩ := hY pre k z.W hJ3 (by omega)
      rw [HY0.out] at hy
      gi_wp2_with fail
      refine hR.mono ?_
      rintro e W4 (⟨rfl, hJ4, hk4⟩ | ⟨rfl, hJx4⟩)
      · have hF4 := hK _ _ hk4 (hFn.mono z.below)
        gi_wp2
        go_roundw
        case rel => exact ⟨k + 1, pre ++ [k], by omega, by go_num, by simp; omega, by rw [Hos.out, HC.out, Hpre.out]; rfl, hF4, hJ4⟩
        case measure => simp [intOf]; omega
      · gi_wp2
        refine bodyPost_ret (results_none rfl _ _ _) rfl ?_
        exact ⟨⟨_, rfl⟩, .inr ⟨_, trivial, hJx4⟩⟩
    · gi_wp2
      go_end0
      exact ⟨⟨_, rfl⟩, .inl ⟨pre, by rw [hpre]; unfold othL; rw [show k = l.length by omega], hJw⟩⟩
end Go.Proofs.YtpbhoeaadnemhaaGreat
namespace Go.Proofs.YtpbhoeaadnemhaaGreat
open Go.RowKit Go.Shelf
attribute [local go_sem] Oper.semAt_some
set_option linter.unusedVariables false
set_option linter.unusedSimpArgs false
set_option maxHeartbeats 4000000
set_option maxRecDepth 100000
theorem aOthers (s : Site) (x : Spm) (l : List Em) {A0 A1 A2 A3 A4 A5 : Option Addr} {c0 c1 c2 c3 c4 c5 B : Nat} (i node : Int) (w : World) :
    Calls Tryz.prog 30 #[.agg #[.slice A0 s.nodes.length c0, .slice A1 s.powers.length c1, .slice A2 s.walls.length c2, .int .i64 s.ex, .int .i64 s.noise, .int .i64 s.thr, .slice A3 x.srcs.length c3, .slice A4 x.fds.length c4, .slice A5 l.length c5, .func (.func 40) #[] #[.pointer (some ⟨B, 0, none⟩)]], .int .i64 i, .int .i64 node] w fun e w' => e = .returned (.func (.func 48) #[] #[.pointer (some ⟨w.heap.size, 0, none⟩), .pointer (some ⟨w.heap.size + 1, 0, none⟩), .pointer (some ⟨w.heap.size + 1 + 1, 0, none⟩)]) ∧
      w' = ((w.alloc (.cells #[.slice A0 s.nodes.length c0, .slice A1 s.powers.length c1, .slice A2 s.walls.length c2, .int .i64 s.ex, .int .i64 s.noise, .int .i64 s.thr, .slice A3 x.srcs.length c3, .slice A4 x.fds.length c4, .slice A5 l.length c5, .func (.func 40) #[] #[.pointer (some ⟨B, 0, none⟩)]] 59)).alloc (.cells #[.int .i64 i] 3)).alloc (.cells #[.int .i64 node] 3) := by
  have hu4 := Tryz.underlying59
  go_enter Tryz.func30, Tryz.ntmps30
  go_wp2
  go_ret
  exact ⟨rfl, rfl⟩
theorem aInterference (s : Site) (x : Spm) (l : List Em) (i : Nat) (node : Int) (v : Value) (w : World) (hi : i < l.length) (hsc : ScV w v s x l) :
    Calls Tryz.prog 37 #[v, .int .i64 i, .int .i64 node] w fun e w' => e = .returned (.int .i64 (intfI s x l i node)) ∧ Below w.heap.size w w' := by
  have hu := Tryz.underlying42
  have hu4 := Tryz.underlying59
  have hsc' := Lib.hid hsc
  obtain ⟨A0, c0, A1, c1, A2, c2, A3, c3, A4, c4, A5, c5, B, rfl, hs, hx, hl, k4, k5⟩ := hsc
  have hl' := Lib.hid hl
  clear hs hx k4 k5 hl
  obtain ⟨W1, hW1⟩ : ∃ W : World, W = ((w.alloc (.cells #[.slice A0 s.nodes.length c0, .slice A1 s.powers.length c1, .slice A2 s.walls.length c2, .int .i64 s.ex, .int .i64 s.noise, .int .i64 s.thr, .slice A3 x.srcs.length c3, .slice A4 x.fds.length c4, .slice A5 l.length c5, .func (.func 40) #[] #[.pointer (some ⟨B, 0, none⟩)]] 59)).alloc (.cells #[.int .i64 node] 3)) := ⟨_, rfl⟩; have hb1 : Below w.heap.size w W1 := (by rw [hW1]; (repeat (first | exact Below.refl _ _ | assumption | apply b_alloc | apply b_drewN | apply b_drew))); have q : ∀ wq : World, Below W1.heap.size W1 wq → wq.cell? ⟨w.heap.size, 0, none⟩ = some (.slice A0 s.nodes.length c0) ∧ wq.cell? ⟨w.heap.size, 1, none⟩ = some (.slice A1 s.powers.length c1) ∧ wq.cell? ⟨w.heap.size, 2, none⟩ = some (.slice A2 s.walls.length c2) ∧ wq.cell? ⟨w.heap.size, 3, none⟩ = some (.int .i64 s.ex) ∧ wq.cell? ⟨w.heap.size, 4, none⟩ = some (.int .i64 s.noise) ∧ wq.cell? ⟨w.heap.size, 5, none⟩ = some (.int .i64 s.thr) ∧ wq.cell? ⟨w.heap.size, 6, none⟩ = some (.slice A3 x.srcs.length c3) ∧ wq.cell? ⟨w.heap.size, 7, none⟩ = some (.slice A4 x.fds.length c4) ∧ wq.cell? ⟨w.heap.size, 8, none⟩ = some (.slice A5 l.length c5) ∧ wq.cell? ⟨w.heap.size, 9, none⟩ = some (.func (.func 40) #[] #[.pointer (some ⟨B, 0, none⟩)]) ∧ wq.cell? ⟨w.heap.size + 1, 0, none⟩ = some (.int .i64 node) := (fun wq hwr => ⟨cell_mono hwr (by rw [hW1]; go_simp), cell_mono hwr (by rw [hW1]; go_simp), cell_mono hwr (by rw [hW1]; go_simp), cell_mono hwr (by rw [hW1]; go_simp), cell_mono hwr (by rw [hW1]; go_simp), cell_mono hwr (by rw [hW1]; go_simp), cell_mono hwr (by rw [hW1]; go_simp), cell_mono hwr (by rw [hW1]; go_simp), cell_mono hwr (by rw [hW1]; go_simp), cell_mono hwr (by rw [hW1]; go_simp), cell_mono hwr (by rw [hW1]; go_simp)⟩); have HW := Lib.hid hW1; clear hW1
  refine (callsIn_wide (n := 10)).1 (callsIn_of_wp_marks Tryz.func37 rfl trivial (wpIn_wide.2 ?_) rfl)
  simp only [Tryz.ntmps37, List.size_toArray, List.length_cons, List.length_nil, Nat.reduceAdd, Nat.reduceSub, Array.replicate_succ, Array.replicate_zero, List.push_toArray, List.append_toArray, List.nil_append, List.cons_append]
  go_wp2_with fail
  rw [← HW.out]
  refine (aExternal s x l i node _ _ hi (hsc'.out.mono hb1)).mono ?_
  rintro e w3 ⟨rfl, hb3⟩
  have hbA : Below w3.heap.size w3 (w3.alloc (.cells #[.int .i64 (extI s x (emD l i) node)] 3)) := b_alloc (Below.refl _ _) _
  obtain ⟨n0, n1, n2, n3, n4, n5, n6, n7, n8, n9, n10⟩ := q _ (b_then hb3 hbA)
  have hsz1 : W1.heap.size = w.heap.size + 2 := by rw [HW.out]; simp
  have hlt3 := hb3.size
  go_wp2_with fail
  refine (aOthers s x l i node _).mono ?_
  rintro e w4 ⟨rfl, rfl⟩
  go_wp2_with fail
  have hA : OtF (w3.heap.size + 1) (w3.heap.size + 1 + 1) (w3.heap.size + 1 + 1 + 1) (.slice A5 l.length c5) i node w ((((w3.alloc (.cells #[.int .i64 (extI s x (emD l i) node)] 3)).alloc (.cells #[.slice A0 s.nodes.length c0, .slice A1 s.powers.length c1, .slice A2 s.walls.length c2, .int .i64 s.ex, .int .i64 s.noise, .int .i64 s.thr, .slice A3 x.srcs.length c3, .slice A4 x.fds.length c4, .slice A5 l.length c5, .func (.func 40) #[] #[.pointer (some ⟨B, 0, none⟩)]] 59)).alloc (.cells #[.int .i64 i] 3)).alloc (.cells #[.int .i64 node] 3)) :=
    ⟨by go_simp, by go_simp, by go_simp, by exact b_then (b_then hb1 hb3) (by (repeat (first | exact Below.refl _ _ | assumption | apply b_alloc | apply b_drewN | apply b_drew)))⟩
  have hB0 : Below w3.heap.size w3 ((((w3.alloc (.cells #[.int .i64 (extI s x (emD l i) node)] 3)).alloc (.cells #[.slice A0 s.nodes.length c0, .slice A1 s.powers.length c1, .slice A2 s.walls.length c2, .int .i64 s.ex, .int .i64 s.noise, .int .i64 s.thr, .slice A3 x.srcs.length c3, .slice A4 x.fds.length c4, .slice A5 l.length c5, .func (.func 40) #[] #[.pointer (some ⟨B, 0, none⟩)]] 59)).alloc (.cells #[.int .i64 i] 3)).alloc (.cells #[.int .i64 node] 3)) := by (repeat (first | exact Below.refl _ _ | assumption | apply b_alloc | apply b_drewN | apply b_drew))
  have hsz : ((((w3.alloc (.cells #[.int .i64 (extI s x (emD l i) node)] 3)).alloc (.cells #[.slice A0 s.nodes.length c0, .slice A1 s.powers.length c1, .slice A2 s.walls.length c2, .int .i64 s.ex, .int .i64 s.noise, .int .i64 s.thr, .slice A3 x.srcs.length c3, .slice A4 x.fds.length c4, .slice A5 l.length c5, .func (.func 40) #[] #[.pointer (some ⟨B, 0, none⟩)]] 59)).alloc (.cells #[.int .i64 i] 3)).alloc (.cells #[.int .i64 node] 3)).heap.size = w3.heap.size + 4 := by simp
  have hq0 := ((((Boxed.new w3 3 (.int .i64 (extI s x (emD l i) node))).alloc (.cells #[.slice A0 s.nodes.length c0, .slice A1 s.powers.length c1, .slice A2 s.walls.length c2, .int .i64 s.ex, .int .i64 s.noise, .int .i64 s.thr, .slice A3 x.srcs.length c3, .slice A4 x.fds.length c4, .slice A5 l.length c5, .func (.func 40) #[] #[.pointer (some ⟨B, 0, none⟩)]] 59)).alloc (.cells #[.int .i64 i] 3)).alloc (.cells #[.int .i64 node] 3))
  have hS0 : ScV ((((w3.alloc (.cells #[.int .i64 (extI s x (emD l i) node)] 3)).alloc (.cells #[.slice A0 s.nodes.length c0, .slice A1 s.powers.length c1, .slice A2 s.walls.length c2, .int .i64 s.ex, .int .i64 s.noise, .int .i64 s.thr, .slice A3 x.srcs.length c3, .slice A4 x.fds.length c4, .slice A5 l.length c5, .func (.func 40) #[] #[.pointer (some ⟨B, 0, none⟩)]] 59)).alloc (.cells #[.int .i64 i] 3)).alloc (.cells #[.int .i64 node] 3)) (.agg #[.slice A0 s.nodes.length c0, .slice A1 s.powers.length c1, .slice A2 s.walls.length c2, .int .i64 s.ex, .int .i64 s.noise, .int .i64 s.thr, .slice A3 x.srcs.length c3, .slice A4 x.fds.length c4, .slice A5 l.length c5, .func (.func 40) #[] #[.pointer (some ⟨B, 0, none⟩)]]) s x l := hsc'.out.mono (b_then (b_then hb1 hb3) hB0)
  generalize hW0 : ((((w3.alloc (.cells #[.int .i64 (extI s x (emD l i) node)] 3)).alloc (.cells #[.slice A0 s.nodes.length c0, .slice A1 s.powers.length c1, .slice A2 s.walls.length c2, .int .i64 s.ex, .int .i64 s.noise, .int .i64 s.thr, .slice A3 x.srcs.length c3, .slice A4 x.fds.length c4, .slice A5 l.length c5, .func (.func 40) #[] #[.pointer (some ⟨B, 0, none⟩)]] 59)).alloc (.cells #[.int .i64 i] 3)).alloc (.cells #[.int .i64 node] 3)) = W0 at *
  clear hW0
  refine (wpIn_wide (n := 10)).1 (wpIn_rangeFunc_ownH (F := Fence.wide) rfl (by omega) (gf := 48) (lb := #[.pointer (some ⟨w3.heap.size + 1, 0, none⟩), .pointer (some ⟨w3.heap.size + 1 + 1, 0, none⟩), .pointer (some ⟨w3.heap.size + 1 + 1 + 1, 0, none⟩)]) rfl trivial (enters_of Tryz.func48 (by kernel_rfl) rfl)
    (others1 9 (by omega) _ _ _ l i hi node _ w W0 hl'.out hA (Bbt W0.heap.size w3.heap.size) ?kf) bbt_t (bbt_b (Nat.le_refl _)) (Below.refl _ _) (fun _ => rfl)
    (fun pre W => Boxed W w3.heap.size 3 (.int .i64 (List.foldl (addI s x l node) (extI s x (emD l i) node) pre)) ∧ Bbt W0.heap.size w3.heap.size W0 W) (fun _ _ _ => False)
    (OwnFrom.and (Own.from (boxed_own _ _ _) _) (ownFrom_bbt (Nat.le_refl _) (Nat.le_refl _))) (fun _ _ _ _ _ hs _ _ => hs) ⟨hq0, Bbt.refl _ _ _⟩
    (fun (y : Nat) a' W => ∃ (B' : Nat) (u0 u1 u2 u4 u6 u8 u10 u11 u12 u13 u14 u15 u16 u17 u18 u19 u20 u21 u22 u23 u24 u25 u26 : Value), W.heap[B']? = some (.cells #[.int .i64 (emD l y).node, .int .i64 (emD l y).ch, .int .i64 (emD l y).frm, .int .i64 (emD l y).to] 42 (0, 0)) ∧ a' = { tmps := #[u0, u1, u2, .pointer (some ⟨w.heap.size, 0, none⟩), u4, .pointer (some ⟨w.heap.size + 1, 0, none⟩), u6, .pointer (some ⟨w3.heap.size, 0, none⟩), u8, .pointer (some ⟨B', 0, none⟩), u10, u11, u12, u13, u14, u15, u16, u17, u18, u19, u20, u21, u22, u23, u24, u25, u26], defers := [] })
    ?ax ?assign ?body ?done ?stop)
  case kf =>
    intro X Y hXY hX
    exact ⟨(hXY.cell (by simp; omega) (by simp)).trans hX.hl, (hXY.cell (by simp; omega) (by simp; omega)).trans hX.hi, (hXY.cell (by simp; omega) (by simp; omega)).trans hX.hn, hX.below.trans (hXY.below (by omega) (by omega))⟩
  case ax =>
    rintro y a' _ W W' row ⟨B', u0, u1, u2, u4, u6, u8, u10, u11, u12, u13, u14, u15, u16, u17, u18, u19, u20, u21, u22, u23, u24, u25, u26, hh, he⟩ hg hr
    refine ⟨B', u0, u1, u2, u4, u6, u8, u10, u11, u12, u13, u14, u15, u16, u17, u18, u19, u20, u21, u22, u23, u24, u25, u26, (hg.block B' (Array.getElem?_eq_some_iff.1 hh).1 (fun e => ?_)).trans hh, he⟩
    obtain ⟨_, o, ho, hc⟩ := hr B' e.symm
    rw [hh] at ho
    cases ho
    cases hc
  case assign =>
    intro lb pre y W K hI hK
    simp only [encEm]
    gi_wp2
    exact hK _ _ ((KeepsOthers.alloc _ _).from _) (Bbt.of_below ((Below.refl _ W).alloc hI.2.size _)) ⟨hI.1.alloc _, hI.2.trans (Bbt.of_below ((Below.refl _ W).alloc hI.2.size _))⟩ ⟨_, _, _, _, _, _, _, _, _, _, _, _, _, _, _, _, _, _, _, _, _, _, _, _, World.alloc_heap_new _ _, rfl⟩
  case body =>
    rintro lb pre y a' W hlb _ ⟨hq1, hB1⟩ ⟨B', u0, u1, u2, u4, u6, u8, u10, u11, u12, u13, u14, u15, u16, u17, u18, u19, u20, u21, u22, u23, u24, u25, u26, hh, rfl⟩ hN
    have hbW : Below W1.heap.size W1 W := (b_then hb3 hB0).trans (hB1.below (by omega) (by omega))
    obtain ⟨n0, n1, n2, n3, n4, n5, n6, n7, n8, n9, n10⟩ := q _ hbW; have Ln0 := Later.cell n0; have Ln1 := Later.cell n1; have Ln2 := Later.cell n2; have Ln3 := Later.cell n3; have Ln4 := Later.cell n4; have Ln5 := Later.cell n5; have Ln6 := Later.cell n6; have Ln7 := Later.cell n7; have Ln8 := Later.cell n8; have Ln9 := Later.cell n9; have Ln10 := Later.cell n10
    have hSW : ScV W (.agg #[.slice A0 s.nodes.length c0, .slice A1 s.powers.length c1, .slice A2 s.walls.length c2, .int .i64 s.ex, .int .i64 s.noise, .int .i64 s.thr, .slice A3 x.srcs.length c3, .slice A4 x.fds.length c4, .slice A5 l.length c5, .func (.func 40) #[] #[.pointer (some ⟨B, 0, none⟩)]]) s x l := hsc'.out.mono (b_then hb1 hbW)
    obtain ⟨m, hm⟩ : ∃ m, emD l y = m := ⟨_, rfl⟩
    have hadd : ∀ n, addI s x l node n y = wrap64 (n + sigI s x m node) := fun n => by rw [addI, hm]
    have HADD := Lib.hid hadd
    rw [hm] at hh
    clear hm hadd
    have D0 := Later.cell (show W.cell? ⟨B', 0, none⟩ = some (.int .i64 m.node) by simp [World.cell?, hh])
    have D1 := Later.cell (show W.cell? ⟨B', 1, none⟩ = some (.int .i64 m.ch) by simp [World.cell?, hh])
    have D2 := Later.cell (show W.cell? ⟨B', 2, none⟩ = some (.int .i64 m.frm) by simp [World.cell?, hh])
    have D3 := Later.cell (show W.cell? ⟨B', 3, none⟩ = some (.int .i64 m.to) by simp [World.cell?, hh])
    have Q0 := Later.cell hq1.cell
    gi_wp2_with fail
    refine wpIn_region_tail 1 (by kernel_rfl) (by kernel_rfl) (by kernel_rfl) ?_
    simp only [List.length_cons, List.length_nil, Nat.reduceAdd, Nat.reduceSub, List.take_succ_cons, List.take_zero, List.drop_succ_cons, List.drop_zero]
    repeat (go_big_quiet_step ((go_at_call 28; exact later_of (aSignal s x l m node _ _ (hSW.mono (Later.below _))))))
    refine wpQuiet_nil ?_
    rintro _ ⟨z, rfl⟩
    have hqz : Boxed z.W w3.heap.size 3 (.int .i64 (List.foldl (addI s x l node) (extI s x (emD l i) node) pre)) := (z.below.block _ hq1.lt).trans hq1
    have hBz : Bbt W0.heap.size w3.heap.size W z.W := Bbt.of_below (z.below.mono hB1.size)
    have cq := hqz.cell
    have fq := hqz.frozen
    gi_wp2
    exact ⟨((keeps_below z.below).trans (KeepsOthers.setCell _ _ _)).from _, hBz.trans (Bbt.setCell _ _ _ _), by have h2 := hqz.set (.int .i64 (wrap64 (List.foldl (addI s x l node) (extI s x (emD l i) node) pre + sigI s x m node))); simpa [List.foldl_append, HADD.out] using h2, hB1.trans (hBz.trans (Bbt.setCell _ _ _ _))⟩
  case stop =>
    rintro D c pre W _ _ h _
    exact h.elim
  case done =>
    rintro D xs W hD hxs ⟨hq1, hB1⟩ hK
    subst hxs
    have cq := hq1.cell
    go_wp2
    refine leaves_marks [D] W (by simp) (by simpa using hK) (fun W' hW' => ⟨_, results_tmp rfl _ _ _, ?_, ?_⟩)
    · exact ret_int rfl
    exact (((b_then hb1 hb3).trans (hB0.mono (by omega))).trans (hB1.below (by omega) (by omega))).trans (hW'.below (by simp; omega))
end Go.Proofs.YtpbhoeaadnemhaaGreat
namespace Go.Proofs.YtpbhoeaadnemhaaGreat
open Go.RowKit
set_option linter.unusedVariables false
set_option linter.unusedSimpArgs false
set_option maxHeartbeats 4000000
set_option maxRecDepth 100000
theorem aFreeV (s : Site) (x : Spm) (l : List Em) (i : Nat) (node : Int) (v : Value) (w : World) {c : Bool} (hi : i < l.length) (hsc : ScV w v s x l) (h : freeB l (emD l i) node = c) :
    Calls Tryz.prog 27 #[v, .int .i64 i, .int .i64 node] w fun e w' => e = .returned (.bool c) ∧ Below w.heap.size w w' := h ▸ aFree s x l i node v w hi hsc
theorem aReceived0 (s : Site) (x : Spm) (l : List Em) (i : Nat) (node : Int) (v : Value) (w : World) (hv : siteB s = true) (hi : i < l.length) (hsc : ScV w v s x l) :
    Calls Tryz.prog 22 #[v, .int .i64 i, .int .i64 node] w fun e w' => e = .returned (.bool (recvB s x l i node)) ∧ Below w.heap.size w w' := by
  have hu := Tryz.underlying42
  have hu4 := Tryz.underlying59
  have hsc' := Lib.hid hsc
  obtain ⟨A0, c0, A1, c1, A2, c2, A3, c3, A4, c4, A5, c5, B, rfl, hs, hx, hl, k4, k5⟩ := hsc
  have hs' := Lib.hid hs
  have hx' := Lib.hid hx
  have hl' := Lib.hid hl
  have K4 := Lib.hid k4
  have K5 := Lib.hid k5
  obtain ⟨_, _, e5, hc5, hm5, hr5⟩ := hl
  cases e5
  unfold big at hm5
  clear hs hx k4 k5
  obtain ⟨W1, hW1⟩ : ∃ W : World, W = (w.alloc (.cells #[.slice A0 s.nodes.length c0, .slice A1 s.powers.length c1, .slice A2 s.walls.length c2, .int .i64 s.ex, .int .i64 s.noise, .int .i64 s.thr, .slice A3 x.srcs.length c3, .slice A4 x.fds.length c4, .slice A5 l.length c5, .func (.func 40) #[] #[.pointer (some ⟨B, 0, none⟩)]] 59)) := ⟨_, rfl⟩; have hb1 : Below w.heap.size w W1 := (by rw [hW1]; (repeat (first | exact Below.refl _ _ | assumption | apply b_alloc | apply b_drewN | apply b_drew))); have q : ∀ wq : World, Below W1.heap.size W1 wq → wq.cell? ⟨w.heap.size, 0, none⟩ = some (.slice A0 s.nodes.length c0) ∧ wq.cell? ⟨w.heap.size, 1, none⟩ = some (.slice A1 s.powers.length c1) ∧ wq.cell? ⟨w.heap.size, 2, none⟩ = some (.slice A2 s.walls.length c2) ∧ wq.cell? ⟨w.heap.size, 3, none⟩ = some (.int .i64 s.ex) ∧ wq.cell? ⟨w.heap.size, 4, none⟩ = some (.int .i64 s.noise) ∧ wq.cell? ⟨w.heap.size, 5, none⟩ = some (.int .i64 s.thr) ∧ wq.cell? ⟨w.heap.size, 6, none⟩ = some (.slice A3 x.srcs.length c3) ∧ wq.cell? ⟨w.heap.size, 7, none⟩ = some (.slice A4 x.fds.length c4) ∧ wq.cell? ⟨w.heap.size, 8, none⟩ = some (.slice A5 l.length c5) ∧ wq.cell? ⟨w.heap.size, 9, none⟩ = some (.func (.func 40) #[] #[.pointer (some ⟨B, 0, none⟩)]) := (fun wq hwr => ⟨cell_mono hwr (by rw [hW1]; go_simp), cell_mono hwr (by rw [hW1]; go_simp), cell_mono hwr (by rw [hW1]; go_simp), cell_mono hwr (by rw [hW1]; go_simp), cell_mono hwr (by rw [hW1]; go_simp), cell_mono hwr (by rw [hW1]; go_simp), cell_mono hwr (by rw [hW1]; go_simp), cell_mono hwr (by rw [hW1]; go_simp), cell_mono hwr (by rw [hW1]; go_simp), cell_mono hwr (by rw [hW1]; go_simp)⟩); have HW := Lib.hid hW1; clear hW1
  have hsL : ∀ z : Later W1, ScV z.W (.agg #[.slice A0 s.nodes.length c0, .slice A1 s.powers.length c1, .slice A2 s.walls.length c2, .int .i64 s.ex, .int .i64 s.noise, .int .i64 s.thr, .slice A3 x.srcs.length c3, .slice A4 x.fds.length c4, .slice A5 l.length c5, .func (.func 40) #[] #[.pointer (some ⟨B, 0, none⟩)]]) s x l := fun z => hsc'.out.mono (b_then hb1 z.below)
  have HSL := Lib.hid hsL
  have hk4 : ∀ z : Later W1, z.W.cell? ⟨B, 4, none⟩ = some (.int .i64 s.noise) := fun z => cell_mono (b_then hb1 z.below) K4.out
  have hk5 : ∀ z : Later W1, z.W.cell? ⟨B, 5, none⟩ = some (.int .i64 s.thr) := fun z => cell_mono (b_then hb1 z.below) K5.out
  have HK4 := Lib.hid hk4
  have HK5 := Lib.hid hk5
  clear hsL hk4 hk5
  obtain ⟨n0, n1, n2, n3, n4, n5, n6, n7, n8, n9⟩ := q _ (Below.refl _ _); have Ln0 := Later.cell n0; have Ln1 := Later.cell n1; have Ln2 := Later.cell n2; have Ln3 := Later.cell n3; have Ln4 := Later.cell n4; have Ln5 := Later.cell n5; have Ln6 := Later.cell n6; have Ln7 := Later.cell n7; have Ln8 := Later.cell n8; have Ln9 := Later.cell n9
  have hg := emD_get hi
  have i0 : (0 : Int) ≤ (i : Int) := by omega
  have i1 : (i : Int) < (l.length : Int) := by omega
  obtain ⟨b, off, hAe, e0, e1, e2, e3⟩ := hr5.em hb1 hg
  subst hAe
  have E0 := Later.cell e0
  have E1 := Later.cell e1
  have E2 := Later.cell e2
  have E3 := Later.cell e3
  have HG := Lib.hid hg
  clear hg e0 e1 e2 e3
  obtain ⟨p0, p1⟩ := sig_bd s x (emD l i).node node (emD l i).ch (emD l i).frm
  have hp0 : 0 ≤ sigI s x (emD l i) node := p0
  have hp1 : sigI s x (emD l i) node ≤ 68719476736 := p1
  have HP0 := Lib.hid hp0
  have HP1 := Lib.hid hp1
  clear p0 p1 hp0 hp1
  rcases Bool.eq_false_or_eq_true (freeB l (emD l i) node) with hf | hf
  · have hr : recvB s x l i node = hearB s (sigI s x (emD l i) node) (intfI s x l i node) := by simp [recvB, hf]
    rw [hr]
    clear hr
    have HF := Lib.hid hf
    go_enter Tryz.func22, Tryz.ntmps22
    go_wp2_with fail
    rw [← HW.out]
    refine wp_region_later (by kernel_rfl) (by kernel_rfl) ?_
    repeat (go_big_quiet_step ((first
      | (go_at_call 27; exact later_of (aFreeV s x l i node _ _ hi (HSL.out _) (by with_reducible assumption)))
      | (go_at_call 28; exact later_of (aSignal s x l (emD l i) node _ _ (HSL.out _)))
      | (go_at_call 37; exact later_of (aInterference s x l i node _ _ hi (HSL.out _)))
      | (go_at_call 40; exact later_same (aHeard s hv B (sigI s x (emD l i) node) (intfI s x l i node) HP0.out HP1.out _ (HK4.out _) (HK5.out _))))))
    refine wpQuiet_nil ?_
    rintro _ ⟨z, rfl⟩
    go_wp2
    go_ret
    exact ⟨rfl, b_then hb1 z.below⟩
  · have hr : recvB s x l i node = false := by simp [recvB, hf]
    rw [hr]
    clear hr
    go_enter Tryz.func22, Tryz.ntmps22
    go_wp2_with fail
    rw [← HW.out]
    refine wp_region_later (by kernel_rfl) (by kernel_rfl) ?_
    repeat (go_big_quiet_step ((go_at_call 27; exact later_of (aFreeV s x l i node _ _ hi (HSL.out _) (by with_reducible assumption)))))
    refine wpQuiet_nil ?_
    rintro _ ⟨z, rfl⟩
    go_wp2
    go_ret
    exact ⟨rfl, b_then hb1 z.below⟩
end Go.Proofs.YtpbhoeaadnemhaaGreat
