/- The iterator over the walls that a path crosses. -/
import Derived.Test.YtlndgoaobalenaaGeo6
namespace Go.Proofs.Ytlndgoaobalenaa
open Go.RowKit Go.Shelf
attribute [local go_sem] Oper.semAt_some
set_option linter.unusedVariables false
set_option linter.unusedSimpArgs false
set_option maxHeartbeats 4000000
set_option maxRecDepth 100000
structure CrF (b4 b5 b6 : Nat) (v2 : Value) (a b : Pt) (w0 W : World) : Prop where
  h2 : W.cell? ⟨b4, 2, none⟩ = some v2
  a0 : W.cell? ⟨b5, 0, none⟩ = some (.int .i64 a.x)
  a1 : W.cell? ⟨b5, 1, none⟩ = some (.int .i64 a.y)
  c0 : W.cell? ⟨b6, 0, none⟩ = some (.int .i64 b.x)
  c1 : W.cell? ⟨b6, 1, none⟩ = some (.int .i64 b.y)
  below : Below w0.heap.size w0 W
theorem CrF.mono {b4 b5 b6 : Nat} {v2 : Value} {a b : Pt} {w0 W W1 : World} (h : CrF b4 b5 b6 v2 a b w0 W) (hb : Below W.heap.size W W1) : CrF b4 b5 b6 v2 a b w0 W1 :=
  ⟨cell_mono hb h.h2, cell_mono hb h.a0, cell_mono hb h.a1, cell_mono hb h.c0, cell_mono hb h.c1, b_then h.below hb⟩
def encWl (q : Wl) : Array Value := #[.agg #[.int .i64 (q).a.x, .int .i64 (q).a.y, .int .i64 (q).b.x, .int .i64 (q).b.y, .int .i64 (q).f]]
theorem crossed1 (n : Nat) (hn : 1 ≤ n) (b4 b5 b6 : Nat) (v2 : Value) (walls : List Wl) (a b : Pt) (w0 w1 : World) (hS : SlV 5 KWl w0 v2 walls) (hF : CrF b4 b5 b6 v2 a b w0 w1)
    (Kp : World → World → Prop) (hK : ∀ A B, Kp A B → CrF b4 b5 b6 v2 a b w0 A → CrF b4 b5 b6 v2 a b w0 B) :
    SeqStopsK Fence.wide n Try.prog 92 #[.pointer (some ⟨b4, 0, none⟩), .pointer (some ⟨b5, 0, none⟩), .pointer (some ⟨b6, 0, none⟩)] encWl Kp
      (fun xs => xs = walls.filter (crossW a b)) (fun _ => True) walls.length w1 := by
  intro l J Jx W hW hJ hJx hY h0
  have hFW := hF.mono hW
  obtain ⟨A, c0, rfl, hc, hm, hr⟩ := hS
  unfold big at hm
  have hu := Try.underlying27
  have hu2 := Try.underlying92
  have hu3 := Try.underlying45
  obtain ⟨f2, f0, f1, g0, g1, f8⟩ := id hFW
  refine callsIn_of_wp Try.func92 rfl trivial ?_ rfl
  simp only [Try.ntmps92, List.size_toArray, List.length_cons, List.length_nil, Nat.reduceAdd, Nat.reduceSub, Array.replicate_succ, Array.replicate_zero, List.push_toArray, List.append_toArray, List.nil_append, List.cons_append]
  gi_wp2
  gi_loopw [10] (fun i wr => ∃ (k : Nat) (pre : List Wl), k ≤ walls.length ∧ i = .int .i64 k ∧ pre.length ≤ k ∧ pre = (walls.take k).filter (crossW a b) ∧ CrF b4 b5 b6 (.slice A walls.length c0) a b w0 wr ∧ J pre wr) (fun i _ => walls.length - (intOf i).toNat)
  case atStart => exact ⟨0, [], Nat.zero_le _, rfl, Nat.le_refl _, rfl, hFW, h0⟩
  case round =>
    obtain ⟨k, pre, hk, rfl, hpl, hpre, hFw, hJw⟩ := hrel
    clear f0 f1 f2 g0 g1 f8
    by_cases hlt : k < walls.length
    · obtain ⟨q, hx⟩ : ∃ q, walls[k]? = some q := ⟨_, List.getElem?_eq_getElem hlt⟩
      obtain ⟨B, off, rfl, e0, e1, e2, e3, e4⟩ := hr.wl hFw.below hx
      have htk : (walls.take (k + 1)).filter (crossW a b) = (walls.take k).filter (crossW a b) ++ (if crossW a b q then [q] else []) := by
        rw [List.take_add_one, hx, List.filter_append]; simp only [Option.toList_some, List.filter_cons, List.filter_nil]
      have Htk := Lib.hid htk
      have Hpre := Lib.hid hpre
      clear hx htk hpre
      have hbn : Below wr.heap.size wr (wr.alloc (.cells #[.int .i64 q.a.x, .int .i64 q.a.y, .int .i64 q.b.x, .int .i64 q.b.y, .int .i64 q.f] 92)) := b_alloc (Below.refl _ _) _
      have hFn := hFw.mono hbn
      obtain ⟨f2, f0, f1, g0, g1, f8⟩ := id hFw
      obtain ⟨f2', f0', f1', g0', g1', f8'⟩ := id hFn
      gi_wp2_with fail
      refine ⟨trivial, ?_⟩
      refine (callsIn_wide.2 (gCrossW a b q _)).mono ?_
      rintro e w3 ⟨rfl, hb3⟩
      have hbz := b_then hbn hb3
      have hF3 := hFn.mono hb3
      have t0 := box_at hb3 rfl 0 rfl
      have t1 := box_at hb3 rfl 1 rfl
      have t2 := box_at hb3 rfl 2 rfl
      have t3 := box_at hb3 rfl 3 rfl
      have t4 := box_at hb3 rfl 4 rfl
      have hJ3 := hJ pre wr w3 none hJw (grown_below hbz none) (fun r e => by cases e)
      rcases Bool.eq_false_or_eq_true (crossW a b q) with r | r
      · rw [r]
        have Hr := Lib.hid r
        clear r
        obtain ⟨fn, tmps, assign, body, hy, hR⟩ := hY pre q w3 hJ3 (by omega)
        simp only [encWl] at hy
        gi_wp2_with fail
        refine hR.mono ?_
        rintro e W4 (⟨rfl, hJ4, hk4⟩ | ⟨rfl, hJx4⟩)
        · have hF4 := hK _ _ hk4 hF3
          gi_wp2
          go_roundw
          case rel => exact ⟨k + 1, pre ++ [q], by omega, by go_num, by simp; omega, by rw [Htk.out, Hpre.out]; simp [Hr.out], hF4, hJ4⟩
          case measure => simp [intOf]; omega
        · gi_wp2
          refine bodyPost_ret (results_none rfl _ _ _) rfl ?_
          exact ⟨⟨_, rfl⟩, .inr ⟨_, trivial, hJx4⟩⟩
      · rw [r]
        gi_wp2_with fail
        refine ⟨fun _ h => (by cases h), ?_⟩
        gi_wp2
        go_roundw
        case rel => exact ⟨k + 1, pre, by omega, by go_num, by omega, by rw [Htk.out, Hpre.out]; simp [r], hF3, hJ3⟩
        case measure => simp [intOf]; omega
    · gi_wp2
      go_end0
      exact ⟨⟨_, rfl⟩, .inl ⟨pre, by rw [hpre, List.take_of_length_le (by omega)], hJw⟩⟩
end Go.Proofs.Ytlndgoaobalenaa
