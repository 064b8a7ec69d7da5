/- The iterator over the transmitters that are on. -/
import Derived.Test.YtlndgoaobalenaaRng
import Derived.Test.YtlndgoaobalenaaHas
import Derived.Test.YtlndgoaobalenaaSpc5
namespace Go.Proofs.Ytlndgoaobalenaa
open Go.RowKit Go.Shelf
attribute [local go_sem] Oper.semAt_some
set_option linter.unusedVariables false
set_option linter.unusedSimpArgs false
set_option maxHeartbeats 4000000
set_option maxRecDepth 100000
/-- A transmitter counts: it has the channel, and is on. -/
def actB (c f t : Int) (s : Src) : Bool := hasB s.ch c && onB s f t
/-- What the iterator reads: the captured variables, and the transmitters. -/
structure ActF (b4 b5 b6 b7 : Nat) (v0 v1 : Value) (c f t : Int) (w0 W : World) : Prop where
  h0 : W.cell? ⟨b4, 0, none⟩ = some v0
  h1 : W.cell? ⟨b4, 1, none⟩ = some v1
  h5 : W.cell? ⟨b5, 0, none⟩ = some (.int .i64 c)
  h6 : W.cell? ⟨b6, 0, none⟩ = some (.int .i64 f)
  h7 : W.cell? ⟨b7, 0, none⟩ = some (.int .i64 t)
  below : Below w0.heap.size w0 W
theorem ActF.mono {b4 b5 b6 b7 : Nat} {v0 v1 : Value} {c f t : Int} {w0 W W1 : World} (h : ActF b4 b5 b6 b7 v0 v1 c f t w0 W) (hb : Below W.heap.size W W1) : ActF b4 b5 b6 b7 v0 v1 c f t w0 W1 :=
  ⟨cell_mono hb h.h0, cell_mono hb h.h1, cell_mono hb h.h5, cell_mono hb h.h6, cell_mono hb h.h7, b_then h.below hb⟩
abbrev SrcC : Type := Src × Option Addr × Nat × Nat
def encSrc (p : SrcC) : Array Value := #[.agg #[.int .i64 (p.1).pt.x, .int .i64 (p.1).pt.y, .int .i64 (p.1).pow, .slice p.2.1 p.2.2.1 p.2.2.2, .int .i64 (p.1).per, .int .i64 (p.1).frm, .int .i64 (p.1).to]]
theorem active1 (n : Nat) (hn : 1 ≤ n) (b4 b5 b6 b7 : Nat) (v0 v1 : Value) (srcs : List Src) (c f t : Int) (w0 w1 : World) (hS : SlV 7 KSrc w0 v0 srcs) (hv : ∀ s, s ∈ srcs → srcB s = true) (hi : ivB f t = true)
    (hF : ActF b4 b5 b6 b7 v0 v1 c f t w0 w1) (Kp : World → World → Prop) (hK : ∀ A B, Kp A B → ActF b4 b5 b6 b7 v0 v1 c f t w0 A → ActF b4 b5 b6 b7 v0 v1 c f t w0 B) :
    SeqStopsK Fence.wide n Try.prog 76 #[.pointer (some ⟨b4, 0, none⟩), .pointer (some ⟨b5, 0, none⟩), .pointer (some ⟨b6, 0, none⟩), .pointer (some ⟨b7, 0, none⟩)] encSrc Kp
      (fun xs => xs.map Prod.fst = srcs.filter (actB c f t)) (fun _ => True) srcs.length w1 := by
  intro l J Jx W hW hJ hJx hY h0
  have hFW := hF.mono hW
  obtain ⟨A, c0, rfl, hc, hm, hr⟩ := hS
  unfold big at hm
  have hu := Try.underlying30
  have hu2 := Try.underlying25
  obtain ⟨f0, f1, f5, f6, f7, f8⟩ := id hFW
  refine callsIn_of_wp Try.func76 rfl trivial ?_ rfl
  simp only [Try.ntmps76, List.size_toArray, List.length_cons, List.length_nil, Nat.reduceAdd, Nat.reduceSub, Array.replicate_succ, Array.replicate_zero, List.push_toArray, List.append_toArray, List.nil_append, List.cons_append]
  gi_wp2
  gi_loopw [11] (fun i wr => ∃ (k : Nat) (pre : List SrcC), k ≤ srcs.length ∧ i = .int .i64 k ∧ pre.length ≤ k ∧ pre.map Prod.fst = (srcs.take k).filter (actB c f t) ∧ ActF b4 b5 b6 b7 (.slice A srcs.length c0) v1 c f t w0 wr ∧ J pre wr) (fun i _ => srcs.length - (intOf i).toNat)
  case atStart => exact ⟨0, [], Nat.zero_le _, rfl, Nat.le_refl _, rfl, hFW, h0⟩
  case round =>
    obtain ⟨k, pre, hk, rfl, hpl, hpre, hFw, hJw⟩ := hrel
    clear f0 f1 f5 f6 f7 f8
    obtain ⟨f0, f1, f5, f6, f7, f8⟩ := id hFw
    by_cases hlt : k < srcs.length
    · obtain ⟨s, hx⟩ : ∃ s, srcs[k]? = some s := ⟨_, List.getElem?_eq_getElem hlt⟩
      obtain ⟨b, off, u, rfl, hu, e0, e1, e2, e3, e4, e5, e6⟩ := hr.src f8 hx
      have hsv := hv s (List.mem_of_getElem? hx)
      have htk : (srcs.take (k + 1)).filter (actB c f t) = (srcs.take k).filter (actB c f t) ++ (if actB c f t s then [s] else []) := by
        rw [List.take_add_one, hx, List.filter_append]; simp only [Option.toList_some, List.filter_cons, List.filter_nil]
      have Htk := Lib.hid htk
      have Hpre := Lib.hid hpre
      clear hx htk hpre
      have hu0 := Lib.hid hu
      obtain ⟨A', c', rfl, hc', hm', hr'⟩ := hu
      have hbn : Below wr.heap.size wr (wr.alloc (.cells #[.int .i64 s.pt.x, .int .i64 s.pt.y, .int .i64 s.pow, .slice A' s.ch.length c', .int .i64 s.per, .int .i64 s.frm, .int .i64 s.to] 30)) := b_alloc (Below.refl _ _) _
      have hFn := hFw.mono hbn
      obtain ⟨g0, g1, g5, g6, g7, g8⟩ := id hFn
      gi_wp2_with fail
      refine ⟨trivial, ?_⟩
      refine (callsIn_wide.2 (xContains s.ch c _ _ (hu0.out.mono KI.st hbn))).mono ?_
      rintro e w2 ⟨rfl, rfl⟩
      rcases Bool.eq_false_or_eq_true (hasB s.ch c) with q | q
      · rw [q]
        have Hq := Lib.hid q
        clear q
        gi_wp2_with fail
        refine ⟨trivial, ?_⟩
        refine (callsIn_wide.2 (sOn0 s _ f t _ (hu0.out.mono KI.st hbn) hsv hi)).mono ?_
        rintro e w3 ⟨rfl, hb3⟩
        have hbz := b_then hbn hb3
        have hF3 := hFn.mono hb3
        have t0 := box_at hb3 rfl 0 rfl
        have t1 := box_at hb3 rfl 1 rfl
        have t2 := box_at hb3 rfl 2 rfl
        have t3 := box_at hb3 rfl 3 rfl
        have t4 := box_at hb3 rfl 4 rfl
        have t5 := box_at hb3 rfl 5 rfl
        have t6 := box_at hb3 rfl 6 rfl
        have hJ3 := hJ pre wr w3 none hJw (grown_below hbz none) (fun r e => by cases e)
        rcases Bool.eq_false_or_eq_true (onB s f t) with r | r
        · rw [r]
          have Hr := Lib.hid r
          clear r
          obtain ⟨fn, tmps, assign, body, hy, hR⟩ := hY pre (s, A', s.ch.length, c') w3 hJ3 (by omega)
          simp only [encSrc] at hy
          gi_wp2_with fail
          refine hR.mono ?_
          rintro e W4 (⟨rfl, hJ4, hk4⟩ | ⟨rfl, hJx4⟩)
          · have hF4 := hK _ _ hk4 hF3
            gi_wp2
            go_roundw
            case rel => exact ⟨k + 1, pre ++ [(s, A', s.ch.length, c')], by omega, by go_num, by simp; omega, by rw [Htk.out, List.map_append, Hpre.out]; simp [actB, Hq.out, Hr.out], hF4, hJ4⟩
            case measure => simp [intOf]; omega
          · gi_wp2
            refine bodyPost_ret (results_none rfl _ _ _) rfl ?_
            exact ⟨⟨_, rfl⟩, .inr ⟨_, trivial, hJx4⟩⟩
        · rw [r]
          gi_wp2_with fail
          refine ⟨fun _ h => (by cases h), ?_⟩
          gi_wp2
          go_roundw
          case rel => exact ⟨k + 1, pre, by omega, by go_num, by omega, by rw [Htk.out, Hpre.out]; simp [actB, r], hF3, hJ3⟩
          case measure => simp [intOf]; omega
      · rw [q]
        gi_wp2_with fail
        refine ⟨trivial, ?_⟩
        gi_wp2_with fail
        refine ⟨fun _ h => (by cases h), ?_⟩
        gi_wp2
        go_roundw
        case rel => exact ⟨k + 1, pre, by omega, by go_num, by omega, by rw [Htk.out, Hpre.out]; simp [actB, q], hFn, hJ pre wr _ none hJw (grown_below hbn none) (fun r e => by cases e)⟩
        case measure => simp [intOf]; omega
    · gi_wp2
      go_end0
      exact ⟨⟨_, rfl⟩, .inl ⟨pre, by rw [hpre, List.take_of_length_le (by omega)], hJw⟩⟩
end Go.Proofs.Ytlndgoaobalenaa
