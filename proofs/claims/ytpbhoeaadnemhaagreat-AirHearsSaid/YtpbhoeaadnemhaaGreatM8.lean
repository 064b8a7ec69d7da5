/- The iterator over the transmitters that are on. Clear. External power: specs; the reference's checks of nodes and times. External power: the reference. Powers between nodes, signals, the worst signal: in plain terms. The worst signal: where it is reached. More fadings, more transmitters, longer intervals: in plain terms. -/
import Derived.Test.YtpbhoeaadnemhaaGreatM1
import Derived.Test.YtpbhoeaadnemhaaGreatM7
import Derived.Test.YtpbhoeaadnemhaaGreatM5
namespace Go.Proofs.YtpbhoeaadnemhaaGreat
open Go.RowKit Go.Shelf
attribute [local go_sem] Oper.semAt_some
set_option linter.unusedVariables false
set_option linter.unusedSimpArgs false
set_option maxHeartbeats 4000000
set_option maxRecDepth 100000
/-- A transmitter counts: it has the channel, and is on. -/
def actB (c f t : Int) (s : Src) : Bool := hasB s.ch c && onB s f t
/-- What the iterator reads: the captured variables, and the transmitters. -/
structure ActF (b4 b5 b6 b7 : Nat) (v0 v1 : Value) (c f t : Int) (w0 W : World) : Prop where
  h0 : W.cell? ⟨b4, 0, none⟩ = some v0
  h1 : W.cell? ⟨b4, 1, none⟩ = some v1
  h5 : W.cell? ⟨b5, 0, none⟩ = some (.int .i64 c)
  h6 : W.cell? ⟨b6, 0, none⟩ = some (.int .i64 f)
  h7 : W.cell? ⟨b7, 0, none⟩ = some (.int .i64 t)
  below : Below w0.heap.size w0 W
theorem ActF.mono {b4 b5 b6 b7 : Nat} {v0 v1 : Value} {c f t : Int} {w0 W W1 : World} (h : ActF b4 b5 b6 b7 v0 v1 c f t w0 W) (hb : Below W.heap.size W W1) : ActF b4 b5 b6 b7 v0 v1 c f t w0 W1 :=
  ⟨cell_mono hb h.h0, cell_mono hb h.h1, cell_mono hb h.h5, cell_mono hb h.h6, cell_mono hb h.h7, b_then h.below hb⟩
abbrev SrcC : Type := Src × Option Addr × Nat × Nat
def encSrc (p : SrcC) : Array Value := #[.agg #[.int .i64 (p.1).pt.x, .int .i64 (p.1).pt.y, .int .i64 (p.1).pow, .slice p.2.1 p.2.2.1 p.2.2.2, .int .i64 (p.1).per, .int .i64 (p.1).frm, .int .i64 (p.1).to]]
theorem active1 (n : Nat) (hn : 1 ≤ n) (b4 b5 b6 b7 : Nat) (v0 v1 : Value) (srcs : List Src) (c f t : Int) (w0 w1 : World) (hS : SlV 7 KSrc w0 v0 srcs) (hv : ∀ s, s ∈ srcs → srcB s = true) (hi : ivB f t = true)
    (hF : ActF b4 b5 b6 b7 v0 v1 c f t w0 w1) (Kp : World → World → Prop) (hK : ∀ A B, Kp A B → ActF b4 b5 b6 b7 v0 v1 c f t w0 A → ActF b4 b5 b6 b7 v0 v1 c f t w0 B) :
    SeqStopsK Fence.wide n Tryz.prog 91 #[.pointer (some ⟨b4, 0, none⟩), .pointer (some ⟨b5, 0, none⟩), .pointer (some ⟨b6, 0, none⟩), .pointer (some ⟨b7, 0, none⟩)] encSrc Kp
      (fun xs => xs.map Prod.fst = srcs.filter (actB c f t)) (fun _ => True) srcs.length w1 := by
  intro l J Jx W hW hJ hJx hY h0
  have hFW := hF.mono hW
  obtain ⟨A, c0, rfl, hc, hm, hr⟩ := hS
  unfold big at hm
  have hu := Tryz.underlying83
  have hu2 := Tryz.underlying30
  obtain ⟨f0, f1, f5, f6, f7, f8⟩ := id hFW
  refine callsIn_of_wp Tryz.func91 rfl trivial ?_ rfl
  simp only [Tryz.ntmps91, List.size_toArray, List.length_cons, List.length_nil, Nat.reduceAdd, Nat.reduceSub, Array.replicate_succ, Array.replicate_zero, List.push_toArray, List.append_toArray, List.nil_append, List.cons_append]
  gi_wp2
  gi_loopw [11] (fun i wr => ∃ (k : Nat) (pre : List SrcC), k ≤ srcs.length ∧ i = .int .i64 k ∧ pre.length ≤ k ∧ pre.map Prod.fst = (srcs.take k).filter (actB c f t) ∧ ActF b4 b5 b6 b7 (.slice A srcs.length c0) v1 c f t w0 wr ∧ J pre wr) (fun i _ => srcs.length - (intOf i).toNat)
  case atStart => exact ⟨0, [], Nat.zero_le _, rfl, Nat.le_refl _, rfl, hFW, h0⟩
  case round =>
    obtain ⟨k, pre, hk, rfl, hpl, hpre, hFw, hJw⟩ := hrel
    clear f0 f1 f5 f6 f7 f8
    obtain ⟨f0, f1, f5, f6, f7, f8⟩ := id hFw
    by_cases hlt : k < srcs.length
    · obtain ⟨s, hx⟩ : ∃ s, srcs[k]? = some s := ⟨_, List.getElem?_eq_getElem hlt⟩
      obtain ⟨b, off, u, rfl, hu, e0, e1, e2, e3, e4, e5, e6⟩ := hr.src f8 hx
      have hsv := hv s (List.mem_of_getElem? hx)
      have htk : (srcs.take (k + 1)).filter (actB c f t) = (srcs.take k).filter (actB c f t) ++ (if actB c f t s then [s] else []) := by
        rw [List.take_add_one, hx, List.filter_append]; simp only [Option.toList_some, List.filter_cons, List.filter_nil]
      have Htk := Lib.hid htk
      have Hpre := Lib.hid hpre
      clear hx htk hpre
      have hu0 := Lib.hid hu
      obtain ⟨A', c', rfl, hc', hm', hr'⟩ := hu
      have hbn : Below wr.heap.size wr (wr.alloc (.cells #[.int .i64 s.pt.x, .int .i64 s.pt.y, .int .i64 s.pow, .slice A' s.ch.length c', .int .i64 s.per, .int .i64 s.frm, .int .i64 s.to] 83)) := b_alloc (Below.refl _ _) _
      have hFn := hFw.mono hbn
      obtain ⟨g0, g1, g5, g6, g7, g8⟩ := id hFn
      gi_wp2_with fail
      refine ⟨trivial, ?_⟩
      refine (callsIn_wide.2 (xContains s.ch c _ _ (hu0.out.mono KI.st hbn))).mono ?_
      rintro e w2 ⟨rfl, rfl⟩
      rcases Bool.eq_false_or_eq_true (hasB s.ch c) with q | q
      · rw [q]
        have Hq := Lib.hid q
        clear q
        gi_wp2_with fail
        refine ⟨trivial, ?_⟩
        refine (callsIn_wide.2 (sOn0 s _ f t _ (hu0.out.mono KI.st hbn) hsv hi)).mono ?_
        rintro e w3 ⟨rfl, hb3⟩
        have hbz := b_then hbn hb3
        have hF3 := hFn.mono hb3
        have t0 := box_at hb3 rfl 0 rfl
        have t1 := box_at hb3 rfl 1 rfl
        have t2 := box_at hb3 rfl 2 rfl
        have t3 := box_at hb3 rfl 3 rfl
        have t4 := box_at hb3 rfl 4 rfl
        have t5 := box_at hb3 rfl 5 rfl
        have t6 := box_at hb3 rfl 6 rfl
        have hJ3 := hJ pre wr w3 none hJw (grown_below hbz none) (fun r e => by cases e)
        rcases Bool.eq_false_or_eq_true (onB s f t) with r | r
        · rw [r]
          have Hr := Lib.hid r
          clear r
          obtain ⟨fn, tmps, assign, body, hy, hR⟩ := hY pre (s, A', s.ch.length, c') w3 hJ3 (by omega)
          simp only [encSrc] at hy
          gi_wp2_with fail
          refine hR.mono ?_
          rintro e W4 (⟨rfl, hJ4, hk4⟩ | ⟨rfl, hJx4⟩)
          · have hF4 := hK _ _ hk4 hF3
            gi_wp2
            go_roundw
            case rel => exact ⟨k + 1, pre ++ [(s, A', s.ch.length, c')], by omega, by go_num, by simp; omega, by rw [Htk.out, List.map_append, Hpre.out]; simp [actB, Hq.out, Hr.out], hF4, hJ4⟩
            case measure => simp [intOf]; omega
          · gi_wp2
            refine bodyPost_ret (results_none rfl _ _ _) rfl ?_
            exact ⟨⟨_, rfl⟩, .inr ⟨_, trivial, hJx4⟩⟩
        · rw [r]
          gi_wp2_with fail
          refine ⟨fun _ h => (by cases h), ?_⟩
          gi_wp2
          go_roundw
          case rel => exact ⟨k + 1, pre, by omega, by go_num, by omega, by rw [Htk.out, Hpre.out]; simp [actB, r], hF3, hJ3⟩
          case measure => simp [intOf]; omega
      · rw [q]
        gi_wp2_with fail
        refine ⟨trivial, ?_⟩
        gi_wp2_with fail
        refine ⟨fun _ h => (by cases h), ?_⟩
        gi_wp2
        go_roundw
        case rel => exact ⟨k + 1, pre, by omega, by go_num, by omega, by rw [Htk.out, Hpre.out]; simp [actB, q], hFn, hJ pre wr _ none hJw (grown_below hbn none) (fun r e => by cases e)⟩
        case measure => simp [intOf]; omega
    · gi_wp2
      go_end0
      exact ⟨⟨_, rfl⟩, .inl ⟨pre, by rw [hpre, List.take_of_length_le (by omega)], hJw⟩⟩
end Go.Proofs.YtpbhoeaadnemhaaGreat
namespace Go.Proofs.YtpbhoeaadnemhaaGreat
open Go.RowKit Go.Shelf
attribute [local go_sem] Oper.semAt_some
set_option linter.unusedVariables false
set_option linter.unusedSimpArgs false
set_option maxHeartbeats 4000000
set_option maxRecDepth 100000
def clrB (srcs : List Src) (f t : Int) (c : Nat) : Bool := srcs.all fun s => !actB (c : Int) f t s
def clrTo (srcs : List Src) (f t : Int) (k : Nat) : List Int := ((List.range k).filter (clrB srcs f t)).map fun c : Nat => (c : Int)
theorem clr_snoc (srcs : List Src) (f t : Int) (k : Nat) : clrTo srcs f t (k + 1) = clrTo srcs f t k ++ (if clrB srcs f t k then [(k : Int)] else []) := by
  simp only [clrTo, List.range_succ, List.filter_append, List.map_append, List.filter_cons, List.filter_nil]
  split <;> rfl
theorem clr_len (srcs : List Src) (f t : Int) (k : Nat) : (clrTo srcs f t k).length ≤ k := by
  simp only [clrTo, List.length_map]
  exact Nat.le_trans (List.length_filter_le _ _) (by simp)
/-- The channels on which nothing is on in an interval. -/
def clearL (x : Spm) (f t : Int) : List Int := if spmB x && ivB f t then clrTo x.srcs f t 16 else []
theorem infoInt : (Tryz.prog.info? 3).map (fun i => (i.zero, i.size, i.bytes)) = some (some (.int .i64 0), 1, 8) := by kernel_rfl
theorem sActive (x0 x1 : Value) (c f t : Int) (w : World) (h0 : ∃ A n k, x0 = .slice A n k) (h1 : ∃ A n k, x1 = .slice A n k) :
    Calls Tryz.prog 70 #[.agg #[x0, x1], .int .i64 c, .int .i64 f, .int .i64 t] w fun e w' =>
      e = .returned (.func (.func 91) #[] #[.pointer (some ⟨w.heap.size, 0, none⟩), .pointer (some ⟨w.heap.size + 1, 0, none⟩), .pointer (some ⟨w.heap.size + 1 + 1, 0, none⟩), .pointer (some ⟨w.heap.size + 1 + 1 + 1, 0, none⟩)]) ∧
      (((w.alloc (.cells #[x0, x1] 30)).alloc (.cells #[.int .i64 c] 3)).alloc (.cells #[.int .i64 f] 3)).alloc (.cells #[.int .i64 t] 3) = w' := by
  have hu := Tryz.underlying30
  obtain ⟨A0, n0, k0, rfl⟩ := h0
  obtain ⟨A1, n1, k1, rfl⟩ := h1
  go_enter Tryz.func70, Tryz.ntmps70
  go_wp2
  go_ret
  exact ⟨rfl, rfl⟩
end Go.Proofs.YtpbhoeaadnemhaaGreat
namespace Go.Proofs.YtpbhoeaadnemhaaGreat
open Go.RowKit
set_option linter.unusedVariables false
set_option linter.unusedSimpArgs false
set_option maxHeartbeats 4000000
set_option maxRecDepth 100000
def inB (s : Site) (a : Int) : Bool := decide (0 ≤ a) && decide (a < s.nodes.length)
def nodesE (s : Site) (x : Spm) (a b : Int) : Int := if siteB s && spmB x then (if inB s a && inB s b then 0 else 7) else 1
theorem r06time (t : Int) (w : World) : Calls Tryz.prog 53 #[.int .i64 t] w fun e w' => e = .returned (.bool (tmB t)) ∧ w = w' := by
  go_enter Tryz.func53, Tryz.ntmps53
  go_wp2
  all_goals (go_ret; exact ⟨ret_bool (by rw [Bool.eq_iff_iff]; simp [tmB]; try omega), rfl⟩)
theorem r05Few (s : Site) (v : Value) (w : World) (hs : SiteV w v s) : Calls Tryz.prog 38 #[v] w fun e w' => e = .returned (.bool (decide (s.nodes.length ≤ 40) && decide (s.powers.length ≤ 40) && decide (s.walls.length ≤ 40))) ∧ Below w.heap.size w w' := by
  have hu := Tryz.underlying26
  obtain ⟨v0, v1, v2, rfl, h0, h1, h2⟩ := hs
  obtain ⟨A0, c0, rfl, hc0, hm0, _⟩ := h0
  obtain ⟨A1, c1, rfl, hc1, hm1, _⟩ := h1
  obtain ⟨A2, c2, rfl, hc2, hm2, _⟩ := h2
  unfold big at hm0 hm1 hm2
  go_enter Tryz.func38, Tryz.ntmps38
  go_wp2
  all_goals (go_ret; exact ⟨ret_bool (by rw [Bool.eq_iff_iff]; simp; try omega), by (repeat (first | exact Below.refl _ _ | assumption | apply b_alloc | apply b_drewN | apply b_drew))⟩)
theorem r06nodes (s : Site) (x : Spm) (v xv : Value) (a b : Int) (w : World) (hs : SiteV w v s) (hx : SpmV w xv x) : Calls Tryz.prog 49 #[v, xv, .int .i64 a, .int .i64 b] w fun e w' => e = .returned (.int .i64 (nodesE s x a b)) ∧ Below w.heap.size w w' := by
  have hu := Tryz.underlying26
  have hu2 := Tryz.underlying30
  have hs' := Lib.hid hs
  have hx' := Lib.hid hx
  obtain ⟨v0, v1, v2, rfl, h0, h1, h2⟩ := hs
  obtain ⟨A0, c0, rfl, hc0, hm0, _⟩ := h0
  obtain ⟨A1, c1, rfl, _⟩ := h1
  obtain ⟨A2, c2, rfl, _⟩ := h2
  obtain ⟨x0, x1, rfl, _⟩ := hx
  unfold big at hm0
  obtain ⟨R, hR⟩ : ∃ R, nodesE s x a b = R := ⟨_, rfl⟩
  rw [hR]
  have HR := Lib.hid hR
  clear hR
  obtain ⟨W1, hW1⟩ : ∃ W : World, W = ((w.alloc (.cells #[.slice A0 s.nodes.length c0, .slice A1 s.powers.length c1, .slice A2 s.walls.length c2, .int .i64 s.ex, .int .i64 s.noise, .int .i64 s.thr] 26)).alloc (.cells #[x0, x1] 30)) := ⟨_, rfl⟩; have hb1 : Below w.heap.size w W1 := (by rw [hW1]; (repeat (first | exact Below.refl _ _ | assumption | apply b_alloc | apply b_drewN | apply b_drew))); have q : ∀ wq : World, Below W1.heap.size W1 wq → wq.cell? ⟨w.heap.size, 0, none⟩ = some (.slice A0 s.nodes.length c0) ∧ wq.cell? ⟨w.heap.size, 1, none⟩ = some (.slice A1 s.powers.length c1) ∧ wq.cell? ⟨w.heap.size, 2, none⟩ = some (.slice A2 s.walls.length c2) ∧ wq.cell? ⟨w.heap.size, 3, none⟩ = some (.int .i64 s.ex) ∧ wq.cell? ⟨w.heap.size, 4, none⟩ = some (.int .i64 s.noise) ∧ wq.cell? ⟨w.heap.size, 5, none⟩ = some (.int .i64 s.thr) ∧ wq.cell? ⟨w.heap.size + 1, 0, none⟩ = some (x0) ∧ wq.cell? ⟨w.heap.size + 1, 1, none⟩ = some (x1) := (fun wq hwr => ⟨cell_mono hwr (by rw [hW1]; go_simp), cell_mono hwr (by rw [hW1]; go_simp), cell_mono hwr (by rw [hW1]; go_simp), cell_mono hwr (by rw [hW1]; go_simp), cell_mono hwr (by rw [hW1]; go_simp), cell_mono hwr (by rw [hW1]; go_simp), cell_mono hwr (by rw [hW1]; go_simp), cell_mono hwr (by rw [hW1]; go_simp)⟩); have HW := Lib.hid hW1; clear hW1
  go_enter Tryz.func49, Tryz.ntmps49
  go_wp2_with fail
  rw [← HW.out]
  refine (r05Check s _ _ (hs'.out.mono hb1)).mono ?_
  rintro e w2 ⟨rfl, hb2⟩
  obtain ⟨l0, l1, l2, l3, l4, l5, l6, l7⟩ := q _ hb2
  have hbz := b_then hb1 hb2
  rcases Bool.eq_false_or_eq_true (siteB s) with z | z
  · rw [z, okN_true]
    have Q := Lib.hid z
    clear z
    go_wp2_with fail
    refine (r06Check x _ _ (hx'.out.mono hbz)).mono ?_
    rintro e w3 ⟨rfl, hb3⟩
    have hb23 := b_then hb2 hb3
    obtain ⟨m0, m1, m2, m3, m4, m5, m6, m7⟩ := q _ hb23
    have hbz3 := b_then hb1 hb23
    rcases Bool.eq_false_or_eq_true (spmB x) with z1 | z1
    · rw [z1, okN_true]
      have Q1 := Lib.hid z1
      clear z1
      by_cases G : (0 ≤ a ∧ a < s.nodes.length) ∧ (0 ≤ b ∧ b < s.nodes.length)
      · have hfin : R = 0 := by rw [← HR.out]; simp [nodesE, inB, Q.out, Q1.out, G]
        subst hfin
        have HG := Lib.hid G
        clear G
        go_wp2_with fail
        all_goals first
          | (exfalso; have := HG.out; omega)
          | (go_ret; exact ⟨rfl, hbz3⟩)
      · have hfin : R = 7 := by
          rw [← HR.out]
          have : (inB s a && inB s b) = false := by rw [Bool.eq_false_iff]; intro h; apply G; simpa [inB] using h
          simp [nodesE, Q.out, Q1.out, this]
        subst hfin
        have HG := Lib.hid G
        clear G
        go_wp2_with fail
        all_goals first
          | (exfalso; have := HG.out; omega)
          | (go_ret; exact ⟨rfl, hbz3⟩)
    · rw [z1, okN_false]
      have hfin : R = 1 := by rw [← HR.out]; simp [nodesE, Q.out, z1]
      subst hfin
      go_wp2
      go_ret
      exact ⟨rfl, hbz3⟩
  · rw [z, okN_false]
    have hfin : R = 1 := by rw [← HR.out]; simp [nodesE, z]
    subst hfin
    go_wp2
    go_ret
    exact ⟨rfl, hbz⟩
end Go.Proofs.YtpbhoeaadnemhaaGreat
namespace Go.Proofs.YtpbhoeaadnemhaaGreat
open Go.RowKit
set_option linter.unusedVariables false
set_option linter.unusedSimpArgs false
set_option maxHeartbeats 4000000
set_option maxRecDepth 100000
def extSum (s : Site) (b : Pt) (srcs : List Src) (c f t : Int) : Int := (srcs.filter (actB c f t)).foldl (fun n q => wrap64 (n + atN s q.pt q.pow b)) 0
def nodeI (s : Site) (a : Int) : Pt := s.nodes[a.toNat]?.getD ⟨0, 0⟩
def extE (s : Site) (x : Spm) (a c f t : Int) : Int := if siteB s && spmB x then (if inB s a then (if chB c && ivB f t then 0 else 2) else 7) else 1
def extN (s : Site) (x : Spm) (a c f t : Int) : Int := if extE s x a c f t = 0 then extSum s (nodeI s a) x.srcs c f t else 0
theorem ext_snoc (s : Site) (b : Pt) (c f t : Int) {srcs : List Src} {k : Nat} {q : Src} (hx : srcs[k]? = some q) :
    extSum s b (srcs.take (k + 1)) c f t = if actB c f t q then wrap64 (extSum s b (srcs.take k) c f t + atN s q.pt q.pow b) else extSum s b (srcs.take k) c f t := by
  unfold extSum
  rw [List.take_add_one, hx, List.filter_append, List.foldl_append]
  simp only [Option.toList_some, List.filter_cons, List.filter_nil]
  split <;> rfl
theorem r06External (s : Site) (x : Spm) (v xv : Value) (a c f t : Int) (w : World) (hs : SiteV w v s) (hx : SpmV w xv x) :
    Calls Tryz.prog 32 #[v, xv, .int .i64 a, .int .i64 c, .int .i64 f, .int .i64 t] w fun e w' => e = .returned (.tuple #[.int .i64 (extN s x a c f t), .int .i64 (extE s x a c f t)]) ∧ Below w.heap.size w w' := by
  have hu := Tryz.underlying26
  have hu2 := Tryz.underlying30
  have hu3 := Tryz.underlying83
  have hu4 := Tryz.underlying54
  have hs' := Lib.hid hs
  have hx' := Lib.hid hx
  obtain ⟨v0, v1, v2, rfl, h0, h1, h2⟩ := hs
  obtain ⟨A0, c0, rfl, hc0, hm0, hr0⟩ := h0
  obtain ⟨A1, c1, rfl, _⟩ := h1
  obtain ⟨A2, c2, rfl, _⟩ := h2
  obtain ⟨x0, x1, rfl, h3, h4⟩ := hx
  obtain ⟨A3, c3, rfl, hc3, hm3, hr3⟩ := h3
  obtain ⟨A4, c4, rfl, _⟩ := h4
  unfold big at hm0 hm3
  obtain ⟨R, hR⟩ : ∃ R, extE s x a c f t = R := ⟨_, rfl⟩
  obtain ⟨N, hN⟩ : ∃ N, extN s x a c f t = N := ⟨_, rfl⟩
  rw [hR, hN]
  have HR := Lib.hid hR
  have HN := Lib.hid hN
  clear hR hN
  obtain ⟨W1, hW1⟩ : ∃ W : World, W = ((w.alloc (.cells #[.slice A0 s.nodes.length c0, .slice A1 s.powers.length c1, .slice A2 s.walls.length c2, .int .i64 s.ex, .int .i64 s.noise, .int .i64 s.thr] 26)).alloc (.cells #[.slice A3 x.srcs.length c3, .slice A4 x.fds.length c4] 30)) := ⟨_, rfl⟩; have hb1 : Below w.heap.size w W1 := (by rw [hW1]; (repeat (first | exact Below.refl _ _ | assumption | apply b_alloc | apply b_drewN | apply b_drew))); have q : ∀ wq : World, Below W1.heap.size W1 wq → wq.cell? ⟨w.heap.size, 0, none⟩ = some (.slice A0 s.nodes.length c0) ∧ wq.cell? ⟨w.heap.size, 1, none⟩ = some (.slice A1 s.powers.length c1) ∧ wq.cell? ⟨w.heap.size, 2, none⟩ = some (.slice A2 s.walls.length c2) ∧ wq.cell? ⟨w.heap.size, 3, none⟩ = some (.int .i64 s.ex) ∧ wq.cell? ⟨w.heap.size, 4, none⟩ = some (.int .i64 s.noise) ∧ wq.cell? ⟨w.heap.size, 5, none⟩ = some (.int .i64 s.thr) ∧ wq.cell? ⟨w.heap.size + 1, 0, none⟩ = some (.slice A3 x.srcs.length c3) ∧ wq.cell? ⟨w.heap.size + 1, 1, none⟩ = some (.slice A4 x.fds.length c4) := (fun wq hwr => ⟨cell_mono hwr (by rw [hW1]; go_simp), cell_mono hwr (by rw [hW1]; go_simp), cell_mono hwr (by rw [hW1]; go_simp), cell_mono hwr (by rw [hW1]; go_simp), cell_mono hwr (by rw [hW1]; go_simp), cell_mono hwr (by rw [hW1]; go_simp), cell_mono hwr (by rw [hW1]; go_simp), cell_mono hwr (by rw [hW1]; go_simp)⟩); have HW := Lib.hid hW1; clear hW1
  go_enter Tryz.func32, Tryz.ntmps32
  go_wp2_with fail
  rw [← HW.out]
  refine (r06nodes s x _ _ a a _ (hs'.out.mono hb1) (hx'.out.mono hb1)).mono ?_
  rintro e w2 ⟨rfl, hb2⟩
  have hbz := b_then hb1 hb2
  rcases Bool.eq_false_or_eq_true (siteB s && spmB x) with z | z
  · rcases Bool.eq_false_or_eq_true (inB s a) with z1 | z1
    · have hnE : nodesE s x a a = 0 := by simp only [nodesE, z, z1]; rfl
      rw [hnE]
      have Q := Lib.hid z
      have Q1 := Lib.hid z1
      clear z z1 hnE
      go_wp2_with fail
      refine (r06Channel c _).mono ?_
      rintro e w3 ⟨rfl, rfl⟩
      rcases Bool.eq_false_or_eq_true (chB c) with z2 | z2
      · rw [z2]
        have Q2 := Lib.hid z2
        clear z2
        go_wp2_with fail
        refine (r06Interval f t _).mono ?_
        rintro e w3 ⟨rfl, rfl⟩
        rcases Bool.eq_false_or_eq_true (ivB f t) with z3 | z3
        · rw [z3]
          have Q3 := Lib.hid z3
          clear z3
          have hRe : R = 0 := by rw [← HR.out]; simp only [extE, Q.out, Q1.out, Q2.out, Q3.out]; rfl
          subst hRe
          have hNe : N = extSum s (nodeI s a) x.srcs c f t := by rw [← HN.out, extN, HR.out]; rfl
          have HNe := Lib.hid hNe
          clear hNe
          go_wp2_with fail
          have hin := Q1.out
          simp only [inB, Bool.and_eq_true, decide_eq_true_eq] at hin
          obtain ⟨in0, in1⟩ := hin
          have hsp := Q.out
          simp only [Bool.and_eq_true] at hsp
          obtain ⟨hsv, hxv⟩ := hsp
          obtain ⟨nd, hnd⟩ : ∃ nd, s.nodes[a.toNat]? = some nd := ⟨_, List.getElem?_eq_getElem (by omega)⟩
          have hni : nodeI s a = nd := by simp [nodeI, hnd]
          rw [hni] at HNe
          obtain ⟨Bn, on, rfl, _, _⟩ := hr0.pt (b_then hb1 hb2) hnd
          have HSV := Lib.hid hsv
          have HXV := Lib.hid hxv
          have HND := Lib.hid hnd
          clear hni hnd hsv hxv
          go_loopw [15, 16] (fun n i wr => ∃ k : Nat, k ≤ x.srcs.length ∧ i = .int .i64 k ∧ n = .int .i64 (extSum s nd (x.srcs.take k) c f t) ∧ Below W1.heap.size W1 wr) (fun _ i _ => x.srcs.length - (intOf i).toNat)
          case atStart => exact ⟨0, Nat.zero_le _, rfl, rfl, hb2⟩
          case round =>
            obtain ⟨k, hk, rfl, rfl, hbw⟩ := hrel
            obtain ⟨l0, l1, l2, l3, l4, l5, l6, l7⟩ := q _ hbw
            by_cases hlt : k < x.srcs.length
            · obtain ⟨y, hy⟩ : ∃ y, x.srcs[k]? = some y := ⟨_, List.getElem?_eq_getElem hlt⟩
              have hyv := spm_srcs HXV.out (List.mem_of_getElem? hy)
              obtain ⟨B, off, u, rfl, hu', e0, e1, e2, e3, e4, e5, e6⟩ := hr3.src (b_then hb1 hbw) hy
              have hu0 := Lib.hid hu'
              obtain ⟨A', c', rfl, _⟩ := hu'
              have hsn := ext_snoc s nd c f t hy
              have Hsn := Lib.hid hsn
              have Hyv := Lib.hid hyv
              have Hy := Lib.hid hy
              clear hsn hyv hy
              generalize hpg : extSum s nd (x.srcs.take k) c f t = pk at Hsn ⊢
              clear hpg
              have hbn : Below wr.heap.size wr (wr.alloc (.cells #[.int .i64 y.pt.x, .int .i64 y.pt.y, .int .i64 y.pow, .slice A' y.ch.length c', .int .i64 y.per, .int .i64 y.frm, .int .i64 y.to] 83)) := b_alloc (Below.refl _ _) _
              obtain ⟨m0, m1, m2, m3, m4, m5, m6, m7⟩ := q _ (b_then hbw hbn)
              go_wp2_with fail
              refine (r06has y.ch c _ _ (hu0.out.mono KI.st hbn)).mono ?_
              rintro e w3 ⟨rfl, rfl⟩
              rcases Bool.eq_false_or_eq_true (hasB y.ch c) with r | r
              · rw [r]
                have Hr := Lib.hid r
                clear r
                go_wp2_with fail
                refine (r06On y _ f t _ (hu0.out.mono KI.st hbn)).mono ?_
                rintro e w4 ⟨rfl, hb4⟩
                have hion : isOn y f t = onB y f t := by simp [isOn, Hyv.out, Q3.out]
                rw [hion]
                have hbw4 := b_then hbw (b_then hbn hb4)
                rcases Bool.eq_false_or_eq_true (onB y f t) with r2 | r2
                · rw [r2]
                  have Hr2 := Lib.hid r2
                  clear r2
                  obtain ⟨n0, n1, n2, n3, n4, n5, n6, n7⟩ := q _ hbw4; have Ln0 := Later.cell n0; have Ln1 := Later.cell n1; have Ln2 := Later.cell n2; have Ln3 := Later.cell n3; have Ln4 := Later.cell n4; have Ln5 := Later.cell n5; have Ln6 := Later.cell n6; have Ln7 := Later.cell n7
                  have L0 := Later.cell (box_at hb4 rfl 0 rfl)
                  have L1 := Later.cell (box_at hb4 rfl 1 rfl)
                  have L2 := Later.cell (box_at hb4 rfl 2 rfl)
                  obtain ⟨_, _, hAe, d0, d1⟩ := hr0.pt (b_then hb1 hbw4) HND.out
                  cases hAe
                  have D0 := Later.cell d0
                  have D1 := Later.cell d1
                  go_wp2_with fail
                  have hsL : ∀ z : Later w4, SiteV z.W _ s := fun z => hs'.out.mono (b_then (b_then hb1 hbw4) z.below)
                  refine wp_region_later (by kernel_rfl) (by kernel_rfl) ?_
                  repeat (go_big_quiet_step ((go_at_call 52; exact later_of (r05At s _ y.pt y.pow nd _ (hsL _)))))
                  refine wpQuiet_nil ?_
                  rintro _ ⟨z, rfl⟩
                  have hbz2 := b_then hbw4 z.below
                  go_wp2
                  go_roundw
                  case rel => exact ⟨k + 1, by omega, by go_num, by rw [Hsn.out]; simp [actB, Hr.out, Hr2.out], hbz2⟩
                  case measure => simp [intOf]; omega
                · rw [r2]
                  go_wp2
                  go_roundw
                  case rel => exact ⟨k + 1, by omega, by go_num, by rw [Hsn.out]; simp [actB, r2], hbw4⟩
                  case measure => simp [intOf]; omega
              · rw [r]
                go_wp2
                go_roundw
                case rel => exact ⟨k + 1, by omega, by go_num, by rw [Hsn.out]; simp [actB, r], b_then hbw hbn⟩
                case measure => simp [intOf]; omega
            · obtain rfl : k = x.srcs.length := by omega
              go_wp2
              go_ret2
              exact ⟨ret_two (by rw [HNe.out, List.take_length]; rfl) rfl, b_then hb1 hbw⟩
        · rw [z3]
          have hRe : R = 2 := by rw [← HR.out]; simp only [extE, Q.out, Q1.out, Q2.out, z3]; rfl
          subst hRe
          have hNe : N = 0 := by rw [← HN.out, extN, HR.out]; rfl
          subst hNe
          go_wp2
          go_ret2
          exact ⟨rfl, hbz⟩
      · rw [z2]
        have hRe : R = 2 := by rw [← HR.out]; simp only [extE, Q.out, Q1.out, z2]; rfl
        subst hRe
        have hNe : N = 0 := by rw [← HN.out, extN, HR.out]; rfl
        subst hNe
        go_wp2
        go_ret2
        exact ⟨rfl, hbz⟩
    · have hnE : nodesE s x a a = 7 := by simp only [nodesE, z, z1]; rfl
      have hRe : R = 7 := by rw [← HR.out]; simp only [extE, z, z1]; rfl
      subst hRe
      have hNe : N = 0 := by rw [← HN.out, extN, HR.out]; rfl
      subst hNe
      rw [hnE]
      go_wp2
      go_ret2
      exact ⟨rfl, hbz⟩
  · have hnE : nodesE s x a a = 1 := by simp only [nodesE, z]; rfl
    have hRe : R = 1 := by rw [← HR.out]; simp only [extE, z]; rfl
    subst hRe
    have hNe : N = 0 := by rw [← HN.out, extN, HR.out]; rfl
    subst hNe
    rw [hnE]
    go_wp2
    go_ret2
    exact ⟨rfl, hbz⟩
end Go.Proofs.YtpbhoeaadnemhaaGreat
namespace Go.Proofs.YtpbhoeaadnemhaaGreat
open Go.RowKit
def powI (s : Site) (a : Int) : Int := s.powers[a.toNat]?.getD 0
def betweenI (s : Site) (a b : Int) : Int := if a = b then 0 else atI s (nodeI s a) (powI s a) (nodeI s b)
def btwE (s : Site) (a b : Int) : Int := if siteB s then (if inB s a && inB s b then 0 else 7) else 1
def btwN (s : Site) (a b : Int) : Int := if siteB s && (inB s a && inB s b) then betweenI s a b else 0
def everB (f : Fd) (a b : Int) : Bool := betB f a b && decide (f.first < f.til)
def worstI (x : Spm) (a b : Int) : Int := leastI (fun f => everB f a b) x.fds
def pairN (s : Site) (x : Spm) (a b : Int) : Int := if nodesE s x a b = 0 then betweenI s a b else 0
def sigE (s : Site) (x : Spm) (a b c t : Int) : Int := if nodesE s x a b = 0 then (if chB c && tmB t then 0 else 2) else nodesE s x a b
def sigN (s : Site) (x : Spm) (a b c t : Int) : Int := if sigE s x a b c t = 0 then betweenI s a b * factorI x a b c t / 1000 else 0
def wstN (s : Site) (x : Spm) (a b : Int) : Int := if nodesE s x a b = 0 then betweenI s a b * worstI x a b / 1000 else 0
theorem inB_is {s : Site} {a : Int} (h : inB s a = true) : 0 ≤ a ∧ a < s.nodes.length := by simpa [inB] using h
theorem site_len {s : Site} (h : siteB s = true) : 2 ≤ s.nodes.length ∧ s.nodes.length ≤ 32 ∧ s.powers.length = s.nodes.length ∧ s.walls.length ≤ 32 := by
  simp only [siteB, headB, Bool.and_eq_true, decide_eq_true_eq] at h
  omega
theorem node_at {s : Site} {a : Int} (h : inB s a = true) : s.nodes[a.toNat]? = some (nodeI s a) := by
  obtain ⟨h0, h1⟩ := inB_is h
  have : a.toNat < s.nodes.length := by omega
  simp [nodeI, List.getElem?_eq_getElem this]
theorem pow_at {s : Site} {a : Int} (hs : siteB s = true) (h : inB s a = true) : s.powers[a.toNat]? = some (powI s a) := by
  obtain ⟨h0, h1⟩ := inB_is h
  have h2 := site_len hs
  have : a.toNat < s.powers.length := by omega
  simp [powI, List.getElem?_eq_getElem this]
theorem node_pt {s : Site} {a : Int} (hs : siteB s = true) (h : inB s a = true) : ptB (nodeI s a) = true := by
  simp only [siteB, Bool.and_eq_true, List.all_eq_true] at hs
  exact hs.1.1.2 _ (List.mem_of_getElem? (node_at h))
theorem pow_pow {s : Site} {a : Int} (hs : siteB s = true) (h : inB s a = true) : powB (powI s a) = true := by
  have hp := pow_at hs h
  simp only [siteB, Bool.and_eq_true, List.all_eq_true] at hs
  exact hs.1.2 _ (List.mem_of_getElem? hp)
theorem site_walls {s : Site} (hs : siteB s = true) : ∀ q, q ∈ s.walls → wlB q = true := by
  simp only [siteB, Bool.and_eq_true, List.all_eq_true] at hs
  exact hs.2
theorem at_pow {s : Site} (hs : siteB s = true) (a b : Pt) {p : Int} (hp : powB p = true) : powB (atI s a p b) = true :=
  walls_pow _ (base_pow _ a b hp) (site_walls hs)
theorem between_pow {s : Site} {a b : Int} (hs : siteB s = true) (ha : inB s a = true) : powB (betweenI s a b) = true := by
  unfold betweenI
  split
  · rfl
  · exact at_pow hs _ _ (pow_pow hs ha)
theorem worst_bd {x : Spm} (h : spmB x = true) (a b : Int) : 0 ≤ worstI x a b ∧ worstI x a b ≤ 1000 :=
  least_bd _ _ fun _ hf => (fd_fac (spm_fds h hf)).1
theorem nodes_zero {s : Site} {x : Spm} {a b : Int} (h : nodesE s x a b = 0) : siteB s = true ∧ spmB x = true ∧ inB s a = true ∧ inB s b = true := by
  unfold nodesE at h
  split at h
  · rename_i h1
    split at h
    · rename_i h2
      simp only [Bool.and_eq_true] at h1 h2
      exact ⟨h1.1, h1.2, h2.1, h2.2⟩
    · cases h
  · cases h
end Go.Proofs.YtpbhoeaadnemhaaGreat
namespace Go.Proofs.YtpbhoeaadnemhaaGreat
open Go.RowKit
theorem fold_min (p : Fd → Bool) : ∀ (fs : List Fd) (m : Int), fs.foldl (fun m f => if p f then min m f.fac else m) m ≤ m ∧ (∀ f, f ∈ fs → p f = true → fs.foldl (fun m f => if p f then min m f.fac else m) m ≤ f.fac) ∧
    (fs.foldl (fun m f => if p f then min m f.fac else m) m = m ∨ ∃ f, f ∈ fs ∧ p f = true ∧ fs.foldl (fun m f => if p f then min m f.fac else m) m = f.fac)
  | [], m => ⟨Int.le_refl _, fun f h => (by cases h), .inl rfl⟩
  | x :: fs, m => by
    rw [List.foldl_cons]
    by_cases hp : p x = true
    · rw [if_pos hp]
      obtain ⟨h1, h2, h3⟩ := fold_min p fs (min m x.fac)
      refine ⟨by omega, fun f hf hpf => ?_, ?_⟩
      · rcases List.mem_cons.1 hf with rfl | hf
        · omega
        · exact h2 f hf hpf
      · rcases h3 with h3 | ⟨f, hf, hpf, h3⟩
        · rcases Int.le_total m x.fac with h | h
          · left; rw [h3]; omega
          · right; exact ⟨x, List.mem_cons_self .., hp, by rw [h3]; omega⟩
        · right; exact ⟨f, List.mem_cons_of_mem _ hf, hpf, h3⟩
    · rw [if_neg hp]
      obtain ⟨h1, h2, h3⟩ := fold_min p fs m
      refine ⟨h1, fun f hf hpf => ?_, ?_⟩
      · rcases List.mem_cons.1 hf with rfl | hf
        · exact absurd hpf hp
        · exact h2 f hf hpf
      · rcases h3 with h3 | ⟨f, hf, hpf, h3⟩
        · exact .inl h3
        · right; exact ⟨f, List.mem_cons_of_mem _ hf, hpf, h3⟩
theorem least_le1000 (p : Fd → Bool) (fs : List Fd) : leastI p fs ≤ 1000 := (fold_min p fs 1000).1
theorem least_le {p : Fd → Bool} {fs : List Fd} {f : Fd} (hf : f ∈ fs) (hp : p f = true) : leastI p fs ≤ f.fac := (fold_min p fs 1000).2.1 f hf hp
theorem least_is (p : Fd → Bool) (fs : List Fd) : leastI p fs = 1000 ∨ ∃ f, f ∈ fs ∧ p f = true ∧ leastI p fs = f.fac := (fold_min p fs 1000).2.2
theorem least_mono {p q : Fd → Bool} {fs : List Fd} (h : ∀ f, f ∈ fs → p f = true → q f = true) : leastI q fs ≤ leastI p fs := by
  rcases least_is p fs with e | ⟨f, hf, hp, e⟩
  · rw [e]; exact least_le1000 _ _
  · rw [e]; exact least_le hf (h f hf hp)
theorem worst_le (x : Spm) (a b c t : Int) : worstI x a b ≤ factorI x a b c t := by
  refine least_mono fun f _ h => ?_
  simp only [appB, Bool.and_eq_true, decide_eq_true_eq] at h
  simp only [everB, Bool.and_eq_true, decide_eq_true_eq]
  exact ⟨h.1.1.1, by omega⟩
def timesL (x : Spm) : List Int := [0, 1099511627776] ++ x.fds.map (·.first)
theorem times_ok {x : Spm} (h : spmB x = true) {t : Int} (ht : t ∈ timesL x) : tmB t = true := by
  simp only [timesL, List.cons_append, List.nil_append, List.mem_cons, List.mem_map] at ht
  rcases ht with rfl | rfl | ⟨f, hf, rfl⟩
  · rfl
  · rfl
  · have := spm_fds h hf
    simp only [fdB, ivB, Bool.and_eq_true, decide_eq_true_eq] at this
    simp only [tmB, Bool.and_eq_true, decide_eq_true_eq]
    omega
theorem worst_at {x : Spm} (h : spmB x = true) (a b : Int) : ∃ t c, t ∈ timesL x ∧ c < 16 ∧ factorI x a b ((c : Nat) : Int) t = worstI x a b := by
  rcases least_is (fun f => everB f a b) x.fds with e | ⟨f, hf, hp, e⟩
  · refine ⟨0, 0, by simp [timesL], by omega, ?_⟩
    have h1 := worst_le x a b ((0 : Nat) : Int) 0
    have h2 : factorI x a b ((0 : Nat) : Int) 0 ≤ 1000 := least_le1000 _ _
    have h3 : worstI x a b = 1000 := e
    omega
  · have hv := spm_fds h hf
    simp only [everB, Bool.and_eq_true, decide_eq_true_eq] at hp
    obtain ⟨hb, hft⟩ := hp
    have hch : f.ch = -1 ∨ (0 ≤ f.ch ∧ f.ch < 16) := by
      simp only [fdB, chB, Bool.and_eq_true, Bool.or_eq_true, decide_eq_true_eq] at hv
      omega
    refine ⟨f.first, if f.ch = -1 then 0 else f.ch.toNat, ?_, ?_, ?_⟩
    · simp only [timesL, List.cons_append, List.nil_append, List.mem_cons, List.mem_map]
      exact .inr (.inr ⟨f, hf, rfl⟩)
    · split <;> omega
    · have h1 := worst_le x a b (((if f.ch = -1 then 0 else f.ch.toNat : Nat) : Nat) : Int) f.first
      have h2 : factorI x a b (((if f.ch = -1 then 0 else f.ch.toNat : Nat) : Nat) : Int) f.first ≤ f.fac := by
        refine least_le hf ?_
        simp only [appB, Bool.and_eq_true, Bool.or_eq_true, decide_eq_true_eq]
        refine ⟨⟨⟨hb, ?_⟩, by omega⟩, hft⟩
        rcases hch with hc | hc
        · exact .inl hc
        · right; rw [if_neg (by omega)]; omega
      have h3 : worstI x a b = f.fac := e
      omega
theorem mono_scale {p m n : Int} (h0 : 0 ≤ p) (h : m ≤ n) : p * m / 1000 ≤ p * n / 1000 := Int.ediv_le_ediv (by omega) (Int.mul_le_mul_of_nonneg_left h h0)
/-- The numbers of the statement's two loops. -/
theorem sig_ok {s : Site} {x : Spm} {a b c t : Int} (hn : nodesE s x a b = 0) (hc : chB c = true) (ht : tmB t = true) : sigE s x a b c t = 0 ∧ sigN s x a b c t = betweenI s a b * factorI x a b c t / 1000 ∧ wstN s x a b ≤ sigN s x a b c t ∧ 0 ≤ wstN s x a b := by
  have hE : sigE s x a b c t = 0 := by simp [sigE, hn, hc, ht]
  obtain ⟨hv, hxv, ha, hb⟩ := nodes_zero hn
  obtain ⟨p0, p1⟩ := pow_is (between_pow (b := b) hv ha)
  obtain ⟨f0, f1⟩ := worst_bd hxv a b
  have hN : sigN s x a b c t = betweenI s a b * factorI x a b c t / 1000 := by simp [sigN, hE]
  have hW : wstN s x a b = betweenI s a b * worstI x a b / 1000 := by simp [wstN, hn]
  refine ⟨hE, hN, ?_, ?_⟩
  · rw [hN, hW]; exact mono_scale p0 (worst_le x a b c t)
  · rw [hW]; exact (scale_bd p0 f0 f1).1
theorem sig_at {s : Site} {x : Spm} {a b : Int} (hn : nodesE s x a b = 0) : ∃ t c, t ∈ timesL x ∧ c < 16 ∧ sigN s x a b ((c : Nat) : Int) t = wstN s x a b := by
  obtain ⟨hv, hxv, ha, hb⟩ := nodes_zero hn
  obtain ⟨t, c, h1, h2, h3⟩ := worst_at hxv a b
  refine ⟨t, c, h1, h2, ?_⟩
  rw [(sig_ok hn (by simp [chB]; omega) (times_ok hxv h1)).2.1, h3]
  simp [wstN, hn]
/-- L is the least so far of the numbers P t c, of the first n times whole and of c channels of the next one; -1: none yet. -/
structure LInv (P : Int → Nat → Int) (ts : List Int) (n c : Nat) (L : Int) : Prop where
  low : (L = -1 ∧ n = 0 ∧ c = 0) ∨ (0 ≤ L ∧ ∃ t c', t ∈ ts ∧ c' < 16 ∧ L = P t c')
  all : ∀ i t c', ts[i]? = some t → c' < 16 → (i < n ∨ i = n ∧ c' < c) → 0 ≤ L ∧ L ≤ P t c'
theorem LInv.zero (P : Int → Nat → Int) (ts : List Int) : LInv P ts 0 0 (-1) := ⟨.inl ⟨rfl, rfl, rfl⟩, fun i t c' _ _ h => by omega⟩
theorem LInv.next {P : Int → Nat → Int} {ts : List Int} {n c : Nat} {L L' : Int} {t : Int} (h : LInv P ts n c L) (ht : ts[n]? = some t) (hc : c < 16) (h0 : 0 ≤ P t c) (hL : L' = if L < 0 ∨ P t c < L then P t c else L) : LInv P ts n (c + 1) L' := by
  subst hL
  have hm := List.mem_of_getElem? ht
  by_cases q : L < 0 ∨ P t c < L
  · rw [if_pos q]
    refine ⟨.inr ⟨h0, t, c, hm, hc, rfl⟩, fun i u c' hu hc' hi => ⟨h0, ?_⟩⟩
    by_cases e : i = n ∧ c' = c
    · obtain ⟨rfl, rfl⟩ := e
      rw [ht] at hu
      cases hu
      exact Int.le_refl _
    · have := h.all i u c' hu hc' (by omega)
      omega
  · rw [if_neg q]
    refine ⟨?_, fun i u c' hu hc' hi => ?_⟩
    · rcases h.low with ⟨h1, _⟩ | h1
      · omega
      · exact .inr h1
    · by_cases e : i = n ∧ c' = c
      · obtain ⟨rfl, rfl⟩ := e
        rw [ht] at hu
        cases hu
        omega
      · exact h.all i u c' hu hc' (by omega)
theorem LInv.row {P : Int → Nat → Int} {ts : List Int} {n : Nat} {L : Int} (h : LInv P ts n 16 L) : LInv P ts (n + 1) 0 L := by
  refine ⟨?_, fun i t c' ht hc' hi => h.all i t c' ht hc' (by omega)⟩
  rcases h.low with ⟨_, _, h1⟩ | h1
  · omega
  · exact .inr h1
theorem LInv.fin {P : Int → Nat → Int} {ts : List Int} {L W : Int} (h : LInv P ts ts.length 0 L) (hW : ∀ t c, t ∈ ts → c < 16 → W ≤ P t c) (ha : ∃ t c, t ∈ ts ∧ c < 16 ∧ P t c = W) : L = W := by
  obtain ⟨t, c, ht, hc, e⟩ := ha
  obtain ⟨i, hi, rfl⟩ := List.mem_iff_getElem.1 ht
  have h1 := h.all i _ c (List.getElem?_eq_getElem hi) hc (.inl hi)
  rcases h.low with ⟨h2, _⟩ | ⟨_, u, c', hu, hc', rfl⟩
  · omega
  · have := hW u c' hu hc'
    omega
end Go.Proofs.YtpbhoeaadnemhaaGreat
namespace Go.Proofs.YtpbhoeaadnemhaaGreat
open Go.RowKit
set_option linter.unusedVariables false
/-! ### Fadings -/
def moreF (x : Spm) (f : Fd) : Spm := ⟨x.srcs, x.fds ++ [f]⟩
theorem factor_more (x : Spm) (f : Fd) (a b c t : Int) : factorI (moreF x f) a b c t = if appB f a b c t then min (factorI x a b c t) f.fac else factorI x a b c t := by
  simp only [factorI, moreF, leastI, List.foldl_append, List.foldl_cons, List.foldl_nil]
theorem more_fd {x : Spm} {f : Fd} (h : spmB (moreF x f) = true) : fdB f = true := spm_fds h (by simp [moreF])
def noneS : Spm := ⟨[], []⟩
theorem sig_full {s : Site} {x : Spm} {a b c t : Int} (h : sigE s x a b c t = 0) : sigE s noneS a b c t = 0 ∧ sigN s noneS a b c t = betweenI s a b ∧ nodesE s x a b = 0 ∧ chB c = true ∧ tmB t = true := by
  by_cases z : nodesE s x a b = 0
  · simp only [sigE, z, if_true] at h
    obtain ⟨hv, hxv, ha, hb⟩ := nodes_zero z
    have hct : (chB c && tmB t) = true := by
      rcases Bool.eq_false_or_eq_true (chB c && tmB t) with q | q
      · exact q
      · rw [q] at h; cases h
    simp only [Bool.and_eq_true] at hct
    have hn : nodesE s noneS a b = 0 := by simp [nodesE, hv, ha, hb, noneS, spmB]
    have he : sigE s noneS a b c t = 0 := by simp [sigE, hn, hct.1, hct.2]
    refine ⟨he, ?_, z, hct.1, hct.2⟩
    have : factorI noneS a b c t = 1000 := rfl
    simp only [sigN, he, if_true, this]
    exact Int.mul_ediv_cancel _ (by omega)
  · rw [sigE, if_neg z] at h
    exact absurd h z
/-- The signal with a further fading: an error only if the spectrum is none. -/
theorem sig_more {s : Site} {x : Spm} {f : Fd} {a b c t : Int} (h : sigE s x a b c t = 0) :
    (sigE s (moreF x f) a b c t = 0 ∧ spmB (moreF x f) = true) ∨ (sigE s (moreF x f) a b c t = 1 ∧ spmB (moreF x f) = false) := by
  obtain ⟨_, _, hn, hc, ht⟩ := sig_full h
  obtain ⟨hv, hxv, ha, hb⟩ := nodes_zero hn
  rcases Bool.eq_false_or_eq_true (spmB (moreF x f)) with q | q
  · left
    have : nodesE s (moreF x f) a b = 0 := by simp [nodesE, hv, ha, hb, q]
    exact ⟨by simp [sigE, this, hc, ht], q⟩
  · right
    have : nodesE s (moreF x f) a b = 1 := by simp [nodesE, q]
    exact ⟨by simp [sigE, this], q⟩
theorem sig_after {s : Site} {x : Spm} {f : Fd} {a b c t : Int} (h : sigE s x a b c t = 0) (h2 : sigE s (moreF x f) a b c t = 0) (hm : spmB (moreF x f) = true) :
    (appB f a b c t = false → sigN s (moreF x f) a b c t = sigN s x a b c t) ∧ (appB f a b c t = true → sigN s (moreF x f) a b c t ≤ sigN s x a b c t ∧ sigN s (moreF x f) a b c t ≤ betweenI s a b * f.fac / 1000) := by
  obtain ⟨_, _, hn, hc, ht⟩ := sig_full h
  obtain ⟨hv, hxv, ha, hb⟩ := nodes_zero hn
  obtain ⟨p0, p1⟩ := pow_is (between_pow (b := b) hv ha)
  have e1 : sigN s x a b c t = betweenI s a b * factorI x a b c t / 1000 := by simp [sigN, h]
  have e2 : sigN s (moreF x f) a b c t = betweenI s a b * factorI (moreF x f) a b c t / 1000 := by simp [sigN, h2]
  constructor
  · intro q
    rw [e1, e2, factor_more, q]
    rfl
  · intro q
    rw [e1, e2, factor_more, q, if_pos rfl]
    exact ⟨mono_scale p0 (Int.min_le_left _ _), mono_scale p0 (Int.min_le_right _ _)⟩
theorem sig_le {s : Site} {x : Spm} {a b c t : Int} (h : sigE s x a b c t = 0) : sigN s x a b c t ≤ betweenI s a b ∧ wstN s x a b ≤ sigN s x a b c t ∧ 0 ≤ wstN s x a b ∧ 0 ≤ betweenI s a b ∧ betweenI s a b ≤ 68719476736 := by
  obtain ⟨_, _, hn, hc, ht⟩ := sig_full h
  obtain ⟨hv, hxv, ha, hb⟩ := nodes_zero hn
  obtain ⟨p0, p1⟩ := pow_is (between_pow (b := b) hv ha)
  obtain ⟨k1, k2, k3, k4⟩ := sig_ok hn hc ht
  obtain ⟨f0, f1⟩ := factor_bd hxv a b c t
  refine ⟨?_, k3, k4, p0, p1⟩
  rw [k2]
  exact (scale_bd p0 f0 f1).2
/-! ### Transmitters -/
def powSum (s : Site) (b : Pt) (l : List Src) : Int := (l.map fun q => atN s q.pt q.pow b).sum
theorem atN_bd (s : Site) (a : Pt) (p : Int) (b : Pt) : 0 ≤ atN s a p b ∧ atN s a p b ≤ 68719476736 := by
  unfold atN
  split
  · rename_i h
    simp only [Bool.and_eq_true] at h
    exact pow_is (at_pow h.1 _ _ h.2.2)
  · omega
theorem sum_cons (s : Site) (b : Pt) (q : Src) (l : List Src) : powSum s b (q :: l) = atN s q.pt q.pow b + powSum s b l := by simp [powSum]
theorem sum_bd (s : Site) (b : Pt) : ∀ l : List Src, 0 ≤ powSum s b l ∧ powSum s b l ≤ l.length * 68719476736
  | [] => by simp [powSum]
  | q :: l => by
    obtain ⟨h1, h2⟩ := sum_bd s b l
    obtain ⟨h3, h4⟩ := atN_bd s q.pt q.pow b
    rw [sum_cons, List.length_cons]
    omega
theorem fold_sum (s : Site) (b : Pt) : ∀ (l : List Src) (m : Int), 0 ≤ m → m + l.length * 68719476736 ≤ 4611686018427387904 → l.foldl (fun n q => wrap64 (n + atN s q.pt q.pow b)) m = m + powSum s b l
  | [], m, _, _ => by simp [powSum]
  | q :: l, m, h0, h1 => by
    obtain ⟨h3, h4⟩ := atN_bd s q.pt q.pow b
    rw [List.length_cons] at h1
    rw [List.foldl_cons, w64 (by omega) (by omega), fold_sum s b l _ (by omega) (by omega), sum_cons]
    omega
theorem ext_sum {s : Site} {b : Pt} {srcs : List Src} (c f t : Int) (h : srcs.length ≤ 17) : extSum s b srcs c f t = powSum s b (srcs.filter (actB c f t)) := by
  have hl := List.length_filter_le (actB c f t) srcs
  unfold extSum
  rw [fold_sum s b _ 0 (by omega) (by omega)]
  omega
theorem sum_filter (s : Site) (b : Pt) (p q : Src → Bool) : ∀ l : List Src, (∀ x, x ∈ l → p x = true → q x = true) → powSum s b (l.filter p) ≤ powSum s b (l.filter q)
  | [], _ => Int.le_refl _
  | x :: l, h => by
    have ih := sum_filter s b p q l fun y hy => h y (List.mem_cons_of_mem _ hy)
    obtain ⟨h3, h4⟩ := atN_bd s x.pt x.pow b
    simp only [List.filter_cons]
    rcases Bool.eq_false_or_eq_true (p x) with e | e
    · have e2 := h x (List.mem_cons_self ..) e
      rw [e, e2]
      simp only [if_true, sum_cons]
      omega
    · rw [e]
      simp only [Bool.false_eq_true, if_false]
      rcases Bool.eq_false_or_eq_true (q x) with e2 | e2
      · rw [e2]
        simp only [if_true, sum_cons]
        omega
      · rw [e2]
        simpa using ih
theorem on_longer {s : Src} (hs : srcB s = true) {f t u : Int} (h0 : 0 ≤ f) (h1 : f ≤ t) (h2 : t ≤ u) (h : onB s f t = true) : onB s f u = true := by
  rw [on_iff hs h0 h1] at h
  rw [on_iff hs h0 (by omega)]
  obtain ⟨x, x1, x2, x3⟩ := h
  exact ⟨x, x1, by omega, x3⟩
theorem ext_zero {s : Site} {x : Spm} {a c f t : Int} (h : extE s x a c f t = 0) : siteB s = true ∧ spmB x = true ∧ inB s a = true ∧ chB c = true ∧ ivB f t = true := by
  unfold extE at h
  split at h
  · rename_i h1
    split at h
    · rename_i h2
      split at h
      · rename_i h3
        simp only [Bool.and_eq_true] at h1 h3
        exact ⟨h1.1, h1.2, h2, h3.1, h3.2⟩
      · cases h
    · cases h
  · cases h
theorem spm_len {x : Spm} (h : spmB x = true) : x.srcs.length ≤ 16 ∧ x.fds.length ≤ 64 := by
  simp only [spmB, Bool.and_eq_true, decide_eq_true_eq] at h
  omega
theorem ext_is {s : Site} {x : Spm} {a c f t : Int} (h : extE s x a c f t = 0) : extN s x a c f t = powSum s (nodeI s a) (x.srcs.filter (actB c f t)) := by
  obtain ⟨_, hx, _⟩ := ext_zero h
  have := spm_len hx
  rw [extN, if_pos h, ext_sum c f t (by omega)]
theorem ext_pos {s : Site} {x : Spm} {a c f t : Int} (h : extE s x a c f t = 0) : 0 ≤ extN s x a c f t := by
  rw [ext_is h]; exact (sum_bd _ _ _).1
theorem ext_longer {s : Site} {x : Spm} {a c f t u : Int} (h : extE s x a c f t = 0) (h2 : extE s x a c f u = 0) (hu : t ≤ u) : extN s x a c f t ≤ extN s x a c f u := by
  rw [ext_is h, ext_is h2]
  obtain ⟨_, hx, _, _, hi⟩ := ext_zero h
  obtain ⟨i0, i1, i2⟩ := ivB_is hi
  refine sum_filter _ _ _ _ _ fun y hy hp => ?_
  simp only [actB, Bool.and_eq_true] at hp ⊢
  exact ⟨hp.1, on_longer (spm_srcs hx hy) i0 i1 hu hp.2⟩
def moreS (x : Spm) (q : Src) : Spm := ⟨x.srcs ++ [q], x.fds⟩
theorem ext_more {s : Site} {x : Spm} {q : Src} {a c f t : Int} (h : extE s x a c f t = 0) :
    (extE s (moreS x q) a c f t = 0 ∧ extN s x a c f t ≤ extN s (moreS x q) a c f t) ∨ (extE s (moreS x q) a c f t = 1 ∧ spmB (moreS x q) = false) := by
  obtain ⟨hs, hx, ha, hc, hi⟩ := ext_zero h
  rcases Bool.eq_false_or_eq_true (spmB (moreS x q)) with z | z
  · left
    have h2 : extE s (moreS x q) a c f t = 0 := by simp [extE, hs, z, ha, hc, hi]
    refine ⟨h2, ?_⟩
    rw [ext_is h, ext_is h2]
    simp only [moreS, List.filter_append]
    have h3 : powSum s (nodeI s a) (x.srcs.filter (actB c f t) ++ [q].filter (actB c f t)) = powSum s (nodeI s a) (x.srcs.filter (actB c f t)) + powSum s (nodeI s a) ([q].filter (actB c f t)) := by simp [powSum]
    have := (sum_bd s (nodeI s a) ([q].filter (actB c f t))).1
    omega
  · right
    exact ⟨by simp [extE, z], z⟩
theorem ext_clear {s : Site} {x : Spm} {a c f t : Int} (h : extE s x a c f t = 0) (hc : hasB (clearL x f t) c = true) : extN s x a c f t = 0 := by
  rw [ext_is h]
  obtain ⟨hs, hx, ha, hch, hi⟩ := ext_zero h
  have hm : c ∈ clearL x f t := by simpa [hasB] using hc
  simp only [clearL, hx, hi, Bool.true_and, if_true, clrTo, List.mem_map, List.mem_filter] at hm
  obtain ⟨n, ⟨_, hn⟩, rfl⟩ := hm
  have : x.srcs.filter (actB (n : Int) f t) = [] := by
    rw [List.filter_eq_nil_iff]
    intro y hy hq
    simp only [clrB, List.all_eq_true] at hn
    have := hn y hy
    rw [hq] at this
    cases this
  rw [this]
  rfl
end Go.Proofs.YtpbhoeaadnemhaaGreat
