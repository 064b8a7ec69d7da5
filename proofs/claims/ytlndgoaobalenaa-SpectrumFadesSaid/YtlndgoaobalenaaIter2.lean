/- Clear. -/
import Derived.Test.YtlndgoaobalenaaIter1
import Derived.Test.YtlndgoaobalenaaSpec3
namespace Go.Proofs.Ytlndgoaobalenaa
open Go.RowKit Go.Shelf
attribute [local go_sem] Oper.semAt_some
set_option linter.unusedVariables false
set_option linter.unusedSimpArgs false
set_option maxHeartbeats 4000000
set_option maxRecDepth 100000
def clrB (srcs : List Src) (f t : Int) (c : Nat) : Bool := srcs.all fun s => !actB (c : Int) f t s
def clrTo (srcs : List Src) (f t : Int) (k : Nat) : List Int := ((List.range k).filter (clrB srcs f t)).map fun c : Nat => (c : Int)
theorem clr_snoc (srcs : List Src) (f t : Int) (k : Nat) : clrTo srcs f t (k + 1) = clrTo srcs f t k ++ (if clrB srcs f t k then [(k : Int)] else []) := by
  simp only [clrTo, List.range_succ, List.filter_append, List.map_append, List.filter_cons, List.filter_nil]
  split <;> rfl
theorem clr_len (srcs : List Src) (f t : Int) (k : Nat) : (clrTo srcs f t k).length ≤ k := by
  simp only [clrTo, List.length_map]
  exact Nat.le_trans (List.length_filter_le _ _) (by simp)
/-- The channels on which nothing is on in an interval. -/
def clearL (x : Spm) (f t : Int) : List Int := if spmB x && ivB f t then clrTo x.srcs f t 16 else []
theorem infoInt : (Try.prog.info? 3).map (fun i => (i.zero, i.size, i.bytes)) = some (some (.int .i64 0), 1, 8) := by kernel_rfl
theorem sActive (x0 x1 : Value) (c f t : Int) (w : World) (h0 : ∃ A n k, x0 = .slice A n k) (h1 : ∃ A n k, x1 = .slice A n k) :
    Calls Try.prog 46 #[.agg #[x0, x1], .int .i64 c, .int .i64 f, .int .i64 t] w fun e w' =>
      e = .returned (.func (.func 76) #[] #[.pointer (some ⟨w.heap.size, 0, none⟩), .pointer (some ⟨w.heap.size + 1, 0, none⟩), .pointer (some ⟨w.heap.size + 1 + 1, 0, none⟩), .pointer (some ⟨w.heap.size + 1 + 1 + 1, 0, none⟩)]) ∧
      (((w.alloc (.cells #[x0, x1] 25)).alloc (.cells #[.int .i64 c] 3)).alloc (.cells #[.int .i64 f] 3)).alloc (.cells #[.int .i64 t] 3) = w' := by
  have hu := Try.underlying25
  obtain ⟨A0, n0, k0, rfl⟩ := h0
  obtain ⟨A1, n1, k1, rfl⟩ := h1
  go_enter Try.func46, Try.ntmps46
  go_wp2
  go_ret
  exact ⟨rfl, rfl⟩
theorem sClear (x : Spm) (v : Value) (f t : Int) (w : World) (hx : SpmV w v x) : Calls Try.prog 21 #[v, .int .i64 f, .int .i64 t] w fun e w' => ∃ u, e = .returned u ∧ SlV 1 KI w' u (clearL x f t) ∧ Below w.heap.size w w' := by
  have hu := Try.underlying25
  have hx' := Lib.hid hx
  obtain ⟨srcs, fds⟩ := x
  obtain ⟨v0, v1, rfl, h0, h1⟩ := hx
  obtain ⟨A0, c0, rfl, hc0, hm0, hr0⟩ := h0
  obtain ⟨A1, c1, rfl, hc1, hm1, hr1⟩ := h1
  dsimp only at *
  refine (callsIn_wide (n := 10)).1 (callsIn_of_wp_marks Try.func21 rfl trivial (wpIn_wide.2 ?_) rfl)
  simp only [Try.ntmps21, List.size_toArray, List.length_cons, List.length_nil, Nat.reduceAdd, Nat.reduceSub, Array.replicate_succ, Array.replicate_zero, List.push_toArray, List.append_toArray, List.nil_append, List.cons_append]
  have hbx : Below w.heap.size w (w.alloc (.cells #[.slice A0 srcs.length c0, .slice A1 fds.length c1] 25)) := by (repeat (first | exact Below.refl _ _ | assumption | apply b_alloc | apply b_drewN | apply b_drew))
  go_wp2_with fail
  refine (sCheck ⟨srcs, fds⟩ _ _ (hx'.out.mono hbx)).mono ?_
  rintro e w2 ⟨rfl, hb2⟩
  have hbz := b_then hbx hb2
  have t0 := box_at hb2 rfl 0 rfl
  have t1 := box_at hb2 rfl 1 rfl
  rcases Bool.eq_false_or_eq_true (spmB ⟨srcs, fds⟩) with q | q
  · rw [q, okN_true]
    have Hq := Lib.hid q
    clear q
    go_wp2_with fail
    refine (sInterval _ _ _).mono ?_
    rintro e w3 ⟨rfl, rfl⟩
    rcases Bool.eq_false_or_eq_true (ivB f t) with r | r
    · rw [r]
      have Hr := Lib.hid r
      clear r
      obtain ⟨W1, hW1⟩ : ∃ W1, W1 = w.alloc (.cells #[.slice A0 srcs.length c0, .slice A1 fds.length c1] 25) := ⟨_, rfl⟩
      rw [← hW1] at hb2 hbx
      have HW := Lib.hid hW1
      clear hW1
      go_wp2_with fail
      refine wp_loop (fun a wr => ∃ (k : Nat) (o : Value) (Ds : List Nat) (u8 u9 u20 u21 u22 u23 u24 u25 u26 u27 u28 u29 u30 u31 u32 u33 : Value), k ≤ 16 ∧ (∃ A n c, o = .slice A n c) ∧ wr.ownsRow W1.heap.size 3 1 o (clrTo srcs f t k).length ((clrTo srcs f t k).map (Value.int .i64)) ∧ Below W1.heap.size W1 wr ∧
        (∀ D, D ∈ Ds → wr.heap[D]? = some (.deferred (some [])) ∧ W1.heap.size ≤ D) ∧ Ds.Nodup ∧
        a = { tmps := #[.agg #[.slice A0 srcs.length c0, .slice A1 fds.length c1], .int .i64 f, .int .i64 t, .pointer (some ⟨w.heap.size, 0, none⟩), undef, undef, .slice none 0 0, o, u8, u9, .agg #[.slice A0 srcs.length c0, .slice A1 fds.length c1], .int .i64 0, .bool false, .bool false, .int .i64 f, .int .i64 t, .bool true, .bool false, .bool false, .int .i64 k, u20, u21, u22, u23, u24, u25, u26, u27, u28, u29, u30, u31, u32, u33, undef], defers := Ds.map mark })
        (fun a _ => 16 - (intOf (a.tmps.getD 19 undef)).toNat) ?start ?round
      case start =>
        refine ⟨0, .slice none 0 0, [], undef, undef, undef, undef, undef, undef, undef, undef, undef, undef, undef, undef, undef, undef, undef, undef, Nat.zero_le _, ⟨_, _, _, rfl⟩, own_nil _ _ _ _, hb2, fun D h => (by cases h), List.nodup_nil, rfl⟩
      case round =>
        rintro a wr ⟨k, o, Ds, u8, u9, u20, u21, u22, u23, u24, u25, u26, u27, u28, u29, u30, u31, u32, u33, hk, ⟨Ao, no, co, rfl⟩, hown, hbw, hm, hn, rfl⟩
        have t0 := box_at hbw HW.out 0 rfl
        have t1 := box_at hbw HW.out 1 rfl
        by_cases hlt : k < 16
        · have hlt' : decide ((k : Int) < 16) = true := by simp; omega
          have s0 := box_at (b_then hbw (b_alloc (Below.refl _ _) (.cells #[.bool true] 4))) HW.out 0 rfl
          have s1 := box_at (b_then hbw (b_alloc (Below.refl _ _) (.cells #[.bool true] 4))) HW.out 1 rfl
          go_wp2_with fail
          refine (sActive _ _ (k : Int) f t _ ⟨_, _, _, rfl⟩ ⟨_, _, _, rfl⟩).mono ?_
          rintro e w3 ⟨rfl, rfl⟩
          go_wp2_with fail
          have hq0 := ((((Boxed.new wr 4 (.bool true)).alloc (.cells #[.slice A0 srcs.length c0, .slice A1 fds.length c1] 25)).alloc (.cells #[.int .i64 (k : Int)] 3)).alloc (.cells #[.int .i64 f] 3)).alloc (.cells #[.int .i64 t] 3)
          have hwr : Below w.heap.size w wr := b_then hbx hbw
          have hA : ActF (wr.heap.size + 1) (wr.heap.size + 1 + 1) (wr.heap.size + 1 + 1 + 1) (wr.heap.size + 1 + 1 + 1 + 1) (.slice A0 srcs.length c0) (.slice A1 fds.length c1) (k : Int) f t w
              (((((wr.alloc (.cells #[.bool true] 4)).alloc (.cells #[.slice A0 srcs.length c0, .slice A1 fds.length c1] 25)).alloc (.cells #[.int .i64 (k : Int)] 3)).alloc (.cells #[.int .i64 f] 3)).alloc (.cells #[.int .i64 t] 3)) :=
            ⟨by go_simp, by go_simp, by go_simp, by go_simp, by go_simp, by (repeat (first | exact Below.refl _ _ | assumption | apply b_alloc | apply b_drewN | apply b_drew))⟩
          have hB0 : Below wr.heap.size wr (((((wr.alloc (.cells #[.bool true] 4)).alloc (.cells #[.slice A0 srcs.length c0, .slice A1 fds.length c1] 25)).alloc (.cells #[.int .i64 (k : Int)] 3)).alloc (.cells #[.int .i64 f] 3)).alloc (.cells #[.int .i64 t] 3)) := by (repeat (first | exact Below.refl _ _ | assumption | apply b_alloc | apply b_drewN | apply b_drew))
          have hsz : (((((wr.alloc (.cells #[.bool true] 4)).alloc (.cells #[.slice A0 srcs.length c0, .slice A1 fds.length c1] 25)).alloc (.cells #[.int .i64 (k : Int)] 3)).alloc (.cells #[.int .i64 f] 3)).alloc (.cells #[.int .i64 t] 3)).heap.size = wr.heap.size + 5 := by simp
          generalize hW0 : (((((wr.alloc (.cells #[.bool true] 4)).alloc (.cells #[.slice A0 srcs.length c0, .slice A1 fds.length c1] 25)).alloc (.cells #[.int .i64 (k : Int)] 3)).alloc (.cells #[.int .i64 f] 3)).alloc (.cells #[.int .i64 t] 3)) = W0 at *
          clear hW0
          have hww := hwr.size
          refine (wpIn_wide (n := 10)).1 (wpIn_rangeFunc_ownG (F := Fence.wide) rfl (by omega) (gf := 76) (lb := #[.pointer (some ⟨wr.heap.size + 1, 0, none⟩), .pointer (some ⟨wr.heap.size + 1 + 1, 0, none⟩), .pointer (some ⟨wr.heap.size + 1 + 1 + 1, 0, none⟩), .pointer (some ⟨wr.heap.size + 1 + 1 + 1 + 1, 0, none⟩)]) rfl trivial (enters_of Try.func76 (by kernel_rfl) rfl)
            (active1 9 (by omega) _ _ _ _ _ _ srcs (k : Int) f t w W0 ⟨A0, c0, rfl, hc0, hm0, hr0⟩ (fun s hs => spm_srcs (x := ⟨srcs, fds⟩) Hq.out hs) Hr.out hA (Bbt W0.heap.size wr.heap.size) ?kf) bbt_t (bbt_b (Nat.le_refl _)) (Below.refl _ _) (fun _ => rfl)
            (fun pre W => Boxed W wr.heap.size 4 (.bool (List.isEmpty pre)) ∧ Bbt W0.heap.size wr.heap.size W0 W) (fun _ _ _ => False)
            (OwnFrom.and (Own.from (boxed_own _ _ _) _) (ownFrom_bbt (Nat.le_refl _) (Nat.le_refl _))) (fun _ _ _ _ _ hs _ _ => hs) ⟨hq0, Bbt.refl _ _ _⟩
            (fun x => { tmps := #[.agg #[.slice A0 srcs.length c0, .slice A1 fds.length c1], .int .i64 f, .int .i64 t, .pointer (some ⟨w.heap.size, 0, none⟩), undef, undef, .slice none 0 0, .slice Ao no co, .int .i64 k, .pointer (some ⟨wr.heap.size, 0, none⟩), .agg #[.slice A0 srcs.length c0, .slice A1 fds.length c1], .int .i64 0, .bool false, .bool false, .int .i64 f, .int .i64 t, .bool true, .bool false, .bool false, .int .i64 k, .bool true, .int .i64 k, .agg #[.slice A0 srcs.length c0, .slice A1 fds.length c1], .int .i64 k, .int .i64 f, .int .i64 t,
              .func (.func 76) #[] #[.pointer (some ⟨wr.heap.size + 1, 0, none⟩), .pointer (some ⟨wr.heap.size + 1 + 1, 0, none⟩), .pointer (some ⟨wr.heap.size + 1 + 1 + 1, 0, none⟩), .pointer (some ⟨wr.heap.size + 1 + 1 + 1 + 1, 0, none⟩)], .agg #[.int .i64 (x.1).pt.x, .int .i64 (x.1).pt.y, .int .i64 (x.1).pow, .slice x.2.1 x.2.2.1 x.2.2.2, .int .i64 (x.1).per, .int .i64 (x.1).frm, .int .i64 (x.1).to], u28, u29, u30, u31, u32, u33, undef], defers := [] }) ?assign ?body ?done ?stop)
          case kf =>
            intro X Y hXY hX
            exact ⟨(hXY.cell (by simp; omega) (by simp)).trans hX.h0, (hXY.cell (by simp; omega) (by simp)).trans hX.h1, (hXY.cell (by simp; omega) (by simp; omega)).trans hX.h5, (hXY.cell (by simp; omega) (by simp; omega)).trans hX.h6, (hXY.cell (by simp; omega) (by simp; omega)).trans hX.h7, hX.below.trans (hXY.below (by omega) (by omega))⟩
          case assign =>
            intro l x W K hK
            simp only [encSrc]
            gi_wp2
            exact hK
          case body =>
            rintro l pre x W ⟨hq1, hB1⟩ _
            have cq := hq1.cell
            have fq := hq1.frozen
            gi_wp2
            exact ⟨(KeepsOthers.setCell _ _ _).from _, Bbt.setCell _ _ _ _, by have h2 := hq1.set (.bool false); have e2 : (pre ++ [x]).isEmpty = false := (by simp); rw [e2]; exact h2, hB1.trans (Bbt.setCell _ _ _ _)⟩
          case stop =>
            rintro D c pre W _ _ h _
            exact h.elim
          case done =>
            rintro D xs W hD hxs ⟨hq1, hB1⟩ hK
            have cq := hq1.cell
            have hemp : xs.isEmpty = clrB srcs f t k := by
              have h2 := congrArg List.isEmpty hxs
              rw [emp_all] at h2
              rw [← List.isEmpty_map (f := Prod.fst), h2]; rfl
            have hwW : Below wr.heap.size wr W := hB0.trans (hB1.below (by omega) (Nat.le_refl _))
            have hbW := b_then hbw hwW
            have hownW := own_below hown hwW
            have hmW : ∀ E, E ∈ D :: Ds → W.heap[E]? = some (.deferred (some [])) ∧ W1.heap.size ≤ E := by
              intro E hE
              rcases List.mem_cons.1 hE with rfl | hE
              · exact ⟨hK, by have := hbw.size; omega⟩
              · obtain ⟨m1, m2⟩ := hm E hE
                exact ⟨(hwW.block E (Array.getElem?_eq_some_iff.1 m1).1).trans m1, m2⟩
            have hnW : (D :: Ds).Nodup := List.nodup_cons.2 ⟨fun hE => by
              have := (Array.getElem?_eq_some_iff.1 (hm D hE).1).1
              omega, hn⟩
            have hsn := clr_snoc srcs f t k
            have hcl := clr_len srcs f t k
            have hbase : W1.heap.size ≤ W.heap.size := hbW.size
            rw [hemp] at cq
            rcases Bool.eq_false_or_eq_true (clrB srcs f t k) with z | z
            · rw [z] at cq hsn
              simp only [if_true] at hsn
              have Hsn := Lib.hid hsn
              clear hsn hemp z
              go_wp2_with ((at_builtin; refine append_num (w0 := W1) W1.heap.size rfl (.tmp 29) (.tmp 31) 28 3 rfl Try.underlying28 infoInt (.slice Ao no co) (clrTo srcs f t k) (k : Int) rfl rfl hownW hbW hbase (by omega) ?_; intro v1 w1 hown1 hb1 hg1 hat1; obtain ⟨A2, c2, rfl⟩ := own_slice hown1))
              refine ⟨⟨k + 1, .slice A2 ((clrTo srcs f t k).length + 1) c2, D :: Ds, _, _, _, _, _, _, _, _, _, _, _, _, _, _, _, _, by omega, ⟨_, _, _, rfl⟩, by rw [Hsn.out]; simpa using hown1, hb1, ?_, hnW, rfl⟩, by simp [intOf]; omega⟩
              intro E hE
              obtain ⟨m1, m2⟩ := hmW E hE
              exact ⟨(hg1.block E (Array.getElem?_eq_some_iff.1 m1).1 (own_mark hownW m1)).trans m1, m2⟩
            · rw [z] at cq hsn
              simp only [Bool.false_eq_true, if_false, List.append_nil] at hsn
              have Hsn := Lib.hid hsn
              clear hsn hemp z
              go_wp2
              exact ⟨⟨k + 1, .slice Ao no co, D :: Ds, _, _, _, _, _, _, _, _, _, _, _, _, _, _, _, _, by omega, ⟨_, _, _, rfl⟩, by rw [Hsn.out]; exact hownW, hbW, hmW, hnW, rfl⟩, by simp [intOf]; omega⟩
        · obtain rfl : k = 16 := by omega
          have hcl := clr_len srcs f t 16
          have hsl := own_sl hown (by unfold big; omega)
          go_wp2
          refine leaves_marks Ds wr hn (fun D hD => (hm D hD).1) (fun W' hW' => ⟨_, results_tmp rfl _ _ _, _, rfl, ?_, ?_⟩)
          · have e : clearL ⟨srcs, fds⟩ f t = clrTo srcs f t 16 := by simp [clearL, Hq.out, Hr.out]
            rw [e]
            exact sl_byt hsl hW' (fun D hD => (hm D hD).1)
          · exact (b_then hbx hbw).trans (hW'.below (fun D hD => Nat.le_trans hbx.size (hm D hD).2))
    · rw [r]
      go_wp2
      exact ⟨_, results_tmp rfl _ _ _, ⟨_, rfl, by simp only [clearL, r, Bool.and_false]; exact ⟨none, 0, rfl, Nat.le_refl _, Nat.zero_le _, fun h => absurd rfl h⟩, hbz⟩⟩
  · rw [q, okN_false]
    go_wp2
    exact ⟨_, results_tmp rfl _ _ _, ⟨_, rfl, by simp only [clearL, q, Bool.false_and]; exact ⟨none, 0, rfl, Nat.le_refl _, Nat.zero_le _, fun h => absurd rfl h⟩, hbz⟩⟩
end Go.Proofs.Ytlndgoaobalenaa
