/- slices.DeleteFunc on a row of numbers of the caller's own: the elements that equal a number. -/
import Derived.Test.YtpbhoeaadnemhaaAirN
import Derived.Lib.SliceRun
import Derived.Laws.IdiomCopy
namespace Go.Proofs.Ytpbhoeaadnemhaa
open Go.RowKit Go.Shelf
set_option linter.unusedVariables false
set_option linter.unusedSimpArgs false
set_option maxHeartbeats 4000000
set_option maxRecDepth 100000
def eqB (m z : Int) : Bool := decide (z = m)
theorem channels1 (x m : Int) (b1 : Nat) (w : World) (h : w.cell? ⟨b1, 0, none⟩ = some (.int .i64 m)) : Calls Try.prog 28 #[.int .i64 x, .pointer (some ⟨b1, 0, none⟩)] w fun e w' => e = .returned (.bool (eqB m x)) ∧ Below w.heap.size w w' := by
  have hu := Try.underlying35
  go_enter Try.func28, Try.ntmps28
  go_wp2
  go_ret
  exact ⟨ret_bool (by rw [Bool.eq_iff_iff]; simp [eqB]), Below.refl _ _⟩
theorem chIndex (xs : List Int) (v : Value) (w : World) (h : SlV 1 KI w v xs) (b1 : Nat) (m : Int) (h1 : w.cell? ⟨b1, 0, none⟩ = some (.int .i64 m)) : Calls Try.prog 46 #[v, .func (.func 28) #[] #[.pointer (some ⟨b1, 0, none⟩)]] w fun e w' => e = .returned (.int .i64 (idxI (fun x => eqB m x) xs)) ∧ Below w.heap.size w w' := by
  obtain ⟨A, c, rfl, hc, hm, hr⟩ := h
  unfold big at hm
  go_enter Try.func46, Try.ntmps46
  go_wp2_with fail
  go_loopw [8] (fun i wr => ∃ k : Nat, k ≤ xs.length ∧ i = .int .i64 k ∧ allTo (fun x => !eqB m x) xs k ∧ Below w.heap.size w wr) (fun i _ => xs.length - (intOf i).toNat)
  case atStart => exact ⟨0, Nat.zero_le _, rfl, allTo.zero _ _, Below.refl _ _⟩
  case round =>
    obtain ⟨k, hk, rfl, ha, hbw⟩ := hrel
    by_cases hlt : k < xs.length
    · obtain ⟨x, hx⟩ : ∃ x, xs[k]? = some x := ⟨_, List.getElem?_eq_getElem hlt⟩
      obtain ⟨b, off, rfl, e0⟩ := hr.int hbw hx
      have Hx := Lib.hid hx
      clear hx
      go_wp2_with fail
      refine (channels1 x m b1 _ (cell_mono hbw h1)).mono ?_
      rintro e w2 ⟨rfl, hb2⟩
      rcases Bool.eq_false_or_eq_true (eqB m x) with q | q
      · rw [q]
        have Hq := Lib.hid q
        go_wp2
        go_ret
        exact ⟨ret_int (idx_some ha Hx.out Hq.out), b_then hbw hb2⟩
      · rw [q]
        have Hq := Lib.hid q
        go_wp2
        go_roundw
        case rel => exact ⟨k + 1, by omega, by go_num, ha.succ Hx.out (by rw [Hq.out]; rfl), b_then hbw hb2⟩
        case measure => simp [intOf]; omega
    · go_wp2
      go_ret
      exact ⟨ret_int (idx_none ha (by omega)), hbw⟩
def RowI (W : World) (g : Nat) (ys : List Int) : Prop := ∀ (p : Nat) (y : Int), ys[p]? = some y → W.cell? ⟨g, p, none⟩ = some (.int .i64 y) ∧ W.frozen? ⟨g, p, none⟩ = false
theorem RowI.set {W : World} {g : Nat} {ys : List Int} (h : RowI W g ys) {i : Nat} (v : Int) (hi : i < ys.length) : RowI (W.setCell ⟨g, i, none⟩ (.int .i64 v)) g (ys.set i v) := by
  intro p y hp
  by_cases c : p = i
  · subst c
    have hy : v = y := by rw [List.getElem?_set_self hi] at hp; simpa using hp
    subst hy
    obtain ⟨k1, k2⟩ := h p _ (List.getElem?_eq_getElem hi)
    exact ⟨by simpa using World.cell?_setCell_same _ _ _ k1, by rw [World.frozen?_setCell]; exact k2⟩
  · rw [List.getElem?_set_ne (by omega)] at hp
    obtain ⟨k1, k2⟩ := h p y hp
    exact ⟨(World.cell?_setCell_other _ _ _ _ (by simp <;> omega)).trans k1, by rw [World.frozen?_setCell]; exact k2⟩
theorem RowI.mono {W W1 : World} {g : Nat} {ys : List Int} (h : RowI W g ys) (hb : Below W.heap.size W W1) : RowI W1 g ys := fun p y hp => by
  obtain ⟨k1, k2⟩ := h p y hp
  exact ⟨cell_mono hb k1, by rw [(bcell hb).2 g p (World.block_lt_of_cell? W _ k1)]; exact k2⟩
theorem bbt_setCells {n : Nat} {a : World} {g : Nat} : ∀ (vs : List Value) (o : Nat) (w : World), Bbt n g a w → Bbt n g a (w.setCells g o vs)
  | [], _, _, h => h
  | v :: r, o, w, h => bbt_setCells r (o + 1) _ (h.trans (bbt_set _ _ _ _ _))
theorem zeroInt (w : World) : (zeroValue 3).run Try.prog w = .ok (.int .i64 0) w := by kernel_rfl
theorem delFunc (xs : List Int) (g c : Nat) (b1 : Nat) (m : Int) (w : World) (base : Nat) (hg : base ≤ g) (hc : xs.length ≤ c) (hl : xs.length ≤ 64) (hr : RowI w g xs) (hs : SlV 1 KI w (.slice (some ⟨g, 0, none⟩) xs.length c) xs) (h1 : w.cell? ⟨b1, 0, none⟩ = some (.int .i64 m)) (hb1 : b1 < base) (hbw0 : base ≤ w.heap.size) :
    Calls Try.prog 27 #[.slice (some ⟨g, 0, none⟩) xs.length c, .func (.func 28) #[] #[.pointer (some ⟨b1, 0, none⟩)]] w fun e w' =>
      ∃ A c', e = .returned (.slice A (xs.filter fun z => !eqB m z).length c') ∧ SlV 1 KI w' (.slice A (xs.filter fun z => !eqB m z).length c') (xs.filter fun z => !eqB m z) ∧ Bbt w.heap.size g w w' := by
  have hu := Try.underlying23
  go_enter Try.func27, Try.ntmps27
  go_wp2_with fail
  refine (chIndex xs _ _ hs b1 m h1).mono ?_
  rintro e w2 ⟨rfl, hb2⟩
  have hs2 := hs.mono KI.st hb2
  have hr2 := hr.mono hb2
  have hb2' : Bbt w.heap.size g w w2 := Bbt.of_below hb2
  have hne : b1 ≠ g := by omega
  have hb1s : b1 < w.heap.size := by omega
  have h12 := cell_mono hb2 h1
  rcases hidx : xs.findIdx? (eqB m) with _ | i0
  · have hI : idxI (fun z => eqB m z) xs = -1 := by simp [idxI, hidx]
    have hf : (xs.filter fun z => !eqB m z) = xs := by
      rw [List.filter_eq_self]
      rw [List.findIdx?_eq_none_iff] at hidx
      intro z hz
      simp [hidx z hz]
    rw [hI]
    go_wp2
    go_ret
    rw [hf]
    exact ⟨_, _, rfl, hs2, hb2'⟩
  · have hI : idxI (fun z => eqB m z) xs = (i0 : Int) := by simp [idxI, hidx]
    rw [List.findIdx?_eq_some_iff_getElem] at hidx
    obtain ⟨hi0, hp0, hbefore⟩ := hidx
    have hfi : (xs.take (i0 + 1)).filter (fun z => !eqB m z) = xs.take i0 := by
      rw [List.take_add_one, List.getElem?_eq_getElem hi0, List.filter_append]
      have e1 : (xs.take i0).filter (fun z => !eqB m z) = xs.take i0 := by
        rw [List.filter_eq_self]
        intro z hz
        obtain ⟨k, hk, rfl⟩ := List.mem_iff_getElem.1 hz
        rw [List.getElem_take]
        have := hbefore k (by simp at hk; omega)
        simpa using this
      rw [e1]
      simp only [Option.toList_some, List.filter_cons]
      rw [hp0]
      simp
    have g0 : ((i0 : Int) == -1) = false := by simp <;> omega
    rw [hI]
    have HFI := Lib.hid hfi
    clear hfi hbefore hp0
    go_wp2_with fail
    go_loopw [5, 6] (fun a b wr => ∃ (j i : Nat) (cur : List Int), i < j ∧ j ≤ xs.length ∧ a = .int .i64 i ∧ b = .int .i64 j ∧ cur.length = xs.length ∧ cur.take i = (xs.take j).filter (fun z => !eqB m z) ∧ i = ((xs.take j).filter (fun z => !eqB m z)).length ∧ (∀ p, j ≤ p → cur[p]? = xs[p]?) ∧ RowI wr g cur ∧ Bbt w.heap.size g w wr) (fun _ b _ => xs.length - (intOf b).toNat)
    case atStart => exact ⟨i0 + 1, i0, xs, by omega, by omega, rfl, by go_num, rfl, HFI.out.symm, by rw [HFI.out, List.length_take]; omega, fun _ _ => rfl, hr2, hb2'⟩
    case round =>
      obtain ⟨j, i, cur, hij, hj, rfl, rfl, hcl, hct, hic, hcr, hrw, hbw⟩ := hrel
      have hb1w : wr.cell? ⟨b1, 0, none⟩ = some (.int .i64 m) := (hbw.cell (p := ⟨b1, 0, none⟩) hb1s hne).trans h1
      by_cases hlt : j < xs.length
      · obtain ⟨y, hy⟩ : ∃ y, xs[j]? = some y := ⟨_, List.getElem?_eq_getElem hlt⟩
        have hcj : cur[j]? = some y := by rw [hcr j (Nat.le_refl _)]; exact hy
        obtain ⟨e0, _⟩ := hrw j y hcj
        have hi1 : i < cur.length := by omega
        obtain ⟨e1, f1⟩ := hrw i _ (List.getElem?_eq_getElem hi1)
        have htk : (xs.take (j + 1)).filter (fun z => !eqB m z) = (xs.take j).filter (fun z => !eqB m z) ++ (if eqB m y then [] else [y]) := by
          rw [List.take_add_one, hy, List.filter_append]
          simp only [Option.toList_some, List.filter_cons, List.filter_nil]
          cases eqB m y <;> rfl
        have HTK := Lib.hid htk
        have HCT := Lib.hid hct
        have HIC := Lib.hid hic
        have HCR := Lib.hid hcr
        have HRW := Lib.hid hrw
        have k0 : (0 : Int) ≤ (j : Int) := by omega
        have k1 : (j : Int) < (xs.length : Int) := by omega
        have k2 : (0 : Int) ≤ (i : Int) := by omega
        have k3 : (i : Int) < (xs.length : Int) := by omega
        generalize cur[i] = old at *
        clear htk hct hic hcr hrw hy hcj
        go_wp2_with fail
        refine (channels1 y m b1 _ hb1w).mono ?_
        rintro e w3 ⟨rfl, hb3⟩
        have e1' := cell_mono hb3 e1
        have f1' : w3.frozen? ⟨g, i, none⟩ = false := by rw [(bcell hb3).2 g i (World.block_lt_of_cell? wr _ e1)]; exact f1
        have hb3' : Bbt w.heap.size g w w3 := hbw.trans (Bbt.of_below (hb3.mono hbw.size))
        rcases Bool.eq_false_or_eq_true (eqB m y) with q | q
        · rw [q]
          have HQ := Lib.hid q
          clear q
          go_wp2
          go_roundw
          case rel => exact ⟨j + 1, i, cur, by omega, by omega, rfl, by go_num, hcl, by rw [HTK.out, HQ.out, HCT.out]; simp, by rw [HTK.out, HQ.out]; simpa using HIC.out, fun p hp => HCR.out p (by omega), HRW.out.mono hb3, hb3'⟩
          case measure => simp [intOf]; omega
        · rw [q]
          have HQ := Lib.hid q
          clear q
          go_wp2
          go_roundw
          case rel =>
            refine ⟨j + 1, i + 1, cur.set i y, by omega, by omega, by go_num, by go_num, by rw [List.length_set]; exact hcl, ?_, ?_, fun p hp => ?_, (HRW.out.mono hb3).set y hi1, hb3'.trans (bbt_set _ _ _ _ _)⟩
            · rw [HTK.out, HQ.out, ← HCT.out, List.take_add_one, List.getElem?_set_self hi1]
              congr 1
              apply List.ext_getElem?
              intro p
              by_cases c : p < i
              · rw [List.getElem?_take_of_lt c, List.getElem?_take_of_lt c, List.getElem?_set_ne (by omega)]
              · rw [List.getElem?_eq_none (by simp; omega), List.getElem?_eq_none (by simp; omega)]
            · rw [HTK.out, HQ.out, List.length_append, ← HIC.out]; rfl
            · rw [List.getElem?_set_ne (by omega)]; exact HCR.out p (by omega)
          case measure => simp [intOf]; omega
      · obtain rfl : j = xs.length := by omega
        rw [List.take_length] at hct hic
        have hcl2 : ∀ ty, (Builtin.clear_ #[23] ty #[.slice (some ⟨g, i, none⟩) (xs.length - i) (c - i)]).run Try.prog wr = .ok (.tuple #[]) (wr.setCells g i (List.replicate (xs.length - i) (.int .i64 0))) :=
          fun ty => Lib.run_clear_slice wr 23 3 ty (.int .i64 0) Try.underlying23 zeroInt rfl rfl g i (xs.length - i) (c - i) (by omega) (fun p hp => by obtain ⟨k1, _⟩ := hrw (i + p) _ (List.getElem?_eq_getElem (by omega)); rw [k1]; rfl) (fun p hp => by obtain ⟨_, k2⟩ := hrw (i + p) _ (List.getElem?_eq_getElem (by omega)); exact k2)
        have k2 : (0 : Int) ≤ (i : Int) := by omega
        have k3 : (i : Int) ≤ (xs.length : Int) := by omega
        have k4 : (i : Int) ≤ (c : Int) := by omega
        have HCT := Lib.hid hct
        have HIC := Lib.hid hic
        have HRW := Lib.hid hrw
        clear hct hic hcr hrw hlt
        go_wp2_with (simp only [hcl2])
        go_ret
        refine ⟨some ⟨g, 0, none⟩, c, by rw [← HIC.out]; rfl, ?_, bbt_setCells _ _ _ hbw⟩
        rw [← HIC.out]
        refine ⟨_, _, by rw [← HIC.out], by rw [← HIC.out]; omega, by rw [← HIC.out]; unfold big; omega, fun _ => ⟨g, 0, rfl, fun p y hp => ⟨_, rfl, fun j' u hu => ?_⟩⟩⟩
        have hj' : j' = 0 ∧ u = .int .i64 y := by
          cases j' with
          | zero => exact ⟨rfl, by simpa using hu.symm⟩
          | succ j' => simp at hu
        obtain ⟨rfl, rfl⟩ := hj'
        rw [← HCT.out] at hp
        have hpi : p < i := by
          have := (List.getElem?_eq_some_iff.1 hp).1
          rw [List.length_take] at this
          omega
        rw [List.getElem?_take_of_lt hpi] at hp
        obtain ⟨k1, _⟩ := HRW.out p y hp
        rw [World.cell?_setCells_out g _ _ _ _ (fun _ _ => .inl (by simp; omega))]
        simpa using k1
end Go.Proofs.Ytpbhoeaadnemhaa
