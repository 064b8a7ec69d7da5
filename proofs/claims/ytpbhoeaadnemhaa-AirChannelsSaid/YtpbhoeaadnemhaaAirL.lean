/- The law function: blames. -/
import Derived.Test.YtpbhoeaadnemhaaAirK
namespace Go.Proofs.Ytpbhoeaadnemhaa
open Go.RowKit Go.Shelf
set_option linter.unusedVariables false
set_option linter.unusedSimpArgs false
set_option maxHeartbeats 4000000
set_option maxRecDepth 100000
/-! ### The closure: none of the disturbers is wrong -/
structure BlF (b1 b2 b3 : Nat) (l : List Em) (i : Nat) (node : Int) (W : World) : Prop where
  hl : ∃ A c, W.cell? ⟨b1, 8, none⟩ = some (.slice A l.length c) ∧ SlV 4 KEm W (.slice A l.length c) l
  hi : W.cell? ⟨b2, 0, none⟩ = some (.int .i64 i)
  hn : W.cell? ⟨b3, 0, none⟩ = some (.int .i64 node)
theorem BlF.mono {b1 b2 b3 : Nat} {l : List Em} {i : Nat} {node : Int} {W W1 : World} (h : BlF b1 b2 b3 l i node W) (hb : Below W.heap.size W W1) : BlF b1 b2 b3 l i node W1 := by
  obtain ⟨⟨A, c, h1, h2⟩, h3, h4⟩ := h
  exact ⟨⟨A, c, cell_mono hb h1, h2.mono KEm.st hb⟩, cell_mono hb h3, cell_mono hb h4⟩
theorem blames1 (l : List Em) (i : Nat) (node : Int) (b1 b2 b3 : Nat) (k : Nat) (w : World) (hi : i < l.length) (hk : k < l.length) (hc : cntB (emD l i) i node k (emD l k) = true) (h : BlF b1 b2 b3 l i node w) :
    Calls Try.prog 21 #[.int .i64 k, .pointer (some ⟨b1, 0, none⟩), .pointer (some ⟨b2, 0, none⟩), .pointer (some ⟨b3, 0, none⟩)] w fun e w' => e = .returned (.bool false) ∧ Below w.heap.size w w' := by
  have hu3 := Try.underlying35
  have hu4 := Try.underlying33
  obtain ⟨⟨A, c, h1, h2⟩, h3, h4⟩ := h
  obtain ⟨_, _, e5, hc5, hm5, hr5⟩ := h2
  cases e5
  unfold big at hm5
  have hge := emD_get hi
  have hgk := emD_get hk
  generalize emD l i = a at *
  generalize emD l k = y at *
  obtain ⟨bl, off, rfl, a0, a1, a2, a3⟩ := hr5.em (Below.refl _ _) hge
  obtain ⟨_, _, hA, y0, y1, y2, y3⟩ := hr5.em (Below.refl _ _) hgk
  cases hA
  have L1 := Later.cell h1
  have L3 := Later.cell h3
  have L4 := Later.cell h4
  have E0 := Later.cell a0
  have E1 := Later.cell a1
  have E2 := Later.cell a2
  have E3 := Later.cell a3
  have Y0 := Later.cell y0
  have Y1 := Later.cell y1
  have Y2 := Later.cell y2
  have Y3 := Later.cell y3
  simp only [cntB, Bool.and_eq_true, decide_eq_true_eq] at hc
  obtain ⟨⟨⟨c1, c2⟩, c3⟩, c4⟩ := hc
  have ho : overB y a = true := by rw [over_comm]; exact c4
  have g1 : decide ((k : Int) < 0) = false := by simp
  have g2 : decide ((l.length : Int) ≤ (k : Int)) = false := by simp; omega
  have g3 : ((k : Int) == (i : Int)) = false := by simp; omega
  have g2' : decide (l.length ≤ k) = false := by simp; omega
  have g3' : (k == i) = false := by simpa using c1
  have g3'' : decide (k = i) = false := by simpa using c1
  have g4 : (y.node == node) = false := by simpa using c3
  have g5 : (y.ch != a.ch) = false := by simp [c2]
  have g5' : (y.ch == a.ch) = true := by simp [c2]
  have k0 : (0 : Int) ≤ (k : Int) := by omega
  have k1 : (k : Int) < (l.length : Int) := by omega
  have i0 : (0 : Int) ≤ (i : Int) := by omega
  have i1 : (i : Int) < (l.length : Int) := by omega
  clear c1 c2 c3 c4
  go_enter Try.func21, Try.ntmps21
  go_wp2_with fail
  refine wp_region_later (by kernel_rfl) (by kernel_rfl) ?_
  repeat (go_big_quiet_step ((go_at_call 14; exact later_of (aOverlapV _ _ _ (by with_reducible assumption)))))
  refine wpQuiet_nil ?_
  rintro _ ⟨z, rfl⟩
  go_wp2
  go_ret
  exact ⟨rfl, z.below⟩
theorem blIndex (l : List Em) (i : Nat) (node : Int) (b1 b2 b3 : Nat) (xs : List Int) (v : Value) (w : World) (hi : i < l.length) (hxs : ∀ x ∈ xs, ∃ n : Nat, x = n ∧ n < l.length ∧ cntB (emD l i) i node n (emD l n) = true) (hv : SlV 1 KI w v xs) (h : BlF b1 b2 b3 l i node w) :
    Calls Try.prog 46 #[v, .func (.func 21) #[] #[.pointer (some ⟨b1, 0, none⟩), .pointer (some ⟨b2, 0, none⟩), .pointer (some ⟨b3, 0, none⟩)]] w fun e w' => e = .returned (.int .i64 (-1)) ∧ Below w.heap.size w w' := by
  obtain ⟨A, c, rfl, hc, hm, hr⟩ := hv
  unfold big at hm
  go_enter Try.func46, Try.ntmps46
  go_wp2_with fail
  go_loopw [8] (fun i wr => ∃ k : Nat, k ≤ xs.length ∧ i = .int .i64 k ∧ Below w.heap.size w wr) (fun i _ => xs.length - (intOf i).toNat)
  case atStart => exact ⟨0, Nat.zero_le _, rfl, Below.refl _ _⟩
  case round =>
    obtain ⟨k, hk, rfl, hbw⟩ := hrel
    by_cases hlt : k < xs.length
    · obtain ⟨x, hx⟩ : ∃ x, xs[k]? = some x := ⟨_, List.getElem?_eq_getElem hlt⟩
      obtain ⟨n, rfl, hn, hcn⟩ := hxs x (List.mem_of_getElem? hx)
      obtain ⟨b, off, rfl, e0⟩ := hr.int hbw hx
      have HC := Lib.hid hcn
      clear hx hcn
      go_wp2_with fail
      refine (blames1 l i node b1 b2 b3 n _ hi hn HC.out (h.mono hbw)).mono ?_
      rintro e w2 ⟨rfl, hb2⟩
      go_wp2
      go_roundw
      case rel => exact ⟨k + 1, by omega, by go_num, b_then hbw hb2⟩
      case measure => simp [intOf]; omega
    · go_wp2
      go_ret
      exact ⟨rfl, hbw⟩
theorem blContains (l : List Em) (i : Nat) (node : Int) (b1 b2 b3 : Nat) (xs : List Int) (v : Value) (w : World) (hi : i < l.length) (hxs : ∀ x ∈ xs, ∃ n : Nat, x = n ∧ n < l.length ∧ cntB (emD l i) i node n (emD l n) = true) (hv : SlV 1 KI w v xs) (h : BlF b1 b2 b3 l i node w) :
    Calls Try.prog 20 #[v, .func (.func 21) #[] #[.pointer (some ⟨b1, 0, none⟩), .pointer (some ⟨b2, 0, none⟩), .pointer (some ⟨b3, 0, none⟩)]] w fun e w' => e = .returned (.bool false) ∧ Below w.heap.size w w' := by
  have hv' := Lib.hid hv
  obtain ⟨A, c, rfl, _⟩ := hv
  go_enter Try.func20, Try.ntmps20
  go_wp2_with fail
  refine (blIndex l i node b1 b2 b3 xs _ _ hi hxs hv'.out h).mono ?_
  rintro e w2 ⟨rfl, hb2⟩
  go_wp2
  go_ret
  exact ⟨rfl, hb2⟩
theorem aDisturbersE {s : Site} {x : Spm} {l : List Em} {i node : Int} {v xv lv : Value} {w : World} (hs : SiteV w v s) (hx : SpmV w xv x) (hl : SlV 4 KEm w lv l) :
    Calls Try.prog 18 #[v, xv, lv, .int .i64 i, .int .i64 node] w fun e w' => ∃ A c, e = .returned (.tuple #[.slice A (disN s x l i node).length c, .int .i64 (chkE s x l i node)]) ∧ SlV 1 KI w' (.slice A (disN s x l i node).length c) (disN s x l i node) ∧ Below w.heap.size w w' := by
  refine (aDisturbers s x l i node v xv lv w hs hx hl).mono ?_
  rintro e w' ⟨u, rfl, hu, hb⟩
  have hu' := hu
  obtain ⟨A, c, rfl, _⟩ := hu
  exact ⟨A, c, rfl, hu', hb⟩
end Go.Proofs.Ytpbhoeaadnemhaa
