/- The law function: captures. -/
import Derived.Test.YtpbhoeaadnemhaaAirM
namespace Go.Proofs.Ytpbhoeaadnemhaa
open Go.RowKit Go.Shelf
set_option linter.unusedVariables false
set_option linter.unusedSimpArgs false
set_option maxHeartbeats 4000000
set_option maxRecDepth 100000
/-! ### Rows of rows of numbers -/
def KOw (w : World) (xs : List Int) (l : List Value) : Prop := ∃ A c, l = [.slice A xs.length c] ∧ w.ownsRow 0 3 1 (.slice A xs.length c) xs.length (xs.map (Value.int .i64))
theorem KOw.pl : Plain 1 KOw := by
  rintro w x l ⟨A, c, rfl, _⟩
  exact ⟨rfl, by simp [Value.oneCell']⟩
theorem KOw.st : Stable KOw := fun _ _ _ _ hb ⟨A, c, e, h⟩ => ⟨A, c, e, own_below h hb⟩
theorem own_other {W W' : World} {row : Option Nat} {base n sz : Nat} {e : TypeId} {v : Value} {xs : List Value} (h : W.ownsRow base e sz v n xs) (hg : W.grownBy W' row) (hr : ∀ r, row = some r → ∃ c t fr, W.heap[r]? = some (.cells c t fr) ∧ t ≠ e) : W'.ownsRow base e sz v n xs := by
  refine h.kept hg ?_
  rcases h.2 with ⟨rfl, _⟩ | ⟨g, cap, cur, rfl, _, hh, _⟩
  · exact .inl rfl
  · refine .inr fun e' => ?_
    have e2 : some g = row := by simpa [Value.ownBlock] using e'
    obtain ⟨c, t, fr, ho, hc⟩ := hr g e2.symm
    rw [hh] at ho
    cases ho
    exact hc rfl
theorem flat_kept {W W' : World} {xss : List (List Int)} {cs : List Value} (h : Flat 1 KOw W xss cs) (hk : ∀ v n xs, W.ownsRow 0 3 1 v n xs → W'.ownsRow 0 3 1 v n xs) : Flat 1 KOw W' xss cs :=
  ⟨h.1, fun i x hx => by obtain ⟨l, ⟨A, c, e, ho⟩, hc⟩ := h.2 i x hx; exact ⟨l, ⟨A, c, e, hk _ _ _ ho⟩, hc⟩⟩
def gotL (s : Site) (x : Spm) (l : List Em) (n : Nat) : List (List Int) := (List.range n).map fun j => rcsI s x l j
theorem got_succ (s : Site) (x : Spm) (l : List Em) (n : Nat) : gotL s x l (n + 1) = gotL s x l n ++ [rcsI s x l n] := by simp [gotL, List.range_succ]
theorem got_len (s : Site) (x : Spm) (l : List Em) (n : Nat) : (gotL s x l n).length = n := by simp [gotL]
theorem got_at {s : Site} {x : Spm} {l : List Em} {n j : Nat} (h : j < n) : (gotL s x l n)[j]? = some (rcsI s x l j) := by simp [gotL, h]
theorem rcs_le (s : Site) (x : Spm) (l : List Em) (i : Nat) : (rcsI s x l i).length ≤ s.nodes.length := rcs_len s x l i _
theorem infoIs : (Try.prog.info? 23).map (fun i => (i.zero, i.size, i.bytes)) = some (some (.slice none 0 0), 1, 24) := by kernel_rfl
theorem lFewV (s : Site) (x : Spm) (l : List Em) {A0 A1 A2 A3 A4 A5 : Option Addr} {c0 c1 c2 c3 c4 c5 : Nat} (w : World) {c : Bool} (hs : SiteV w (.agg #[.slice A0 s.nodes.length c0, .slice A1 s.powers.length c1, .slice A2 s.walls.length c2, .int .i64 s.ex, .int .i64 s.noise, .int .i64 s.thr]) s) (hx : SpmV w (.agg #[.slice A3 x.srcs.length c3, .slice A4 x.fds.length c4]) x) (hl : SlV 4 KEm w (.slice A5 l.length c5) l) (h : fewS s x l = c) :
    Calls Try.prog 10 #[.agg #[.slice A0 s.nodes.length c0, .slice A1 s.powers.length c1, .slice A2 s.walls.length c2, .int .i64 s.ex, .int .i64 s.noise, .int .i64 s.thr, .slice A3 x.srcs.length c3, .slice A4 x.fds.length c4, .slice A5 l.length c5]] w fun e w' => e = .returned (.bool c) ∧ Below w.heap.size w w' := h ▸ lFew s x l w hs hx hl
theorem aReceiversE {s : Site} {x : Spm} {l : List Em} {i : Int} {k : Nat} {v xv lv : Value} {w : World} (hs : SiteV w v s) (hx : SpmV w xv x) (hl : SlV 4 KEm w lv l) (hE : chkE s x l i 0 = 0) (hi : i = k) :
    Calls Try.prog 22 #[v, xv, lv, .int .i64 i] w fun e w' => ∃ A c, e = .returned (.tuple #[.slice A (rcsI s x l k).length c, .int .i64 0]) ∧ w'.ownsRow w.heap.size 3 1 (.slice A (rcsI s x l k).length c) (rcsI s x l k).length ((rcsI s x l k).map (Value.int .i64)) ∧ Below w.heap.size w w' := by
  refine (aReceivers s x l i v xv lv w hs hx hl).mono ?_
  rintro e w' ⟨u, rfl, ho, hb⟩
  rw [hE]
  have e1 : rcsN s x l i = rcsI s x l k := by rw [rcsN, if_pos hE, hi, Int.toNat_natCast]
  rw [e1] at ho
  obtain ⟨A, c, rfl⟩ := own_slice ho
  exact ⟨A, c, rfl, ho, hb⟩
theorem xConV (xs : List Int) (c : Int) (v : Value) (w : World) {b : Bool} (h : SlV 1 KI w v xs) (hb : hasB xs c = b) : Calls Try.prog 23 #[v, .int .i64 c] w fun e w' => e = .returned (.bool b) ∧ w = w' := hb ▸ xContains xs c v w h
/-! ### The closure: nobody receives both -/
structure CaF (B1 b2 : Nat) (xss : List (List Int)) (k : Nat) (W : World) : Prop where
  hg : ∃ A c cs, W.cell? ⟨B1, 0, none⟩ = some (.slice A xss.length c) ∧ W.ownsRow 0 23 1 (.slice A xss.length c) xss.length cs ∧ Flat 1 KOw W xss cs
  hk : W.cell? ⟨b2, 0, none⟩ = some (.int .i64 k)
theorem CaF.mono {B1 b2 : Nat} {xss : List (List Int)} {k : Nat} {W W1 : World} (h : CaF B1 b2 xss k W) (hb : Below W.heap.size W W1) : CaF B1 b2 xss k W1 := by
  obtain ⟨⟨A, c, cs, h1, h2, h3⟩, h4⟩ := h
  exact ⟨⟨A, c, cs, cell_mono hb h1, own_below h2 hb, h3.mono KOw.st hb⟩, cell_mono hb h4⟩
/-- An element of a row of rows. -/
theorem rows_at {W : World} {base n c : Nat} {A : Option Addr} {xss : List (List Int)} {cs : List Value} (h : W.ownsRow base 23 1 (.slice A n c) n cs) (hf : Flat 1 KOw W xss cs) {j : Nat} {xs : List Int} (hj : xss[j]? = some xs) (hl : xs.length ≤ big) :
    ∃ g A2 c2, A = some ⟨g, 0, none⟩ ∧ W.cell? ⟨g, j, none⟩ = some (.slice A2 xs.length c2) ∧ SlV 1 KI W (.slice A2 xs.length c2) xs := by
  obtain ⟨l, ⟨A2, c2, rfl, ho⟩, hc⟩ := hf.2 j xs hj
  have h1 := hc 0 (.slice A2 xs.length c2) rfl
  rcases h.2 with ⟨e1, e2⟩ | ⟨g, cap, cur, e1, _, _, _, _, _⟩
  · exfalso
    have h3 := h.1
    rw [e2] at h3
    have h4 : cs = [] := List.eq_nil_of_length_eq_zero (by simpa using h3)
    rw [h4] at h1
    simp at h1
  · cases e1
    have h2 := h.cells (g := g) rfl j _ (by simpa using h1)
    rw [Go.WideShapes.add_plain] at h2
    exact ⟨g, A2, c2, rfl, by simpa using h2, own_sl ho hl⟩
theorem captures1 (xss : List (List Int)) (xs : List Int) (B1 b2 k : Nat) (n : Int) (w : World) (hk : xss[k]? = some xs) (hl : xs.length ≤ big) (hn : hasB xs n = false) (h : CaF B1 b2 xss k w) :
    Calls Try.prog 24 #[.int .i64 n, .pointer (some ⟨B1, 0, none⟩), .pointer (some ⟨b2, 0, none⟩)] w fun e w' => e = .returned (.bool false) ∧ Below w.heap.size w w' := by
  obtain ⟨⟨A, c, cs, h1, h2, h3⟩, h4⟩ := h
  obtain ⟨g, A2, c2, rfl, h5, h6⟩ := rows_at h2 h3 hk hl
  have k0 : (0 : Int) ≤ (k : Int) := by omega
  have k1 : (k : Int) < (xss.length : Int) := by have := (List.getElem?_eq_some_iff.1 hk).1; omega
  go_enter Try.func24, Try.ntmps24
  go_wp2_with fail
  refine (xConV xs n _ _ h6 hn).mono ?_
  rintro e w2 ⟨rfl, rfl⟩
  go_wp2
  go_ret
  exact ⟨rfl, Below.refl _ _⟩
theorem caIndex (xss : List (List Int)) (ys : List Int) (B1 b2 k : Nat) (xs : List Int) (v : Value) (w : World) (hk : xss[k]? = some ys) (hl : ys.length ≤ big) (hxs : ∀ n ∈ xs, hasB ys n = false) (hv : SlV 1 KI w v xs) (h : CaF B1 b2 xss k w) :
    Calls Try.prog 46 #[v, .func (.func 24) #[] #[.pointer (some ⟨B1, 0, none⟩), .pointer (some ⟨b2, 0, none⟩)]] w fun e w' => e = .returned (.int .i64 (-1)) ∧ Below w.heap.size w w' := by
  obtain ⟨A, c, rfl, hc, hm, hr⟩ := hv
  unfold big at hm
  go_enter Try.func46, Try.ntmps46
  go_wp2_with fail
  go_loopw [8] (fun i wr => ∃ k : Nat, k ≤ xs.length ∧ i = .int .i64 k ∧ Below w.heap.size w wr) (fun i _ => xs.length - (intOf i).toNat)
  case atStart => exact ⟨0, Nat.zero_le _, rfl, Below.refl _ _⟩
  case round =>
    obtain ⟨j, hj, rfl, hbw⟩ := hrel
    by_cases hlt : j < xs.length
    · obtain ⟨x, hx⟩ : ∃ x, xs[j]? = some x := ⟨_, List.getElem?_eq_getElem hlt⟩
      have hxn := hxs x (List.mem_of_getElem? hx)
      obtain ⟨b, off, rfl, e0⟩ := hr.int hbw hx
      have HC := Lib.hid hxn
      clear hx hxn
      go_wp2_with fail
      refine (captures1 xss ys B1 b2 k x _ hk hl HC.out (h.mono hbw)).mono ?_
      rintro e w2 ⟨rfl, hb2⟩
      go_wp2
      go_roundw
      case rel => exact ⟨j + 1, by omega, by go_num, b_then hbw hb2⟩
      case measure => simp [intOf]; omega
    · go_wp2
      go_ret
      exact ⟨rfl, hbw⟩
theorem caContains (xss : List (List Int)) (ys : List Int) (B1 b2 k : Nat) (xs : List Int) (v : Value) (w : World) (hk : xss[k]? = some ys) (hl : ys.length ≤ big) (hxs : ∀ n ∈ xs, hasB ys n = false) (hv : SlV 1 KI w v xs) (h : CaF B1 b2 xss k w) :
    Calls Try.prog 20 #[v, .func (.func 24) #[] #[.pointer (some ⟨B1, 0, none⟩), .pointer (some ⟨b2, 0, none⟩)]] w fun e w' => e = .returned (.bool false) ∧ Below w.heap.size w w' := by
  have hv' := Lib.hid hv
  obtain ⟨A, c, rfl, _⟩ := hv
  go_enter Try.func20, Try.ntmps20
  go_wp2_with fail
  refine (caIndex xss ys B1 b2 k xs _ _ hk hl hxs hv'.out h).mono ?_
  rintro e w2 ⟨rfl, hb2⟩
  go_wp2
  go_ret
  exact ⟨rfl, hb2⟩
/-! ### The facts -/
theorem no_own {s : Site} {x : Spm} {l : List Em} (hv : Valid s x l) {i : Nat} {a : Em} (ha : l[i]? = some a) : hasB (rcsI s x l i) a.node = false := by
  rw [Bool.eq_false_iff]
  intro h
  have hm : a.node ∈ rcsI s x l i := by simpa [hasB] using h
  exact recv_own hv ha (rcs_mem.1 hm).2.2 rfl
theorem no_busy {s : Site} {x : Spm} {l : List Em} (hv : Valid s x l) {i k : Nat} {a b : Em} (ha : l[i]? = some a) (hb : l[k]? = some b) (ho : overB a b = true) : hasB (rcsI s x l i) b.node = false := by
  rw [Bool.eq_false_iff]
  intro h
  have hm : b.node ∈ rcsI s x l i := by simpa [hasB] using h
  exact recv_busy hv ha hb ho (rcs_mem.1 hm).2.2 rfl
theorem no_both {s : Site} {x : Spm} {l : List Em} (hv : Valid s x l) {i k : Nat} {a b : Em} (ha : l[i]? = some a) (hb : l[k]? = some b) (hik : i ≠ k) (ho : overB a b = true) (hc : a.ch = b.ch) : ∀ n ∈ rcsI s x l i, hasB (rcsI s x l k) n = false := by
  intro n hn
  rw [Bool.eq_false_iff]
  intro h
  have hm : n ∈ rcsI s x l k := by simpa [hasB] using h
  have := recv_once hv ha hb hik ho hc (rcs_mem.1 hn).2.2
  rw [(rcs_mem.1 hm).2.2] at this
  cases this
end Go.Proofs.Ytpbhoeaadnemhaa
