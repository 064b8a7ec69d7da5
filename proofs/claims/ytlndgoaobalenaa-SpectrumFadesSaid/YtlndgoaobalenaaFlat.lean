/- Rows as flat lists of cells: rows of the call's own that hold structs; a row copied. -/
import Derived.Test.YtlndgoaobalenaaApp
import Derived.Test.YtlndgoaobalenaaOpen
import Derived.Laws.Cover3
namespace Go.Proofs.Ytlndgoaobalenaa
open Go.RowKit
set_option linter.unusedVariables false
set_option linter.unusedSimpArgs false
/-- The cells of a list, one element behind the other. -/
def Flat {α : Type} (sz : Nat) (K : World → α → List Value → Prop) (w : World) (xs : List α) (cs : List Value) : Prop :=
  cs.length = xs.length * sz ∧ ∀ i x, xs[i]? = some x → ∃ l, K w x l ∧ ∀ j u, l[j]? = some u → cs[i * sz + j]? = some u
/-- An element has sz cells, each of which is one. -/
def Plain {α : Type} (sz : Nat) (K : World → α → List Value → Prop) : Prop := ∀ w x l, K w x l → l.length = sz ∧ ∀ u ∈ l, u.oneCell' = true
theorem KI.pl : Plain 1 KI := by rintro w x l rfl; exact ⟨rfl, by simp [Value.oneCell']⟩
theorem KPt.pl : Plain 2 KPt := by rintro w x l rfl; exact ⟨rfl, by simp [Value.oneCell']⟩
theorem KWl.pl : Plain 5 KWl := by rintro w x l rfl; exact ⟨rfl, by simp [Value.oneCell']⟩
theorem KFd.pl : Plain 6 KFd := by rintro w x l rfl; exact ⟨rfl, by simp [Value.oneCell']⟩
theorem KSrc.pl : Plain 7 KSrc := by
  rintro w x l ⟨v, rfl, A, c, rfl, _⟩
  exact ⟨rfl, by simp [Value.oneCell']⟩
theorem Flat.nil {α : Type} (sz : Nat) (K : World → α → List Value → Prop) (w : World) : Flat sz K w [] [] := ⟨by simp, fun i x h => by simp at h⟩
theorem Flat.mono {α : Type} {sz : Nat} {K : World → α → List Value → Prop} (hK : Stable K) {w w1 : World} {xs : List α} {cs : List Value} (h : Flat sz K w xs cs) (hb : Below w.heap.size w w1) : Flat sz K w1 xs cs :=
  ⟨h.1, fun i x hx => by obtain ⟨l, hl, hc⟩ := h.2 i x hx; exact ⟨l, hK _ _ _ _ hb hl, hc⟩⟩
theorem Flat.snoc {α : Type} {sz : Nat} {K : World → α → List Value → Prop} (hP : Plain sz K) {w : World} {xs : List α} {cs : List Value} (h : Flat sz K w xs cs) {x : α} {l : List Value} (hl : K w x l) : Flat sz K w (xs ++ [x]) (cs ++ l) := by
  refine ⟨by simp [h.1, (hP _ _ _ hl).1, Nat.add_mul], fun i y hy => ?_⟩
  rcases Nat.lt_trichotomy i xs.length with c | c | c
  · rw [List.getElem?_append_left c] at hy
    obtain ⟨l', hl', hc⟩ := h.2 i y hy
    refine ⟨l', hl', fun j u hu => ?_⟩
    have h1 := hc j u hu
    have h2 := (List.getElem?_eq_some_iff.1 h1).1
    rw [List.getElem?_append_left h2]
    exact h1
  · subst c
    rw [List.getElem?_append_right (Nat.le_refl _), Nat.sub_self] at hy
    obtain rfl : x = y := by simpa using hy
    refine ⟨l, hl, fun j u hu => ?_⟩
    rw [List.getElem?_append_right (by rw [h.1]; omega), h.1]
    rw [show xs.length * sz + j - xs.length * sz = j by omega]
    exact hu
  · rw [List.getElem?_eq_none (by simp; omega)] at hy
    cases hy
theorem Flat.one {α : Type} {sz : Nat} {K : World → α → List Value → Prop} {w : World} {cs : List Value} (hP : Plain sz K) (h : Flat sz K w [] cs) : cs = [] := List.eq_nil_of_length_eq_zero (by simpa using h.1)
theorem Flat.cells {α : Type} {sz : Nat} {K : World → α → List Value → Prop} (hP : Plain sz K) {w : World} {xs : List α} {cs : List Value} (h : Flat sz K w xs cs) : ∀ u ∈ cs, u.oneCell' = true := by
  intro u hu
  obtain ⟨k, hk, rfl⟩ := List.mem_iff_getElem.1 hu
  rcases Nat.eq_zero_or_pos sz with rfl | hsz
  · have := h.1
    simp at this
    subst this
    simp at hk
  have hkl := hk
  rw [h.1] at hkl
  have hi : k / sz < xs.length := Nat.div_lt_of_lt_mul (by rw [Nat.mul_comm]; exact hkl)
  obtain ⟨l, hl, hc⟩ := h.2 (k / sz) _ (List.getElem?_eq_getElem hi)
  obtain ⟨hll, hlo⟩ := hP _ _ _ hl
  have hm : k % sz < l.length := by rw [hll]; exact Nat.mod_lt _ hsz
  have h1 := hc (k % sz) _ (List.getElem?_eq_getElem hm)
  rw [Nat.div_add_mod' k sz, List.getElem?_eq_getElem hk] at h1
  have h2 := Option.some.inj h1
  rw [h2]
  exact hlo _ (List.getElem_mem hm)
/-- A row that reads as a list, as flat cells. -/
theorem Rw.flat {α : Type} {sz : Nat} {K : World → α → List Value → Prop} (hP : Plain sz K) {w : World} {b off : Nat} : ∀ {xs : List α}, Rw sz K w (some ⟨b, off, none⟩) xs → ∃ cs, Flat sz K w xs cs ∧ ∀ j u, cs[j]? = some u → w.cell? ⟨b, off + j, none⟩ = some u := by
  intro xs
  suffices hh : ∀ (n : Nat), n ≤ xs.length → (∀ i x, xs[i]? = some x → ∃ l, K w x l ∧ ∀ j u, l[j]? = some u → w.cell? ⟨b, off + i * sz + j, none⟩ = some u) → ∃ cs, Flat sz K w (xs.take n) cs ∧ ∀ j u, cs[j]? = some u → w.cell? ⟨b, off + j, none⟩ = some u by
    intro h
    by_cases hn : xs = []
    · subst hn
      exact ⟨[], Flat.nil _ _ _, fun j u h => by simp at h⟩
    · obtain ⟨b', off', e, hc⟩ := h hn
      cases e
      have := hh xs.length (Nat.le_refl _) hc
      rwa [List.take_length] at this
  intro n
  induction n with
  | zero => intro _ _; exact ⟨[], by simpa using Flat.nil sz K w, fun j u h => by simp at h⟩
  | succ n ih =>
    intro hn hc
    obtain ⟨cs, hf, hcs⟩ := ih (by omega) hc
    have hx : xs[n]? = some xs[n] := List.getElem?_eq_getElem (by omega)
    obtain ⟨l, hl, hlc⟩ := hc n _ hx
    refine ⟨cs ++ l, ?_, fun j u hu => ?_⟩
    · rw [List.take_add_one, hx]
      exact hf.snoc hP hl
    · have hcl : cs.length = n * sz := by rw [hf.1, List.length_take, Nat.min_eq_left (by omega)]
      rcases Nat.lt_or_ge j cs.length with c | c
      · rw [List.getElem?_append_left c] at hu
        exact hcs j u hu
      · rw [List.getElem?_append_right c, hcl] at hu
        have := hlc _ _ hu
        rw [show off + n * sz + (j - n * sz) = off + j by omega] at this
        exact this
/-- A row of the call's own reads as its list. -/
theorem own_sl2 {α : Type} {sz : Nat} {K : World → α → List Value → Prop} (hP : Plain sz K) {w : World} {base : Nat} {e : TypeId} {v : Value} {xs : List α} {cs : List Value} (h : w.ownsRow base e sz v xs.length cs) (hf : Flat sz K w xs cs) (hl : xs.length ≤ big) : SlV sz K w v xs := by
  rcases h.2 with ⟨rfl, h0⟩ | ⟨g, cap, cur, rfl, _, _, h1, _, _⟩
  · obtain rfl : xs = [] := List.eq_nil_of_length_eq_zero h0
    exact ⟨none, 0, rfl, Nat.le_refl _, Nat.zero_le _, fun h => absurd rfl h⟩
  · refine ⟨_, cap, rfl, h1, hl, fun _ => ⟨g, 0, rfl, fun i x hx => ?_⟩⟩
    obtain ⟨l, hk, hc⟩ := hf.2 i x hx
    refine ⟨l, hk, fun j u hu => ?_⟩
    have := h.cells (g := g) rfl (i * sz + j) u (hc j u hu)
    rw [Go.WideShapes.add_plain] at this
    simpa using this
/-- A slice held against nil. -/
theorem eql_nil {P : Program} (w : World) (t e : TypeId) (a : Option Addr) (l c : Nat) (h : P.underlying t = some (.slice e)) : (binOp .eql t (.slice a l c) (.slice none 0 0)).run P w = .ok (.bool a.isNone) w := by
  simp only [binOp]
  simp [run_equal_slice_nil w t e a l c h]
/-- append(v, u...): behind 'at_builtin'. -/
theorem append_cells {P : Program} {ops : Array Oper} {rest : List Oper} {o : Oper} {a : Act} {Q : Exit → Act → World → Prop} {w0 W : World} (base : Nat) (hgd : o.guard = none) (s x : Operand) (t e : TypeId)
    (ho : o.op = .call { callee := .builtin .append, args := #[s, x], argTypes := #[t, t] })
    (ht : P.underlying t = some (.slice e)) {z : Value} {sz bytes : Nat} (hinfo : (P.info? e).map (fun i => (i.zero, i.size, i.bytes)) = some (some z, sz, bytes)) (hzs : z.cells.size = sz) (hsz : 0 < sz)
    (v : Value) (n : Nat) (xs : List Value) (hs : a.eval s = v) (ad : Addr) (m c : Nat) (news : List Value) (hx : a.eval x = .slice (some ad) m c) (hl : news.length = m * sz) (hnews : ∀ j u, news[j]? = some u → W.cell? (ad.add j) = some u) (h1 : ∀ u ∈ news, u.oneCell' = true)
    (HO : W.ownsRow base e sz v n xs) (HB : Below base w0 W) (hbase : base ≤ W.heap.size) (h63 : n + m ≤ maxLen) (hbytes : (n + m) * bytes ≤ 140737488355328)
    (h : ∀ v1 w1, w1.ownsRow base e sz v1 (n + m) (xs ++ news) → Below base w0 w1 → W.grownBy w1 v.ownBlock → (v1.ownBlock = v.ownBlock ∨ ∃ b, v1.ownBlock = some b ∧ W.heap.size ≤ b) → wpList P ops Q rest (a.put o.dst v1) w1) :
    wpList P ops Q (o :: rest) a W := by
  obtain ⟨i0, hi, hzz⟩ := Option.map_eq_some_iff.1 hinfo
  simp only [Prod.mk.injEq] at hzz
  obtain ⟨hz0, hz1, hz2⟩ := hzz
  refine wpList_append_own_at W hgd s x t ho base e i0 z sz bytes ht hi hz0 hz1 hz2 hzs hsz v n xs hs HO ad m c news hx hl hnews h1 h63 hbytes hbase ?_
  intro v1 w1 hown hg _ hat
  refine h v1 w1 hown (HB.grown hg hbase (own_base HO)) hg ?_
  rcases hat with hat | hat
  · exact .inl hat
  · exact .inr ⟨_, hat, Nat.le_refl _⟩
/-- .. at a step of a region that draws its order. -/
theorem step_append_cells {P : Program} {ops : Array Oper} {o : Oper} {a : Act} {K : Act → World → Prop} {Q : Exit → Act → World → Prop} {E : Prop} {W : World} (base : Nat) (hgd : o.guard = none) (s x : Operand) (t e : TypeId)
    (ho : o.op = .call { callee := .builtin .append, args := #[s, x], argTypes := #[t, t] })
    (ht : P.underlying t = some (.slice e)) {z : Value} {sz bytes : Nat} (hinfo : (P.info? e).map (fun i => (i.zero, i.size, i.bytes)) = some (some z, sz, bytes)) (hzs : z.cells.size = sz) (hsz : 0 < sz)
    (v : Value) (n : Nat) (xs : List Value) (hs : a.eval s = v) (ad : Addr) (m c : Nat) (news : List Value) (hx : a.eval x = .slice (some ad) m c) (hl : news.length = m * sz) (hnews : ∀ j u, news[j]? = some u → W.cell? (ad.add j) = some u) (h1 : ∀ u ∈ news, u.oneCell' = true) (hm : 0 < m)
    (HO : W.ownsRow base e sz v n xs) (hbase : base ≤ W.heap.size) (h63 : n + m ≤ maxLen) (hbytes : (n + m) * bytes ≤ 140737488355328)
    (h : ∀ g cap w1, w1.ownsRow base e sz (.slice (some ⟨g, 0, none⟩) (n + m) cap) (n + m) (xs ++ news) → (∀ b0 w0, b0 ≤ base → b0 ≤ W.heap.size → Below b0 w0 W → Below b0 w0 w1) → K (a.put o.dst (.slice (some ⟨g, 0, none⟩) (n + m) cap)) w1) :
    if Region.wanted o (yielded ops a.tmps) = true then Oper.wp P o a W K Q else E := by
  obtain ⟨i0, hi, hzz⟩ := Option.map_eq_some_iff.1 hinfo
  simp only [Prod.mk.injEq] at hzz
  obtain ⟨hz0, hz1, hz2⟩ := hzz
  refine step_append_lies W hgd s x t ho base e i0 z sz bytes ht hi hz0 hz1 hz2 hzs hsz v n xs hs HO ad m c news hx hl hnews h1 hm h63 hbytes hbase _ rfl ?_
  intro g cap w1 hown hg _ _
  exact h g cap w1 hown fun b0 w0 h0 h2 hb => hb.grown hg h2 fun k hk => Nat.le_trans h0 (own_base HO k hk)
end Go.Proofs.Ytlndgoaobalenaa
