/- What came in, opened by its types: whole numbers, structs and slices read as plain data. -/
import Derived.Test.YtlndgoaobalenaaBase
import Derived.WalkKit
import Derived.ProofKit
import Derived.OpenShut
import Derived.ChangeOld
import Derived.Below
import Derived.SizedLaws
namespace Go.Proofs.Ytlndgoaobalenaa
open Go.RowKit Go.ChangeShapes Go.WideShapes
set_option linter.unusedVariables false
set_option linter.unusedSimpArgs false
set_option maxRecDepth 100000
def okW (l : List Nat) : Prop := l.all (· ≤ reachBytes) = true
theorem okW_append {a b : List Nat} : okW (a ++ b) ↔ okW a ∧ okW b := by simp only [okW, List.all_append, Bool.and_eq_true]
theorem okW_each {H : Type} {P : Program} : ∀ {ts : List TypeId} {ds : List (DataW H)}, okW (DataW.weightsEach P ts ds) → ∀ (i : Nat) t d, ts[i]? = some t → ds[i]? = some d → okW (DataW.weights P t d)
  | [], _, _, i, _, _, h, _ => by simp at h
  | _ :: _, [], _, i, _, _, _, h => by simp at h
  | t :: ts, d :: ds, hw, i, t', d', h1, h2 => by
    rw [DataW.weightsEach, okW_append] at hw
    rcases i with _ | i
    · simp at h1 h2
      subst h1 h2
      exact hw.1
    · exact okW_each hw.2 i t' d' (by simpa using h1) (by simpa using h2)
theorem okW_all {H : Type} {P : Program} {e : TypeId} : ∀ {ds : List (DataW H)}, okW (DataW.weightsAll P e ds) → ∀ (i : Nat) d, ds[i]? = some d → okW (DataW.weights P e d)
  | [], _, i, _, h => by simp at h
  | d :: ds, hw, i, d', h2 => by
    rw [DataW.weightsAll, okW_append] at hw
    rcases i with _ | i
    · simp at h2
      subst h2
      exact hw.1
    · exact okW_all hw.2 i d' (by simpa using h2)
/-- A type's cells read as plain data. -/
def Opens {α : Type} (P : Program) (K : World → α → List Value → Prop) (t : TypeId) : Prop :=
  ∀ (H : Type) (enc : TypeId × Value → H) (w : World) (fuel : Nat) (cs : List Value) (x : DataW H × List MemPlace), DataW.trod enc P w 0 (fun _ => true) true fuel t cs = some x → okW (DataW.weights P t x.1) → ∃ a, K w a cs
theorem opens_int {P : Program} {t : TypeId} (ht : P.underlying t = some (.int .i64)) : Opens P KI t := by
  intro H enc w fuel cs x h _
  obtain ⟨n, rfl, _, _⟩ := DataW.trod_int ht h
  exact ⟨n, rfl⟩
theorem trod_fields {P : Program} {t : TypeId} {fs : Array Field} {H : Type} {enc : TypeId × Value → H} {w : World} {fuel : Nat} {cs : List Value} {x : DataW H × List MemPlace} (ht : P.underlying t = some (.struct fs))
    (h : DataW.trod enc P w 0 (fun _ => true) true fuel t cs = some x) (hw : okW (DataW.weights P t x.1)) :
    cs.length = P.cellsOf t ∧ ∀ (i : Nat) (f : Field), fs[i]? = some f → ∃ n y, DataW.trod enc P w 0 (fun _ => true) true n f.type ((cs.drop f.offset).take (P.cellsOf f.type)) = some y ∧ okW (DataW.weights P f.type y.1) := by
  obtain ⟨xs, n, rfl, rfl, hl, hn, hf⟩ := DataW.trod_struct ht h
  refine ⟨hl, fun i f hi => ?_⟩
  have hlt : i < xs.length := by
    rw [hn]
    exact (Array.getElem?_eq_some_iff.1 hi).1
  have e := hf i f hi
  rw [List.getElem?_eq_getElem hlt] at e
  refine ⟨n, _, e, ?_⟩
  simp only [DataW.weights, ht] at hw
  exact okW_each hw i _ _ (by simp [hi]) (by simp [hlt])
theorem trod_items {P : Program} {t e : TypeId} {m : Nat} {H : Type} {enc : TypeId × Value → H} {w : World} {fuel : Nat} {cs : List Value} {x : DataW H × List MemPlace} (ht : P.underlying t = some (.array m e))
    (h : DataW.trod enc P w 0 (fun _ => true) true fuel t cs = some x) (hw : okW (DataW.weights P t x.1)) :
    cs.length = P.cellsOf t ∧ ∀ (i : Nat), i < m → ∃ n y, DataW.trod enc P w 0 (fun _ => true) true n e ((cs.drop (i * P.cellsOf e)).take (P.cellsOf e)) = some y ∧ okW (DataW.weights P e y.1) := by
  obtain ⟨xs, n, rfl, rfl, hl, hn, hf⟩ := DataW.trod_array ht h
  refine ⟨hl, fun i hi => ?_⟩
  have hlt : i < xs.length := by omega
  have e := hf i hi
  rw [List.getElem?_eq_getElem hlt] at e
  refine ⟨n, _, e, ?_⟩
  simp only [DataW.weights, ht] at hw
  exact okW_all hw i _ (by simp [hlt])
theorem pick_list {α : Type} {p : Nat → α → Prop} : ∀ n, (∀ i, i < n → ∃ a, p i a) → ∃ xs : List α, xs.length = n ∧ ∀ i x, xs[i]? = some x → p i x
  | 0, _ => ⟨[], rfl, fun i x h => by simp at h⟩
  | n + 1, h => by
    obtain ⟨xs, hl, hp⟩ := pick_list n fun i hi => h i (by omega)
    obtain ⟨a, ha⟩ := h n (by omega)
    refine ⟨xs ++ [a], by simp [hl], fun i x hx => ?_⟩
    rcases Nat.lt_or_ge i xs.length with c | c
    · rw [List.getElem?_append_left c] at hx
      exact hp i x hx
    · rw [List.getElem?_append_right c] at hx
      have : i - xs.length = 0 := by
        rcases hd : i - xs.length with _ | k
        · rfl
        · rw [hd] at hx
          simp at hx
      rw [this] at hx
      obtain rfl : a = x := by simpa using hx
      obtain rfl : i = n := by omega
      exact ha
theorem add_add {a : Addr} (h : a.spot = none) (m n : Nat) : (a.add m).add n = ⟨a.block, a.off + m + n, none⟩ := by
  obtain ⟨b, o, s⟩ := a
  simp only at h
  subst h
  unfold Addr.add
  by_cases c : m = 0 <;> by_cases d : n = 0 <;> simp [c, d]
theorem cell_spot {w : World} {a : Addr} {v : Value} (h : w.cell? a = some v) : a.spot = none := by
  unfold World.cell? at h
  split at h
  · split at h
    · cases h
    · rename_i c
      simpa using c
  · cases h
def KSl {α : Type} (sz : Nat) (K : World → α → List Value → Prop) (w : World) (xs : List α) (l : List Value) : Prop := ∃ v, l = [v] ∧ SlV sz K w v xs
theorem opens_slice {α : Type} {P : Program} {K : World → α → List Value → Prop} {t e : TypeId} {sz : Nat} (hO : Opens P K e) (ht : P.underlying t = some (.slice e)) (hs : P.cellsOf e = sz) (hp : 0 < sz) (hB : 0 < P.bytesOf e) : Opens P (KSl sz K) t := by
  intro H enc w fuel cs x h hw
  rcases DataW.trod_slice ht h with ⟨rfl, rfl⟩ | ⟨a, len, cap, elems, rest, n, rfl, rfl, rfl, _, hl, hm, hn, hel, _, _⟩
  · exact ⟨[], _, rfl, none, 0, rfl, Nat.le_refl _, Nat.zero_le _, fun h => absurd rfl h⟩
  · simp only [DataW.weights, ht] at hw
    have hw1 : okW [((elems.map (·.1)).length + (rest.map (·.1)).length) * P.bytesOf e] ∧ okW (DataW.weightsAll P e (elems.map (·.1)) ++ DataW.weightsAll P e (rest.map (·.1))) := okW_append.1 (by simpa using hw)
    have hw2 := (okW_append.1 hw1.2).1
    have hbig : len ≤ big := by
      have hz := hw1.1
      simp only [okW, List.all_cons, List.all_nil, Bool.and_true, decide_eq_true_eq, List.length_map] at hz
      have h1 : len * 1 ≤ (elems.length + rest.length) * P.bytesOf e := Nat.mul_le_mul (by omega) hB
      unfold reachBytes at hz
      unfold big
      omega
    have hall : ∀ i, i < len → ∃ a', ∃ l, K w a' l ∧ l.length = sz ∧ ∀ j, j < sz → w.cell? ((a.add (i * sz)).add j) = l[j]? := by
      intro i hi
      have e1 := hel i hi
      rw [List.getElem?_eq_getElem (show i < elems.length by omega), hs] at e1
      obtain ⟨cs', c1, c2⟩ := Option.bind_eq_some_iff.1 e1
      obtain ⟨_, c3, c4⟩ := World.cells?_some c1
      obtain ⟨a', ha⟩ := hO H enc w n cs' _ c2 (okW_all hw2 i _ (by simp [show i < elems.length by omega]))
      exact ⟨a', cs', ha, c3, c4⟩
    obtain ⟨xs, hxl, hxs⟩ := pick_list len hall
    subst hxl
    refine ⟨xs, _, rfl, some a, cap, rfl, hl, hbig, fun hne => ?_⟩
    have hpos : 0 < xs.length := List.length_pos_iff.2 hne
    have hspot : a.spot = none := by
      obtain ⟨_, l, _, hll, hc⟩ := hall 0 hpos
      have e1 := hc 0 hp
      rw [List.getElem?_eq_getElem (show 0 < l.length by omega), Nat.zero_mul] at e1
      have := cell_spot e1
      simpa [Addr.add] using this
    refine ⟨a.block, a.off, ?_, fun i x hx => ?_⟩
    · obtain ⟨b, o, s⟩ := a
      simp only at hspot
      subst hspot
      rfl
    · obtain ⟨l, hk, hll, hc⟩ := hxs i x hx
      refine ⟨l, hk, fun j u hu => ?_⟩
      have hj : j < sz := by
        rw [← hll]
        exact (List.getElem?_eq_some_iff.1 hu).1
      rw [← hu, ← hc j hj, add_add hspot]
end Go.Proofs.Ytlndgoaobalenaa
