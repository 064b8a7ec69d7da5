/- Ranging over a function: worlds that keep all but one block. -/
import Derived.Test.YtlndgoaobalenaaBase
import Derived.RangeFuncNested
import Derived.RangeFuncBound
import Derived.RangeFuncCalls
import Derived.RangeFuncLeaves
import Derived.RangeFuncBox
import Derived.Shelf.Abstract
import Derived.Shelf.RegionOpen
import Derived.OwnWalkIn
import Derived.TacticsInMore
import Derived.LoopNIn
import Derived.LoopIn
import Derived.Maps.AppendAt
import Derived.Deep.AppendLies
namespace Go.Proofs.Ytlndgoaobalenaa
open Go.RowKit
set_option linter.unusedVariables false
/-- Below n all but block B is as it was. -/
structure Bbt (n B : Nat) (w w' : World) : Prop where
  os : w'.os = w.os
  tape : w'.tape = w.tape
  output : w'.output = w.output
  size : w.heap.size ≤ w'.heap.size
  block : ∀ k, k < n → k ≠ B → w'.heap[k]? = w.heap[k]?
theorem Bbt.refl (n B : Nat) (w : World) : Bbt n B w w := ⟨rfl, rfl, rfl, Nat.le_refl _, fun _ _ _ => rfl⟩
theorem Bbt.trans {n B : Nat} {a b c : World} (h : Bbt n B a b) (k : Bbt n B b c) : Bbt n B a c :=
  ⟨k.os.trans h.os, k.tape.trans h.tape, k.output.trans h.output, Nat.le_trans h.size k.size, fun i hi hb => (k.block i hi hb).trans (h.block i hi hb)⟩
theorem Bbt.of_below {n B : Nat} {w w' : World} (h : Below n w w') : Bbt n B w w' := ⟨h.os, h.tape, h.output, h.size, fun k hk _ => h.block k hk⟩
theorem Bbt.below {n B m : Nat} {w w' : World} (h : Bbt n B w w') (hm : m ≤ n) (hB : m ≤ B) : Below m w w' := ⟨h.os, h.tape, h.output, h.size, fun k hk => h.block k (by omega) (by omega)⟩
theorem Bbt.setCell (n B : Nat) (w : World) (v : Value) : Bbt n B w (w.setCell ⟨B, 0, none⟩ v) :=
  ⟨rfl, rfl, rfl, by simp [World.setCell], fun k _ hb => Below.heap_setCell _ _ _ _ hb⟩
theorem Bbt.cell {n B : Nat} {w w' : World} (h : Bbt n B w w') {p : Addr} (hp : p.block < n) (hb : p.block ≠ B) : w'.cell? p = w.cell? p := World.cell?_of_block (w := w) (h.block p.block hp hb)
theorem Bbt.heap {n B : Nat} {w w' : World} (h : Bbt n B w w') {k : Nat} (hp : k < n) (hb : k ≠ B) : w'.heap[k]? = w.heap[k]? := h.block k hp hb
theorem bbt_t {n B : Nat} {X Y Z : World} (h : Bbt n B X Y) (k : Bbt n B Y Z) : Bbt n B X Z := h.trans k
theorem bbt_b {n B : Nat} {w : World} (hn : n ≤ w.heap.size) (W : World) (l : Nat) (o o' : Obj) (hl : w.heap.size ≤ l) (h : W.heap[l]? = some o) (h1 : o.isCells = false) (h2 : o.isWalk = false) : Bbt n B W (W.putObj l o') :=
  .of_below (belowK_b hn W l o o' hl h h1 h2)
theorem grown_below {w w1 : World} (h : Below w.heap.size w w1) (row : Option Nat) : w.grownBy w1 row := ⟨h.os, h.tape, h.output, h.size, fun i hi _ => h.block i hi⟩
/-- Old memory untouched: whatever is no cells lies as it lay. -/
theorem keeps_below {w w1 : World} (h : Below w.heap.size w w1) : KeepsOthers w w1 := ⟨h.size, fun k o hk _ => (h.block k (Array.getElem?_eq_some_iff.1 hk).1).trans hk⟩
theorem ownFrom_bbt {β : Type} {n B b0 : Nat} {w₀ : World} (hn : n ≤ w₀.heap.size) (hB : n ≤ b0) : OwnFrom b0 (fun (_ : β) W => Bbt n B w₀ W) := by
  intro s W W' row hs hg hr
  refine hs.trans ⟨hg.os, hg.tape, hg.output, hg.size, fun k hk _ => ?_⟩
  refine hg.block k (Nat.lt_of_lt_of_le hk (Nat.le_trans hn hs.size)) (fun e => ?_)
  have := (hr k e.symm).1
  omega
/-! ### Several ranges over a function in one call: their marks -/
def mark (D : Nat) : Deferred := { target := .collected D, args := #[] }
structure Byt (Ds : List Nat) (w w' : World) : Prop where
  os : w'.os = w.os
  tape : w'.tape = w.tape
  output : w'.output = w.output
  size : w.heap.size ≤ w'.heap.size
  block : ∀ k, k ∉ Ds → w'.heap[k]? = w.heap[k]?
theorem Byt.below {Ds : List Nat} {w w' : World} (h : Byt Ds w w') {n : Nat} (hn : ∀ D, D ∈ Ds → n ≤ D) : Below n w w' :=
  ⟨h.os, h.tape, h.output, h.size, fun k hk => h.block k (fun hm => by have := hn k hm; omega)⟩
theorem leaves_marks {F : Fence} {n : Nat} {P : Program} {fn : Func} {tmps : Array Value} {R : Ending → World → Prop} : ∀ (Ds : List Nat) (W : World), Ds.Nodup → (∀ D, D ∈ Ds → W.heap[D]? = some (.deferred (some []))) →
    (∀ W', Byt Ds W W' → ∃ v, (results fn tmps).run P W' = .ok v W' ∧ R (.returned v) W') → LeavesInM F n P fn tmps R (Ds.map mark) .returning W
  | [], W, _, _, h => h W ⟨rfl, rfl, rfl, Nat.le_refl _, fun _ _ => rfl⟩
  | D :: Ds, W, hn, hm, h => by
    obtain ⟨hD, hn'⟩ := List.nodup_cons.1 hn
    refine ⟨by simp, .inl ⟨D, W.putObj D (.deferred none), rfl, run_takeDeferred (hm D (List.mem_cons_self ..)), ?_⟩⟩
    have hg := grownBy_putObj' W D (.deferred none)
    refine leaves_marks Ds _ hn' (fun E hE => ?_) (fun W' hW' => h W' ?_)
    · rw [World.putObj_heap_other (fun e => hD (by rw [← e]; exact hE))]
      exact hm E (List.mem_cons_of_mem _ hE)
    · refine ⟨hW'.os.trans hg.os, hW'.tape.trans hg.tape, hW'.output.trans hg.output, Nat.le_trans hg.size hW'.size, fun k hk => ?_⟩
      rw [List.mem_cons, not_or] at hk
      rw [hW'.block k hk.2]
      exact World.putObj_heap_other hk.1
/-! ### A row of numbers of the call's own -/
theorem own_nil (W : World) (base : Nat) (e : TypeId) (size : Nat) : W.ownsRow base e size (.slice none 0 0) 0 [] := ⟨by simp, .inl ⟨rfl, rfl⟩⟩
theorem own_base {w : World} {base : Nat} {e : TypeId} {size n : Nat} {v : Value} {xs : List Value} (h : w.ownsRow base e size v n xs) (k : Nat) (hk : v.ownBlock = some k) : base ≤ k := by
  rcases h.2 with ⟨rfl, _⟩ | ⟨g, cap, cur, rfl, hb, _⟩
  · simp [Value.ownBlock] at hk
  · have : g = k := by simpa [Value.ownBlock] using hk
    omega
theorem own_lt {w : World} {base : Nat} {e : TypeId} {size n : Nat} {v : Value} {xs : List Value} (h : w.ownsRow base e size v n xs) (k : Nat) (hk : v.ownBlock = some k) : k < w.heap.size := by
  rcases h.2 with ⟨rfl, _⟩ | ⟨g, cap, cur, rfl, hb, hh, _⟩
  · simp [Value.ownBlock] at hk
  · have : g = k := by simpa [Value.ownBlock] using hk
    subst this
    exact (Array.getElem?_eq_some_iff.1 hh).1
theorem own_slice {w : World} {base n : Nat} {e : TypeId} {size : Nat} {v : Value} {xs : List Value} (h : w.ownsRow base e size v n xs) : ∃ A c, v = .slice A n c := by
  rcases h.2 with ⟨rfl, rfl⟩ | ⟨g, cap, cur, rfl, _⟩
  · exact ⟨none, 0, rfl⟩
  · exact ⟨_, cap, rfl⟩
theorem own_mark {w : World} {base n : Nat} {e : TypeId} {size : Nat} {v : Value} {xs : List Value} (h : w.ownsRow base e size v n xs) {D : Nat} {d : Option (List Deferred)} (hD : w.heap[D]? = some (.deferred d)) : ¬ some D = v.ownBlock := by
  rcases h.2 with ⟨rfl, rfl⟩ | ⟨g, cap, cur, rfl, _, hh, _⟩
  · simp [Value.ownBlock]
  · intro e
    have e' : D = g := by simpa [Value.ownBlock] using e
    rw [e', hh] at hD
    cases hD
theorem own_below {w w1 : World} {base n : Nat} {e : TypeId} {size : Nat} {v : Value} {xs : List Value} (h : w.ownsRow base e size v n xs) (hb : Below w.heap.size w w1) : w1.ownsRow base e size v n xs :=
  h.kept (grown_below hb none) (by cases v.ownBlock <;> simp)
theorem emp_all {α : Type} (p : α → Bool) (l : List α) : (l.filter p).isEmpty = l.all fun s => !p s := by
  induction l with
  | nil => rfl
  | cons x l ih => by_cases h : p x = true <;> simp_all
/-- A row of the call's own reads as its list. -/
theorem own_sl {w : World} {base : Nat} {e : TypeId} {v : Value} {xs : List Int} (h : w.ownsRow base e 1 v xs.length (xs.map (Value.int .i64))) (hl : xs.length ≤ big) : SlV 1 KI w v xs := by
  rcases h.2 with ⟨rfl, h0⟩ | ⟨g, cap, cur, rfl, _, _, h1, _, _⟩
  · obtain rfl : xs = [] := List.eq_nil_of_length_eq_zero h0
    exact ⟨none, 0, rfl, Nat.le_refl _, Nat.zero_le _, fun h => absurd rfl h⟩
  · refine ⟨_, cap, rfl, h1, hl, fun _ => ⟨g, 0, rfl, fun i x hx => ⟨_, rfl, fun j u hu => ?_⟩⟩⟩
    have hj : j = 0 ∧ u = .int .i64 x := by
      cases j with
      | zero => exact ⟨rfl, by simpa using hu.symm⟩
      | succ j => simp at hu
    obtain ⟨rfl, rfl⟩ := hj
    have := h.cells (g := g) rfl i (.int .i64 x) (by simp [hx])
    rw [Go.WideShapes.add_plain] at this
    simpa using this
theorem sl_byt {Ds : List Nat} {W W' : World} {v : Value} {xs : List Int} (h : SlV 1 KI W v xs) (hb : Byt Ds W W') (hm : ∀ D, D ∈ Ds → W.heap[D]? = some (.deferred (some []))) : SlV 1 KI W' v xs := by
  obtain ⟨A, c, e, h1, h2, h3⟩ := h
  refine ⟨A, c, e, h1, h2, fun hne => ?_⟩
  obtain ⟨b, off, e2, hc⟩ := h3 hne
  refine ⟨b, off, e2, fun i x hx => ?_⟩
  obtain ⟨l, hl, hcl⟩ := hc i x hx
  refine ⟨l, hl, fun j u hu => ?_⟩
  have hk := hcl j u hu
  have hb2 : W'.heap[b]? = W.heap[b]? := hb.block b (fun hD => by
    have := hm b hD
    simp [World.cell?, this] at hk)
  exact (World.cell?_of_block (w := W) hb2).trans hk
/-- append(v, y), a number: behind 'at_builtin'; the world is 'W.alloc' of the variadic's box. -/
theorem append_num {P : Program} {ops : Array Oper} {rest : List Oper} {o : Oper} {a : Act} {Q : Exit → Act → World → Prop} {w0 W : World} (base : Nat) (hgd : o.guard = none) (s x : Operand) (t e : TypeId)
    (ho : o.op = .call { callee := .builtin .append, args := #[s, x], argTypes := #[t, t] })
    (ht : P.underlying t = some (.slice e)) (hinfo : (P.info? e).map (fun i => (i.zero, i.size, i.bytes)) = some (some (.int .i64 0), 1, 8))
    (v : Value) (xs : List Int) (y : Int) (hs : a.eval s = v) (hx : a.eval x = .slice (some ⟨W.heap.size, 0, none⟩) 1 1)
    (HO : W.ownsRow base e 1 v xs.length (xs.map (Value.int .i64))) (HB : Below base w0 W) (hbase : base ≤ W.heap.size) (hl : (xs.length + 1) * 8 ≤ 140737488355328)
    (h : ∀ v1 w1, w1.ownsRow base e 1 v1 (xs ++ [y]).length ((xs ++ [y]).map (Value.int .i64)) → Below base w0 w1 → W.grownBy w1 v.ownBlock → (v1.ownBlock = v.ownBlock ∨ ∃ b, v1.ownBlock = some b ∧ W.heap.size ≤ b) → wpList P ops Q rest (a.put o.dst v1) w1) :
    wpList P ops Q (o :: rest) a (W.alloc (.cells #[.int .i64 y] e)) := by
  obtain ⟨i0, hi, hzz⟩ := Option.map_eq_some_iff.1 hinfo
  simp only [Prod.mk.injEq] at hzz
  obtain ⟨hz0, hz1, hz2⟩ := hzz
  refine wpList_append_own_at (W.alloc (.cells #[.int .i64 y] e)) hgd s x t ho base e i0 (.int .i64 0) 1 8 ht hi hz0 hz1 hz2 rfl (by omega) v xs.length _ hs (HO.alloc _) ⟨W.heap.size, 0, none⟩ 1 1 [.int .i64 y] hx rfl
    (World.news_of_block (cs := #[.int .i64 y]) (t := e) (fr := (0, 0)) (heap_alloc_new W _)) (by simp [Value.oneCell']) (by simp only [maxLen]; omega) hl (by simp; omega) ?_
  intro v1 w1 hown hg _ hat
  refine h v1 w1 (by simpa using hown) ((HB.alloc hbase _).grown hg (by simp; omega) (own_base HO)) (World.grownBy.trans (World.grownBy_alloc W _ _) hg) ?_
  rcases hat with hat | hat
  · exact .inl hat
  · exact .inr ⟨_, hat, by simp⟩
end Go.Proofs.Ytlndgoaobalenaa
