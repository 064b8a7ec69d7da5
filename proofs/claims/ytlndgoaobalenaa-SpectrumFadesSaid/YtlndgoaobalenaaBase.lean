/- The base of the walks: the data types of the program as plain structures, how they lie in memory, and small facts on worlds. -/
import Derived.Test.YtlndgoaobalenaaProg
import Derived.WalkKit
import Derived.Below
import Derived.Deep.Draws
import Derived.Deep.QuietTactic
import Derived.BigQuiet
import Derived.KernelRfl
import Derived.RowKit3
import Derived.WalkSpells
import Derived.WalkLawsBesides
import Derived.Lib.Hide
import Derived.Outline
import Derived.WideShapes
namespace Go.Proofs.Ytlndgoaobalenaa
open Go.RowKit

/-! ### Endings and worlds -/
theorem ret_int {k : IntKind} {a b : Int} (h : a = b) : Ending.returned (.int k a) = .returned (.int k b) := by rw [h]
theorem ret_bool {a b : Bool} (h : a = b) : Ending.returned (.bool a) = .returned (.bool b) := by rw [h]
theorem ret_two {a b c d : Value} (h : a = c) (k : b = d) : Ending.returned (.tuple #[a, b]) = .returned (.tuple #[c, d]) := by rw [h, k]
theorem b_alloc {w W : World} (h : Below w.heap.size w W) (o : Obj) : Below w.heap.size w (W.alloc o) := h.alloc h.size o
theorem b_drew {B : Nat} {w W : World} (h : Below B w W) : Below B w W.drew := ⟨h.os, h.tape, h.output, h.size, h.block⟩
theorem b_drewN {B : Nat} {w W : World} (h : Below B w W) (n : Nat) : Below B w (W.drewN n) := ⟨h.os, h.tape, h.output, h.size, h.block⟩
theorem b_then {w w1 w2 : World} (h : Below w.heap.size w w1) (k : Below w1.heap.size w1 w2) : Below w.heap.size w w2 := h.trans (k.mono h.size)
theorem bcell {W w1 : World} (hb : Below W.heap.size W w1) : (∀ b o, b < W.heap.size → w1.cell? ⟨b, o, none⟩ = W.cell? ⟨b, o, none⟩) ∧ (∀ b o, b < W.heap.size → w1.frozen? ⟨b, o, none⟩ = W.frozen? ⟨b, o, none⟩) :=
  ⟨fun b o h => hb.cell (p := ⟨b, o, none⟩) h, fun b o h => hb.frozen (p := ⟨b, o, none⟩) h⟩
theorem cell_mono {w w1 : World} (h : Below w.heap.size w w1) {a : Addr} {v : Value} (hc : w.cell? a = some v) : w1.cell? a = some v := (h.cell (World.block_lt_of_cell? w a hc)).trans hc

/-- A block laid in w still reads as it was laid. -/
theorem box_at {w W1 wr : World} {cs : Array Value} {t : TypeId} (hbw : Below W1.heap.size W1 wr) (hW : W1 = w.alloc (.cells cs t)) (j : Nat) {u : Value} (hu : cs[j]? = some u) : wr.cell? ⟨w.heap.size, j, none⟩ = some u := by
  subst hW
  rw [hbw.cell (by simp)]
  exact (cell_of_row _ _ j cs t (0, 0) (heap_alloc_new w _)).trans hu

/-! ### A region that draws its order, whose operations read and whose callees leave old memory as it was: one walk, in the order of the text -/
structure Later (w : World) where
  W : World
  below : Below w.heap.size w W
instance (w : World) : Inhabited (Later w) := ⟨⟨w, Below.refl _ _⟩⟩
theorem Later.cell {w : World} {a : Addr} {v : Value} (h : w.cell? a = some v) : ∀ x : Later w, x.W.cell? a = some v := fun x => cell_mono x.below h
theorem wp_region_later {P : Program} {id : Nat} {Q : Exit → Act → World → Prop} {a : Act} {w : World} {l : List Oper} (hm : P.follows .mixedOrders = true) (hB : Region.lexB .any l.toArray = true)
    (h : wpQuiet P l.toArray (fun w' => ∃ x : Later w, w' = x.W) (fun a' => ∀ w', (∃ x : Later w, w' = x.W) → Q .normal a' w') l a) : (Code.region id l.toArray true).wp P Q a w :=
  wp_region_quiet (C := fun w' => ∃ x : Later w, w' = x.W) hm hB ⟨⟨w.drew, b_drew (Below.refl _ _)⟩, rfl⟩ (by simpa using h)
theorem later_of {P : Program} {f : FuncId} {args : Array Value} {w : World} {x : Later w} {v : Value} (h : Calls P f args x.W fun e w' => e = .returned v ∧ Below x.W.heap.size x.W w') :
    Calls P f args x.W fun e w'' => e = .returned v ∧ ∃ y : Later w, w'' = y.W := h.mono fun _ w' ⟨he, hb⟩ => ⟨he, ⟨w', b_then x.below hb⟩, rfl⟩
theorem later_same {P : Program} {f : FuncId} {args : Array Value} {w : World} {x : Later w} {v : Value} (h : Calls P f args x.W fun e w' => e = .returned v ∧ x.W = w') :
    Calls P f args x.W fun e w'' => e = .returned v ∧ ∃ y : Later w, w'' = y.W := h.mono fun _ _ ⟨he, hb⟩ => ⟨he, x, hb.symm⟩

/-! ### min and max -/
theorem max2_mx (k k' : IntKind) (x y : Int) : Builtin.max2 (.int k x) (.int k' y) = pure (.int k (max x y)) := by
  simp only [Builtin.max2, gt_iff_lt]
  congr 2
  rw [Int.max_def]; split <;> split <;> omega
theorem min2_mn (k k' : IntKind) (x y : Int) : Builtin.min2 (.int k x) (.int k' y) = pure (.int k (min x y)) := by
  simp only [Builtin.min2]
  congr 2
  rw [Int.min_def]; split <;> split <;> omega
theorem max_two (ats : Array TypeId) (ty : TypeId) (a b : Value) : Builtin.max_ ats ty #[a, b] = (Builtin.max2 a b >>= fun s => pure s) := by simp only [Builtin.max_, List.foldlM_cons, List.foldlM_nil]
theorem min_two (ats : Array TypeId) (ty : TypeId) (a b : Value) : Builtin.min_ ats ty #[a, b] = (Builtin.min2 a b >>= fun s => pure s) := by simp only [Builtin.min_, List.foldlM_cons, List.foldlM_nil]

/-! ### Rows in memory -/
/-- A row of elements of `sz` cells each: `K w x l` says how the element x is written as cells. -/
def Rw {α : Type} (sz : Nat) (K : World → α → List Value → Prop) (w : World) (A : Option Addr) (xs : List α) : Prop :=
  xs ≠ [] → ∃ b off, A = some ⟨b, off, none⟩ ∧ ∀ i x, xs[i]? = some x → ∃ l, K w x l ∧ ∀ j u, l[j]? = some u → w.cell? ⟨b, off + i * sz + j, none⟩ = some u
def big : Nat := 140737488351232
/-- A slice value that reads as a list. -/
def SlV {α : Type} (sz : Nat) (K : World → α → List Value → Prop) (w : World) (v : Value) (xs : List α) : Prop :=
  ∃ A c, v = .slice A xs.length c ∧ xs.length ≤ c ∧ xs.length ≤ big ∧ Rw sz K w A xs
def Stable {α : Type} (K : World → α → List Value → Prop) : Prop := ∀ w w1 x l, Below w.heap.size w w1 → K w x l → K w1 x l
theorem Rw.mono {α : Type} {sz : Nat} {K : World → α → List Value → Prop} (hK : Stable K) {w w1 : World} {A : Option Addr} {xs : List α} (h : Rw sz K w A xs) (hb : Below w.heap.size w w1) : Rw sz K w1 A xs := by
  intro hne
  obtain ⟨b, off, e, hc⟩ := h hne
  refine ⟨b, off, e, fun i x hx => ?_⟩
  obtain ⟨l, hl, hcl⟩ := hc i x hx
  exact ⟨l, hK _ _ _ _ hb hl, fun j u hu => cell_mono hb (hcl j u hu)⟩
theorem SlV.mono {α : Type} {sz : Nat} {K : World → α → List Value → Prop} (hK : Stable K) {w w1 : World} {v : Value} {xs : List α} (h : SlV sz K w v xs) (hb : Below w.heap.size w w1) : SlV sz K w1 v xs := by
  obtain ⟨A, c, e, h1, h2, h3⟩ := h
  exact ⟨A, c, e, h1, h2, h3.mono hK hb⟩

/-! ### The program's data -/
structure Pt where
  x : Int
  y : Int
structure Wl where
  a : Pt
  b : Pt
  f : Int
structure Site where
  nodes : List Pt
  powers : List Int
  walls : List Wl
  ex : Int
  noise : Int
  thr : Int
structure Src where
  pt : Pt
  pow : Int
  ch : List Int
  per : Int
  frm : Int
  to : Int
structure Fd where
  frm : Int
  to : Int
  ch : Int
  first : Int
  til : Int
  fac : Int
structure Spm where
  srcs : List Src
  fds : List Fd

def i64 (n : Int) : Value := .int .i64 n
def KI (_ : World) (x : Int) (l : List Value) : Prop := l = [.int .i64 x]
def KPt (_ : World) (p : Pt) (l : List Value) : Prop := l = [.int .i64 p.x, .int .i64 p.y]
def KWl (_ : World) (p : Wl) (l : List Value) : Prop := l = [.int .i64 p.a.x, .int .i64 p.a.y, .int .i64 p.b.x, .int .i64 p.b.y, .int .i64 p.f]
def KFd (_ : World) (p : Fd) (l : List Value) : Prop := l = [.int .i64 p.frm, .int .i64 p.to, .int .i64 p.ch, .int .i64 p.first, .int .i64 p.til, .int .i64 p.fac]
def KSrc (w : World) (p : Src) (l : List Value) : Prop :=
  ∃ v, l = [.int .i64 p.pt.x, .int .i64 p.pt.y, .int .i64 p.pow, v, .int .i64 p.per, .int .i64 p.frm, .int .i64 p.to] ∧ SlV 1 KI w v p.ch
theorem KI.st : Stable KI := fun _ _ _ _ _ h => h
theorem KPt.st : Stable KPt := fun _ _ _ _ _ h => h
theorem KWl.st : Stable KWl := fun _ _ _ _ _ h => h
theorem KFd.st : Stable KFd := fun _ _ _ _ _ h => h
theorem KSrc.st : Stable KSrc := fun _ _ _ _ hb ⟨v, e, h⟩ => ⟨v, e, h.mono KI.st hb⟩

def SiteV (w : World) (v : Value) (s : Site) : Prop :=
  ∃ v0 v1 v2, v = .agg #[v0, v1, v2, .int .i64 s.ex, .int .i64 s.noise, .int .i64 s.thr] ∧ SlV 2 KPt w v0 s.nodes ∧ SlV 1 KI w v1 s.powers ∧ SlV 5 KWl w v2 s.walls
def SpmV (w : World) (v : Value) (s : Spm) : Prop :=
  ∃ v0 v1, v = .agg #[v0, v1] ∧ SlV 7 KSrc w v0 s.srcs ∧ SlV 6 KFd w v1 s.fds
def SrcV (w : World) (v : Value) (p : Src) : Prop :=
  ∃ u, v = .agg #[.int .i64 p.pt.x, .int .i64 p.pt.y, .int .i64 p.pow, u, .int .i64 p.per, .int .i64 p.frm, .int .i64 p.to] ∧ SlV 1 KI w u p.ch
theorem SiteV.mono {w w1 : World} {v : Value} {s : Site} (h : SiteV w v s) (hb : Below w.heap.size w w1) : SiteV w1 v s := by
  obtain ⟨v0, v1, v2, e, h0, h1, h2⟩ := h
  exact ⟨v0, v1, v2, e, h0.mono KPt.st hb, h1.mono KI.st hb, h2.mono KWl.st hb⟩
theorem SpmV.mono {w w1 : World} {v : Value} {s : Spm} (h : SpmV w v s) (hb : Below w.heap.size w w1) : SpmV w1 v s := by
  obtain ⟨v0, v1, e, h0, h1⟩ := h
  exact ⟨v0, v1, e, h0.mono KSrc.st hb, h1.mono KFd.st hb⟩
theorem SrcV.mono {w w1 : World} {v : Value} {s : Src} (h : SrcV w v s) (hb : Below w.heap.size w w1) : SrcV w1 v s := by
  obtain ⟨u, e, h0⟩ := h
  exact ⟨u, e, h0.mono KI.st hb⟩
/-- The cells of one element of a row, in a later world. -/
theorem Rw.at_ {α : Type} {sz : Nat} {K : World → α → List Value → Prop} {w w1 : World} {A : Option Addr} {xs : List α} (h : Rw sz K w A xs) (hb : Below w.heap.size w w1) {i : Nat} {x : α} (hx : xs[i]? = some x) :
    ∃ b off l, A = some ⟨b, off, none⟩ ∧ K w x l ∧ ∀ j u, l[j]? = some u → w1.cell? ⟨b, off + i * sz + j, none⟩ = some u := by
  obtain ⟨b, off, e, hc⟩ := h (by rintro rfl; simp at hx)
  obtain ⟨l, hl, hcl⟩ := hc i x hx
  exact ⟨b, off, l, e, hl, fun j u hu => cell_mono hb (hcl j u hu)⟩
theorem Rw.int {w w1 : World} {A : Option Addr} {xs : List Int} (h : Rw 1 KI w A xs) (hb : Below w.heap.size w w1) {i : Nat} {x : Int} (hx : xs[i]? = some x) :
    ∃ b off, A = some ⟨b, off, none⟩ ∧ w1.cell? ⟨b, off + i, none⟩ = some (.int .i64 x) := by
  obtain ⟨b, off, l, e, rfl, hc⟩ := h.at_ hb hx
  exact ⟨b, off, e, by simpa using hc 0 _ rfl⟩
theorem Rw.pt {w w1 : World} {A : Option Addr} {xs : List Pt} (h : Rw 2 KPt w A xs) (hb : Below w.heap.size w w1) {i : Nat} {x : Pt} (hx : xs[i]? = some x) :
    ∃ b off, A = some ⟨b, off, none⟩ ∧ w1.cell? ⟨b, off + i * 2, none⟩ = some (.int .i64 x.x) ∧ w1.cell? ⟨b, off + i * 2 + 1, none⟩ = some (.int .i64 x.y) := by
  obtain ⟨b, off, l, e, rfl, hc⟩ := h.at_ hb hx
  exact ⟨b, off, e, hc 0 _ rfl, hc 1 _ rfl⟩
theorem Rw.wl {w w1 : World} {A : Option Addr} {xs : List Wl} (h : Rw 5 KWl w A xs) (hb : Below w.heap.size w w1) {i : Nat} {x : Wl} (hx : xs[i]? = some x) :
    ∃ b off, A = some ⟨b, off, none⟩ ∧ w1.cell? ⟨b, off + i * 5, none⟩ = some (.int .i64 x.a.x) ∧ w1.cell? ⟨b, off + i * 5 + 1, none⟩ = some (.int .i64 x.a.y) ∧ w1.cell? ⟨b, off + i * 5 + 2, none⟩ = some (.int .i64 x.b.x) ∧ w1.cell? ⟨b, off + i * 5 + 3, none⟩ = some (.int .i64 x.b.y) ∧ w1.cell? ⟨b, off + i * 5 + 4, none⟩ = some (.int .i64 x.f) := by
  obtain ⟨b, off, l, e, rfl, hc⟩ := h.at_ hb hx
  exact ⟨b, off, e, hc 0 _ rfl, hc 1 _ rfl, hc 2 _ rfl, hc 3 _ rfl, hc 4 _ rfl⟩
theorem Rw.fd {w w1 : World} {A : Option Addr} {xs : List Fd} (h : Rw 6 KFd w A xs) (hb : Below w.heap.size w w1) {i : Nat} {x : Fd} (hx : xs[i]? = some x) :
    ∃ b off, A = some ⟨b, off, none⟩ ∧ w1.cell? ⟨b, off + i * 6, none⟩ = some (.int .i64 x.frm) ∧ w1.cell? ⟨b, off + i * 6 + 1, none⟩ = some (.int .i64 x.to) ∧ w1.cell? ⟨b, off + i * 6 + 2, none⟩ = some (.int .i64 x.ch) ∧ w1.cell? ⟨b, off + i * 6 + 3, none⟩ = some (.int .i64 x.first) ∧ w1.cell? ⟨b, off + i * 6 + 4, none⟩ = some (.int .i64 x.til) ∧ w1.cell? ⟨b, off + i * 6 + 5, none⟩ = some (.int .i64 x.fac) := by
  obtain ⟨b, off, l, e, rfl, hc⟩ := h.at_ hb hx
  exact ⟨b, off, e, hc 0 _ rfl, hc 1 _ rfl, hc 2 _ rfl, hc 3 _ rfl, hc 4 _ rfl, hc 5 _ rfl⟩
theorem Rw.src {w w1 : World} {A : Option Addr} {xs : List Src} (h : Rw 7 KSrc w A xs) (hb : Below w.heap.size w w1) {i : Nat} {x : Src} (hx : xs[i]? = some x) :
    ∃ b off u, A = some ⟨b, off, none⟩ ∧ SlV 1 KI w1 u x.ch ∧ w1.cell? ⟨b, off + i * 7, none⟩ = some (.int .i64 x.pt.x) ∧ w1.cell? ⟨b, off + i * 7 + 1, none⟩ = some (.int .i64 x.pt.y) ∧ w1.cell? ⟨b, off + i * 7 + 2, none⟩ = some (.int .i64 x.pow) ∧ w1.cell? ⟨b, off + i * 7 + 3, none⟩ = some u ∧ w1.cell? ⟨b, off + i * 7 + 4, none⟩ = some (.int .i64 x.per) ∧ w1.cell? ⟨b, off + i * 7 + 5, none⟩ = some (.int .i64 x.frm) ∧ w1.cell? ⟨b, off + i * 7 + 6, none⟩ = some (.int .i64 x.to) := by
  obtain ⟨b, off, l, e, ⟨u, rfl, hu⟩, hc⟩ := h.at_ hb hx
  exact ⟨b, off, u, e, hu.mono KI.st hb, hc 0 _ rfl, hc 1 _ rfl, hc 2 _ rfl, hc 3 _ rfl, hc 4 _ rfl, hc 5 _ rfl, hc 6 _ rfl⟩
end Go.Proofs.Ytlndgoaobalenaa
