/- The base of the walks: the data types of the program as plain structures, how they lie in memory, and small facts on worlds. What the functions compute, in plain terms: no program, no memory. What the functions of the spectrum compute, in plain terms. Ranging over a function: worlds that keep all but one block. Appending a number, the box's number given apart. What came in, opened by its types: whole numbers, structs and slices read as plain data. Rows as flat lists of cells: rows of the call's own that hold structs; a row copied. A region that draws its order, within a round of a range over a function: walked once, in the order of the text. A region that draws its order and whose last operations wait for all others (stores of what has been computed): the others are walked once, in the order of the text; then the last ones. Walks: a number in a list. slices.Equal. Fadings and signals, in plain terms. When a transmitter is on: a point of the interval at which its period says so. Crossings and powers of valid points: no wrap. The program's types, opened. The arguments of the laws of 06, opened. The arguments of the laws of 06, opened: sites, and a query with more. -/
import Derived.Test.YtpbhoeaadnemhaaGreatProg
import Derived.WalkKit
import Derived.Below
import Derived.Deep.Draws
import Derived.Deep.QuietTactic
import Derived.BigQuiet
import Derived.KernelRfl
import Derived.RowKit3
import Derived.WalkSpells
import Derived.WalkLawsBesides
import Derived.Lib.Hide
import Derived.Outline
import Derived.WideShapes
import Derived.RangeFuncNested
import Derived.RangeFuncBound
import Derived.RangeFuncCalls
import Derived.RangeFuncLeaves
import Derived.RangeFuncBox
import Derived.Shelf.Abstract
import Derived.Shelf.RegionOpen
import Derived.OwnWalkIn
import Derived.TacticsInMore
import Derived.LoopNIn
import Derived.LoopIn
import Derived.Maps.AppendAt
import Derived.Deep.AppendLies
import Derived.ProofKit
import Derived.OpenShut
import Derived.ChangeOld
import Derived.SizedLaws
import Derived.Laws.Cover3
import Derived.Sort.QuietTacIn
import Derived.OrdersIn
namespace Go.Proofs.YtpbhoeaadnemhaaGreat
open Go.RowKit

/-! ### Endings and worlds -/
theorem ret_int {k : IntKind} {a b : Int} (h : a = b) : Ending.returned (.int k a) = .returned (.int k b) := by rw [h]
theorem ret_bool {a b : Bool} (h : a = b) : Ending.returned (.bool a) = .returned (.bool b) := by rw [h]
theorem ret_two {a b c d : Value} (h : a = c) (k : b = d) : Ending.returned (.tuple #[a, b]) = .returned (.tuple #[c, d]) := by rw [h, k]
theorem b_alloc {w W : World} (h : Below w.heap.size w W) (o : Obj) : Below w.heap.size w (W.alloc o) := h.alloc h.size o
theorem b_drew {B : Nat} {w W : World} (h : Below B w W) : Below B w W.drew := ⟨h.os, h.tape, h.output, h.size, h.block⟩
theorem b_drewN {B : Nat} {w W : World} (h : Below B w W) (n : Nat) : Below B w (W.drewN n) := ⟨h.os, h.tape, h.output, h.size, h.block⟩
theorem b_then {w w1 w2 : World} (h : Below w.heap.size w w1) (k : Below w1.heap.size w1 w2) : Below w.heap.size w w2 := h.trans (k.mono h.size)
theorem bcell {W w1 : World} (hb : Below W.heap.size W w1) : (∀ b o, b < W.heap.size → w1.cell? ⟨b, o, none⟩ = W.cell? ⟨b, o, none⟩) ∧ (∀ b o, b < W.heap.size → w1.frozen? ⟨b, o, none⟩ = W.frozen? ⟨b, o, none⟩) :=
  ⟨fun b o h => hb.cell (p := ⟨b, o, none⟩) h, fun b o h => hb.frozen (p := ⟨b, o, none⟩) h⟩
theorem cell_mono {w w1 : World} (h : Below w.heap.size w w1) {a : Addr} {v : Value} (hc : w.cell? a = some v) : w1.cell? a = some v := (h.cell (World.block_lt_of_cell? w a hc)).trans hc

/-- A block laid in w still reads as it was laid. -/
theorem box_at {w W1 wr : World} {cs : Array Value} {t : TypeId} (hbw : Below W1.heap.size W1 wr) (hW : W1 = w.alloc (.cells cs t)) (j : Nat) {u : Value} (hu : cs[j]? = some u) : wr.cell? ⟨w.heap.size, j, none⟩ = some u := by
  subst hW
  rw [hbw.cell (by simp)]
  exact (cell_of_row _ _ j cs t (0, 0) (heap_alloc_new w _)).trans hu

/-! ### A region that draws its order, whose operations read and whose callees leave old memory as it was: one walk, in the order of the text -/
structure Later (w : World) where
  W : World
  below : Below w.heap.size w W
instance (w : World) : Inhabited (Later w) := ⟨⟨w, Below.refl _ _⟩⟩
theorem Later.cell {w : World} {a : Addr} {v : Value} (h : w.cell? a = some v) : ∀ x : Later w, x.W.cell? a = some v := fun x => cell_mono x.below h
theorem wp_region_later {P : Program} {id : Nat} {Q : Exit → Act → World → Prop} {a : Act} {w : World} {l : List Oper} (hm : P.follows .mixedOrders = true) (hB : Region.lexB .any l.toArray = true)
    (h : wpQuiet P l.toArray (fun w' => ∃ x : Later w, w' = x.W) (fun a' => ∀ w', (∃ x : Later w, w' = x.W) → Q .normal a' w') l a) : (Code.region id l.toArray true).wp P Q a w :=
  wp_region_quiet (C := fun w' => ∃ x : Later w, w' = x.W) hm hB ⟨⟨w.drew, b_drew (Below.refl _ _)⟩, rfl⟩ (by simpa using h)
theorem later_of {P : Program} {f : FuncId} {args : Array Value} {w : World} {x : Later w} {v : Value} (h : Calls P f args x.W fun e w' => e = .returned v ∧ Below x.W.heap.size x.W w') :
    Calls P f args x.W fun e w'' => e = .returned v ∧ ∃ y : Later w, w'' = y.W := h.mono fun _ w' ⟨he, hb⟩ => ⟨he, ⟨w', b_then x.below hb⟩, rfl⟩
theorem later_same {P : Program} {f : FuncId} {args : Array Value} {w : World} {x : Later w} {v : Value} (h : Calls P f args x.W fun e w' => e = .returned v ∧ x.W = w') :
    Calls P f args x.W fun e w'' => e = .returned v ∧ ∃ y : Later w, w'' = y.W := h.mono fun _ _ ⟨he, hb⟩ => ⟨he, x, hb.symm⟩

/-! ### min and max -/
theorem max2_mx (k k' : IntKind) (x y : Int) : Builtin.max2 (.int k x) (.int k' y) = pure (.int k (max x y)) := by
  simp only [Builtin.max2, gt_iff_lt]
  congr 2
  rw [Int.max_def]; split <;> split <;> omega
theorem min2_mn (k k' : IntKind) (x y : Int) : Builtin.min2 (.int k x) (.int k' y) = pure (.int k (min x y)) := by
  simp only [Builtin.min2]
  congr 2
  rw [Int.min_def]; split <;> split <;> omega
theorem max_two (ats : Array TypeId) (ty : TypeId) (a b : Value) : Builtin.max_ ats ty #[a, b] = (Builtin.max2 a b >>= fun s => pure s) := by simp only [Builtin.max_, List.foldlM_cons, List.foldlM_nil]
theorem min_two (ats : Array TypeId) (ty : TypeId) (a b : Value) : Builtin.min_ ats ty #[a, b] = (Builtin.min2 a b >>= fun s => pure s) := by simp only [Builtin.min_, List.foldlM_cons, List.foldlM_nil]

/-! ### Rows in memory -/
/-- A row of elements of `sz` cells each: `K w x l` says how the element x is written as cells. -/
def Rw {α : Type} (sz : Nat) (K : World → α → List Value → Prop) (w : World) (A : Option Addr) (xs : List α) : Prop :=
  xs ≠ [] → ∃ b off, A = some ⟨b, off, none⟩ ∧ ∀ i x, xs[i]? = some x → ∃ l, K w x l ∧ ∀ j u, l[j]? = some u → w.cell? ⟨b, off + i * sz + j, none⟩ = some u
def big : Nat := 140737488351232
/-- A slice value that reads as a list. -/
def SlV {α : Type} (sz : Nat) (K : World → α → List Value → Prop) (w : World) (v : Value) (xs : List α) : Prop :=
  ∃ A c, v = .slice A xs.length c ∧ xs.length ≤ c ∧ xs.length ≤ big ∧ Rw sz K w A xs
def Stable {α : Type} (K : World → α → List Value → Prop) : Prop := ∀ w w1 x l, Below w.heap.size w w1 → K w x l → K w1 x l
theorem Rw.mono {α : Type} {sz : Nat} {K : World → α → List Value → Prop} (hK : Stable K) {w w1 : World} {A : Option Addr} {xs : List α} (h : Rw sz K w A xs) (hb : Below w.heap.size w w1) : Rw sz K w1 A xs := by
  intro hne
  obtain ⟨b, off, e, hc⟩ := h hne
  refine ⟨b, off, e, fun i x hx => ?_⟩
  obtain ⟨l, hl, hcl⟩ := hc i x hx
  exact ⟨l, hK _ _ _ _ hb hl, fun j u hu => cell_mono hb (hcl j u hu)⟩
theorem SlV.mono {α : Type} {sz : Nat} {K : World → α → List Value → Prop} (hK : Stable K) {w w1 : World} {v : Value} {xs : List α} (h : SlV sz K w v xs) (hb : Below w.heap.size w w1) : SlV sz K w1 v xs := by
  obtain ⟨A, c, e, h1, h2, h3⟩ := h
  exact ⟨A, c, e, h1, h2, h3.mono hK hb⟩

/-! ### The program's data -/
structure Pt where
  x : Int
  y : Int
structure Wl where
  a : Pt
  b : Pt
  f : Int
structure Site where
  nodes : List Pt
  powers : List Int
  walls : List Wl
  ex : Int
  noise : Int
  thr : Int
structure Src where
  pt : Pt
  pow : Int
  ch : List Int
  per : Int
  frm : Int
  to : Int
structure Fd where
  frm : Int
  to : Int
  ch : Int
  first : Int
  til : Int
  fac : Int
structure Spm where
  srcs : List Src
  fds : List Fd

def i64 (n : Int) : Value := .int .i64 n
def KI (_ : World) (x : Int) (l : List Value) : Prop := l = [.int .i64 x]
def KPt (_ : World) (p : Pt) (l : List Value) : Prop := l = [.int .i64 p.x, .int .i64 p.y]
def KWl (_ : World) (p : Wl) (l : List Value) : Prop := l = [.int .i64 p.a.x, .int .i64 p.a.y, .int .i64 p.b.x, .int .i64 p.b.y, .int .i64 p.f]
def KFd (_ : World) (p : Fd) (l : List Value) : Prop := l = [.int .i64 p.frm, .int .i64 p.to, .int .i64 p.ch, .int .i64 p.first, .int .i64 p.til, .int .i64 p.fac]
def KSrc (w : World) (p : Src) (l : List Value) : Prop :=
  ∃ v, l = [.int .i64 p.pt.x, .int .i64 p.pt.y, .int .i64 p.pow, v, .int .i64 p.per, .int .i64 p.frm, .int .i64 p.to] ∧ SlV 1 KI w v p.ch
theorem KI.st : Stable KI := fun _ _ _ _ _ h => h
theorem KPt.st : Stable KPt := fun _ _ _ _ _ h => h
theorem KWl.st : Stable KWl := fun _ _ _ _ _ h => h
theorem KFd.st : Stable KFd := fun _ _ _ _ _ h => h
theorem KSrc.st : Stable KSrc := fun _ _ _ _ hb ⟨v, e, h⟩ => ⟨v, e, h.mono KI.st hb⟩

def SiteV (w : World) (v : Value) (s : Site) : Prop :=
  ∃ v0 v1 v2, v = .agg #[v0, v1, v2, .int .i64 s.ex, .int .i64 s.noise, .int .i64 s.thr] ∧ SlV 2 KPt w v0 s.nodes ∧ SlV 1 KI w v1 s.powers ∧ SlV 5 KWl w v2 s.walls
def SpmV (w : World) (v : Value) (s : Spm) : Prop :=
  ∃ v0 v1, v = .agg #[v0, v1] ∧ SlV 7 KSrc w v0 s.srcs ∧ SlV 6 KFd w v1 s.fds
def SrcV (w : World) (v : Value) (p : Src) : Prop :=
  ∃ u, v = .agg #[.int .i64 p.pt.x, .int .i64 p.pt.y, .int .i64 p.pow, u, .int .i64 p.per, .int .i64 p.frm, .int .i64 p.to] ∧ SlV 1 KI w u p.ch
theorem SiteV.mono {w w1 : World} {v : Value} {s : Site} (h : SiteV w v s) (hb : Below w.heap.size w w1) : SiteV w1 v s := by
  obtain ⟨v0, v1, v2, e, h0, h1, h2⟩ := h
  exact ⟨v0, v1, v2, e, h0.mono KPt.st hb, h1.mono KI.st hb, h2.mono KWl.st hb⟩
theorem SpmV.mono {w w1 : World} {v : Value} {s : Spm} (h : SpmV w v s) (hb : Below w.heap.size w w1) : SpmV w1 v s := by
  obtain ⟨v0, v1, e, h0, h1⟩ := h
  exact ⟨v0, v1, e, h0.mono KSrc.st hb, h1.mono KFd.st hb⟩
theorem SrcV.mono {w w1 : World} {v : Value} {s : Src} (h : SrcV w v s) (hb : Below w.heap.size w w1) : SrcV w1 v s := by
  obtain ⟨u, e, h0⟩ := h
  exact ⟨u, e, h0.mono KI.st hb⟩
/-- The cells of one element of a row, in a later world. -/
theorem Rw.at_ {α : Type} {sz : Nat} {K : World → α → List Value → Prop} {w w1 : World} {A : Option Addr} {xs : List α} (h : Rw sz K w A xs) (hb : Below w.heap.size w w1) {i : Nat} {x : α} (hx : xs[i]? = some x) :
    ∃ b off l, A = some ⟨b, off, none⟩ ∧ K w x l ∧ ∀ j u, l[j]? = some u → w1.cell? ⟨b, off + i * sz + j, none⟩ = some u := by
  obtain ⟨b, off, e, hc⟩ := h (by rintro rfl; simp at hx)
  obtain ⟨l, hl, hcl⟩ := hc i x hx
  exact ⟨b, off, l, e, hl, fun j u hu => cell_mono hb (hcl j u hu)⟩
theorem Rw.int {w w1 : World} {A : Option Addr} {xs : List Int} (h : Rw 1 KI w A xs) (hb : Below w.heap.size w w1) {i : Nat} {x : Int} (hx : xs[i]? = some x) :
    ∃ b off, A = some ⟨b, off, none⟩ ∧ w1.cell? ⟨b, off + i, none⟩ = some (.int .i64 x) := by
  obtain ⟨b, off, l, e, rfl, hc⟩ := h.at_ hb hx
  exact ⟨b, off, e, by simpa using hc 0 _ rfl⟩
theorem Rw.pt {w w1 : World} {A : Option Addr} {xs : List Pt} (h : Rw 2 KPt w A xs) (hb : Below w.heap.size w w1) {i : Nat} {x : Pt} (hx : xs[i]? = some x) :
    ∃ b off, A = some ⟨b, off, none⟩ ∧ w1.cell? ⟨b, off + i * 2, none⟩ = some (.int .i64 x.x) ∧ w1.cell? ⟨b, off + i * 2 + 1, none⟩ = some (.int .i64 x.y) := by
  obtain ⟨b, off, l, e, rfl, hc⟩ := h.at_ hb hx
  exact ⟨b, off, e, hc 0 _ rfl, hc 1 _ rfl⟩
theorem Rw.wl {w w1 : World} {A : Option Addr} {xs : List Wl} (h : Rw 5 KWl w A xs) (hb : Below w.heap.size w w1) {i : Nat} {x : Wl} (hx : xs[i]? = some x) :
    ∃ b off, A = some ⟨b, off, none⟩ ∧ w1.cell? ⟨b, off + i * 5, none⟩ = some (.int .i64 x.a.x) ∧ w1.cell? ⟨b, off + i * 5 + 1, none⟩ = some (.int .i64 x.a.y) ∧ w1.cell? ⟨b, off + i * 5 + 2, none⟩ = some (.int .i64 x.b.x) ∧ w1.cell? ⟨b, off + i * 5 + 3, none⟩ = some (.int .i64 x.b.y) ∧ w1.cell? ⟨b, off + i * 5 + 4, none⟩ = some (.int .i64 x.f) := by
  obtain ⟨b, off, l, e, rfl, hc⟩ := h.at_ hb hx
  exact ⟨b, off, e, hc 0 _ rfl, hc 1 _ rfl, hc 2 _ rfl, hc 3 _ rfl, hc 4 _ rfl⟩
theorem Rw.fd {w w1 : World} {A : Option Addr} {xs : List Fd} (h : Rw 6 KFd w A xs) (hb : Below w.heap.size w w1) {i : Nat} {x : Fd} (hx : xs[i]? = some x) :
    ∃ b off, A = some ⟨b, off, none⟩ ∧ w1.cell? ⟨b, off + i * 6, none⟩ = some (.int .i64 x.frm) ∧ w1.cell? ⟨b, off + i * 6 + 1, none⟩ = some (.int .i64 x.to) ∧ w1.cell? ⟨b, off + i * 6 + 2, none⟩ = some (.int .i64 x.ch) ∧ w1.cell? ⟨b, off + i * 6 + 3, none⟩ = some (.int .i64 x.first) ∧ w1.cell? ⟨b, off + i * 6 + 4, none⟩ = some (.int .i64 x.til) ∧ w1.cell? ⟨b, off + i * 6 + 5, none⟩ = some (.int .i64 x.fac) := by
  obtain ⟨b, off, l, e, rfl, hc⟩ := h.at_ hb hx
  exact ⟨b, off, e, hc 0 _ rfl, hc 1 _ rfl, hc 2 _ rfl, hc 3 _ rfl, hc 4 _ rfl, hc 5 _ rfl⟩
theorem Rw.src {w w1 : World} {A : Option Addr} {xs : List Src} (h : Rw 7 KSrc w A xs) (hb : Below w.heap.size w w1) {i : Nat} {x : Src} (hx : xs[i]? = some x) :
    ∃ b off u, A = some ⟨b, off, none⟩ ∧ SlV 1 KI w1 u x.ch ∧ w1.cell? ⟨b, off + i * 7, none⟩ = some (.int .i64 x.pt.x) ∧ w1.cell? ⟨b, off + i * 7 + 1, none⟩ = some (.int .i64 x.pt.y) ∧ w1.cell? ⟨b, off + i * 7 + 2, none⟩ = some (.int .i64 x.pow) ∧ w1.cell? ⟨b, off + i * 7 + 3, none⟩ = some u ∧ w1.cell? ⟨b, off + i * 7 + 4, none⟩ = some (.int .i64 x.per) ∧ w1.cell? ⟨b, off + i * 7 + 5, none⟩ = some (.int .i64 x.frm) ∧ w1.cell? ⟨b, off + i * 7 + 6, none⟩ = some (.int .i64 x.to) := by
  obtain ⟨b, off, l, e, ⟨u, rfl, hu⟩, hc⟩ := h.at_ hb hx
  exact ⟨b, off, u, e, hu.mono KI.st hb, hc 0 _ rfl, hc 1 _ rfl, hc 2 _ rfl, hc 3 _ rfl, hc 4 _ rfl, hc 5 _ rfl, hc 6 _ rfl⟩
end Go.Proofs.YtpbhoeaadnemhaaGreat
namespace Go.Proofs.YtpbhoeaadnemhaaGreat
open Go.RowKit
/-- The error of a check: OK or ErrArg. -/
def okN (b : Bool) : Int := if b then 0 else 1
theorem okN_true : okN true = 0 := rfl
theorem okN_false : okN false = 1 := rfl
def powB (n : Int) : Bool := decide (0 ≤ n) && decide (n ≤ 68719476736)
def ptB (p : Pt) : Bool := decide (0 ≤ p.x) && decide (p.x ≤ 10000) && decide (0 ≤ p.y) && decide (p.y ≤ 10000)
def rightB (thr noise : Int) : Bool := decide (1000 ≤ thr) && decide (thr ≤ 100000) && decide (1 ≤ noise) && decide (noise ≤ 68719476736)
def wlB (q : Wl) : Bool := ptB q.a && ptB q.b && decide (0 ≤ q.f) && decide (q.f ≤ 1000)
def chB (n : Int) : Bool := decide (0 ≤ n) && decide (n < 16)
def ndB (n : Int) : Bool := decide (0 ≤ n) && decide (n < 32)
def ivB (a b : Int) : Bool := decide (0 ≤ a) && decide (a ≤ b) && decide (b ≤ 1099511627776)
def tmB (t : Int) : Bool := decide (0 ≤ t) && decide (t ≤ 1099511627776)
theorem wrap64_zero : wrap64 0 = 0 := by unfold wrap64; omega
def squareW (a b : Pt) : Int := wrap64 (wrap64 (wrap64 (a.x - b.x) * wrap64 (a.x - b.x)) + wrap64 (wrap64 (a.y - b.y) * wrap64 (a.y - b.y)))
def squareI (a b : Pt) : Int := (a.x - b.x) * (a.x - b.x) + (a.y - b.y) * (a.y - b.y)
def cmpI (a b : Int) : Int := if a < b then -1 else if b < a then 1 else 0
def turnW (a b c : Pt) : Int := cmpI (wrap64 (wrap64 (b.x - a.x) * wrap64 (c.y - a.y))) (wrap64 (wrap64 (b.y - a.y) * wrap64 (c.x - a.x)))
def turnV (a b c : Pt) : Int := if 0 < wrap64 (wrap64 (wrap64 (b.x - a.x) * wrap64 (c.y - a.y)) - wrap64 (wrap64 (b.y - a.y) * wrap64 (c.x - a.x))) then 1 else if wrap64 (wrap64 (wrap64 (b.x - a.x) * wrap64 (c.y - a.y)) - wrap64 (wrap64 (b.y - a.y) * wrap64 (c.x - a.x))) < 0 then -1 else 0
/-- The sign of the turn from a by way of b to c. -/
def turnI (a b c : Pt) : Int := cmpI ((b.x - a.x) * (c.y - a.y)) ((b.y - a.y) * (c.x - a.x))
def withinB (a b p : Pt) : Bool := decide (min a.x b.x ≤ p.x) && decide (p.x ≤ max a.x b.x) && decide (min a.y b.y ≤ p.y) && decide (p.y ≤ max a.y b.y)
def onW (p a b : Pt) : Bool := (decide (p.x = a.x) && decide (p.y = a.y)) || (decide (p.x = b.x) && decide (p.y = b.y)) || (decide (turnW a b p = 0) && withinB a b p)
def crossW (a b : Pt) (q : Wl) : Bool := onW q.a a b || onW q.b a b || onW a q.a q.b || onW b q.a q.b || (decide (wrap64 (turnW a b q.a * turnW a b q.b) < 0) && decide (wrap64 (turnW q.a q.b a * turnW q.a q.b b) < 0))
def crossV (a b : Pt) (q : Wl) : Bool := (decide (wrap64 (turnV a b q.a * turnV a b q.b) < 0) && decide (wrap64 (turnV q.a q.b a * turnV q.a q.b b) < 0)) || (decide (turnV a b q.a = 0) && withinB a b q.a) || (decide (turnV a b q.b = 0) && withinB a b q.b) || (decide (turnV q.a q.b a = 0) && withinB q.a q.b a) || (decide (turnV q.a q.b b = 0) && withinB q.a q.b b)
/-- Whether the path from a to b crosses a wall. -/
def crossB (a b : Pt) (q : Wl) : Bool := (decide (turnI a b q.a * turnI a b q.b < 0) && decide (turnI q.a q.b a * turnI q.a q.b b < 0)) || (decide (turnI a b q.a = 0) && withinB a b q.a) || (decide (turnI a b q.b = 0) && withinB a b q.b) || (decide (turnI q.a q.b a = 0) && withinB q.a q.b a) || (decide (turnI q.a q.b b = 0) && withinB q.a q.b b)
def headB (s : Site) : Bool := decide (2 ≤ s.nodes.length) && decide (s.nodes.length ≤ 32) && decide (s.powers.length = s.nodes.length) && decide (s.walls.length ≤ 32) && (decide (s.ex = 2) || decide (s.ex = 4)) && rightB s.thr s.noise
def siteB (s : Site) : Bool := headB s && s.nodes.all ptB && s.powers.all powB && s.walls.all wlB
/-- All of the first k elements meet p. -/
def allTo {α : Type} (p : α → Bool) (xs : List α) (k : Nat) : Prop := ∀ i x, i < k → xs[i]? = some x → p x = true
theorem allTo.zero {α : Type} (p : α → Bool) (xs : List α) : allTo p xs 0 := fun _ _ h => absurd h (Nat.not_lt_zero _)
theorem allTo.succ {α : Type} {p : α → Bool} {xs : List α} {k : Nat} (h : allTo p xs k) {x : α} (hx : xs[k]? = some x) (hp : p x = true) : allTo p xs (k + 1) := by
  intro i y hi hy
  rcases Nat.lt_succ_iff_lt_or_eq.1 hi with h1 | rfl
  · exact h i y h1 hy
  · rw [hx] at hy; cases hy; exact hp
theorem allTo.all {α : Type} {p : α → Bool} {xs : List α} {k : Nat} (h : allTo p xs k) (hk : xs.length ≤ k) : xs.all p = true := by
  rw [List.all_eq_true]
  intro x hx
  obtain ⟨i, hi, rfl⟩ := List.mem_iff_getElem.1 hx
  exact h i _ (Nat.lt_of_lt_of_le hi hk) (List.getElem?_eq_getElem hi)
theorem all_false {α : Type} {p : α → Bool} {xs : List α} {k : Nat} {x : α} (hx : xs[k]? = some x) (hp : p x = false) : xs.all p = false := by
  rw [Bool.eq_false_iff]
  intro h
  have := List.all_eq_true.1 h x (List.mem_of_getElem? hx)
  simp [hp] at this
end Go.Proofs.YtpbhoeaadnemhaaGreat
namespace Go.Proofs.YtpbhoeaadnemhaaGreat
open Go.RowKit
def okI (ch : List Int) (k : Nat) : Bool := chB (ch[k]?.getD 0) && (decide (k = 0) || decide (ch[k - 1]?.getD 0 < ch[k]?.getD 0))
def incB (ch : List Int) : Bool := (List.range ch.length).all (okI ch)
def perB (s : Src) : Bool := decide (0 ≤ s.frm) && decide (s.frm ≤ s.to) && decide (s.to ≤ s.per) && decide (1 ≤ s.per) && decide (s.per ≤ 1000000000)
def srcB (s : Src) : Bool := ptB s.pt && powB s.pow && incB s.ch && perB s
def endB (n : Int) : Bool := decide (n = -1) || ndB n
def fdB (f : Fd) : Bool := endB f.frm && endB f.to && (decide (f.ch = -1) || chB f.ch) && ivB f.first f.til && decide (0 ≤ f.fac) && decide (f.fac ≤ 1000)
def spmB (x : Spm) : Bool := decide (x.srcs.length ≤ 16) && decide (x.fds.length ≤ 64) && x.srcs.all srcB && x.fds.all fdB
theorem inc_all {ch : List Int} (h : ∀ i, i < ch.length → okI ch i = true) : incB ch = true := by
  simp only [incB, List.all_eq_true, List.mem_range]; exact h
theorem inc_not {ch : List Int} {k : Nat} (hk : k < ch.length) (h : okI ch k = false) : incB ch = false := by
  rw [Bool.eq_false_iff]; intro hc
  simp only [incB, List.all_eq_true, List.mem_range] at hc
  rw [hc k hk] at h; cases h
/-- A valid transmitter is on at some time of an interval. -/
def onB (s : Src) (f t : Int) : Bool := decide (f ≠ t) && decide (s.frm ≠ s.to) && ((decide (f % s.per < s.to) && decide (s.frm < f % s.per + t - f)) || decide (s.frm + s.per < f % s.per + t - f))
def isOn (s : Src) (f t : Int) : Bool := srcB s && ivB f t && onB s f t
def dutyI (s : Src) : Int := if srcB s then (s.to - s.frm) * 1000 / s.per else 0
theorem srcB_per {s : Src} (h : srcB s = true) : 0 ≤ s.frm ∧ s.frm ≤ s.to ∧ s.to ≤ s.per ∧ 1 ≤ s.per ∧ s.per ≤ 1000000000 := by
  simp [srcB, perB] at h; omega
theorem ivB_is {a b : Int} (h : ivB a b = true) : 0 ≤ a ∧ a ≤ b ∧ b ≤ 1099511627776 := by
  simp [ivB] at h; omega
/-- The index of the first element that meets p; -1 if there is none. -/
def idxI {α : Type} (p : α → Bool) (xs : List α) : Int := match xs.findIdx? p with
  | some i => (i : Int)
  | none => -1
theorem idx_some {α : Type} {p : α → Bool} {xs : List α} {k : Nat} {x : α} (ha : allTo (fun x => !p x) xs k) (hx : xs[k]? = some x) (hp : p x = true) : (k : Int) = idxI p xs := by
  have : xs.findIdx? p = some k := by
    rw [List.findIdx?_eq_some_iff_getElem]
    obtain ⟨hk, rfl⟩ := List.getElem?_eq_some_iff.1 hx
    refine ⟨hk, hp, fun j hj => ?_⟩
    have := ha j _ hj (List.getElem?_eq_getElem (by omega))
    simpa using this
  simp [idxI, this]
theorem idx_none {α : Type} {p : α → Bool} {xs : List α} {k : Nat} (ha : allTo (fun x => !p x) xs k) (hk : xs.length ≤ k) : (-1 : Int) = idxI p xs := by
  have : xs.findIdx? p = none := by
    rw [List.findIdx?_eq_none_iff]
    intro x hx
    obtain ⟨i, hi, rfl⟩ := List.mem_iff_getElem.1 hx
    have := ha i _ (Nat.lt_of_lt_of_le hi hk) (List.getElem?_eq_getElem hi)
    simpa using this
  simp [idxI, this]
theorem idx_any {α : Type} (p : α → Bool) (xs : List α) : decide (0 ≤ idxI p xs) = xs.any p := by
  unfold idxI
  cases h : xs.findIdx? p with
  | none =>
    rw [List.findIdx?_eq_none_iff] at h
    have : xs.any p = false := by rw [List.any_eq_false]; intro x hx; simp [h x hx]
    simp [this]
  | some i =>
    rw [List.findIdx?_eq_some_iff_getElem] at h
    obtain ⟨hi, hp, _⟩ := h
    have : xs.any p = true := List.any_eq_true.2 ⟨_, List.getElem_mem hi, hp⟩
    simp [this]
theorem any_not {α : Type} (p : α → Bool) (xs : List α) : (xs.any fun x => !p x) = !xs.all p := by
  induction xs with
  | nil => rfl
  | cons x xs ih => simp [ih]
end Go.Proofs.YtpbhoeaadnemhaaGreat
namespace Go.Proofs.YtpbhoeaadnemhaaGreat
open Go.RowKit
set_option linter.unusedVariables false
/-- Below n all but block B is as it was. -/
structure Bbt (n B : Nat) (w w' : World) : Prop where
  os : w'.os = w.os
  tape : w'.tape = w.tape
  output : w'.output = w.output
  size : w.heap.size ≤ w'.heap.size
  block : ∀ k, k < n → k ≠ B → w'.heap[k]? = w.heap[k]?
theorem Bbt.refl (n B : Nat) (w : World) : Bbt n B w w := ⟨rfl, rfl, rfl, Nat.le_refl _, fun _ _ _ => rfl⟩
theorem Bbt.trans {n B : Nat} {a b c : World} (h : Bbt n B a b) (k : Bbt n B b c) : Bbt n B a c :=
  ⟨k.os.trans h.os, k.tape.trans h.tape, k.output.trans h.output, Nat.le_trans h.size k.size, fun i hi hb => (k.block i hi hb).trans (h.block i hi hb)⟩
theorem Bbt.of_below {n B : Nat} {w w' : World} (h : Below n w w') : Bbt n B w w' := ⟨h.os, h.tape, h.output, h.size, fun k hk _ => h.block k hk⟩
theorem Bbt.below {n B m : Nat} {w w' : World} (h : Bbt n B w w') (hm : m ≤ n) (hB : m ≤ B) : Below m w w' := ⟨h.os, h.tape, h.output, h.size, fun k hk => h.block k (by omega) (by omega)⟩
theorem Bbt.setCell (n B : Nat) (w : World) (v : Value) : Bbt n B w (w.setCell ⟨B, 0, none⟩ v) :=
  ⟨rfl, rfl, rfl, by simp [World.setCell], fun k _ hb => Below.heap_setCell _ _ _ _ hb⟩
theorem Bbt.cell {n B : Nat} {w w' : World} (h : Bbt n B w w') {p : Addr} (hp : p.block < n) (hb : p.block ≠ B) : w'.cell? p = w.cell? p := World.cell?_of_block (w := w) (h.block p.block hp hb)
theorem Bbt.heap {n B : Nat} {w w' : World} (h : Bbt n B w w') {k : Nat} (hp : k < n) (hb : k ≠ B) : w'.heap[k]? = w.heap[k]? := h.block k hp hb
theorem bbt_t {n B : Nat} {X Y Z : World} (h : Bbt n B X Y) (k : Bbt n B Y Z) : Bbt n B X Z := h.trans k
theorem bbt_b {n B : Nat} {w : World} (hn : n ≤ w.heap.size) (W : World) (l : Nat) (o o' : Obj) (hl : w.heap.size ≤ l) (h : W.heap[l]? = some o) (h1 : o.isCells = false) (h2 : o.isWalk = false) : Bbt n B W (W.putObj l o') :=
  .of_below (belowK_b hn W l o o' hl h h1 h2)
theorem grown_below {w w1 : World} (h : Below w.heap.size w w1) (row : Option Nat) : w.grownBy w1 row := ⟨h.os, h.tape, h.output, h.size, fun i hi _ => h.block i hi⟩
/-- Old memory untouched: whatever is no cells lies as it lay. -/
theorem keeps_below {w w1 : World} (h : Below w.heap.size w w1) : KeepsOthers w w1 := ⟨h.size, fun k o hk _ => (h.block k (Array.getElem?_eq_some_iff.1 hk).1).trans hk⟩
theorem ownFrom_bbt {β : Type} {n B b0 : Nat} {w₀ : World} (hn : n ≤ w₀.heap.size) (hB : n ≤ b0) : OwnFrom b0 (fun (_ : β) W => Bbt n B w₀ W) := by
  intro s W W' row hs hg hr
  refine hs.trans ⟨hg.os, hg.tape, hg.output, hg.size, fun k hk _ => ?_⟩
  refine hg.block k (Nat.lt_of_lt_of_le hk (Nat.le_trans hn hs.size)) (fun e => ?_)
  have := (hr k e.symm).1
  omega
/-! ### Several ranges over a function in one call: their marks -/
def mark (D : Nat) : Deferred := { target := .collected D, args := #[] }
structure Byt (Ds : List Nat) (w w' : World) : Prop where
  os : w'.os = w.os
  tape : w'.tape = w.tape
  output : w'.output = w.output
  size : w.heap.size ≤ w'.heap.size
  block : ∀ k, k ∉ Ds → w'.heap[k]? = w.heap[k]?
theorem Byt.below {Ds : List Nat} {w w' : World} (h : Byt Ds w w') {n : Nat} (hn : ∀ D, D ∈ Ds → n ≤ D) : Below n w w' :=
  ⟨h.os, h.tape, h.output, h.size, fun k hk => h.block k (fun hm => by have := hn k hm; omega)⟩
theorem leaves_marks {F : Fence} {n : Nat} {P : Program} {fn : Func} {tmps : Array Value} {R : Ending → World → Prop} : ∀ (Ds : List Nat) (W : World), Ds.Nodup → (∀ D, D ∈ Ds → W.heap[D]? = some (.deferred (some []))) →
    (∀ W', Byt Ds W W' → ∃ v, (results fn tmps).run P W' = .ok v W' ∧ R (.returned v) W') → LeavesInM F n P fn tmps R (Ds.map mark) .returning W
  | [], W, _, _, h => h W ⟨rfl, rfl, rfl, Nat.le_refl _, fun _ _ => rfl⟩
  | D :: Ds, W, hn, hm, h => by
    obtain ⟨hD, hn'⟩ := List.nodup_cons.1 hn
    refine ⟨by simp, .inl ⟨D, W.putObj D (.deferred none), rfl, run_takeDeferred (hm D (List.mem_cons_self ..)), ?_⟩⟩
    have hg := grownBy_putObj' W D (.deferred none)
    refine leaves_marks Ds _ hn' (fun E hE => ?_) (fun W' hW' => h W' ?_)
    · rw [World.putObj_heap_other (fun e => hD (by rw [← e]; exact hE))]
      exact hm E (List.mem_cons_of_mem _ hE)
    · refine ⟨hW'.os.trans hg.os, hW'.tape.trans hg.tape, hW'.output.trans hg.output, Nat.le_trans hg.size hW'.size, fun k hk => ?_⟩
      rw [List.mem_cons, not_or] at hk
      rw [hW'.block k hk.2]
      exact World.putObj_heap_other hk.1
/-! ### A row of numbers of the call's own -/
theorem own_nil (W : World) (base : Nat) (e : TypeId) (size : Nat) : W.ownsRow base e size (.slice none 0 0) 0 [] := ⟨by simp, .inl ⟨rfl, rfl⟩⟩
theorem own_base {w : World} {base : Nat} {e : TypeId} {size n : Nat} {v : Value} {xs : List Value} (h : w.ownsRow base e size v n xs) (k : Nat) (hk : v.ownBlock = some k) : base ≤ k := by
  rcases h.2 with ⟨rfl, _⟩ | ⟨g, cap, cur, rfl, hb, _⟩
  · simp [Value.ownBlock] at hk
  · have : g = k := by simpa [Value.ownBlock] using hk
    omega
theorem own_lt {w : World} {base : Nat} {e : TypeId} {size n : Nat} {v : Value} {xs : List Value} (h : w.ownsRow base e size v n xs) (k : Nat) (hk : v.ownBlock = some k) : k < w.heap.size := by
  rcases h.2 with ⟨rfl, _⟩ | ⟨g, cap, cur, rfl, hb, hh, _⟩
  · simp [Value.ownBlock] at hk
  · have : g = k := by simpa [Value.ownBlock] using hk
    subst this
    exact (Array.getElem?_eq_some_iff.1 hh).1
theorem own_slice {w : World} {base n : Nat} {e : TypeId} {size : Nat} {v : Value} {xs : List Value} (h : w.ownsRow base e size v n xs) : ∃ A c, v = .slice A n c := by
  rcases h.2 with ⟨rfl, rfl⟩ | ⟨g, cap, cur, rfl, _⟩
  · exact ⟨none, 0, rfl⟩
  · exact ⟨_, cap, rfl⟩
theorem own_mark {w : World} {base n : Nat} {e : TypeId} {size : Nat} {v : Value} {xs : List Value} (h : w.ownsRow base e size v n xs) {D : Nat} {d : Option (List Deferred)} (hD : w.heap[D]? = some (.deferred d)) : ¬ some D = v.ownBlock := by
  rcases h.2 with ⟨rfl, rfl⟩ | ⟨g, cap, cur, rfl, _, hh, _⟩
  · simp [Value.ownBlock]
  · intro e
    have e' : D = g := by simpa [Value.ownBlock] using e
    rw [e', hh] at hD
    cases hD
theorem own_below {w w1 : World} {base n : Nat} {e : TypeId} {size : Nat} {v : Value} {xs : List Value} (h : w.ownsRow base e size v n xs) (hb : Below w.heap.size w w1) : w1.ownsRow base e size v n xs :=
  h.kept (grown_below hb none) (by cases v.ownBlock <;> simp)
theorem emp_all {α : Type} (p : α → Bool) (l : List α) : (l.filter p).isEmpty = l.all fun s => !p s := by
  induction l with
  | nil => rfl
  | cons x l ih => by_cases h : p x = true <;> simp_all
/-- A row of the call's own reads as its list. -/
theorem own_sl {w : World} {base : Nat} {e : TypeId} {v : Value} {xs : List Int} (h : w.ownsRow base e 1 v xs.length (xs.map (Value.int .i64))) (hl : xs.length ≤ big) : SlV 1 KI w v xs := by
  rcases h.2 with ⟨rfl, h0⟩ | ⟨g, cap, cur, rfl, _, _, h1, _, _⟩
  · obtain rfl : xs = [] := List.eq_nil_of_length_eq_zero h0
    exact ⟨none, 0, rfl, Nat.le_refl _, Nat.zero_le _, fun h => absurd rfl h⟩
  · refine ⟨_, cap, rfl, h1, hl, fun _ => ⟨g, 0, rfl, fun i x hx => ⟨_, rfl, fun j u hu => ?_⟩⟩⟩
    have hj : j = 0 ∧ u = .int .i64 x := by
      cases j with
      | zero => exact ⟨rfl, by simpa using hu.symm⟩
      | succ j => simp at hu
    obtain ⟨rfl, rfl⟩ := hj
    have := h.cells (g := g) rfl i (.int .i64 x) (by simp [hx])
    rw [Go.WideShapes.add_plain] at this
    simpa using this
theorem sl_byt {Ds : List Nat} {W W' : World} {v : Value} {xs : List Int} (h : SlV 1 KI W v xs) (hb : Byt Ds W W') (hm : ∀ D, D ∈ Ds → W.heap[D]? = some (.deferred (some []))) : SlV 1 KI W' v xs := by
  obtain ⟨A, c, e, h1, h2, h3⟩ := h
  refine ⟨A, c, e, h1, h2, fun hne => ?_⟩
  obtain ⟨b, off, e2, hc⟩ := h3 hne
  refine ⟨b, off, e2, fun i x hx => ?_⟩
  obtain ⟨l, hl, hcl⟩ := hc i x hx
  refine ⟨l, hl, fun j u hu => ?_⟩
  have hk := hcl j u hu
  have hb2 : W'.heap[b]? = W.heap[b]? := hb.block b (fun hD => by
    have := hm b hD
    simp [World.cell?, this] at hk)
  exact (World.cell?_of_block (w := W) hb2).trans hk
/-- append(v, y), a number: behind 'at_builtin'; the world is 'W.alloc' of the variadic's box. -/
theorem append_num {P : Program} {ops : Array Oper} {rest : List Oper} {o : Oper} {a : Act} {Q : Exit → Act → World → Prop} {w0 W : World} (base : Nat) (hgd : o.guard = none) (s x : Operand) (t e : TypeId)
    (ho : o.op = .call { callee := .builtin .append, args := #[s, x], argTypes := #[t, t] })
    (ht : P.underlying t = some (.slice e)) (hinfo : (P.info? e).map (fun i => (i.zero, i.size, i.bytes)) = some (some (.int .i64 0), 1, 8))
    (v : Value) (xs : List Int) (y : Int) (hs : a.eval s = v) (hx : a.eval x = .slice (some ⟨W.heap.size, 0, none⟩) 1 1)
    (HO : W.ownsRow base e 1 v xs.length (xs.map (Value.int .i64))) (HB : Below base w0 W) (hbase : base ≤ W.heap.size) (hl : (xs.length + 1) * 8 ≤ 140737488355328)
    (h : ∀ v1 w1, w1.ownsRow base e 1 v1 (xs ++ [y]).length ((xs ++ [y]).map (Value.int .i64)) → Below base w0 w1 → W.grownBy w1 v.ownBlock → (v1.ownBlock = v.ownBlock ∨ ∃ b, v1.ownBlock = some b ∧ W.heap.size ≤ b) → wpList P ops Q rest (a.put o.dst v1) w1) :
    wpList P ops Q (o :: rest) a (W.alloc (.cells #[.int .i64 y] e)) := by
  obtain ⟨i0, hi, hzz⟩ := Option.map_eq_some_iff.1 hinfo
  simp only [Prod.mk.injEq] at hzz
  obtain ⟨hz0, hz1, hz2⟩ := hzz
  refine wpList_append_own_at (W.alloc (.cells #[.int .i64 y] e)) hgd s x t ho base e i0 (.int .i64 0) 1 8 ht hi hz0 hz1 hz2 rfl (by omega) v xs.length _ hs (HO.alloc _) ⟨W.heap.size, 0, none⟩ 1 1 [.int .i64 y] hx rfl
    (World.news_of_block (cs := #[.int .i64 y]) (t := e) (fr := (0, 0)) (heap_alloc_new W _)) (by simp [Value.oneCell']) (by simp only [maxLen]; omega) hl (by simp; omega) ?_
  intro v1 w1 hown hg _ hat
  refine h v1 w1 (by simpa using hown) ((HB.alloc hbase _).grown hg (by simp; omega) (own_base HO)) (World.grownBy.trans (World.grownBy_alloc W _ _) hg) ?_
  rcases hat with hat | hat
  · exact .inl hat
  · exact .inr ⟨_, hat, by simp⟩
end Go.Proofs.YtpbhoeaadnemhaaGreat
namespace Go.Proofs.YtpbhoeaadnemhaaGreat
open Go.RowKit
set_option linter.unusedVariables false
/-- append(v, y), a number: behind 'at_builtin'; the world is 'W.alloc' of the variadic's box. -/
theorem append_num2 {P : Program} {ops : Array Oper} {rest : List Oper} {o : Oper} {a : Act} {Q : Exit → Act → World → Prop} {w0 W : World} (base : Nat) {B : Nat} (hB : B = W.heap.size) (hgd : o.guard = none) (s x : Operand) (t e : TypeId)
    (ho : o.op = .call { callee := .builtin .append, args := #[s, x], argTypes := #[t, t] })
    (ht : P.underlying t = some (.slice e)) (hinfo : (P.info? e).map (fun i => (i.zero, i.size, i.bytes)) = some (some (.int .i64 0), 1, 8))
    (v : Value) (xs : List Int) (y : Int) (hs : a.eval s = v) (hx : a.eval x = .slice (some ⟨B, 0, none⟩) 1 1)
    (HO : W.ownsRow base e 1 v xs.length (xs.map (Value.int .i64))) (HB : Below base w0 W) (hbase : base ≤ W.heap.size) (hl : (xs.length + 1) * 8 ≤ 140737488355328)
    (h : ∀ v1 w1, w1.ownsRow base e 1 v1 (xs ++ [y]).length ((xs ++ [y]).map (Value.int .i64)) → Below base w0 w1 → W.grownBy w1 v.ownBlock → (v1.ownBlock = v.ownBlock ∨ ∃ b, v1.ownBlock = some b ∧ W.heap.size ≤ b) → wpList P ops Q rest (a.put o.dst v1) w1) :
    wpList P ops Q (o :: rest) a (W.alloc (.cells #[.int .i64 y] e)) := by
  subst hB
  exact append_num base hgd s x t e ho ht hinfo v xs y hs hx HO HB hbase hl h
end Go.Proofs.YtpbhoeaadnemhaaGreat
namespace Go.Proofs.YtpbhoeaadnemhaaGreat
open Go.RowKit Go.ChangeShapes Go.WideShapes
set_option linter.unusedVariables false
set_option linter.unusedSimpArgs false
set_option maxRecDepth 100000
def okW (l : List Nat) : Prop := l.all (· ≤ reachBytes) = true
theorem okW_append {a b : List Nat} : okW (a ++ b) ↔ okW a ∧ okW b := by simp only [okW, List.all_append, Bool.and_eq_true]
theorem okW_each {H : Type} {P : Program} : ∀ {ts : List TypeId} {ds : List (DataW H)}, okW (DataW.weightsEach P ts ds) → ∀ (i : Nat) t d, ts[i]? = some t → ds[i]? = some d → okW (DataW.weights P t d)
  | [], _, _, i, _, _, h, _ => by simp at h
  | _ :: _, [], _, i, _, _, _, h => by simp at h
  | t :: ts, d :: ds, hw, i, t', d', h1, h2 => by
    rw [DataW.weightsEach, okW_append] at hw
    rcases i with _ | i
    · simp at h1 h2
      subst h1 h2
      exact hw.1
    · exact okW_each hw.2 i t' d' (by simpa using h1) (by simpa using h2)
theorem okW_all {H : Type} {P : Program} {e : TypeId} : ∀ {ds : List (DataW H)}, okW (DataW.weightsAll P e ds) → ∀ (i : Nat) d, ds[i]? = some d → okW (DataW.weights P e d)
  | [], _, i, _, h => by simp at h
  | d :: ds, hw, i, d', h2 => by
    rw [DataW.weightsAll, okW_append] at hw
    rcases i with _ | i
    · simp at h2
      subst h2
      exact hw.1
    · exact okW_all hw.2 i d' (by simpa using h2)
/-- A type's cells read as plain data. -/
def Opens {α : Type} (P : Program) (K : World → α → List Value → Prop) (t : TypeId) : Prop :=
  ∀ (H : Type) (enc : TypeId × Value → H) (w : World) (fuel : Nat) (cs : List Value) (x : DataW H × List MemPlace), DataW.trod enc P w 0 (fun _ => true) true fuel t cs = some x → okW (DataW.weights P t x.1) → ∃ a, K w a cs
theorem opens_int {P : Program} {t : TypeId} (ht : P.underlying t = some (.int .i64)) : Opens P KI t := by
  intro H enc w fuel cs x h _
  obtain ⟨n, rfl, _, _⟩ := DataW.trod_int ht h
  exact ⟨n, rfl⟩
theorem trod_fields {P : Program} {t : TypeId} {fs : Array Field} {H : Type} {enc : TypeId × Value → H} {w : World} {fuel : Nat} {cs : List Value} {x : DataW H × List MemPlace} (ht : P.underlying t = some (.struct fs))
    (h : DataW.trod enc P w 0 (fun _ => true) true fuel t cs = some x) (hw : okW (DataW.weights P t x.1)) :
    cs.length = P.cellsOf t ∧ ∀ (i : Nat) (f : Field), fs[i]? = some f → ∃ n y, DataW.trod enc P w 0 (fun _ => true) true n f.type ((cs.drop f.offset).take (P.cellsOf f.type)) = some y ∧ okW (DataW.weights P f.type y.1) := by
  obtain ⟨xs, n, rfl, rfl, hl, hn, hf⟩ := DataW.trod_struct ht h
  refine ⟨hl, fun i f hi => ?_⟩
  have hlt : i < xs.length := by
    rw [hn]
    exact (Array.getElem?_eq_some_iff.1 hi).1
  have e := hf i f hi
  rw [List.getElem?_eq_getElem hlt] at e
  refine ⟨n, _, e, ?_⟩
  simp only [DataW.weights, ht] at hw
  exact okW_each hw i _ _ (by simp [hi]) (by simp [hlt])
theorem trod_items {P : Program} {t e : TypeId} {m : Nat} {H : Type} {enc : TypeId × Value → H} {w : World} {fuel : Nat} {cs : List Value} {x : DataW H × List MemPlace} (ht : P.underlying t = some (.array m e))
    (h : DataW.trod enc P w 0 (fun _ => true) true fuel t cs = some x) (hw : okW (DataW.weights P t x.1)) :
    cs.length = P.cellsOf t ∧ ∀ (i : Nat), i < m → ∃ n y, DataW.trod enc P w 0 (fun _ => true) true n e ((cs.drop (i * P.cellsOf e)).take (P.cellsOf e)) = some y ∧ okW (DataW.weights P e y.1) := by
  obtain ⟨xs, n, rfl, rfl, hl, hn, hf⟩ := DataW.trod_array ht h
  refine ⟨hl, fun i hi => ?_⟩
  have hlt : i < xs.length := by omega
  have e := hf i hi
  rw [List.getElem?_eq_getElem hlt] at e
  refine ⟨n, _, e, ?_⟩
  simp only [DataW.weights, ht] at hw
  exact okW_all hw i _ (by simp [hlt])
theorem pick_list {α : Type} {p : Nat → α → Prop} : ∀ n, (∀ i, i < n → ∃ a, p i a) → ∃ xs : List α, xs.length = n ∧ ∀ i x, xs[i]? = some x → p i x
  | 0, _ => ⟨[], rfl, fun i x h => by simp at h⟩
  | n + 1, h => by
    obtain ⟨xs, hl, hp⟩ := pick_list n fun i hi => h i (by omega)
    obtain ⟨a, ha⟩ := h n (by omega)
    refine ⟨xs ++ [a], by simp [hl], fun i x hx => ?_⟩
    rcases Nat.lt_or_ge i xs.length with c | c
    · rw [List.getElem?_append_left c] at hx
      exact hp i x hx
    · rw [List.getElem?_append_right c] at hx
      have : i - xs.length = 0 := by
        rcases hd : i - xs.length with _ | k
        · rfl
        · rw [hd] at hx
          simp at hx
      rw [this] at hx
      obtain rfl : a = x := by simpa using hx
      obtain rfl : i = n := by omega
      exact ha
theorem add_add {a : Addr} (h : a.spot = none) (m n : Nat) : (a.add m).add n = ⟨a.block, a.off + m + n, none⟩ := by
  obtain ⟨b, o, s⟩ := a
  simp only at h
  subst h
  unfold Addr.add
  by_cases c : m = 0 <;> by_cases d : n = 0 <;> simp [c, d]
theorem cell_spot {w : World} {a : Addr} {v : Value} (h : w.cell? a = some v) : a.spot = none := by
  unfold World.cell? at h
  split at h
  · split at h
    · cases h
    · rename_i c
      simpa using c
  · cases h
def KSl {α : Type} (sz : Nat) (K : World → α → List Value → Prop) (w : World) (xs : List α) (l : List Value) : Prop := ∃ v, l = [v] ∧ SlV sz K w v xs
theorem opens_slice {α : Type} {P : Program} {K : World → α → List Value → Prop} {t e : TypeId} {sz : Nat} (hO : Opens P K e) (ht : P.underlying t = some (.slice e)) (hs : P.cellsOf e = sz) (hp : 0 < sz) (hB : 0 < P.bytesOf e) : Opens P (KSl sz K) t := by
  intro H enc w fuel cs x h hw
  rcases DataW.trod_slice ht h with ⟨rfl, rfl⟩ | ⟨a, len, cap, elems, rest, n, rfl, rfl, rfl, _, hl, hm, hn, hel, _, _⟩
  · exact ⟨[], _, rfl, none, 0, rfl, Nat.le_refl _, Nat.zero_le _, fun h => absurd rfl h⟩
  · simp only [DataW.weights, ht] at hw
    have hw1 : okW [((elems.map (·.1)).length + (rest.map (·.1)).length) * P.bytesOf e] ∧ okW (DataW.weightsAll P e (elems.map (·.1)) ++ DataW.weightsAll P e (rest.map (·.1))) := okW_append.1 (by simpa using hw)
    have hw2 := (okW_append.1 hw1.2).1
    have hbig : len ≤ big := by
      have hz := hw1.1
      simp only [okW, List.all_cons, List.all_nil, Bool.and_true, decide_eq_true_eq, List.length_map] at hz
      have h1 : len * 1 ≤ (elems.length + rest.length) * P.bytesOf e := Nat.mul_le_mul (by omega) hB
      unfold reachBytes at hz
      unfold big
      omega
    have hall : ∀ i, i < len → ∃ a', ∃ l, K w a' l ∧ l.length = sz ∧ ∀ j, j < sz → w.cell? ((a.add (i * sz)).add j) = l[j]? := by
      intro i hi
      have e1 := hel i hi
      rw [List.getElem?_eq_getElem (show i < elems.length by omega), hs] at e1
      obtain ⟨cs', c1, c2⟩ := Option.bind_eq_some_iff.1 e1
      obtain ⟨_, c3, c4⟩ := World.cells?_some c1
      obtain ⟨a', ha⟩ := hO H enc w n cs' _ c2 (okW_all hw2 i _ (by simp [show i < elems.length by omega]))
      exact ⟨a', cs', ha, c3, c4⟩
    obtain ⟨xs, hxl, hxs⟩ := pick_list len hall
    subst hxl
    refine ⟨xs, _, rfl, some a, cap, rfl, hl, hbig, fun hne => ?_⟩
    have hpos : 0 < xs.length := List.length_pos_iff.2 hne
    have hspot : a.spot = none := by
      obtain ⟨_, l, _, hll, hc⟩ := hall 0 hpos
      have e1 := hc 0 hp
      rw [List.getElem?_eq_getElem (show 0 < l.length by omega), Nat.zero_mul] at e1
      have := cell_spot e1
      simpa [Addr.add] using this
    refine ⟨a.block, a.off, ?_, fun i x hx => ?_⟩
    · obtain ⟨b, o, s⟩ := a
      simp only at hspot
      subst hspot
      rfl
    · obtain ⟨l, hk, hll, hc⟩ := hxs i x hx
      refine ⟨l, hk, fun j u hu => ?_⟩
      have hj : j < sz := by
        rw [← hll]
        exact (List.getElem?_eq_some_iff.1 hu).1
      rw [← hu, ← hc j hj, add_add hspot]
end Go.Proofs.YtpbhoeaadnemhaaGreat
namespace Go.Proofs.YtpbhoeaadnemhaaGreat
open Go.RowKit
set_option linter.unusedVariables false
set_option linter.unusedSimpArgs false
/-- The cells of a list, one element behind the other. -/
def Flat {α : Type} (sz : Nat) (K : World → α → List Value → Prop) (w : World) (xs : List α) (cs : List Value) : Prop :=
  cs.length = xs.length * sz ∧ ∀ i x, xs[i]? = some x → ∃ l, K w x l ∧ ∀ j u, l[j]? = some u → cs[i * sz + j]? = some u
/-- An element has sz cells, each of which is one. -/
def Plain {α : Type} (sz : Nat) (K : World → α → List Value → Prop) : Prop := ∀ w x l, K w x l → l.length = sz ∧ ∀ u ∈ l, u.oneCell' = true
theorem KI.pl : Plain 1 KI := by rintro w x l rfl; exact ⟨rfl, by simp [Value.oneCell']⟩
theorem KPt.pl : Plain 2 KPt := by rintro w x l rfl; exact ⟨rfl, by simp [Value.oneCell']⟩
theorem KWl.pl : Plain 5 KWl := by rintro w x l rfl; exact ⟨rfl, by simp [Value.oneCell']⟩
theorem KFd.pl : Plain 6 KFd := by rintro w x l rfl; exact ⟨rfl, by simp [Value.oneCell']⟩
theorem KSrc.pl : Plain 7 KSrc := by
  rintro w x l ⟨v, rfl, A, c, rfl, _⟩
  exact ⟨rfl, by simp [Value.oneCell']⟩
theorem Flat.nil {α : Type} (sz : Nat) (K : World → α → List Value → Prop) (w : World) : Flat sz K w [] [] := ⟨by simp, fun i x h => by simp at h⟩
theorem Flat.mono {α : Type} {sz : Nat} {K : World → α → List Value → Prop} (hK : Stable K) {w w1 : World} {xs : List α} {cs : List Value} (h : Flat sz K w xs cs) (hb : Below w.heap.size w w1) : Flat sz K w1 xs cs :=
  ⟨h.1, fun i x hx => by obtain ⟨l, hl, hc⟩ := h.2 i x hx; exact ⟨l, hK _ _ _ _ hb hl, hc⟩⟩
theorem Flat.snoc {α : Type} {sz : Nat} {K : World → α → List Value → Prop} (hP : Plain sz K) {w : World} {xs : List α} {cs : List Value} (h : Flat sz K w xs cs) {x : α} {l : List Value} (hl : K w x l) : Flat sz K w (xs ++ [x]) (cs ++ l) := by
  refine ⟨by simp [h.1, (hP _ _ _ hl).1, Nat.add_mul], fun i y hy => ?_⟩
  rcases Nat.lt_trichotomy i xs.length with c | c | c
  · rw [List.getElem?_append_left c] at hy
    obtain ⟨l', hl', hc⟩ := h.2 i y hy
    refine ⟨l', hl', fun j u hu => ?_⟩
    have h1 := hc j u hu
    have h2 := (List.getElem?_eq_some_iff.1 h1).1
    rw [List.getElem?_append_left h2]
    exact h1
  · subst c
    rw [List.getElem?_append_right (Nat.le_refl _), Nat.sub_self] at hy
    obtain rfl : x = y := by simpa using hy
    refine ⟨l, hl, fun j u hu => ?_⟩
    rw [List.getElem?_append_right (by rw [h.1]; omega), h.1]
    rw [show xs.length * sz + j - xs.length * sz = j by omega]
    exact hu
  · rw [List.getElem?_eq_none (by simp; omega)] at hy
    cases hy
theorem Flat.one {α : Type} {sz : Nat} {K : World → α → List Value → Prop} {w : World} {cs : List Value} (hP : Plain sz K) (h : Flat sz K w [] cs) : cs = [] := List.eq_nil_of_length_eq_zero (by simpa using h.1)
theorem Flat.cells {α : Type} {sz : Nat} {K : World → α → List Value → Prop} (hP : Plain sz K) {w : World} {xs : List α} {cs : List Value} (h : Flat sz K w xs cs) : ∀ u ∈ cs, u.oneCell' = true := by
  intro u hu
  obtain ⟨k, hk, rfl⟩ := List.mem_iff_getElem.1 hu
  rcases Nat.eq_zero_or_pos sz with rfl | hsz
  · have := h.1
    simp at this
    subst this
    simp at hk
  have hkl := hk
  rw [h.1] at hkl
  have hi : k / sz < xs.length := Nat.div_lt_of_lt_mul (by rw [Nat.mul_comm]; exact hkl)
  obtain ⟨l, hl, hc⟩ := h.2 (k / sz) _ (List.getElem?_eq_getElem hi)
  obtain ⟨hll, hlo⟩ := hP _ _ _ hl
  have hm : k % sz < l.length := by rw [hll]; exact Nat.mod_lt _ hsz
  have h1 := hc (k % sz) _ (List.getElem?_eq_getElem hm)
  rw [Nat.div_add_mod' k sz, List.getElem?_eq_getElem hk] at h1
  have h2 := Option.some.inj h1
  rw [h2]
  exact hlo _ (List.getElem_mem hm)
/-- A row that reads as a list, as flat cells. -/
theorem Rw.flat {α : Type} {sz : Nat} {K : World → α → List Value → Prop} (hP : Plain sz K) {w : World} {b off : Nat} : ∀ {xs : List α}, Rw sz K w (some ⟨b, off, none⟩) xs → ∃ cs, Flat sz K w xs cs ∧ ∀ j u, cs[j]? = some u → w.cell? ⟨b, off + j, none⟩ = some u := by
  intro xs
  suffices hh : ∀ (n : Nat), n ≤ xs.length → (∀ i x, xs[i]? = some x → ∃ l, K w x l ∧ ∀ j u, l[j]? = some u → w.cell? ⟨b, off + i * sz + j, none⟩ = some u) → ∃ cs, Flat sz K w (xs.take n) cs ∧ ∀ j u, cs[j]? = some u → w.cell? ⟨b, off + j, none⟩ = some u by
    intro h
    by_cases hn : xs = []
    · subst hn
      exact ⟨[], Flat.nil _ _ _, fun j u h => by simp at h⟩
    · obtain ⟨b', off', e, hc⟩ := h hn
      cases e
      have := hh xs.length (Nat.le_refl _) hc
      rwa [List.take_length] at this
  intro n
  induction n with
  | zero => intro _ _; exact ⟨[], by simpa using Flat.nil sz K w, fun j u h => by simp at h⟩
  | succ n ih =>
    intro hn hc
    obtain ⟨cs, hf, hcs⟩ := ih (by omega) hc
    have hx : xs[n]? = some xs[n] := List.getElem?_eq_getElem (by omega)
    obtain ⟨l, hl, hlc⟩ := hc n _ hx
    refine ⟨cs ++ l, ?_, fun j u hu => ?_⟩
    · rw [List.take_add_one, hx]
      exact hf.snoc hP hl
    · have hcl : cs.length = n * sz := by rw [hf.1, List.length_take, Nat.min_eq_left (by omega)]
      rcases Nat.lt_or_ge j cs.length with c | c
      · rw [List.getElem?_append_left c] at hu
        exact hcs j u hu
      · rw [List.getElem?_append_right c, hcl] at hu
        have := hlc _ _ hu
        rw [show off + n * sz + (j - n * sz) = off + j by omega] at this
        exact this
/-- A row of the call's own reads as its list. -/
theorem own_sl2 {α : Type} {sz : Nat} {K : World → α → List Value → Prop} (hP : Plain sz K) {w : World} {base : Nat} {e : TypeId} {v : Value} {xs : List α} {cs : List Value} (h : w.ownsRow base e sz v xs.length cs) (hf : Flat sz K w xs cs) (hl : xs.length ≤ big) : SlV sz K w v xs := by
  rcases h.2 with ⟨rfl, h0⟩ | ⟨g, cap, cur, rfl, _, _, h1, _, _⟩
  · obtain rfl : xs = [] := List.eq_nil_of_length_eq_zero h0
    exact ⟨none, 0, rfl, Nat.le_refl _, Nat.zero_le _, fun h => absurd rfl h⟩
  · refine ⟨_, cap, rfl, h1, hl, fun _ => ⟨g, 0, rfl, fun i x hx => ?_⟩⟩
    obtain ⟨l, hk, hc⟩ := hf.2 i x hx
    refine ⟨l, hk, fun j u hu => ?_⟩
    have := h.cells (g := g) rfl (i * sz + j) u (hc j u hu)
    rw [Go.WideShapes.add_plain] at this
    simpa using this
/-- A slice held against nil. -/
theorem eql_nil {P : Program} (w : World) (t e : TypeId) (a : Option Addr) (l c : Nat) (h : P.underlying t = some (.slice e)) : (binOp .eql t (.slice a l c) (.slice none 0 0)).run P w = .ok (.bool a.isNone) w := by
  simp only [binOp]
  simp [run_equal_slice_nil w t e a l c h]
/-- append(v, u...): behind 'at_builtin'. -/
theorem append_cells {P : Program} {ops : Array Oper} {rest : List Oper} {o : Oper} {a : Act} {Q : Exit → Act → World → Prop} {w0 W : World} (base : Nat) (hgd : o.guard = none) (s x : Operand) (t e : TypeId)
    (ho : o.op = .call { callee := .builtin .append, args := #[s, x], argTypes := #[t, t] })
    (ht : P.underlying t = some (.slice e)) {z : Value} {sz bytes : Nat} (hinfo : (P.info? e).map (fun i => (i.zero, i.size, i.bytes)) = some (some z, sz, bytes)) (hzs : z.cells.size = sz) (hsz : 0 < sz)
    (v : Value) (n : Nat) (xs : List Value) (hs : a.eval s = v) (ad : Addr) (m c : Nat) (news : List Value) (hx : a.eval x = .slice (some ad) m c) (hl : news.length = m * sz) (hnews : ∀ j u, news[j]? = some u → W.cell? (ad.add j) = some u) (h1 : ∀ u ∈ news, u.oneCell' = true)
    (HO : W.ownsRow base e sz v n xs) (HB : Below base w0 W) (hbase : base ≤ W.heap.size) (h63 : n + m ≤ maxLen) (hbytes : (n + m) * bytes ≤ 140737488355328)
    (h : ∀ v1 w1, w1.ownsRow base e sz v1 (n + m) (xs ++ news) → Below base w0 w1 → W.grownBy w1 v.ownBlock → (v1.ownBlock = v.ownBlock ∨ ∃ b, v1.ownBlock = some b ∧ W.heap.size ≤ b) → wpList P ops Q rest (a.put o.dst v1) w1) :
    wpList P ops Q (o :: rest) a W := by
  obtain ⟨i0, hi, hzz⟩ := Option.map_eq_some_iff.1 hinfo
  simp only [Prod.mk.injEq] at hzz
  obtain ⟨hz0, hz1, hz2⟩ := hzz
  refine wpList_append_own_at W hgd s x t ho base e i0 z sz bytes ht hi hz0 hz1 hz2 hzs hsz v n xs hs HO ad m c news hx hl hnews h1 h63 hbytes hbase ?_
  intro v1 w1 hown hg _ hat
  refine h v1 w1 hown (HB.grown hg hbase (own_base HO)) hg ?_
  rcases hat with hat | hat
  · exact .inl hat
  · exact .inr ⟨_, hat, Nat.le_refl _⟩
/-- .. at a step of a region that draws its order. -/
theorem step_append_cells {P : Program} {ops : Array Oper} {o : Oper} {a : Act} {K : Act → World → Prop} {Q : Exit → Act → World → Prop} {E : Prop} {W : World} (base : Nat) (hgd : o.guard = none) (s x : Operand) (t e : TypeId)
    (ho : o.op = .call { callee := .builtin .append, args := #[s, x], argTypes := #[t, t] })
    (ht : P.underlying t = some (.slice e)) {z : Value} {sz bytes : Nat} (hinfo : (P.info? e).map (fun i => (i.zero, i.size, i.bytes)) = some (some z, sz, bytes)) (hzs : z.cells.size = sz) (hsz : 0 < sz)
    (v : Value) (n : Nat) (xs : List Value) (hs : a.eval s = v) (ad : Addr) (m c : Nat) (news : List Value) (hx : a.eval x = .slice (some ad) m c) (hl : news.length = m * sz) (hnews : ∀ j u, news[j]? = some u → W.cell? (ad.add j) = some u) (h1 : ∀ u ∈ news, u.oneCell' = true) (hm : 0 < m)
    (HO : W.ownsRow base e sz v n xs) (hbase : base ≤ W.heap.size) (h63 : n + m ≤ maxLen) (hbytes : (n + m) * bytes ≤ 140737488355328)
    (h : ∀ g cap w1, w1.ownsRow base e sz (.slice (some ⟨g, 0, none⟩) (n + m) cap) (n + m) (xs ++ news) → (∀ b0 w0, b0 ≤ base → b0 ≤ W.heap.size → Below b0 w0 W → Below b0 w0 w1) → K (a.put o.dst (.slice (some ⟨g, 0, none⟩) (n + m) cap)) w1) :
    if Region.wanted o (yielded ops a.tmps) = true then Oper.wp P o a W K Q else E := by
  obtain ⟨i0, hi, hzz⟩ := Option.map_eq_some_iff.1 hinfo
  simp only [Prod.mk.injEq] at hzz
  obtain ⟨hz0, hz1, hz2⟩ := hzz
  refine step_append_lies W hgd s x t ho base e i0 z sz bytes ht hi hz0 hz1 hz2 hzs hsz v n xs hs HO ad m c news hx hl hnews h1 hm h63 hbytes hbase _ rfl ?_
  intro g cap w1 hown hg _ _
  exact h g cap w1 hown fun b0 w0 h0 h2 hb => hb.grown hg h2 fun k hk => Nat.le_trans h0 (own_base HO k hk)
end Go.Proofs.YtpbhoeaadnemhaaGreat
namespace Go.Proofs.YtpbhoeaadnemhaaGreat
open Go.RowKit
set_option linter.unusedVariables false
theorem upon_round {n l : Nat} {P : Program} {o : Oper} {a : Act} {K : Act → World → Prop} {Q : Exit → Act → World → Prop} {r : Result Next} (h : o.uponIn Fence.wide n P a K Q r) : o.uponIn (Fence.wide.inRound l) n P a K Q r := by
  unfold Oper.uponIn at h ⊢
  split at h <;> exact h
theorem oper_round {n l : Nat} {P : Program} {o : Oper} {a : Act} {w : World} {K : Act → World → Prop} {Q : Exit → Act → World → Prop} (hd : ∀ c, o.op ≠ .defer c) (h : o.wpIn Fence.wide n P a w K Q) : o.wpIn (Fence.wide.inRound l) n P a w K Q := by
  refine ⟨fun f hf => h.1 f hf, ?_⟩
  have h2 := h.2
  have e1 : o.semAt (Fence.wide).round a.eval = execOp a.eval o := Oper.semAt_none _ _
  have e2 : o.semAt (Fence.wide.inRound l).round a.eval = execOp a.eval o := Oper.semAt_some l _ o hd
  rw [e1] at h2
  rw [e2]
  exact upon_round h2
theorem op_round {n l : Nat} {P : Program} {ops : Array Oper} {a : Act} {w : World} {K : Act → World → Prop} {Q : Exit → Act → World → Prop} {i : Nat} (hd : ∀ (j : Nat) (o : Oper), ops[j]? = some o → ∀ c, o.op ≠ .defer c)
    (h : wpOpIn Fence.wide n P ops Q i K a w) : wpOpIn (Fence.wide.inRound l) n P ops Q i K a w := by
  unfold wpOpIn at h ⊢
  split at h
  · exact h
  · rename_i o ho
    split at h
    · rename_i hw
      simp only [hw, if_true]
      exact oper_round (hd i o ho) h
    · rename_i hw
      simp only [hw]
      exact ⟨fun f hf => h.1 f hf, h.2⟩
theorem any_round {n l : Nat} {P : Program} {md : Region.Mode} {ops : Array Oper} {Q : Exit → Act → World → Prop} (hd : ∀ (j : Nat) (o : Oper), ops[j]? = some o → ∀ c, o.op ≠ .defer c) :
    ∀ (fuel : Nat) (listed : Array Bool) (a : Act) (w : World), wpAnyIn Fence.wide n P md ops Q fuel listed a w → wpAnyIn (Fence.wide.inRound l) n P md ops Q fuel listed a w
  | 0, _, _, _, h => h
  | fuel + 1, _, _, _, h => ⟨h.1, fun i hi => op_round hd (wpOpIn_mono (fun a w hh => any_round hd fuel _ a w hh) (h.2 i hi))⟩
def noDefer (o : Oper) : Bool := match o.op with | .defer _ => false | _ => true
theorem noDefer_all {os : List Oper} (h : os.all noDefer = true) : ∀ (j : Nat) (o : Oper), os.toArray[j]? = some o → ∀ c, o.op ≠ .defer c := by
  intro j o ho c e
  have h1 : o ∈ os := List.mem_of_getElem? (by simpa using ho)
  have h2 := List.all_eq_true.1 h o h1
  simp [noDefer, e] at h2
theorem quiet_wide {n : Nat} {P : Program} {ops : Array Oper} {C : World → Prop} {Q : Act → Prop} : ∀ (l : List Oper) (a : Act), wpQuiet P ops C Q l a → wpQuietIn Fence.wide n P ops C Q l a
  | [], _, h => h
  | o :: rest, a, h => by
    refine ⟨fun w _ f _ => trivial, ?_⟩
    unfold wpQuiet at h
    split at h
    · rename_i hw
      rw [if_pos hw]
      obtain ⟨v, h1, h2⟩ := h
      refine ⟨v, fun w hc => ?_, quiet_wide rest _ h2⟩
      have h3 := h1 w hc
      unfold Oper.quietAt at h3
      unfold Oper.quietAtIn
      generalize (execOp a.eval o).run P w = r at *
      cases r with
      | ok x w' =>
        cases x <;> simp only [Oper.quietUpon] at h3 <;> simp only [Oper.quietUponIn]
        case value u => exact h3
        case skip => exact h3
        case enter f args => exact ⟨h3.1, fun h => (by cases h), callsIn_wide.2 h3.2⟩
      | halt x w' => simp only [Oper.quietUpon] at h3
    · rename_i hw
      rw [if_neg hw]
      exact quiet_wide rest _ h
/-- A region that draws its order, within a round of a range over a function: its operations read, its callees leave old memory as it was. -/
theorem wpIn_region_later_round {n l id : Nat} {P : Program} {Q : Exit → Act → World → Prop} {a : Act} {w : World} {os : List Oper} (hd : os.all noDefer = true) (hm : P.follows .mixedOrders = true) (hB : Region.lexB .any os.toArray = true)
    (h : wpQuiet P os.toArray (fun w' => ∃ x : Later w, w' = x.W) (fun a' => ∀ w', (∃ x : Later w, w' = x.W) → Q .normal a' w') os a) : (Code.region id os.toArray true).wpIn (Fence.wide.inRound l) n P Q a w := by
  simp only [Region.lexB, Bool.and_eq_true] at hB
  refine wpIn_region_any hm (any_round (noDefer_all hd) _ _ _ _ (wpAnyIn_of_quiet (C := fun w' => ∃ x : Later w, w' = x.W) (Q := fun a' => ∀ w', (∃ x : Later w, w' = x.W) → Q .normal a' w') rfl (fun _ w' hw' h => h w' hw') _ _ _ _ ⟨⟨w.drew, b_drew (Below.refl _ _)⟩, rfl⟩ ?_))
  have := wpAnyQIn_lex (F := Fence.wide) (n := n) (C := fun w' => ∃ x : Later w, w' = x.W) (md := .any) hB.1 os 0 (Array.replicate os.toArray.size false) a (by simp) (by simpa using hB.2) (quiet_wide (n := n) _ _ h)
  simpa using this
end Go.Proofs.YtpbhoeaadnemhaaGreat
namespace Go.Proofs.YtpbhoeaadnemhaaGreat
open Go.RowKit
set_option linter.unusedVariables false
def trivO (o : Oper) : Oper := { o with dst := none, op := .assign (.const (.bool false)), guard := none }
/-- Each operation waits for earlier ones alone; each but the last one is awaited by a later one. -/
def chainB (os : Array Oper) : Bool :=
  (List.range os.size).all fun k => ((os[k]?).map fun o => o.after.all fun e => !Region.binds .any e || decide (e.on < k)).getD true &&
    (decide (k + 1 = os.size) || (List.range os.size).any fun j => decide (k < j) && ((os[j]?).map fun o => o.after.any fun e => Region.binds .any e && e.on == k).getD false)
def guardsB (l : List Oper) : Bool := l.all fun p => match p.guard with
  | none => true
  | some (j, _) => decide (j < l.length)
theorem tail_get (l t : List Oper) (i : Nat) : (l ++ t).toArray[i]? = if i < l.length then l[i]? else t[i - l.length]? := by
  simp only [List.getElem?_toArray]
  rw [List.getElem?_append]
theorem ready_triv (md : Region.Mode) (l t : List Oper) (listed : Array Bool) : Region.ready md (l ++ t.map trivO).toArray listed = Region.ready md (l ++ t).toArray listed := by
  unfold Region.ready
  have hs : (l ++ t.map trivO).toArray.size = (l ++ t).toArray.size := by simp
  rw [hs]
  refine List.filter_congr fun i _ => ?_
  rw [tail_get, tail_get]
  split
  · rfl
  · rw [List.getElem?_map]
    cases t[i - l.length]? <;> rfl
theorem wanted_triv {l : List Oper} (t : List Oper) (hg : guardsB l = true) {p : Oper} (hp : p ∈ l) (tmps : Array Value) : Region.wanted p (yielded (l ++ t.map trivO).toArray tmps) = Region.wanted p (yielded (l ++ t).toArray tmps) := by
  unfold guardsB at hg
  rw [List.all_eq_true] at hg
  have h := hg p hp
  unfold Region.wanted
  rcases hgp : p.guard with _ | ⟨j, b⟩
  · rfl
  · rw [hgp] at h
    dsimp only at h
    rw [decide_eq_true_eq] at h
    dsimp only
    unfold yielded
    rw [tail_get, tail_get, if_pos h, if_pos h]
theorem quiet_trivs {P : Program} {C : World → Prop} {Q : Act → Prop} {ops : Array Oper} : ∀ (t : List Oper) (a : Act), Q a → wpQuiet P ops C Q (t.map trivO) a
  | [], a, h => h
  | o :: t, a, h => by
    rw [List.map_cons]
    unfold wpQuiet
    have hw : Region.wanted (trivO o) (yielded ops a.tmps) = true := rfl
    rw [if_pos hw]
    refine ⟨.bool false, fun w hc => ?_, quiet_trivs t a h⟩
    unfold Oper.quietAt
    exact ⟨rfl, rfl⟩
theorem quiet_triv {P : Program} {C : World → Prop} {Q : Act → Prop} {l : List Oper} (t : List Oper) (hg : guardsB l = true) : ∀ (r : List Oper) (a : Act), (∀ p ∈ r, p ∈ l) → wpQuiet P (l ++ t).toArray C Q r a → wpQuiet P (l ++ t.map trivO).toArray C Q (r ++ t.map trivO) a
  | [], a, _, h => quiet_trivs t a h
  | p :: r, a, hr, h => by
    rw [List.cons_append]
    unfold wpQuiet at h ⊢
    rw [wanted_triv t hg (hr p (List.mem_cons_self ..))]
    have hr' : ∀ q ∈ r, q ∈ l := fun q hq => hr q (List.mem_cons_of_mem _ hq)
    split at h
    · rename_i hw
      rw [if_pos hw]
      obtain ⟨v, h1, h2⟩ := h
      exact ⟨v, h1, quiet_triv t hg r _ hr' h2⟩
    · rename_i hw
      rw [if_neg hw]
      exact quiet_triv t hg r _ hr' h
section
variable {n : Nat} {F : Fence} {P : Program} {C : World → Prop} {Q' : Act → Prop} {Q : Exit → Act → World → Prop} {l t : List Oper}
/-- What is listed waits for nothing that is not. -/
def Closed (os : Array Oper) (listed : Array Bool) : Prop :=
  listed.size = os.size ∧ ∀ k p, os[k]? = some p → listed.getD k false = true → ∀ e ∈ p.after, Region.binds .any e = true → listed.getD e.on false = true
theorem getD_tf {b : Array Bool} {k : Nat} (h : k < b.size) : b.getD k true = b.getD k false := by simp [Array.getD, h]
theorem Closed.set {os : Array Oper} {listed : Array Bool} (h : Closed os listed) {i : Nat} (hi : i ∈ Region.ready .any os listed) : Closed os (listed.setIfInBounds i true) := by
  obtain ⟨h0, oi, hoi, hall⟩ := mem_ready.1 hi
  have hmono : ∀ k, listed.getD k false = true → (listed.setIfInBounds i true).getD k false = true := by
    intro k hk
    by_cases c : i = k
    · subst c
      by_cases c2 : i < listed.size
      · simp [Array.getD, c2]
      · simp [Array.getD, c2] at hk
    · rwa [getD_set_ne false c]
  refine ⟨by simp [h.1], fun k p hp hk e he hb => hmono _ ?_⟩
  by_cases c : i = k
  · subst c
    rw [hoi] at hp
    cases hp
    exact hall e he hb
  · rw [getD_set_ne false c] at hk
    exact h.2 k p hp hk e he hb
theorem chain_all {os : Array Oper} (hc : chainB os = true) {k : Nat} (hk : k < os.size) : (∀ p, os[k]? = some p → ∀ e ∈ p.after, Region.binds .any e = true → e.on < k) ∧
    (k + 1 = os.size ∨ ∃ j p e, k < j ∧ j < os.size ∧ os[j]? = some p ∧ e ∈ p.after ∧ Region.binds .any e = true ∧ e.on = k) := by
  unfold chainB at hc
  rw [List.all_eq_true] at hc
  have h := hc k (List.mem_range.2 hk)
  rw [Bool.and_eq_true] at h
  obtain ⟨h1, h2⟩ := h
  constructor
  · intro p hp e he hb
    rw [hp] at h1
    simp only [Option.map_some, Option.getD_some] at h1
    rw [Array.all_eq_true_iff_forall_mem] at h1
    have := h1 e he
    simpa [hb] using this
  · rw [Bool.or_eq_true, decide_eq_true_eq] at h2
    rcases h2 with h2 | h2
    · exact .inl h2
    · right
      rw [List.any_eq_true] at h2
      obtain ⟨j, hj, h3⟩ := h2
      rw [Bool.and_eq_true, decide_eq_true_eq] at h3
      obtain ⟨h3, h4⟩ := h3
      have hj2 := List.mem_range.1 hj
      obtain ⟨p, hp⟩ : ∃ p, os[j]? = some p := ⟨_, Array.getElem?_eq_getElem hj2⟩
      rw [hp] at h4
      simp only [Option.map_some, Option.getD_some] at h4
      rw [Array.any_eq_true'] at h4
      obtain ⟨e, he, h5⟩ := h4
      simp only [Bool.and_eq_true, beq_iff_eq] at h5
      exact ⟨j, p, e, h3, hj2, hp, he, h5.1, h5.2⟩
theorem last_waits {os : Array Oper} {m : Nat} (hc : chainB (os.take (m + 1)) = true) (hm : m < os.size) {listed : Array Bool} (hL : Closed os listed) (hr : m ∈ Region.ready .any os listed) : ∀ d k, k + d = m → k < m → listed.getD k false = true
  | 0, k, h, hk => by omega
  | d + 1, k, h, hk => by
    have hsz : (os.take (m + 1)).size = m + 1 := by simp; omega
    obtain ⟨_, h2⟩ := chain_all hc (k := k) (by omega)
    rcases h2 with h2 | ⟨j, p, e, h3, h4, h5, h6, h7, h8⟩
    · omega
    · rw [hsz] at h4
      have h5' : os[j]? = some p := by
        obtain ⟨_, e5⟩ := Array.getElem?_eq_some_iff.1 h5
        rw [← e5]
        simp only [Array.take_eq_extract, Array.getElem_extract, Nat.zero_add]
        exact Array.getElem?_eq_getElem (by omega)
      clear h5
      have h5 := h5'
      by_cases c : j = m
      · subst c
        obtain ⟨_, oi, hoi, hall⟩ := mem_ready.1 hr
        rw [h5] at hoi
        cases hoi
        rw [← h8]
        exact hall e h6 h7
      · have ih := last_waits hc hm hL hr (m - j) j (by omega) (by omega)
        rw [← h8]
        exact hL.2 j p h5 ih e h6 h7
  termination_by d k => m - k
theorem none_ready {os : Array Oper} (hc : chainB os = true) {listed : Array Bool} (hL : Closed os listed) (hr : Region.ready .any os listed = []) : ∀ n k, k ≤ n → k < os.size → listed.getD k false = true
  | n, k, hn, hk => by
    by_cases c : listed.getD k false = true
    · exact c
    · exfalso
      have hkr : k ∈ Region.ready .any os listed := by
        rw [mem_ready]
        refine ⟨by rw [getD_tf (by rw [hL.1]; exact hk)]; simpa using c, _, Array.getElem?_eq_getElem hk, fun e he hb => ?_⟩
        have h1 := (chain_all hc hk).1 _ (Array.getElem?_eq_getElem hk) e he hb
        exact none_ready hc hL hr (k - 1) e.on (by omega) (by omega)
      rw [hr] at hkr
      cases hkr
  termination_by n k => k
/-- All operations from the number m on wait for all before them. -/
def tailsB (os : Array Oper) (m : Nat) : Bool := (List.range os.size).all fun k => decide (k < m) || chainB (os.take (k + 1))
theorem tails_at {os : Array Oper} {m k : Nat} (h : tailsB os m = true) (h1 : m ≤ k) (h2 : k < os.size) : chainB (os.take (k + 1)) = true := by
  unfold tailsB at h
  rw [List.all_eq_true] at h
  have := h k (List.mem_range.2 h2)
  simpa [Nat.not_lt.2 h1] using this
/-- Behind the first ones, the last ones come in their order. -/
theorem tail_run (hc : chainB (l ++ t).toArray = true) (ht : tailsB (l ++ t).toArray l.length = true) : ∀ (fuel : Nat) (r : List Oper) (k : Nat) (listed : Array Bool) (a0 a : Act) (w : World), l.length ≤ k → k + r.length = (l ++ t).length → (∀ j, r[j]? = t[k - l.length + j]?) →
    Closed (l ++ t).toArray listed → (∀ j, j < k → listed.getD j false = true) → (∀ j, k ≤ j → listed.getD j false = false) →
    wpAnyQIn Fence.wide n P .any (l ++ t.map trivO).toArray C Q' fuel listed a0 → wpListIn F n P (l ++ t).toArray Q r a w → wpAnyIn F n P .any (l ++ t).toArray Q fuel listed a w := by
  intro fuel
  induction fuel with
  | zero =>
    intro r k listed a0 a w hk hlen hr hL hlo hhi hq h
    have h0 := hq.1
    rw [ready_triv] at h0
    cases r with
    | nil => exact ⟨h0, h⟩
    | cons o r =>
      exfalso
      rw [List.length_cons] at hlen
      have := none_ready hc hL h0 k k (Nat.le_refl _) (by simp only [List.size_toArray]; omega)
      rw [hhi k (Nat.le_refl _)] at this
      cases this
  | succ fuel ih =>
    intro r k listed a0 a w hk hlen hr hL hlo hhi hq h
    have only : ∀ i, i ∈ Region.ready .any (l ++ t).toArray listed → i = k ∧ i < (l ++ t).toArray.size := fun i hi => by
      have hi2 : i < (l ++ t).toArray.size := List.mem_range.1 (List.mem_filter.1 hi).1
      have hi3 := (mem_ready.1 hi).1
      rw [getD_tf (by rw [hL.1]; exact hi2)] at hi3
      have hik : k ≤ i := Nat.le_of_not_lt fun c => by rw [hlo i c] at hi3; cases hi3
      refine ⟨?_, hi2⟩
      by_cases c : i = k
      · exact c
      · exfalso
        have := last_waits (tails_at ht (by omega) hi2) hi2 hL hi (i - k) k (by omega) (by omega)
        rw [hhi k (Nat.le_refl _)] at this
        cases this
    cases r with
    | nil =>
      rw [List.length_nil] at hlen
      refine ⟨fun _ => h, fun i hi => ?_⟩
      obtain ⟨rfl, h2⟩ := only i hi
      simp only [List.size_toArray] at h2
      omega
    | cons o r =>
      rw [List.length_cons] at hlen
      refine ⟨fun h0 => ?_, fun i hi => ?_⟩
      · exfalso
        have := none_ready hc hL h0 k k (Nat.le_refl _) (by simp only [List.size_toArray]; omega)
        rw [hhi k (Nat.le_refl _)] at this
        cases this
      · obtain ⟨rfl, h2⟩ := only i hi
        have hto : t[i - l.length]? = some o := by have := hr 0; simpa using this.symm
        have hq2 := hq.2 i (by rw [ready_triv]; exact hi)
        unfold qOpIn at hq2
        rw [tail_get, if_neg (by omega), List.getElem?_map, hto] at hq2
        simp only [Option.map_some] at hq2
        obtain ⟨_, hq2⟩ := hq2
        have hw : Region.wanted (trivO o) (yielded (l ++ t.map trivO).toArray a0.tmps) = true := rfl
        rw [if_pos hw] at hq2
        obtain ⟨v, _, hq3⟩ := hq2
        have hset : ∀ j, j < i + 1 → (listed.setIfInBounds i true).getD j false = true := fun j hj => by
          by_cases c : i = j
          · subst c
            have : i < listed.size := by rw [hL.1]; exact h2
            simp [Array.getD, this]
          · rw [getD_set_ne false c]; exact hlo j (by omega)
        have hset2 : ∀ j, i + 1 ≤ j → (listed.setIfInBounds i true).getD j false = false := fun j hj => by
          rw [getD_set_ne false (by omega)]; exact hhi j (by omega)
        have step : ∀ a2 w2, wpListIn F n P (l ++ t).toArray Q r a2 w2 → wpAnyIn F n P .any (l ++ t).toArray Q fuel (listed.setIfInBounds i true) a2 w2 := fun a2 w2 hh =>
          ih r (i + 1) _ _ a2 w2 (by omega) (by omega) (fun j => by have := hr (j + 1); rw [show i - l.length + (j + 1) = i + 1 - l.length + j by omega] at this; simpa using this) (hL.set hi) hset hset2 hq3 hh
        unfold wpOpIn
        rw [tail_get, if_neg (by omega), hto]
        dsimp only
        unfold wpListIn at h
        split at h
        · rename_i hw
          rw [if_pos hw]
          exact Oper.wpIn_mono step h
        · rename_i hw
          rw [if_neg hw]
          exact ⟨h.1, step _ _ h.2⟩
theorem any_tail (hg : guardsB l = true) (ht0 : 0 < t.length) (hF : ∀ i K a w, wpOpIn Fence.wide n P (l ++ t).toArray Q i K a w → wpOpIn F n P (l ++ t).toArray Q i K a w) (hc : chainB (l ++ t).toArray = true) (ht : tailsB (l ++ t).toArray l.length = true)
    (hlast : ∀ a w, C w → Q' a → wpListIn F n P (l ++ t).toArray Q t a w) :
    ∀ (fuel : Nat) (listed : Array Bool) (a : Act) (w : World), C w → Closed (l ++ t).toArray listed → (∀ j, l.length ≤ j → listed.getD j false = false) →
      wpAnyQIn Fence.wide n P .any (l ++ t.map trivO).toArray C Q' fuel listed a → wpAnyIn F n P .any (l ++ t).toArray Q fuel listed a w := by
  have noEnd : ∀ listed : Array Bool, Closed (l ++ t).toArray listed → listed.getD l.length false = false → Region.ready .any (l ++ t).toArray listed = [] → False := fun listed hL hm h0 => by
    have := none_ready hc hL h0 l.length l.length (Nat.le_refl _) (by simp; omega)
    rw [hm] at this
    cases this
  have post : ∀ (r : List Oper) (k : Nat), l.length ≤ k → k + r.length = (l ++ t).length → (∀ j, r[j]? = t[k - l.length + j]?) → ∀ (fuel : Nat) (listed : Array Bool) (a : Act), Closed (l ++ t).toArray listed → (∀ j, j < k → listed.getD j false = true) → (∀ j, k ≤ j → listed.getD j false = false) →
      wpAnyQIn Fence.wide n P .any (l ++ t.map trivO).toArray C Q' fuel listed a → Q' a := by
    intro r
    induction r with
    | nil =>
      intro k hk hlen hr fuel listed a hL hlo hhi hq
      have h0 : Region.ready .any (l ++ t).toArray listed = [] := by
        rw [List.eq_nil_iff_forall_not_mem]
        intro i hi
        have hi2 : i < (l ++ t).toArray.size := List.mem_range.1 (List.mem_filter.1 hi).1
        have hi3 := (mem_ready.1 hi).1
        rw [getD_tf (by rw [hL.1]; exact hi2), hlo i (by simp only [List.size_toArray, List.length_nil] at *; omega)] at hi3
        cases hi3
      cases fuel with
      | zero => exact hq.2
      | succ f => exact hq.1 (by rw [ready_triv]; exact h0)
    | cons o r ih =>
      intro k hk hlen hr fuel listed a hL hlo hhi hq
      rw [List.length_cons] at hlen
      have hto : t[k - l.length]? = some o := by have := hr 0; simpa using this.symm
      have hksz : k < (l ++ t).toArray.size := by simp only [List.size_toArray]; omega
      have hkr : k ∈ Region.ready .any (l ++ t).toArray listed := by
        rw [mem_ready]
        refine ⟨by rw [getD_tf (by rw [hL.1]; exact hksz)]; exact hhi k (Nat.le_refl _), _, Array.getElem?_eq_getElem hksz, fun e he hb => ?_⟩
        exact hlo _ ((chain_all hc hksz).1 _ (Array.getElem?_eq_getElem hksz) e he hb)
      cases fuel with
      | zero =>
        have h0 := hq.1
        rw [ready_triv] at h0
        rw [h0] at hkr
        cases hkr
      | succ f =>
        have hq2 := hq.2 k (by rw [ready_triv]; exact hkr)
        unfold qOpIn at hq2
        rw [tail_get, if_neg (by omega), List.getElem?_map, hto] at hq2
        simp only [Option.map_some] at hq2
        obtain ⟨_, hq2⟩ := hq2
        have hw : Region.wanted (trivO o) (yielded (l ++ t.map trivO).toArray a.tmps) = true := rfl
        rw [if_pos hw] at hq2
        obtain ⟨v, _, hq3⟩ := hq2
        refine ih (k + 1) (by omega) (by omega) (fun j => by have := hr (j + 1); rw [show k - l.length + (j + 1) = k + 1 - l.length + j by omega] at this; simpa using this) f _ a (hL.set hkr) (fun j hj => ?_) (fun j hj => ?_) hq3
        · by_cases c : k = j
          · subst c
            have : k < listed.size := by rw [hL.1]; exact hksz
            simp [Array.getD, this]
          · rw [getD_set_ne false c]; exact hlo j (by omega)
        · rw [getD_set_ne false (by omega)]; exact hhi j (by omega)
  intro fuel
  induction fuel with
  | zero =>
    intro listed a w hw hL hm h
    exact (noEnd listed hL (hm _ (Nat.le_refl _)) (by rw [← ready_triv]; exact h.1)).elim
  | succ fuel ih =>
    intro listed a w hw hL hm h
    by_cases call : ∀ j, j < l.length → listed.getD j false = true
    · have hr : ∀ j, t[j]? = t[l.length - l.length + j]? := fun j => by simp
      have hlen : l.length + t.length = (l ++ t).length := by simp
      exact tail_run hc ht (fuel + 1) t l.length listed a a w (Nat.le_refl _) hlen hr hL call hm h (hlast a w hw (post t l.length (Nat.le_refl _) hlen hr (fuel + 1) listed a hL call hm h))
    refine ⟨fun h0 => (noEnd listed hL (hm _ (Nat.le_refl _)) h0).elim, fun i hi => ?_⟩
    have hq := h.2 i (by rw [ready_triv]; exact hi)
    have hi2 : i < (l ++ t).toArray.size := List.mem_range.1 (List.mem_filter.1 hi).1
    have hil : i < l.length := by
      apply Nat.lt_of_not_le
      intro hge
      apply call
      intro j hj
      exact last_waits (tails_at ht hge hi2) hi2 hL hi (i - j) j (by omega) (by omega)
    have hli : l[i]? = some l[i] := List.getElem?_eq_getElem hil
    refine hF _ _ _ _ ?_
    have hop : qOpIn Fence.wide n P (l ++ t).toArray C i (wpAnyQIn Fence.wide n P .any (l ++ t.map trivO).toArray C Q' fuel (listed.setIfInBounds i true)) a := by
      unfold qOpIn at hq ⊢
      rw [tail_get, if_pos hil, hli] at hq ⊢
      dsimp only at hq ⊢
      rw [wanted_triv t hg (List.getElem_mem hil)] at hq
      exact hq
    refine wpOpIn_of_qOpIn rfl hw (fun a' w' hw' hh => ih _ a' w' hw' (hL.set hi) (fun j hj => by rw [getD_set_ne false (by omega)]; exact hm j hj) hh) hop
/-- What the kernel reckons of a region's operations, the last k of which come last. -/
def tailOk (os : List Oper) (k : Nat) : Bool :=
  guardsB (os.take (os.length - k)) && decide (0 < k) && decide (k ≤ os.length) && Region.lexB .any (os.take (os.length - k) ++ (os.drop (os.length - k)).map trivO).toArray && chainB os.toArray && tailsB os.toArray (os.length - k)
theorem any_of_tail {os : List Oper} {k : Nat} {a : Act} {w : World} (hok : tailOk os k = true) (hF : ∀ i K a w, wpOpIn Fence.wide n P os.toArray Q i K a w → wpOpIn F n P os.toArray Q i K a w)
    (h : wpQuiet P os.toArray (fun w' => ∃ x : Later w, w' = x.W) (fun a' => ∀ w', (∃ x : Later w, w' = x.W) → wpListIn F n P os.toArray Q (os.drop (os.length - k)) a' w') (os.take (os.length - k)) a) :
    wpAnyIn F n P .any os.toArray Q os.toArray.size (Array.replicate os.toArray.size false) a w.drew := by
  simp only [tailOk, Bool.and_eq_true, decide_eq_true_eq] at hok
  obtain ⟨⟨⟨⟨⟨hg, hk0⟩, hk1⟩, hB⟩, hc⟩, ht⟩ := hok
  have hll : (os.take (os.length - k)).length = os.length - k := by rw [List.length_take]; omega
  have hts : (os.drop (os.length - k)).length = k := by rw [List.length_drop]; omega
  have e : os.take (os.length - k) ++ os.drop (os.length - k) = os := List.take_append_drop _ _
  generalize os.take (os.length - k) = l at *
  generalize os.drop (os.length - k) = t at *
  subst e
  rw [← hll] at ht
  simp only [Region.lexB, Bool.and_eq_true] at hB
  refine any_tail (C := fun w' => ∃ x : Later w, w' = x.W) (Q' := fun a' => ∀ w', (∃ x : Later w, w' = x.W) → wpListIn F n P (l ++ t).toArray Q t a' w') hg (by omega) hF hc ht (fun a' w' hw' hq => hq w' hw') _ _ _ _ ⟨⟨w.drew, b_drew (Below.refl _ _)⟩, rfl⟩ ⟨by simp, fun k p _ hk => ?_⟩ (fun j _ => ?_) ?_
  · simp [Array.getD] at hk
  · simp [Array.getD]
  · have := wpAnyQIn_lex (F := Fence.wide) (n := n) (C := fun w' => ∃ x : Later w, w' = x.W) (md := .any) hB.1 (l ++ t.map trivO) 0 (Array.replicate (l ++ t.map trivO).length false) a (by simp) (by simpa using hB.2) (quiet_wide (n := n) _ _ (quiet_triv t hg l a (fun p hp => hp) h))
    simpa using this
/-- A region that draws its order, whose last k operations wait for all others: those read, and call what leaves old memory as it was. -/
theorem wp_region_tail {id : Nat} (k : Nat) {os : List Oper} {a : Act} {w : World} (hm : P.follows .mixedOrders = true) (hok : tailOk os k = true)
    (h : wpQuiet P os.toArray (fun w' => ∃ x : Later w, w' = x.W) (fun a' => ∀ w', (∃ x : Later w, w' = x.W) → wpListIn Fence.wide 0 P os.toArray Q (os.drop (os.length - k)) a' w') (os.take (os.length - k)) a) : (Code.region id os.toArray true).wp P Q a w :=
  (wpIn_wide (n := 0)).1 (wpIn_region_any hm (any_of_tail hok (fun _ _ _ _ h => h) h))
/-- .. within a round of a range over a function. -/
theorem wpIn_region_tail {id lb : Nat} (k : Nat) {os : List Oper} {a : Act} {w : World} (hd : os.all noDefer = true) (hm : P.follows .mixedOrders = true) (hok : tailOk os k = true)
    (h : wpQuiet P os.toArray (fun w' => ∃ x : Later w, w' = x.W) (fun a' => ∀ w', (∃ x : Later w, w' = x.W) → wpListIn (Fence.wide.inRound lb) n P os.toArray Q (os.drop (os.length - k)) a' w') (os.take (os.length - k)) a) : (Code.region id os.toArray true).wpIn (Fence.wide.inRound lb) n P Q a w :=
  wpIn_region_any hm (any_of_tail hok (fun _ _ _ _ h => op_round (noDefer_all hd) h) h)
/-- .. within a fence. -/
theorem wpIn_region_tail_wide {id : Nat} (k : Nat) {os : List Oper} {a : Act} {w : World} (hm : P.follows .mixedOrders = true) (hok : tailOk os k = true)
    (h : wpQuiet P os.toArray (fun w' => ∃ x : Later w, w' = x.W) (fun a' => ∀ w', (∃ x : Later w, w' = x.W) → wpListIn Fence.wide n P os.toArray Q (os.drop (os.length - k)) a' w') (os.take (os.length - k)) a) : (Code.region id os.toArray true).wpIn Fence.wide n P Q a w :=
  wpIn_region_any hm (any_of_tail hok (fun _ _ _ _ h => h) h)
end
end Go.Proofs.YtpbhoeaadnemhaaGreat
namespace Go.Proofs.YtpbhoeaadnemhaaGreat
open Go.RowKit
set_option linter.unusedVariables false
set_option linter.unusedSimpArgs false
set_option maxHeartbeats 4000000
set_option maxRecDepth 100000
def hasB (xs : List Int) (c : Int) : Bool := xs.any fun x => decide (x = c)
theorem xIndex (xs : List Int) (c : Int) (v : Value) (w : World) (h : SlV 1 KI w v xs) : Calls Tryz.prog 105 #[v, .int .i64 c] w fun e w' => e = .returned (.int .i64 (idxI (fun x => decide (x = c)) xs)) ∧ w = w' := by
  obtain ⟨A, cc, rfl, hc, hm, hr⟩ := h
  unfold big at hm
  go_enter Tryz.func105, Tryz.ntmps105
  go_wp2_with fail
  go_loopw [8] (fun i wr => ∃ k : Nat, k ≤ xs.length ∧ i = .int .i64 k ∧ allTo (fun x => !decide (x = c)) xs k ∧ w = wr) (fun i _ => xs.length - (intOf i).toNat)
  case atStart => exact ⟨0, Nat.zero_le _, rfl, allTo.zero _ _, rfl⟩
  case round =>
    obtain ⟨k, hk, rfl, ha, rfl⟩ := hrel
    by_cases hlt : k < xs.length
    · obtain ⟨x, hx⟩ : ∃ x, xs[k]? = some x := ⟨_, List.getElem?_eq_getElem hlt⟩
      obtain ⟨b, off, rfl, h0⟩ := hr.int (Below.refl _ _) hx
      have Hx := Lib.hid hx
      clear hx
      by_cases q : c = x
      · have g : (c == x) = true := by simpa using q
        have Hq := Lib.hid q
        clear q
        go_wp2
        go_ret
        exact ⟨ret_int (idx_some ha Hx.out (by simp [Hq.out])), rfl⟩
      · have g : (c == x) = false := by simpa using q
        go_wp2
        go_roundw
        case rel => exact ⟨k + 1, by omega, by go_num, ha.succ Hx.out (by simp; exact fun e => q e.symm), trivial⟩
        case measure => simp [intOf]; omega
    · go_wp2
      go_ret
      exact ⟨ret_int (idx_none ha (by omega)), rfl⟩
theorem xContains (xs : List Int) (c : Int) (v : Value) (w : World) (h : SlV 1 KI w v xs) : Calls Tryz.prog 92 #[v, .int .i64 c] w fun e w' => e = .returned (.bool (hasB xs c)) ∧ w = w' := by
  have hh := h
  obtain ⟨A, cc, rfl, hc, hm, hr⟩ := h
  go_enter Tryz.func92, Tryz.ntmps92
  go_wp2_with fail
  refine (xIndex xs c _ _ hh).mono ?_
  rintro e w2 ⟨rfl, rfl⟩
  go_wp2
  go_ret
  exact ⟨ret_bool (by rw [hasB, ← idx_any]), rfl⟩
theorem r06has (xs : List Int) (c : Int) (v : Value) (w : World) (h : SlV 1 KI w v xs) : Calls Tryz.prog 50 #[v, .int .i64 c] w fun e w' => e = .returned (.bool (hasB xs c)) ∧ w = w' := by
  obtain ⟨A, cc, rfl, hc, hm, hr⟩ := h
  unfold big at hm
  go_enter Tryz.func50, Tryz.ntmps50
  go_wp2_with fail
  go_loopw [5] (fun i wr => ∃ k : Nat, k ≤ xs.length ∧ i = .int .i64 k ∧ allTo (fun x => !decide (x = c)) xs k ∧ w = wr) (fun i _ => xs.length - (intOf i).toNat)
  case atStart => exact ⟨0, Nat.zero_le _, rfl, allTo.zero _ _, rfl⟩
  case round =>
    obtain ⟨k, hk, rfl, ha, rfl⟩ := hrel
    by_cases hlt : k < xs.length
    · obtain ⟨x, hx⟩ : ∃ x, xs[k]? = some x := ⟨_, List.getElem?_eq_getElem hlt⟩
      obtain ⟨b, off, rfl, h0⟩ := hr.int (Below.refl _ _) hx
      have Hx := Lib.hid hx
      clear hx
      by_cases q : x = c
      · have g : (x == c) = true := by simpa using q
        have Hq := Lib.hid q
        clear q
        go_wp2
        go_ret
        exact ⟨ret_bool (by rw [hasB]; exact (List.any_eq_true.2 ⟨x, List.mem_of_getElem? Hx.out, by simpa using Hq.out⟩).symm), rfl⟩
      · have g : (x == c) = false := by simpa using q
        go_wp2
        go_roundw
        case rel => exact ⟨k + 1, by omega, by go_num, ha.succ Hx.out (by simp; exact q), trivial⟩
        case measure => simp [intOf]; omega
    · go_wp2
      go_ret
      exact ⟨ret_bool (by rw [hasB, ← idx_any, ← idx_none ha (by omega)]; rfl), rfl⟩
end Go.Proofs.YtpbhoeaadnemhaaGreat
namespace Go.Proofs.YtpbhoeaadnemhaaGreat
open Go.RowKit
set_option linter.unusedVariables false
set_option linter.unusedSimpArgs false
set_option maxHeartbeats 4000000
set_option maxRecDepth 100000
theorem eq_true {xs ys : List Int} {k : Nat} (hl : xs.length = ys.length) (h : ∀ i, i < k → xs[i]? = ys[i]?) (hk : xs.length ≤ k) : decide (xs = ys) = true := by
  rw [decide_eq_true_eq]
  refine List.ext_getElem? fun i => ?_
  by_cases c : i < k
  · exact h i c
  · rw [List.getElem?_eq_none (by omega), List.getElem?_eq_none (by omega)]
theorem xEqual (xs ys : List Int) (u v : Value) (w : World) (hx : SlV 1 KI w u xs) (hy : SlV 1 KI w v ys) : Calls Tryz.prog 12 #[u, v] w fun e w' => e = .returned (.bool (decide (xs = ys))) ∧ Below w.heap.size w w' := by
  obtain ⟨A, c, rfl, hc, hm, hr⟩ := hx
  obtain ⟨B, d, rfl, hd, hn, hs⟩ := hy
  unfold big at hm hn
  go_enter Tryz.func12, Tryz.ntmps12
  by_cases hl : xs.length = ys.length
  · have HL := Lib.hid hl
    rw [← hl]
    have hl' := hl
    clear hl hl'
    go_wp2_with fail
    go_loopw [13] (fun i wr => ∃ k : Nat, k ≤ xs.length ∧ i = .int .i64 k ∧ (∀ i, i < k → xs[i]? = ys[i]?) ∧ Below w.heap.size w wr) (fun i _ => xs.length - (intOf i).toNat)
    case atStart => exact ⟨0, Nat.zero_le _, rfl, fun i h => absurd h (Nat.not_lt_zero _), Below.refl _ _⟩
    case round =>
      obtain ⟨k, hk, rfl, ha, hbw⟩ := hrel
      by_cases hlt : k < xs.length
      · obtain ⟨x, hxk⟩ : ∃ x, xs[k]? = some x := ⟨_, List.getElem?_eq_getElem hlt⟩
        obtain ⟨y, hyk⟩ : ∃ y, ys[k]? = some y := ⟨_, List.getElem?_eq_getElem (by rw [← HL.out]; exact hlt)⟩
        obtain ⟨b, o, rfl, e0⟩ := hr.int hbw hxk
        obtain ⟨b2, o2, rfl, e1⟩ := hs.int hbw hyk
        have L0 := Later.cell e0
        have L1 := Later.cell e1
        have i0 : (0 : Int) ≤ (k : Int) := by omega
        have i1 : (k : Int) < (xs.length : Int) := by omega
        have Hx := Lib.hid hxk
        have Hy := Lib.hid hyk
        clear hxk hyk
        by_cases c : x = y
        · subst c
          go_wp2_with fail
          refine wp_region_later (by kernel_rfl) (by kernel_rfl) ?_
          repeat (go_big_quiet_step (fail))
          refine wpQuiet_nil ?_
          rintro _ ⟨z, rfl⟩
          have hbz := b_then hbw z.below
          go_wp2
          go_roundw
          case rel =>
            refine ⟨k + 1, by omega, by go_num, fun i hi => ?_, hbz⟩
            by_cases ci : i < k
            · exact ha i ci
            · obtain rfl : i = k := by omega
              rw [Hx.out, Hy.out]
          case measure => simp [intOf]; omega
        · have c2 : (x == y) = false := by simpa using c
          go_wp2_with fail
          refine wp_region_later (by kernel_rfl) (by kernel_rfl) ?_
          repeat (go_big_quiet_step (fail))
          refine wpQuiet_nil ?_
          rintro _ ⟨z, rfl⟩
          have hbz := b_then hbw z.below
          have hfin : decide (xs = ys) = false := by
            rw [decide_eq_false_iff_not]
            rintro rfl
            have := Hx.out.symm.trans Hy.out
            exact c (by simpa using this)
          have Hfin := Lib.hid hfin
          have Hc := Lib.hid c
          clear c hfin
          go_wp2_with fail
          all_goals first
            | (exfalso; have := Hc.out; omega)
            | (go_ret; exact ⟨ret_bool (by rw [Hfin.out]), hbz⟩)
      · have hfin := eq_true HL.out ha (by omega)
        have Hfin := Lib.hid hfin
        clear hfin
        go_wp2
        go_ret
        exact ⟨ret_bool (by rw [Hfin.out]), hbw⟩
  · have hfin : decide (xs = ys) = false := by
      rw [decide_eq_false_iff_not]
      rintro rfl
      exact hl rfl
    have Hfin := Lib.hid hfin
    have g : ((xs.length : Int) != (ys.length : Int)) = true := by simp; omega
    clear hfin hl
    go_wp2
    go_ret
    exact ⟨ret_bool (by rw [Hfin.out]), by (repeat (first | exact Below.refl _ _ | assumption | apply b_alloc | apply b_drewN | apply b_drew))⟩
end Go.Proofs.YtpbhoeaadnemhaaGreat
namespace Go.Proofs.YtpbhoeaadnemhaaGreat
open Go.RowKit
def betB (f : Fd) (a b : Int) : Bool := (decide (f.frm = -1) || decide (f.frm = a)) && (decide (f.to = -1) || decide (f.to = b))
def appB (f : Fd) (a b c t : Int) : Bool := betB f a b && (decide (f.ch = -1) || decide (f.ch = c)) && decide (f.first ≤ t) && decide (t < f.til)
def leastI (p : Fd → Bool) (fs : List Fd) : Int := fs.foldl (fun m f => if p f then min m f.fac else m) 1000
theorem least_snoc (p : Fd → Bool) {fs : List Fd} {k : Nat} {x : Fd} (hx : fs[k]? = some x) : leastI p (fs.take (k + 1)) = if p x then min (leastI p (fs.take k)) x.fac else leastI p (fs.take k) := by
  rw [List.take_add_one, hx]; simp [leastI]
theorem least_bd (p : Fd → Bool) (fs : List Fd) (h : ∀ f, f ∈ fs → 0 ≤ f.fac) : 0 ≤ leastI p fs ∧ leastI p fs ≤ 1000 := by
  unfold leastI
  suffices ∀ (m : Int), 0 ≤ m → m ≤ 1000 → 0 ≤ fs.foldl (fun m f => if p f then min m f.fac else m) m ∧ fs.foldl (fun m f => if p f then min m f.fac else m) m ≤ 1000 from this 1000 (by omega) (by omega)
  induction fs with
  | nil => intro m h0 h1; exact ⟨h0, h1⟩
  | cons x fs ih =>
    intro m h0 h1
    have hx := h x (List.mem_cons_self ..)
    simp only [List.foldl_cons]
    apply ih (fun f hf => h f (List.mem_cons_of_mem _ hf))
    · split <;> omega
    · split <;> omega
def factorI (x : Spm) (a b c t : Int) : Int := leastI (fun f => appB f a b c t) x.fds
theorem spm_fds {x : Spm} (h : spmB x = true) {f : Fd} (hf : f ∈ x.fds) : fdB f = true := by
  simp only [spmB, Bool.and_eq_true, List.all_eq_true] at h
  exact h.2 f hf
theorem spm_srcs {x : Spm} (h : spmB x = true) {s : Src} (hs : s ∈ x.srcs) : srcB s = true := by
  simp only [spmB, Bool.and_eq_true, List.all_eq_true] at h
  exact h.1.2 s hs
theorem fd_fac {f : Fd} (h : fdB f = true) : 0 ≤ f.fac ∧ f.fac ≤ 1000 := by
  simp [fdB] at h; omega
theorem factor_bd {x : Spm} (h : spmB x = true) (a b c t : Int) : 0 ≤ factorI x a b c t ∧ factorI x a b c t ≤ 1000 :=
  least_bd _ _ fun _ hf => (fd_fac (spm_fds h hf)).1
/-- Factor's two results: the number and the error. -/
def facE (x : Spm) (a b c t : Int) : Int := if spmB x then (if ndB a && ndB b && chB c && tmB t then 0 else 2) else 1
def facN (x : Spm) (a b c t : Int) : Int := if facE x a b c t = 0 then factorI x a b c t else 0
end Go.Proofs.YtpbhoeaadnemhaaGreat
namespace Go.Proofs.YtpbhoeaadnemhaaGreat
open Go.RowKit
set_option linter.unusedVariables false
set_option linter.unusedSimpArgs false
theorem on_iff {s : Src} (hs : srcB s = true) {f t : Int} (h0 : 0 ≤ f) (h : f ≤ t) : onB s f t = true ↔ ∃ x, f ≤ x ∧ x < t ∧ s.frm ≤ x % s.per ∧ x % s.per < s.to := by
  obtain ⟨p0, p1, p2, p3, p4⟩ := srcB_per hs
  have hp : 0 < s.per := by omega
  have r0 : 0 ≤ f % s.per := Int.emod_nonneg _ (by omega)
  have r1 : f % s.per < s.per := Int.emod_lt_of_pos _ hp
  have r2 : s.per * (f / s.per) + f % s.per = f := Int.mul_ediv_add_emod f s.per
  have point : ∀ k : Int, s.frm < s.to → (s.per * k + s.frm) % s.per = s.frm := fun k hk => by
    rw [Int.add_comm, Int.add_mul_emod_self_left]
    exact Int.emod_eq_of_lt p0 (by omega)
  constructor
  · intro hon
    simp only [onB, Bool.and_eq_true, Bool.or_eq_true, decide_eq_true_eq, ne_eq, decide_not, Bool.not_eq_true', decide_eq_false_iff_not] at hon
    obtain ⟨⟨h1, h2⟩, h3⟩ := hon
    have h4 : s.frm < s.to := by omega
    rcases h3 with ⟨h5, h6⟩ | h5
    · by_cases c : s.frm ≤ f % s.per
      · exact ⟨f, by omega, by omega, c, h5⟩
      · refine ⟨s.per * (f / s.per) + s.frm, by omega, by omega, ?_, ?_⟩ <;> rw [point _ h4] <;> omega
    · have e : s.per * (f / s.per + 1) = s.per * (f / s.per) + s.per := by rw [Int.mul_add, Int.mul_one]
      refine ⟨s.per * (f / s.per + 1) + s.frm, by omega, by omega, ?_, ?_⟩ <;> rw [point _ h4] <;> omega
  · rintro ⟨x, h1, h2, h3, h4⟩
    have q0 : 0 ≤ x % s.per := Int.emod_nonneg _ (by omega)
    have q2 : s.per * (x / s.per) + x % s.per = x := Int.mul_ediv_add_emod x s.per
    have q3 : f / s.per ≤ x / s.per := Int.ediv_le_ediv hp h1
    simp only [onB, Bool.and_eq_true, Bool.or_eq_true, decide_eq_true_eq, ne_eq, decide_not, Bool.not_eq_true', decide_eq_false_iff_not]
    refine ⟨⟨by omega, by omega⟩, ?_⟩
    by_cases c : f / s.per < x / s.per
    · right
      have e : s.per * (f / s.per + 1) ≤ s.per * (x / s.per) := Int.mul_le_mul_of_nonneg_left (by omega) (by omega)
      rw [Int.mul_add, Int.mul_one] at e
      omega
    · left
      have e : x / s.per = f / s.per := by omega
      rw [e] at q2
      omega
theorem on_self (s : Src) (f : Int) : isOn s f f = false := by simp [isOn, onB]
theorem on_parts (s : Src) {a b c : Int} (h0 : 0 ≤ a) (h1 : a ≤ b) (h2 : b ≤ c) (h3 : c ≤ 1099511627776) : isOn s a c = (isOn s a b || isOn s b c) := by
  unfold isOn
  have i0 : ivB a c = true := by simp [ivB]; omega
  have i1 : ivB a b = true := by simp [ivB]; omega
  have i2 : ivB b c = true := by simp [ivB]; omega
  rw [i0, i1, i2]
  rcases Bool.eq_false_or_eq_true (srcB s) with q | q
  · rw [q, Bool.eq_iff_iff]
    simp only [Bool.true_and, Bool.or_eq_true]
    rw [on_iff q h0 (by omega), on_iff q h0 h1, on_iff q (by omega) h2]
    constructor
    · rintro ⟨x, x1, x2, x3, x4⟩
      by_cases d : x < b
      · exact .inl ⟨x, x1, d, x3, x4⟩
      · exact .inr ⟨x, by omega, x2, x3, x4⟩
    · rintro (⟨x, x1, x2, x3, x4⟩ | ⟨x, x1, x2, x3, x4⟩)
      · exact ⟨x, x1, by omega, x3, x4⟩
      · exact ⟨x, by omega, x2, x3, x4⟩
  · rw [q]; rfl
theorem on_at (s : Src) (hs : srcB s = true) {a : Int} (h0 : 0 ≤ a) (h1 : a < 1099511627776) : isOn s a (a + 1) = (decide (s.frm ≤ a % s.per) && decide (a % s.per < s.to)) := by
  have i0 : ivB a (a + 1) = true := by simp [ivB]; omega
  rw [Bool.eq_iff_iff]
  simp only [isOn, hs, i0, Bool.true_and, Bool.and_eq_true, decide_eq_true_eq]
  rw [on_iff hs h0 (by omega)]
  constructor
  · rintro ⟨x, x1, x2, x3, x4⟩
    obtain rfl : x = a := by omega
    exact ⟨x3, x4⟩
  · rintro ⟨x3, x4⟩
    exact ⟨a, by omega, by omega, x3, x4⟩
theorem on_round (s : Src) (hs : srcB s = true) {a : Int} (h0 : 0 ≤ a) (h1 : a < 1099511627776) :
    isOn s a (min (a + s.per) 1099511627776) = (decide (s.frm < s.to) && (decide (a + s.per ≤ 1099511627776) || isOn s a 1099511627776)) := by
  obtain ⟨p0, p1, p2, p3, p4⟩ := srcB_per hs
  have r0 : 0 ≤ a % s.per := Int.emod_nonneg _ (by omega)
  have r1 : a % s.per < s.per := Int.emod_lt_of_pos _ (by omega)
  by_cases c : a + s.per ≤ 1099511627776
  · rw [Int.min_eq_left c, Bool.eq_iff_iff]
    simp [isOn, hs, ivB, onB, c]
    omega
  · rw [Int.min_eq_right (by omega), Bool.eq_iff_iff]
    simp [isOn, hs, ivB, onB, c]
    omega
end Go.Proofs.YtpbhoeaadnemhaaGreat
namespace Go.Proofs.YtpbhoeaadnemhaaGreat
open Go.RowKit
set_option linter.unusedVariables false
set_option linter.unusedSimpArgs false
theorem mul_bd {u v M : Int} (h0 : -M ≤ u) (h1 : u ≤ M) (h2 : -M ≤ v) (h3 : v ≤ M) : -(M * M) ≤ u * v ∧ u * v ≤ M * M := by
  have a := Int.mul_nonneg (show 0 ≤ M - u by omega) (show 0 ≤ M + v by omega)
  have b := Int.mul_nonneg (show 0 ≤ M + u by omega) (show 0 ≤ M - v by omega)
  have c := Int.mul_nonneg (show 0 ≤ M - u by omega) (show 0 ≤ M - v by omega)
  have d := Int.mul_nonneg (show 0 ≤ M + u by omega) (show 0 ≤ M + v by omega)
  simp only [Int.sub_mul, Int.add_mul, Int.mul_sub, Int.mul_add] at a b c d
  have e : u * M = M * u := Int.mul_comm _ _
  omega
theorem pt_bd {p : Pt} (h : ptB p = true) : 0 ≤ p.x ∧ p.x ≤ 10000 ∧ 0 ≤ p.y ∧ p.y ≤ 10000 := by
  simp only [ptB, Bool.and_eq_true, decide_eq_true_eq] at h
  omega
theorem w64 {n : Int} (h0 : -4611686018427387904 ≤ n) (h1 : n ≤ 4611686018427387904) : wrap64 n = n := by unfold wrap64; omega
theorem turnW_is {a b c : Pt} (ha : ptB a = true) (hb : ptB b = true) (hc : ptB c = true) : turnW a b c = turnI a b c := by
  have := pt_bd ha; have := pt_bd hb; have := pt_bd hc
  obtain ⟨m1, m2⟩ := mul_bd (u := b.x - a.x) (v := c.y - a.y) (M := 10000) (by omega) (by omega) (by omega) (by omega)
  obtain ⟨m3, m4⟩ := mul_bd (u := b.y - a.y) (v := c.x - a.x) (M := 10000) (by omega) (by omega) (by omega) (by omega)
  unfold turnW turnI
  rw [w64 (n := b.x - a.x) (by omega) (by omega), w64 (n := c.y - a.y) (by omega) (by omega), w64 (n := b.y - a.y) (by omega) (by omega), w64 (n := c.x - a.x) (by omega) (by omega), w64 (by omega) (by omega), w64 (by omega) (by omega)]
theorem turnV_is {a b c : Pt} (ha : ptB a = true) (hb : ptB b = true) (hc : ptB c = true) : turnV a b c = turnI a b c := by
  have := pt_bd ha; have := pt_bd hb; have := pt_bd hc
  obtain ⟨m1, m2⟩ := mul_bd (u := b.x - a.x) (v := c.y - a.y) (M := 10000) (by omega) (by omega) (by omega) (by omega)
  obtain ⟨m3, m4⟩ := mul_bd (u := b.y - a.y) (v := c.x - a.x) (M := 10000) (by omega) (by omega) (by omega) (by omega)
  unfold turnV turnI cmpI
  rw [w64 (n := b.x - a.x) (by omega) (by omega), w64 (n := c.y - a.y) (by omega) (by omega), w64 (n := b.y - a.y) (by omega) (by omega), w64 (n := c.x - a.x) (by omega) (by omega), w64 (n := (b.x - a.x) * (c.y - a.y)) (by omega) (by omega), w64 (n := (b.y - a.y) * (c.x - a.x)) (by omega) (by omega), w64 (by omega) (by omega)]
  generalize (b.x - a.x) * (c.y - a.y) = X
  generalize (b.y - a.y) * (c.x - a.x) = Y
  by_cases c1 : 0 < X - Y
  · rw [if_pos c1, if_neg (by omega), if_pos (by omega)]
  · rw [if_neg c1]
    by_cases c2 : X - Y < 0
    · rw [if_pos c2, if_pos (by omega)]
    · rw [if_neg c2, if_neg (by omega), if_neg (by omega)]
theorem turn_bd (a b c : Pt) : -1 ≤ turnI a b c ∧ turnI a b c ≤ 1 := by
  unfold turnI cmpI
  split
  · omega
  · split <;> omega
theorem turn_w (a b c d e f : Pt) : wrap64 (turnI a b c * turnI d e f) = turnI a b c * turnI d e f := by
  obtain ⟨h0, h1⟩ := turn_bd a b c
  obtain ⟨h2, h3⟩ := turn_bd d e f
  obtain ⟨m1, m2⟩ := mul_bd (M := 1) h0 h1 h2 h3
  exact w64 (by omega) (by omega)
theorem onW_is {p a b : Pt} (hp : ptB p = true) (ha : ptB a = true) (hb : ptB b = true) : onW p a b = (decide (turnI a b p = 0) && withinB a b p) := by
  unfold onW
  rw [turnW_is ha hb hp]
  rw [Bool.eq_iff_iff]
  constructor
  · intro h
    simp only [Bool.or_eq_true, Bool.and_eq_true, decide_eq_true_eq] at h
    rcases h with (⟨h1, h2⟩ | ⟨h1, h2⟩) | ⟨h1, h2⟩
    · have e : p = a := by cases p; cases a; simp_all
      subst e
      simp [turnI, cmpI, withinB]
      omega
    · have e : p = b := by cases p; cases b; simp_all
      subst e
      have e2 : (p.y - a.y) * (p.x - a.x) = (p.x - a.x) * (p.y - a.y) := Int.mul_comm _ _
      simp [turnI, cmpI, withinB, e2]
      omega
    · simp [h1, h2]
  · intro h
    simp only [Bool.and_eq_true, decide_eq_true_eq] at h
    simp [h.1, h.2]
theorem crossW_is {a b : Pt} {q : Wl} (ha : ptB a = true) (hb : ptB b = true) (hq : wlB q = true) : crossW a b q = crossB a b q := by
  simp only [wlB, Bool.and_eq_true] at hq
  obtain ⟨⟨⟨h1, h2⟩, _⟩, _⟩ := hq
  unfold crossW crossB
  rw [onW_is h1 ha hb, onW_is h2 ha hb, onW_is ha h1 h2, onW_is hb h1 h2, turnW_is ha hb h1, turnW_is ha hb h2, turnW_is h1 h2 ha, turnW_is h1 h2 hb, turn_w, turn_w]
  generalize (decide (turnI a b q.a = 0) && withinB a b q.a) = A
  generalize (decide (turnI a b q.b = 0) && withinB a b q.b) = B
  generalize (decide (turnI q.a q.b a = 0) && withinB q.a q.b a) = C
  generalize (decide (turnI q.a q.b b = 0) && withinB q.a q.b b) = D
  generalize (decide (turnI a b q.a * turnI a b q.b < 0) && decide (turnI q.a q.b a * turnI q.a q.b b < 0)) = E
  cases A <;> cases B <;> cases C <;> cases D <;> cases E <;> rfl
theorem crossV_is {a b : Pt} {q : Wl} (ha : ptB a = true) (hb : ptB b = true) (hq : wlB q = true) : crossV a b q = crossB a b q := by
  simp only [wlB, Bool.and_eq_true] at hq
  obtain ⟨⟨⟨h1, h2⟩, _⟩, _⟩ := hq
  unfold crossV crossB
  rw [turnV_is ha hb h1, turnV_is ha hb h2, turnV_is h1 h2 ha, turnV_is h1 h2 hb, turn_w, turn_w]
theorem mul_self_nonneg' (u : Int) : 0 ≤ u * u := by
  rcases Int.le_total 0 u with h | h
  · exact Int.mul_nonneg h h
  · exact Int.mul_nonneg_of_nonpos_of_nonpos h h
theorem square_is {a b : Pt} (ha : ptB a = true) (hb : ptB b = true) : squareW a b = squareI a b ∧ 0 ≤ squareI a b ∧ squareI a b ≤ 200000000 := by
  have := pt_bd ha; have := pt_bd hb
  obtain ⟨m1, m2⟩ := mul_bd (u := a.x - b.x) (v := a.x - b.x) (M := 10000) (by omega) (by omega) (by omega) (by omega)
  obtain ⟨m3, m4⟩ := mul_bd (u := a.y - b.y) (v := a.y - b.y) (M := 10000) (by omega) (by omega) (by omega) (by omega)
  have n1 : 0 ≤ (a.x - b.x) * (a.x - b.x) := mul_self_nonneg' _
  have n2 : 0 ≤ (a.y - b.y) * (a.y - b.y) := mul_self_nonneg' _
  refine ⟨?_, by unfold squareI; omega, by unfold squareI; omega⟩
  unfold squareW squareI
  rw [w64 (n := a.x - b.x) (by omega) (by omega), w64 (n := a.y - b.y) (by omega) (by omega), w64 (n := (a.x - b.x) * (a.x - b.x)) (by omega) (by omega), w64 (n := (a.y - b.y) * (a.y - b.y)) (by omega) (by omega), w64 (by omega) (by omega)]
/-- The power at a point of a sender at another one, walls not counted. -/
def baseI (ex : Int) (a : Pt) (p : Int) (b : Pt) : Int :=
  if ex = 4 then p * 100 / max (squareI a b) 100 * 100 / max (squareI a b) 100 else p * 100 / max (squareI a b) 100
/-- .. behind the first walls. -/
def wallI (a b : Pt) (p : Int) (q : Wl) : Int := if crossB a b q then p * q.f / 1000 else p
def atI (s : Site) (a : Pt) (p : Int) (b : Pt) : Int := s.walls.foldl (wallI a b) (baseI s.ex a p b)
theorem pow_is {n : Int} (h : powB n = true) : 0 ≤ n ∧ n ≤ 68719476736 := by
  simp only [powB, Bool.and_eq_true, decide_eq_true_eq] at h
  exact h
theorem is_pow {n : Int} (h0 : 0 ≤ n) (h1 : n ≤ 68719476736) : powB n = true := by simp [powB, h0, h1]
theorem down {p m : Int} (h0 : 0 ≤ p) (hm : 100 ≤ m) : 0 ≤ p * 100 / m ∧ p * 100 / m ≤ p := by
  refine ⟨Int.ediv_nonneg (by omega) (by omega), ?_⟩
  have h : p * 100 ≤ p * m := Int.mul_le_mul_of_nonneg_left hm h0
  exact Int.le_trans (Int.ediv_le_ediv (by omega) h) (by rw [Int.mul_ediv_cancel _ (by omega)]; exact Int.le_refl _)
theorem scale_bd {p f : Int} (h0 : 0 ≤ p) (h1 : 0 ≤ f) (h2 : f ≤ 1000) : 0 ≤ p * f / 1000 ∧ p * f / 1000 ≤ p := by
  refine ⟨Int.ediv_nonneg (Int.mul_nonneg h0 h1) (by omega), ?_⟩
  have h : p * f ≤ p * 1000 := Int.mul_le_mul_of_nonneg_left h2 h0
  exact Int.le_trans (Int.ediv_le_ediv (by omega) h) (by rw [Int.mul_ediv_cancel _ (by omega)]; exact Int.le_refl _)
theorem base_pow (ex : Int) {p : Int} (a b : Pt) (h : powB p = true) : powB (baseI ex a p b) = true := by
  obtain ⟨h0, h1⟩ := pow_is h
  have hm : 100 ≤ max (squareI a b) 100 := Int.le_max_right _ _
  obtain ⟨d0, d1⟩ := down h0 hm
  obtain ⟨d2, d3⟩ := down d0 hm
  unfold baseI
  split <;> exact is_pow (by omega) (by omega)
theorem wall_pow {a b : Pt} {p : Int} {q : Wl} (h : powB p = true) (hq : wlB q = true) : powB (wallI a b p q) = true := by
  obtain ⟨h0, h1⟩ := pow_is h
  simp only [wlB, Bool.and_eq_true, decide_eq_true_eq] at hq
  obtain ⟨d0, d1⟩ := scale_bd h0 hq.1.2 hq.2
  unfold wallI
  split
  · exact is_pow (by omega) (by omega)
  · exact h
theorem walls_pow {a b : Pt} : ∀ (ws : List Wl) {p : Int}, powB p = true → (∀ q, q ∈ ws → wlB q = true) → powB (ws.foldl (wallI a b) p) = true
  | [], _, h, _ => h
  | q :: ws, _, h, hq => walls_pow ws (wall_pow h (hq q (by simp))) fun q' h' => hq q' (by simp [h'])
theorem walls_snoc {a b : Pt} {ws : List Wl} {k : Nat} {q : Wl} (p : Int) (hx : ws[k]? = some q) : (ws.take (k + 1)).foldl (wallI a b) p = wallI a b ((ws.take k).foldl (wallI a b) p) q := by
  rw [List.take_add_one, hx]
  simp
end Go.Proofs.YtpbhoeaadnemhaaGreat
namespace Go.Proofs.YtpbhoeaadnemhaaGreat
open Go.RowKit Go.ChangeShapes Go.WideShapes
set_option linter.unusedVariables false
set_option linter.unusedSimpArgs false
set_option maxRecDepth 100000
theorem Opens.part {α : Type} {P : Program} {K : World → α → List Value → Prop} {t : TypeId} (hO : Opens P K t) {H : Type} {enc : TypeId × Value → H} {w : World} {cs cs' : List Value}
    (h : ∃ (fuel : Nat) (x : DataW H × List MemPlace), DataW.trod enc P w 0 (fun _ => true) true fuel t cs = some x ∧ okW (DataW.weights P t x.1)) (e : cs = cs') : ∃ a, K w a cs' := by
  obtain ⟨fuel, x, h, hw⟩ := h
  exact e ▸ hO H enc w fuel cs x h hw
theorem css : Tryz.prog.cellsOf 27 = 1 := by kernel_rfl
theorem cfs : Tryz.prog.cellsOf 28 = 1 := by kernel_rfl
theorem ci : Tryz.prog.cellsOf 3 = 1 := by kernel_rfl
theorem cl : Tryz.prog.cellsOf 23 = 1 := by kernel_rfl
theorem cp : Tryz.prog.cellsOf 54 = 2 := by kernel_rfl
theorem oi : Opens Tryz.prog KI 3 := opens_int Tryz.underlying3
theorem ol : Opens Tryz.prog (KSl 1 KI) 23 := opens_slice oi Tryz.underlying23 ci (by decide) (of_decide_eq_true (by kernel_rfl))
theorem op : Opens Tryz.prog KPt 54 := by
  intro H enc w fuel cs x h hw
  obtain ⟨hl, hf⟩ := trod_fields Tryz.underlying54 h hw
  rw [show Tryz.prog.cellsOf 54 = 2 by kernel_rfl] at hl
  obtain _ | ⟨c0, cs⟩ := cs
  · simp at hl
  obtain _ | ⟨c1, cs⟩ := cs
  · simp at hl
  obtain _ | ⟨cz, cs⟩ := cs
  rotate_left
  · simp at hl
  obtain ⟨a0, e0⟩ := (oi).part (hf 0 _ rfl) (cs' := [c0]) (by simp [ci, cp, cl, css, cfs])
  obtain ⟨a1, e1⟩ := (oi).part (hf 1 _ rfl) (cs' := [c1]) (by simp [ci, cp, cl, css, cfs])
  exact ⟨⟨a0, a1⟩, by simp_all [KPt, KI]⟩
theorem osc : Opens Tryz.prog KSrc 83 := by
  intro H enc w fuel cs x h hw
  obtain ⟨hl, hf⟩ := trod_fields Tryz.underlying83 h hw
  rw [show Tryz.prog.cellsOf 83 = 7 by kernel_rfl] at hl
  obtain _ | ⟨c0, cs⟩ := cs
  · simp at hl
  obtain _ | ⟨c1, cs⟩ := cs
  · simp at hl
  obtain _ | ⟨c2, cs⟩ := cs
  · simp at hl
  obtain _ | ⟨c3, cs⟩ := cs
  · simp at hl
  obtain _ | ⟨c4, cs⟩ := cs
  · simp at hl
  obtain _ | ⟨c5, cs⟩ := cs
  · simp at hl
  obtain _ | ⟨c6, cs⟩ := cs
  · simp at hl
  obtain _ | ⟨cz, cs⟩ := cs
  rotate_left
  · simp at hl
  obtain ⟨a0, e0⟩ := (op).part (hf 0 _ rfl) (cs' := [c0, c1]) (by simp [ci, cp, cl, css, cfs])
  obtain ⟨a1, e1⟩ := (oi).part (hf 1 _ rfl) (cs' := [c2]) (by simp [ci, cp, cl, css, cfs])
  obtain ⟨a2, e2⟩ := (ol).part (hf 2 _ rfl) (cs' := [c3]) (by simp [ci, cp, cl, css, cfs])
  obtain ⟨a3, e3⟩ := (oi).part (hf 3 _ rfl) (cs' := [c4]) (by simp [ci, cp, cl, css, cfs])
  obtain ⟨a4, e4⟩ := (oi).part (hf 4 _ rfl) (cs' := [c5]) (by simp [ci, cp, cl, css, cfs])
  obtain ⟨a5, e5⟩ := (oi).part (hf 5 _ rfl) (cs' := [c6]) (by simp [ci, cp, cl, css, cfs])
  obtain ⟨v, e2, hv⟩ := e2
  exact ⟨⟨a0, a1, a2, a3, a4, a5⟩, v, by simp_all [KPt, KI], hv⟩
theorem of_ : Opens Tryz.prog KFd 95 := by
  intro H enc w fuel cs x h hw
  obtain ⟨hl, hf⟩ := trod_fields Tryz.underlying95 h hw
  rw [show Tryz.prog.cellsOf 95 = 6 by kernel_rfl] at hl
  obtain _ | ⟨c0, cs⟩ := cs
  · simp at hl
  obtain _ | ⟨c1, cs⟩ := cs
  · simp at hl
  obtain _ | ⟨c2, cs⟩ := cs
  · simp at hl
  obtain _ | ⟨c3, cs⟩ := cs
  · simp at hl
  obtain _ | ⟨c4, cs⟩ := cs
  · simp at hl
  obtain _ | ⟨c5, cs⟩ := cs
  · simp at hl
  obtain _ | ⟨cz, cs⟩ := cs
  rotate_left
  · simp at hl
  obtain ⟨a0, e0⟩ := (oi).part (hf 0 _ rfl) (cs' := [c0]) (by simp [ci, cp, cl, css, cfs])
  obtain ⟨a1, e1⟩ := (oi).part (hf 1 _ rfl) (cs' := [c1]) (by simp [ci, cp, cl, css, cfs])
  obtain ⟨a2, e2⟩ := (oi).part (hf 2 _ rfl) (cs' := [c2]) (by simp [ci, cp, cl, css, cfs])
  obtain ⟨a3, e3⟩ := (oi).part (hf 3 _ rfl) (cs' := [c3]) (by simp [ci, cp, cl, css, cfs])
  obtain ⟨a4, e4⟩ := (oi).part (hf 4 _ rfl) (cs' := [c4]) (by simp [ci, cp, cl, css, cfs])
  obtain ⟨a5, e5⟩ := (oi).part (hf 5 _ rfl) (cs' := [c5]) (by simp [ci, cp, cl, css, cfs])
  exact ⟨⟨a0, a1, a2, a3, a4, a5⟩, by simp_all [KFd, KI]⟩
theorem oss : Opens Tryz.prog (KSl 7 KSrc) 27 := opens_slice osc Tryz.underlying27 (by kernel_rfl) (by decide) (of_decide_eq_true (by kernel_rfl))
theorem ofs : Opens Tryz.prog (KSl 6 KFd) 28 := opens_slice of_ Tryz.underlying28 (by kernel_rfl) (by decide) (of_decide_eq_true (by kernel_rfl))
def KSpm (w : World) (x : Spm) (l : List Value) : Prop := SpmV w (.agg l.toArray) x
theorem ox : Opens Tryz.prog KSpm 30 := by
  intro H enc w fuel cs x h hw
  obtain ⟨hl, hf⟩ := trod_fields Tryz.underlying30 h hw
  rw [show Tryz.prog.cellsOf 30 = 2 by kernel_rfl] at hl
  obtain _ | ⟨c0, cs⟩ := cs
  · simp at hl
  obtain _ | ⟨c1, cs⟩ := cs
  · simp at hl
  obtain _ | ⟨cz, cs⟩ := cs
  rotate_left
  · simp at hl
  obtain ⟨a0, e0⟩ := (oss).part (hf 0 _ rfl) (cs' := [c0]) (by simp [ci, cp, cl, css, cfs])
  obtain ⟨a1, e1⟩ := (ofs).part (hf 1 _ rfl) (cs' := [c1]) (by simp [ci, cp, cl, css, cfs])
  obtain ⟨v0, e0, h0⟩ := e0
  obtain ⟨v1, e1, h1⟩ := e1
  exact ⟨⟨a0, a1⟩, v0, v1, by simp_all, h0, h1⟩
/-- A struct argument, opened. -/
theorem open_struct {α : Type} {K : World → α → List Value → Prop} {P : Program} {t : TypeId} {fs : Array Field} (hO : Opens P K t) (hs : P.underlying t = some (.struct fs)) {H : Type} {enc : TypeId × Value → H} {W : World} {r : Reach} {b0 : Nat} {v : Value} {d : DataW H} {p : List MemPlace}
    (hv : Value.okWide P W r b0 t v) (h : DataW.Trod enc P W 0 (fun _ => true) true t v d p) (hw : okW (DataW.weights P t d)) : ∃ a cs, v = .agg cs ∧ K W a cs.toList := by
  obtain ⟨cs, rfl, hsz⟩ := okWide_struct hs hv
  obtain ⟨fuel, hf⟩ := h
  obtain ⟨a, ha⟩ := hO H enc W fuel _ _ hf hw
  exact ⟨a, cs, rfl, ha⟩
end Go.Proofs.YtpbhoeaadnemhaaGreat
namespace Go.Proofs.YtpbhoeaadnemhaaGreat
open Go.RowKit Go.ChangeShapes Go.WideShapes
set_option linter.unusedVariables false
set_option linter.unusedSimpArgs false
set_option maxRecDepth 100000
theorem open_array {α : Type} {K : World → α → List Value → Prop} {P : Program} {t e : TypeId} {m : Nat} (hO : Opens P K t) (hs : P.underlying t = some (.array m e)) {H : Type} {enc : TypeId × Value → H} {W : World} {r : Reach} {b0 : Nat} {v : Value} {d : DataW H} {p : List MemPlace}
    (hv : Value.okWide P W r b0 t v) (h : DataW.Trod enc P W 0 (fun _ => true) true t v d p) (hw : okW (DataW.weights P t d)) : ∃ a cs, v = .agg cs ∧ K W a cs.toList := by
  have hv' := hv
  simp only [Value.okWide, hs] at hv'
  obtain ⟨cs, rfl, _⟩ := hv'
  obtain ⟨fuel, hf⟩ := h
  obtain ⟨a, ha⟩ := hO H enc W fuel _ _ hf hw
  exact ⟨a, cs, rfl, ha⟩
def K3 (_ : World) (x : Int × Int × Int) (l : List Value) : Prop := l = [.int .i64 x.1, .int .i64 x.2.1, .int .i64 x.2.2]
structure Qr where
  a : Int
  b : Int
  c : Int
  f : Int
  t : Int
def KQr (_ : World) (x : Qr) (l : List Value) : Prop := l = [.int .i64 x.a, .int .i64 x.b, .int .i64 x.c, .int .i64 x.f, .int .i64 x.t]
end Go.Proofs.YtpbhoeaadnemhaaGreat
namespace Go.Proofs.YtpbhoeaadnemhaaGreat
open Go.RowKit Go.ChangeShapes Go.WideShapes
set_option linter.unusedVariables false
set_option linter.unusedSimpArgs false
set_option maxRecDepth 100000
theorem cps : Tryz.prog.cellsOf 22 = 1 := by kernel_rfl
theorem cws : Tryz.prog.cellsOf 24 = 1 := by kernel_rfl
theorem ow : Opens Tryz.prog KWl 91 := by
  intro H enc w fuel cs x h hw
  obtain ⟨hl, hf⟩ := trod_fields Tryz.underlying91 h hw
  rw [show Tryz.prog.cellsOf 91 = 5 by kernel_rfl] at hl
  obtain _ | ⟨c0, cs⟩ := cs
  · simp at hl
  obtain _ | ⟨c1, cs⟩ := cs
  · simp at hl
  obtain _ | ⟨c2, cs⟩ := cs
  · simp at hl
  obtain _ | ⟨c3, cs⟩ := cs
  · simp at hl
  obtain _ | ⟨c4, cs⟩ := cs
  · simp at hl
  obtain _ | ⟨cz, cs⟩ := cs
  rotate_left
  · simp at hl
  obtain ⟨a0, e0⟩ := (op).part (hf 0 _ rfl) (cs' := [c0, c1]) (by simp [ci, cp, cl, css, cfs])
  obtain ⟨a1, e1⟩ := (op).part (hf 1 _ rfl) (cs' := [c2, c3]) (by simp [ci, cp, cl, css, cfs])
  obtain ⟨a2, e2⟩ := (oi).part (hf 2 _ rfl) (cs' := [c4]) (by simp [ci, cp, cl, css, cfs])
  exact ⟨⟨a0, a1, a2⟩, by simp_all [KPt, KI, KWl]⟩
theorem ops : Opens Tryz.prog (KSl 2 KPt) 22 := opens_slice op Tryz.underlying22 (by kernel_rfl) (by decide) (of_decide_eq_true (by kernel_rfl))
theorem ows : Opens Tryz.prog (KSl 5 KWl) 24 := opens_slice ow Tryz.underlying24 (by kernel_rfl) (by decide) (of_decide_eq_true (by kernel_rfl))
def KSite (w : World) (x : Site) (l : List Value) : Prop := SiteV w (.agg l.toArray) x
theorem osite : Opens Tryz.prog KSite 26 := by
  intro H enc w fuel cs x h hw
  obtain ⟨hl, hf⟩ := trod_fields Tryz.underlying26 h hw
  rw [show Tryz.prog.cellsOf 26 = 6 by kernel_rfl] at hl
  obtain _ | ⟨c0, cs⟩ := cs
  · simp at hl
  obtain _ | ⟨c1, cs⟩ := cs
  · simp at hl
  obtain _ | ⟨c2, cs⟩ := cs
  · simp at hl
  obtain _ | ⟨c3, cs⟩ := cs
  · simp at hl
  obtain _ | ⟨c4, cs⟩ := cs
  · simp at hl
  obtain _ | ⟨c5, cs⟩ := cs
  · simp at hl
  obtain _ | ⟨cz, cs⟩ := cs
  rotate_left
  · simp at hl
  obtain ⟨a0, e0⟩ := (ops).part (hf 0 _ rfl) (cs' := [c0]) (by simp [cps])
  obtain ⟨a1, e1⟩ := (ol).part (hf 1 _ rfl) (cs' := [c1]) (by simp [cl])
  obtain ⟨a2, e2⟩ := (ows).part (hf 2 _ rfl) (cs' := [c2]) (by simp [cws])
  obtain ⟨a3, e3⟩ := (oi).part (hf 3 _ rfl) (cs' := [c3]) (by simp [ci])
  obtain ⟨a4, e4⟩ := (oi).part (hf 4 _ rfl) (cs' := [c4]) (by simp [ci])
  obtain ⟨a5, e5⟩ := (oi).part (hf 5 _ rfl) (cs' := [c5]) (by simp [ci])
  obtain ⟨v0, e0, h0⟩ := e0
  obtain ⟨v1, e1, h1⟩ := e1
  obtain ⟨v2, e2, h2⟩ := e2
  exact ⟨⟨a0, a1, a2, a3, a4, a5⟩, v0, v1, v2, by simp_all [KI], h0, h1, h2⟩
end Go.Proofs.YtpbhoeaadnemhaaGreat
