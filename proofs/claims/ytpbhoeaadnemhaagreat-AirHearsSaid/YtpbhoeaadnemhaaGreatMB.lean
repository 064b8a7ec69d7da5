/- Emissions: how they lie in memory, what the checks say; the walks of Overlap. What the functions of the air compute, in plain terms: interference, reception, what is heard. Laws of the air, in plain terms. -/
import Derived.Test.YtpbhoeaadnemhaaGreatM7
import Derived.Test.YtpbhoeaadnemhaaGreatM1
import Derived.Test.YtpbhoeaadnemhaaGreatM8
namespace Go.Proofs.YtpbhoeaadnemhaaGreat
open Go.RowKit
attribute [local go_sem high] max2_mx min2_mn max_two min_two
attribute [local go_sem] eql_nil
set_option linter.unusedVariables false
set_option linter.unusedSimpArgs false
set_option maxHeartbeats 4000000
set_option maxRecDepth 100000
structure Em where
  node : Int
  ch : Int
  frm : Int
  to : Int
def KEm (_ : World) (e : Em) (l : List Value) : Prop := l = [.int .i64 e.node, .int .i64 e.ch, .int .i64 e.frm, .int .i64 e.to]
theorem KEm.st : Stable KEm := fun _ _ _ _ _ h => h
theorem KEm.pl : Plain 4 KEm := by rintro w x l rfl; exact ⟨rfl, by simp [Value.oneCell']⟩
theorem Rw.em {w w1 : World} {A : Option Addr} {xs : List Em} (h : Rw 4 KEm w A xs) (hb : Below w.heap.size w w1) {i : Nat} {x : Em} (hx : xs[i]? = some x) :
    ∃ b off, A = some ⟨b, off, none⟩ ∧ w1.cell? ⟨b, off + i * 4, none⟩ = some (.int .i64 x.node) ∧ w1.cell? ⟨b, off + i * 4 + 1, none⟩ = some (.int .i64 x.ch) ∧ w1.cell? ⟨b, off + i * 4 + 2, none⟩ = some (.int .i64 x.frm) ∧ w1.cell? ⟨b, off + i * 4 + 3, none⟩ = some (.int .i64 x.to) := by
  obtain ⟨b, off, l, e, rfl, hc⟩ := h.at_ hb hx
  exact ⟨b, off, e, hc 0 _ rfl, hc 1 _ rfl, hc 2 _ rfl, hc 3 _ rfl⟩
def overB (a b : Em) : Bool := decide (max a.frm b.frm < min a.to b.to)
theorem aOverlap (a b : Em) (w : World) : Calls Tryz.prog 19 #[.agg #[.int .i64 a.node, .int .i64 a.ch, .int .i64 a.frm, .int .i64 a.to], .agg #[.int .i64 b.node, .int .i64 b.ch, .int .i64 b.frm, .int .i64 b.to]] w fun e w' => e = .returned (.bool (overB a b)) ∧ Below w.heap.size w w' := by
  have hu := Tryz.underlying42
  go_enter Tryz.func19, Tryz.ntmps19
  go_wp2
  all_goals (go_ret; exact ⟨ret_bool (by rw [Bool.eq_iff_iff]; simp [overB]; try omega), by (repeat (first | exact Below.refl _ _ | assumption | apply b_alloc | apply b_drewN | apply b_drew))⟩)
theorem r07Overlap (a b : Em) (w : World) : Calls Tryz.prog 45 #[.agg #[.int .i64 a.node, .int .i64 a.ch, .int .i64 a.frm, .int .i64 a.to], .agg #[.int .i64 b.node, .int .i64 b.ch, .int .i64 b.frm, .int .i64 b.to]] w fun e w' => e = .returned (.bool (overB a b)) ∧ Below w.heap.size w w' := by
  have hu := Tryz.underlying42
  go_enter Tryz.func45, Tryz.ntmps45
  go_wp2
  all_goals (go_ret; exact ⟨ret_bool (by rw [Bool.eq_iff_iff]; simp [overB]; try omega), by (repeat (first | exact Below.refl _ _ | assumption | apply b_alloc | apply b_drewN | apply b_drew))⟩)
theorem infocloneEm : (Tryz.prog.info? 42).map (fun i => (i.zero, i.size, i.bytes)) = some (some (.agg #[.int .i64 0, .int .i64 0, .int .i64 0, .int .i64 0]), 4, 32) := by kernel_rfl
theorem cloneEm (xs : List Em) (v : Value) (w0 w : World) (hw0 : Below w0.heap.size w0 w) (h : SlV 4 KEm w0 v xs) (hlen : xs.length ≤ 1000) :
    Calls Tryz.prog 8 #[v] w fun e w' => ∃ u cs, e = .returned u ∧ w'.ownsRow w.heap.size 42 4 u xs.length cs ∧ Flat 4 KEm w0 xs cs ∧ Below w.heap.size w w' := by
  have hsl := Tryz.underlying31
  obtain ⟨A, c, rfl, hc, hm, hr⟩ := h
  rcases A with _ | ad
  · have hx0 : xs = [] := by
      rcases xs with _ | ⟨x, xs⟩
      · rfl
      · obtain ⟨b, off, e, _⟩ := hr (by simp)
        cases e
    subst hx0
    go_enter Tryz.func8, Tryz.ntmps8
    go_wp2
    go_ret
    exact ⟨_, [], rfl, own_nil _ _ _ _, Flat.nil _ _ _, Below.refl _ _⟩
  · obtain ⟨cs, hf, hcs⟩ : ∃ cs, Flat 4 KEm w0 xs cs ∧ ∀ j u, cs[j]? = some u → w.cell? (ad.add j) = some u := by
      by_cases hx0 : xs = []
      · subst hx0
        exact ⟨[], Flat.nil _ _ _, fun j u h => by simp at h⟩
      · obtain ⟨b, off, e, _⟩ := hr hx0
        cases e
        obtain ⟨cs, hf, hcs⟩ := Rw.flat KEm.pl hr
        exact ⟨cs, hf, fun j u hu => by rw [Go.WideShapes.add_plain]; exact cell_mono hw0 (hcs j u hu)⟩
    have own0 : (w.alloc (.cells #[] 42)).ownsRow w.heap.size 42 4 (.slice (some ⟨w.heap.size, 0, none⟩) 0 0) 0 [] :=
      ⟨by simp, .inr ⟨_, _, #[], rfl, Nat.le_refl _, World.alloc_heap_new _ _, by omega, by first | omega | simp | decide | exact Nat.le_refl _, rfl, rfl⟩⟩
    have hcs2 : ∀ j u, cs[j]? = some u → (w.alloc (.cells #[] 42)).cell? (ad.add j) = some u := fun j u hu => cell_mono (b_alloc (Below.refl _ _) _) (hcs j u hu)
    have hb0 : Below w.heap.size w (w.alloc (.cells #[] 42)) := b_alloc (Below.refl _ _) _
    have HF := Lib.hid hf
    have HCS := Lib.hid hcs2
    clear hf hcs hcs2 hr
    go_enter Tryz.func8, Tryz.ntmps8
    go_wp2_with ((at_builtin; refine append_cells (w0 := w) w.heap.size rfl (.tmp 5) (.tmp 6) 31 42 rfl Tryz.underlying31 infocloneEm rfl (by decide) (.slice (some ⟨w.heap.size, 0, none⟩) 0 0) 0 [] rfl ad xs.length c cs rfl HF.out.1 HCS.out (HF.out.cells KEm.pl) own0 hb0 (by simp) (by unfold maxLen; omega) (by omega) ?_; intro v1 w1 hown1 hb1x hg1 hat1))
    go_ret
    exact ⟨_, cs, rfl, by simpa using hown1, HF.out, hb1x⟩
/-! ### What Check says -/
def emB (e : Em) : Bool := chB e.ch && ivB e.frm e.to && decide (e.frm ≠ e.to)
/-- The error at the emission number i. -/
def emE (s : Site) (l : List Em) (i : Nat) (e : Em) : Int :=
  if decide (0 ≤ e.node) && decide (e.node < s.nodes.length) then (if emB e then (if (l.take i).any (fun b => decide (b.node = e.node) && overB e b) then 16 else 0) else 2) else 7
def emsE (s : Site) (l : List Em) : Nat → Int
  | 0 => 0
  | k + 1 => if emsE s l k = 0 then (match l[k]? with | some e => emE s l k e | none => 0) else emsE s l k
/-- The error of Check. -/
def airE (s : Site) (x : Spm) (l : List Em) : Int := if siteB s && spmB x then (if l.length ≤ 48 then emsE s l l.length else 8) else 1
theorem ems_succ {s : Site} {l : List Em} {k : Nat} {e : Em} (h : emsE s l k = 0) (he : l[k]? = some e) : emsE s l (k + 1) = emE s l k e := by
  simp [emsE, h, he]
theorem ems_stay {s : Site} {l : List Em} {k : Nat} (h : emsE s l k ≠ 0) : ∀ n, k ≤ n → emsE s l n = emsE s l k
  | 0, hn => by rw [show k = 0 by omega]
  | n + 1, hn => by
    by_cases c : k = n + 1
    · rw [c]
    · have ih := ems_stay h n (by omega)
      rw [emsE, ih, if_neg h]
theorem over_comm (a b : Em) : overB a b = overB b a := by
  unfold overB
  rw [Int.max_comm, Int.min_comm]
end Go.Proofs.YtpbhoeaadnemhaaGreat
namespace Go.Proofs.YtpbhoeaadnemhaaGreat
open Go.RowKit
set_option linter.unusedVariables false
def emD (l : List Em) (i : Nat) : Em := l[i]?.getD ⟨0, 0, 0, 0⟩
theorem emD_at {l : List Em} {i : Nat} {e : Em} (h : l[i]? = some e) : emD l i = e := by simp [emD, h]
theorem emD_get {l : List Em} {i : Nat} (h : i < l.length) : l[i]? = some (emD l i) := by simp [emD, List.getElem?_eq_getElem h]
/-- The emission number k, which is b, counts in the interference with a, which is number i. -/
def cntB (a : Em) (i : Nat) (node : Int) (k : Nat) (b : Em) : Bool := decide (k ≠ i) && decide (b.ch = a.ch) && decide (b.node ≠ node) && overB a b
def othTo (l : List Em) (i : Nat) (node : Int) (n : Nat) : List Nat := (List.range n).filter fun k => cntB (emD l i) i node k (emD l k)
def othL (l : List Em) (i : Nat) (node : Int) : List Nat := othTo l i node l.length
def sigI (s : Site) (x : Spm) (e : Em) (node : Int) : Int := sigN s x e.node node e.ch e.frm
def extI (s : Site) (x : Spm) (a : Em) (node : Int) : Int := extN s x node a.ch a.frm a.to
def addI (s : Site) (x : Spm) (l : List Em) (node : Int) (n : Int) (k : Nat) : Int := wrap64 (n + sigI s x (emD l k) node)
def intfTo (s : Site) (x : Spm) (l : List Em) (i : Nat) (node : Int) (n : Nat) : Int := (othTo l i node n).foldl (addI s x l node) (extI s x (emD l i) node)
def intfI (s : Site) (x : Spm) (l : List Em) (i : Nat) (node : Int) : Int := intfTo s x l i node l.length
def freeB (l : List Em) (a : Em) (node : Int) : Bool := !(l.any fun b => decide (b.node = node) && overB b a)
def margI (s : Site) (p : Int) : Int := max (1000 * p / s.thr - s.noise) (-1)
def hearB (s : Site) (p n : Int) : Bool := decide (n ≤ margI s p)
def recvB (s : Site) (x : Spm) (l : List Em) (i : Nat) (node : Int) : Bool := freeB l (emD l i) node && hearB s (sigI s x (emD l i) node) (intfI s x l i node)
theorem oth_succ (l : List Em) (i : Nat) (node : Int) (n : Nat) : othTo l i node (n + 1) = if cntB (emD l i) i node n (emD l n) then othTo l i node n ++ [n] else othTo l i node n := by
  simp only [othTo, List.range_succ, List.filter_append]
  split <;> simp_all
theorem intf_succ (s : Site) (x : Spm) (l : List Em) (i : Nat) (node : Int) (n : Nat) : intfTo s x l i node (n + 1) = if cntB (emD l i) i node n (emD l n) then wrap64 (intfTo s x l i node n + sigI s x (emD l n) node) else intfTo s x l i node n := by
  simp only [intfTo, oth_succ]
  split <;> simp [addI]
/-! ### The error of a list with an index and a node; the results -/
def ixB (l : List Em) (i : Int) : Bool := decide (0 ≤ i) && decide (i < l.length)
def chkE (s : Site) (x : Spm) (l : List Em) (i node : Int) : Int := if airE s x l = 0 then (if ixB l i && inB s node then 0 else 7) else airE s x l
def itfN (s : Site) (x : Spm) (l : List Em) (i node : Int) : Int := if chkE s x l i node = 0 then intfI s x l i.toNat node else 0
def rcvN (s : Site) (x : Spm) (l : List Em) (i node : Int) : Bool := if chkE s x l i node = 0 then recvB s x l i.toNat node else false
def rcsTo (s : Site) (x : Spm) (l : List Em) (i : Nat) (n : Nat) : List Int := ((List.range n).filter fun (k : Nat) => recvB s x l i (k : Int)).map fun (k : Nat) => (k : Int)
def rcsI (s : Site) (x : Spm) (l : List Em) (i : Nat) : List Int := rcsTo s x l i s.nodes.length
def rcsN (s : Site) (x : Spm) (l : List Em) (i : Int) : List Int := if chkE s x l i 0 = 0 then rcsI s x l i.toNat else []
/-- Not received because of other nodes. -/
def lostB (s : Site) (x : Spm) (l : List Em) (i : Nat) (node : Int) : Bool := freeB l (emD l i) node && hearB s (sigI s x (emD l i) node) (extI s x (emD l i) node) && !hearB s (sigI s x (emD l i) node) (intfI s x l i node)
def disI (s : Site) (x : Spm) (l : List Em) (i : Nat) (node : Int) : List Int := if lostB s x l i node then (othL l i node).map fun (k : Nat) => (k : Int) else []
def disN (s : Site) (x : Spm) (l : List Em) (i node : Int) : List Int := if chkE s x l i node = 0 then disI s x l i.toNat node else []
structure Lis where
  node : Int
  ch : Int
  frm : Int
  to : Int
def hearE (s : Site) (x : Spm) (l : List Em) (y : Lis) : Int := if airE s x l = 0 then (if inB s y.node then (if chB y.ch && ivB y.frm y.to then 0 else 2) else 7) else airE s x l
def inWin (y : Lis) (a : Em) : Bool := decide (a.ch = y.ch) && decide (y.frm ≤ a.frm) && decide (a.frm ≤ y.to)
/-- The first of the first n emissions that is heard; -1 if there is none. -/
def bestTo (p : Nat → Bool) (l : List Em) : Nat → Int
  | 0 => -1
  | n + 1 => if p n && (decide (bestTo p l n < 0) || decide ((emD l n).frm < (emD l (bestTo p l n).toNat).frm)) then (n : Int) else bestTo p l n
def winP (s : Site) (x : Spm) (l : List Em) (y : Lis) (n : Nat) : Bool := inWin y (emD l n) && recvB s x l n y.node
def bestI (s : Site) (x : Spm) (l : List Em) (y : Lis) : Int := bestTo (winP s x l y) l l.length
def hearN (s : Site) (x : Spm) (l : List Em) (y : Lis) : Int := if hearE s x l y = 0 then max (bestI s x l y) 0 else 0
def heardB (s : Site) (x : Spm) (l : List Em) (y : Lis) : Bool := if hearE s x l y = 0 then decide (0 ≤ bestI s x l y) else false
/-! ### What a valid list is -/
theorem ems_zero {s : Site} {l : List Em} : ∀ {n : Nat}, emsE s l n = 0 → n ≤ l.length → ∀ k, k < n → emE s l k (emD l k) = 0
  | 0, _, _, k, hk => absurd hk (Nat.not_lt_zero _)
  | n + 1, h, hn, k, hk => by
    have h1 : emsE s l n = 0 := by
      by_cases c : emsE s l n = 0
      · exact c
      · rw [emsE, if_neg c] at h; exact absurd h c
    rcases Nat.lt_succ_iff_lt_or_eq.1 hk with h2 | rfl
    · exact ems_zero h1 (by omega) k h2
    · rw [ems_succ h1 (emD_get (by omega))] at h
      exact h
theorem ems_of {s : Site} {l : List Em} : ∀ {n : Nat}, n ≤ l.length → (∀ k, k < n → emE s l k (emD l k) = 0) → emsE s l n = 0
  | 0, _, _ => rfl
  | n + 1, hn, h => by
    rw [ems_succ (ems_of (by omega) fun k hk => h k (by omega)) (emD_get (by omega))]
    exact h n (by omega)
theorem em_zero {s : Site} {l : List Em} {k : Nat} {e : Em} (h : emE s l k e = 0) : inB s e.node = true ∧ emB e = true ∧ ∀ j y, j < k → l[j]? = some y → ¬(y.node = e.node ∧ overB e y = true) := by
  unfold emE at h
  split at h
  · rename_i h1
    split at h
    · rename_i h2
      split at h
      · cases h
      · rename_i h3
        refine ⟨by simpa [inB] using h1, h2, fun j y hj hy hc => h3 ?_⟩
        rw [List.any_eq_true]
        exact ⟨y, List.mem_of_getElem? (i := j) (by rw [List.getElem?_take_of_lt hj]; exact hy), by simp [hc.1, hc.2]⟩
    · cases h
  · cases h
theorem em_of {s : Site} {l : List Em} {k : Nat} {e : Em} (h1 : inB s e.node = true) (h2 : emB e = true) (h3 : ∀ j y, j < k → l[j]? = some y → ¬(y.node = e.node ∧ overB e y = true)) : emE s l k e = 0 := by
  have h0 : (decide (0 ≤ e.node) && decide (e.node < s.nodes.length)) = true := by simpa [inB] using h1
  simp only [emE, h0, h2, if_true]
  rw [if_neg]
  rw [List.any_eq_true]
  rintro ⟨y, hy, hc⟩
  obtain ⟨j, hj, rfl⟩ := List.mem_iff_getElem.1 hy
  rw [List.length_take] at hj
  refine h3 j _ (by omega) (List.getElem?_eq_getElem (by omega)) ?_
  rw [List.getElem_take] at hc
  simpa using hc
structure Valid (s : Site) (x : Spm) (l : List Em) : Prop where
  site : siteB s = true
  spm : spmB x = true
  len : l.length ≤ 48
  node : ∀ e, e ∈ l → inB s e.node = true
  em : ∀ e, e ∈ l → emB e = true
  one : ∀ (i j : Nat) (a b : Em), l[i]? = some a → l[j]? = some b → i ≠ j → ¬(a.node = b.node ∧ overB a b = true)
theorem valid_of {s : Site} {x : Spm} {l : List Em} (h : airE s x l = 0) : Valid s x l := by
  unfold airE at h
  split at h
  · rename_i h1
    split at h
    · rename_i h2
      simp only [Bool.and_eq_true] at h1
      have hz := ems_zero h (Nat.le_refl _)
      have hk : ∀ i a, l[i]? = some a → emE s l i a = 0 := fun i a ha => by
        have := hz i (List.getElem?_eq_some_iff.1 ha).1
        rwa [emD_at ha] at this
      have hm : ∀ e, e ∈ l → ∃ i, l[i]? = some e := fun e he => List.getElem?_of_mem he
      refine ⟨h1.1, h1.2, h2, fun e he => ?_, fun e he => ?_, fun i j a b ha hb hij hc => ?_⟩
      · obtain ⟨i, hi⟩ := hm e he
        exact (em_zero (hk i e hi)).1
      · obtain ⟨i, hi⟩ := hm e he
        exact (em_zero (hk i e hi)).2.1
      · rcases Nat.lt_or_gt_of_ne hij with c | c
        · exact (em_zero (hk j b hb)).2.2 i a c ha ⟨hc.1, by rw [over_comm]; exact hc.2⟩
        · exact (em_zero (hk i a ha)).2.2 j b c hb ⟨hc.1.symm, hc.2⟩
    · cases h
  · cases h
theorem valid_is {s : Site} {x : Spm} {l : List Em} (h : Valid s x l) : airE s x l = 0 := by
  unfold airE
  rw [if_pos (by simp [h.site, h.spm]), if_pos h.len]
  refine ems_of (Nat.le_refl _) fun k hk => ?_
  have hg := emD_get hk
  refine em_of (h.node _ (List.mem_of_getElem? hg)) (h.em _ (List.mem_of_getElem? hg)) fun j y hj hy hc => ?_
  exact h.one k j _ y hg hy (by omega) ⟨hc.1.symm, hc.2⟩
theorem em_is {e : Em} (h : emB e = true) : chB e.ch = true ∧ ivB e.frm e.to = true ∧ tmB e.frm = true ∧ 0 ≤ e.frm ∧ e.frm < e.to ∧ e.to ≤ 1099511627776 := by
  simp only [emB, Bool.and_eq_true, decide_eq_true_eq] at h
  obtain ⟨⟨h1, h2⟩, h3⟩ := h
  have h4 := ivB_is h2
  exact ⟨h1, h2, by simp [tmB]; omega, by omega, by omega, by omega⟩
/-! ### Bounds: no wrap -/
theorem sig_bd (s : Site) (x : Spm) (a b c t : Int) : 0 ≤ sigN s x a b c t ∧ sigN s x a b c t ≤ 68719476736 := by
  by_cases h : sigE s x a b c t = 0
  · have h' := h
    unfold sigE at h
    split at h
    · rename_i hn
      obtain ⟨hv, hxv, ha, hb⟩ := nodes_zero hn
      obtain ⟨p0, p1⟩ := pow_is (between_pow (b := b) hv ha)
      obtain ⟨f0, f1⟩ := factor_bd hxv a b c t
      obtain ⟨q0, q1⟩ := scale_bd p0 f0 f1
      rw [sigN, if_pos h']
      omega
    · rename_i hn; exact absurd h hn
  · rw [sigN, if_neg h]; omega
theorem ext_bd (s : Site) (x : Spm) (a c f t : Int) : 0 ≤ extN s x a c f t ∧ extN s x a c f t ≤ 1099511627776 := by
  by_cases h : extE s x a c f t = 0
  · have hz := ext_zero h
    have hl := spm_len hz.2.1
    rw [ext_is h]
    obtain ⟨h1, h2⟩ := sum_bd s (nodeI s a) (x.srcs.filter (actB c f t))
    have := List.length_filter_le (actB c f t) x.srcs
    omega
  · rw [extN, if_neg h]; omega
theorem range_len (n : Nat) (p : Nat → Bool) : ((List.range n).filter p).length ≤ n := by
  have := List.length_filter_le p (List.range n)
  simpa using this
def sumS (s : Site) (x : Spm) (node : Int) (es : List Em) : Int := (es.map fun e => sigI s x e node).sum
theorem sumS_cons (s : Site) (x : Spm) (node : Int) (e : Em) (es : List Em) : sumS s x node (e :: es) = sigI s x e node + sumS s x node es := by simp [sumS]
theorem sumS_bd (s : Site) (x : Spm) (node : Int) : ∀ es : List Em, 0 ≤ sumS s x node es ∧ sumS s x node es ≤ es.length * 68719476736
  | [] => by simp [sumS]
  | e :: es => by
    obtain ⟨h1, h2⟩ := sumS_bd s x node es
    obtain ⟨h3, h4⟩ := sig_bd s x e.node node e.ch e.frm
    rw [sumS_cons, List.length_cons]
    unfold sigI
    omega
theorem fold_add (s : Site) (x : Spm) (l : List Em) (node : Int) : ∀ (ks : List Nat) (m : Int), 0 ≤ m → m + ks.length * 68719476736 ≤ 4611686018427387904 → ks.foldl (addI s x l node) m = m + sumS s x node (ks.map (emD l))
  | [], m, _, _ => by simp [sumS]
  | k :: ks, m, h0, h1 => by
    obtain ⟨h3, h4⟩ := sig_bd s x (emD l k).node node (emD l k).ch (emD l k).frm
    rw [List.length_cons] at h1
    rw [List.foldl_cons, addI, w64 (by unfold sigI; omega) (by unfold sigI; omega), fold_add s x l node ks _ (by unfold sigI; omega) (by unfold sigI; omega), List.map_cons, sumS_cons]
    omega
theorem intf_is (s : Site) (x : Spm) (l : List Em) (i : Nat) (node : Int) (n : Nat) (hn : n ≤ 50) : intfTo s x l i node n = extI s x (emD l i) node + sumS s x node ((othTo l i node n).map (emD l)) := by
  have hl := range_len n fun k => cntB (emD l i) i node k (emD l k)
  obtain ⟨h1, h2⟩ := ext_bd s x node (emD l i).ch (emD l i).frm (emD l i).to
  unfold intfTo
  rw [fold_add _ _ _ _ _ _ (by unfold extI; omega) (by unfold extI othTo; omega)]
theorem intf_bd (s : Site) (x : Spm) (l : List Em) (i : Nat) (node : Int) (n : Nat) (hn : n ≤ 50) : 0 ≤ intfTo s x l i node n ∧ intfTo s x l i node n ≤ 4535485464576 := by
  have hl := range_len n fun k => cntB (emD l i) i node k (emD l k)
  obtain ⟨h1, h2⟩ := ext_bd s x node (emD l i).ch (emD l i).frm (emD l i).to
  obtain ⟨h3, h4⟩ := sumS_bd s x node ((othTo l i node n).map (emD l))
  rw [List.length_map] at h4
  rw [intf_is _ _ _ _ _ _ hn]
  unfold extI othTo at *
  omega
theorem site_thr {s : Site} (h : siteB s = true) : 1000 ≤ s.thr ∧ s.thr ≤ 100000 ∧ 1 ≤ s.noise ∧ s.noise ≤ 68719476736 := by
  simp only [siteB, headB, rightB, Bool.and_eq_true, decide_eq_true_eq] at h
  omega
/-- The margin decides as the definition does. -/
theorem hear_is {s : Site} (hs : siteB s = true) {p n : Int} (hn : 0 ≤ n) : hearB s p n = decide (s.thr * (s.noise + n) ≤ 1000 * p) := by
  obtain ⟨t0, t1, n0, n1⟩ := site_thr hs
  unfold hearB margI
  rw [Bool.eq_iff_iff, decide_eq_true_eq, decide_eq_true_eq]
  have hd : s.noise + n ≤ 1000 * p / s.thr ↔ (s.noise + n) * s.thr ≤ 1000 * p := Int.le_ediv_iff_mul_le (by omega)
  rw [Int.mul_comm s.thr, ← hd]
  omega
theorem decide_w {s : Site} (hs : siteB s = true) {p n : Int} (p0 : 0 ≤ p) (p1 : p ≤ 68719476736) (n0 : 0 ≤ n) (n1 : n ≤ 4535485464576) :
    wrap64 (1000 * p) = 1000 * p ∧ wrap64 (s.noise + n) = s.noise + n ∧ wrap64 (s.thr * (s.noise + n)) = s.thr * (s.noise + n) := by
  obtain ⟨t0, t1, m0, m1⟩ := site_thr hs
  have h0 : 0 ≤ s.thr * (s.noise + n) := Int.mul_nonneg (by omega) (by omega)
  have h1 : s.thr * (s.noise + n) ≤ 100000 * (68719476736 + 4535485464576) := Int.mul_le_mul t1 (by omega) (by omega) (by omega)
  exact ⟨w64 (by omega) (by omega), w64 (by omega) (by omega), w64 (by omega) (by omega)⟩
theorem marg_w {s : Site} (hs : siteB s = true) {p : Int} (p0 : 0 ≤ p) (p1 : p ≤ 68719476736) :
    wrap64 (1000 * p) = 1000 * p ∧ 0 ≤ 1000 * p / s.thr ∧ 1000 * p / s.thr ≤ 68719476736 ∧ wrap64 (1000 * p / s.thr - s.noise) = 1000 * p / s.thr - s.noise := by
  obtain ⟨t0, t1, m0, m1⟩ := site_thr hs
  have h0 : 0 ≤ 1000 * p / s.thr := Int.ediv_nonneg (by omega) (by omega)
  have h1 : 1000 * p / s.thr ≤ 68719476736 := by
    have : 1000 * p ≤ p * s.thr := by rw [Int.mul_comm]; exact Int.mul_le_mul_of_nonneg_left t0 p0
    have h2 := Int.ediv_le_ediv (c := s.thr) (by omega) this
    rw [Int.mul_ediv_cancel _ (by omega)] at h2
    omega
  exact ⟨w64 (by omega) (by omega), h0, h1, w64 (by omega) (by omega)⟩
end Go.Proofs.YtpbhoeaadnemhaaGreat
namespace Go.Proofs.YtpbhoeaadnemhaaGreat
open Go.RowKit
set_option linter.unusedVariables false
/-- What counts, for a valid list: told by the emissions alone. -/
def cnt2 (a : Em) (node : Int) (b : Em) : Bool := decide (b.ch = a.ch) && decide (b.node ≠ node) && decide (b.node ≠ a.node) && overB a b
theorem cnt_is {s : Site} {x : Spm} {l : List Em} (hv : Valid s x l) {i k : Nat} (hi : i < l.length) (hk : k < l.length) (node : Int) : cntB (emD l i) i node k (emD l k) = cnt2 (emD l i) node (emD l k) := by
  unfold cntB cnt2
  by_cases c : k = i
  · subst c; simp
  · have h := hv.one i k _ _ (emD_get hi) (emD_get hk) (fun h => c h.symm)
    rw [Bool.eq_iff_iff]
    simp only [Bool.and_eq_true, decide_eq_true_eq]
    constructor
    · rintro ⟨⟨⟨h1, h2⟩, h3⟩, h4⟩
      exact ⟨⟨⟨h2, h3⟩, fun h5 => h ⟨h5.symm, h4⟩⟩, h4⟩
    · rintro ⟨⟨⟨h2, h3⟩, h5⟩, h4⟩
      exact ⟨⟨⟨c, h2⟩, h3⟩, h4⟩
theorem range_map (l : List Em) : (List.range l.length).map (emD l) = l := by
  apply List.ext_getElem?
  intro i
  by_cases c : i < l.length
  · rw [List.getElem?_map, List.getElem?_range c, emD_get c]; rfl
  · rw [List.getElem?_eq_none (by simp; omega), List.getElem?_eq_none (by omega)]
theorem filter_range (l : List Em) (p : Em → Bool) : ((List.range l.length).filter fun k => p (emD l k)).map (emD l) = l.filter p := by
  have h := List.filter_map (p := p) (f := emD l) (l := List.range l.length)
  rw [range_map] at h
  exact h.symm
theorem oth_is {s : Site} {x : Spm} {l : List Em} (hv : Valid s x l) {i : Nat} (hi : i < l.length) (node : Int) : othL l i node = (List.range l.length).filter fun k => cnt2 (emD l i) node (emD l k) := by
  unfold othL othTo
  refine List.filter_congr fun k hk => ?_
  exact cnt_is hv hi (List.mem_range.1 hk) node
theorem intf_list {s : Site} {x : Spm} {l : List Em} (hv : Valid s x l) {i : Nat} {a : Em} (ha : l[i]? = some a) (node : Int) : intfI s x l i node = extI s x a node + sumS s x node (l.filter (cnt2 a node)) := by
  have hi := (List.getElem?_eq_some_iff.1 ha).1
  have hl := hv.len
  unfold intfI
  rw [intf_is _ _ _ _ _ _ (by omega), ← filter_range l]
  have := oth_is hv hi node
  unfold othL at this
  rw [this, emD_at ha]
theorem sumS_sub (s : Site) (x : Spm) (node : Int) : ∀ {l1 l2 : List Em}, l1.Sublist l2 → sumS s x node l1 ≤ sumS s x node l2 := by
  intro l1 l2 h
  induction h with
  | slnil => exact Int.le_refl _
  | cons a h ih =>
    have := (sig_bd s x a.node node a.ch a.frm).1
    rw [sumS_cons]
    unfold sigI
    omega
  | cons_cons a h ih => rw [sumS_cons, sumS_cons]; omega
theorem sumS_mem (s : Site) (x : Spm) (node : Int) {e : Em} : ∀ {l : List Em}, e ∈ l → sigI s x e node ≤ sumS s x node l
  | a :: l, h => by
    have h1 := (sig_bd s x a.node node a.ch a.frm).1
    have h2 := (sumS_bd s x node l).1
    rw [sumS_cons]
    rcases List.mem_cons.1 h with rfl | h
    · omega
    · have := sumS_mem s x node h
      unfold sigI at *
      omega
theorem Valid.pw {s : Site} {x : Spm} {l : List Em} (h : Valid s x l) : l.Pairwise fun a b => ¬(a.node = b.node ∧ overB a b = true) := by
  rw [List.pairwise_iff_getElem]
  intro i j hi hj hij
  exact h.one i j _ _ (List.getElem?_eq_getElem hi) (List.getElem?_eq_getElem hj) (by omega)
theorem one_of {l : List Em} (h : l.Pairwise fun a b => ¬(a.node = b.node ∧ overB a b = true)) : ∀ (i j : Nat) (a b : Em), l[i]? = some a → l[j]? = some b → i ≠ j → ¬(a.node = b.node ∧ overB a b = true) := by
  rw [List.pairwise_iff_getElem] at h
  intro i j a b ha hb hij
  obtain ⟨hi, rfl⟩ := List.getElem?_eq_some_iff.1 ha
  obtain ⟨hj, rfl⟩ := List.getElem?_eq_some_iff.1 hb
  rcases Nat.lt_or_gt_of_ne hij with c | c
  · exact h i j hi hj c
  · intro hc
    exact h j i hj hi c ⟨hc.1.symm, by rw [over_comm]; exact hc.2⟩
theorem Valid.sub {s : Site} {x : Spm} {l l' : List Em} (h : Valid s x l) (hs : l'.Sublist l) : Valid s x l' :=
  ⟨h.site, h.spm, Nat.le_trans hs.length_le h.len, fun e he => h.node e (hs.subset he), fun e he => h.em e (hs.subset he), one_of (h.pw.sublist hs)⟩
theorem free_iff {l : List Em} {a : Em} {node : Int} : freeB l a node = true ↔ ∀ b, b ∈ l → b.node = node → overB b a = false := by
  unfold freeB
  rw [Bool.not_eq_true', List.any_eq_false]
  constructor
  · intro h b hb hn
    have := h b hb
    rw [Bool.eq_false_iff]
    intro hc
    exact this (by simp [hn, hc])
  · intro h b hb
    by_cases hn : b.node = node
    · simp [h b hb hn]
    · simp [hn]
theorem recv_iff {s : Site} {x : Spm} {l : List Em} (hv : Valid s x l) {i : Nat} {a : Em} (ha : l[i]? = some a) (node : Int) :
    recvB s x l i node = true ↔ (∀ b, b ∈ l → b.node = node → overB b a = false) ∧ s.thr * (s.noise + (extI s x a node + sumS s x node (l.filter (cnt2 a node)))) ≤ 1000 * sigI s x a node := by
  have h1 := (ext_bd s x node a.ch a.frm a.to).1
  have h2 := (sumS_bd s x node (l.filter (cnt2 a node))).1
  unfold recvB
  rw [emD_at ha, intf_list hv ha, hear_is hv.site (by unfold extI; omega), Bool.and_eq_true, free_iff, decide_eq_true_eq]
theorem recv_sub {s : Site} {x : Spm} {l l' : List Em} (hv : Valid s x l) (hs : l'.Sublist l) {i j : Nat} {a : Em} (ha : l[i]? = some a) (hb : l'[j]? = some a) {node : Int} (h : recvB s x l i node = true) : recvB s x l' j node = true := by
  rw [recv_iff hv ha] at h
  rw [recv_iff (hv.sub hs) hb]
  refine ⟨fun b hb => h.1 b (hs.subset hb), Int.le_trans (Int.mul_le_mul_of_nonneg_left ?_ ?_) h.2⟩
  · have := sumS_sub s x node (hs.filter (cnt2 a node))
    omega
  · have := (site_thr hv.site).1; omega
theorem over_self {e : Em} (h : emB e = true) : overB e e = true := by
  obtain ⟨_, _, _, h1, h2, h3⟩ := em_is h
  simp [overB]; omega
theorem recv_own {s : Site} {x : Spm} {l : List Em} (hv : Valid s x l) {i : Nat} {a : Em} (ha : l[i]? = some a) {node : Int} (h : recvB s x l i node = true) : a.node ≠ node := by
  rw [recv_iff hv ha] at h
  intro hn
  have hm := List.mem_of_getElem? ha
  have := h.1 a hm hn
  rw [over_self (hv.em a hm)] at this
  cases this
theorem recv_busy {s : Site} {x : Spm} {l : List Em} (hv : Valid s x l) {i k : Nat} {a b : Em} (ha : l[i]? = some a) (hb : l[k]? = some b) (ho : overB a b = true) {node : Int} (h : recvB s x l i node = true) : b.node ≠ node := by
  rw [recv_iff hv ha] at h
  intro hn
  have := h.1 b (List.mem_of_getElem? hb) hn
  rw [over_comm, ho] at this
  cases this
theorem recv_more {s : Site} {x : Spm} {l : List Em} (hv : Valid s x l) {i k : Nat} {a b : Em} (ha : l[i]? = some a) (hb : l[k]? = some b) (hik : i ≠ k) (ho : overB a b = true) (hc : a.ch = b.ch) {node : Int} (h : recvB s x l i node = true) (h2 : recvB s x l k node = true) :
    sigI s x b node < sigI s x a node := by
  have hbn := recv_own hv hb h2
  rw [recv_iff hv ha] at h
  have hne : b.node ≠ a.node := fun e => hv.one i k a b ha hb hik ⟨e.symm, ho⟩
  have hm : b ∈ l.filter (cnt2 a node) := List.mem_filter.2 ⟨List.mem_of_getElem? hb, by simp [cnt2, hc, hbn, hne, ho]⟩
  have h3 := sumS_mem s x node hm
  have h4 := (ext_bd s x node a.ch a.frm a.to).1
  have h5 := site_thr hv.site
  have h6 := (sig_bd s x b.node node b.ch b.frm).1
  have h7 : 1000 * (1 + sigI s x b node) ≤ s.thr * (s.noise + (extI s x a node + sumS s x node (l.filter (cnt2 a node)))) := by
    refine Int.mul_le_mul h5.1 ?_ ?_ (by omega)
    · unfold extI; omega
    · unfold sigI; omega
  have := h.2
  omega
theorem recv_once {s : Site} {x : Spm} {l : List Em} (hv : Valid s x l) {i k : Nat} {a b : Em} (ha : l[i]? = some a) (hb : l[k]? = some b) (hik : i ≠ k) (ho : overB a b = true) (hc : a.ch = b.ch) {node : Int} (h : recvB s x l i node = true) : recvB s x l k node = false := by
  rw [Bool.eq_false_iff]
  intro h2
  have := recv_more hv ha hb hik ho hc h h2
  have := recv_more hv hb ha (Ne.symm hik) (by rw [over_comm]; exact ho) hc.symm h2 h
  omega
/-! ### A further emission -/
theorem recv_further {s : Site} {x : Spm} {l : List Em} {m : Em} (hv : Valid s x (l ++ [m])) {i : Nat} {a : Em} (ha : l[i]? = some a) (h : ¬(a.ch = m.ch ∧ overB a m = true)) (node : Int) :
    recvB s x (l ++ [m]) i node = (recvB s x l i node && !(overB a m && decide (node = m.node))) := by
  have hl : Valid s x l := hv.sub (List.sublist_append_left l [m])
  have ha2 : (l ++ [m])[i]? = some a := by rw [List.getElem?_append_left (List.getElem?_eq_some_iff.1 ha).1]; exact ha
  have hf : (l ++ [m]).filter (cnt2 a node) = l.filter (cnt2 a node) := by
    rw [List.filter_append, List.filter_cons, if_neg, List.filter_nil, List.append_nil]
    intro hc
    simp only [cnt2, Bool.and_eq_true, decide_eq_true_eq] at hc
    exact h ⟨hc.1.1.1.symm, hc.2⟩
  rw [Bool.eq_iff_iff, Bool.and_eq_true, recv_iff hv ha2, recv_iff hl ha, hf]
  have hx : (!(overB a m && decide (node = m.node))) = true ↔ (m.node = node → overB m a = false) := by
    rw [over_comm m a]
    rcases Bool.eq_false_or_eq_true (overB a m) with q | q
    · rw [q]; simp; exact ⟨fun h e => h e.symm, fun h e => h e.symm⟩
    · rw [q]; simp
  rw [hx]
  constructor
  · rintro ⟨h1, h2⟩
    exact ⟨⟨fun b hb => h1 b (List.mem_append_left _ hb), h2⟩, h1 m (by simp)⟩
  · rintro ⟨⟨h1, h2⟩, h3⟩
    refine ⟨fun b hb => ?_, h2⟩
    rcases List.mem_append.1 hb with hb | hb
    · exact h1 b hb
    · obtain rfl : b = m := by simpa using hb
      exact h3
/-! ### Without the others -/
/-- The emission number i and those of a node. -/
def aloneTo (l : List Em) (i : Nat) (node : Int) : Nat → List Em
  | 0 => []
  | n + 1 => if decide (n = i) || decide ((emD l n).node = node) then aloneTo l i node n ++ [emD l n] else aloneTo l i node n
theorem alone_sub (l : List Em) (i : Nat) (node : Int) : ∀ n, n ≤ l.length → (aloneTo l i node n).Sublist (l.take n)
  | 0, _ => by simp [aloneTo]
  | n + 1, hn => by
    have ih := alone_sub l i node n (by omega)
    rw [List.take_add_one, emD_get (by omega), aloneTo]
    split
    · exact List.Sublist.append ih (List.Sublist.refl _)
    · exact ih.trans (List.sublist_append_left _ _)
theorem alone_mem {l : List Em} {i : Nat} {node : Int} : ∀ {n : Nat} {b : Em}, b ∈ aloneTo l i node n ↔ ∃ k, k < n ∧ b = emD l k ∧ (k = i ∨ b.node = node)
  | 0, b => by simp [aloneTo]
  | n + 1, b => by
    rw [aloneTo]
    split
    · rename_i h
      simp only [Bool.or_eq_true, decide_eq_true_eq] at h
      rw [List.mem_append, alone_mem]
      constructor
      · rintro (⟨k, h1, h2, h3⟩ | h1)
        · exact ⟨k, by omega, h2, h3⟩
        · obtain rfl : b = emD l n := by simpa using h1
          exact ⟨n, by omega, rfl, h⟩
      · rintro ⟨k, h1, h2, h3⟩
        by_cases c : k = n
        · subst c; exact .inr (by simp [h2])
        · exact .inl ⟨k, by omega, h2, h3⟩
    · rename_i h
      simp only [Bool.or_eq_true, decide_eq_true_eq] at h
      rw [alone_mem]
      constructor
      · rintro ⟨k, h1, h2, h3⟩; exact ⟨k, by omega, h2, h3⟩
      · rintro ⟨k, h1, h2, h3⟩
        by_cases c : k = n
        · subst c; subst h2; exact absurd h3 h
        · exact ⟨k, by omega, h2, h3⟩
theorem alone_at {l : List Em} {i : Nat} {node : Int} : ∀ {n : Nat}, i < n → (aloneTo l i node n)[(aloneTo l i node i).length]? = some (emD l i)
  | n + 1, h => by
    rcases Nat.lt_succ_iff_lt_or_eq.1 h with c | rfl
    · have ih := alone_at (l := l) (node := node) c
      rw [aloneTo]
      split
      · rw [List.getElem?_append_left (List.getElem?_eq_some_iff.1 ih).1]; exact ih
      · exact ih
    · simp [aloneTo]
theorem alone_recv {s : Site} {x : Spm} {l : List Em} (hv : Valid s x l) {i : Nat} (hi : i < l.length) (node : Int) :
    recvB s x (aloneTo l i node l.length) (aloneTo l i node i).length node = (freeB l (emD l i) node && hearB s (sigI s x (emD l i) node) (extI s x (emD l i) node)) := by
  have hs : (aloneTo l i node l.length).Sublist l := by have := alone_sub l i node l.length (Nat.le_refl _); rwa [List.take_length] at this
  have hg := emD_get hi
  have hf : (aloneTo l i node l.length).filter (cnt2 (emD l i) node) = [] := by
    rw [List.filter_eq_nil_iff]
    intro b hb hc
    obtain ⟨k, h1, rfl, h3⟩ := alone_mem.1 hb
    simp only [cnt2, Bool.and_eq_true, decide_eq_true_eq] at hc
    rcases h3 with rfl | h3
    · exact hc.1.2 rfl
    · exact hc.1.1.2 h3
  rw [Bool.eq_iff_iff, recv_iff (hv.sub hs) (alone_at hi), hf, Bool.and_eq_true, free_iff, hear_is hv.site (show 0 ≤ extI s x (emD l i) node from (ext_bd s x node _ _ _).1), decide_eq_true_eq]
  have h0 : sumS s x node [] = 0 := rfl
  rw [h0, Int.add_zero]
  refine and_congr ⟨fun h b hb hn => ?_, fun h b hb => h b (hs.subset hb)⟩ Iff.rfl
  obtain ⟨k, hk⟩ := List.getElem?_of_mem hb
  have hkl := (List.getElem?_eq_some_iff.1 hk).1
  exact h b (alone_mem.2 ⟨k, hkl, (emD_at hk).symm, .inr hn⟩) hn
theorem lost_iff {s : Site} {x : Spm} {l : List Em} (i : Nat) (node : Int) :
    lostB s x l i node = (freeB l (emD l i) node && hearB s (sigI s x (emD l i) node) (extI s x (emD l i) node) && !recvB s x l i node) := by
  unfold lostB recvB
  generalize freeB l (emD l i) node = A
  generalize hearB s (sigI s x (emD l i) node) (extI s x (emD l i) node) = B
  generalize hearB s (sigI s x (emD l i) node) (intfI s x l i node) = C
  cases A <;> cases B <;> cases C <;> rfl
theorem lost_some {s : Site} {x : Spm} {l : List Em} {i : Nat} {node : Int} (h : lostB s x l i node = true) : othL l i node ≠ [] := by
  intro h0
  unfold lostB intfI intfTo at h
  unfold othL at h0
  rw [h0, List.foldl_nil] at h
  generalize freeB l (emD l i) node = A at h
  generalize hearB s (sigI s x (emD l i) node) (extI s x (emD l i) node) = B at h
  cases A <;> cases B <;> cases h
theorem dis_any {s : Site} {x : Spm} {l : List Em} (i : Nat) (node : Int) : decide (0 < (disI s x l i node).length) = lostB s x l i node := by
  unfold disI
  rcases Bool.eq_false_or_eq_true (lostB s x l i node) with q | q
  · have := lost_some q
    rw [q]
    simp [List.length_pos_iff, this]
  · rw [q]; simp
theorem dis_mem {s : Site} {x : Spm} {l : List Em} {i : Nat} {node : Int} {k : Int} (h : k ∈ disI s x l i node) : ∃ n : Nat, k = n ∧ n < l.length ∧ cntB (emD l i) i node n (emD l n) = true := by
  unfold disI at h
  split at h
  · obtain ⟨n, hn, rfl⟩ := List.mem_map.1 h
    unfold othL othTo at hn
    rw [List.mem_filter, List.mem_range] at hn
    exact ⟨n, rfl, hn.1, hn.2⟩
  · cases h
/-! ### Sorted lists -/
theorem range_sorted (n : Nat) (p : Nat → Bool) : (((List.range n).filter p).map fun (k : Nat) => (k : Int)).Pairwise (· ≤ ·) := by
  rw [List.pairwise_map]
  refine List.Pairwise.imp ?_ ((List.pairwise_lt_range (n := n)).filter p)
  intro a b h
  omega
theorem rcs_sorted (s : Site) (x : Spm) (l : List Em) (i : Nat) : (rcsI s x l i).Pairwise (· ≤ ·) := range_sorted _ _
theorem dis_sorted (s : Site) (x : Spm) (l : List Em) (i : Nat) (node : Int) : (disI s x l i node).Pairwise (· ≤ ·) := by
  unfold disI
  split
  · exact range_sorted _ _
  · exact List.Pairwise.nil
theorem rcs_mem {s : Site} {x : Spm} {l : List Em} {i : Nat} {n : Int} : n ∈ rcsI s x l i ↔ 0 ≤ n ∧ n < s.nodes.length ∧ recvB s x l i n = true := by
  unfold rcsI rcsTo
  rw [List.mem_map]
  constructor
  · rintro ⟨k, hk, rfl⟩
    rw [List.mem_filter, List.mem_range] at hk
    exact ⟨by omega, by omega, hk.2⟩
  · rintro ⟨h0, h1, h2⟩
    refine ⟨n.toNat, ?_, by omega⟩
    rw [List.mem_filter, List.mem_range]
    exact ⟨by omega, by rw [show ((n.toNat : Nat) : Int) = n by omega]; exact h2⟩
/-! ### What is heard -/
theorem best_spec (p : Nat → Bool) (l : List Em) : ∀ n, (bestTo p l n = -1 ∧ ∀ k, k < n → p k = false) ∨ (∃ b : Nat, bestTo p l n = b ∧ b < n ∧ p b = true ∧ ∀ k, k < n → p k = true → (emD l b).frm ≤ (emD l k).frm)
  | 0 => .inl ⟨rfl, fun k h => absurd h (Nat.not_lt_zero _)⟩
  | n + 1 => by
    rw [bestTo]
    rcases best_spec p l n with ⟨h1, h2⟩ | ⟨b, h1, h2, h3, h4⟩
    · rw [h1]
      rcases Bool.eq_false_or_eq_true (p n) with q | q
      · right
        refine ⟨n, by simp [q], by omega, q, fun k hk hp => ?_⟩
        rcases Nat.lt_succ_iff_lt_or_eq.1 hk with c | rfl
        · rw [h2 k c] at hp; cases hp
        · exact Int.le_refl _
      · left
        refine ⟨by simp [q], fun k hk => ?_⟩
        rcases Nat.lt_succ_iff_lt_or_eq.1 hk with c | rfl
        · exact h2 k c
        · exact q
    · right
      rw [h1]
      have e1 : decide ((b : Int) < 0) = false := by simp
      have e2 : ((b : Int)).toNat = b := by omega
      rw [e1, e2, Bool.false_or]
      by_cases hc : p n = true ∧ (emD l n).frm < (emD l b).frm
      · refine ⟨n, by simp [hc.1, hc.2], by omega, hc.1, fun k hk hp => ?_⟩
        rcases Nat.lt_succ_iff_lt_or_eq.1 hk with c | rfl
        · have := h4 k c hp; omega
        · exact Int.le_refl _
      · refine ⟨b, ?_, by omega, h3, fun k hk hp => ?_⟩
        · rw [if_neg]
          simp only [Bool.and_eq_true, decide_eq_true_eq]
          exact hc
        · rcases Nat.lt_succ_iff_lt_or_eq.1 hk with c | rfl
          · exact h4 k c hp
          · have : ¬ (emD l k).frm < (emD l b).frm := fun h => hc ⟨hp, h⟩
            omega
/-- Who listens longer hears something, and nothing later. -/
theorem best_wider {p q : Nat → Bool} {l : List Em} {n : Nat} (h : ∀ k, k < n → p k = true → q k = true) (h0 : 0 ≤ bestTo p l n) :
    0 ≤ bestTo q l n ∧ bestTo q l n < n ∧ (emD l (bestTo q l n).toNat).frm ≤ (emD l (bestTo p l n).toNat).frm := by
  rcases best_spec p l n with ⟨h1, h2⟩ | ⟨b, h1, h2, h3, h4⟩
  · omega
  · rcases best_spec q l n with ⟨k1, k2⟩ | ⟨c, k1, k2, k3, k4⟩
    · exact absurd (h b h2 h3) (by simp [k2 b h2])
    · rw [h1, k1]
      refine ⟨by omega, by omega, ?_⟩
      have := k4 b h2 (h b h2 h3)
      simpa using this
end Go.Proofs.YtpbhoeaadnemhaaGreat
