/- slices.Clone. -/
import Derived.Test.YtlndgoaobalenaaFlat
import Derived.Test.YtlndgoaobalenaaSpec
namespace Go.Proofs.Ytlndgoaobalenaa
open Go.RowKit
attribute [local go_sem] eql_nil
set_option linter.unusedVariables false
set_option linter.unusedSimpArgs false
set_option maxHeartbeats 4000000
set_option maxRecDepth 100000
theorem infocloneFd : (Try.prog.info? 47).map (fun i => (i.zero, i.size, i.bytes)) = some (some (.agg #[.int .i64 0, .int .i64 0, .int .i64 0, .int .i64 0, .int .i64 0, .int .i64 0]), 6, 48) := by kernel_rfl
theorem cloneFd (xs : List Fd) (v : Value) (w0 w : World) (hw0 : Below w0.heap.size w0 w) (h : SlV 6 KFd w0 v xs) (hlen : xs.length ≤ 1000) :
    Calls Try.prog 32 #[v] w fun e w' => ∃ u cs, e = .returned u ∧ w'.ownsRow w.heap.size 47 6 u xs.length cs ∧ Flat 6 KFd w0 xs cs ∧ Below w.heap.size w w' := by
  have hsl := Try.underlying23
  obtain ⟨A, c, rfl, hc, hm, hr⟩ := h
  rcases A with _ | ad
  · have hx0 : xs = [] := by
      rcases xs with _ | ⟨x, xs⟩
      · rfl
      · obtain ⟨b, off, e, _⟩ := hr (by simp)
        cases e
    subst hx0
    go_enter Try.func32, Try.ntmps32
    go_wp2
    go_ret
    exact ⟨_, [], rfl, own_nil _ _ _ _, Flat.nil _ _ _, Below.refl _ _⟩
  · obtain ⟨cs, hf, hcs⟩ : ∃ cs, Flat 6 KFd w0 xs cs ∧ ∀ j u, cs[j]? = some u → w.cell? (ad.add j) = some u := by
      by_cases hx0 : xs = []
      · subst hx0
        exact ⟨[], Flat.nil _ _ _, fun j u h => by simp at h⟩
      · obtain ⟨b, off, e, _⟩ := hr hx0
        cases e
        obtain ⟨cs, hf, hcs⟩ := Rw.flat KFd.pl hr
        exact ⟨cs, hf, fun j u hu => by rw [Go.WideShapes.add_plain]; exact cell_mono hw0 (hcs j u hu)⟩
    have own0 : (w.alloc (.cells #[] 47)).ownsRow w.heap.size 47 6 (.slice (some ⟨w.heap.size, 0, none⟩) 0 0) 0 [] :=
      ⟨by simp, .inr ⟨_, _, #[], rfl, Nat.le_refl _, World.alloc_heap_new _ _, by omega, by first | omega | simp | decide | exact Nat.le_refl _, rfl, rfl⟩⟩
    have hcs2 : ∀ j u, cs[j]? = some u → (w.alloc (.cells #[] 47)).cell? (ad.add j) = some u := fun j u hu => cell_mono (b_alloc (Below.refl _ _) _) (hcs j u hu)
    have hb0 : Below w.heap.size w (w.alloc (.cells #[] 47)) := b_alloc (Below.refl _ _) _
    have HF := Lib.hid hf
    have HCS := Lib.hid hcs2
    clear hf hcs hcs2 hr
    go_enter Try.func32, Try.ntmps32
    go_wp2_with ((at_builtin; refine append_cells (w0 := w) w.heap.size rfl (.tmp 5) (.tmp 6) 23 47 rfl Try.underlying23 infocloneFd rfl (by decide) (.slice (some ⟨w.heap.size, 0, none⟩) 0 0) 0 [] rfl ad xs.length c cs rfl HF.out.1 HCS.out (HF.out.cells KFd.pl) own0 hb0 (by simp) (by unfold maxLen; omega) (by omega) ?_; intro v1 w1 hown1 hb1x hg1 hat1))
    go_ret
    exact ⟨_, cs, rfl, by simpa using hown1, HF.out, hb1x⟩
theorem infocloneSrc : (Try.prog.info? 30).map (fun i => (i.zero, i.size, i.bytes)) = some (some (.agg #[.int .i64 0, .int .i64 0, .int .i64 0, .slice none 0 0, .int .i64 0, .int .i64 0, .int .i64 0]), 7, 72) := by kernel_rfl
theorem cloneSrc (xs : List Src) (v : Value) (w0 w : World) (hw0 : Below w0.heap.size w0 w) (h : SlV 7 KSrc w0 v xs) (hlen : xs.length ≤ 1000) :
    Calls Try.prog 22 #[v] w fun e w' => ∃ u cs, e = .returned u ∧ w'.ownsRow w.heap.size 30 7 u xs.length cs ∧ Flat 7 KSrc w0 xs cs ∧ Below w.heap.size w w' := by
  have hsl := Try.underlying22
  obtain ⟨A, c, rfl, hc, hm, hr⟩ := h
  rcases A with _ | ad
  · have hx0 : xs = [] := by
      rcases xs with _ | ⟨x, xs⟩
      · rfl
      · obtain ⟨b, off, e, _⟩ := hr (by simp)
        cases e
    subst hx0
    go_enter Try.func22, Try.ntmps22
    go_wp2
    go_ret
    exact ⟨_, [], rfl, own_nil _ _ _ _, Flat.nil _ _ _, Below.refl _ _⟩
  · obtain ⟨cs, hf, hcs⟩ : ∃ cs, Flat 7 KSrc w0 xs cs ∧ ∀ j u, cs[j]? = some u → w.cell? (ad.add j) = some u := by
      by_cases hx0 : xs = []
      · subst hx0
        exact ⟨[], Flat.nil _ _ _, fun j u h => by simp at h⟩
      · obtain ⟨b, off, e, _⟩ := hr hx0
        cases e
        obtain ⟨cs, hf, hcs⟩ := Rw.flat KSrc.pl hr
        exact ⟨cs, hf, fun j u hu => by rw [Go.WideShapes.add_plain]; exact cell_mono hw0 (hcs j u hu)⟩
    have own0 : (w.alloc (.cells #[] 30)).ownsRow w.heap.size 30 7 (.slice (some ⟨w.heap.size, 0, none⟩) 0 0) 0 [] :=
      ⟨by simp, .inr ⟨_, _, #[], rfl, Nat.le_refl _, World.alloc_heap_new _ _, by omega, by first | omega | simp | decide | exact Nat.le_refl _, rfl, rfl⟩⟩
    have hcs2 : ∀ j u, cs[j]? = some u → (w.alloc (.cells #[] 30)).cell? (ad.add j) = some u := fun j u hu => cell_mono (b_alloc (Below.refl _ _) _) (hcs j u hu)
    have hb0 : Below w.heap.size w (w.alloc (.cells #[] 30)) := b_alloc (Below.refl _ _) _
    have HF := Lib.hid hf
    have HCS := Lib.hid hcs2
    clear hf hcs hcs2 hr
    go_enter Try.func22, Try.ntmps22
    go_wp2_with ((at_builtin; refine append_cells (w0 := w) w.heap.size rfl (.tmp 5) (.tmp 6) 22 30 rfl Try.underlying22 infocloneSrc rfl (by decide) (.slice (some ⟨w.heap.size, 0, none⟩) 0 0) 0 [] rfl ad xs.length c cs rfl HF.out.1 HCS.out (HF.out.cells KSrc.pl) own0 hb0 (by simp) (by unfold maxLen; omega) (by omega) ?_; intro v1 w1 hown1 hb1x hg1 hat1))
    go_ret
    exact ⟨_, cs, rfl, by simpa using hown1, HF.out, hb1x⟩
end Go.Proofs.Ytlndgoaobalenaa
