/- Fadings and signals, in plain terms. -/
import Derived.Test.YtlndgoaobalenaaSpec2
namespace Go.Proofs.Ytlndgoaobalenaa
open Go.RowKit
def betB (f : Fd) (a b : Int) : Bool := (decide (f.frm = -1) || decide (f.frm = a)) && (decide (f.to = -1) || decide (f.to = b))
def appB (f : Fd) (a b c t : Int) : Bool := betB f a b && (decide (f.ch = -1) || decide (f.ch = c)) && decide (f.first ≤ t) && decide (t < f.til)
def leastI (p : Fd → Bool) (fs : List Fd) : Int := fs.foldl (fun m f => if p f then min m f.fac else m) 1000
theorem least_snoc (p : Fd → Bool) {fs : List Fd} {k : Nat} {x : Fd} (hx : fs[k]? = some x) : leastI p (fs.take (k + 1)) = if p x then min (leastI p (fs.take k)) x.fac else leastI p (fs.take k) := by
  rw [List.take_add_one, hx]; simp [leastI]
theorem least_bd (p : Fd → Bool) (fs : List Fd) (h : ∀ f, f ∈ fs → 0 ≤ f.fac) : 0 ≤ leastI p fs ∧ leastI p fs ≤ 1000 := by
  unfold leastI
  suffices ∀ (m : Int), 0 ≤ m → m ≤ 1000 → 0 ≤ fs.foldl (fun m f => if p f then min m f.fac else m) m ∧ fs.foldl (fun m f => if p f then min m f.fac else m) m ≤ 1000 from this 1000 (by omega) (by omega)
  induction fs with
  | nil => intro m h0 h1; exact ⟨h0, h1⟩
  | cons x fs ih =>
    intro m h0 h1
    have hx := h x (List.mem_cons_self ..)
    simp only [List.foldl_cons]
    apply ih (fun f hf => h f (List.mem_cons_of_mem _ hf))
    · split <;> omega
    · split <;> omega
def factorI (x : Spm) (a b c t : Int) : Int := leastI (fun f => appB f a b c t) x.fds
theorem spm_fds {x : Spm} (h : spmB x = true) {f : Fd} (hf : f ∈ x.fds) : fdB f = true := by
  simp only [spmB, Bool.and_eq_true, List.all_eq_true] at h
  exact h.2 f hf
theorem spm_srcs {x : Spm} (h : spmB x = true) {s : Src} (hs : s ∈ x.srcs) : srcB s = true := by
  simp only [spmB, Bool.and_eq_true, List.all_eq_true] at h
  exact h.1.2 s hs
theorem fd_fac {f : Fd} (h : fdB f = true) : 0 ≤ f.fac ∧ f.fac ≤ 1000 := by
  simp [fdB] at h; omega
theorem factor_bd {x : Spm} (h : spmB x = true) (a b c t : Int) : 0 ≤ factorI x a b c t ∧ factorI x a b c t ≤ 1000 :=
  least_bd _ _ fun _ hf => (fd_fac (spm_fds h hf)).1
/-- Factor's two results: the number and the error. -/
def facE (x : Spm) (a b c t : Int) : Int := if spmB x then (if ndB a && ndB b && chB c && tmB t then 0 else 2) else 1
def facN (x : Spm) (a b c t : Int) : Int := if facE x a b c t = 0 then factorI x a b c t else 0
end Go.Proofs.Ytlndgoaobalenaa
