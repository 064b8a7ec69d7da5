/- Powers between nodes, signals, the worst signal: in plain terms. -/
import Derived.Test.YtlndgoaobalenaaSpc9
import Derived.Test.YtlndgoaobalenaaSpec5
import Derived.Test.YtlndgoaobalenaaSpec3
namespace Go.Proofs.Ytlndgoaobalenaa
open Go.RowKit
def powI (s : Site) (a : Int) : Int := s.powers[a.toNat]?.getD 0
def betweenI (s : Site) (a b : Int) : Int := if a = b then 0 else atI s (nodeI s a) (powI s a) (nodeI s b)
def btwE (s : Site) (a b : Int) : Int := if siteB s then (if inB s a && inB s b then 0 else 7) else 1
def btwN (s : Site) (a b : Int) : Int := if siteB s && (inB s a && inB s b) then betweenI s a b else 0
def everB (f : Fd) (a b : Int) : Bool := betB f a b && decide (f.first < f.til)
def worstI (x : Spm) (a b : Int) : Int := leastI (fun f => everB f a b) x.fds
def pairN (s : Site) (x : Spm) (a b : Int) : Int := if nodesE s x a b = 0 then betweenI s a b else 0
def sigE (s : Site) (x : Spm) (a b c t : Int) : Int := if nodesE s x a b = 0 then (if chB c && tmB t then 0 else 2) else nodesE s x a b
def sigN (s : Site) (x : Spm) (a b c t : Int) : Int := if sigE s x a b c t = 0 then betweenI s a b * factorI x a b c t / 1000 else 0
def wstN (s : Site) (x : Spm) (a b : Int) : Int := if nodesE s x a b = 0 then betweenI s a b * worstI x a b / 1000 else 0
theorem inB_is {s : Site} {a : Int} (h : inB s a = true) : 0 ≤ a ∧ a < s.nodes.length := by simpa [inB] using h
theorem site_len {s : Site} (h : siteB s = true) : 2 ≤ s.nodes.length ∧ s.nodes.length ≤ 32 ∧ s.powers.length = s.nodes.length ∧ s.walls.length ≤ 32 := by
  simp only [siteB, headB, Bool.and_eq_true, decide_eq_true_eq] at h
  omega
theorem node_at {s : Site} {a : Int} (h : inB s a = true) : s.nodes[a.toNat]? = some (nodeI s a) := by
  obtain ⟨h0, h1⟩ := inB_is h
  have : a.toNat < s.nodes.length := by omega
  simp [nodeI, List.getElem?_eq_getElem this]
theorem pow_at {s : Site} {a : Int} (hs : siteB s = true) (h : inB s a = true) : s.powers[a.toNat]? = some (powI s a) := by
  obtain ⟨h0, h1⟩ := inB_is h
  have h2 := site_len hs
  have : a.toNat < s.powers.length := by omega
  simp [powI, List.getElem?_eq_getElem this]
theorem node_pt {s : Site} {a : Int} (hs : siteB s = true) (h : inB s a = true) : ptB (nodeI s a) = true := by
  simp only [siteB, Bool.and_eq_true, List.all_eq_true] at hs
  exact hs.1.1.2 _ (List.mem_of_getElem? (node_at h))
theorem pow_pow {s : Site} {a : Int} (hs : siteB s = true) (h : inB s a = true) : powB (powI s a) = true := by
  have hp := pow_at hs h
  simp only [siteB, Bool.and_eq_true, List.all_eq_true] at hs
  exact hs.1.2 _ (List.mem_of_getElem? hp)
theorem site_walls {s : Site} (hs : siteB s = true) : ∀ q, q ∈ s.walls → wlB q = true := by
  simp only [siteB, Bool.and_eq_true, List.all_eq_true] at hs
  exact hs.2
theorem at_pow {s : Site} (hs : siteB s = true) (a b : Pt) {p : Int} (hp : powB p = true) : powB (atI s a p b) = true :=
  walls_pow _ (base_pow _ a b hp) (site_walls hs)
theorem between_pow {s : Site} {a b : Int} (hs : siteB s = true) (ha : inB s a = true) : powB (betweenI s a b) = true := by
  unfold betweenI
  split
  · rfl
  · exact at_pow hs _ _ (pow_pow hs ha)
theorem worst_bd {x : Spm} (h : spmB x = true) (a b : Int) : 0 ≤ worstI x a b ∧ worstI x a b ≤ 1000 :=
  least_bd _ _ fun _ hf => (fd_fac (spm_fds h hf)).1
theorem nodes_zero {s : Site} {x : Spm} {a b : Int} (h : nodesE s x a b = 0) : siteB s = true ∧ spmB x = true ∧ inB s a = true ∧ inB s b = true := by
  unfold nodesE at h
  split at h
  · rename_i h1
    split at h
    · rename_i h2
      simp only [Bool.and_eq_true] at h1 h2
      exact ⟨h1.1, h1.2, h2.1, h2.2⟩
    · cases h
  · cases h
end Go.Proofs.Ytlndgoaobalenaa
