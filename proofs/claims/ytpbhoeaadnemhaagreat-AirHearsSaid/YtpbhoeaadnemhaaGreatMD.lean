/- Scenes: how they lie in memory; their decision; the walks of build and check. The walk of check: a scene in which there are an emission and a node. Walks: the signal of an emission, the external power, whether a node is free. -/
import Derived.Test.YtpbhoeaadnemhaaGreatMC
import Derived.Lib.Hide
import Derived.Test.YtpbhoeaadnemhaaGreatM1
import Derived.Test.YtpbhoeaadnemhaaGreatMA
import Derived.Test.YtpbhoeaadnemhaaGreatM9
namespace Go.Proofs.YtpbhoeaadnemhaaGreat
open Go.RowKit
set_option linter.unusedVariables false
set_option linter.unusedSimpArgs false
set_option maxHeartbeats 4000000
set_option maxRecDepth 100000
def ScV (w : World) (v : Value) (s : Site) (x : Spm) (l : List Em) : Prop :=
  ∃ A0 c0 A1 c1 A2 c2 A3 c3 A4 c4 A5 c5 B, v = .agg #[.slice A0 s.nodes.length c0, .slice A1 s.powers.length c1, .slice A2 s.walls.length c2, .int .i64 s.ex, .int .i64 s.noise, .int .i64 s.thr, .slice A3 x.srcs.length c3, .slice A4 x.fds.length c4, .slice A5 l.length c5, .func (.func 40) #[] #[.pointer (some ⟨B, 0, none⟩)]] ∧ SiteV w (.agg #[.slice A0 s.nodes.length c0, .slice A1 s.powers.length c1, .slice A2 s.walls.length c2, .int .i64 s.ex, .int .i64 s.noise, .int .i64 s.thr]) s ∧ SpmV w (.agg #[.slice A3 x.srcs.length c3, .slice A4 x.fds.length c4]) x ∧ SlV 4 KEm w (.slice A5 l.length c5) l ∧ w.cell? ⟨B, 4, none⟩ = some (.int .i64 s.noise) ∧ w.cell? ⟨B, 5, none⟩ = some (.int .i64 s.thr)
theorem ScV.mono {w w1 : World} {v : Value} {s : Site} {x : Spm} {l : List Em} (h : ScV w v s x l) (hb : Below w.heap.size w w1) : ScV w1 v s x l := by
  obtain ⟨A0, c0, A1, c1, A2, c2, A3, c3, A4, c4, A5, c5, B, rfl, h1, h2, h3, h4, h5⟩ := h
  exact ⟨A0, c0, A1, c1, A2, c2, A3, c3, A4, c4, A5, c5, B, rfl, h1.mono hb, h2.mono hb, h3.mono KEm.st hb, cell_mono hb h4, cell_mono hb h5⟩
theorem aHeard (s : Site) (hs : siteB s = true) (B : Nat) (p n : Int) (p0 : 0 ≤ p) (p1 : p ≤ 68719476736) (w : World) (h4 : w.cell? ⟨B, 4, none⟩ = some (.int .i64 s.noise)) (h5 : w.cell? ⟨B, 5, none⟩ = some (.int .i64 s.thr)) :
    Calls Tryz.prog 40 #[.int .i64 p, .int .i64 n, .pointer (some ⟨B, 0, none⟩)] w fun e w' => e = .returned (.bool (hearB s p n)) ∧ w = w' := by
  have hu := Tryz.underlying26
  go_enter Tryz.func40, Tryz.ntmps40
  go_wp2_with fail
  refine (aMargin s hs p p0 p1 _).mono ?_
  rintro e w2 ⟨rfl, rfl⟩
  go_wp2
  go_ret
  exact ⟨ret_bool (by unfold hearB; rfl), rfl⟩
theorem scene_zero {W1 w7 : World} {n : Nat} (hsz : W1.heap.size = n + 1 + 1) (hb : Below (W1.alloc (.cells #[.slice none 0 0, .slice none 0 0, .slice none 0 0, .int .i64 0, .int .i64 0, .int .i64 0, .slice none 0 0, .slice none 0 0, .slice none 0 0, .nilFunc] 59)).heap.size (W1.alloc (.cells #[.slice none 0 0, .slice none 0 0, .slice none 0 0, .int .i64 0, .int .i64 0, .int .i64 0, .slice none 0 0, .slice none 0 0, .slice none 0 0, .nilFunc] 59)) w7) :
    w7.cell? ⟨n + 1 + 1, 0, none⟩ = some (.slice none 0 0) ∧ w7.frozen? ⟨n + 1 + 1, 0, none⟩ = false ∧ w7.cell? ⟨n + 1 + 1, 1, none⟩ = some (.slice none 0 0) ∧ w7.frozen? ⟨n + 1 + 1, 1, none⟩ = false ∧ w7.cell? ⟨n + 1 + 1, 2, none⟩ = some (.slice none 0 0) ∧ w7.frozen? ⟨n + 1 + 1, 2, none⟩ = false ∧ w7.cell? ⟨n + 1 + 1, 3, none⟩ = some (.int .i64 0) ∧ w7.frozen? ⟨n + 1 + 1, 3, none⟩ = false ∧ w7.cell? ⟨n + 1 + 1, 4, none⟩ = some (.int .i64 0) ∧ w7.frozen? ⟨n + 1 + 1, 4, none⟩ = false ∧ w7.cell? ⟨n + 1 + 1, 5, none⟩ = some (.int .i64 0) ∧ w7.frozen? ⟨n + 1 + 1, 5, none⟩ = false ∧ w7.cell? ⟨n + 1 + 1, 6, none⟩ = some (.slice none 0 0) ∧ w7.frozen? ⟨n + 1 + 1, 6, none⟩ = false ∧ w7.cell? ⟨n + 1 + 1, 7, none⟩ = some (.slice none 0 0) ∧ w7.frozen? ⟨n + 1 + 1, 7, none⟩ = false ∧ w7.cell? ⟨n + 1 + 1, 8, none⟩ = some (.slice none 0 0) ∧ w7.frozen? ⟨n + 1 + 1, 8, none⟩ = false ∧ w7.cell? ⟨n + 1 + 1, 9, none⟩ = some (.nilFunc) ∧ w7.frozen? ⟨n + 1 + 1, 9, none⟩ = false := by
  rw [← hsz]
  exact ⟨((bcell hb).1 _ 0 (by simp)).trans (by go_simp), ((bcell hb).2 _ 0 (by simp)).trans (by go_simp), ((bcell hb).1 _ 1 (by simp)).trans (by go_simp), ((bcell hb).2 _ 1 (by simp)).trans (by go_simp), ((bcell hb).1 _ 2 (by simp)).trans (by go_simp), ((bcell hb).2 _ 2 (by simp)).trans (by go_simp), ((bcell hb).1 _ 3 (by simp)).trans (by go_simp), ((bcell hb).2 _ 3 (by simp)).trans (by go_simp), ((bcell hb).1 _ 4 (by simp)).trans (by go_simp), ((bcell hb).2 _ 4 (by simp)).trans (by go_simp), ((bcell hb).1 _ 5 (by simp)).trans (by go_simp), ((bcell hb).2 _ 5 (by simp)).trans (by go_simp), ((bcell hb).1 _ 6 (by simp)).trans (by go_simp), ((bcell hb).2 _ 6 (by simp)).trans (by go_simp), ((bcell hb).1 _ 7 (by simp)).trans (by go_simp), ((bcell hb).2 _ 7 (by simp)).trans (by go_simp), ((bcell hb).1 _ 8 (by simp)).trans (by go_simp), ((bcell hb).2 _ 8 (by simp)).trans (by go_simp), ((bcell hb).1 _ 9 (by simp)).trans (by go_simp), ((bcell hb).2 _ 9 (by simp)).trans (by go_simp)⟩
theorem aBuild (s : Site) (x : Spm) (l : List Em) {A0 A1 A2 A3 A4 A5 : Option Addr} {c0 c1 c2 c3 c4 c5 : Nat} (w : World) (hs : SiteV w (.agg #[.slice A0 s.nodes.length c0, .slice A1 s.powers.length c1, .slice A2 s.walls.length c2, .int .i64 s.ex, .int .i64 s.noise, .int .i64 s.thr]) s) (hx : SpmV w (.agg #[.slice A3 x.srcs.length c3, .slice A4 x.fds.length c4]) x) (hl : SlV 4 KEm w (.slice A5 l.length c5) l) :
    Calls Tryz.prog 21 #[.agg #[.slice A0 s.nodes.length c0, .slice A1 s.powers.length c1, .slice A2 s.walls.length c2, .int .i64 s.ex, .int .i64 s.noise, .int .i64 s.thr], .agg #[.slice A3 x.srcs.length c3, .slice A4 x.fds.length c4], .slice A5 l.length c5] w fun e w' => e = .returned (.tuple #[.agg #[.slice A0 s.nodes.length c0, .slice A1 s.powers.length c1, .slice A2 s.walls.length c2, .int .i64 s.ex, .int .i64 s.noise, .int .i64 s.thr, .slice A3 x.srcs.length c3, .slice A4 x.fds.length c4, .slice A5 l.length c5, .func (.func 40) #[] #[.pointer (some ⟨w.heap.size, 0, none⟩)]], .int .i64 (airE s x l)]) ∧ w'.cell? ⟨w.heap.size, 4, none⟩ = some (.int .i64 s.noise) ∧ w'.cell? ⟨w.heap.size, 5, none⟩ = some (.int .i64 s.thr) ∧ Below w.heap.size w w' := by
  have hu := Tryz.underlying26
  have hu2 := Tryz.underlying30
  have hu3 := Tryz.underlying42
  have hu4 := Tryz.underlying59
  have hs' := Lib.hid hs
  have hx' := Lib.hid hx
  have hl' := Lib.hid hl
  clear hs hx hl
  obtain ⟨W1, hW1⟩ : ∃ W : World, W = ((w.alloc (.cells #[.slice A0 s.nodes.length c0, .slice A1 s.powers.length c1, .slice A2 s.walls.length c2, .int .i64 s.ex, .int .i64 s.noise, .int .i64 s.thr] 26)).alloc (.cells #[.slice A3 x.srcs.length c3, .slice A4 x.fds.length c4] 30)) := ⟨_, rfl⟩; have hb1 : Below w.heap.size w W1 := (by rw [hW1]; (repeat (first | exact Below.refl _ _ | assumption | apply b_alloc | apply b_drewN | apply b_drew))); have q : ∀ wq : World, Below W1.heap.size W1 wq → wq.cell? ⟨w.heap.size, 0, none⟩ = some (.slice A0 s.nodes.length c0) ∧ wq.cell? ⟨w.heap.size, 1, none⟩ = some (.slice A1 s.powers.length c1) ∧ wq.cell? ⟨w.heap.size, 2, none⟩ = some (.slice A2 s.walls.length c2) ∧ wq.cell? ⟨w.heap.size, 3, none⟩ = some (.int .i64 s.ex) ∧ wq.cell? ⟨w.heap.size, 4, none⟩ = some (.int .i64 s.noise) ∧ wq.cell? ⟨w.heap.size, 5, none⟩ = some (.int .i64 s.thr) ∧ wq.cell? ⟨w.heap.size + 1, 0, none⟩ = some (.slice A3 x.srcs.length c3) ∧ wq.cell? ⟨w.heap.size + 1, 1, none⟩ = some (.slice A4 x.fds.length c4) := (fun wq hwr => ⟨cell_mono hwr (by rw [hW1]; go_simp), cell_mono hwr (by rw [hW1]; go_simp), cell_mono hwr (by rw [hW1]; go_simp), cell_mono hwr (by rw [hW1]; go_simp), cell_mono hwr (by rw [hW1]; go_simp), cell_mono hwr (by rw [hW1]; go_simp), cell_mono hwr (by rw [hW1]; go_simp), cell_mono hwr (by rw [hW1]; go_simp)⟩); have HW := Lib.hid hW1; clear hW1
  go_enter Tryz.func21, Tryz.ntmps21
  go_wp2_with fail
  rw [← HW.out]
  have hsz : W1.heap.size = w.heap.size + 1 + 1 := by rw [HW.out]; simp
  have hbz : Below W1.heap.size W1 (W1.alloc (.cells #[.slice none 0 0, .slice none 0 0, .slice none 0 0, .int .i64 0, .int .i64 0, .int .i64 0, .slice none 0 0, .slice none 0 0, .slice none 0 0, .nilFunc] 59)) := b_alloc (Below.refl _ _) _
  obtain ⟨m0, m1, m2, m3, m4, m5, m6, m7⟩ := q _ hbz; have Lm0 := Later.cell m0; have Lm1 := Later.cell m1; have Lm2 := Later.cell m2; have Lm3 := Later.cell m3; have Lm4 := Later.cell m4; have Lm5 := Later.cell m5; have Lm6 := Later.cell m6; have Lm7 := Later.cell m7
  refine wp_region_tail 2 (by kernel_rfl) (by kernel_rfl) ?_
  simp only [List.length_cons, List.length_nil, Nat.reduceAdd, Nat.reduceSub, List.take_succ_cons, List.take_zero, List.drop_succ_cons, List.drop_zero]
  repeat (go_big_quiet_step ((go_at_call 42; exact later_of (aCheck s x l _ _ _ _ (hs'.out.mono (b_then (b_then hb1 hbz) (Later.below _))) (hx'.out.mono (b_then (b_then hb1 hbz) (Later.below _))) (hl'.out.mono KEm.st (b_then (b_then hb1 hbz) (Later.below _)))))))
  refine wpQuiet_nil ?_
  rintro _ ⟨z, rfl⟩
  have hbq := z.below
  obtain ⟨f0, g0, f1, g1, f2, g2, f3, g3, f4, g4, f5, g5, f6, g6, f7, g7, f8, g8, f9, g9⟩ := scene_zero hsz hbq
  have key : ∀ wz, Below W1.heap.size W1 wz → wz.cell? ⟨w.heap.size, 4, none⟩ = some (.int .i64 s.noise) ∧ wz.cell? ⟨w.heap.size, 5, none⟩ = some (.int .i64 s.thr) ∧ Below w.heap.size w wz := fun wz h => by
    obtain ⟨_, _, _, _, q4, q5, _⟩ := q wz h
    exact ⟨q4, q5, b_then hb1 h⟩
  have KEY := Lib.hid key
  clear key
  gi_wp2
  go_wp2
  (try simp only [Exit.inBlock, Exit.then])
  refine bodyPost_ret (v := .tuple #[.agg #[.slice A0 s.nodes.length c0, .slice A1 s.powers.length c1, .slice A2 s.walls.length c2, .int .i64 s.ex, .int .i64 s.noise, .int .i64 s.thr, .slice A3 x.srcs.length c3, .slice A4 x.fds.length c4, .slice A5 l.length c5, .func (.func 40) #[] #[.pointer (some ⟨w.heap.size, 0, none⟩)]], .int .i64 (airE s x l)]) ?_ rfl ⟨rfl, KEY.out _ ?_⟩
  · rw [results_cell_tmp rfl]
    go_simp
  · repeat (refine Below.setCell ?_ (by simp [hsz]) _)
    exact b_then hbz hbq
end Go.Proofs.YtpbhoeaadnemhaaGreat
namespace Go.Proofs.YtpbhoeaadnemhaaGreat
open Go.RowKit
set_option linter.unusedVariables false
set_option linter.unusedSimpArgs false
set_option maxHeartbeats 4000000
set_option maxRecDepth 100000
theorem bbt_set (n B o : Nat) (w : World) (v : Value) : Bbt n B w (w.setCell ⟨B, o, none⟩ v) :=
  ⟨rfl, rfl, rfl, by simp [World.setCell], fun k _ hB => Below.heap_setCell _ _ _ _ hB⟩
theorem aCheck2 (s : Site) (x : Spm) (l : List Em) (i node : Int) {A0 A1 A2 A3 A4 A5 : Option Addr} {c0 c1 c2 c3 c4 c5 : Nat} (w : World) (hs : SiteV w (.agg #[.slice A0 s.nodes.length c0, .slice A1 s.powers.length c1, .slice A2 s.walls.length c2, .int .i64 s.ex, .int .i64 s.noise, .int .i64 s.thr]) s) (hx : SpmV w (.agg #[.slice A3 x.srcs.length c3, .slice A4 x.fds.length c4]) x) (hl : SlV 4 KEm w (.slice A5 l.length c5) l) :
    Calls Tryz.prog 26 #[.agg #[.slice A0 s.nodes.length c0, .slice A1 s.powers.length c1, .slice A2 s.walls.length c2, .int .i64 s.ex, .int .i64 s.noise, .int .i64 s.thr], .agg #[.slice A3 x.srcs.length c3, .slice A4 x.fds.length c4], .slice A5 l.length c5, .int .i64 i, .int .i64 node] w fun e w' => e = .returned (.tuple #[.agg #[.slice A0 s.nodes.length c0, .slice A1 s.powers.length c1, .slice A2 s.walls.length c2, .int .i64 s.ex, .int .i64 s.noise, .int .i64 s.thr, .slice A3 x.srcs.length c3, .slice A4 x.fds.length c4, .slice A5 l.length c5, .func (.func 40) #[] #[.pointer (some ⟨w.heap.size + 1 + 1 + 1, 0, none⟩)]], .int .i64 (chkE s x l i node)]) ∧ w'.cell? ⟨w.heap.size + 1 + 1 + 1, 4, none⟩ = some (.int .i64 s.noise) ∧ w'.cell? ⟨w.heap.size + 1 + 1 + 1, 5, none⟩ = some (.int .i64 s.thr) ∧ Below w.heap.size w w' := by
  have hu := Tryz.underlying26
  have hu2 := Tryz.underlying30
  have hu3 := Tryz.underlying42
  have hu4 := Tryz.underlying59
  have hs' := Lib.hid hs
  have hx' := Lib.hid hx
  have hl' := Lib.hid hl
  clear hs hx hl
  obtain ⟨W1, hW1⟩ : ∃ W : World, W = ((w.alloc (.cells #[.slice A0 s.nodes.length c0, .slice A1 s.powers.length c1, .slice A2 s.walls.length c2, .int .i64 s.ex, .int .i64 s.noise, .int .i64 s.thr] 26)).alloc (.cells #[.slice A3 x.srcs.length c3, .slice A4 x.fds.length c4] 30)) := ⟨_, rfl⟩; have hb1 : Below w.heap.size w W1 := (by rw [hW1]; (repeat (first | exact Below.refl _ _ | assumption | apply b_alloc | apply b_drewN | apply b_drew))); have q : ∀ wq : World, Below W1.heap.size W1 wq → wq.cell? ⟨w.heap.size, 0, none⟩ = some (.slice A0 s.nodes.length c0) ∧ wq.cell? ⟨w.heap.size, 1, none⟩ = some (.slice A1 s.powers.length c1) ∧ wq.cell? ⟨w.heap.size, 2, none⟩ = some (.slice A2 s.walls.length c2) ∧ wq.cell? ⟨w.heap.size, 3, none⟩ = some (.int .i64 s.ex) ∧ wq.cell? ⟨w.heap.size, 4, none⟩ = some (.int .i64 s.noise) ∧ wq.cell? ⟨w.heap.size, 5, none⟩ = some (.int .i64 s.thr) ∧ wq.cell? ⟨w.heap.size + 1, 0, none⟩ = some (.slice A3 x.srcs.length c3) ∧ wq.cell? ⟨w.heap.size + 1, 1, none⟩ = some (.slice A4 x.fds.length c4) := (fun wq hwr => ⟨cell_mono hwr (by rw [hW1]; go_simp), cell_mono hwr (by rw [hW1]; go_simp), cell_mono hwr (by rw [hW1]; go_simp), cell_mono hwr (by rw [hW1]; go_simp), cell_mono hwr (by rw [hW1]; go_simp), cell_mono hwr (by rw [hW1]; go_simp), cell_mono hwr (by rw [hW1]; go_simp), cell_mono hwr (by rw [hW1]; go_simp)⟩); have HW := Lib.hid hW1; clear hW1
  go_enter Tryz.func26, Tryz.ntmps26
  go_wp2_with fail
  rw [← HW.out]
  have hsz : W1.heap.size = w.heap.size + 1 + 1 := by rw [HW.out]; simp
  have hbz : Below W1.heap.size W1 (W1.alloc (.cells #[.slice none 0 0, .slice none 0 0, .slice none 0 0, .int .i64 0, .int .i64 0, .int .i64 0, .slice none 0 0, .slice none 0 0, .slice none 0 0, .nilFunc] 59)) := b_alloc (Below.refl _ _) _
  refine (aBuild s x l _ (hs'.out.mono (b_then hb1 hbz)) (hx'.out.mono (b_then hb1 hbz)) (hl'.out.mono KEm.st (b_then hb1 hbz))).mono ?_
  rintro e w5 ⟨rfl, k4, k5, hb5⟩
  have hb15 := b_then hbz hb5
  have hbA : Below w5.heap.size w5 (w5.alloc (.cells #[.slice A0 s.nodes.length c0, .slice A1 s.powers.length c1, .slice A2 s.walls.length c2, .int .i64 s.ex, .int .i64 s.noise, .int .i64 s.thr, .slice A3 x.srcs.length c3, .slice A4 x.fds.length c4, .slice A5 l.length c5, .func (.func 40) #[] #[.pointer (some ⟨w.heap.size + 1 + 1 + 1, 0, none⟩)]] 59)) := b_alloc (Below.refl _ _) _
  have hbA1 := b_then hb15 hbA
  obtain ⟨lb0, lb1, lb2, lb3, lb4, lb5, lb6, lb7⟩ := q _ hbA1
  obtain ⟨f0, g0, f1, g1, f2, g2, f3, g3, f4, g4, f5, g5, f6, g6, f7, g7, f8, g8, f9, g9⟩ := scene_zero hsz (b_then hb5 hbA)
  have esz : (W1.alloc (.cells #[.slice none 0 0, .slice none 0 0, .slice none 0 0, .int .i64 0, .int .i64 0, .int .i64 0, .slice none 0 0, .slice none 0 0, .slice none 0 0, .nilFunc] 59)).heap.size = w.heap.size + 1 + 1 + 1 := by simp [hsz]
  rw [esz] at k4 k5 hb5 ⊢
  have hlt := hb5.size
  rw [esz] at hlt
  have k4' := cell_mono hbA k4
  have k5' := cell_mono hbA k5
  have key : ∀ wz, Bbt (w.heap.size + 1 + 1 + 1 + 1) (w.heap.size + 1 + 1) (w5.alloc (.cells #[.slice A0 s.nodes.length c0, .slice A1 s.powers.length c1, .slice A2 s.walls.length c2, .int .i64 s.ex, .int .i64 s.noise, .int .i64 s.thr, .slice A3 x.srcs.length c3, .slice A4 x.fds.length c4, .slice A5 l.length c5, .func (.func 40) #[] #[.pointer (some ⟨w.heap.size + 1 + 1 + 1, 0, none⟩)]] 59)) wz → wz.cell? ⟨w.heap.size + 1 + 1 + 1, 4, none⟩ = some (.int .i64 s.noise) ∧ wz.cell? ⟨w.heap.size + 1 + 1 + 1, 5, none⟩ = some (.int .i64 s.thr) ∧ Below w.heap.size w wz := fun wz h =>
    ⟨(h.cell (by simp) (by simp)).trans k4', (h.cell (by simp) (by simp)).trans k5', (b_then hb1 hbA1).trans (h.below (by omega) (by omega))⟩
  have KEY := Lib.hid key
  clear key k4 k5
  by_cases he : airE s x l = 0
  · have g0 : (airE s x l == 0) = true := by simpa using he
    have g1 : (airE s x l != 0) = false := by simpa using he
    by_cases hi : (0 ≤ i ∧ i < l.length) ∧ 0 ≤ node ∧ node < s.nodes.length
    · have hE : chkE s x l i node = 0 := by simp [chkE, he, ixB, inB, hi]
      have HE := Lib.hid hE
      have n0 : decide (i < 0) = false := by simp; omega
      have n1 : decide ((l.length : Int) ≤ i) = false := by simp; omega
      have n2 : decide (node < 0) = false := by simp; omega
      have n3 : decide ((s.nodes.length : Int) ≤ node) = false := by simp; omega
      clear he hE hi
      go_wp2
      (try simp only [Exit.inBlock, Exit.then])
      refine bodyPost_ret (v := .tuple #[.agg #[.slice A0 s.nodes.length c0, .slice A1 s.powers.length c1, .slice A2 s.walls.length c2, .int .i64 s.ex, .int .i64 s.noise, .int .i64 s.thr, .slice A3 x.srcs.length c3, .slice A4 x.fds.length c4, .slice A5 l.length c5, .func (.func 40) #[] #[.pointer (some ⟨w.heap.size + 1 + 1 + 1, 0, none⟩)]], .int .i64 (0)]) ?_ rfl ⟨by rw [HE.out], KEY.out _ ?_⟩
      · rw [results_cell_tmp rfl]
        go_simp
      · repeat (refine Bbt.trans ?_ (bbt_set _ _ _ _ _))
        exact Bbt.refl _ _ _
    · have hE : chkE s x l i node = 7 := by
        simp only [chkE, he, if_true]
        rw [if_neg]
        simp only [ixB, inB, Bool.and_eq_true, decide_eq_true_eq]
        exact hi
      have HE := Lib.hid hE
      have HI := Lib.hid hi
      clear he hE hi
      go_wp2_with fail
      all_goals first
        | (exfalso; have := HI.out; omega)
        | skip
      all_goals
        (try simp only [Exit.inBlock, Exit.then])
        refine bodyPost_ret (v := .tuple #[.agg #[.slice A0 s.nodes.length c0, .slice A1 s.powers.length c1, .slice A2 s.walls.length c2, .int .i64 s.ex, .int .i64 s.noise, .int .i64 s.thr, .slice A3 x.srcs.length c3, .slice A4 x.fds.length c4, .slice A5 l.length c5, .func (.func 40) #[] #[.pointer (some ⟨w.heap.size + 1 + 1 + 1, 0, none⟩)]], .int .i64 (7)]) ?_ rfl ⟨by rw [HE.out], KEY.out _ ?_⟩
        · rw [results_cell_tmp rfl]
          go_simp
        · repeat (refine Bbt.trans ?_ (bbt_set _ _ _ _ _))
          exact Bbt.refl _ _ _
  · have g0 : (airE s x l == 0) = false := by simpa using he
    have g1 : (airE s x l != 0) = true := by simpa using he
    have hE : chkE s x l i node = airE s x l := by simp [chkE, he]
    have HE := Lib.hid hE
    clear he hE
    go_wp2
    (try simp only [Exit.inBlock, Exit.then])
    refine bodyPost_ret (v := .tuple #[.agg #[.slice A0 s.nodes.length c0, .slice A1 s.powers.length c1, .slice A2 s.walls.length c2, .int .i64 s.ex, .int .i64 s.noise, .int .i64 s.thr, .slice A3 x.srcs.length c3, .slice A4 x.fds.length c4, .slice A5 l.length c5, .func (.func 40) #[] #[.pointer (some ⟨w.heap.size + 1 + 1 + 1, 0, none⟩)]], .int .i64 (airE s x l)]) ?_ rfl ⟨by rw [HE.out], KEY.out _ ?_⟩
    · rw [results_cell_tmp rfl]
      go_simp
    · repeat (refine Bbt.trans ?_ (bbt_set _ _ _ _ _))
      exact Bbt.refl _ _ _
end Go.Proofs.YtpbhoeaadnemhaaGreat
namespace Go.Proofs.YtpbhoeaadnemhaaGreat
open Go.RowKit
set_option linter.unusedVariables false
set_option linter.unusedSimpArgs false
set_option maxHeartbeats 4000000
set_option maxRecDepth 100000
theorem aOverlapV (a b : Em) (w : World) {c : Bool} (h : overB a b = c) : Calls Tryz.prog 19 #[.agg #[.int .i64 a.node, .int .i64 a.ch, .int .i64 a.frm, .int .i64 a.to], .agg #[.int .i64 b.node, .int .i64 b.ch, .int .i64 b.frm, .int .i64 b.to]] w fun e w' => e = .returned (.bool c) ∧ Below w.heap.size w w' := h ▸ aOverlap a b w
theorem aSignal (s : Site) (x : Spm) (l : List Em) (m : Em) (node : Int) (v : Value) (w : World) (hsc : ScV w v s x l) :
    Calls Tryz.prog 28 #[v, .agg #[.int .i64 m.node, .int .i64 m.ch, .int .i64 m.frm, .int .i64 m.to], .int .i64 node] w fun e w' => e = .returned (.int .i64 (sigI s x m node)) ∧ Below w.heap.size w w' := by
  have hu := Tryz.underlying42
  have hu4 := Tryz.underlying59
  have hsc' := Lib.hid hsc
  obtain ⟨A0, c0, A1, c1, A2, c2, A3, c3, A4, c4, A5, c5, B, rfl, hs, hx, hl, k4, k5⟩ := hsc
  have hs' := Lib.hid hs
  have hx' := Lib.hid hx
  have hl' := Lib.hid hl
  have K4 := Lib.hid k4
  have K5 := Lib.hid k5
  obtain ⟨_, _, e5, hc5, hm5, hr5⟩ := hl
  cases e5
  unfold big at hm5
  clear hs hx k4 k5
  obtain ⟨W1, hW1⟩ : ∃ W : World, W = ((w.alloc (.cells #[.slice A0 s.nodes.length c0, .slice A1 s.powers.length c1, .slice A2 s.walls.length c2, .int .i64 s.ex, .int .i64 s.noise, .int .i64 s.thr, .slice A3 x.srcs.length c3, .slice A4 x.fds.length c4, .slice A5 l.length c5, .func (.func 40) #[] #[.pointer (some ⟨B, 0, none⟩)]] 59)).alloc (.cells #[.int .i64 m.node, .int .i64 m.ch, .int .i64 m.frm, .int .i64 m.to] 42)) := ⟨_, rfl⟩; have hb1 : Below w.heap.size w W1 := (by rw [hW1]; (repeat (first | exact Below.refl _ _ | assumption | apply b_alloc | apply b_drewN | apply b_drew))); have q : ∀ wq : World, Below W1.heap.size W1 wq → wq.cell? ⟨w.heap.size, 0, none⟩ = some (.slice A0 s.nodes.length c0) ∧ wq.cell? ⟨w.heap.size, 1, none⟩ = some (.slice A1 s.powers.length c1) ∧ wq.cell? ⟨w.heap.size, 2, none⟩ = some (.slice A2 s.walls.length c2) ∧ wq.cell? ⟨w.heap.size, 3, none⟩ = some (.int .i64 s.ex) ∧ wq.cell? ⟨w.heap.size, 4, none⟩ = some (.int .i64 s.noise) ∧ wq.cell? ⟨w.heap.size, 5, none⟩ = some (.int .i64 s.thr) ∧ wq.cell? ⟨w.heap.size, 6, none⟩ = some (.slice A3 x.srcs.length c3) ∧ wq.cell? ⟨w.heap.size, 7, none⟩ = some (.slice A4 x.fds.length c4) ∧ wq.cell? ⟨w.heap.size, 8, none⟩ = some (.slice A5 l.length c5) ∧ wq.cell? ⟨w.heap.size, 9, none⟩ = some (.func (.func 40) #[] #[.pointer (some ⟨B, 0, none⟩)]) ∧ wq.cell? ⟨w.heap.size + 1, 0, none⟩ = some (.int .i64 m.node) ∧ wq.cell? ⟨w.heap.size + 1, 1, none⟩ = some (.int .i64 m.ch) ∧ wq.cell? ⟨w.heap.size + 1, 2, none⟩ = some (.int .i64 m.frm) ∧ wq.cell? ⟨w.heap.size + 1, 3, none⟩ = some (.int .i64 m.to) := (fun wq hwr => ⟨cell_mono hwr (by rw [hW1]; go_simp), cell_mono hwr (by rw [hW1]; go_simp), cell_mono hwr (by rw [hW1]; go_simp), cell_mono hwr (by rw [hW1]; go_simp), cell_mono hwr (by rw [hW1]; go_simp), cell_mono hwr (by rw [hW1]; go_simp), cell_mono hwr (by rw [hW1]; go_simp), cell_mono hwr (by rw [hW1]; go_simp), cell_mono hwr (by rw [hW1]; go_simp), cell_mono hwr (by rw [hW1]; go_simp), cell_mono hwr (by rw [hW1]; go_simp), cell_mono hwr (by rw [hW1]; go_simp), cell_mono hwr (by rw [hW1]; go_simp), cell_mono hwr (by rw [hW1]; go_simp)⟩); have HW := Lib.hid hW1; clear hW1
  go_enter Tryz.func28, Tryz.ntmps28
  go_wp2_with fail
  rw [← HW.out]
  refine (sSignal s x _ _ m.node node m.ch m.frm _ (hs'.out.mono hb1) (hx'.out.mono hb1)).mono ?_
  rintro e2 w2 ⟨rfl, hb2⟩
  go_wp2
  go_ret
  exact ⟨rfl, b_then hb1 hb2⟩
theorem aExternal (s : Site) (x : Spm) (l : List Em) (i : Nat) (node : Int) (v : Value) (w : World) (hi : i < l.length) (hsc : ScV w v s x l) :
    Calls Tryz.prog 29 #[v, .int .i64 i, .int .i64 node] w fun e w' => e = .returned (.int .i64 (extI s x (emD l i) node)) ∧ Below w.heap.size w w' := by
  have hu := Tryz.underlying42
  have hu4 := Tryz.underlying59
  have hsc' := Lib.hid hsc
  obtain ⟨A0, c0, A1, c1, A2, c2, A3, c3, A4, c4, A5, c5, B, rfl, hs, hx, hl, k4, k5⟩ := hsc
  have hs' := Lib.hid hs
  have hx' := Lib.hid hx
  have hl' := Lib.hid hl
  have K4 := Lib.hid k4
  have K5 := Lib.hid k5
  obtain ⟨_, _, e5, hc5, hm5, hr5⟩ := hl
  cases e5
  unfold big at hm5
  clear hs hx k4 k5
  obtain ⟨W1, hW1⟩ : ∃ W : World, W = (w.alloc (.cells #[.slice A0 s.nodes.length c0, .slice A1 s.powers.length c1, .slice A2 s.walls.length c2, .int .i64 s.ex, .int .i64 s.noise, .int .i64 s.thr, .slice A3 x.srcs.length c3, .slice A4 x.fds.length c4, .slice A5 l.length c5, .func (.func 40) #[] #[.pointer (some ⟨B, 0, none⟩)]] 59)) := ⟨_, rfl⟩; have hb1 : Below w.heap.size w W1 := (by rw [hW1]; (repeat (first | exact Below.refl _ _ | assumption | apply b_alloc | apply b_drewN | apply b_drew))); have q : ∀ wq : World, Below W1.heap.size W1 wq → wq.cell? ⟨w.heap.size, 0, none⟩ = some (.slice A0 s.nodes.length c0) ∧ wq.cell? ⟨w.heap.size, 1, none⟩ = some (.slice A1 s.powers.length c1) ∧ wq.cell? ⟨w.heap.size, 2, none⟩ = some (.slice A2 s.walls.length c2) ∧ wq.cell? ⟨w.heap.size, 3, none⟩ = some (.int .i64 s.ex) ∧ wq.cell? ⟨w.heap.size, 4, none⟩ = some (.int .i64 s.noise) ∧ wq.cell? ⟨w.heap.size, 5, none⟩ = some (.int .i64 s.thr) ∧ wq.cell? ⟨w.heap.size, 6, none⟩ = some (.slice A3 x.srcs.length c3) ∧ wq.cell? ⟨w.heap.size, 7, none⟩ = some (.slice A4 x.fds.length c4) ∧ wq.cell? ⟨w.heap.size, 8, none⟩ = some (.slice A5 l.length c5) ∧ wq.cell? ⟨w.heap.size, 9, none⟩ = some (.func (.func 40) #[] #[.pointer (some ⟨B, 0, none⟩)]) := (fun wq hwr => ⟨cell_mono hwr (by rw [hW1]; go_simp), cell_mono hwr (by rw [hW1]; go_simp), cell_mono hwr (by rw [hW1]; go_simp), cell_mono hwr (by rw [hW1]; go_simp), cell_mono hwr (by rw [hW1]; go_simp), cell_mono hwr (by rw [hW1]; go_simp), cell_mono hwr (by rw [hW1]; go_simp), cell_mono hwr (by rw [hW1]; go_simp), cell_mono hwr (by rw [hW1]; go_simp), cell_mono hwr (by rw [hW1]; go_simp)⟩); have HW := Lib.hid hW1; clear hW1
  have he := emD_get hi
  generalize emD l i = e at he ⊢
  obtain ⟨b, off, hAe, e0, e1, e2, e3⟩ := hr5.em hb1 he
  subst hAe
  have i0 : (0 : Int) ≤ (i : Int) := by omega
  have i1 : (i : Int) < (l.length : Int) := by omega
  have hbn : Below W1.heap.size W1 (W1.alloc (.cells #[.int .i64 e.node, .int .i64 e.ch, .int .i64 e.frm, .int .i64 e.to] 42)) := b_alloc (Below.refl _ _) _
  rw [HW.out] at e0 e1 e2 e3
  go_enter Tryz.func29, Tryz.ntmps29
  go_wp2_with fail
  rw [← HW.out]
  refine (sExternal s x _ _ node e.ch e.frm e.to _ (hs'.out.mono (b_then hb1 hbn)) (hx'.out.mono (b_then hb1 hbn))).mono ?_
  rintro e2 w2 ⟨rfl, hb2⟩
  go_wp2
  go_ret
  exact ⟨rfl, b_then hb1 (b_then hbn hb2)⟩
theorem aFree (s : Site) (x : Spm) (l : List Em) (i : Nat) (node : Int) (v : Value) (w : World) (hi : i < l.length) (hsc : ScV w v s x l) :
    Calls Tryz.prog 27 #[v, .int .i64 i, .int .i64 node] w fun e w' => e = .returned (.bool (freeB l (emD l i) node)) ∧ Below w.heap.size w w' := by
  have hu := Tryz.underlying42
  have hu4 := Tryz.underlying59
  have hsc' := Lib.hid hsc
  obtain ⟨A0, c0, A1, c1, A2, c2, A3, c3, A4, c4, A5, c5, B, rfl, hs, hx, hl, k4, k5⟩ := hsc
  have hs' := Lib.hid hs
  have hx' := Lib.hid hx
  have hl' := Lib.hid hl
  have K4 := Lib.hid k4
  have K5 := Lib.hid k5
  obtain ⟨_, _, e5, hc5, hm5, hr5⟩ := hl
  cases e5
  unfold big at hm5
  clear hs hx k4 k5
  obtain ⟨W1, hW1⟩ : ∃ W : World, W = (w.alloc (.cells #[.slice A0 s.nodes.length c0, .slice A1 s.powers.length c1, .slice A2 s.walls.length c2, .int .i64 s.ex, .int .i64 s.noise, .int .i64 s.thr, .slice A3 x.srcs.length c3, .slice A4 x.fds.length c4, .slice A5 l.length c5, .func (.func 40) #[] #[.pointer (some ⟨B, 0, none⟩)]] 59)) := ⟨_, rfl⟩; have hb1 : Below w.heap.size w W1 := (by rw [hW1]; (repeat (first | exact Below.refl _ _ | assumption | apply b_alloc | apply b_drewN | apply b_drew))); have q : ∀ wq : World, Below W1.heap.size W1 wq → wq.cell? ⟨w.heap.size, 0, none⟩ = some (.slice A0 s.nodes.length c0) ∧ wq.cell? ⟨w.heap.size, 1, none⟩ = some (.slice A1 s.powers.length c1) ∧ wq.cell? ⟨w.heap.size, 2, none⟩ = some (.slice A2 s.walls.length c2) ∧ wq.cell? ⟨w.heap.size, 3, none⟩ = some (.int .i64 s.ex) ∧ wq.cell? ⟨w.heap.size, 4, none⟩ = some (.int .i64 s.noise) ∧ wq.cell? ⟨w.heap.size, 5, none⟩ = some (.int .i64 s.thr) ∧ wq.cell? ⟨w.heap.size, 6, none⟩ = some (.slice A3 x.srcs.length c3) ∧ wq.cell? ⟨w.heap.size, 7, none⟩ = some (.slice A4 x.fds.length c4) ∧ wq.cell? ⟨w.heap.size, 8, none⟩ = some (.slice A5 l.length c5) ∧ wq.cell? ⟨w.heap.size, 9, none⟩ = some (.func (.func 40) #[] #[.pointer (some ⟨B, 0, none⟩)]) := (fun wq hwr => ⟨cell_mono hwr (by rw [hW1]; go_simp), cell_mono hwr (by rw [hW1]; go_simp), cell_mono hwr (by rw [hW1]; go_simp), cell_mono hwr (by rw [hW1]; go_simp), cell_mono hwr (by rw [hW1]; go_simp), cell_mono hwr (by rw [hW1]; go_simp), cell_mono hwr (by rw [hW1]; go_simp), cell_mono hwr (by rw [hW1]; go_simp), cell_mono hwr (by rw [hW1]; go_simp), cell_mono hwr (by rw [hW1]; go_simp)⟩); have HW := Lib.hid hW1; clear hW1
  have hg := emD_get hi
  generalize emD l i = a at hg ⊢
  have i0 : (0 : Int) ≤ (i : Int) := by omega
  have i1 : (i : Int) < (l.length : Int) := by omega
  have HG := Lib.hid hg
  clear hg
  go_enter Tryz.func27, Tryz.ntmps27
  go_wp2_with fail
  rw [← HW.out]
  go_loopw [12] (fun i wr => ∃ k : Nat, k ≤ l.length ∧ i = .int .i64 k ∧ allTo (fun b => !(decide (b.node = node) && overB b a)) l k ∧ Below W1.heap.size W1 wr) (fun i _ => l.length - (intOf i).toNat)
  case atStart => exact ⟨0, Nat.zero_le _, rfl, allTo.zero _ _, Below.refl _ _⟩
  case round =>
    obtain ⟨k, hk, rfl, ha, hbw⟩ := hrel
    have HA := Lib.hid ha
    clear ha
    by_cases hlt : k < l.length
    · obtain ⟨b, hb⟩ : ∃ b, l[k]? = some b := ⟨_, List.getElem?_eq_getElem hlt⟩
      obtain ⟨bl, off, hAe, e0, e1, e2, e3⟩ := hr5.em (b_then hb1 hbw) hb
      subst hAe
      obtain ⟨_, _, hAe, f0, f1, f2, f3⟩ := hr5.em (b_then hb1 hbw) HG.out
      cases hAe
      have hbn : Below wr.heap.size wr (wr.alloc (.cells #[.int .i64 b.node, .int .i64 b.ch, .int .i64 b.frm, .int .i64 b.to] 42)) := b_alloc (Below.refl _ _) _
      have hbn1 := b_then hbw hbn
      obtain ⟨m0, m1, m2, m3, m4, m5, m6, m7, m8, m9⟩ := q _ hbn1; have Lm0 := Later.cell m0; have Lm1 := Later.cell m1; have Lm2 := Later.cell m2; have Lm3 := Later.cell m3; have Lm4 := Later.cell m4; have Lm5 := Later.cell m5; have Lm6 := Later.cell m6; have Lm7 := Later.cell m7; have Lm8 := Later.cell m8; have Lm9 := Later.cell m9
      have F0 := Later.cell (cell_mono hbn f0)
      have F1 := Later.cell (cell_mono hbn f1)
      have F2 := Later.cell (cell_mono hbn f2)
      have F3 := Later.cell (cell_mono hbn f3)
      have N0 := Later.cell (box_at (Below.refl _ (wr.alloc (.cells #[.int .i64 b.node, .int .i64 b.ch, .int .i64 b.frm, .int .i64 b.to] 42))) rfl 0 rfl)
      have N1 := Later.cell (box_at (Below.refl _ (wr.alloc (.cells #[.int .i64 b.node, .int .i64 b.ch, .int .i64 b.frm, .int .i64 b.to] 42))) rfl 1 rfl)
      have N2 := Later.cell (box_at (Below.refl _ (wr.alloc (.cells #[.int .i64 b.node, .int .i64 b.ch, .int .i64 b.frm, .int .i64 b.to] 42))) rfl 2 rfl)
      have N3 := Later.cell (box_at (Below.refl _ (wr.alloc (.cells #[.int .i64 b.node, .int .i64 b.ch, .int .i64 b.frm, .int .i64 b.to] 42))) rfl 3 rfl)
      have HB := Lib.hid hb
      clear hb
      by_cases hne : b.node = node
      · have g1 : (b.node == node) = true := by simpa using hne
        rcases Bool.eq_false_or_eq_true (overB b a) with ho | ho
        · have hfr : freeB l a node = false := by
            unfold freeB
            rw [Bool.not_eq_false', List.any_eq_true]
            exact ⟨b, List.mem_of_getElem? HB.out, by simp [hne, ho]⟩
          have HF := Lib.hid hfr
          clear hne hfr
          go_wp2_with fail
          refine wp_region_later (by kernel_rfl) (by kernel_rfl) ?_
          repeat (go_big_quiet_step ((go_at_call 19; exact later_of (aOverlapV _ _ _ (by with_reducible assumption)))))
          refine wpQuiet_nil ?_
          rintro _ ⟨z, rfl⟩
          go_wp2
          go_ret
          exact ⟨ret_bool (by rw [HF.out]), b_then hb1 (b_then hbn1 z.below)⟩
        · have HO := Lib.hid ho
          clear hne
          go_wp2_with fail
          refine wp_region_later (by kernel_rfl) (by kernel_rfl) ?_
          repeat (go_big_quiet_step ((go_at_call 19; exact later_of (aOverlapV _ _ _ (by with_reducible assumption)))))
          refine wpQuiet_nil ?_
          rintro _ ⟨z, rfl⟩
          clear ho
          go_wp2
          go_roundw
          case rel => exact ⟨k + 1, by omega, by go_num, HA.out.succ HB.out (by simp [HO.out]), b_then hbn1 z.below⟩
          case measure => simp [intOf]; omega
      · have g1 : (b.node == node) = false := by simpa using hne
        have HNE := Lib.hid hne
        clear hne
        go_wp2_with fail
        refine wp_region_later (by kernel_rfl) (by kernel_rfl) ?_
        repeat (go_big_quiet_step (fail))
        refine wpQuiet_nil ?_
        rintro _ ⟨z, rfl⟩
        go_wp2
        go_roundw
        case rel => exact ⟨k + 1, by omega, by go_num, HA.out.succ HB.out (by simp [HNE.out]), b_then hbn1 z.below⟩
        case measure => simp [intOf]; omega
    · obtain rfl : k = l.length := by omega
      have hfr : freeB l a node = true := by
        rw [free_iff]
        intro b hb hn
        obtain ⟨i, hi, rfl⟩ := List.mem_iff_getElem.1 hb
        have := HA.out i _ hi (List.getElem?_eq_getElem hi)
        simpa [hn] using this
      have HF := Lib.hid hfr
      clear hfr
      go_wp2
      go_ret
      exact ⟨ret_bool (by rw [HF.out]), b_then hb1 hbw⟩
end Go.Proofs.YtpbhoeaadnemhaaGreat
