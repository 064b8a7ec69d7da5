/- The chapter's example. -/
import Derived.Test.YtpbhoeaadnemhaaGreatMF
import Derived.Test.YtpbhoeaadnemhaaGreatMG
import Derived.Test.YtpbhoeaadnemhaaGreatMH
import Derived.Deep.RegionHeld3
namespace Go.Proofs.YtpbhoeaadnemhaaGreat
open Go.RowKit Go.Shelf
set_option linter.unusedVariables false
set_option linter.unusedSimpArgs false
set_option maxHeartbeats 4000000
set_option maxRecDepth 100000
def exS : Site := ⟨[⟨0, 0⟩, ⟨30, 0⟩, ⟨90, 0⟩], [90000, 90000, 90000], [], 2, 10, 2000⟩
def exX : Spm := ⟨[], []⟩
def exL : List Em := [⟨0, 5, 0, 100⟩, ⟨2, 5, 0, 100⟩]
theorem exVals : chkE exS exX exL 0 1 = 0 ∧ chkE exS exX exL 1 1 = 0 ∧ rcvN exS exX exL 0 1 = true ∧ rcvN exS exX exL 1 1 = false ∧ hearE exS exX exL ⟨1, 5, 0, 0⟩ = 0 ∧ hearN exS exX exL ⟨1, 5, 0, 0⟩ = 0 ∧ heardB exS exX exL ⟨1, 5, 0, 0⟩ = true ∧
    disN exS exX exL 1 1 = [0] ∧ itfN exS exX exL 0 1 = 2500 ∧ overB ⟨0, 5, 0, 100⟩ ⟨2, 5, 0, 100⟩ = true := by decide +kernel
theorem exX_reads (w : World) : SpmV w (.agg #[.slice none 0 0, .slice none 0 0]) exX :=
  ⟨_, _, rfl, ⟨none, 0, rfl, Nat.le_refl _, Nat.zero_le _, fun h => absurd rfl h⟩, ⟨none, 0, rfl, Nat.le_refl _, Nat.zero_le _, fun h => absurd rfl h⟩⟩
theorem exS_reads {w : World} {n : Nat} (h0 : w.cell? ⟨n, 0, none⟩ = some (.int .i64 0)) (h1 : w.cell? ⟨n, 1, none⟩ = some (.int .i64 0)) (h2 : w.cell? ⟨n, 2, none⟩ = some (.int .i64 30)) (h3 : w.cell? ⟨n, 3, none⟩ = some (.int .i64 0)) (h4 : w.cell? ⟨n, 4, none⟩ = some (.int .i64 90)) (h5 : w.cell? ⟨n, 5, none⟩ = some (.int .i64 0))
    (k0 : w.cell? ⟨n + 1, 0, none⟩ = some (.int .i64 90000)) (k1 : w.cell? ⟨n + 1, 1, none⟩ = some (.int .i64 90000)) (k2 : w.cell? ⟨n + 1, 2, none⟩ = some (.int .i64 90000)) :
    SiteV w (.agg #[.slice (some ⟨n, 0, none⟩) 3 3, .slice (some ⟨n + 1, 0, none⟩) 3 3, .slice none 0 0, .int .i64 2, .int .i64 10, .int .i64 2000]) exS := by
  refine ⟨_, _, _, rfl, ⟨_, _, rfl, by decide, by unfold big; decide, fun _ => ⟨_, _, rfl, fun i x hx => ?_⟩⟩, ⟨_, _, rfl, by decide, by unfold big; decide, fun _ => ⟨_, _, rfl, fun i x hx => ?_⟩⟩, ⟨none, 0, rfl, Nat.le_refl _, Nat.zero_le _, fun h => absurd rfl h⟩⟩
  · rcases i with _ | _ | _ | i
    · obtain rfl : (⟨0, 0⟩ : Pt) = x := by simpa [exS] using hx
      exact ⟨_, rfl, fun j u hu => by rcases j with _ | _ | j <;> simp at hu <;> subst hu <;> assumption⟩
    · obtain rfl : (⟨30, 0⟩ : Pt) = x := by simpa [exS] using hx
      exact ⟨_, rfl, fun j u hu => by rcases j with _ | _ | j <;> simp at hu <;> subst hu <;> assumption⟩
    · obtain rfl : (⟨90, 0⟩ : Pt) = x := by simpa [exS] using hx
      exact ⟨_, rfl, fun j u hu => by rcases j with _ | _ | j <;> simp at hu <;> subst hu <;> assumption⟩
    · simp [exS] at hx
  · rcases i with _ | _ | _ | i
    · obtain rfl : (90000 : Int) = x := by simpa [exS] using hx
      exact ⟨_, rfl, fun j u hu => by rcases j with _ | j <;> simp at hu; subst hu; assumption⟩
    · obtain rfl : (90000 : Int) = x := by simpa [exS] using hx
      exact ⟨_, rfl, fun j u hu => by rcases j with _ | j <;> simp at hu; subst hu; assumption⟩
    · obtain rfl : (90000 : Int) = x := by simpa [exS] using hx
      exact ⟨_, rfl, fun j u hu => by rcases j with _ | j <;> simp at hu; subst hu; assumption⟩
    · simp [exS] at hx
theorem exL_reads {w : World} {n : Nat} (h0 : w.cell? ⟨n, 0, none⟩ = some (.int .i64 0)) (h1 : w.cell? ⟨n, 1, none⟩ = some (.int .i64 5)) (h2 : w.cell? ⟨n, 2, none⟩ = some (.int .i64 0)) (h3 : w.cell? ⟨n, 3, none⟩ = some (.int .i64 100))
    (k0 : w.cell? ⟨n, 4, none⟩ = some (.int .i64 2)) (k1 : w.cell? ⟨n, 5, none⟩ = some (.int .i64 5)) (k2 : w.cell? ⟨n, 6, none⟩ = some (.int .i64 0)) (k3 : w.cell? ⟨n, 7, none⟩ = some (.int .i64 100)) :
    SlV 4 KEm w (.slice (some ⟨n, 0, none⟩) 2 2) exL := by
  refine ⟨_, _, rfl, by decide, by unfold big; decide, fun _ => ⟨_, _, rfl, fun i x hx => ?_⟩⟩
  rcases i with _ | _ | i
  · obtain rfl : (⟨0, 5, 0, 100⟩ : Em) = x := by simpa [exL] using hx
    exact ⟨_, rfl, fun j u hu => by rcases j with _ | _ | _ | _ | j <;> simp at hu <;> subst hu <;> assumption⟩
  · obtain rfl : (⟨2, 5, 0, 100⟩ : Em) = x := by simpa [exL] using hx
    exact ⟨_, rfl, fun j u hu => by rcases j with _ | _ | _ | _ | j <;> simp at hu <;> subst hu <;> assumption⟩
  · simp [exL] at hx
theorem one_zero {w : World} {n : Nat} (h : w.cell? ⟨n, 0, none⟩ = some (.int .i64 0)) : SlV 1 KI w (.slice (some ⟨n, 0, none⟩) 1 1) [0] := by
  refine ⟨_, _, rfl, by decide, by unfold big; decide, fun _ => ⟨_, _, rfl, fun i x hx => ?_⟩⟩
  rcases i with _ | i
  · obtain rfl : (0 : Int) = x := by simpa using hx
    exact ⟨_, rfl, fun j u hu => by rcases j with _ | j <;> simp at hu; subst hu; exact h⟩
  · simp at hx
theorem xEqualV (xs ys : List Int) (u v : Value) (w : World) {c : Bool} (hx : SlV 1 KI w u xs) (hy : SlV 1 KI w v ys) (h : decide (xs = ys) = c) : Calls Tryz.prog 12 #[u, v] w fun e w' => e = .returned (.bool c) ∧ Below w.heap.size w w' := h ▸ xEqual xs ys u v w hx hy
theorem aReceivedE {s : Site} {x : Spm} {l : List Em} {i node : Int} {v xv lv : Value} {w : World} {c : Bool} (hs : SiteV w v s) (hx : SpmV w xv x) (hl : SlV 4 KEm w lv l) (hE : chkE s x l i node = 0) (hc : rcvN s x l i node = c) :
    Calls Tryz.prog 15 #[v, xv, lv, .int .i64 i, .int .i64 node] w fun e w' => e = .returned (.tuple #[.bool c, .int .i64 0]) ∧ Below w.heap.size w w' := by
  have := aReceived s x l i node v xv lv w hs hx hl
  rwa [hE, hc] at this
theorem aInterfE {s : Site} {x : Spm} {l : List Em} {i node : Int} {v xv lv : Value} {w : World} {c : Int} (hs : SiteV w v s) (hx : SpmV w xv x) (hl : SlV 4 KEm w lv l) (hE : chkE s x l i node = 0) (hc : itfN s x l i node = c) :
    Calls Tryz.prog 13 #[v, xv, lv, .int .i64 i, .int .i64 node] w fun e w' => e = .returned (.tuple #[.int .i64 c, .int .i64 0]) ∧ Below w.heap.size w w' := by
  have := aInterf s x l i node v xv lv w hs hx hl
  rwa [hE, hc] at this
theorem aHearE {s : Site} {x : Spm} {l : List Em} {y : Lis} {v xv lv : Value} {w : World} {c : Int} {b : Bool} (hs : SiteV w v s) (hx : SpmV w xv x) (hl : SlV 4 KEm w lv l) (hE : hearE s x l y = 0) (hc : hearN s x l y = c) (hb : heardB s x l y = b) :
    Calls Tryz.prog 7 #[v, xv, lv, .agg #[.int .i64 y.node, .int .i64 y.ch, .int .i64 y.frm, .int .i64 y.to]] w fun e w' => e = .returned (.tuple #[.int .i64 c, .bool b, .int .i64 0]) ∧ Below w.heap.size w w' := by
  have := aHear s x l y v xv lv w hs hx hl
  rwa [hE, hc, hb] at this
theorem awake (w : World) : Calls Tryz.prog 5 #[] w fun e w' => e = .returned (.bool true) ∧ Below w.heap.size w w' := by
  have hu := Tryz.underlying26
  have hu2 := Tryz.underlying30
  have hu3 := Tryz.underlying42
  have hu4 := Tryz.underlying35
  have hu5 := Tryz.underlying54
  obtain ⟨v1, v2, v3, v4, v5, v6, v7, v8, v9, v10⟩ := exVals
  obtain ⟨W1, hW1⟩ : ∃ W : World, W = ((((w.alloc (.cells #[.int .i64 0, .int .i64 0, .int .i64 30, .int .i64 0, .int .i64 90, .int .i64 0] 54)).alloc (.cells #[.int .i64 90000, .int .i64 90000, .int .i64 90000] 3)).alloc (.cells #[.slice (some ⟨w.heap.size, 0, none⟩) 3 3, .slice (some ⟨w.heap.size + 1, 0, none⟩) 3 3, .slice none 0 0, .int .i64 2, .int .i64 10, .int .i64 2000] 26)).alloc (.cells #[.int .i64 0, .int .i64 5, .int .i64 0, .int .i64 100, .int .i64 2, .int .i64 5, .int .i64 0, .int .i64 100] 42)) := ⟨_, rfl⟩; have hb1 : Below w.heap.size w W1 := (by rw [hW1]; (repeat (first | exact Below.refl _ _ | assumption | apply b_alloc | apply b_drewN | apply b_drew))); have q : ∀ wq : World, Below W1.heap.size W1 wq → wq.cell? ⟨w.heap.size, 0, none⟩ = some (.int .i64 0) ∧ wq.cell? ⟨w.heap.size, 1, none⟩ = some (.int .i64 0) ∧ wq.cell? ⟨w.heap.size, 2, none⟩ = some (.int .i64 30) ∧ wq.cell? ⟨w.heap.size, 3, none⟩ = some (.int .i64 0) ∧ wq.cell? ⟨w.heap.size, 4, none⟩ = some (.int .i64 90) ∧ wq.cell? ⟨w.heap.size, 5, none⟩ = some (.int .i64 0) ∧ wq.cell? ⟨w.heap.size + 1, 0, none⟩ = some (.int .i64 90000) ∧ wq.cell? ⟨w.heap.size + 1, 1, none⟩ = some (.int .i64 90000) ∧ wq.cell? ⟨w.heap.size + 1, 2, none⟩ = some (.int .i64 90000) ∧ wq.cell? ⟨w.heap.size + 1 + 1, 0, none⟩ = some (.slice (some ⟨w.heap.size, 0, none⟩) 3 3) ∧ wq.cell? ⟨w.heap.size + 1 + 1, 1, none⟩ = some (.slice (some ⟨w.heap.size + 1, 0, none⟩) 3 3) ∧ wq.cell? ⟨w.heap.size + 1 + 1, 2, none⟩ = some (.slice none 0 0) ∧ wq.cell? ⟨w.heap.size + 1 + 1, 3, none⟩ = some (.int .i64 2) ∧ wq.cell? ⟨w.heap.size + 1 + 1, 4, none⟩ = some (.int .i64 10) ∧ wq.cell? ⟨w.heap.size + 1 + 1, 5, none⟩ = some (.int .i64 2000) ∧ wq.cell? ⟨w.heap.size + 1 + 1 + 1, 0, none⟩ = some (.int .i64 0) ∧ wq.cell? ⟨w.heap.size + 1 + 1 + 1, 1, none⟩ = some (.int .i64 5) ∧ wq.cell? ⟨w.heap.size + 1 + 1 + 1, 2, none⟩ = some (.int .i64 0) ∧ wq.cell? ⟨w.heap.size + 1 + 1 + 1, 3, none⟩ = some (.int .i64 100) ∧ wq.cell? ⟨w.heap.size + 1 + 1 + 1, 4, none⟩ = some (.int .i64 2) ∧ wq.cell? ⟨w.heap.size + 1 + 1 + 1, 5, none⟩ = some (.int .i64 5) ∧ wq.cell? ⟨w.heap.size + 1 + 1 + 1, 6, none⟩ = some (.int .i64 0) ∧ wq.cell? ⟨w.heap.size + 1 + 1 + 1, 7, none⟩ = some (.int .i64 100) := (fun wq hwr => ⟨cell_mono hwr (by rw [hW1]; go_simp), cell_mono hwr (by rw [hW1]; go_simp), cell_mono hwr (by rw [hW1]; go_simp), cell_mono hwr (by rw [hW1]; go_simp), cell_mono hwr (by rw [hW1]; go_simp), cell_mono hwr (by rw [hW1]; go_simp), cell_mono hwr (by rw [hW1]; go_simp), cell_mono hwr (by rw [hW1]; go_simp), cell_mono hwr (by rw [hW1]; go_simp), cell_mono hwr (by rw [hW1]; go_simp), cell_mono hwr (by rw [hW1]; go_simp), cell_mono hwr (by rw [hW1]; go_simp), cell_mono hwr (by rw [hW1]; go_simp), cell_mono hwr (by rw [hW1]; go_simp), cell_mono hwr (by rw [hW1]; go_simp), cell_mono hwr (by rw [hW1]; go_simp), cell_mono hwr (by rw [hW1]; go_simp), cell_mono hwr (by rw [hW1]; go_simp), cell_mono hwr (by rw [hW1]; go_simp), cell_mono hwr (by rw [hW1]; go_simp), cell_mono hwr (by rw [hW1]; go_simp), cell_mono hwr (by rw [hW1]; go_simp), cell_mono hwr (by rw [hW1]; go_simp)⟩); have HW := Lib.hid hW1; clear hW1
  have hS : ∀ wr, Below W1.heap.size W1 wr → SiteV wr (.agg #[.slice (some ⟨w.heap.size, 0, none⟩) 3 3, .slice (some ⟨w.heap.size + 1, 0, none⟩) 3 3, .slice none 0 0, .int .i64 2, .int .i64 10, .int .i64 2000]) exS := fun wr hb => by
    obtain ⟨a0, a1, a2, a3, a4, a5, b0, b1, b2, _⟩ := q wr hb
    exact exS_reads a0 a1 a2 a3 a4 a5 b0 b1 b2
  have hL : ∀ wr, Below W1.heap.size W1 wr → SlV 4 KEm wr (.slice (some ⟨w.heap.size + 1 + 1 + 1, 0, none⟩) 2 2) exL := fun wr hb => by
    obtain ⟨_, _, _, _, _, _, _, _, _, _, _, _, _, _, _, d0, d1, d2, d3, d4, d5, d6, d7⟩ := q wr hb
    exact exL_reads d0 d1 d2 d3 d4 d5 d6 d7
  have HS := Lib.hid hS
  have HL := Lib.hid hL
  clear hS hL
  have hbA1 : Below W1.heap.size W1 W1 := Below.refl _ _
  go_enter Tryz.func5, Tryz.ntmps5
  go_wp2_with fail
  rw [← HW.out]
  refine (aReceivedE (HS.out _ hbA1) (exX_reads _) (HL.out _ hbA1) v1 v3).mono ?_
  rintro e w2 ⟨rfl, hb2⟩
  have hbA2 := b_then hbA1 hb2
  obtain ⟨l20, l21, l22, l23, l24, l25, l26, l27, l28, l29, l210, l211, l212, l213, l214, l215, l216, l217, l218, l219, l220, l221, l222⟩ := q _ hbA2
  go_wp2_with fail
  refine (aReceivedE (HS.out _ hbA2) (exX_reads _) (HL.out _ hbA2) v2 v4).mono ?_
  rintro e w3 ⟨rfl, hb3⟩
  have hbA3 := b_then hbA2 hb3
  try clear l20 l21 l22 l23 l24 l25 l26 l27 l28 l29 l210 l211 l212 l213 l214 l215 l216 l217 l218 l219 l220 l221 l222
  obtain ⟨l30, l31, l32, l33, l34, l35, l36, l37, l38, l39, l310, l311, l312, l313, l314, l315, l316, l317, l318, l319, l320, l321, l322⟩ := q _ hbA3
  go_wp2_with fail
  refine (aHearE (y := ⟨1, 5, 0, 0⟩) (HS.out _ hbA3) (exX_reads _) (HL.out _ hbA3) v5 v6 v7).mono ?_
  rintro e w4 ⟨rfl, hb4⟩
  have hbA4 := b_then hbA3 hb4
  try clear l30 l31 l32 l33 l34 l35 l36 l37 l38 l39 l310 l311 l312 l313 l314 l315 l316 l317 l318 l319 l320 l321 l322
  obtain ⟨l40, l41, l42, l43, l44, l45, l46, l47, l48, l49, l410, l411, l412, l413, l414, l415, l416, l417, l418, l419, l420, l421, l422⟩ := q _ hbA4
  go_wp2_with fail
  refine (aDisturbers exS exX exL 1 1 _ _ _ _ (HS.out _ hbA4) (exX_reads _) (HL.out _ hbA4)).mono ?_
  rintro e w5 ⟨u, rfl, hu0, hb5⟩
  rw [v2]
  rw [v8] at hu0
  have hbA5 := b_then hbA4 hb5
  try clear l40 l41 l42 l43 l44 l45 l46 l47 l48 l49 l410 l411 l412 l413 l414 l415 l416 l417 l418 l419 l420 l421 l422
  obtain ⟨l50, l51, l52, l53, l54, l55, l56, l57, l58, l59, l510, l511, l512, l513, l514, l515, l516, l517, l518, l519, l520, l521, l522⟩ := q _ hbA5
  obtain ⟨A, c, rfl, hc⟩ := id hu0
  go_wp2_with fail
  refine (aInterfE (HS.out _ hbA5) (exX_reads _) (HL.out _ hbA5) v1 v9).mono ?_
  rintro e w6 ⟨rfl, hb6⟩
  have hbA6 := b_then hbA5 hb6
  try clear l50 l51 l52 l53 l54 l55 l56 l57 l58 l59 l510 l511 l512 l513 l514 l515 l516 l517 l518 l519 l520 l521 l522
  obtain ⟨l60, l61, l62, l63, l64, l65, l66, l67, l68, l69, l610, l611, l612, l613, l614, l615, l616, l617, l618, l619, l620, l621, l622⟩ := q _ hbA6
  have hu6 := hu0.mono KI.st hb6
  have ks : ∀ w', Below w6.heap.size w6 w' → (Below w6.heap.size w6 w' ∧ w'.cell? ⟨w.heap.size + 1 + 1 + 1, 0, none⟩ = some (.int .i64 0) ∧ w'.cell? ⟨w.heap.size + 1 + 1 + 1, 1, none⟩ = some (.int .i64 5) ∧ w'.cell? ⟨w.heap.size + 1 + 1 + 1, 2, none⟩ = some (.int .i64 0) ∧ w'.cell? ⟨w.heap.size + 1 + 1 + 1, 3, none⟩ = some (.int .i64 100) ∧ w'.cell? ⟨w.heap.size + 1 + 1 + 1, 4, none⟩ = some (.int .i64 2) ∧ w'.cell? ⟨w.heap.size + 1 + 1 + 1, 5, none⟩ = some (.int .i64 5) ∧ w'.cell? ⟨w.heap.size + 1 + 1 + 1, 6, none⟩ = some (.int .i64 0) ∧ w'.cell? ⟨w.heap.size + 1 + 1 + 1, 7, none⟩ = some (.int .i64 100)) := fun w' h => ⟨h, cell_mono h l615, cell_mono h l616, cell_mono h l617, cell_mono h l618, cell_mono h l619, cell_mono h l620, cell_mono h l621, cell_mono h l622⟩
  have KS := Lib.hid ks
  clear ks
  have hd : decide ([0] = ([0] : List Int)) = true := by decide
  go_wp2_with fail
  go_region_held3 (fun w' => Below w6.heap.size w6 w' ∧ w'.cell? ⟨w.heap.size + 1 + 1 + 1, 0, none⟩ = some (.int .i64 0) ∧ w'.cell? ⟨w.heap.size + 1 + 1 + 1, 1, none⟩ = some (.int .i64 5) ∧ w'.cell? ⟨w.heap.size + 1 + 1 + 1, 2, none⟩ = some (.int .i64 0) ∧ w'.cell? ⟨w.heap.size + 1 + 1 + 1, 3, none⟩ = some (.int .i64 100) ∧ w'.cell? ⟨w.heap.size + 1 + 1 + 1, 4, none⟩ = some (.int .i64 2) ∧ w'.cell? ⟨w.heap.size + 1 + 1 + 1, 5, none⟩ = some (.int .i64 5) ∧ w'.cell? ⟨w.heap.size + 1 + 1 + 1, 6, none⟩ = some (.int .i64 0) ∧ w'.cell? ⟨w.heap.size + 1 + 1 + 1, 7, none⟩ = some (.int .i64 100))
    ((refine KS.out _ ?_; first | with_reducible exact b_drew (Below.refl _ _) | with_reducible exact b_drew (b_alloc (Below.refl _ _) _) | with_reducible exact b_then (And.left (by assumption)) hbq | with_reducible exact b_alloc (And.left (by assumption)) _))
    (first
      | (go_at_call 12; refine (xEqualV [0] [0] _ _ _ (hu6.mono KI.st (And.left (by assumption))) (one_zero (by go_simp)) hd).mono ?_; rintro e w7 ⟨rfl, hbq⟩)
      | (go_at_call 19; refine (aOverlapV ⟨0, 5, 0, 100⟩ ⟨2, 5, 0, 100⟩ _ v10).mono ?_; rintro e w8 ⟨rfl, hbq⟩)
      | fail)
  go_wp2
  go_ret
  exact ⟨rfl, b_then (b_then hb1 hbA6) (And.left (by assumption))⟩
end Go.Proofs.YtpbhoeaadnemhaaGreat
