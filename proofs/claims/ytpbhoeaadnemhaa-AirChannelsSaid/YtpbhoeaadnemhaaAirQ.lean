/- The law function: channels. -/
import Derived.Test.YtpbhoeaadnemhaaAirO
import Derived.Test.YtpbhoeaadnemhaaAirP
import Derived.Deep.RegionHeld3
import Derived.Deep.DeepCutAuto
namespace Go.Proofs.Ytpbhoeaadnemhaa
open Go.RowKit Go.Shelf
set_option linter.unusedVariables false
set_option linter.unusedSimpArgs false
set_option maxHeartbeats 4000000
set_option maxRecDepth 100000
theorem rcs_further {s : Site} {x : Spm} {l : List Em} {m : Em} (hv : Valid s x (l ++ [m])) {i : Nat} {a : Em} (ha : l[i]? = some a) (h : ¬(a.ch = m.ch ∧ overB a m = true)) :
    rcsI s x (l ++ [m]) i = if overB a m then (rcsI s x l i).filter (fun z => !eqB m.node z) else rcsI s x l i := by
  unfold rcsI rcsTo
  have hc : ((List.range s.nodes.length).filter fun (k : Nat) => recvB s x (l ++ [m]) i (k : Int)) = (List.range s.nodes.length).filter fun (k : Nat) => recvB s x l i (k : Int) && !(overB a m && decide ((k : Int) = m.node)) :=
    List.filter_congr fun k _ => recv_further hv ha h k
  rw [hc]
  rcases Bool.eq_false_or_eq_true (overB a m) with q | q
  · rw [q, if_pos rfl, List.filter_map, List.filter_filter]
    congr 1
    refine List.filter_congr fun k _ => ?_
    simp [eqB, Bool.and_comm]
  · rw [q, if_neg (by simp)]
    congr 1
    refine List.filter_congr fun k _ => ?_
    simp
theorem delOwn (xs : List Int) {A : Option Addr} {c : Nat} (b1 : Nat) (m : Int) (w : World) (base : Nat) (ho : w.ownsRow base 3 1 (.slice A xs.length c) xs.length (xs.map (Value.int .i64))) (hl : xs.length ≤ 64) (h1 : w.cell? ⟨b1, 0, none⟩ = some (.int .i64 m)) (hb1 : b1 < base) (hbw0 : base ≤ w.heap.size) (n0 : Nat) (hn0 : ∀ g, (Value.slice A xs.length c).ownBlock = some g → g < n0) :
    Calls Try.prog 27 #[.slice A xs.length c, .func (.func 28) #[] #[.pointer (some ⟨b1, 0, none⟩)]] w fun e w' =>
      ∃ A c', e = .returned (.slice A (xs.filter fun z => !eqB m z).length c') ∧ SlV 1 KI w' (.slice A (xs.filter fun z => !eqB m z).length c') (xs.filter fun z => !eqB m z) ∧ ∃ row, w.grownBy w' row ∧ (∀ r, row = some r → base ≤ r ∧ r < n0) ∧ Below base w w' := by
  rcases ho.2 with ⟨e1, e2⟩ | ⟨g, cap, cur, e1, hbg, hh, hcap, _, _⟩
  · have hx : xs = [] := List.eq_nil_of_length_eq_zero e2
    subst hx
    cases e1
    have hs : SlV 1 KI w (.slice none 0 0) [] := ⟨none, 0, rfl, Nat.le_refl _, Nat.zero_le _, fun h => absurd rfl h⟩
    go_enter Try.func27, Try.ntmps27
    go_wp2_with fail
    refine (chIndex [] _ _ hs b1 m h1).mono ?_
    rintro e w2 ⟨rfl, hb2⟩
    have hI : idxI (fun z => eqB m z) [] = -1 := rfl
    rw [hI]
    go_wp2
    go_ret
    exact ⟨none, 0, rfl, hs.mono KI.st hb2, none, grown_below hb2 none, fun r h => (by cases h), hb2.mono hbw0⟩
  · cases e1
    refine (delFunc xs g c b1 m w base hbg hcap hl (fun p y hp => ⟨?_, ?_⟩) (own_sl ho (by unfold big; omega)) h1 hb1 hbw0).mono ?_
    rotate_right
    · rintro e w' ⟨A', c', e1, h2, h3⟩
      exact ⟨A', c', e1, h2, some g, ⟨h3.os, h3.tape, h3.output, h3.size, fun i hi hne => h3.block i hi (fun e => hne (by rw [e]))⟩, fun r hr => by cases hr; exact ⟨hbg, hn0 g rfl⟩, h3.below hbw0 hbg⟩
    · have := ho.cells (g := g) rfl p (.int .i64 y) (by simp [hp])
      rw [Go.WideShapes.add_plain] at this
      simpa using this
    · simp [World.frozen?, hh]
theorem lChannels (s : Site) (x : Spm) (l : List Em) (v : Value) (m : Em) (i : Int) (w : World) (h : ScnV w v s x l) :
    Calls Try.prog 8 #[v, .agg #[.int .i64 (m).node, .int .i64 (m).ch, .int .i64 (m).frm, .int .i64 (m).to], .int .i64 i] w fun e w' => e = .returned (.bool true) ∧ Below w.heap.size w w' := by
  have hu := Try.underlying26
  have hu2 := Try.underlying30
  have hu3 := Try.underlying35
  have hu4 := Try.underlying33
  have hu5 := Try.underlying31
  have hu6 := Try.underlying23
  obtain ⟨A0, c0, A1, c1, A2, c2, A3, c3, A4, c4, A5, c5, rfl, hs, hx, hl⟩ := h
  have hs' := Lib.hid hs
  have hx' := Lib.hid hx
  have hl' := Lib.hid hl
  obtain ⟨_, _, e5, hc5, hm5, hr5⟩ := hl
  cases e5
  unfold big at hm5
  clear hs hx
  have HL0 := Lib.hid (show SlV 4 KEm w (.slice A5 l.length c5) l from hl'.out)
  obtain ⟨W1, hW1⟩ : ∃ W : World, W = ((w.alloc (.cells #[.slice A0 s.nodes.length c0, .slice A1 s.powers.length c1, .slice A2 s.walls.length c2, .int .i64 s.ex, .int .i64 s.noise, .int .i64 s.thr, .slice A3 x.srcs.length c3, .slice A4 x.fds.length c4, .slice A5 l.length c5] 33)).alloc (.cells #[.int .i64 m.node, .int .i64 m.ch, .int .i64 m.frm, .int .i64 m.to] 35)) := ⟨_, rfl⟩; have hb1 : Below w.heap.size w W1 := (by rw [hW1]; (repeat (first | exact Below.refl _ _ | assumption | apply b_alloc | apply b_drewN | apply b_drew))); have q : ∀ wq : World, Below W1.heap.size W1 wq → wq.cell? ⟨w.heap.size, 0, none⟩ = some (.slice A0 s.nodes.length c0) ∧ wq.cell? ⟨w.heap.size, 1, none⟩ = some (.slice A1 s.powers.length c1) ∧ wq.cell? ⟨w.heap.size, 2, none⟩ = some (.slice A2 s.walls.length c2) ∧ wq.cell? ⟨w.heap.size, 3, none⟩ = some (.int .i64 s.ex) ∧ wq.cell? ⟨w.heap.size, 4, none⟩ = some (.int .i64 s.noise) ∧ wq.cell? ⟨w.heap.size, 5, none⟩ = some (.int .i64 s.thr) ∧ wq.cell? ⟨w.heap.size, 6, none⟩ = some (.slice A3 x.srcs.length c3) ∧ wq.cell? ⟨w.heap.size, 7, none⟩ = some (.slice A4 x.fds.length c4) ∧ wq.cell? ⟨w.heap.size, 8, none⟩ = some (.slice A5 l.length c5) ∧ wq.cell? ⟨w.heap.size + 1, 0, none⟩ = some (.int .i64 m.node) ∧ wq.cell? ⟨w.heap.size + 1, 1, none⟩ = some (.int .i64 m.ch) ∧ wq.cell? ⟨w.heap.size + 1, 2, none⟩ = some (.int .i64 m.frm) ∧ wq.cell? ⟨w.heap.size + 1, 3, none⟩ = some (.int .i64 m.to) := (fun wq hwr => ⟨cell_mono hwr (by rw [hW1]; go_simp), cell_mono hwr (by rw [hW1]; go_simp), cell_mono hwr (by rw [hW1]; go_simp), cell_mono hwr (by rw [hW1]; go_simp), cell_mono hwr (by rw [hW1]; go_simp), cell_mono hwr (by rw [hW1]; go_simp), cell_mono hwr (by rw [hW1]; go_simp), cell_mono hwr (by rw [hW1]; go_simp), cell_mono hwr (by rw [hW1]; go_simp), cell_mono hwr (by rw [hW1]; go_simp), cell_mono hwr (by rw [hW1]; go_simp), cell_mono hwr (by rw [hW1]; go_simp), cell_mono hwr (by rw [hW1]; go_simp)⟩); have HW := Lib.hid hW1; clear hW1
  go_enter Try.func8, Try.ntmps8
  go_wp2_with fail
  rw [← HW.out]
  refine (awake _).mono ?_
  rintro e w2 ⟨rfl, hb2⟩
  have hbz2 := b_then hb1 hb2
  obtain ⟨l20, l21, l22, l23, l24, l25, l26, l27, l28, l29, l210, l211, l212⟩ := q _ hb2
  go_wp2_with fail
  refine (lFew s x l _ (hs'.out.mono hbz2) (hx'.out.mono hbz2) (hl'.out.mono KEm.st hbz2)).mono ?_
  rintro e w3 ⟨rfl, hb3⟩
  have hbA3 := b_then hb2 hb3
  have hbz3 := b_then hb1 hbA3
  try clear l20 l21 l22 l23 l24 l25 l26 l27 l28 l29 l210 l211 l212
  obtain ⟨l30, l31, l32, l33, l34, l35, l36, l37, l38, l39, l310, l311, l312⟩ := q _ hbA3
  rcases Bool.eq_false_or_eq_true (fewS s x l) with q1 | q1
  rotate_left
  · rw [q1]
    go_wp2
    go_ret
    exact ⟨rfl, hbz3⟩
  rw [q1]
  have hlen : l.length ≤ 50 := few_len q1
  clear q1
  by_cases hcnd : l.length ≤ 47 ∧ 0 ≤ i ∧ i < l.length
  rotate_left
  · have HC := Lib.hid hcnd
    clear hcnd
    go_wp2_with fail
    all_goals first
      | (go_ret; exact ⟨rfl, hbz3⟩)
      | (exfalso; have := HC.out; omega)
  obtain ⟨hl47, hi0, hi1⟩ := hcnd
  obtain ⟨k, rfl⟩ : ∃ k : Nat, i = k := ⟨i.toNat, by omega⟩
  have hk : k < l.length := by omega
  have g1 : decide ((47 : Int) < (l.length : Int)) = false := by simp; omega
  have g1' : decide (47 < l.length) = false := by simp; omega
  have g2 : decide ((k : Int) < 0) = false := by simp <;> omega
  have g3 : decide ((l.length : Int) ≤ (k : Int)) = false := by simp; omega
  have g3x : decide (l.length ≤ k) = false := by simp; omega
  have ks : ∀ w', Below w3.heap.size w3 w' → (Below w3.heap.size w3 w' ∧ (w'.cell? ⟨w.heap.size, 0, none⟩ = some (.slice A0 s.nodes.length c0) ∧ w'.cell? ⟨w.heap.size, 1, none⟩ = some (.slice A1 s.powers.length c1) ∧ w'.cell? ⟨w.heap.size, 2, none⟩ = some (.slice A2 s.walls.length c2) ∧ w'.cell? ⟨w.heap.size, 3, none⟩ = some (.int .i64 s.ex) ∧ w'.cell? ⟨w.heap.size, 4, none⟩ = some (.int .i64 s.noise) ∧ w'.cell? ⟨w.heap.size, 5, none⟩ = some (.int .i64 s.thr) ∧ w'.cell? ⟨w.heap.size, 6, none⟩ = some (.slice A3 x.srcs.length c3) ∧ w'.cell? ⟨w.heap.size, 7, none⟩ = some (.slice A4 x.fds.length c4) ∧ w'.cell? ⟨w.heap.size, 8, none⟩ = some (.slice A5 l.length c5) ∧ w'.cell? ⟨w.heap.size + 1, 0, none⟩ = some (.int .i64 m.node) ∧ w'.cell? ⟨w.heap.size + 1, 1, none⟩ = some (.int .i64 m.ch) ∧ w'.cell? ⟨w.heap.size + 1, 2, none⟩ = some (.int .i64 m.frm) ∧ w'.cell? ⟨w.heap.size + 1, 3, none⟩ = some (.int .i64 m.to))) := fun w' h => ⟨h, q _ (b_then hbA3 h)⟩
  have KS := Lib.hid ks
  clear ks
  go_wp2_with fail
  clear g1 g1' g2 g3 g3x
  go_cut [7] (fun s7 wx => Below w3.heap.size w3 wx ∧ SlV 4 KEm wx s7 (l ++ [m]))
  case first =>
    go_region_held3 (fun w' => Below w3.heap.size w3 w' ∧ (w'.cell? ⟨w.heap.size, 0, none⟩ = some (.slice A0 s.nodes.length c0) ∧ w'.cell? ⟨w.heap.size, 1, none⟩ = some (.slice A1 s.powers.length c1) ∧ w'.cell? ⟨w.heap.size, 2, none⟩ = some (.slice A2 s.walls.length c2) ∧ w'.cell? ⟨w.heap.size, 3, none⟩ = some (.int .i64 s.ex) ∧ w'.cell? ⟨w.heap.size, 4, none⟩ = some (.int .i64 s.noise) ∧ w'.cell? ⟨w.heap.size, 5, none⟩ = some (.int .i64 s.thr) ∧ w'.cell? ⟨w.heap.size, 6, none⟩ = some (.slice A3 x.srcs.length c3) ∧ w'.cell? ⟨w.heap.size, 7, none⟩ = some (.slice A4 x.fds.length c4) ∧ w'.cell? ⟨w.heap.size, 8, none⟩ = some (.slice A5 l.length c5) ∧ w'.cell? ⟨w.heap.size + 1, 0, none⟩ = some (.int .i64 m.node) ∧ w'.cell? ⟨w.heap.size + 1, 1, none⟩ = some (.int .i64 m.ch) ∧ w'.cell? ⟨w.heap.size + 1, 2, none⟩ = some (.int .i64 m.frm) ∧ w'.cell? ⟨w.heap.size + 1, 3, none⟩ = some (.int .i64 m.to)))
      ((refine KS.out _ ?_; first | with_reducible exact b_drew (Below.refl _ _) | with_reducible exact b_then (And.left (by assumption)) hbq | with_reducible exact b_drew (b_alloc (Below.refl _ _) _) | with_reducible exact b_alloc (And.left (by assumption)) _ | with_reducible exact hbW))
      (first
        | (go_at_call 12; (with_reducible refine (cloneEm l _ w w3.drew (b_then hbz3 (And.left (by assumption))) HL0.out (by omega)).mono ?_); rintro e w9 ⟨u, cs, rfl, hown, hflat, hbq⟩)
        | (go_at_call 12; (with_reducible refine (cloneEm l _ w (w3.alloc _).drew (b_then hbz3 (And.left (by assumption))) HL0.out (by omega)).mono ?_); rintro e w9 ⟨u2, cs, rfl, hown, hflat, hbq⟩)
        | (have hu1 := u
           have hnw := World.news_of_block (w := w9.alloc (.cells #[.int .i64 m.node, .int .i64 m.ch, .int .i64 m.frm, .int .i64 m.to] 35)) (cs := #[.int .i64 m.node, .int .i64 m.ch, .int .i64 m.frm, .int .i64 m.to]) (t := 35) (fr := (0, 0)) (heap_alloc_new w9 _)
           have hno := own_below hown (b_alloc (Below.refl _ w9) (.cells #[.int .i64 m.node, .int .i64 m.ch, .int .i64 m.frm, .int .i64 m.to] 35))
           refine step_append_cells (W := w9.alloc (.cells #[.int .i64 m.node, .int .i64 m.ch, .int .i64 m.frm, .int .i64 m.to] 35)) (z := .agg #[.int .i64 0, .int .i64 0, .int .i64 0, .int .i64 0]) (sz := 4) (bytes := 32) _ rfl (.tmp 37) (.tmp 39) 31 35 rfl Try.underlying31 infocloneEm rfl (by decide) u l.length cs rfl ⟨w9.heap.size, 0, none⟩ 1 1 [.int .i64 m.node, .int .i64 m.ch, .int .i64 m.frm, .int .i64 m.to] rfl rfl hnw (by simp [Value.oneCell']) (by decide) hno (by have := hbq.size; simp at this ⊢; omega) (by unfold maxLen; omega) (by omega) ?_
           intro g cap w10 hown2 hbt
           have hbW := hbt _ w3 (by first | exact Nat.le_refl _ | simp) (by have := hbq.size; simp at this ⊢; omega) (b_alloc (b_then (b_drew (Below.refl _ _)) hbq) _))
        | (have hu1 := u2
           have hnw := World.news_of_block (w := w9) (cs := #[.int .i64 m.node, .int .i64 m.ch, .int .i64 m.frm, .int .i64 m.to]) (t := 35) (fr := (0, 0)) ((hbq.block w3.heap.size (by simp)).trans (heap_alloc_new w3 _))
           refine step_append_cells (W := w9) (z := .agg #[.int .i64 0, .int .i64 0, .int .i64 0, .int .i64 0]) (sz := 4) (bytes := 32) _ rfl (.tmp 37) (.tmp 39) 31 35 rfl Try.underlying31 infocloneEm rfl (by decide) u2 l.length cs rfl ⟨w3.heap.size, 0, none⟩ 1 1 [.int .i64 m.node, .int .i64 m.ch, .int .i64 m.frm, .int .i64 m.to] rfl rfl hnw (by simp [Value.oneCell']) (by decide) hown (by have := hbq.size; simp at this ⊢; omega) (by unfold maxLen; omega) (by omega) ?_
           intro g cap w10 hown2 hbt
           have hbW := hbt _ w3 (by first | exact Nat.le_refl _ | simp) (by have := hbq.size; simp at this ⊢; omega) (b_then (b_drew (b_alloc (Below.refl _ _) _)) hbq))
        | fail)
    all_goals
      (have hfl3 := (hflat.mono KEm.st (b_then hbz3 hbW)).snoc KEm.pl (x := m) rfl
       have hsl3 := own_sl2 KEm.pl (xs := l ++ [m]) (by simpa using hown2) hfl3 (by unfold big; simp; omega)
       go_wp2_with fail
       go_meet
       exact ⟨hbW, by simpa using hsl3⟩)
  case rest =>
    obtain ⟨hbA4, hsl4⟩ := hcut
    have hlenM : (l ++ [m]).length = l.length + 1 := by simp
    obtain ⟨A7, c7, e7, _⟩ := id hsl4
    rw [hlenM] at e7
    subst e7
    have HS4 := Lib.hid hsl4
    have hbB4 := b_then hbA3 hbA4
    have hbz4 := b_then hb1 hbB4
    clear hsl4 hlenM
    try clear l30 l31 l32 l33 l34 l35 l36 l37 l38 l39 l310 l311 l312
    obtain ⟨l40, l41, l42, l43, l44, l45, l46, l47, l48, l49, l410, l411, l412⟩ := q _ hbB4
    go_wp2_with fail
    refine (aCheck s x (l ++ [m]) _ _ _ _ (hs'.out.mono hbz4) (hx'.out.mono hbz4) HS4.out).mono ?_
    rintro e5 w5 ⟨rfl, hb5⟩
    have hbB5 := b_then hbB4 hb5
    have hbz5 := b_then hb1 hbB5
    try clear l40 l41 l42 l43 l44 l45 l46 l47 l48 l49 l410 l411 l412
    obtain ⟨l50, l51, l52, l53, l54, l55, l56, l57, l58, l59, l510, l511, l512⟩ := q _ hbB5
    by_cases z : airE s x (l ++ [m]) = 0
    rotate_left
    · have g0 : (airE s x (l ++ [m]) == 0) = false := by simpa using z
      have g1 : (airE s x (l ++ [m]) != 0) = true := by simpa using z
      clear z
      go_wp2
      go_ret
      exact ⟨rfl, hbz5⟩
    have hv := valid_of z
    have hvl := hv.sub (List.sublist_append_left l [m])
    have hnl1 := (site_len hv.site).1
    have hnl2 := (site_len hv.site).2.1
    have HV := Lib.hid hv
    have hE1 : chkE s x l (k : Int) 0 = 0 := by
      rw [chkE, if_pos (valid_is hvl), if_pos]
      rw [Bool.and_eq_true]
      exact ⟨by simp [ixB, hk], by simp [inB]; omega⟩
    have hE2 : chkE s x (l ++ [m]) (k : Int) 0 = 0 := by
      rw [chkE, if_pos z, if_pos]
      rw [Bool.and_eq_true]
      exact ⟨by simp [ixB]; omega, by simp [inB]; omega⟩
    have HE1 := Lib.hid hE1
    have HE2 := Lib.hid hE2
    rw [z]
    have hxa := emD_get hk
    obtain ⟨a, ha⟩ : ∃ a, emD l k = a := ⟨_, rfl⟩
    rw [ha] at hxa
    have HXA := Lib.hid hxa
    obtain ⟨bl, off, hAe, e0, e1, e2, e3⟩ := hr5.em hbz5 hxa
    subst hAe
    clear z hv hvl hE1 hE2 hxa ha
    obtain ⟨Wa, hWa⟩ : ∃ W : World, W = (w5.alloc (.cells #[.int .i64 (a).node, .int .i64 (a).ch, .int .i64 (a).frm, .int .i64 (a).to] 35)) := ⟨_, rfl⟩; have hba : Below w5.heap.size w5 Wa := (by rw [hWa]; (repeat (first | exact Below.refl _ _ | assumption | apply b_alloc | apply b_drewN | apply b_drew))); have qa : ∀ wq : World, Below Wa.heap.size Wa wq → wq.cell? ⟨w5.heap.size, 0, none⟩ = some (.int .i64 (a).node) ∧ wq.cell? ⟨w5.heap.size, 1, none⟩ = some (.int .i64 (a).ch) ∧ wq.cell? ⟨w5.heap.size, 2, none⟩ = some (.int .i64 (a).frm) ∧ wq.cell? ⟨w5.heap.size, 3, none⟩ = some (.int .i64 (a).to) := (fun wq hwr => ⟨cell_mono hwr (by rw [hWa]; go_simp), cell_mono hwr (by rw [hWa]; go_simp), cell_mono hwr (by rw [hWa]; go_simp), cell_mono hwr (by rw [hWa]; go_simp)⟩); have HWa := Lib.hid hWa; clear hWa
    have hbBa := b_then hbB5 hba
    obtain ⟨l60, l61, l62, l63, l64, l65, l66, l67, l68, l69, l610, l611, l612⟩ := q _ hbBa
    have l69' := l69
    have l610' := l610
    have l611' := l611
    have l612' := l612
    rw [HWa.out] at l69' l610' l611' l612'
    have h4a : Below wc.heap.size wc Wa := b_then hb5 hba
    by_cases hc : a.ch = m.ch
    · have g1 : (a.ch == m.ch) = true := by simpa using hc
      clear hc
      go_wp2_with fail
      rw [← HWa.out]
      clear e0 e1 e2 e3 l69' l610' l611' l612'
      refine (aOverlap a m _).mono ?_
      rintro e6 w6 ⟨rfl, hb6⟩
      rcases Bool.eq_false_or_eq_true (overB a m) with ho | ho
      · rw [ho]
        clear ho
        go_wp2
        go_ret
        exact ⟨rfl, b_then (b_then hb1 hbBa) hb6⟩
      · rw [ho]
        have hno : ¬(a.ch = m.ch ∧ overB a m = true) := by rw [ho]; simp
        have HNO := Lib.hid hno
        have hbB6 := b_then hbBa hb6
        have hba6 := hb6
        have h46 := b_then h4a hb6
        clear ho hno g1
        have ks : ∀ w', Below w6.heap.size w6 w' → (Below w6.heap.size w6 w' ∧ (w'.cell? ⟨w.heap.size, 0, none⟩ = some (.slice A0 s.nodes.length c0) ∧ w'.cell? ⟨w.heap.size, 1, none⟩ = some (.slice A1 s.powers.length c1) ∧ w'.cell? ⟨w.heap.size, 2, none⟩ = some (.slice A2 s.walls.length c2) ∧ w'.cell? ⟨w.heap.size, 3, none⟩ = some (.int .i64 s.ex) ∧ w'.cell? ⟨w.heap.size, 4, none⟩ = some (.int .i64 s.noise) ∧ w'.cell? ⟨w.heap.size, 5, none⟩ = some (.int .i64 s.thr) ∧ w'.cell? ⟨w.heap.size, 6, none⟩ = some (.slice A3 x.srcs.length c3) ∧ w'.cell? ⟨w.heap.size, 7, none⟩ = some (.slice A4 x.fds.length c4) ∧ w'.cell? ⟨w.heap.size, 8, none⟩ = some (.slice (some ⟨bl, off, none⟩) l.length c5) ∧ w'.cell? ⟨w.heap.size + 1, 0, none⟩ = some (.int .i64 m.node) ∧ w'.cell? ⟨w.heap.size + 1, 1, none⟩ = some (.int .i64 m.ch) ∧ w'.cell? ⟨w.heap.size + 1, 2, none⟩ = some (.int .i64 m.frm) ∧ w'.cell? ⟨w.heap.size + 1, 3, none⟩ = some (.int .i64 m.to))) := fun w' h => ⟨h, q _ (b_then hbB6 h)⟩
        have KS := Lib.hid ks
        clear ks
        have hsL : ∀ w', Below w6.heap.size w6 w' → SiteV w' (.agg #[.slice A0 s.nodes.length c0, .slice A1 s.powers.length c1, .slice A2 s.walls.length c2, .int .i64 s.ex, .int .i64 s.noise, .int .i64 s.thr]) s := fun w' h => hs'.out.mono (b_then (b_then hb1 hbB6) h)
        have hxL : ∀ w', Below w6.heap.size w6 w' → SpmV w' (.agg #[.slice A3 x.srcs.length c3, .slice A4 x.fds.length c4]) x := fun w' h => hx'.out.mono (b_then (b_then hb1 hbB6) h)
        have hlL : ∀ w', Below w6.heap.size w6 w' → SlV 4 KEm w' (.slice (some ⟨bl, off, none⟩) l.length c5) l := fun w' h => hl'.out.mono KEm.st (b_then (b_then hb1 hbB6) h)
        have HS := Lib.hid hsL
        have HX := Lib.hid hxL
        have HL := Lib.hid hlL
        clear hsL hxL hlL
        try clear l60 l61 l62 l63 l64 l65 l66 l67 l68 l69 l610 l611 l612
        obtain ⟨l70, l71, l72, l73, l74, l75, l76, l77, l78, l79, l710, l711, l712⟩ := q _ hbB6
        go_wp2_with fail
        go_region_held3 (fun w' => Below w6.heap.size w6 w' ∧ (w'.cell? ⟨w.heap.size, 0, none⟩ = some (.slice A0 s.nodes.length c0) ∧ w'.cell? ⟨w.heap.size, 1, none⟩ = some (.slice A1 s.powers.length c1) ∧ w'.cell? ⟨w.heap.size, 2, none⟩ = some (.slice A2 s.walls.length c2) ∧ w'.cell? ⟨w.heap.size, 3, none⟩ = some (.int .i64 s.ex) ∧ w'.cell? ⟨w.heap.size, 4, none⟩ = some (.int .i64 s.noise) ∧ w'.cell? ⟨w.heap.size, 5, none⟩ = some (.int .i64 s.thr) ∧ w'.cell? ⟨w.heap.size, 6, none⟩ = some (.slice A3 x.srcs.length c3) ∧ w'.cell? ⟨w.heap.size, 7, none⟩ = some (.slice A4 x.fds.length c4) ∧ w'.cell? ⟨w.heap.size, 8, none⟩ = some (.slice (some ⟨bl, off, none⟩) l.length c5) ∧ w'.cell? ⟨w.heap.size + 1, 0, none⟩ = some (.int .i64 m.node) ∧ w'.cell? ⟨w.heap.size + 1, 1, none⟩ = some (.int .i64 m.ch) ∧ w'.cell? ⟨w.heap.size + 1, 2, none⟩ = some (.int .i64 m.frm) ∧ w'.cell? ⟨w.heap.size + 1, 3, none⟩ = some (.int .i64 m.to)))
          ((refine KS.out _ ?_; first | with_reducible exact b_drew (Below.refl _ _) | with_reducible exact b_then (And.left (by assumption)) hbq))
          (first
            | (go_at_call 12; refine (cloneS l _ _ (HL.out _ (And.left (by assumption))) (by omega)).mono ?_; rintro e10 w10 ⟨u, rfl, hcl, hbq⟩; have hb10 := hbq; obtain ⟨AC2, cC2, rfl, _⟩ := id hcl)
            | (go_at_call 22; refine (aReceiversE (k := k) (HS.out _ (And.left (by assumption))) (HX.out _ (And.left (by assumption))) hcl HE1.out rfl).mono ?_; rintro e11 w11 ⟨A9, c9, rfl, ho9, hbq⟩)
            | fail)
        have hbA11 : Below w6.heap.size w6 w11 := And.left (by assumption)
        have hs10 := hb10.size
        have hs11 := hbq.size
        have hbB11 := b_then hbB6 hbA11
        have hbz11 := b_then hb1 hbB11
        try clear l70 l71 l72 l73 l74 l75 l76 l77 l78 l79 l710 l711 l712
        obtain ⟨l80, l81, l82, l83, l84, l85, l86, l87, l88, l89, l810, l811, l812⟩ := q _ hbB11
        have HO9 := Lib.hid ho9
        have hrl := rcs_le s x l k
        have hrf := rcs_further HV.out HXA.out HNO.out
        have HRF := Lib.hid hrf
        clear ho9 hrf
        go_wp2_with fail
        refine (aReceiversE (k := k) (hs'.out.mono hbz11) (hx'.out.mono hbz11) (HS4.out.mono KEm.st (b_then h46 hbA11)) HE2.out rfl).mono ?_
        rintro e12 w12 ⟨AA, cA, rfl, hoA, hb12⟩
        have hrl2 := rcs_le s x (l ++ [m]) k
        have hbB12 := b_then hbB11 hb12
        have HOA := Lib.hid hoA
        clear hoA
        try clear l80 l81 l82 l83 l84 l85 l86 l87 l88 l89 l810 l811 l812
        obtain ⟨l90, l91, l92, l93, l94, l95, l96, l97, l98, l99, l910, l911, l912⟩ := q _ hbB12
        obtain ⟨m90, m91, m92, m93⟩ := qa _ (b_then (b_then hb6 hbA11) hb12)
        go_wp2_with fail
        refine (aOverlap a m _).mono ?_
        rintro e13 w13 ⟨rfl, hb13⟩
        have hbB13 := b_then hbB12 hb13
        have hbz13 := b_then hb1 hbB13
        try clear l90 l91 l92 l93 l94 l95 l96 l97 l98 l99 l910 l911 l912
        try clear m90 m91 m92 m93
        obtain ⟨la0, la1, la2, la3, la4, la5, la6, la7, la8, la9, la10, la11, la12⟩ := q _ hbB13
        have HO13 := Lib.hid (own_below HO9.out (b_then hb12 hb13))
        have HA13 := Lib.hid (own_below HOA.out hb13)
        have hW1s : w.heap.size + 1 < W1.heap.size := by rw [HW.out]; simp
        have hZs := Below.size hbB6
        rcases Bool.eq_false_or_eq_true (overB a m) with ho | ho
        · have HRF2 := HRF.out
          rw [ho, if_pos rfl] at HRF2
          rw [ho]
          have HR3 := Lib.hid HRF2
          clear HRF2 ho
          go_wp2_with fail
          refine (delOwn (rcsI s x l k) (w.heap.size + 1) m.node _ w10.heap.size HO13.out (by omega) la9 (by simp at hs10; omega) (by have := hb12.size; have := hb13.size; omega) w11.heap.size (fun g hg => own_lt HO9.out g hg)).mono ?_
          rintro e14 w14 ⟨AD, cD, rfl, hsd, row, hgr, hrow, hb14⟩
          have hA14 := HA13.out.kept hgr (by
            by_cases c : (Value.slice AA (rcsI s x (l ++ [m]) k).length cA).ownBlock = none
            · exact .inl c
            · refine .inr fun e => ?_
              cases row with
              | none => exact c e
              | some r =>
                have h1 := own_base HOA.out r e
                have h2 := (hrow r rfl).2
                omega)
          have hsA := own_sl hA14 (by unfold big; omega)
          have hsd' := hsd
          have hbF : Below w.heap.size w w14 := hbz13.trans (hb14.mono (by simp at hs10; omega))
          go_wp2_with fail
          refine (xEqual _ _ _ _ _ hsd' hsA).mono ?_
          rintro e15 w15 ⟨rfl, hb15⟩
          rw [HR3.out]
          go_wp2
          go_ret
          exact ⟨ret_bool (by simp), b_then hbF hb15⟩
        · have HRF2 := HRF.out
          rw [ho, if_neg (by simp)] at HRF2
          rw [ho]
          have HR3 := Lib.hid HRF2
          clear HRF2 ho
          have hsA := own_sl HA13.out (by unfold big; omega)
          have hsB := own_sl HO13.out (by unfold big; omega)
          go_wp2_with fail
          refine (xEqual _ _ _ _ _ hsB hsA).mono ?_
          rintro e15 w15 ⟨rfl, hb15⟩
          rw [HR3.out]
          go_wp2
          go_ret
          exact ⟨ret_bool (by simp), b_then hbz13 hb15⟩
    · have g1 : (a.ch == m.ch) = false := by simpa using hc
      have hno : ¬(a.ch = m.ch ∧ overB a m = true) := fun h => hc h.1
      have HNO := Lib.hid hno
      clear hc hno
      go_wp2_with fail
      rw [← HWa.out]
      clear e0 e1 e2 e3 l69' l610' l611' l612' g1
      have haa : Below Wa.heap.size Wa Wa := Below.refl _ _
      have ks : ∀ w', Below Wa.heap.size Wa w' → (Below Wa.heap.size Wa w' ∧ (w'.cell? ⟨w.heap.size, 0, none⟩ = some (.slice A0 s.nodes.length c0) ∧ w'.cell? ⟨w.heap.size, 1, none⟩ = some (.slice A1 s.powers.length c1) ∧ w'.cell? ⟨w.heap.size, 2, none⟩ = some (.slice A2 s.walls.length c2) ∧ w'.cell? ⟨w.heap.size, 3, none⟩ = some (.int .i64 s.ex) ∧ w'.cell? ⟨w.heap.size, 4, none⟩ = some (.int .i64 s.noise) ∧ w'.cell? ⟨w.heap.size, 5, none⟩ = some (.int .i64 s.thr) ∧ w'.cell? ⟨w.heap.size, 6, none⟩ = some (.slice A3 x.srcs.length c3) ∧ w'.cell? ⟨w.heap.size, 7, none⟩ = some (.slice A4 x.fds.length c4) ∧ w'.cell? ⟨w.heap.size, 8, none⟩ = some (.slice (some ⟨bl, off, none⟩) l.length c5) ∧ w'.cell? ⟨w.heap.size + 1, 0, none⟩ = some (.int .i64 m.node) ∧ w'.cell? ⟨w.heap.size + 1, 1, none⟩ = some (.int .i64 m.ch) ∧ w'.cell? ⟨w.heap.size + 1, 2, none⟩ = some (.int .i64 m.frm) ∧ w'.cell? ⟨w.heap.size + 1, 3, none⟩ = some (.int .i64 m.to))) := fun w' h => ⟨h, q _ (b_then hbBa h)⟩
      have KS := Lib.hid ks
      clear ks
      have hsL : ∀ w', Below Wa.heap.size Wa w' → SiteV w' (.agg #[.slice A0 s.nodes.length c0, .slice A1 s.powers.length c1, .slice A2 s.walls.length c2, .int .i64 s.ex, .int .i64 s.noise, .int .i64 s.thr]) s := fun w' h => hs'.out.mono (b_then (b_then hb1 hbBa) h)
      have hxL : ∀ w', Below Wa.heap.size Wa w' → SpmV w' (.agg #[.slice A3 x.srcs.length c3, .slice A4 x.fds.length c4]) x := fun w' h => hx'.out.mono (b_then (b_then hb1 hbBa) h)
      have hlL : ∀ w', Below Wa.heap.size Wa w' → SlV 4 KEm w' (.slice (some ⟨bl, off, none⟩) l.length c5) l := fun w' h => hl'.out.mono KEm.st (b_then (b_then hb1 hbBa) h)
      have HS := Lib.hid hsL
      have HX := Lib.hid hxL
      have HL := Lib.hid hlL
      clear hsL hxL hlL
      try clear l60 l61 l62 l63 l64 l65 l66 l67 l68 l69 l610 l611 l612
      obtain ⟨l70, l71, l72, l73, l74, l75, l76, l77, l78, l79, l710, l711, l712⟩ := q _ hbBa
      go_wp2_with fail
      go_region_held3 (fun w' => Below Wa.heap.size Wa w' ∧ (w'.cell? ⟨w.heap.size, 0, none⟩ = some (.slice A0 s.nodes.length c0) ∧ w'.cell? ⟨w.heap.size, 1, none⟩ = some (.slice A1 s.powers.length c1) ∧ w'.cell? ⟨w.heap.size, 2, none⟩ = some (.slice A2 s.walls.length c2) ∧ w'.cell? ⟨w.heap.size, 3, none⟩ = some (.int .i64 s.ex) ∧ w'.cell? ⟨w.heap.size, 4, none⟩ = some (.int .i64 s.noise) ∧ w'.cell? ⟨w.heap.size, 5, none⟩ = some (.int .i64 s.thr) ∧ w'.cell? ⟨w.heap.size, 6, none⟩ = some (.slice A3 x.srcs.length c3) ∧ w'.cell? ⟨w.heap.size, 7, none⟩ = some (.slice A4 x.fds.length c4) ∧ w'.cell? ⟨w.heap.size, 8, none⟩ = some (.slice (some ⟨bl, off, none⟩) l.length c5) ∧ w'.cell? ⟨w.heap.size + 1, 0, none⟩ = some (.int .i64 m.node) ∧ w'.cell? ⟨w.heap.size + 1, 1, none⟩ = some (.int .i64 m.ch) ∧ w'.cell? ⟨w.heap.size + 1, 2, none⟩ = some (.int .i64 m.frm) ∧ w'.cell? ⟨w.heap.size + 1, 3, none⟩ = some (.int .i64 m.to)))
        ((refine KS.out _ ?_; first | with_reducible exact b_drew (Below.refl _ _) | with_reducible exact b_then (And.left (by assumption)) hbq))
        (first
          | (go_at_call 12; refine (cloneS l _ _ (HL.out _ (And.left (by assumption))) (by omega)).mono ?_; rintro e10 w10 ⟨u, rfl, hcl, hbq⟩; have hb10 := hbq; obtain ⟨AC2, cC2, rfl, _⟩ := id hcl)
          | (go_at_call 22; refine (aReceiversE (k := k) (HS.out _ (And.left (by assumption))) (HX.out _ (And.left (by assumption))) hcl HE1.out rfl).mono ?_; rintro e11 w11 ⟨A9, c9, rfl, ho9, hbq⟩)
          | fail)
      have hbA11 : Below Wa.heap.size Wa w11 := And.left (by assumption)
      have hs10 := hb10.size
      have hs11 := hbq.size
      have hbB11 := b_then hbBa hbA11
      have hbz11 := b_then hb1 hbB11
      try clear l70 l71 l72 l73 l74 l75 l76 l77 l78 l79 l710 l711 l712
      obtain ⟨l80, l81, l82, l83, l84, l85, l86, l87, l88, l89, l810, l811, l812⟩ := q _ hbB11
      have HO9 := Lib.hid ho9
      have hrl := rcs_le s x l k
      have hrf := rcs_further HV.out HXA.out HNO.out
      have HRF := Lib.hid hrf
      clear ho9 hrf
      go_wp2_with fail
      refine (aReceiversE (k := k) (hs'.out.mono hbz11) (hx'.out.mono hbz11) (HS4.out.mono KEm.st (b_then h4a hbA11)) HE2.out rfl).mono ?_
      rintro e12 w12 ⟨AA, cA, rfl, hoA, hb12⟩
      have hrl2 := rcs_le s x (l ++ [m]) k
      have hbB12 := b_then hbB11 hb12
      have HOA := Lib.hid hoA
      clear hoA
      try clear l80 l81 l82 l83 l84 l85 l86 l87 l88 l89 l810 l811 l812
      obtain ⟨l90, l91, l92, l93, l94, l95, l96, l97, l98, l99, l910, l911, l912⟩ := q _ hbB12
      obtain ⟨m90, m91, m92, m93⟩ := qa _ (b_then (b_then haa hbA11) hb12)
      go_wp2_with fail
      refine (aOverlap a m _).mono ?_
      rintro e13 w13 ⟨rfl, hb13⟩
      have hbB13 := b_then hbB12 hb13
      have hbz13 := b_then hb1 hbB13
      try clear l90 l91 l92 l93 l94 l95 l96 l97 l98 l99 l910 l911 l912
      try clear m90 m91 m92 m93
      obtain ⟨la0, la1, la2, la3, la4, la5, la6, la7, la8, la9, la10, la11, la12⟩ := q _ hbB13
      have HO13 := Lib.hid (own_below HO9.out (b_then hb12 hb13))
      have HA13 := Lib.hid (own_below HOA.out hb13)
      have hW1s : w.heap.size + 1 < W1.heap.size := by rw [HW.out]; simp
      have hZs := Below.size hbBa
      rcases Bool.eq_false_or_eq_true (overB a m) with ho | ho
      · have HRF2 := HRF.out
        rw [ho, if_pos rfl] at HRF2
        rw [ho]
        have HR3 := Lib.hid HRF2
        clear HRF2 ho
        go_wp2_with fail
        refine (delOwn (rcsI s x l k) (w.heap.size + 1) m.node _ w10.heap.size HO13.out (by omega) la9 (by simp at hs10; omega) (by have := hb12.size; have := hb13.size; omega) w11.heap.size (fun g hg => own_lt HO9.out g hg)).mono ?_
        rintro e14 w14 ⟨AD, cD, rfl, hsd, row, hgr, hrow, hb14⟩
        have hA14 := HA13.out.kept hgr (by
          by_cases c : (Value.slice AA (rcsI s x (l ++ [m]) k).length cA).ownBlock = none
          · exact .inl c
          · refine .inr fun e => ?_
            cases row with
            | none => exact c e
            | some r =>
              have h1 := own_base HOA.out r e
              have h2 := (hrow r rfl).2
              omega)
        have hsA := own_sl hA14 (by unfold big; omega)
        have hsd' := hsd
        have hbF : Below w.heap.size w w14 := hbz13.trans (hb14.mono (by simp at hs10; omega))
        go_wp2_with fail
        refine (xEqual _ _ _ _ _ hsd' hsA).mono ?_
        rintro e15 w15 ⟨rfl, hb15⟩
        rw [HR3.out]
        go_wp2
        go_ret
        exact ⟨ret_bool (by simp), b_then hbF hb15⟩
      · have HRF2 := HRF.out
        rw [ho, if_neg (by simp)] at HRF2
        rw [ho]
        have HR3 := Lib.hid HRF2
        clear HRF2 ho
        have hsA := own_sl HA13.out (by unfold big; omega)
        have hsB := own_sl HO13.out (by unfold big; omega)
        go_wp2_with fail
        refine (xEqual _ _ _ _ _ hsB hsA).mono ?_
        rintro e15 w15 ⟨rfl, hb15⟩
        rw [HR3.out]
        go_wp2
        go_ret
        exact ⟨ret_bool (by simp), b_then hbz13 hb15⟩
end Go.Proofs.Ytpbhoeaadnemhaa
