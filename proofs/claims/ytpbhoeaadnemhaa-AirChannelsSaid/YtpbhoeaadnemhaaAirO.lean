/- The law function: captures, the walk. -/
import Derived.Test.YtpbhoeaadnemhaaAirN
namespace Go.Proofs.Ytpbhoeaadnemhaa
open Go.RowKit Go.Shelf
set_option linter.unusedVariables false
set_option linter.unusedSimpArgs false
set_option maxHeartbeats 4000000
set_option maxRecDepth 100000
theorem lCaptures (s : Site) (x : Spm) (l : List Em) (v : Value) (w : World) (h : ScnV w v s x l) :
    Calls Try.prog 6 #[v] w fun e w' => e = .returned (.bool true) ∧ Below w.heap.size w w' := by
  have hu := Try.underlying26
  have hu2 := Try.underlying30
  have hu3 := Try.underlying35
  have hu4 := Try.underlying33
  have hu5 := Try.underlying56
  have hu6 := Try.underlying23
  obtain ⟨A0, c0, A1, c1, A2, c2, A3, c3, A4, c4, A5, c5, rfl, hs, hx, hl⟩ := h
  have hs' := Lib.hid hs
  have hx' := Lib.hid hx
  have hl' := Lib.hid hl
  obtain ⟨_, _, e5, hc5, hm5, hr5⟩ := hl
  cases e5
  unfold big at hm5
  clear hs hx
  obtain ⟨W1, hW1⟩ : ∃ W : World, W = (w.alloc (.cells #[.slice A0 s.nodes.length c0, .slice A1 s.powers.length c1, .slice A2 s.walls.length c2, .int .i64 s.ex, .int .i64 s.noise, .int .i64 s.thr, .slice A3 x.srcs.length c3, .slice A4 x.fds.length c4, .slice A5 l.length c5] 33)) := ⟨_, rfl⟩; have hb1 : Below w.heap.size w W1 := (by rw [hW1]; (repeat (first | exact Below.refl _ _ | assumption | apply b_alloc | apply b_drewN | apply b_drew))); have q : ∀ wq : World, Below W1.heap.size W1 wq → wq.cell? ⟨w.heap.size, 0, none⟩ = some (.slice A0 s.nodes.length c0) ∧ wq.cell? ⟨w.heap.size, 1, none⟩ = some (.slice A1 s.powers.length c1) ∧ wq.cell? ⟨w.heap.size, 2, none⟩ = some (.slice A2 s.walls.length c2) ∧ wq.cell? ⟨w.heap.size, 3, none⟩ = some (.int .i64 s.ex) ∧ wq.cell? ⟨w.heap.size, 4, none⟩ = some (.int .i64 s.noise) ∧ wq.cell? ⟨w.heap.size, 5, none⟩ = some (.int .i64 s.thr) ∧ wq.cell? ⟨w.heap.size, 6, none⟩ = some (.slice A3 x.srcs.length c3) ∧ wq.cell? ⟨w.heap.size, 7, none⟩ = some (.slice A4 x.fds.length c4) ∧ wq.cell? ⟨w.heap.size, 8, none⟩ = some (.slice A5 l.length c5) := (fun wq hwr => ⟨cell_mono hwr (by rw [hW1]; go_simp), cell_mono hwr (by rw [hW1]; go_simp), cell_mono hwr (by rw [hW1]; go_simp), cell_mono hwr (by rw [hW1]; go_simp), cell_mono hwr (by rw [hW1]; go_simp), cell_mono hwr (by rw [hW1]; go_simp), cell_mono hwr (by rw [hW1]; go_simp), cell_mono hwr (by rw [hW1]; go_simp), cell_mono hwr (by rw [hW1]; go_simp)⟩); have HW := Lib.hid hW1; clear hW1
  go_enter Try.func6, Try.ntmps6
  go_wp2_with fail
  rw [← HW.out]
  refine (awake _).mono ?_
  rintro e w2 ⟨rfl, hb2⟩
  have hbz2 := b_then hb1 hb2
  have ks : ∀ w', Below w2.heap.size w2 w' → (Below w2.heap.size w2 w' ∧ (w'.cell? ⟨w.heap.size, 0, none⟩ = some (.slice A0 s.nodes.length c0) ∧ w'.cell? ⟨w.heap.size, 1, none⟩ = some (.slice A1 s.powers.length c1) ∧ w'.cell? ⟨w.heap.size, 2, none⟩ = some (.slice A2 s.walls.length c2) ∧ w'.cell? ⟨w.heap.size, 3, none⟩ = some (.int .i64 s.ex) ∧ w'.cell? ⟨w.heap.size, 4, none⟩ = some (.int .i64 s.noise) ∧ w'.cell? ⟨w.heap.size, 5, none⟩ = some (.int .i64 s.thr) ∧ w'.cell? ⟨w.heap.size, 6, none⟩ = some (.slice A3 x.srcs.length c3) ∧ w'.cell? ⟨w.heap.size, 7, none⟩ = some (.slice A4 x.fds.length c4) ∧ w'.cell? ⟨w.heap.size, 8, none⟩ = some (.slice A5 l.length c5))) := fun w' h => ⟨h, q _ (b_then hb2 h)⟩
  have KS := Lib.hid ks
  clear ks
  have hsL : ∀ w', Below w2.heap.size w2 w' → SiteV w' (.agg #[.slice A0 s.nodes.length c0, .slice A1 s.powers.length c1, .slice A2 s.walls.length c2, .int .i64 s.ex, .int .i64 s.noise, .int .i64 s.thr]) s := fun w' h => hs'.out.mono (b_then hbz2 h)
  have hxL : ∀ w', Below w2.heap.size w2 w' → SpmV w' (.agg #[.slice A3 x.srcs.length c3, .slice A4 x.fds.length c4]) x := fun w' h => hx'.out.mono (b_then hbz2 h)
  have hlL : ∀ w', Below w2.heap.size w2 w' → SlV 4 KEm w' (.slice A5 l.length c5) l := fun w' h => hl'.out.mono KEm.st (b_then hbz2 h)
  have HS := Lib.hid hsL
  have HX := Lib.hid hxL
  have HL := Lib.hid hlL
  clear hsL hxL hlL
  rcases Bool.eq_false_or_eq_true (fewS s x l) with q1 | q1
  rotate_left
  · obtain ⟨l20, l21, l22, l23, l24, l25, l26, l27, l28⟩ := q _ hb2; have Ll20 := Later.cell l20; have Ll21 := Later.cell l21; have Ll22 := Later.cell l22; have Ll23 := Later.cell l23; have Ll24 := Later.cell l24; have Ll25 := Later.cell l25; have Ll26 := Later.cell l26; have Ll27 := Later.cell l27; have Ll28 := Later.cell l28
    have hfL : ∀ z : Later w2, Calls Try.prog 10 #[.agg #[.slice A0 s.nodes.length c0, .slice A1 s.powers.length c1, .slice A2 s.walls.length c2, .int .i64 s.ex, .int .i64 s.noise, .int .i64 s.thr, .slice A3 x.srcs.length c3, .slice A4 x.fds.length c4, .slice A5 l.length c5]] z.W fun e w' => e = .returned (.bool false) ∧ Below z.W.heap.size z.W w' := fun z => lFewV s x l z.W (HS.out _ z.below) (HX.out _ z.below) (HL.out _ z.below) q1
    go_wp2_with fail
    refine wp_region_later (by kernel_rfl) (by kernel_rfl) ?_
    repeat (go_big_quiet_step ((go_at_call 10; exact later_of (hfL _))))
    refine wpQuiet_nil ?_
    rintro _ ⟨z, rfl⟩
    go_wp2
    go_ret
    exact ⟨rfl, b_then hbz2 z.below⟩
  have hlen : l.length ≤ 50 := few_len q1
  have HQ1 := Lib.hid q1
  clear q1
  obtain ⟨R, hR⟩ : ∃ R, airE s x l = R := ⟨_, rfl⟩
  have HR := Lib.hid hR
  have aCheckR : ∀ {v xv lv : Value} {w' : World}, SiteV w' v s → SpmV w' xv x → SlV 4 KEm w' lv l → Calls Try.prog 11 #[v, xv, lv] w' fun e w'' => e = .returned (.int .i64 R) ∧ Below w'.heap.size w' w'' := fun {v xv lv w'} h1 h2 h3 => hR ▸ aCheck s x l v xv lv w' h1 h2 h3
  clear hR
  obtain ⟨l20, l21, l22, l23, l24, l25, l26, l27, l28⟩ := q _ hb2
  go_wp2_with fail
  go_region_held3 (fun w' => Below w2.heap.size w2 w' ∧ (w'.cell? ⟨w.heap.size, 0, none⟩ = some (.slice A0 s.nodes.length c0) ∧ w'.cell? ⟨w.heap.size, 1, none⟩ = some (.slice A1 s.powers.length c1) ∧ w'.cell? ⟨w.heap.size, 2, none⟩ = some (.slice A2 s.walls.length c2) ∧ w'.cell? ⟨w.heap.size, 3, none⟩ = some (.int .i64 s.ex) ∧ w'.cell? ⟨w.heap.size, 4, none⟩ = some (.int .i64 s.noise) ∧ w'.cell? ⟨w.heap.size, 5, none⟩ = some (.int .i64 s.thr) ∧ w'.cell? ⟨w.heap.size, 6, none⟩ = some (.slice A3 x.srcs.length c3) ∧ w'.cell? ⟨w.heap.size, 7, none⟩ = some (.slice A4 x.fds.length c4) ∧ w'.cell? ⟨w.heap.size, 8, none⟩ = some (.slice A5 l.length c5)))
    ((refine KS.out _ ?_; first | with_reducible exact b_drew (Below.refl _ _) | with_reducible exact b_then (And.left (by assumption)) hbq))
    (first
      | (go_at_call 10; refine (lFewV s x l _ (HS.out _ (And.left (by assumption))) (HX.out _ (And.left (by assumption))) (HL.out _ (And.left (by assumption))) HQ1.out).mono ?_; rintro e3 w3 ⟨rfl, hbq⟩)
      | (go_at_call 12; refine (cloneS l _ _ (HL.out _ (And.left (by assumption))) (by omega)).mono ?_; rintro e4 w4 ⟨u, rfl, hcl, hbq⟩; obtain ⟨AC, cC, rfl, _⟩ := id hcl)
      | (go_at_call 11; refine (aCheckR (HS.out _ (And.left (by assumption))) (HX.out _ (And.left (by assumption))) hcl).mono ?_; rintro e5 w5 ⟨rfl, hbq⟩)
      | fail)
  have hbA5 : Below w2.heap.size w2 w5 := And.left (by assumption)
  have hbB5 := b_then hb2 hbA5
  have hbz5 := b_then hb1 hbB5
  try clear l20 l21 l22 l23 l24 l25 l26 l27 l28
  obtain ⟨l50, l51, l52, l53, l54, l55, l56, l57, l58⟩ := q _ hbB5
  clear aCheckR
  by_cases z : R = 0
  rotate_left
  · have g0 : (R == 0) = false := by simpa using z
    have g1 : (R != 0) = true := by simpa using z
    clear z
    go_wp2
    go_ret
    exact ⟨rfl, hbz5⟩
  subst z
  have hv := valid_of HR.out
  have hnl1 := (site_len hv.site).1
  have hnl2 := (site_len hv.site).2.1
  have HV := Lib.hid hv
  clear hv
  try clear l50 l51 l52 l53 l54 l55 l56 l57 l58
  have hb0 : Below w5.heap.size w5 (w5.alloc (.cells #[.slice none 0 0] 56)) := b_alloc (Below.refl _ _) _
  obtain ⟨l60, l61, l62, l63, l64, l65, l66, l67, l68⟩ := q _ (b_then hbB5 hb0)
  go_wp2_with fail
  go_loopw [31] (fun i' wr => ∃ (j : Nat) (Ag : Option Addr) (cg : Nat) (cs : List Value), j ≤ l.length ∧ i' = .int .i64 j ∧ Boxed wr w5.heap.size 56 (.slice Ag j cg) ∧ wr.ownsRow (w5.heap.size + 1) 23 1 (.slice Ag j cg) j cs ∧ Flat 1 KOw wr (gotL s x l j) cs ∧ Below w5.heap.size w5 wr) (fun i' _ => l.length - (intOf i').toNat)
  case atStart => exact ⟨0, none, 0, [], Nat.zero_le _, rfl, Boxed.new _ _ _, own_nil _ _ _ _, Flat.nil _ _ _, hb0⟩
  case round =>
    obtain ⟨j, Ag, cg, cs, hj, rfl, hq, hown, hflat, hbw⟩ := hrel
    have hbBw := b_then hbB5 hbw
    have hbzw := b_then hb1 hbBw
    by_cases hlt : j < l.length
    · have hx0 := emD_get hlt
      obtain ⟨e, he⟩ : ∃ e, emD l j = e := ⟨_, rfl⟩
      rw [he] at hx0
      have hno := no_own HV.out hx0
      obtain ⟨bl, off, hAe, e0, e1, e2, e3⟩ := hr5.em hbzw hx0
      subst hAe
      have hE : chkE s x l (j : Int) 0 = 0 := by
        rw [chkE, if_pos HR.out, if_pos]
        rw [Bool.and_eq_true]
        exact ⟨by simp [ixB, hlt], by simp [inB]; omega⟩
      have HE := Lib.hid hE
      have HNO := Lib.hid hno
      have HOWN := Lib.hid hown
      have HFLAT := Lib.hid hflat
      have HQB := Lib.hid hq
      clear hE hno hx0 he hown hflat hq
      obtain ⟨Wn, hWn⟩ : ∃ W : World, W = (wr.alloc (.cells #[.int .i64 (e).node, .int .i64 (e).ch, .int .i64 (e).frm, .int .i64 (e).to] 35)) := ⟨_, rfl⟩; have hbn : Below wr.heap.size wr Wn := (by rw [hWn]; (repeat (first | exact Below.refl _ _ | assumption | apply b_alloc | apply b_drewN | apply b_drew))); have qn : ∀ wq : World, Below Wn.heap.size Wn wq → wq.cell? ⟨wr.heap.size, 0, none⟩ = some (.int .i64 (e).node) ∧ wq.cell? ⟨wr.heap.size, 1, none⟩ = some (.int .i64 (e).ch) ∧ wq.cell? ⟨wr.heap.size, 2, none⟩ = some (.int .i64 (e).frm) ∧ wq.cell? ⟨wr.heap.size, 3, none⟩ = some (.int .i64 (e).to) := (fun wq hwr => ⟨cell_mono hwr (by rw [hWn]; go_simp), cell_mono hwr (by rw [hWn]; go_simp), cell_mono hwr (by rw [hWn]; go_simp), cell_mono hwr (by rw [hWn]; go_simp)⟩); have HWn := Lib.hid hWn; clear hWn
      have hbBn := b_then hbBw hbn
      have hbzn := b_then hb1 hbBn
      have ks : ∀ w', Below Wn.heap.size Wn w' → (Below Wn.heap.size Wn w' ∧ (w'.cell? ⟨w.heap.size, 0, none⟩ = some (.slice A0 s.nodes.length c0) ∧ w'.cell? ⟨w.heap.size, 1, none⟩ = some (.slice A1 s.powers.length c1) ∧ w'.cell? ⟨w.heap.size, 2, none⟩ = some (.slice A2 s.walls.length c2) ∧ w'.cell? ⟨w.heap.size, 3, none⟩ = some (.int .i64 s.ex) ∧ w'.cell? ⟨w.heap.size, 4, none⟩ = some (.int .i64 s.noise) ∧ w'.cell? ⟨w.heap.size, 5, none⟩ = some (.int .i64 s.thr) ∧ w'.cell? ⟨w.heap.size, 6, none⟩ = some (.slice A3 x.srcs.length c3) ∧ w'.cell? ⟨w.heap.size, 7, none⟩ = some (.slice A4 x.fds.length c4) ∧ w'.cell? ⟨w.heap.size, 8, none⟩ = some (.slice (some ⟨bl, off, none⟩) l.length c5))) := fun w' h => ⟨h, q _ (b_then hbBn h)⟩
      have KS := Lib.hid ks
      clear ks
      have hsL : ∀ w', Below Wn.heap.size Wn w' → SiteV w' (.agg #[.slice A0 s.nodes.length c0, .slice A1 s.powers.length c1, .slice A2 s.walls.length c2, .int .i64 s.ex, .int .i64 s.noise, .int .i64 s.thr]) s := fun w' h => hs'.out.mono (b_then hbzn h)
      have hxL : ∀ w', Below Wn.heap.size Wn w' → SpmV w' (.agg #[.slice A3 x.srcs.length c3, .slice A4 x.fds.length c4]) x := fun w' h => hx'.out.mono (b_then hbzn h)
      have hlL : ∀ w', Below Wn.heap.size Wn w' → SlV 4 KEm w' (.slice (some ⟨bl, off, none⟩) l.length c5) l := fun w' h => hl'.out.mono KEm.st (b_then hbzn h)
      have HS := Lib.hid hsL
      have HX := Lib.hid hxL
      have HL := Lib.hid hlL
      clear hsL hxL hlL
      try clear l60 l61 l62 l63 l64 l65 l66 l67 l68
      obtain ⟨l70, l71, l72, l73, l74, l75, l76, l77, l78⟩ := q _ hbBw
      go_wp2_with fail
      rw [← HWn.out]
      go_region_held3 (fun w' => Below Wn.heap.size Wn w' ∧ (w'.cell? ⟨w.heap.size, 0, none⟩ = some (.slice A0 s.nodes.length c0) ∧ w'.cell? ⟨w.heap.size, 1, none⟩ = some (.slice A1 s.powers.length c1) ∧ w'.cell? ⟨w.heap.size, 2, none⟩ = some (.slice A2 s.walls.length c2) ∧ w'.cell? ⟨w.heap.size, 3, none⟩ = some (.int .i64 s.ex) ∧ w'.cell? ⟨w.heap.size, 4, none⟩ = some (.int .i64 s.noise) ∧ w'.cell? ⟨w.heap.size, 5, none⟩ = some (.int .i64 s.thr) ∧ w'.cell? ⟨w.heap.size, 6, none⟩ = some (.slice A3 x.srcs.length c3) ∧ w'.cell? ⟨w.heap.size, 7, none⟩ = some (.slice A4 x.fds.length c4) ∧ w'.cell? ⟨w.heap.size, 8, none⟩ = some (.slice (some ⟨bl, off, none⟩) l.length c5)))
        ((refine KS.out _ ?_; first | with_reducible exact b_drew (Below.refl _ _) | with_reducible exact b_then (And.left (by assumption)) hbq))
        (first
          | (go_at_call 12; refine (cloneS l _ _ (HL.out _ (And.left (by assumption))) (by omega)).mono ?_; rintro e4 w4 ⟨u, rfl, hcl, hbq⟩; obtain ⟨AC2, cC2, rfl, _⟩ := id hcl)
          | (go_at_call 22; refine (aReceiversE (k := j) (HS.out _ (And.left (by assumption))) (HX.out _ (And.left (by assumption))) hcl HE.out rfl).mono ?_; rintro e6 w6 ⟨A6, c6, rfl, ho6, hbq⟩)
          | fail)
      have hbA6 : Below Wn.heap.size Wn w6 := And.left (by assumption)
      have hq := HQB.out
      have hown := HOWN.out
      have hbB6 := b_then hbBn hbA6
      have hrl := rcs_le s x l j
      have ho6' := own_weak ho6 (Nat.zero_le _)
      have hs6 := own_sl ho6 (by unfold big; omega)
      try clear l70 l71 l72 l73 l74 l75 l76 l77 l78
      obtain ⟨l80, l81, l82, l83, l84, l85, l86, l87, l88⟩ := q _ hbB6
      obtain ⟨m80, m81, m82, m83⟩ := qn _ hbA6
      clear e0 e1 e2 e3
      have hsrt := rcs_sorted s x l j
      have hgs := got_succ s x l j
      generalize hrj : rcsI s x l j = rj at *
      clear hrj
      go_wp2_with fail
      refine (xIsSorted rj _ _ hs6 hsrt).mono ?_
      rintro e7 w7 ⟨rfl, hb7⟩
      have hb67 := b_then hbA6 hb7
      have hs7 := hs6.mono KI.st hb7
      have ho7 := own_below ho6' hb7
      try clear l80 l81 l82 l83 l84 l85 l86 l87 l88
      try clear m80 m81 m82 m83
      obtain ⟨m90, m91, m92, m93⟩ := qn _ hb67
      go_wp2_with fail
      refine (xConV rj e.node _ _ hs7 HNO.out).mono ?_
      rintro e8 w8 ⟨rfl, rfl⟩
      have hbr7 : Below wr.heap.size wr w7 := b_then hbn hb67
      have hq7 : Boxed w7 w5.heap.size 56 (.slice Ag j cg) := (hbr7.block _ hq.lt).trans hq
      have cq7 := hq7.cell
      have hbA7 : Below w7.heap.size w7 (w7.alloc (.cells #[.slice A6 rj.length c6] 23)) := b_alloc (Below.refl _ _) _
      have hown7 := own_below hown (b_then hbr7 hbA7)
      have hq7a := hq7.alloc (.cells #[.slice A6 rj.length c6] 23)
      have hnews := World.news_of_block (cs := #[.slice A6 rj.length c6]) (t := 23) (fr := (0, 0)) (heap_alloc_new w7 (.cells #[.slice A6 rj.length c6] 23))
      have hsz7 : w5.heap.size + 1 ≤ (w7.alloc (.cells #[.slice A6 rj.length c6] 23)).heap.size := by
        have h1 := hbr7.size
        have h2 := hq.lt
        simp
        omega
      clear m90 m91 m92 m93
      have HNW := Lib.hid hnews
      have HO7 := Lib.hid hown7
      have HS7 := Lib.hid hsz7
      have HGS := Lib.hid hgs
      have HK7 := Lib.hid ho7
      clear hnews hown7 hsz7 hgs ho7 hown ho6 ho6' hsrt hs6 hs7 hq7
      go_wp2_with ((at_builtin; refine append_cells (w0 := w7.alloc (.cells #[.slice A6 rj.length c6] 23)) (w5.heap.size + 1) rfl (.tmp 61) (.tmp 63) 56 23 rfl Try.underlying56 infoIs rfl (by decide) (.slice Ag j cg) j cs rfl ⟨w7.heap.size, 0, none⟩ 1 1 [.slice A6 rj.length c6] rfl rfl HNW.out (by simp [Value.oneCell']) HO7.out (Below.refl _ _) HS7.out (by unfold maxLen; omega) (by omega) ?_; intro v1 w1' hown1 hb1x hg1 hat1; obtain ⟨A2, c2, rfl⟩ := own_slice hown1; have hq1 := hq7a.kept hg1 (fun e => by have := own_base HO7.out _ e.symm; omega); have cq1 := hq1.cell; have fq1 := hq1.frozen))
      go_roundw
      case rel =>
        have hk7 : ∀ v n xs, w7.ownsRow 0 3 1 v n xs → (w1'.setCell ⟨w5.heap.size, 0, none⟩ (.slice A2 (j + 1) c2)).ownsRow 0 3 1 v n xs := fun v n xs h => by
          refine own_other (own_other (own_below h hbA7) hg1 (fun r hr => ?_)) (grownBy_setCell' w1' w5.heap.size (.slice A2 (j + 1) c2)) (fun r hr => ?_)
          · rcases HO7.out.2 with ⟨e2, _⟩ | ⟨g, cap, cur, e2, _, hh, _⟩
            · rw [e2] at hr; simp [Value.ownBlock] at hr
            · rw [e2] at hr
              have e3 : g = r := by simpa [Value.ownBlock] using hr
              subst e3
              exact ⟨_, _, _, hh, by decide⟩
          · cases hr
            exact ⟨_, _, _, hq1, by decide⟩
        repeat apply Exists.intro
        refine ⟨?relx, rfl⟩
        refine ⟨j + 1, A2, c2, cs ++ [.slice A6 rj.length c6], by omega, by go_num, hq1.set _, ?_, ?_, ?_⟩
        · exact hown1.kept (grownBy_setCell' w1' w5.heap.size _) (.inr fun e => by have := own_base hown1 _ e; omega)
        · rw [HGS.out]
          exact Flat.snoc KOw.pl (flat_kept HFLAT.out fun v n xs h => hk7 v n xs (own_below h hbr7)) ⟨A6, c6, rfl, hk7 _ _ _ HK7.out⟩
        · have s1 := hbw.size
          have s2 := hbr7.size
          exact ((hbw.trans ((hbr7.mono s1).trans ((hbA7.mono (by omega)).trans (hb1x.mono (by omega))))).setCell (Nat.le_refl _) _)
      case measure => simp [intOf]; omega
    · obtain rfl : j = l.length := by omega
      have hgz : ∀ wz, Below wr.heap.size wr wz → wz.cell? ⟨w5.heap.size, 0, none⟩ = some (.slice Ag l.length cg) ∧ wz.ownsRow 0 23 1 (.slice Ag l.length cg) l.length cs ∧ Flat 1 KOw wz (gotL s x l l.length) cs := fun wz h => ⟨cell_mono h hq.cell, own_weak (own_below hown h) (Nat.zero_le _), hflat.mono KOw.st h⟩
      have HGZ := Lib.hid hgz
      clear hgz hq hown hflat hlt hj
      try clear l60 l61 l62 l63 l64 l65 l66 l67 l68
      obtain ⟨l70, l71, l72, l73, l74, l75, l76, l77, l78⟩ := q _ hbBw
      generalize wr = w9 at *
      go_wp2_with fail
      go_loopw [69] (fun i' wr => ∃ i : Nat, i ≤ l.length ∧ i' = .int .i64 i ∧ Below w9.heap.size w9 wr) (fun i' _ => l.length - (intOf i').toNat)
      case atStart => exact ⟨0, Nat.zero_le _, rfl, Below.refl _ _⟩
      case round =>
        obtain ⟨i, hi, rfl, hb9⟩ := hrel
        try clear l70 l71 l72 l73 l74 l75 l76 l77 l78
        by_cases hlt : i < l.length
        rotate_left
        · go_wp2
          go_ret
          exact ⟨rfl, b_then hbzw hb9⟩
        have hxa := emD_get hlt
        obtain ⟨a, ha⟩ : ∃ a, emD l i = a := ⟨_, rfl⟩
        rw [ha] at hxa
        have hrl := rcs_le s x l i
        obtain ⟨g, A2, c2, rfl, hrc, hrs⟩ := rows_at (HGZ.out _ hb9).2.1 (HGZ.out _ hb9).2.2 (got_at hlt) (by unfold big; omega)
        have hbB9 := b_then hbBw hb9
        have hbz9 := b_then hb1 hbB9
        obtain ⟨bl, off, hAe, e0, e1, e2, e3⟩ := hr5.em hbz9 hxa
        subst hAe
        have HXA := Lib.hid hxa
        have HRC := Lib.hid hrc
        have HRS := Lib.hid hrs
        obtain ⟨Wa, hWa⟩ : ∃ W : World, W = (wr.alloc (.cells #[.int .i64 (a).node, .int .i64 (a).ch, .int .i64 (a).frm, .int .i64 (a).to] 35)) := ⟨_, rfl⟩; have hba : Below wr.heap.size wr Wa := (by rw [hWa]; (repeat (first | exact Below.refl _ _ | assumption | apply b_alloc | apply b_drewN | apply b_drew))); have qa : ∀ wq : World, Below Wa.heap.size Wa wq → wq.cell? ⟨wr.heap.size, 0, none⟩ = some (.int .i64 (a).node) ∧ wq.cell? ⟨wr.heap.size, 1, none⟩ = some (.int .i64 (a).ch) ∧ wq.cell? ⟨wr.heap.size, 2, none⟩ = some (.int .i64 (a).frm) ∧ wq.cell? ⟨wr.heap.size, 3, none⟩ = some (.int .i64 (a).to) := (fun wq hwr => ⟨cell_mono hwr (by rw [hWa]; go_simp), cell_mono hwr (by rw [hWa]; go_simp), cell_mono hwr (by rw [hWa]; go_simp), cell_mono hwr (by rw [hWa]; go_simp)⟩); have HWa := Lib.hid hWa; clear hWa
        have hbBa := b_then hbB9 hba
        obtain ⟨la0, la1, la2, la3, la4, la5, la6, la7, la8⟩ := q _ hbBa
        rw [HWa.out] at la8
        clear ha hxa hrc hrs la0 la1 la2 la3 la4 la5 la6 la7
        have hb9a := b_then hb9 hba
        obtain ⟨l90, l91, l92, l93, l94, l95, l96, l97, l98⟩ := q _ hbB9
        go_wp2_with fail
        rw [← HWa.out]
        clear e0 e1 e2 e3 la8
        try clear l90 l91 l92 l93 l94 l95 l96 l97 l98
        generalize wr = w10 at *
        go_loopw [77] (fun k' wr => ∃ k : Nat, k ≤ l.length ∧ k' = .int .i64 k ∧ Below Wa.heap.size Wa wr) (fun k' _ => l.length - (intOf k').toNat)
        case atStart => exact ⟨0, Nat.zero_le _, rfl, Below.refl _ _⟩
        case round =>
          obtain ⟨k, hk, rfl, hbk⟩ := hrel
          by_cases hlk : k < l.length
          rotate_left
          · go_wp2
            go_roundw
            case rel => exact ⟨i + 1, by omega, by go_num, b_then hb9a hbk⟩
            case measure => simp [intOf]; omega
          have hxb := emD_get hlk
          obtain ⟨b, hb⟩ : ∃ b, emD l k = b := ⟨_, rfl⟩
          rw [hb] at hxb
          have hbBk := b_then hbBa hbk
          obtain ⟨_, _, hAe, f0, f1, f2, f3⟩ := hr5.em (b_then hb1 hbBk) hxb
          cases hAe
          have HXB := Lib.hid hxb
          clear hb hxb
          obtain ⟨Wb, hWb⟩ : ∃ W : World, W = ((wr.alloc (.cells #[.int .i64 (k : Int)] 3)).alloc (.cells #[.int .i64 (b).node, .int .i64 (b).ch, .int .i64 (b).frm, .int .i64 (b).to] 35)) := ⟨_, rfl⟩; have hbb : Below wr.heap.size wr Wb := (by rw [hWb]; (repeat (first | exact Below.refl _ _ | assumption | apply b_alloc | apply b_drewN | apply b_drew))); have qb : ∀ wq : World, Below Wb.heap.size Wb wq → wq.cell? ⟨wr.heap.size, 0, none⟩ = some (.int .i64 (k : Int)) ∧ wq.cell? ⟨wr.heap.size + 1, 0, none⟩ = some (.int .i64 (b).node) ∧ wq.cell? ⟨wr.heap.size + 1, 1, none⟩ = some (.int .i64 (b).ch) ∧ wq.cell? ⟨wr.heap.size + 1, 2, none⟩ = some (.int .i64 (b).frm) ∧ wq.cell? ⟨wr.heap.size + 1, 3, none⟩ = some (.int .i64 (b).to) := (fun wq hwr => ⟨cell_mono hwr (by rw [hWb]; go_simp), cell_mono hwr (by rw [hWb]; go_simp), cell_mono hwr (by rw [hWb]; go_simp), cell_mono hwr (by rw [hWb]; go_simp), cell_mono hwr (by rw [hWb]; go_simp)⟩); have HWb := Lib.hid hWb; clear hWb
          have hbab := b_then hbk hbb
          obtain ⟨na0, na1, na2, na3⟩ := qa _ hbab
          rw [HWb.out] at na0 na1 na2 na3
          by_cases hik : i = k
          · have g1 : ((i : Int) == (k : Int)) = true := by simp [hik]
            have g2 : (i == k) = true := by simp [hik]
            have HIK := Lib.hid hik
            clear hik
            go_wp2_with fail
            rw [← HWb.out]
            go_roundw
            case rel => exact ⟨k + 1, by omega, by go_num, hbab⟩
            case measure => simp [intOf]; omega
          · have g1 : ((i : Int) == (k : Int)) = false := by simp; omega
            have g2 : (i == k) = false := by simpa using hik
            have HIK := Lib.hid hik
            clear hik
            go_wp2_with fail
            rw [← HWb.out]
            refine (aOverlap a b _).mono ?_
            rintro e11 w11 ⟨rfl, hb11⟩
            have hba11 := b_then hbab hb11
            rcases Bool.eq_false_or_eq_true (overB a b) with ho | ho
            rotate_left
            · rw [ho]
              clear ho
              go_wp2
              go_roundw
              case rel => first | exact ⟨k + 1, by omega, by go_num, hba11⟩ | ((repeat apply Exists.intro); refine ⟨?_, rfl⟩; exact ⟨k + 1, by omega, by go_num, hba11⟩)
              case measure => simp [intOf]; omega
            rw [ho]
            have HO := Lib.hid ho
            clear ho na0 na1 na2 na3 f0 f1 f2 f3
            have h10 := b_then hba hba11
            have h911 := b_then hb9a hba11
            have hgl : ∀ z : Later w11, z.W.cell? ⟨w5.heap.size, 0, none⟩ = some (.slice (some ⟨g, 0, none⟩) l.length cg) := fun z => (HGZ.out _ (b_then h911 z.below)).1
            have hrl1 : ∀ z : Later w11, z.W.cell? ⟨g, i, none⟩ = some (.slice A2 (rcsI s x l i).length c2) := fun z => cell_mono (b_then h10 z.below) HRC.out
            have hrl2 : ∀ z : Later w11, SlV 1 KI z.W (.slice A2 (rcsI s x l i).length c2) (rcsI s x l i) := fun z => HRS.out.mono KI.st (b_then h10 z.below)
            have HR2 := Lib.hid hrl2
            have hnb := no_busy HV.out HXA.out HXB.out HO.out
            have HNB := Lib.hid hnb
            have i0 : (0 : Int) ≤ (i : Int) := by omega
            have i1 : (i : Int) < (l.length : Int) := by omega
            obtain ⟨nb0, nb1, nb2, nb3, nb4⟩ := qb _ hb11; have Lnb0 := Later.cell nb0; have Lnb1 := Later.cell nb1; have Lnb2 := Later.cell nb2; have Lnb3 := Later.cell nb3; have Lnb4 := Later.cell nb4
            obtain ⟨nc0, nc1, nc2, nc3⟩ := qa _ hba11; have Lnc0 := Later.cell nc0; have Lnc1 := Later.cell nc1; have Lnc2 := Later.cell nc2; have Lnc3 := Later.cell nc3
            clear hrl2 hnb
            go_wp2_with fail
            refine wp_region_later (by kernel_rfl) (by kernel_rfl) ?_
            repeat (go_big_quiet_step ((go_at_call 23; exact later_same (xConV (rcsI s x l i) b.node _ _ (HR2.out _) HNB.out))))
            refine wpQuiet_nil ?_
            rintro _ ⟨z, rfl⟩
            have hb12 := z.below
            have hz1 := hgl z
            have hz2 := hrl1 z
            have hz3 := HR2.out z
            generalize z.W = w12 at *
            have hba12 := b_then hba11 hb12
            have hb1112 := b_then hb11 hb12
            have h912 := b_then h911 hb12
            try clear nb0 nb1 nb2 nb3 nb4
            try clear nc0 nc1 nc2 nc3
            clear hgl hrl1 Lnb0 Lnb1 Lnb2 Lnb3 Lnb4 Lnc0 Lnc1 Lnc2 Lnc3
            obtain ⟨pb0, pb1, pb2, pb3, pb4⟩ := qb _ hb1112
            obtain ⟨pa0, pa1, pa2, pa3⟩ := qa _ hba12
            by_cases hch : a.ch = b.ch
            · have g3 : (a.ch == b.ch) = true := by simpa using hch
              have hnn := no_both HV.out HXA.out HXB.out HIK.out HO.out hch
              have hrk := rcs_le s x l k
              have hcl := caContains (gotL s x l l.length) (rcsI s x l k) w5.heap.size wr.heap.size k (rcsI s x l i) (.slice A2 (rcsI s x l i).length c2) w12 (got_at hlk) (by unfold big; omega) hnn hz3 ⟨⟨some ⟨g, 0, none⟩, cg, cs, by rw [got_len]; exact hz1, by rw [got_len]; exact (HGZ.out _ h912).2.1, (HGZ.out _ h912).2.2⟩, pb0⟩
              have HCL := Lib.hid hcl
              clear hch hnn hrk hcl
              go_wp2_with fail
              refine HCL.out.mono ?_
              rintro e13 w13 ⟨rfl, hb13⟩
              go_wp2
              go_roundw
              case rel => first | exact ⟨k + 1, by omega, by go_num, b_then hba12 hb13⟩ | ((repeat apply Exists.intro); refine ⟨?_, rfl⟩; exact ⟨k + 1, by omega, by go_num, b_then hba12 hb13⟩)
              case measure => simp [intOf]; omega
            · have g3 : (a.ch == b.ch) = false := by simpa using hch
              clear hch
              go_wp2
              go_roundw
              case rel => first | exact ⟨k + 1, by omega, by go_num, hba12⟩ | ((repeat apply Exists.intro); refine ⟨?_, rfl⟩; exact ⟨k + 1, by omega, by go_num, hba12⟩)
              case measure => simp [intOf]; omega
end Go.Proofs.Ytpbhoeaadnemhaa
