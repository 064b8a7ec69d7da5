/- The law function: blames, the walk. -/
import Derived.Test.YtpbhoeaadnemhaaAirL
namespace Go.Proofs.Ytpbhoeaadnemhaa
open Go.RowKit Go.Shelf
set_option linter.unusedVariables false
set_option linter.unusedSimpArgs false
set_option maxHeartbeats 4000000
set_option maxRecDepth 100000
theorem alone_len (l : List Em) (i : Nat) (node : Int) : ∀ n, (aloneTo l i node n).length ≤ n
  | 0 => Nat.le_refl _
  | n + 1 => by
    have ih := alone_len l i node n
    rw [aloneTo]
    split
    · rw [List.length_append, List.length_singleton]; omega
    · omega
theorem lBlames (s : Site) (x : Spm) (l : List Em) (v : Value) (i node : Int) (w : World) (h : ScnV w v s x l) :
    Calls Try.prog 5 #[v, .int .i64 i, .int .i64 node] w fun e w' => e = .returned (.bool true) ∧ Below w.heap.size w w' := by
  have hu := Try.underlying26
  have hu2 := Try.underlying30
  have hu3 := Try.underlying35
  have hu4 := Try.underlying33
  have hu5 := Try.underlying31
  have hu6 := Try.underlying23
  obtain ⟨A0, c0, A1, c1, A2, c2, A3, c3, A4, c4, A5, c5, rfl, hs, hx, hl⟩ := h
  have hs' := Lib.hid hs
  have hx' := Lib.hid hx
  have hl' := Lib.hid hl
  obtain ⟨_, _, e5, hc5, hm5, hr5⟩ := hl
  cases e5
  unfold big at hm5
  clear hs hx
  obtain ⟨W1, hW1⟩ : ∃ W : World, W = (((w.alloc (.cells #[.slice A0 s.nodes.length c0, .slice A1 s.powers.length c1, .slice A2 s.walls.length c2, .int .i64 s.ex, .int .i64 s.noise, .int .i64 s.thr, .slice A3 x.srcs.length c3, .slice A4 x.fds.length c4, .slice A5 l.length c5] 33)).alloc (.cells #[.int .i64 i] 3)).alloc (.cells #[.int .i64 node] 3)) := ⟨_, rfl⟩; have hb1 : Below w.heap.size w W1 := (by rw [hW1]; (repeat (first | exact Below.refl _ _ | assumption | apply b_alloc | apply b_drewN | apply b_drew))); have q : ∀ wq : World, Below W1.heap.size W1 wq → wq.cell? ⟨w.heap.size, 0, none⟩ = some (.slice A0 s.nodes.length c0) ∧ wq.cell? ⟨w.heap.size, 1, none⟩ = some (.slice A1 s.powers.length c1) ∧ wq.cell? ⟨w.heap.size, 2, none⟩ = some (.slice A2 s.walls.length c2) ∧ wq.cell? ⟨w.heap.size, 3, none⟩ = some (.int .i64 s.ex) ∧ wq.cell? ⟨w.heap.size, 4, none⟩ = some (.int .i64 s.noise) ∧ wq.cell? ⟨w.heap.size, 5, none⟩ = some (.int .i64 s.thr) ∧ wq.cell? ⟨w.heap.size, 6, none⟩ = some (.slice A3 x.srcs.length c3) ∧ wq.cell? ⟨w.heap.size, 7, none⟩ = some (.slice A4 x.fds.length c4) ∧ wq.cell? ⟨w.heap.size, 8, none⟩ = some (.slice A5 l.length c5) ∧ wq.cell? ⟨w.heap.size + 1, 0, none⟩ = some (.int .i64 i) ∧ wq.cell? ⟨w.heap.size + 1 + 1, 0, none⟩ = some (.int .i64 node) := (fun wq hwr => ⟨cell_mono hwr (by rw [hW1]; go_simp), cell_mono hwr (by rw [hW1]; go_simp), cell_mono hwr (by rw [hW1]; go_simp), cell_mono hwr (by rw [hW1]; go_simp), cell_mono hwr (by rw [hW1]; go_simp), cell_mono hwr (by rw [hW1]; go_simp), cell_mono hwr (by rw [hW1]; go_simp), cell_mono hwr (by rw [hW1]; go_simp), cell_mono hwr (by rw [hW1]; go_simp), cell_mono hwr (by rw [hW1]; go_simp), cell_mono hwr (by rw [hW1]; go_simp)⟩); have HW := Lib.hid hW1; clear hW1
  go_enter Try.func5, Try.ntmps5
  go_wp2_with fail
  rw [← HW.out]
  refine (awake _).mono ?_
  rintro e w2 ⟨rfl, hb2⟩
  have hbz2 := b_then hb1 hb2
  obtain ⟨l20, l21, l22, l23, l24, l25, l26, l27, l28, l29, l210⟩ := q _ hb2
  go_wp2_with fail
  refine (lFew s x l _ (hs'.out.mono hbz2) (hx'.out.mono hbz2) (hl'.out.mono KEm.st hbz2)).mono ?_
  rintro e w3 ⟨rfl, hb3⟩
  have hbA3 := b_then hb2 hb3
  have hbz3 := b_then hb1 hbA3
  try clear l20 l21 l22 l23 l24 l25 l26 l27 l28 l29 l210
  obtain ⟨l30, l31, l32, l33, l34, l35, l36, l37, l38, l39, l310⟩ := q _ hbA3
  rcases Bool.eq_false_or_eq_true (fewS s x l) with q1 | q1
  rotate_left
  · rw [q1]
    go_wp2
    go_ret
    exact ⟨rfl, hbz3⟩
  rw [q1]
  have hlen : l.length ≤ 50 := few_len q1
  clear q1
  have ks : ∀ w', Below w3.heap.size w3 w' → (Below w3.heap.size w3 w' ∧ (w'.cell? ⟨w.heap.size, 0, none⟩ = some (.slice A0 s.nodes.length c0) ∧ w'.cell? ⟨w.heap.size, 1, none⟩ = some (.slice A1 s.powers.length c1) ∧ w'.cell? ⟨w.heap.size, 2, none⟩ = some (.slice A2 s.walls.length c2) ∧ w'.cell? ⟨w.heap.size, 3, none⟩ = some (.int .i64 s.ex) ∧ w'.cell? ⟨w.heap.size, 4, none⟩ = some (.int .i64 s.noise) ∧ w'.cell? ⟨w.heap.size, 5, none⟩ = some (.int .i64 s.thr) ∧ w'.cell? ⟨w.heap.size, 6, none⟩ = some (.slice A3 x.srcs.length c3) ∧ w'.cell? ⟨w.heap.size, 7, none⟩ = some (.slice A4 x.fds.length c4) ∧ w'.cell? ⟨w.heap.size, 8, none⟩ = some (.slice A5 l.length c5) ∧ w'.cell? ⟨w.heap.size + 1, 0, none⟩ = some (.int .i64 i) ∧ w'.cell? ⟨w.heap.size + 1 + 1, 0, none⟩ = some (.int .i64 node))) := fun w' h => ⟨h, q _ (b_then hbA3 h)⟩
  have KS := Lib.hid ks
  clear ks
  have hsL : ∀ w', Below w3.heap.size w3 w' → SiteV w' (.agg #[.slice A0 s.nodes.length c0, .slice A1 s.powers.length c1, .slice A2 s.walls.length c2, .int .i64 s.ex, .int .i64 s.noise, .int .i64 s.thr]) s := fun w' h => hs'.out.mono (b_then hbz3 h)
  have hxL : ∀ w', Below w3.heap.size w3 w' → SpmV w' (.agg #[.slice A3 x.srcs.length c3, .slice A4 x.fds.length c4]) x := fun w' h => hx'.out.mono (b_then hbz3 h)
  have hlL : ∀ w', Below w3.heap.size w3 w' → SlV 4 KEm w' (.slice A5 l.length c5) l := fun w' h => hl'.out.mono KEm.st (b_then hbz3 h)
  have HS := Lib.hid hsL
  have HX := Lib.hid hxL
  have HL := Lib.hid hlL
  clear hsL hxL hlL
  go_wp2_with fail
  go_region_held3 (fun w' => Below w3.heap.size w3 w' ∧ (w'.cell? ⟨w.heap.size, 0, none⟩ = some (.slice A0 s.nodes.length c0) ∧ w'.cell? ⟨w.heap.size, 1, none⟩ = some (.slice A1 s.powers.length c1) ∧ w'.cell? ⟨w.heap.size, 2, none⟩ = some (.slice A2 s.walls.length c2) ∧ w'.cell? ⟨w.heap.size, 3, none⟩ = some (.int .i64 s.ex) ∧ w'.cell? ⟨w.heap.size, 4, none⟩ = some (.int .i64 s.noise) ∧ w'.cell? ⟨w.heap.size, 5, none⟩ = some (.int .i64 s.thr) ∧ w'.cell? ⟨w.heap.size, 6, none⟩ = some (.slice A3 x.srcs.length c3) ∧ w'.cell? ⟨w.heap.size, 7, none⟩ = some (.slice A4 x.fds.length c4) ∧ w'.cell? ⟨w.heap.size, 8, none⟩ = some (.slice A5 l.length c5) ∧ w'.cell? ⟨w.heap.size + 1, 0, none⟩ = some (.int .i64 i) ∧ w'.cell? ⟨w.heap.size + 1 + 1, 0, none⟩ = some (.int .i64 node)))
    ((refine KS.out _ ?_; first | with_reducible exact b_drew (Below.refl _ _) | with_reducible exact b_then (And.left (by assumption)) hbq))
    (first
      | (go_at_call 12; refine (cloneS l _ _ (HL.out _ (And.left (by assumption))) (by omega)).mono ?_; rintro e w7 ⟨u, rfl, hcl, hbq⟩; obtain ⟨AC, cC, rfl, _⟩ := id hcl)
      | (go_at_call 18; refine (aDisturbersE (HS.out _ (And.left (by assumption))) (HX.out _ (And.left (by assumption))) hcl).mono ?_; rintro e w4 ⟨AD, cD, rfl, hd, hbq⟩)
      | fail)
  have hbA4 : Below w3.heap.size w3 w4 := And.left (by assumption)
  have hbB4 := b_then hbA3 hbA4
  have hbz4 := b_then hb1 hbB4
  have HD := Lib.hid hd
  clear hd
  try clear l30 l31 l32 l33 l34 l35 l36 l37 l38 l39 l310
  obtain ⟨l40, l41, l42, l43, l44, l45, l46, l47, l48, l49, l410⟩ := q _ hbB4
  by_cases z : chkE s x l i node = 0
  rotate_left
  · have hN : disN s x l i node = [] := by simp [disN, z]
    have g0 : (chkE s x l i node == 0) = false := by simpa using z
    have g1 : (chkE s x l i node != 0) = true := by simpa using z
    rw [hN]
    clear z
    go_wp2
    go_ret
    exact ⟨rfl, hbz4⟩
  obtain ⟨hE, hin, k, hik, hk⟩ := chk_zero z
  have hv := valid_of hE
  have hRc : rcvN s x l i node = recvB s x l k node := by rw [rcvN, if_pos z, hik, Int.toNat_natCast]
  have hDi : disN s x l i node = disI s x l k node := by rw [disN, if_pos z, hik, Int.toNat_natCast]
  have HD2 := HD.out
  rw [hDi] at HD2 ⊢
  have HD3 := Lib.hid HD2
  have HZ := Lib.hid z
  have HRC := Lib.hid hRc
  have HV := Lib.hid hv
  have HIN := Lib.hid hin
  rw [z]
  have j0 : decide (i < 0) = false := by simp; omega
  have j1 : decide ((l.length : Int) ≤ i) = false := by simp; omega
  have j2 : 0 ≤ i := by omega
  have j3 : i < (l.length : Int) := by omega
  have HIK := Lib.hid hik
  clear z hRc hDi HD2 HD hv hE hin hik
  have ks : ∀ w', Below w4.heap.size w4 w' → (Below w4.heap.size w4 w' ∧ (w'.cell? ⟨w.heap.size, 0, none⟩ = some (.slice A0 s.nodes.length c0) ∧ w'.cell? ⟨w.heap.size, 1, none⟩ = some (.slice A1 s.powers.length c1) ∧ w'.cell? ⟨w.heap.size, 2, none⟩ = some (.slice A2 s.walls.length c2) ∧ w'.cell? ⟨w.heap.size, 3, none⟩ = some (.int .i64 s.ex) ∧ w'.cell? ⟨w.heap.size, 4, none⟩ = some (.int .i64 s.noise) ∧ w'.cell? ⟨w.heap.size, 5, none⟩ = some (.int .i64 s.thr) ∧ w'.cell? ⟨w.heap.size, 6, none⟩ = some (.slice A3 x.srcs.length c3) ∧ w'.cell? ⟨w.heap.size, 7, none⟩ = some (.slice A4 x.fds.length c4) ∧ w'.cell? ⟨w.heap.size, 8, none⟩ = some (.slice A5 l.length c5) ∧ w'.cell? ⟨w.heap.size + 1, 0, none⟩ = some (.int .i64 i) ∧ w'.cell? ⟨w.heap.size + 1 + 1, 0, none⟩ = some (.int .i64 node))) := fun w' h => ⟨h, q _ (b_then hbB4 h)⟩
  have KS := Lib.hid ks
  clear ks
  have hsL : ∀ w', Below w4.heap.size w4 w' → SiteV w' (.agg #[.slice A0 s.nodes.length c0, .slice A1 s.powers.length c1, .slice A2 s.walls.length c2, .int .i64 s.ex, .int .i64 s.noise, .int .i64 s.thr]) s := fun w' h => hs'.out.mono (b_then hbz4 h)
  have hxL : ∀ w', Below w4.heap.size w4 w' → SpmV w' (.agg #[.slice A3 x.srcs.length c3, .slice A4 x.fds.length c4]) x := fun w' h => hx'.out.mono (b_then hbz4 h)
  have hlL : ∀ w', Below w4.heap.size w4 w' → SlV 4 KEm w' (.slice A5 l.length c5) l := fun w' h => hl'.out.mono KEm.st (b_then hbz4 h)
  have HS := Lib.hid hsL
  have HX := Lib.hid hxL
  have HL := Lib.hid hlL
  clear hsL hxL hlL
  have hsrt := dis_sorted s x l k node
  have HSRT := Lib.hid hsrt
  have hmem : ∀ y ∈ disI s x l k node, ∃ n : Nat, y = n ∧ n < l.length ∧ cntB (emD l k) k node n (emD l n) = true := fun y hy => dis_mem hy
  have HMEM := Lib.hid hmem
  have hany := dis_any (s := s) (x := x) (l := l) k node
  rw [lost_iff] at hany
  have HANY := Lib.hid hany
  generalize disI s x l k node = ds at *
  clear hsrt hmem hany
  go_wp2_with fail
  go_region_held3 (fun w' => Below w4.heap.size w4 w' ∧ (w'.cell? ⟨w.heap.size, 0, none⟩ = some (.slice A0 s.nodes.length c0) ∧ w'.cell? ⟨w.heap.size, 1, none⟩ = some (.slice A1 s.powers.length c1) ∧ w'.cell? ⟨w.heap.size, 2, none⟩ = some (.slice A2 s.walls.length c2) ∧ w'.cell? ⟨w.heap.size, 3, none⟩ = some (.int .i64 s.ex) ∧ w'.cell? ⟨w.heap.size, 4, none⟩ = some (.int .i64 s.noise) ∧ w'.cell? ⟨w.heap.size, 5, none⟩ = some (.int .i64 s.thr) ∧ w'.cell? ⟨w.heap.size, 6, none⟩ = some (.slice A3 x.srcs.length c3) ∧ w'.cell? ⟨w.heap.size, 7, none⟩ = some (.slice A4 x.fds.length c4) ∧ w'.cell? ⟨w.heap.size, 8, none⟩ = some (.slice A5 l.length c5) ∧ w'.cell? ⟨w.heap.size + 1, 0, none⟩ = some (.int .i64 i) ∧ w'.cell? ⟨w.heap.size + 1 + 1, 0, none⟩ = some (.int .i64 node)))
    ((refine KS.out _ ?_; first | with_reducible exact b_drew (Below.refl _ _) | with_reducible exact b_then (And.left (by assumption)) hbq))
    (first
      | (go_at_call 12; refine (cloneS l _ _ (HL.out _ (And.left (by assumption))) (by omega)).mono ?_; rintro e w7 ⟨u, rfl, hcl, hbq⟩; obtain ⟨AC2, cC2, rfl, _⟩ := id hcl)
      | (go_at_call 17; refine (aReceivedE (HS.out _ (And.left (by assumption))) (HX.out _ (And.left (by assumption))) hcl HZ.out HRC.out).mono ?_; rintro e w5 ⟨rfl, hbq⟩)
      | fail)
  have hbA5 : Below w4.heap.size w4 w5 := And.left (by assumption)
  have hbB5 := b_then hbB4 hbA5
  try clear l40 l41 l42 l43 l44 l45 l46 l47 l48 l49 l410
  obtain ⟨l50, l51, l52, l53, l54, l55, l56, l57, l58, l59, l510⟩ := q _ hbB5
  go_wp2_with fail
  refine (xIsSorted ds _ _ (HD3.out.mono KI.st hbA5) HSRT.out).mono ?_
  rintro e w6 ⟨rfl, hb6⟩
  have hbA6 := b_then hbA5 hb6
  have hbB6 := b_then hbB4 hbA6
  have hbz6 := b_then hb1 hbB6
  try clear l50 l51 l52 l53 l54 l55 l56 l57 l58 l59 l510
  obtain ⟨l60, l61, l62, l63, l64, l65, l66, l67, l68, l69, l610⟩ := q _ hbB6
  go_wp2_with fail
  clear j0 j1
  go_loopw [11, 12, 74] (fun o a i' wr => ∃ (j : Nat) (cs : List Value), j ≤ l.length ∧ i' = .int .i64 j ∧ a = .int .i64 (if k < j then ((aloneTo l k node k).length : Int) else 0) ∧ (∃ A n c, o = .slice A n c) ∧ wr.ownsRow w6.heap.size 35 4 o (aloneTo l k node j).length cs ∧ Flat 4 KEm wr (aloneTo l k node j) cs ∧ Below w6.heap.size w6 wr) (fun _ _ i' _ => l.length - (intOf i').toNat)
  case atStart => exact ⟨0, [], Nat.zero_le _, rfl, rfl, ⟨_, _, _, rfl⟩, own_nil _ _ _ _, Flat.nil _ _ _, Below.refl _ _⟩
  case round =>
    obtain ⟨j, cs, hj, rfl, rfl, ⟨Ao, no, co, rfl⟩, hown, hflat, hbw⟩ := hrel
    have hbBw := b_then hbB6 hbw
    have hno : no = (aloneTo l k node j).length := by obtain ⟨_, _, e⟩ := own_slice hown; cases e; rfl
    subst hno
    by_cases hlt : j < l.length
    · have hx0 := emD_get hlt
      have hal : aloneTo l k node (j + 1) = if decide (j = k) || decide ((emD l j).node = node) then aloneTo l k node j ++ [emD l j] else aloneTo l k node j := rfl
      obtain ⟨e, he⟩ : ∃ e, emD l j = e := ⟨_, rfl⟩
      rw [he] at hx0 hal
      obtain ⟨bl, off, hAe, e0, e1, e2, e3⟩ := hr5.em (b_then hb1 hbBw) hx0
      subst hAe
      have hlen2 := alone_len l k node j
      have hbn : Below wr.heap.size wr (wr.alloc (.cells #[.int .i64 e.node, .int .i64 e.ch, .int .i64 e.frm, .int .i64 e.to] 35)) := b_alloc (Below.refl _ _) _
      have hbX : Below w6.heap.size w6 ((wr.alloc (.cells #[.int .i64 e.node, .int .i64 e.ch, .int .i64 e.frm, .int .i64 e.to] 35)).alloc (.cells #[.int .i64 e.node, .int .i64 e.ch, .int .i64 e.frm, .int .i64 e.to] 35)) := b_then hbw (b_then hbn (b_alloc (Below.refl _ _) _))
      have hownX : ((wr.alloc (.cells #[.int .i64 e.node, .int .i64 e.ch, .int .i64 e.frm, .int .i64 e.to] 35)).alloc (.cells #[.int .i64 e.node, .int .i64 e.ch, .int .i64 e.frm, .int .i64 e.to] 35)).ownsRow w6.heap.size 35 4 (.slice Ao (aloneTo l k node j).length co) (aloneTo l k node j).length cs := own_below hown (b_then hbn (b_alloc (Below.refl _ _) _))
      have hownN : (wr.alloc (.cells #[.int .i64 e.node, .int .i64 e.ch, .int .i64 e.frm, .int .i64 e.to] 35)).ownsRow w6.heap.size 35 4 (.slice Ao (aloneTo l k node j).length co) (aloneTo l k node j).length cs := own_below hown hbn
      have hnews := World.news_of_block (cs := #[.int .i64 e.node, .int .i64 e.ch, .int .i64 e.frm, .int .i64 e.to]) (t := 35) (fr := (0, 0)) (heap_alloc_new (wr.alloc (.cells #[.int .i64 e.node, .int .i64 e.ch, .int .i64 e.frm, .int .i64 e.to] 35)) (.cells #[.int .i64 e.node, .int .i64 e.ch, .int .i64 e.frm, .int .i64 e.to] 35))
      rw [show (wr.alloc (.cells #[.int .i64 e.node, .int .i64 e.ch, .int .i64 e.frm, .int .i64 e.to] 35)).heap.size = wr.heap.size + 1 by simp] at hnews
      have HNW := Lib.hid hnews
      have hbase : w6.heap.size ≤ ((wr.alloc (.cells #[.int .i64 e.node, .int .i64 e.ch, .int .i64 e.frm, .int .i64 e.to] 35)).alloc (.cells #[.int .i64 e.node, .int .i64 e.ch, .int .i64 e.frm, .int .i64 e.to] 35)).heap.size := hbX.size
      have HBX := Lib.hid hbX
      have HOX := Lib.hid hownX
      have HON := Lib.hid hownN
      have HBS := Lib.hid hbase
      have HFL := Lib.hid hflat
      have HAL := Lib.hid hal
      try clear l60 l61 l62 l63 l64 l65 l66 l67 l68 l69 l610
      obtain ⟨m0, m1, m2, m3, m4, m5, m6, m7, m8, m9, m10⟩ := q _ (b_then hbBw hbn)
      clear hbX hownX hownN hbase hnews hflat hown hal hx0
      by_cases q1 : j = k
      · have hji : (j : Int) = i := by rw [HIK.out, q1]
        have g1 : ((j : Int) == i) = true := by simpa using hji
        have hal2 : aloneTo l k node (j + 1) = aloneTo l k node j ++ [e] := by rw [HAL.out, if_pos (by simp [q1])]
        have hat : ((if k < j + 1 then ((aloneTo l k node k).length : Int) else 0)) = ((aloneTo l k node j).length : Int) := by rw [if_pos (by omega), q1]
        have HA2 := Lib.hid hal2
        have HAT := Lib.hid hat
        clear hji hal2 hat q1
        go_wp2_with ((at_builtin; refine append_cells (w0 := w6) w6.heap.size rfl (.tmp 93) (.tmp 95) 31 35 rfl Try.underlying31 infocloneEm rfl (by decide) (.slice Ao (aloneTo l k node j).length co) (aloneTo l k node j).length cs rfl ⟨wr.heap.size + 1, 0, none⟩ 1 1 [.int .i64 e.node, .int .i64 e.ch, .int .i64 e.frm, .int .i64 e.to] rfl rfl HNW.out (by simp [Value.oneCell']) HOX.out HBX.out HBS.out (by unfold maxLen; omega) (by omega) ?_; intro v1 w1' hown1 hb1x hg1 hat1; obtain ⟨A2, c2, rfl⟩ := own_slice hown1))
        go_roundw
        case rel => exact ⟨j + 1, cs ++ [.int .i64 e.node, .int .i64 e.ch, .int .i64 e.frm, .int .i64 e.to], by omega, by go_num, by rw [HAT.out], ⟨_, _, _, rfl⟩, by rw [HA2.out]; simpa using hown1, by rw [HA2.out]; exact Flat.snoc KEm.pl (w := w1') HFL.out rfl, hb1x⟩
        case measure => simp [intOf]; omega
      · have hji : (j : Int) ≠ i := by rw [HIK.out]; omega
        have g1 : ((j : Int) == i) = false := by simpa using hji
        have hat : ((if k < j + 1 then ((aloneTo l k node k).length : Int) else 0)) = (if k < j then ((aloneTo l k node k).length : Int) else 0) := by
          by_cases c : k < j
          · rw [if_pos c, if_pos (by omega)]
          · rw [if_neg c, if_neg (by omega)]
        have HAT := Lib.hid hat
        generalize hATV : (if k < j then ((aloneTo l k node k).length : Int) else 0) = atv at *
        clear hji hat hATV
        by_cases q2 : e.node = node
        · have g2 : (e.node == node) = true := by simpa using q2
          have hal2 : aloneTo l k node (j + 1) = aloneTo l k node j ++ [e] := by rw [HAL.out, if_pos (by simp [q2])]
          have HA2 := Lib.hid hal2
          clear hal2 q1 q2
          go_wp2_with ((at_builtin; refine append_cells (w0 := w6) w6.heap.size rfl (.tmp 93) (.tmp 95) 31 35 rfl Try.underlying31 infocloneEm rfl (by decide) (.slice Ao (aloneTo l k node j).length co) (aloneTo l k node j).length cs rfl ⟨wr.heap.size + 1, 0, none⟩ 1 1 [.int .i64 e.node, .int .i64 e.ch, .int .i64 e.frm, .int .i64 e.to] rfl rfl HNW.out (by simp [Value.oneCell']) HOX.out HBX.out HBS.out (by unfold maxLen; omega) (by omega) ?_; intro v1 w1' hown1 hb1x hg1 hat1; obtain ⟨A2, c2, rfl⟩ := own_slice hown1))
          go_roundw
          case rel => exact ⟨j + 1, cs ++ [.int .i64 e.node, .int .i64 e.ch, .int .i64 e.frm, .int .i64 e.to], by omega, by go_num, by rw [HAT.out], ⟨_, _, _, rfl⟩, by rw [HA2.out]; simpa using hown1, by rw [HA2.out]; exact Flat.snoc KEm.pl (w := w1') HFL.out rfl, hb1x⟩
          case measure => simp [intOf]; omega
        · have g2 : (e.node == node) = false := by simpa using q2
          have hal2 : aloneTo l k node (j + 1) = aloneTo l k node j := by rw [HAL.out, if_neg (by simp [q1, q2])]
          have HA2 := Lib.hid hal2
          clear hal2 q1 q2
          go_wp2
          go_roundw
          case rel => exact ⟨j + 1, cs, by omega, by go_num, by rw [HAT.out], ⟨_, _, _, rfl⟩, by rw [HA2.out]; exact HON.out, by rw [HA2.out]; exact HFL.out, b_then hbw hbn⟩
          case measure => simp [intOf]; omega
    · obtain rfl : j = l.length := by omega
      have hv := HV.out
      have hsub : (aloneTo l k node l.length).Sublist l := by have := alone_sub l k node l.length (Nat.le_refl _); rwa [List.take_length] at this
      have hvL := hv.sub hsub
      have hal := alone_recv hv hk node
      have hat := (List.getElem?_eq_some_iff.1 (alone_at (l := l) (node := node) hk)).1
      have hll := alone_len l k node l.length
      have hsl := own_sl2 KEm.pl hown hflat (by unfold big; omega)
      have hlt2 : k < l.length := hk
      have hAT : (if k < l.length then ((aloneTo l k node k).length : Int) else 0) = ((aloneTo l k node k).length : Int) := if_pos hk
      rw [hAT]
      have hEc : chkE s x (aloneTo l k node l.length) ((aloneTo l k node k).length : Int) node = 0 := by
        rw [chkE, if_pos (valid_is hvL), if_pos]
        rw [Bool.and_eq_true]
        exact ⟨by simp only [ixB, Bool.and_eq_true, decide_eq_true_eq]; omega, HIN.out⟩
      have hRcL : rcvN s x (aloneTo l k node l.length) ((aloneTo l k node k).length : Int) node = (freeB l (emD l k) node && hearB s (sigI s x (emD l k) node) (extI s x (emD l k) node)) := by
        rw [rcvN, if_pos hEc, Int.toNat_natCast, hal]
      have hany := HANY.out
      generalize (freeB l (emD l k) node && hearB s (sigI s x (emD l k) node) (extI s x (emD l k) node)) = wt at *
      generalize recvB s x l k node = gt at *
      have HEC := Lib.hid hEc
      have HRL := Lib.hid hRcL
      have HSL := Lib.hid hsl
      try clear l60 l61 l62 l63 l64 l65 l66 l67 l68 l69 l610
      obtain ⟨m0, m1, m2, m3, m4, m5, m6, m7, m8, m9, m10⟩ := q _ hbBw
      clear hv hsub hvL hal hat hll hsl hEc hRcL hflat hAT hown
      have hbzw := b_then hb1 hbBw
      generalize aloneTo l k node l.length = L at *
      generalize hALN : ((aloneTo l k node k).length : Int) = aln at *
      clear hALN
      go_wp2_with fail
      refine (aReceivedE (hs'.out.mono hbzw) (hx'.out.mono hbzw) HSL.out HEC.out HRL.out).mono ?_
      rintro e8 w8 ⟨rfl, hb8⟩
      have hbB8 := b_then hbBw hb8
      have hbz8 := b_then hb1 hbB8
      try clear m0 m1 m2 m3 m4 m5 m6 m7 m8 m9 m10
      obtain ⟨n0, n1, n2, n3, n4, n5, n6, n7, n8, n9, n10⟩ := q _ hbB8
      have hcl := blContains l k node w.heap.size (w.heap.size + 1) (w.heap.size + 1 + 1) ds (.slice AD ds.length cD) w8 hk HMEM.out (HD3.out.mono KI.st (b_then (b_then hbA6 hbw) hb8)) ⟨⟨A5, c5, n8, hl'.out.mono KEm.st hbz8⟩, by rw [← HIK.out]; exact n9, n10⟩
      have HCL := Lib.hid hcl
      clear hcl
      rcases wt with _ | _ <;> rcases gt with _ | _
      all_goals
        have d1 := hany
        simp only [Bool.false_and, Bool.true_and, Bool.not_false, Bool.not_true] at d1
        have d2 : decide (0 < (ds.length : Int)) = decide (0 < ds.length) := by rw [Bool.eq_iff_iff]; simp
        rw [d1] at d2
        clear hany
        go_wp2_with fail
        refine HCL.out.mono ?_
        rintro e9 w9 ⟨rfl, hb9⟩
        go_wp2
        go_ret
        exact ⟨rfl, b_then hbz8 hb9⟩
end Go.Proofs.Ytpbhoeaadnemhaa
