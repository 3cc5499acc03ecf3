/- PaceHalves. -/
import Derived.Test.YthpnfbpkoiebaaaWaits
namespace Go.Proofs.Ythpnfbpkoiebaaa
open Go.RowKit PaceFl Go.Joins Go.ChangeShapes Go.WideShapes Go.ChangeAt
attribute [local go_sem ↓] Go.wp_at_zero Go.wp_at_succ
attribute [local go_sem] run_store_float

theorem half_bd (z : Int) : 1 ≤ wrap64 (1 + wrap64 ((IntKind.u64.wrap z).tmod 1000)) ∧ wrap64 (1 + wrap64 ((IntKind.u64.wrap z).tmod 1000)) ≤ 1000 := by
  have h : 0 ≤ IntKind.u64.wrap z := by simp only [IntKind.wrap, IntKind.signed, IntKind.bits]; simp; omega
  rw [Int.tmod_eq_emod_of_nonneg h]
  generalize IntKind.u64.wrap z = y at *
  have e1 : wrap64 (y % 1000) = y % 1000 := IntWalk.wrap64_in _ ⟨by omega, by omega⟩
  rw [e1, IntWalk.wrap64_in _ ⟨by omega, by omega⟩]
  omega
theorem sixty_bd (z : Int) : 0 ≤ wrap64 ((IntKind.u64.wrap z).tmod 60) ∧ wrap64 ((IntKind.u64.wrap z).tmod 60) < 60 := by
  have h : 0 ≤ IntKind.u64.wrap z := by simp only [IntKind.wrap, IntKind.signed, IntKind.bits]; simp; omega
  rw [Int.tmod_eq_emod_of_nonneg h]
  generalize IntKind.u64.wrap z = y at *
  rw [IntWalk.wrap64_in _ ⟨by omega, by omega⟩]
  omega
theorem clamp_in (h : Int) (h1 : 1 ≤ h) (h2 : h ≤ 1000) : clampH h = h := by unfold clampH; omega
def LevelF (g : Nat) (r : Nat) (a h t : Int) (r' : Nat) (a' : Int) : Prop :=
  ∀ W : World, PaceAt W g r a h → Calls Try.prog 17 #[.pointer (some ⟨g, 0, none⟩), .int .i64 t] W fun e w' => e = .returned (.float .f64 r') ∧ PaceAt w' g r' a' h ∧ W.grownBy w' (some g)
theorem levelF (g r : Nat) (a h t : Int) (n : Nat) (hs : stepsI a h t = n) : LevelF g r a h t (halves n r) (a + n * h) := fun W hW => by
  have k := level_any g r a h t W hW
  have e : hv r a h t = halves n r := by unfold hv; rw [hs]; rfl
  have e2 : tm a h t = a + n * h := by unfold tm; rw [hs]
  rwa [e, e2] at k
theorem steps_zero (h : Int) (_h1 : 1 ≤ h) : stepsI 0 h 0 = ((0 : Nat) : Int) := by
  unfold stepsI
  rw [show min (max (0 : Int) 0) 1099511627776 - 0 = 0 by omega]
  exact Int.zero_ediv _
theorem addF0 (g X : Nat) (h : Int) (h1 : 1 ≤ h) (hX : X ≤ top) (hp : 0 < X) : AddF g X h 0 X 0 := by
  have k := addF g X h 0 (by unfold top at hX; omega)
  have e1 : addV 0 X = X := by
    unfold addV
    rw [if_pos (by rw [gtB_pos _ _ hX zero_top]; exact decide_eq_true hp), sum_zero X hX]
  rw [e1, steps_zero h h1] at k
  simpa using k

theorem levelS (g r : Nat) (a h t : Int) (n : Nat) (m : Int) (hs : stepsI a h t = n) (hm : a + n * h = m) : LevelF g r a h t (halves n r) m := by
  have k := levelF g r a h t n hs
  rwa [hm] at k
theorem steps_lt (h : Int) (h1 : 1 ≤ h) (h2 : h ≤ 1000) : stepsI 0 h (h - 1) = ((0 : Nat) : Int) := by
  unfold stepsI
  rw [show min (max (h - 1) 0) 1099511627776 - 0 = h - 1 by omega]
  exact Int.ediv_eq_zero_of_lt (by omega) (by omega)
theorem steps_n (h : Int) (n : Nat) (h1 : 1 ≤ h) (h2 : h ≤ 1000) (hn : n ≤ 60) : stepsI 0 h (h * n) = n := by
  unfold stepsI
  have p : 0 ≤ h * (n : Int) := Int.mul_nonneg (by omega) (by omega)
  have p2 : h * (n : Int) ≤ 1000 * 60 := Int.mul_le_mul h2 (by omega) (by omega) (by omega)
  rw [show min (max (h * (n : Int)) 0) 1099511627776 - 0 = h * n by omega]
  exact Int.mul_ediv_cancel_left _ (by omega)
theorem clampH_in' (h : Int) (h1 : 1 ≤ h) (h2 : h ≤ 1000) : clampH h = h := clamp_in h h1 h2
theorem steps_one (h : Int) (h1 : 1 ≤ h) (h2 : h ≤ 1000) : stepsI 0 h h = ((1 : Nat) : Int) := by
  unfold stepsI
  rw [show min (max h 0) 1099511627776 - 0 = h by omega]
  exact Int.ediv_self (by omega)
theorem mul_wrap (h : Int) (n : Nat) (h1 : 1 ≤ h) (h2 : h ≤ 1000) (hn : n ≤ 60) : wrap64 (h * n) = h * n := by
  have p : 0 ≤ h * (n : Int) := Int.mul_nonneg (by omega) (by omega)
  have p2 : h * (n : Int) ≤ 1000 * 60 := Int.mul_le_mul h2 (by omega) (by omega) (by omega)
  exact IntWalk.wrap64_in _ ⟨by omega, by omega⟩

theorem eq_same (x : Nat) (hx : x ≤ top) : eqB x x = true := by rw [eqB_pos x x hx hx]; exact decide_eq_true rfl
def HalfRel (X n : Nat) (wv i : Value) : Prop := ∃ k : Nat, k ≤ n ∧ wv = .float .f64 (halves k X) ∧ i = .int .i64 k
set_option maxRecDepth 100000 in
set_option maxHeartbeats 4000000 in
theorem halves_core (z1 z2 : Int) (x X : Nat) (w : World) (hX : X ≤ top) (hp : 0 < X)
    (hx : (X = 4607182418800017408 ∧ gtB x 0 = false) ∨ (X = 4607182418800017408 ∧ gtB x 0 = true ∧ gtB x 9218868437227405311 = true) ∨ (X = x ∧ gtB x 0 = true ∧ gtB x 9218868437227405311 = false)) :
    Calls Try.prog 6 #[.int .i64 z1, .int .i64 z2, .float .f64 x] w fun e w' => e = .returned (.bool true) ∧ Below w.heap.size w w' := by
  obtain ⟨H0, H1⟩ := half_bd z1
  obtain ⟨N0, N1⟩ := sixty_bd z2
  rcases hx with ⟨e1, hc⟩ | ⟨e1, hc, hd⟩ | ⟨e1, hc, hd⟩
  · have t1 : (FloatKind.f64.format.order x 0 == some .gt) = false := by rw [f64_gt]; exact hc
    have HX := Lib.hid e1
    clear e1 hc
    go_enter Try.func6, Try.ntmps6
    go_wp2_with fail
    refine (lives_any _).mono ?_
    rintro e w1 ⟨rfl, B1⟩
    go_wp2_with fail
    generalize wrap64 (1 + wrap64 ((IntKind.u64.wrap z1).tmod 1000)) = h at *
    generalize wrap64 ((IntKind.u64.wrap z2).tmod 60) = n' at *
    obtain ⟨n, rfl⟩ := Int.eq_ofNat_of_zero_le N0
    rw [← HX.out]
    refine (new_any h _).mono ?_
    rintro e w2 ⟨rfl, rfl⟩
    go_wp2_with fail
    refine (new_any h _).mono ?_
    rintro e w2 ⟨rfl, rfl⟩
    have q0 := pace_new w1 h
    have q1 := pace_new (w1.alloc (.cells (paceCells 0 0 (clampH h)) 48)) h
    simp only [World.size_alloc] at q1
    have hz : w.heap.size ≤ w1.heap.size := B1.size
    have B2 : Below w.heap.size w ((w1.alloc (.cells (paceCells 0 0 (clampH h)) 48)).alloc (.cells (paceCells 0 0 (clampH h)) 48)) := (B1.alloc B1.size _).alloc (by simp; omega) _
    have P0 := pace_alloc q0 (.cells (paceCells 0 0 (clampH h)) 48)
    have P1 := q1
    clear q0 q1 B1
    rw [clampH_in' h H0 H1] at P0 P1 B2 ⊢
    have HA := fun g => Lib.hid (addF0 g X h H0 hX hp)
    have HL1 : Hid (LevelF (w1.heap.size + 1) X 0 h (h - 1) X 0) := Lib.hid (levelS (w1.heap.size + 1) X 0 h (h - 1) 0 0 (steps_lt h H0 H1) (by simp))
    have HL2 := Lib.hid (levelS w1.heap.size X 0 h (h * n) n _ (steps_n h n H0 H1 (by omega)) rfl)
    have HL3 : Hid (LevelF (w1.heap.size + 1) X 0 h h (half X) h) := Lib.hid (levelS (w1.heap.size + 1) X 0 h h 1 h (steps_one h H0 H1) (by simp))
    go_wp2_with fail
    refine ((HA _).out _ P0).mono ?_
    rintro e w3 ⟨rfl, P0', g3⟩
    have Q1 := pace_keep (w' := w3) P1 g3 (by omega)
    have B3 := below_grown B2 g3 (by omega)
    clear P0 P1 g3 B2
    go_wp2_with fail
    refine ((HA _).out _ Q1).mono ?_
    rintro e w4 ⟨rfl, Q1', g4⟩
    have R0 := pace_keep P0' g4 (by omega)
    have B4 := below_grown B3 g4 (by omega)
    clear P0' Q1 g4 B3 HA
    have hmw := mul_wrap h n H0 H1 (by omega)
    have E1 := eq_at (halves n X) (halves n X) true (eq_same _ (halves_top n X hX))
    have E2 := eq_at X X true (eq_same _ hX)
    have E3 := eq_at (half X) (half X) true (eq_same _ (halves_top 1 X hX))
    have HH := run_half X hX
    go_wp2_with fail
    go_loop [9, 10] (fun a i => HalfRel X n a i) (fun _ i => n - (intOf i).toNat)
    case atStart => exact ⟨0, by omega, rfl, rfl⟩
    case round =>
      obtain ⟨k, hk, rfl, rfl⟩ := hrel
      by_cases hkn : k < n
      · have hq := run_half (halves k X) (halves_top k X hX)
        go_wp2_with fail
        refine ⟨⟨k + 1, by omega, by rw [halves_succ], by simp⟩, by simp [intOf]; omega⟩
      · obtain rfl : k = n := by omega
        go_wp2_with fail
        refine (HL1.out _ Q1').mono ?_
        rintro e w5 ⟨rfl, U1, g5⟩
        have U0 := pace_keep R0 g5 (by omega)
        have B5 := below_grown B4 g5 (by omega)
        clear Q1' R0 g5 B4 HL1
        go_wp2_with fail
        refine (HL2.out _ U0).mono ?_
        rintro e w6 ⟨rfl, V0, g6⟩
        have V1 := pace_keep U1 g6 (by omega)
        have B6 := below_grown B5 g6 (by omega)
        clear U1 U0 g6 B5 HL2
        go_wp2_with fail
        refine (HL3.out _ V1).mono ?_
        rintro e w7 ⟨rfl, V2, g7⟩
        have B7 := below_grown B6 g7 (by omega)
        clear V1 g7 B6 HL3 V0
        go_wp2
        go_ret
        exact ⟨rfl, B7⟩
  · have t1 : (FloatKind.f64.format.order x 0 == some .gt) = true := by rw [f64_gt]; exact hc
    have HX := Lib.hid e1
    have HD := Lib.hid hd
    clear e1 hc hd
    go_enter Try.func6, Try.ntmps6
    go_wp2_with fail
    refine (lives_any _).mono ?_
    rintro e w1 ⟨rfl, B1⟩
    go_wp2_with fail
    generalize wrap64 (1 + wrap64 ((IntKind.u64.wrap z1).tmod 1000)) = h at *
    generalize wrap64 ((IntKind.u64.wrap z2).tmod 60) = n' at *
    obtain ⟨n, rfl⟩ := Int.eq_ofNat_of_zero_le N0
    refine (inf_at x true HD _).mono ?_
    rintro e w2 ⟨rfl, rfl⟩
    go_wp2_with fail
    rw [← HX.out]
    refine (new_any h _).mono ?_
    rintro e w2 ⟨rfl, rfl⟩
    go_wp2_with fail
    refine (new_any h _).mono ?_
    rintro e w2 ⟨rfl, rfl⟩
    have q0 := pace_new w1 h
    have q1 := pace_new (w1.alloc (.cells (paceCells 0 0 (clampH h)) 48)) h
    simp only [World.size_alloc] at q1
    have hz : w.heap.size ≤ w1.heap.size := B1.size
    have B2 : Below w.heap.size w ((w1.alloc (.cells (paceCells 0 0 (clampH h)) 48)).alloc (.cells (paceCells 0 0 (clampH h)) 48)) := (B1.alloc B1.size _).alloc (by simp; omega) _
    have P0 := pace_alloc q0 (.cells (paceCells 0 0 (clampH h)) 48)
    have P1 := q1
    clear q0 q1 B1
    rw [clampH_in' h H0 H1] at P0 P1 B2 ⊢
    have HA := fun g => Lib.hid (addF0 g X h H0 hX hp)
    have HL1 : Hid (LevelF (w1.heap.size + 1) X 0 h (h - 1) X 0) := Lib.hid (levelS (w1.heap.size + 1) X 0 h (h - 1) 0 0 (steps_lt h H0 H1) (by simp))
    have HL2 := Lib.hid (levelS w1.heap.size X 0 h (h * n) n _ (steps_n h n H0 H1 (by omega)) rfl)
    have HL3 : Hid (LevelF (w1.heap.size + 1) X 0 h h (half X) h) := Lib.hid (levelS (w1.heap.size + 1) X 0 h h 1 h (steps_one h H0 H1) (by simp))
    go_wp2_with fail
    refine ((HA _).out _ P0).mono ?_
    rintro e w3 ⟨rfl, P0', g3⟩
    have Q1 := pace_keep (w' := w3) P1 g3 (by omega)
    have B3 := below_grown B2 g3 (by omega)
    clear P0 P1 g3 B2
    go_wp2_with fail
    refine ((HA _).out _ Q1).mono ?_
    rintro e w4 ⟨rfl, Q1', g4⟩
    have R0 := pace_keep P0' g4 (by omega)
    have B4 := below_grown B3 g4 (by omega)
    clear P0' Q1 g4 B3 HA
    have hmw := mul_wrap h n H0 H1 (by omega)
    have E1 := eq_at (halves n X) (halves n X) true (eq_same _ (halves_top n X hX))
    have E2 := eq_at X X true (eq_same _ hX)
    have E3 := eq_at (half X) (half X) true (eq_same _ (halves_top 1 X hX))
    have HH := run_half X hX
    go_wp2_with fail
    go_loop [9, 10] (fun a i => HalfRel X n a i) (fun _ i => n - (intOf i).toNat)
    case atStart => exact ⟨0, by omega, rfl, rfl⟩
    case round =>
      obtain ⟨k, hk, rfl, rfl⟩ := hrel
      by_cases hkn : k < n
      · have hq := run_half (halves k X) (halves_top k X hX)
        go_wp2_with fail
        refine ⟨⟨k + 1, by omega, by rw [halves_succ], by simp⟩, by simp [intOf]; omega⟩
      · obtain rfl : k = n := by omega
        go_wp2_with fail
        refine (HL1.out _ Q1').mono ?_
        rintro e w5 ⟨rfl, U1, g5⟩
        have U0 := pace_keep R0 g5 (by omega)
        have B5 := below_grown B4 g5 (by omega)
        clear Q1' R0 g5 B4 HL1
        go_wp2_with fail
        refine (HL2.out _ U0).mono ?_
        rintro e w6 ⟨rfl, V0, g6⟩
        have V1 := pace_keep U1 g6 (by omega)
        have B6 := below_grown B5 g6 (by omega)
        clear U1 U0 g6 B5 HL2
        go_wp2_with fail
        refine (HL3.out _ V1).mono ?_
        rintro e w7 ⟨rfl, V2, g7⟩
        have B7 := below_grown B6 g7 (by omega)
        clear V1 g7 B6 HL3 V0
        go_wp2
        go_ret
        exact ⟨rfl, B7⟩
  · subst e1
    have t1 : (FloatKind.f64.format.order X 0 == some .gt) = true := by rw [f64_gt]; exact hc
    have HD := Lib.hid hd
    clear hc hd
    go_enter Try.func6, Try.ntmps6
    go_wp2_with fail
    refine (lives_any _).mono ?_
    rintro e w1 ⟨rfl, B1⟩
    go_wp2_with fail
    generalize wrap64 (1 + wrap64 ((IntKind.u64.wrap z1).tmod 1000)) = h at *
    generalize wrap64 ((IntKind.u64.wrap z2).tmod 60) = n' at *
    obtain ⟨n, rfl⟩ := Int.eq_ofNat_of_zero_le N0
    refine (inf_at X false HD _).mono ?_
    rintro e w2 ⟨rfl, rfl⟩
    go_wp2_with fail

    refine (new_any h _).mono ?_
    rintro e w2 ⟨rfl, rfl⟩
    go_wp2_with fail
    refine (new_any h _).mono ?_
    rintro e w2 ⟨rfl, rfl⟩
    have q0 := pace_new w1 h
    have q1 := pace_new (w1.alloc (.cells (paceCells 0 0 (clampH h)) 48)) h
    simp only [World.size_alloc] at q1
    have hz : w.heap.size ≤ w1.heap.size := B1.size
    have B2 : Below w.heap.size w ((w1.alloc (.cells (paceCells 0 0 (clampH h)) 48)).alloc (.cells (paceCells 0 0 (clampH h)) 48)) := (B1.alloc B1.size _).alloc (by simp; omega) _
    have P0 := pace_alloc q0 (.cells (paceCells 0 0 (clampH h)) 48)
    have P1 := q1
    clear q0 q1 B1
    rw [clampH_in' h H0 H1] at P0 P1 B2 ⊢
    have HA := fun g => Lib.hid (addF0 g X h H0 hX hp)
    have HL1 : Hid (LevelF (w1.heap.size + 1) X 0 h (h - 1) X 0) := Lib.hid (levelS (w1.heap.size + 1) X 0 h (h - 1) 0 0 (steps_lt h H0 H1) (by simp))
    have HL2 := Lib.hid (levelS w1.heap.size X 0 h (h * n) n _ (steps_n h n H0 H1 (by omega)) rfl)
    have HL3 : Hid (LevelF (w1.heap.size + 1) X 0 h h (half X) h) := Lib.hid (levelS (w1.heap.size + 1) X 0 h h 1 h (steps_one h H0 H1) (by simp))
    go_wp2_with fail
    refine ((HA _).out _ P0).mono ?_
    rintro e w3 ⟨rfl, P0', g3⟩
    have Q1 := pace_keep (w' := w3) P1 g3 (by omega)
    have B3 := below_grown B2 g3 (by omega)
    clear P0 P1 g3 B2
    go_wp2_with fail
    refine ((HA _).out _ Q1).mono ?_
    rintro e w4 ⟨rfl, Q1', g4⟩
    have R0 := pace_keep P0' g4 (by omega)
    have B4 := below_grown B3 g4 (by omega)
    clear P0' Q1 g4 B3 HA
    have hmw := mul_wrap h n H0 H1 (by omega)
    have E1 := eq_at (halves n X) (halves n X) true (eq_same _ (halves_top n X hX))
    have E2 := eq_at X X true (eq_same _ hX)
    have E3 := eq_at (half X) (half X) true (eq_same _ (halves_top 1 X hX))
    have HH := run_half X hX
    go_wp2_with fail
    go_loop [9, 10] (fun a i => HalfRel X n a i) (fun _ i => n - (intOf i).toNat)
    case atStart => exact ⟨0, by omega, rfl, rfl⟩
    case round =>
      obtain ⟨k, hk, rfl, rfl⟩ := hrel
      by_cases hkn : k < n
      · have hq := run_half (halves k X) (halves_top k X hX)
        go_wp2_with fail
        refine ⟨⟨k + 1, by omega, by rw [halves_succ], by simp⟩, by simp [intOf]; omega⟩
      · obtain rfl : k = n := by omega
        go_wp2_with fail
        refine (HL1.out _ Q1').mono ?_
        rintro e w5 ⟨rfl, U1, g5⟩
        have U0 := pace_keep R0 g5 (by omega)
        have B5 := below_grown B4 g5 (by omega)
        clear Q1' R0 g5 B4 HL1
        go_wp2_with fail
        refine (HL2.out _ U0).mono ?_
        rintro e w6 ⟨rfl, V0, g6⟩
        have V1 := pace_keep U1 g6 (by omega)
        have B6 := below_grown B5 g6 (by omega)
        clear U1 U0 g6 B5 HL2
        go_wp2_with fail
        refine (HL3.out _ V1).mono ?_
        rintro e w7 ⟨rfl, V2, g7⟩
        have B7 := below_grown B6 g7 (by omega)
        clear V1 g7 B6 HL3 V0
        go_wp2
        go_ret
        exact ⟨rfl, B7⟩

theorem halves_any (z1 z2 : Int) (x : Nat) (w : World) (hx : x < 18446744073709551616) :
    Calls Try.prog 6 #[.int .i64 z1, .int .i64 z2, .float .f64 x] w fun e w' => e = .returned (.bool true) ∧ Below w.heap.size w w' := by
  cases hc : gtB x 0
  · exact halves_core z1 z2 x 4607182418800017408 w (by decide) (by decide) (.inl ⟨rfl, hc⟩)
  · obtain ⟨k1, k2⟩ := gt_zero x hx hc
    cases hd : gtB x 9218868437227405311
    · exact halves_core z1 z2 x x w k1 k2 (.inr (.inr ⟨rfl, hc, hd⟩))
    · exact halves_core z1 z2 x 4607182418800017408 w (by decide) (by decide) (.inr (.inl ⟨rfl, hc, hd⟩))

set_option maxRecDepth 100000 in
theorem paceHalves_lifted (os : Os) (started : os.Started) (H : Type) (enc : TypeId × Value → H) :
    ReturnsInHanded {} Try.checked os 6 .any (Rows.paceHalvesSpec.pre6 enc Try.prog Try.f6 Rows.paceHalvesRow.domain false) (Rows.paceHalvesSpec.post enc Try.prog Try.f6 false true false false) := by
  refine returnsInHanded_of_change (C := Try.checked) Try.own started (by kernel_rfl) Try.func6
    (ChangeSpec.witness6 (enc := enc) (C := Try.checked) false ⟨#[], #[.int .i64 0, .int .i64 0, .float .f64 0], []⟩ 8 (by kernel_rfl) (by kernel_rfl) (by kernel_rfl) (by kernel_rfl)) ?_
  intro W base args ds gs before hval0 hW hcnd _
  have hval : ∀ (j : Nat) t v, Try.f6.params[j]? = some t → args[j]? = some v → Value.okWide Try.prog W .any base t v := hval0
  have hW' := hW
  obtain ⟨p, q, hA0, hV, rfl, hfz, hnd⟩ := hW
  have hA : DataW.TrodAll enc Try.prog W 0 (fun _ => true) true Try.f6.params.toList args.toList ds p := hA0
  have hA1 := hA
  rw [Try.params6] at hA hval
  obtain ⟨v0, v1, v2, d0, d1, d2, p0, p1, p2, rfl, rfl, rfl, h0, h1, h2⟩ := trodAll_three hA
  obtain ⟨rfl, rfl⟩ := trodVars_none hV
  obtain ⟨half, rfl, rfl, rfl, wh⟩ := open_int Try.underlying3 (hval 0 3 v0 rfl rfl) h0
  obtain ⟨now, rfl, rfl, rfl, wn⟩ := open_int Try.underlying3 (hval 1 3 v1 rfl rfl) h1
  obtain ⟨x, rfl, rfl, rfl, wx⟩ := open_float Try.underlying22 (hval 2 22 v2 rfl rfl) h2
  have hx := wf64 wx
  clear hA0 hval0
  simp only [List.append_nil] at hW' hA1
  refine (halves_any half now x W hx).mono fun e W' ⟨he, hb⟩ => ?_
  subst he
  have hts : ∀ t ∈ Try.f6.params.toList, Try.prog.readableRec t = true ∧ t < Try.prog.types.size := by
    rw [Try.params6]
    intro t ht
    simp at ht
    rcases ht with rfl | rfl
    all_goals exact ⟨by kernel_rfl, of_decide_eq_true (by kernel_rfl)⟩
  exact ⟨_, rfl, post_of_below (pa := []) (pv := []) hW' (fun _ _ _ => trodAll_mk1 (shut_bool Try.underlying4 _)) (fun sp hsp => trodAll_below Try.laidOut hb hts hA1 (fun x hx => ⟨hW'.lt x hx, hsp x hx⟩)) (fun _ _ => rfl) (by simp)
    hb (ok_one (by kernel_rfl) rfl (okWide_bool_mk Try.underlying4 _))⟩

theorem paceHalves_holds : Rows.PaceHalvesSaid :=
  OpenClaim.holds_of_wide 6 Try.f6 rfl rfl rfl rfl rfl rfl rfl ⟨rfl, rfl, rfl, rfl, rfl⟩ rfl rfl rfl rfl rfl (by kernel_rfl) Try.func6 (by kernel_rfl)
    (of_decide_eq_true (by kernel_rfl)) (by unfold Func.isWrapper; first | (rw [if_pos (by decide +kernel)]; kernel_rfl) | (rw [if_neg (by decide +kernel)]; exact ⟨rfl, rfl⟩))
    (fun os started H enc _ => paceHalves_lifted os started H enc)
#print axioms paceHalves_holds
end Go.Proofs.Ythpnfbpkoiebaaa
