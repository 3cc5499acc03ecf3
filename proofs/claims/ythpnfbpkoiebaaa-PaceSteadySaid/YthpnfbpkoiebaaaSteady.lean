/- PaceSteady. -/
import Derived.Test.YthpnfbpkoiebaaaBest
namespace Go.Proofs.Ythpnfbpkoiebaaa
open Go.RowKit PaceFl Go.Joins Go.ChangeShapes Go.WideShapes Go.ChangeAt
attribute [local go_sem ↓] Go.wp_at_zero Go.wp_at_succ
attribute [local go_sem] run_store_float

/-- A row of numbers that may be read. -/
def FloatsAt (w : World) (A : Option Addr) (n : Nat) (f : Nat → Nat) : Prop := ∀ k, k < n → ∃ g o, A = some ⟨g, o, none⟩ ∧ g < w.heap.size ∧ w.cell? ⟨g, o + k, none⟩ = some (.float .f64 (f k))
def SumRel (w : World) (f : Nat → Nat) (n : Nat) (bv sv iv : Value) (wr : World) : Prop :=
  ∃ k b, k ≤ n ∧ iv = .int .i64 k ∧ bv = .float .f64 (B f k) ∧ sv = .float .f64 b ∧ Rep (S f k) b ∧ Below w.heap.size w wr
theorem best_yes (f : Nat → Nat) (k b : Nat) (h : Rep (S f (k + 1)) b) (hg : gtB b (B f k) = true) : B f (k + 1) = b := by
  rw [show B f (k + 1) = best1 (S f (k + 1)) (B f k) from rfl, rep_gt h, if_pos hg]
theorem best_no (f : Nat → Nat) (k b : Nat) (h : Rep (S f (k + 1)) b) (hg : gtB b (B f k) = false) : B f (k + 1) = B f k := by
  rw [show B f (k + 1) = best1 (S f (k + 1)) (B f k) from rfl, rep_gt h, if_neg (by rw [hg]; simp)]

set_option maxHeartbeats 1000000 in
theorem steady_any (A : Option Addr) (n c : Nat) (f : Nat → Nat) (w0 w : World) (hn : n ≤ 100) (hA : Hid (FloatsAt w0 A n f)) (hB0 : Below w0.heap.size w0 w) (hs : w0.heap.size ≤ w.heap.size) :
    Calls Try.prog 14 #[.slice A n c] w fun e w' => e = .returned (.float .f64 (B f n)) ∧ Below w.heap.size w w' := by
  go_enter Try.func14, Try.ntmps14
  go_wp2
  go_loopw [3, 4, 9] (fun b s i wr => SumRel w f n b s i wr) (fun _ _ i _ => n - (intOf i).toNat)
  case atStart => exact ⟨0, 0, by omega, rfl, rfl, rfl, rfl, Below.refl _ _⟩
  case round =>
    obtain ⟨k, b, hk, rfl, rfl, rfl, hr, BB⟩ := hrel
    by_cases hkn : k < n
    · obtain ⟨g, o, rfl, hg, hc⟩ := (show FloatsAt w0 A n f from hA) k hkn
      have hc' := (BB.cell (p := ⟨g, o + k, none⟩) (Nat.lt_of_lt_of_le hg hs)).trans ((hB0.cell (p := ⟨g, o + k, none⟩) hg).trans hc)
      have hq := run_sum_all wr b (f k)
      have hr' := Lib.hid (rep_next f k b wr hr)
      have BB' := sumW_below b (f k) BB
      clear hr
      generalize sumV wr b (f k) = b' at *
      generalize sumW wr b (f k) = wr' at *
      cases hgt : gtB b' (B f k)
      · have t := gt_at _ _ _ hgt
        have eb := best_no f k b' hr'.out hgt
        go_wp2
        exact ⟨⟨k + 1, b', by omega, by simp, by rw [eb], rfl, hr'.out, BB'⟩, by simp [intOf]; omega⟩
      · have t := gt_at _ _ _ hgt
        have eb := best_yes f k b' hr'.out hgt
        go_wp2
        exact ⟨⟨k + 1, b', by omega, by simp, by rw [eb], rfl, hr'.out, BB'⟩, by simp [intOf]; omega⟩
    · obtain rfl : k = n := by omega
      go_wp2
      go_ret
      exact ⟨rfl, BB⟩
set_option maxHeartbeats 1000000 in
theorem ref_any (A : Option Addr) (n c : Nat) (f : Nat → Nat) (w0 w : World) (hn : n ≤ 100) (hA : Hid (FloatsAt w0 A n f)) (hB0 : Below w0.heap.size w0 w) (hs : w0.heap.size ≤ w.heap.size) :
    Calls Try.prog 16 #[.slice A n c] w fun e w' => e = .returned (.float .f64 (B f n)) ∧ Below w.heap.size w w' := by
  go_enter Try.func16, Try.ntmps16
  go_wp2
  go_loopw [3, 4, 5] (fun b s i wr => SumRel w f n b s i wr) (fun _ _ i _ => n - (intOf i).toNat)
  case atStart => exact ⟨0, 0, by omega, rfl, rfl, rfl, rfl, Below.refl _ _⟩
  case round =>
    obtain ⟨k, b, hk, rfl, rfl, rfl, hr, BB⟩ := hrel
    by_cases hkn : k < n
    · obtain ⟨g, o, rfl, hg, hc⟩ := (show FloatsAt w0 A n f from hA) k hkn
      have hc' := (BB.cell (p := ⟨g, o + k, none⟩) (Nat.lt_of_lt_of_le hg hs)).trans ((hB0.cell (p := ⟨g, o + k, none⟩) hg).trans hc)
      have hq := run_sum_all wr b (f k)
      have hr' := Lib.hid (rep_next f k b wr hr)
      have BB' := sumW_below b (f k) BB
      clear hr
      generalize sumV wr b (f k) = b' at *
      generalize sumW wr b (f k) = wr' at *
      cases hgt : gtB b' (B f k)
      · have t := gt_at _ _ _ hgt
        have eb := best_no f k b' hr'.out hgt
        go_wp2
        exact ⟨⟨k + 1, b', by omega, by simp, by rw [eb], rfl, hr'.out, BB'⟩, by simp [intOf]; omega⟩
      · have t := gt_at _ _ _ hgt
        have eb := best_yes f k b' hr'.out hgt
        go_wp2
        exact ⟨⟨k + 1, b', by omega, by simp, by rw [eb], rfl, hr'.out, BB'⟩, by simp [intOf]; omega⟩
    · obtain rfl : k = n := by omega
      go_wp2
      go_ret
      exact ⟨rfl, BB⟩

/-- THE LAW's LOOP. -/
def LawRel (w : World) (f : Nat → Nat) (best n : Nat) (sv fv rv iv : Value) (wr : World) : Prop :=
  ∃ k b, k ≤ n ∧ iv = .int .i64 k ∧ sv = .float .f64 b ∧ fv = .bool (F f best k) ∧ rv = .bool (R f k) ∧ Rep (S f k) b ∧ Below w.heap.size w wr
theorem ge_at (x y : Nat) (b : Bool) (h : geB x y = b) : (FloatKind.f64.format.order x y == some .gt || FloatKind.f64.format.order x y == some .eq) = b := by rw [show (FloatKind.f64.format.order x y == some .gt || FloatKind.f64.format.order x y == some .eq) = geB x y from order_ge x y]; exact h
theorem F_step (f : Nat → Nat) (best k b : Nat) (h : Rep (S f (k + 1)) b) : F f best (k + 1) = (F f best k || eqB b best) := by
  rw [show F f best (k + 1) = (F f best k || eqO (S f (k + 1)) best) from rfl, rep_eq h]
theorem R_step (f : Nat → Nat) (k : Nat) (a g i : Bool) (ha : R f k = a) (hg : geB (f k) 0 = g) (hi : gtB (f k) 9218868437227405311 = i) : R f (k + 1) = ((a && g) && !i) := by
  rw [show R f (k + 1) = ((R f k && geB (f k) 0) && !(gtB (f k) 9218868437227405311)) from rfl, ha, hg, hi]

set_option maxRecDepth 100000 in
set_option maxHeartbeats 4000000 in
theorem law_short (A : Addr) (n c : Nat) (f : Nat → Nat) (w : World) (hf : ∀ k, f k < 18446744073709551616) (hn : n ≤ c) (h100 : n ≤ 100) (hA : Hid (FloatsAt w (some A) n f)) : Calls Try.prog 4 #[.slice (some A) n c] w fun e w' => e = .returned (.bool true) ∧ Below w.heap.size w w' := by
  have h' : (n : Int) ≤ 100 := by omega
  go_enter Try.func4, Try.ntmps4
  go_wp2_with fail
  refine (lives_any _).mono ?_
  rintro e w1 ⟨rfl, B1⟩
  have hz := B1.size
  go_wp2_with fail
  refine (steady_any _ _ _ f w _ h100 hA B1 hz).mono ?_
  rintro e w2 ⟨rfl, hb2⟩
  have B2 := B1.trans (hb2.mono hz)
  clear hb2 B1
  have e0 := eq_at (B f n) 0 _ rfl
  have HM := Lib.hid (fun j b hj h => best_max f j n b hj h)
  have HF := Lib.hid (best_found f n)
  have HG := Lib.hid (best_ge f n)
  have HL := Lib.hid (fun b => last_eq f hf n b)
  obtain ⟨best, hbest⟩ : ∃ best, B f n = best := ⟨_, rfl⟩
  have HB := Lib.hid hbest
  rw [hbest] at e0 HM HF HG HL ⊢
  clear hbest
  go_wp2_with fail
  go_loopw [4, 5, 6, 7] (fun s fo ri i wr => LawRel w f best n s fo ri i wr) (fun _ _ _ i _ => n - (intOf i).toNat)
  case atStart => exact ⟨0, 0, by omega, rfl, rfl, rfl, rfl, rfl, B2⟩
  case round =>
    obtain ⟨k, b, hk, rfl, rfl, rfl, rfl, hr, BB⟩ := hrel
    by_cases hkn : k < n
    · obtain ⟨g, o, hAe, hg, hc⟩ := (show FloatsAt w _ n f from hA) k hkn
      cases hAe
      have hc' := (BB.cell (p := ⟨g, o + k, none⟩) hg).trans hc
      have hq := run_sum_all wr b (f k)
      have hr0 := rep_next f k b wr hr
      have BB' := sumW_below b (f k) BB
      have HC := Lib.hid (sumW_cell wr b (f k))
      clear hr
      generalize sumV wr b (f k) = b' at *
      generalize sumW wr b (f k) = wr' at *
      have t1 := gt_at _ _ _ (HM.out (k + 1) b' (by omega) hr0)
      have hr' := Lib.hid hr0
      clear hr0
      obtain ⟨q, hq2⟩ : ∃ q, eqB b' best = q := ⟨_, rfl⟩
      have t2 := eq_at _ _ _ hq2
      have EF := Lib.hid (F_step f best k b' hr'.out)
      rw [hq2] at EF
      clear hq2
      have HR := Lib.hid (fun a g i => R_step f k a g i)
      cases hR : R f k
      · have ER := HR.out false _ _ hR rfl rfl
        rw [Bool.false_and, Bool.false_and] at ER
        cases hF : F f best k
        · skip
          go_wp2_with fail
          exact ⟨⟨k + 1, b', by omega, by simp, rfl, by rw [EF.out]; rw [hF]; rfl, by rw [ER], hr'.out, BB'⟩, by simp [intOf]; omega⟩
        · skip
          go_wp2_with fail
          exact ⟨⟨k + 1, b', by omega, by simp, rfl, by rw [EF.out]; rw [hF]; rfl, by rw [ER], hr'.out, BB'⟩, by simp [intOf]; omega⟩
      · cases hge : geB (f k) 0
        · have ER := HR.out true false _ hR hge rfl
          rw [Bool.and_false, Bool.false_and] at ER
          have t3 := ge_at _ _ _ hge
          cases hF : F f best k
          · skip
            go_wp2_with fail
            exact ⟨⟨k + 1, b', by omega, by simp, rfl, by rw [EF.out]; rw [hF]; rfl, by rw [ER], hr'.out, BB'⟩, by simp [intOf]; omega⟩
          · skip
            go_wp2_with fail
            exact ⟨⟨k + 1, b', by omega, by simp, rfl, by rw [EF.out]; rw [hF]; rfl, by rw [ER], hr'.out, BB'⟩, by simp [intOf]; omega⟩
        · have t3 := ge_at _ _ _ hge
          cases hin : gtB (f k) 9218868437227405311
          · have ER : R f (k + 1) = true := HR.out true true false hR hge hin
            have HI := Lib.hid hin
            clear hin hge
            cases hF : F f best k
            · skip
              go_wp2_with fail
              refine (inf_at (f k) false HI _).mono ?_
              rintro e w6 ⟨rfl, rfl⟩
              go_wp2_with fail
              exact ⟨⟨k + 1, b', by omega, by simp, rfl, by rw [EF.out]; rw [hF]; rfl, by rw [ER], hr'.out, BB'⟩, by simp [intOf]; omega⟩
            · skip
              go_wp2_with fail
              refine (inf_at (f k) false HI _).mono ?_
              rintro e w6 ⟨rfl, rfl⟩
              go_wp2_with fail
              exact ⟨⟨k + 1, b', by omega, by simp, rfl, by rw [EF.out]; rw [hF]; rfl, by rw [ER], hr'.out, BB'⟩, by simp [intOf]; omega⟩
          · have ER : R f (k + 1) = false := HR.out true true true hR hge hin
            have HI := Lib.hid hin
            clear hin hge
            cases hF : F f best k
            · skip
              go_wp2_with fail
              refine (inf_at (f k) true HI _).mono ?_
              rintro e w6 ⟨rfl, rfl⟩
              go_wp2_with fail
              exact ⟨⟨k + 1, b', by omega, by simp, rfl, by rw [EF.out]; rw [hF]; rfl, by rw [ER], hr'.out, BB'⟩, by simp [intOf]; omega⟩
            · skip
              go_wp2_with fail
              refine (inf_at (f k) true HI _).mono ?_
              rintro e w6 ⟨rfl, rfl⟩
              go_wp2_with fail
              exact ⟨⟨k + 1, b', by omega, by simp, rfl, by rw [EF.out]; rw [hF]; rfl, by rw [ER], hr'.out, BB'⟩, by simp [intOf]; omega⟩
    · obtain rfl : n = k := by omega
      have f1 := HF.out
      have f2 := ge_at _ _ _ HG.out
      rw [e0] at f2
      cases hR : R f n
      · go_wp2_with fail
        refine (ref_any _ _ _ f w _ h100 hA BB BB.size).mono ?_
        rintro e w5 ⟨rfl, hb5⟩
        have B5 := BB.trans (hb5.mono BB.size)
        clear hb5
        rw [HB.out]
        go_wp2_with fail
        refine (same_self best _).mono ?_
        rintro e w6 ⟨rfl, rfl⟩
        go_wp2_with fail
        refine (add_nil 4607182418800017408 1 _).mono ?_
        rintro e w7 ⟨rfl, rfl⟩
        go_wp2_with fail
        refine (over_nil 4607182418800017408 1 _).mono ?_
        rintro e w8 ⟨rfl, rfl⟩
        go_wp2_with fail
        refine (wait_nil 4607182418800017408 1 _).mono ?_
        rintro e w9 ⟨rfl, rfl⟩
        go_wp2
        go_ret
        exact ⟨rfl, B5⟩
      · have f3 := eq_at _ _ _ (HL.out b hR hr)
        go_wp2_with fail
        refine (ref_any _ _ _ f w _ h100 hA BB BB.size).mono ?_
        rintro e w5 ⟨rfl, hb5⟩
        have B5 := BB.trans (hb5.mono BB.size)
        clear hb5
        rw [HB.out]
        go_wp2_with fail
        refine (same_self best _).mono ?_
        rintro e w6 ⟨rfl, rfl⟩
        go_wp2_with fail
        refine (add_nil 4607182418800017408 1 _).mono ?_
        rintro e w7 ⟨rfl, rfl⟩
        go_wp2_with fail
        refine (over_nil 4607182418800017408 1 _).mono ?_
        rintro e w8 ⟨rfl, rfl⟩
        go_wp2_with fail
        refine (wait_nil 4607182418800017408 1 _).mono ?_
        rintro e w9 ⟨rfl, rfl⟩
        go_wp2
        go_ret
        exact ⟨rfl, B5⟩

set_option maxRecDepth 100000 in
set_option maxHeartbeats 4000000 in
theorem law_long (A : Addr) (n c : Nat) (f : Nat → Nat) (w : World) (hf : ∀ k, f k < 18446744073709551616) (hn : n ≤ c) (h100 : ¬ n ≤ 100) (hA : Hid (FloatsAt w (some A) 100 f)) : Calls Try.prog 4 #[.slice (some A) n c] w fun e w' => e = .returned (.bool true) ∧ Below w.heap.size w w' := by
  have h' : ¬ (n : Int) ≤ 100 := by omega
  go_enter Try.func4, Try.ntmps4
  go_wp2_with fail
  refine (lives_any _).mono ?_
  rintro e w1 ⟨rfl, B1⟩
  have hz := B1.size
  go_wp2_with fail
  refine (steady_any _ _ _ f w _ (Nat.le_refl _) hA B1 hz).mono ?_
  rintro e w2 ⟨rfl, hb2⟩
  have B2 := B1.trans (hb2.mono hz)
  clear hb2 B1
  have e0 := eq_at (B f 100) 0 _ rfl
  have HM := Lib.hid (fun j b hj h => best_max f j 100 b hj h)
  have HF := Lib.hid (best_found f 100)
  have HG := Lib.hid (best_ge f 100)
  have HL := Lib.hid (fun b => last_eq f hf 100 b)
  obtain ⟨best, hbest⟩ : ∃ best, B f 100 = best := ⟨_, rfl⟩
  have HB := Lib.hid hbest
  rw [hbest] at e0 HM HF HG HL ⊢
  clear hbest
  go_wp2_with fail
  go_loopw [4, 5, 6, 7] (fun s fo ri i wr => LawRel w f best 100 s fo ri i wr) (fun _ _ _ i _ => 100 - (intOf i).toNat)
  case atStart => exact ⟨0, 0, by omega, rfl, rfl, rfl, rfl, rfl, B2⟩
  case round =>
    obtain ⟨k, b, hk, rfl, rfl, rfl, rfl, hr, BB⟩ := hrel
    by_cases hkn : k < 100
    · obtain ⟨g, o, hAe, hg, hc⟩ := (show FloatsAt w _ 100 f from hA) k hkn
      cases hAe
      have hc' := (BB.cell (p := ⟨g, o + k, none⟩) hg).trans hc
      have hq := run_sum_all wr b (f k)
      have hr0 := rep_next f k b wr hr
      have BB' := sumW_below b (f k) BB
      have HC := Lib.hid (sumW_cell wr b (f k))
      clear hr
      generalize sumV wr b (f k) = b' at *
      generalize sumW wr b (f k) = wr' at *
      have t1 := gt_at _ _ _ (HM.out (k + 1) b' (by omega) hr0)
      have hr' := Lib.hid hr0
      clear hr0
      obtain ⟨q, hq2⟩ : ∃ q, eqB b' best = q := ⟨_, rfl⟩
      have t2 := eq_at _ _ _ hq2
      have EF := Lib.hid (F_step f best k b' hr'.out)
      rw [hq2] at EF
      clear hq2
      have HR := Lib.hid (fun a g i => R_step f k a g i)
      cases hR : R f k
      · have ER := HR.out false _ _ hR rfl rfl
        rw [Bool.false_and, Bool.false_and] at ER
        cases hF : F f best k
        · skip
          go_wp2_with fail
          exact ⟨⟨k + 1, b', by omega, by simp, rfl, by rw [EF.out]; rw [hF]; rfl, by rw [ER], hr'.out, BB'⟩, by simp [intOf]; omega⟩
        · skip
          go_wp2_with fail
          exact ⟨⟨k + 1, b', by omega, by simp, rfl, by rw [EF.out]; rw [hF]; rfl, by rw [ER], hr'.out, BB'⟩, by simp [intOf]; omega⟩
      · cases hge : geB (f k) 0
        · have ER := HR.out true false _ hR hge rfl
          rw [Bool.and_false, Bool.false_and] at ER
          have t3 := ge_at _ _ _ hge
          cases hF : F f best k
          · skip
            go_wp2_with fail
            exact ⟨⟨k + 1, b', by omega, by simp, rfl, by rw [EF.out]; rw [hF]; rfl, by rw [ER], hr'.out, BB'⟩, by simp [intOf]; omega⟩
          · skip
            go_wp2_with fail
            exact ⟨⟨k + 1, b', by omega, by simp, rfl, by rw [EF.out]; rw [hF]; rfl, by rw [ER], hr'.out, BB'⟩, by simp [intOf]; omega⟩
        · have t3 := ge_at _ _ _ hge
          cases hin : gtB (f k) 9218868437227405311
          · have ER : R f (k + 1) = true := HR.out true true false hR hge hin
            have HI := Lib.hid hin
            clear hin hge
            cases hF : F f best k
            · skip
              go_wp2_with fail
              refine (inf_at (f k) false HI _).mono ?_
              rintro e w6 ⟨rfl, rfl⟩
              go_wp2_with fail
              exact ⟨⟨k + 1, b', by omega, by simp, rfl, by rw [EF.out]; rw [hF]; rfl, by rw [ER], hr'.out, BB'⟩, by simp [intOf]; omega⟩
            · skip
              go_wp2_with fail
              refine (inf_at (f k) false HI _).mono ?_
              rintro e w6 ⟨rfl, rfl⟩
              go_wp2_with fail
              exact ⟨⟨k + 1, b', by omega, by simp, rfl, by rw [EF.out]; rw [hF]; rfl, by rw [ER], hr'.out, BB'⟩, by simp [intOf]; omega⟩
          · have ER : R f (k + 1) = false := HR.out true true true hR hge hin
            have HI := Lib.hid hin
            clear hin hge
            cases hF : F f best k
            · skip
              go_wp2_with fail
              refine (inf_at (f k) true HI _).mono ?_
              rintro e w6 ⟨rfl, rfl⟩
              go_wp2_with fail
              exact ⟨⟨k + 1, b', by omega, by simp, rfl, by rw [EF.out]; rw [hF]; rfl, by rw [ER], hr'.out, BB'⟩, by simp [intOf]; omega⟩
            · skip
              go_wp2_with fail
              refine (inf_at (f k) true HI _).mono ?_
              rintro e w6 ⟨rfl, rfl⟩
              go_wp2_with fail
              exact ⟨⟨k + 1, b', by omega, by simp, rfl, by rw [EF.out]; rw [hF]; rfl, by rw [ER], hr'.out, BB'⟩, by simp [intOf]; omega⟩
    · obtain rfl : 100 = k := by omega
      have f1 := HF.out
      have f2 := ge_at _ _ _ HG.out
      rw [e0] at f2
      cases hR : R f 100
      · go_wp2_with fail
        refine (ref_any _ _ _ f w _ (Nat.le_refl _) hA BB BB.size).mono ?_
        rintro e w5 ⟨rfl, hb5⟩
        have B5 := BB.trans (hb5.mono BB.size)
        clear hb5
        rw [HB.out]
        go_wp2_with fail
        refine (same_self best _).mono ?_
        rintro e w6 ⟨rfl, rfl⟩
        go_wp2_with fail
        refine (add_nil 4607182418800017408 1 _).mono ?_
        rintro e w7 ⟨rfl, rfl⟩
        go_wp2_with fail
        refine (over_nil 4607182418800017408 1 _).mono ?_
        rintro e w8 ⟨rfl, rfl⟩
        go_wp2_with fail
        refine (wait_nil 4607182418800017408 1 _).mono ?_
        rintro e w9 ⟨rfl, rfl⟩
        go_wp2
        go_ret
        exact ⟨rfl, B5⟩
      · have f3 := eq_at _ _ _ (HL.out b hR hr)
        go_wp2_with fail
        refine (ref_any _ _ _ f w _ (Nat.le_refl _) hA BB BB.size).mono ?_
        rintro e w5 ⟨rfl, hb5⟩
        have B5 := BB.trans (hb5.mono BB.size)
        clear hb5
        rw [HB.out]
        go_wp2_with fail
        refine (same_self best _).mono ?_
        rintro e w6 ⟨rfl, rfl⟩
        go_wp2_with fail
        refine (add_nil 4607182418800017408 1 _).mono ?_
        rintro e w7 ⟨rfl, rfl⟩
        go_wp2_with fail
        refine (over_nil 4607182418800017408 1 _).mono ?_
        rintro e w8 ⟨rfl, rfl⟩
        go_wp2_with fail
        refine (wait_nil 4607182418800017408 1 _).mono ?_
        rintro e w9 ⟨rfl, rfl⟩
        go_wp2
        go_ret
        exact ⟨rfl, B5⟩

set_option maxRecDepth 100000 in
set_option maxHeartbeats 4000000 in
theorem law_none (f : Nat → Nat) (w : World) (hf : ∀ k, f k < 18446744073709551616) (hA : Hid (FloatsAt w none 0 f)) : Calls Try.prog 4 #[.slice none 0 0] w fun e w' => e = .returned (.bool true) ∧ Below w.heap.size w w' := by
  go_enter Try.func4, Try.ntmps4
  go_wp2_with fail
  refine (lives_any _).mono ?_
  rintro e w1 ⟨rfl, B1⟩
  have hz := B1.size
  go_wp2_with fail
  refine (steady_any _ _ _ f w _ (by omega) hA B1 hz).mono ?_
  rintro e w2 ⟨rfl, hb2⟩
  have B2 := B1.trans (hb2.mono hz)
  clear hb2 B1
  have e0 := eq_at (B f 0) 0 _ rfl
  have HM := Lib.hid (fun j b hj h => best_max f j 0 b hj h)
  have HF := Lib.hid (best_found f 0)
  have HG := Lib.hid (best_ge f 0)
  have HL := Lib.hid (fun b => last_eq f hf 0 b)
  obtain ⟨best, hbest⟩ : ∃ best, B f 0 = best := ⟨_, rfl⟩
  have HB := Lib.hid hbest
  rw [hbest] at e0 HM HF HG HL ⊢
  clear hbest
  go_wp2_with fail
  go_loopw [4, 5, 6, 7] (fun s fo ri i wr => LawRel w f best 0 s fo ri i wr) (fun _ _ _ i _ => 0 - (intOf i).toNat)
  case atStart => exact ⟨0, 0, by omega, rfl, rfl, rfl, rfl, rfl, B2⟩
  case round =>
    obtain ⟨k, b, hk, rfl, rfl, rfl, rfl, hr, BB⟩ := hrel
    by_cases hkn : k < 0
    · exact absurd hkn (by omega)
    · obtain rfl : 0 = k := by omega
      have f1 := HF.out
      have f2 := ge_at _ _ _ HG.out
      rw [e0] at f2
      have hR : R f 0 = true := rfl
      · have f3 := eq_at _ _ _ (HL.out b hR hr)
        go_wp2_with fail
        refine (ref_any _ _ _ f w _ (by omega) hA BB BB.size).mono ?_
        rintro e w5 ⟨rfl, hb5⟩
        have B5 := BB.trans (hb5.mono BB.size)
        clear hb5
        rw [HB.out]
        go_wp2_with fail
        refine (same_self best _).mono ?_
        rintro e w6 ⟨rfl, rfl⟩
        go_wp2_with fail
        refine (add_nil 4607182418800017408 1 _).mono ?_
        rintro e w7 ⟨rfl, rfl⟩
        go_wp2_with fail
        refine (over_nil 4607182418800017408 1 _).mono ?_
        rintro e w8 ⟨rfl, rfl⟩
        go_wp2_with fail
        refine (wait_nil 4607182418800017408 1 _).mono ?_
        rintro e w9 ⟨rfl, rfl⟩
        go_wp2
        go_ret
        exact ⟨rfl, B5⟩

theorem law_any (A : Option Addr) (n c : Nat) (f : Nat → Nat) (w : World) (hn : n ≤ c) (hz : A = none → n = 0 ∧ c = 0) (hf : ∀ k, f k < 18446744073709551616) (hA : FloatsAt w A n f) :
    Calls Try.prog 4 #[.slice A n c] w fun e w' => e = .returned (.bool true) ∧ Below w.heap.size w w' := by
  cases A with
  | none => obtain ⟨rfl, rfl⟩ := hz rfl; exact law_none f w hf hA
  | some A =>
    by_cases h : n ≤ 100
    · exact law_short A n c f w hf hn h hA
    · exact law_long A n c f w hf hn h (fun k hk => hA k (by omega))
def bitsOf : Option Value → Nat
  | some (.float _ x) => x
  | _ => 0
theorem floats_of {H : Type} {enc : TypeId × Value → H} {W : World} {base : Nat} {v : Value} {d : DataW H} {p : List MemPlace}
    (hval : Value.okWide Try.prog W .any base 32 v) (h : DataW.Trod enc Try.prog W 0 (fun _ => true) true 32 v d p) : ∃ (A : Option Addr) (n c : Nat) (f : Nat → Nat), v = .slice A n c ∧ n ≤ c ∧ c ≤ maxLen ∧ (A = none → n = 0 ∧ c = 0) ∧ (∀ k, f k < 18446744073709551616) ∧ FloatsAt W A n f := by
  obtain ⟨a0, len, cap, rfl⟩ := okWide_slice Try.underlying32 hval
  obtain ⟨fuel, hf⟩ := h
  rcases DataW.trod_slice Try.underlying32 hf with ⟨hcs, _⟩ | ⟨a, len', cap', elems, rest, m, _, hcs, _, _, hl, hm, hlen, hel, _⟩
  · simp [Value.cells] at hcs
    obtain ⟨rfl, rfl, rfl⟩ := hcs
    exact ⟨none, 0, 0, fun _ => 0, rfl, by omega, Nat.zero_le _, fun _ => ⟨rfl, rfl⟩, fun _ => (by decide : (0 : Nat) < 18446744073709551616), fun k hk => absurd hk (by omega)⟩
  · simp [Value.cells] at hcs
    obtain ⟨rfl, rfl, rfl⟩ := hcs
    have key : ∀ k, k < len → ∃ x : Nat, W.cell? (a.add k) = some (.float .f64 x) ∧ x < 18446744073709551616 := fun k hk => by
      have hk' := hel k hk
      rw [List.getElem?_eq_getElem (by omega), show Try.prog.cellsOf 22 = 1 by kernel_rfl, Nat.mul_one, Option.bind_eq_some_iff] at hk'
      obtain ⟨cs, hcs, hy⟩ := hk'
      obtain ⟨x, e, wx⟩ := trod_float Try.underlying22 hy
      subst e
      exact ⟨x, cell_of_cells?_one hcs, wf64 wx⟩
    refine ⟨some a, _, _, fun k => if k < len then bitsOf (W.cell? (a.add k)) else 0, rfl, hl, hm, fun h => (by cases h), fun k => ?_, fun k hk => ?_⟩
    · show (if k < len then bitsOf (W.cell? (a.add k)) else 0) < _
      split
      · rename_i hk
        obtain ⟨x, hx, hlt⟩ := key k hk
        rw [hx]
        exact hlt
      · omega
    · obtain ⟨x, hx, _⟩ := key k hk
      have e : (if k < len then bitsOf (W.cell? (a.add k)) else 0) = x := by rw [if_pos hk, hx]; rfl
      obtain ⟨x0, hx0, _⟩ := key 0 (by omega)
      obtain ⟨b, off, spot⟩ := a
      have hspot : spot = none := by simpa [Addr.add] using World.cell?_spot hx0
      subst hspot
      refine ⟨b, off, rfl, ?_, ?_⟩
      · simp only [Go.WideShapes.add_plain] at hx
        exact World.block_lt_of_cell? W ⟨b, off + k, none⟩ hx
      · show _ = some (Value.float FloatKind.f64 (if k < len then bitsOf (W.cell? (Addr.add ⟨b, off, none⟩ k)) else 0))
        rw [e]
        simp only [Go.WideShapes.add_plain] at hx
        exact hx

set_option maxRecDepth 100000 in
theorem paceSteady_lifted (os : Os) (started : os.Started) (H : Type) (enc : TypeId × Value → H) :
    ReturnsInHanded {} Try.checked os 4 .any (Rows.paceSteadySpec.pre6 enc Try.prog Try.f4 Rows.paceSteadyRow.domain false) (Rows.paceSteadySpec.post enc Try.prog Try.f4 false true false false) := by
  refine returnsInHanded_of_change (C := Try.checked) Try.own started (by kernel_rfl) Try.func4
    (ChangeSpec.witness6 (enc := enc) (C := Try.checked) false ⟨#[], #[.slice none 0 0], []⟩ 8 (by kernel_rfl) (by kernel_rfl) (by kernel_rfl) (by kernel_rfl)) ?_
  intro W base args ds gs before hval0 hW hcnd _
  have hval : ∀ (j : Nat) t v, Try.f4.params[j]? = some t → args[j]? = some v → Value.okWide Try.prog W .any base t v := hval0
  have hW' := hW
  obtain ⟨p, q, hA0, hV, rfl, hfz, hnd⟩ := hW
  have hA : DataW.TrodAll enc Try.prog W 0 (fun _ => true) true Try.f4.params.toList args.toList ds p := hA0
  have hA1 := hA
  rw [Try.params4] at hA hval
  obtain ⟨v0, d0, rfl, rfl, h0⟩ := trodAll_one hA
  obtain ⟨rfl, rfl⟩ := trodVars_none hV
  obtain ⟨A, n, c, f, rfl, hn, hm, hz, hf, hi⟩ := floats_of (hval 0 32 v0 rfl rfl) h0
  clear hA0 hval0
  simp only [List.append_nil] at hW' hA1
  refine (law_any A n c f W hn hz hf hi).mono fun e W' ⟨he, hb⟩ => ?_
  subst he
  have hts : ∀ t ∈ Try.f4.params.toList, Try.prog.readableRec t = true ∧ t < Try.prog.types.size := by
    rw [Try.params4]
    intro t ht
    simp at ht
    subst ht
    all_goals exact ⟨by kernel_rfl, of_decide_eq_true (by kernel_rfl)⟩
  exact ⟨_, rfl, post_of_below (pa := p) (pv := []) hW' (fun _ _ _ => trodAll_mk1 (shut_bool Try.underlying4 _)) (fun sp hsp => trodAll_below Try.laidOut hb hts hA1 (fun x hx => ⟨hW'.lt x hx, hsp x hx⟩)) (fun _ _ => rfl) (by simp)
    hb (ok_one (by kernel_rfl) rfl (okWide_bool_mk Try.underlying4 _))⟩

theorem paceSteady_holds : Rows.PaceSteadySaid :=
  OpenClaim.holds_of_wide 4 Try.f4 rfl rfl rfl rfl rfl rfl rfl ⟨rfl, rfl, rfl, rfl, rfl⟩ rfl rfl rfl rfl rfl (by kernel_rfl) Try.func4 (by kernel_rfl)
    (of_decide_eq_true (by kernel_rfl)) (by unfold Func.isWrapper; first | (rw [if_pos (by decide +kernel)]; kernel_rfl) | (rw [if_neg (by decide +kernel)]; exact ⟨rfl, rfl⟩))
    (fun os started H enc _ => paceSteady_lifted os started H enc)
#print axioms paceSteady_holds
end Go.Proofs.Ythpnfbpkoiebaaa
