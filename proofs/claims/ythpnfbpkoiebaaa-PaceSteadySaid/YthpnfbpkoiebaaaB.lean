/- pace.Add, Level, Over, Wait, as plain functions of the level's bits, its time and its half. -/
import Derived.Test.YthpnfbpkoiebaaaA
namespace Go.Proofs.Ythpnfbpkoiebaaa
open Go.RowKit PaceFl
attribute [local go_sem ↓] Go.wp_at_zero Go.wp_at_succ
attribute [local go_sem] run_store_float

/-- The time behind so many halves does not pass the end. -/
theorem steps_at (a h now : Int) (ha : 0 ≤ a) (ha1 : a ≤ 1099511627776) (hh : 1 ≤ h) : 0 ≤ a + stepsI a h now * h ∧ a + stepsI a h now * h ≤ 1099511627776 ∧ 0 ≤ stepsI a h now := by
  have p : 0 ≤ stepsI a h now := Int.ediv_nonneg (by omega) (by omega)
  have q : stepsI a h now * h ≤ min (max now a) 1099511627776 - a := Int.ediv_mul_le _ (by omega)
  have p' : 0 ≤ stepsI a h now * h := Int.mul_nonneg p (by omega)
  omega
/-- The level behind more. -/
def addV (r x : Nat) : Nat := if gtB x 0 then sum r x else r
/-- A word that is above 0 is a rung. -/
theorem gt_zero (x : Nat) (hx : x < 18446744073709551616) (h : gtB x 0 = true) : x ≤ top ∧ 0 < x := by
  have h' : ¬ isNaN x ∧ ¬ isNaN 0 ∧ key 0 < key x := of_decide_eq_true h
  obtain ⟨h1, _, h3⟩ := h'
  have k0 : key 0 = 0 := by decide
  rw [k0] at h3
  unfold key at h3
  cases hn : neg x
  · rw [hn] at h3
    simp at h3
    have hq : x / 9223372036854775808 = 0 := by
      have : x / 9223372036854775808 < 2 := by omega
      have hne : ¬ x / 9223372036854775808 % 2 = 1 := by
        intro e; unfold neg at hn; rw [e] at hn; cases hn
      omega
    have hr : rung x = x := by unfold rung; omega
    have h1' : ¬ top < rung x := h1
    rw [hr] at h1' h3
    omega
  · rw [hn] at h3
    simp at h3
    omega
theorem addV_top (r x : Nat) (hr : r ≤ top) : addV r x ≤ top := by
  unfold addV; split
  · exact sum_top r x
  · exact hr

/-- The pace behind a step. -/
def lvl (r : Nat) (a h now : Int) (x : Nat) : Nat := addV (halves (stepsI a h now).toNat r) x
theorem lvl_top (r : Nat) (a h now : Int) (x : Nat) (hr : r ≤ top) : lvl r a h now x ≤ top := addV_top _ _ (halves_top _ _ hr)

theorem lvl_no (r : Nat) (a h now : Int) (x : Nat) (hg : gtB x 0 = false) : lvl r a h now x = halves (stepsI a h now).toNat r := by
  unfold lvl addV
  exact if_neg (by rw [hg]; simp)
theorem lvl_yes (r : Nat) (a h now : Int) (x : Nat) (hg : gtB x 0 = true) : lvl r a h now x = sum (halves (stepsI a h now).toNat r) x := by
  unfold lvl addV
  exact if_pos hg
theorem run_sum (r x : Nat) (hr : r ≤ top) (hx : x ≤ top) (W : World) : (binOp .add 22 (.float .f64 r) (.float .f64 x)).run Try.prog W = .ok (.float .f64 (sum r x)) W :=
  run_float_arith (P := Try.prog) W .add 22 .f64 r x (sum r x) (add_pos r x hr hx)
theorem ret_float {k : FloatKind} {a b : Nat} (h : a = b) : Ending.returned (.float k a) = .returned (.float k b) := by rw [h]
def GoOn (g : Nat) (now : Int) (r : Nat) (a : Int) (h : Int) (r' : Nat) (a' : Int) : Prop :=
  ∀ w : World, Blk w g 48 #[.float .f64 r, .int .i64 a, .int .i64 h] → Calls Try.prog 21 #[.pointer (some ⟨g, 0, none⟩), .int .i64 now] w fun e w' => e = .returned (.tuple #[]) ∧ Blk w' g 48 #[.float .f64 r', .int .i64 a', .int .i64 h] ∧ w.grownBy w' (some g)

set_option maxHeartbeats 400000 in
theorem add_no (g : Nat) (r x : Nat) (a h now : Int) (r' : Nat) (a' : Int) (w : World) (hb : Blk w g 48 #[.float .f64 r, .int .i64 a, .int .i64 h]) (HG : Hid (GoOn g now r a h r' a')) (t : (FloatKind.f64.format.order x 0 == some .gt) = false) :
    Calls Try.prog 10 #[.pointer (some ⟨g, 0, none⟩), .float .f64 x, .int .i64 now] w fun e w' => e = .returned (.float .f64 r') ∧ Blk w' g 48 #[.float .f64 r', .int .i64 a', .int .i64 h] ∧ w.grownBy w' (some g) := by
  go_enter Try.func10, Try.ntmps10
  go_wp2_with fail
  refine (HG.out _ hb).mono ?_
  rintro e w1 ⟨rfl, hb1, hg1⟩
  have c0 := hb1.cell 0
  simp only [List.getElem?_toArray, List.getElem?_cons_zero] at c0
  go_wp2
  go_ret
  exact ⟨rfl, hb1, hg1⟩
set_option maxHeartbeats 400000 in
theorem add_yes (g : Nat) (r x : Nat) (a h now : Int) (r' : Nat) (a' : Int) (s : Nat) (w : World) (hb : Blk w g 48 #[.float .f64 r, .int .i64 a, .int .i64 h]) (HG : Hid (GoOn g now r a h r' a')) (t : (FloatKind.f64.format.order x 0 == some .gt) = true)
    (hs : ∀ W : World, (binOp .add 22 (.float .f64 r') (.float .f64 x)).run Try.prog W = .ok (.float .f64 s) W) :
    Calls Try.prog 10 #[.pointer (some ⟨g, 0, none⟩), .float .f64 x, .int .i64 now] w fun e w' => e = .returned (.float .f64 s) ∧ Blk w' g 48 #[.float .f64 s, .int .i64 a', .int .i64 h] ∧ w.grownBy w' (some g) := by
  go_enter Try.func10, Try.ntmps10
  go_wp2_with fail
  refine (HG.out _ hb).mono ?_
  rintro e w1 ⟨rfl, hb1, hg1⟩
  have c0 := hb1.cell 0
  have d0 := hb1.frozen 0
  simp only [List.getElem?_toArray, List.getElem?_cons_zero] at c0
  go_wp2
  go_ret
  exact ⟨rfl, hb1.set_ 0 (.float .f64 s), only_setCell hg1 rfl _⟩

theorem add_any (g : Nat) (r x : Nat) (a h now : Int) (w : World) (hp : PaceAt w g r a h) (hx : x < 18446744073709551616) :
    Calls Try.prog 10 #[.pointer (some ⟨g, 0, none⟩), .float .f64 x, .int .i64 now] w fun e w' => e = .returned (.float .f64 (lvl r a h now x)) ∧ PaceAt w' g (lvl r a h now x) (a + stepsI a h now * h) h ∧ w.grownBy w' (some g) := by
  obtain ⟨hb, hr, ha0, ha1, hh1, hh2⟩ := hp
  obtain ⟨s1, s2, s3⟩ := steps_at a h now ha0 ha1 hh1
  have hH := halves_top (stepsI a h now).toNat r hr
  have HG : Hid (GoOn g now r a h (halves (stepsI a h now).toNat r) (a + stepsI a h now * h)) := fun w0 hb0 => goOn_any g r a h now w0 ⟨hb0, hr, ha0, ha1, hh1, hh2⟩
  have hl := lvl_top r a h now x hr
  by_cases hg : gtB x 0 = true
  · have e1 := lvl_yes r a h now x hg
    generalize lvl r a h now x = L at *
    subst e1
    exact (add_yes g r x a h now _ _ _ w hb HG (by rw [f64_gt]; exact hg) (run_sum _ x hH (gt_zero x hx hg).1)).mono fun e w' ⟨he, hb', hg'⟩ => ⟨he, ⟨hb', hl, s1, s2, hh1, hh2⟩, hg'⟩
  · have hg0 : gtB x 0 = false := by simpa using hg
    have e1 := lvl_no r a h now x hg0
    generalize lvl r a h now x = L at *
    subst e1
    exact (add_no g r x a h now _ _ w hb HG (by rw [f64_gt]; exact hg0)).mono fun e w' ⟨he, hb', hg'⟩ => ⟨he, ⟨hb', hl, s1, s2, hh1, hh2⟩, hg'⟩

theorem lvl_zero (r : Nat) (a h now : Int) : lvl r a h now 0 = halves (stepsI a h now).toNat r := lvl_no r a h now 0 (by decide)
/-- The time behind a step. -/
def tm (a h now : Int) : Int := a + stepsI a h now * h
def hv (r : Nat) (a h now : Int) : Nat := halves (stepsI a h now).toNat r

theorem level_any (g : Nat) (r : Nat) (a h now : Int) (w : World) (hp : PaceAt w g r a h) :
    Calls Try.prog 17 #[.pointer (some ⟨g, 0, none⟩), .int .i64 now] w fun e w' => e = .returned (.float .f64 (hv r a h now)) ∧ PaceAt w' g (hv r a h now) (tm a h now) h ∧ w.grownBy w' (some g) := by
  have HA : Hid (∀ w0, PaceAt w0 g r a h → Calls Try.prog 10 #[.pointer (some ⟨g, 0, none⟩), .float .f64 0, .int .i64 now] w0 fun e w' => e = .returned (.float .f64 (hv r a h now)) ∧ PaceAt w' g (hv r a h now) (tm a h now) h ∧ w0.grownBy w' (some g)) := fun w0 hp0 => by
    have k := add_any g r 0 a h now w0 hp0 (by omega)
    rwa [lvl_zero] at k
  go_enter Try.func17, Try.ntmps17
  go_wp2_with fail
  refine (HA.out _ hp).mono ?_
  rintro e w1 ⟨rfl, hb1, hg1⟩
  go_wp2
  go_ret
  exact ⟨rfl, hb1, hg1⟩

theorem over_any (g : Nat) (r l : Nat) (a h now : Int) (w : World) (hp : PaceAt w g r a h) :
    Calls Try.prog 12 #[.pointer (some ⟨g, 0, none⟩), .float .f64 l, .int .i64 now] w fun e w' => e = .returned (.bool (!leB (hv r a h now) l)) ∧ PaceAt w' g (hv r a h now) (tm a h now) h ∧ w.grownBy w' (some g) := by
  have HA : Hid (∀ w0, PaceAt w0 g r a h → Calls Try.prog 17 #[.pointer (some ⟨g, 0, none⟩), .int .i64 now] w0 fun e w' => e = .returned (.float .f64 (hv r a h now)) ∧ PaceAt w' g (hv r a h now) (tm a h now) h ∧ w0.grownBy w' (some g)) := fun w0 hp0 => level_any g r a h now w0 hp0
  have hl := f64_le (hv r a h now) l
  generalize hv r a h now = H at *
  cases hb : leB H l
  · rw [hb] at hl
    clear hb
    go_enter Try.func12, Try.ntmps12
    go_wp2_with fail
    refine (HA.out _ hp).mono ?_
    rintro e w1 ⟨rfl, hb1, hg1⟩
    go_wp2
    go_ret
    exact ⟨rfl, hb1, hg1⟩
  · rw [hb] at hl
    clear hb
    go_enter Try.func12, Try.ntmps12
    go_wp2_with fail
    refine (HA.out _ hp).mono ?_
    rintro e w1 ⟨rfl, hb1, hg1⟩
    go_wp2
    go_ret
    exact ⟨rfl, hb1, hg1⟩

theorem add_nil (x : Nat) (now : Int) (w : World) : Calls Try.prog 10 #[.pointer none, .float .f64 x, .int .i64 now] w fun e w' => e = .returned (.float .f64 0) ∧ w = w' := by
  go_enter Try.func10, Try.ntmps10
  go_wp2
  go_ret
  exact ⟨rfl, rfl⟩
theorem over_nil (x : Nat) (now : Int) (w : World) : Calls Try.prog 12 #[.pointer none, .float .f64 x, .int .i64 now] w fun e w' => e = .returned (.bool true) ∧ w = w' := by
  go_enter Try.func12, Try.ntmps12
  go_wp2
  go_ret
  exact ⟨rfl, rfl⟩
theorem wait_nil (x : Nat) (now : Int) (w : World) : Calls Try.prog 11 #[.pointer none, .float .f64 x, .int .i64 now] w fun e w' => e = .returned (.int .i64 (-1)) ∧ w = w' := by
  go_enter Try.func11, Try.ntmps11
  go_wp2
  go_ret
  exact ⟨rfl, rfl⟩

theorem run_half (r : Nat) (hr : r ≤ top) (W : World) : (binOp .quo 22 (.float .f64 r) (.float .f64 4611686018427387904)).run Try.prog W = .ok (.float .f64 (half r)) W :=
  run_float_arith (P := Try.prog) W .quo 22 .f64 r 4611686018427387904 (half r) (half_div r hr)
/-- How long it is: so many halves till the level isn't over the limit; or none of them is enough. -/
def WaitIs (H l : Nat) (a h m res : Int) : Prop :=
  (∃ n : Nat, n ≤ 3000 ∧ leB (halves n H) l = true ∧ (∀ j, j < n → leB (halves j H) l = false) ∧ res = max (a + n * h - m) 0) ∨ ((∀ j, j ≤ 3000 → leB (halves j H) l = false) ∧ res = -1)
def WaitPost (H l : Nat) (a h m : Int) (g : Nat) (w : World) (e : Ending) (w' : World) : Prop :=
  (∃ res : Int, e = .returned (.int .i64 res) ∧ WaitIs H l a h m res) ∧ PaceAt w' g H a h ∧ w.grownBy w' (some g)
def WaitRel (H l : Nat) (x i : Value) : Prop := ∃ k : Nat, k ≤ 3001 ∧ i = .int .i64 k ∧ x = .float .f64 (halves k H) ∧ ∀ j, j < k → leB (halves j H) l = false

set_option maxRecDepth 100000 in
set_option maxHeartbeats 2000000 in
theorem wait_at (g : Nat) (r l : Nat) (a h now : Int) (H : Nat) (a' m : Int) (w : World) (hp : PaceAt w g r a h) (hH : H ≤ top) (ha0 : 0 ≤ a') (ha1 : a' ≤ 1099511627776)
    (HA : Hid (∀ w0, PaceAt w0 g r a h → Calls Try.prog 17 #[.pointer (some ⟨g, 0, none⟩), .int .i64 now] w0 fun e w' => e = .returned (.float .f64 H) ∧ PaceAt w' g H a' h ∧ w0.grownBy w' (some g)))
    (hm : (now < a' ∧ m = a') ∨ (a' ≤ now ∧ now ≤ 1099511627776 ∧ m = now) ∨ (a' ≤ now ∧ 1099511627776 < now ∧ m = 1099511627776)) :
    Calls Try.prog 11 #[.pointer (some ⟨g, 0, none⟩), .float .f64 l, .int .i64 now] w (WaitPost H l a' h m g w) := by
  have hh1 := hp.2.2.2.2.1
  have hh2 := hp.2.2.2.2.2
  rcases hm with ⟨h1, hm⟩ | ⟨h1, h2, hm⟩ | ⟨h1, h2, hm⟩
  · have HM := Lib.hid hm
    have m0 : 0 ≤ m := by omega
    have m1 : m ≤ 1099511627776 := by omega
    have mb1 : 0 ≤ a' := by omega
    have mb2 : a' ≤ 1099511627776 := by omega
    clear hm
    go_enter Try.func11, Try.ntmps11
    go_wp2_with fail
    refine (HA.out _ hp).mono ?_
    rintro e w1 ⟨rfl, hb1, hg1⟩
    have c1 := hb1.1.cell 1
    have c2 := hb1.1.cell 2
    simp only [List.getElem?_toArray, List.getElem?_cons_zero, List.getElem?_cons_succ] at c1 c2
    go_wp2
    go_loop [7, 21] (fun x i => WaitRel H l x i) (fun _ i => 3001 - (intOf i).toNat)
    case atStart => exact ⟨0, by omega, rfl, rfl, fun j hj => absurd hj (by omega)⟩
    case round =>
      obtain ⟨k, hk, rfl, rfl, hno⟩ := hrel
      have HN := Lib.hid hno
      clear hno
      by_cases hlt : k < 3001
      · have hle := f64_le (halves k H) l
        by_cases hb : leB (halves k H) l = true
        · rw [hb] at hle
          have HB := Lib.hid hb
          clear hb
          have q1 : 0 ≤ (k : Int) * h := Int.mul_nonneg (by omega) (by omega)
          have q2 : (k : Int) * h ≤ 3000000 := by
            have e : (k : Int) * h ≤ 3000 * 1000 := Int.mul_le_mul (by omega) hh2 (by omega) (by omega)
            omega
          have v1 : IntKind.i64.wrap ((k : Int) * h) = k * h := IntWalk.i64_in _ (by omega)
          have v2 : IntKind.i64.wrap (a' + (k : Int) * h) = a' + k * h := IntWalk.i64_in _ (by omega)
          have v3 : IntKind.i64.wrap (a' + (k : Int) * h - a') = a' + k * h - a' := IntWalk.i64_in _ (by omega)
          by_cases hneg : a' + (k : Int) * h - a' < 0
          · exact absurd hneg (by omega)
          · skip
            go_wp2_with fail
            go_region_held3 (fun w' => w'.cell? ⟨g, 1, none⟩ = some (.int .i64 a') ∧ w'.cell? ⟨g, 2, none⟩ = some (.int .i64 h)) (go_keep) (fail)
            go_wp2
            go_ret
            exact ⟨⟨_, rfl, .inl ⟨k, by omega, HB.out, HN.out, by rw [HM.out]; omega⟩⟩, ⟨hb1.1, hb1.2⟩, only_drew hg1⟩

        · have hb0 : leB (halves k H) l = false := by simpa using hb
          rw [hb0] at hle
          have HB := Lib.hid hb0
          clear hb hb0
          have hq := run_half (halves k H) (halves_top k H hH)
          go_wp2
          refine ⟨⟨k + 1, by omega, by simp, by rw [halves_succ], fun j hj => ?_⟩, by simp [intOf]; omega⟩
          by_cases hj' : j < k
          · exact HN.out j hj'
          · rw [show j = k by omega]; exact HB.out
      · obtain rfl : k = 3001 := by omega
        go_wp2
        go_ret
        exact ⟨⟨-1, rfl, .inr ⟨fun j hj => HN.out j (by omega), rfl⟩⟩, hb1, hg1⟩
  · have HM := Lib.hid hm
    have m0 : 0 ≤ m := by omega
    have m1 : m ≤ 1099511627776 := by omega
    have mb1 : 0 ≤ now := by omega
    have mb2 : now ≤ 1099511627776 := by omega
    clear hm
    go_enter Try.func11, Try.ntmps11
    go_wp2_with fail
    refine (HA.out _ hp).mono ?_
    rintro e w1 ⟨rfl, hb1, hg1⟩
    have c1 := hb1.1.cell 1
    have c2 := hb1.1.cell 2
    simp only [List.getElem?_toArray, List.getElem?_cons_zero, List.getElem?_cons_succ] at c1 c2
    go_wp2
    go_loop [7, 21] (fun x i => WaitRel H l x i) (fun _ i => 3001 - (intOf i).toNat)
    case atStart => exact ⟨0, by omega, rfl, rfl, fun j hj => absurd hj (by omega)⟩
    case round =>
      obtain ⟨k, hk, rfl, rfl, hno⟩ := hrel
      have HN := Lib.hid hno
      clear hno
      by_cases hlt : k < 3001
      · have hle := f64_le (halves k H) l
        by_cases hb : leB (halves k H) l = true
        · rw [hb] at hle
          have HB := Lib.hid hb
          clear hb
          have q1 : 0 ≤ (k : Int) * h := Int.mul_nonneg (by omega) (by omega)
          have q2 : (k : Int) * h ≤ 3000000 := by
            have e : (k : Int) * h ≤ 3000 * 1000 := Int.mul_le_mul (by omega) hh2 (by omega) (by omega)
            omega
          have v1 : IntKind.i64.wrap ((k : Int) * h) = k * h := IntWalk.i64_in _ (by omega)
          have v2 : IntKind.i64.wrap (a' + (k : Int) * h) = a' + k * h := IntWalk.i64_in _ (by omega)
          have v3 : IntKind.i64.wrap (a' + (k : Int) * h - now) = a' + k * h - now := IntWalk.i64_in _ (by omega)
          by_cases hneg : a' + (k : Int) * h - now < 0
          · skip
            go_wp2_with fail
            go_region_held3 (fun w' => w'.cell? ⟨g, 1, none⟩ = some (.int .i64 a') ∧ w'.cell? ⟨g, 2, none⟩ = some (.int .i64 h)) (go_keep) (fail)
            go_wp2
            go_ret
            exact ⟨⟨_, rfl, .inl ⟨k, by omega, HB.out, HN.out, by rw [HM.out]; omega⟩⟩, ⟨hb1.1, hb1.2⟩, only_drew hg1⟩

          · skip
            go_wp2_with fail
            go_region_held3 (fun w' => w'.cell? ⟨g, 1, none⟩ = some (.int .i64 a') ∧ w'.cell? ⟨g, 2, none⟩ = some (.int .i64 h)) (go_keep) (fail)
            go_wp2
            go_ret
            exact ⟨⟨_, rfl, .inl ⟨k, by omega, HB.out, HN.out, by rw [HM.out]; omega⟩⟩, ⟨hb1.1, hb1.2⟩, only_drew hg1⟩

        · have hb0 : leB (halves k H) l = false := by simpa using hb
          rw [hb0] at hle
          have HB := Lib.hid hb0
          clear hb hb0
          have hq := run_half (halves k H) (halves_top k H hH)
          go_wp2
          refine ⟨⟨k + 1, by omega, by simp, by rw [halves_succ], fun j hj => ?_⟩, by simp [intOf]; omega⟩
          by_cases hj' : j < k
          · exact HN.out j hj'
          · rw [show j = k by omega]; exact HB.out
      · obtain rfl : k = 3001 := by omega
        go_wp2
        go_ret
        exact ⟨⟨-1, rfl, .inr ⟨fun j hj => HN.out j (by omega), rfl⟩⟩, hb1, hg1⟩
  · have HM := Lib.hid hm
    have m0 : 0 ≤ m := by omega
    have m1 : m ≤ 1099511627776 := by omega
    have mb1 : 0 ≤ (1099511627776 : Int) := by omega
    have mb2 : (1099511627776 : Int) ≤ 1099511627776 := by omega
    clear hm
    go_enter Try.func11, Try.ntmps11
    go_wp2_with fail
    refine (HA.out _ hp).mono ?_
    rintro e w1 ⟨rfl, hb1, hg1⟩
    have c1 := hb1.1.cell 1
    have c2 := hb1.1.cell 2
    simp only [List.getElem?_toArray, List.getElem?_cons_zero, List.getElem?_cons_succ] at c1 c2
    go_wp2
    go_loop [7, 21] (fun x i => WaitRel H l x i) (fun _ i => 3001 - (intOf i).toNat)
    case atStart => exact ⟨0, by omega, rfl, rfl, fun j hj => absurd hj (by omega)⟩
    case round =>
      obtain ⟨k, hk, rfl, rfl, hno⟩ := hrel
      have HN := Lib.hid hno
      clear hno
      by_cases hlt : k < 3001
      · have hle := f64_le (halves k H) l
        by_cases hb : leB (halves k H) l = true
        · rw [hb] at hle
          have HB := Lib.hid hb
          clear hb
          have q1 : 0 ≤ (k : Int) * h := Int.mul_nonneg (by omega) (by omega)
          have q2 : (k : Int) * h ≤ 3000000 := by
            have e : (k : Int) * h ≤ 3000 * 1000 := Int.mul_le_mul (by omega) hh2 (by omega) (by omega)
            omega
          have v1 : IntKind.i64.wrap ((k : Int) * h) = k * h := IntWalk.i64_in _ (by omega)
          have v2 : IntKind.i64.wrap (a' + (k : Int) * h) = a' + k * h := IntWalk.i64_in _ (by omega)
          have v3 : IntKind.i64.wrap (a' + (k : Int) * h - (1099511627776 : Int)) = a' + k * h - (1099511627776 : Int) := IntWalk.i64_in _ (by omega)
          by_cases hneg : a' + (k : Int) * h - (1099511627776 : Int) < 0
          · skip
            go_wp2_with fail
            go_region_held3 (fun w' => w'.cell? ⟨g, 1, none⟩ = some (.int .i64 a') ∧ w'.cell? ⟨g, 2, none⟩ = some (.int .i64 h)) (go_keep) (fail)
            go_wp2
            go_ret
            exact ⟨⟨_, rfl, .inl ⟨k, by omega, HB.out, HN.out, by rw [HM.out]; omega⟩⟩, ⟨hb1.1, hb1.2⟩, only_drew hg1⟩

          · skip
            go_wp2_with fail
            go_region_held3 (fun w' => w'.cell? ⟨g, 1, none⟩ = some (.int .i64 a') ∧ w'.cell? ⟨g, 2, none⟩ = some (.int .i64 h)) (go_keep) (fail)
            go_wp2
            go_ret
            exact ⟨⟨_, rfl, .inl ⟨k, by omega, HB.out, HN.out, by rw [HM.out]; omega⟩⟩, ⟨hb1.1, hb1.2⟩, only_drew hg1⟩

        · have hb0 : leB (halves k H) l = false := by simpa using hb
          rw [hb0] at hle
          have HB := Lib.hid hb0
          clear hb hb0
          have hq := run_half (halves k H) (halves_top k H hH)
          go_wp2
          refine ⟨⟨k + 1, by omega, by simp, by rw [halves_succ], fun j hj => ?_⟩, by simp [intOf]; omega⟩
          by_cases hj' : j < k
          · exact HN.out j hj'
          · rw [show j = k by omega]; exact HB.out
      · obtain rfl : k = 3001 := by omega
        go_wp2
        go_ret
        exact ⟨⟨-1, rfl, .inr ⟨fun j hj => HN.out j (by omega), rfl⟩⟩, hb1, hg1⟩

theorem wait_any (g : Nat) (r l : Nat) (a h now : Int) (w : World) (hp : PaceAt w g r a h) :
    Calls Try.prog 11 #[.pointer (some ⟨g, 0, none⟩), .float .f64 l, .int .i64 now] w (WaitPost (hv r a h now) l (tm a h now) h (min (max now (tm a h now)) 1099511627776) g w) := by
  obtain ⟨s1, s2, s3⟩ := steps_at a h now hp.2.2.1 hp.2.2.2.1 hp.2.2.2.2.1
  refine wait_at g r l a h now _ _ _ w hp (halves_top _ _ hp.2.1) s1 s2 (fun w0 hp0 => level_any g r a h now w0 hp0) ?_
  show (now < tm a h now ∧ _) ∨ (tm a h now ≤ now ∧ _) ∨ (tm a h now ≤ now ∧ _)
  have t1 : 0 ≤ tm a h now := s1
  have t2 : tm a h now ≤ 1099511627776 := s2
  omega
/-- The first half that is enough tells the answer. -/
theorem wait_found {H l : Nat} {a h m res : Int} (hw : WaitIs H l a h m res) (k : Nat) (hk : k ≤ 3000) (h1 : leB (halves k H) l = true) (h2 : ∀ j, j < k → leB (halves j H) l = false) : res = max (a + k * h - m) 0 := by
  rcases hw with ⟨n, hn, e1, e2, rfl⟩ | ⟨e1, _⟩
  · have : n = k := by
      rcases Nat.lt_trichotomy n k with hlt | heq | hgt
      · rw [h2 n hlt] at e1; cases e1
      · exact heq
      · rw [e2 k hgt] at h1; cases h1
    subst this
    rfl
  · rw [e1 k hk] at h1; cases h1
end Go.Proofs.Ythpnfbpkoiebaaa
