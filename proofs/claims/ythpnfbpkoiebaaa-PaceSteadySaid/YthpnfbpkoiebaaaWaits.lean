/- PaceWaits, the row: for every half, every time and every two numbers the law answers true, and its arguments read as they did. No condition. -/
import Derived.Test.YthpnfbpkoiebaaaC
import Derived.Test.YthpnfbpkoiebaaaLaw
import Derived.OpenShut
namespace Go.Proofs.Ythpnfbpkoiebaaa
open Go.RowKit PaceFl Go.Joins Go.ChangeShapes Go.WideShapes Go.ChangeAt
attribute [local go_sem ↓] Go.wp_at_zero Go.wp_at_succ
attribute [local go_sem] run_store_float

theorem addV_zero (x : Nat) (hx : x < 18446744073709551616) : addV 0 x = if gtB x 0 then x else 0 := by
  unfold addV
  by_cases h : gtB x 0 = true
  · rw [if_pos h, if_pos h, sum_zero x (gt_zero x hx h).1]
  · rw [if_neg h, if_neg h]
theorem hv_zero (a h now : Int) : hv 0 a h now = 0 := halves_zero _
theorem lvl_first (h now : Int) (x : Nat) : lvl 0 0 h now x = addV 0 x := by
  unfold lvl
  rw [halves_zero]
/-- Times: so many halves on, or one tick ahead of that. -/
theorem steps_same (a h t : Int) (_h1 : 1 ≤ h) (hle : a ≤ t) (hlt : t < a + h) (ht : t ≤ 1099511627776) : stepsI a h t = 0 := by
  unfold stepsI
  rw [show min (max t a) 1099511627776 - a = t - a by omega]
  exact Int.ediv_eq_zero_of_lt (by omega) (by omega)
theorem steps_on (a h : Int) (n : Nat) (h1 : 1 ≤ h) (ht : a + n * h ≤ 1099511627776) : stepsI a h (a + n * h) = n := by
  have p : 0 ≤ (n : Int) * h := Int.mul_nonneg (by omega) (by omega)
  unfold stepsI
  rw [show min (max (a + n * h) a) 1099511627776 - a = n * h by omega]
  exact Int.mul_ediv_cancel _ (by omega)
theorem steps_ahead (a h : Int) (n : Nat) (h1 : 1 ≤ h) (hn : 1 ≤ n) (ht : a + n * h ≤ 1099511627776) : stepsI a h (a + n * h - 1) = ((n - 1 : Nat) : Int) := by
  have e : (n : Int) * h = ((n - 1 : Nat) : Int) * h + h := by
    have : (n : Int) = ((n - 1 : Nat) : Int) + 1 := by omega
    rw [this, Int.add_mul, Int.one_mul]
  have p : 0 ≤ ((n - 1 : Nat) : Int) * h := Int.mul_nonneg (by omega) (by omega)
  unfold stepsI
  rw [show min (max (a + n * h - 1) a) 1099511627776 - a = (h - 1) + ((n - 1 : Nat) : Int) * h by omega, Int.add_mul_ediv_right _ _ (by omega), Int.ediv_eq_zero_of_lt (by omega) (by omega), Int.zero_add]
theorem first_time (h T : Int) (h1 : 1 ≤ h) (h0 : 0 ≤ T) (ht : T ≤ 1099511627776) : 0 ≤ 0 + stepsI 0 h T * h ∧ 0 + stepsI 0 h T * h ≤ T ∧ T < 0 + stepsI 0 h T * h + h := by
  have e : stepsI 0 h T = T / h := by
    unfold stepsI
    rw [show min (max T 0) 1099511627776 - 0 = T by omega]
  rw [e]
  have a := Int.emod_nonneg T (show h ≠ 0 by omega)
  have b := Int.emod_lt_of_pos T (show 0 < h by omega)
  have c := Int.mul_ediv_add_emod T h
  have d : h * (T / h) = T / h * h := Int.mul_comm _ _
  have p : 0 ≤ T / h * h := Int.mul_nonneg (Int.ediv_nonneg h0 (by omega)) (by omega)
  omega

/-- Where no number of halves is enough the limit is no number, or below 0, or there was no end to the level. -/
theorem never (x l : Nat) (hx : x < 18446744073709551616) (h : ∀ j, j ≤ 3000 → leB (halves j (addV 0 x)) l = false) : isNaN l ∨ ltB l 0 = true ∨ gtB x 9218868437227405311 = true := by
  by_cases h1 : isNaN l
  · exact .inl h1
  · by_cases h2 : ltB l 0 = true
    · exact .inr (.inl h2)
    · refine .inr (.inr ?_)
      have hk : 0 ≤ key l := by
        have : ¬ (¬ isNaN l ∧ ¬ isNaN 0 ∧ key l < key 0) := fun e => h2 (decide_eq_true e)
        have k0 : key 0 = 0 := by decide
        have n0 : ¬ isNaN 0 := by decide
        rw [k0] at this
        by_cases hl : key l < 0
        · exact absurd ⟨h1, n0, hl⟩ this
        · omega
      have zero : halves 3000 (addV 0 x) = 0 → False := fun e => by
        have k := h 3000 (by omega)
        rw [e] at k
        have k' : ¬ (¬ isNaN 0 ∧ ¬ isNaN l ∧ key 0 ≤ key l) := of_decide_eq_false k
        have k0 : key 0 = 0 := by decide
        rw [k0] at k'
        exact k' ⟨by decide, h1, hk⟩
      rw [addV_zero x hx] at zero
      by_cases hg : gtB x 0 = true
      · rw [if_pos hg] at zero
        have hx1 := (gt_zero x hx hg).1
        rw [gtB_max x hx1]
        by_cases ht : x = top
        · exact decide_eq_true ht
        · exact (zero (halves_done 3000 x (by omega) (by omega))).elim
      · rw [if_neg hg] at zero
        exact (zero (halves_zero _)).elim
theorem mod_bd (z : Int) : 0 ≤ wrap64 ((IntKind.u64.wrap z).tmod 1073741824) ∧ wrap64 ((IntKind.u64.wrap z).tmod 1073741824) < 1073741824 := by
  have h : 0 ≤ IntKind.u64.wrap z := by simp only [IntKind.wrap, IntKind.signed, IntKind.bits]; simp; omega
  rw [Int.tmod_eq_emod_of_nonneg h]
  generalize IntKind.u64.wrap z = y at *
  rw [IntWalk.wrap64_in _ ⟨by omega, by omega⟩]
  omega

theorem pace_alloc {w : World} {g r : Nat} {a h : Int} (p : PaceAt w g r a h) (o : Obj) : PaceAt (w.alloc o) g r a h := ⟨p.1.alloc o, p.2⟩
theorem pace_keep {w w' : World} {g g' r : Nat} {a h : Int} (p : PaceAt w g r a h) (hg : w.grownBy w' (some g')) (hne : g ≠ g') : PaceAt w' g r a h :=
  ⟨p.1.grown hg (by simpa using hne), p.2⟩
theorem pace_lt {w : World} {g r : Nat} {a h : Int} (p : PaceAt w g r a h) : g < w.heap.size := p.1.lt
/-- What the first Add, and what is asked then, answer. -/
def AddF (g : Nat) (x : Nat) (h T : Int) (X : Nat) (A : Int) : Prop :=
  ∀ W : World, PaceAt W g 0 0 h → Calls Try.prog 10 #[.pointer (some ⟨g, 0, none⟩), .float .f64 x, .int .i64 T] W fun e w' => e = .returned (.float .f64 X) ∧ PaceAt w' g X A h ∧ W.grownBy w' (some g)
theorem addF (g x : Nat) (h T : Int) (hx : x < 18446744073709551616) : AddF g x h T (addV 0 x) (0 + stepsI 0 h T * h) := fun W hW => by
  have k := add_any g 0 x 0 h T W hW hx
  rwa [lvl_first] at k
def OverF (g : Nat) (X l : Nat) (A h t : Int) (b : Bool) : Prop :=
  ∀ W : World, PaceAt W g X A h → Calls Try.prog 12 #[.pointer (some ⟨g, 0, none⟩), .float .f64 l, .int .i64 t] W fun e w' => e = .returned (.bool b) ∧ W.grownBy w' (some g)
theorem overF (g X l : Nat) (A h t : Int) (n : Nat) (b : Bool) (hs : stepsI A h t = n) (hb : leB (halves n X) l = !b) : OverF g X l A h t b := fun W hW => by
  have k := over_any g X l A h t W hW
  have e : hv X A h t = halves n X := by unfold hv; rw [hs]; rfl
  rw [e, hb, Bool.not_not] at k
  exact k.mono fun _ _ ⟨h1, _, h3⟩ => ⟨h1, h3⟩
def WaitF (g : Nat) (X l : Nat) (A h T : Int) : Prop :=
  ∀ W : World, PaceAt W g X A h → Calls Try.prog 11 #[.pointer (some ⟨g, 0, none⟩), .float .f64 l, .int .i64 T] W fun e w' => (∃ res : Int, e = .returned (.int .i64 res) ∧ WaitIs X l A h T res) ∧ W.grownBy w' (some g)
theorem waitF (g X l : Nat) (A h T : Int) (h1 : 1 ≤ h) (hle : A ≤ T) (hlt : T < A + h) (ht : T ≤ 1099511627776) : WaitF g X l A h T := fun W hW => by
  have k := wait_any g X l A h T W hW
  have e0 := steps_same A h T h1 hle hlt ht
  have e1 : hv X A h T = X := by unfold hv; rw [e0]; rfl
  have e2 : tm A h T = A := by unfold tm; rw [e0]; omega
  rw [e1, e2, show min (max T A) 1099511627776 = T by omega] at k
  exact k.mono fun _ _ ⟨h1, _, h3⟩ => ⟨h1, h3⟩

set_option maxRecDepth 100000 in
set_option maxHeartbeats 2000000 in
theorem waits_any (half now : Int) (x l : Nat) (w : World) (hx : x < 18446744073709551616) :
    Calls Try.prog 3 #[.int .i64 half, .int .i64 now, .agg #[.float .f64 x, .float .f64 l]] w fun e w' => e = .returned (.bool true) ∧ Below w.heap.size w w' := by
  have hh := clampH_bd half
  go_enter Try.func3, Try.ntmps3
  go_wp2_with fail
  refine (lives_any _).mono ?_
  rintro e w1 ⟨rfl, hb1⟩
  have B1 := ((Below.refl w.heap.size w).alloc (Nat.le_refl _) (.cells #[.float .f64 x, .float .f64 l] 23)).trans (hb1.mono (by simp))
  have b1 := (Blk.new w 23 #[.float .f64 x, .float .f64 l]).below hb1 (by simp)
  have c0 := b1.cell 0
  have c1 := b1.cell 1
  simp only [List.getElem?_toArray, List.getElem?_cons_zero, List.getElem?_cons_succ] at c0 c1
  clear hb1
  go_wp2_with fail
  generalize hT : wrap64 ((IntKind.u64.wrap now).tmod 1073741824) = T
  have T0 : 0 ≤ T := by rw [← hT]; exact (mod_bd now).1
  have T1 : T < 1073741824 := by rw [← hT]; exact (mod_bd now).2
  clear hT
  go_region_held3 (fun w' => w'.cell? ⟨w.heap.size, 0, none⟩ = some (.float .f64 x) ∧ w'.cell? ⟨w.heap.size, 1, none⟩ = some (.float .f64 l)) (go_keep) (fail)
  go_wp2_with fail
  refine (new_any half _).mono ?_
  rintro e w2 ⟨rfl, rfl⟩
  go_wp2_with fail
  refine (new_any half _).mono ?_
  rintro e w2 ⟨rfl, rfl⟩
  go_wp2_with fail
  refine (new_any half _).mono ?_
  rintro e w2 ⟨rfl, rfl⟩
  have q0 := pace_new w1 half
  have q1 := pace_new (w1.alloc (.cells (paceCells 0 0 (clampH half)) 48)) half
  have q2 := pace_new ((w1.alloc (.cells (paceCells 0 0 (clampH half)) 48)).alloc (.cells (paceCells 0 0 (clampH half)) 48)) half
  simp only [World.size_alloc] at q1 q2
  have z1 : w.heap.size ≤ w1.heap.size := B1.size
  have B2 : Below w.heap.size w (((w1.alloc (.cells (paceCells 0 0 (clampH half)) 48)).alloc (.cells (paceCells 0 0 (clampH half)) 48)).alloc (.cells (paceCells 0 0 (clampH half)) 48)) := ((B1.alloc B1.size _).alloc (by simp; omega) _).alloc (by simp; omega) _
  have P0 := pace_alloc (pace_alloc q0 (.cells (paceCells 0 0 (clampH half)) 48)) (.cells (paceCells 0 0 (clampH half)) 48)
  have P1 := pace_alloc q1 (.cells (paceCells 0 0 (clampH half)) 48)
  have P2 := q2
  clear q0 q1 q2 b1 B1 c0 c1
  obtain ⟨A0, A1, A2⟩ := first_time (clampH half) T hh.1 T0 (by omega)
  have HA := fun g => addF g x (clampH half) T hx
  have HW := fun g => waitF g (addV 0 x) l (0 + stepsI 0 (clampH half) T * clampH half) (clampH half) T hh.1 A1 A2 (by omega)
  have HO := fun g t n b => overF g (addV 0 x) l (0 + stepsI 0 (clampH half) T * clampH half) (clampH half) t n b
  have NV := Lib.hid (never x l hx)
  generalize addV 0 x = X at *
  generalize 0 + stepsI 0 (clampH half) T * clampH half = A at *
  generalize clampH half = h at *
  have HA' := Lib.hid HA
  have HW' := Lib.hid HW
  have HO' := Lib.hid HO
  clear HA HW HO
  go_wp2_with fail
  refine (HA'.out _ _ ⟨P0.1.drew, P0.2⟩).mono ?_
  rintro e w3 ⟨rfl, P0', g3⟩
  have Q1 := pace_keep (w' := w3) ⟨P1.1.drew, P1.2⟩ g3 (by omega)
  have Q2 := pace_keep (w' := w3) ⟨P2.1.drew, P2.2⟩ g3 (by omega)
  have B3 := below_grown B2.drew g3 (by omega)
  clear P0 P1 P2 g3 B2
  go_wp2_with fail
  refine (HA'.out _ _ Q1).mono ?_
  rintro e w4 ⟨rfl, Q1', g4⟩
  have R0 := pace_keep P0' g4 (by omega)
  have R2 := pace_keep Q2 g4 (by omega)
  have B4 := below_grown B3 g4 (by omega)
  clear P0' Q1 Q2 g4 B3
  go_wp2_with fail
  refine (HA'.out _ _ R2).mono ?_
  rintro e w5 ⟨rfl, S2, g5⟩
  have S0 := pace_keep R0 g5 (by omega)
  have S1 := pace_keep Q1' g5 (by omega)
  have B5 := below_grown B4 g5 (by omega)
  clear R0 Q1' R2 g5 B4
  go_wp2_with fail
  refine (HW'.out _ _ S0).mono ?_
  rintro e w6 ⟨⟨res, rfl, hw⟩, g6⟩
  have U1 := pace_keep S1 g6 (by omega)
  have U2 := pace_keep S2 g6 (by omega)
  have B6 := below_grown B5 g6 (by omega)
  clear S0 S1 S2 g6 B5
  rcases hw with ⟨n, hn, e1, e2, rfl⟩ | ⟨e1, rfl⟩
  · have p : 0 ≤ (n : Int) * h := Int.mul_nonneg (by omega) (by omega)
    have p2 : (n : Int) * h ≤ 3000000 := by
      have e : (n : Int) * h ≤ 3000 * 1000 := Int.mul_le_mul (by omega) hh.2 (by omega) (by omega)
      omega
    have HE1 := Lib.hid e1
    have HE2 := Lib.hid e2
    clear e1 e2
    by_cases hr : A + (n : Int) * h ≤ T
    · have hn0 : n = 0 := by
        rcases Nat.eq_zero_or_pos n with h0 | h0
        · exact h0
        · have : (1 : Int) * h ≤ n * h := Int.mul_le_mul_of_nonneg_right (by omega) (by omega)
          omega
      subst hn0
      have HB := Lib.hid (HO'.out (w1.heap.size + 1) T 0 false (steps_same A h T hh.1 A1 A2 (by omega)) HE1.out)
      rw [show max (A + ((0 : Nat) : Int) * h - T) 0 = 0 by omega]
      go_wp2_with fail
      refine (HB.out _ U1).mono ?_
      rintro e w7 ⟨rfl, g7⟩
      have B7 := below_grown B6 g7 (by omega)
      go_wp2
      go_ret
      exact ⟨rfl, B7⟩
    · have hn0 : 1 ≤ n := by
        rcases Nat.eq_zero_or_pos n with h0 | h0
        · subst h0; simp at hr; omega
        · exact h0
      have HB := HO'.out (w1.heap.size + 1) (A + (n : Int) * h) n false (steps_on A h n hh.1 (by omega)) HE1.out
      have HC := HO'.out (w1.heap.size + 1 + 1) (A + (n : Int) * h - 1) (n - 1) true (steps_ahead A h n hh.1 hn0 (by omega)) (HE2.out (n - 1) (by omega))
      rw [show max (A + (n : Int) * h - T) 0 = A + n * h - T by omega]
      obtain ⟨res, hres⟩ : ∃ res, A + (n : Int) * h - T = res := ⟨_, rfl⟩
      rw [hres]
      rw [show A + (n : Int) * h = T + res by omega] at HB HC
      have r0 : 0 < res := by omega
      have r1 : res ≤ 3000000 := by omega
      have HB' := Lib.hid HB
      have HC' := Lib.hid HC
      clear HB HC hres hr p p2 HE1 HE2
      go_wp2_with fail
      refine (HB'.out _ U1).mono ?_
      rintro e w7 ⟨rfl, g7⟩
      have B7 := below_grown B6 g7 (by omega)
      have U3 := pace_keep U2 g7 (by omega)
      go_wp2_with fail
      refine (HC'.out _ U3).mono ?_
      rintro e w8 ⟨rfl, g8⟩
      have B8 := below_grown B7 g8 (by omega)
      go_wp2
      go_ret
      exact ⟨rfl, B8⟩
  · have HB := Lib.hid (HO'.out (w1.heap.size + 1) T 0 true (steps_same A h T hh.1 A1 A2 (by omega)) (e1 0 (by omega)))
    have hnv := NV.out e1
    clear e1 NV
    by_cases n1 : isNaN l
    · have t1 : (FloatKind.f64.format.order l l == some .eq) = false := by rw [f64_eq]; exact decide_eq_false (fun k => k.1 n1)
      have t1' : (FloatKind.f64.format.order l l != some .eq) = true := by rw [bne, t1]; rfl
      clear hnv
      go_wp2_with fail
      refine (HB.out _ U1).mono ?_
      rintro e w7 ⟨rfl, g7⟩
      have B7 := below_grown B6 g7 (by omega)
      go_wp2
      go_ret
      exact ⟨rfl, B7⟩
    · have t1 : (FloatKind.f64.format.order l l == some .eq) = true := by rw [f64_eq]; exact decide_eq_true ⟨n1, n1, rfl⟩
      have t1' : (FloatKind.f64.format.order l l != some .eq) = false := by rw [bne, t1]; rfl
      by_cases n2 : ltB l 0 = true
      · have t2 : (FloatKind.f64.format.order l 0 == some .lt) = true := by rw [show (FloatKind.f64.format.order l 0 == some .lt) = ltB l 0 from order_lt l 0]; exact n2
        clear hnv n2 n1
        go_wp2_with fail
        refine (HB.out _ U1).mono ?_
        rintro e w7 ⟨rfl, g7⟩
        have B7 := below_grown B6 g7 (by omega)
        go_wp2
        go_ret
        exact ⟨rfl, B7⟩
      · have n2' : ltB l 0 = false := by simpa using n2
        have t2 : (FloatKind.f64.format.order l 0 == some .lt) = false := by rw [show (FloatKind.f64.format.order l 0 == some .lt) = ltB l 0 from order_lt l 0]; exact n2'
        have n3 := Lib.hid (hnv.resolve_left n1 |>.resolve_left n2)
        clear hnv n2 n2' n1
        go_wp2_with fail
        refine (HB.out _ U1).mono ?_
        rintro e w7 ⟨rfl, g7⟩
        have B7 := below_grown B6 g7 (by omega)
        go_wp2_with fail
        refine (inf_at x true n3 _).mono ?_
        rintro e w8 ⟨rfl, rfl⟩
        go_wp2
        go_ret
        exact ⟨rfl, B7⟩

section
variable {H : Type} {enc : TypeId × Value → H} {P : Program} {W : World} {base b0 : Nat} {sp : Nat → Bool} {held : Bool} {t : TypeId}
theorem okWide_array {n : Nat} {e : TypeId} {r : Reach} {v : Value} (ht : P.underlying t = some (.array n e)) (h : Value.okWide P W r b0 t v) : ∃ cs, v = .agg cs ∧ cs.size = P.cellsOf t := by
  simp only [Value.okWide, ht] at h
  cases v <;> simp_all
theorem trod_float {k : FloatKind} {fuel : Nat} {cs : List Value} {x : DataW H × List MemPlace} (ht : P.underlying t = some (.float k)) (h : DataW.trod enc P W base sp held fuel t cs = some x) : ∃ b, cs = [.float k b] ∧ (Lit.float k b).wf = true := by
  cases fuel with
  | zero => simp [DataW.trod] at h
  | succ m =>
    simp only [DataW.trod, ht] at h
    split at h <;> simp_all
end
theorem wf64 {b : Nat} (h : (Lit.float .f64 b).wf = true) : b < 18446744073709551616 := by
  simpa [Lit.wf] using h
theorem open_pair {H : Type} {enc : TypeId × Value → H} {W : World} {base : Nat} {v : Value} {d : DataW H} {p : List MemPlace} (hval : Value.okWide Try.prog W .any base 23 v) (h : DataW.Trod enc Try.prog W 0 (fun _ => true) true 23 v d p) : ∃ x l : Nat, v = .agg #[.float .f64 x, .float .f64 l] ∧ x < 18446744073709551616 ∧ l < 18446744073709551616 := by
  obtain ⟨cs, rfl, hsz⟩ := okWide_array Try.underlying23 hval
  obtain ⟨c0, c1, rfl⟩ := array2 (hsz.trans (by kernel_rfl))
  obtain ⟨fuel, hf⟩ := h
  obtain ⟨xs, m, _, _, _, hl, hg⟩ := DataW.trod_array Try.underlying23 hf
  have ec : Try.prog.cellsOf 22 = 1 := by kernel_rfl
  have h0 := hg 0 (by omega)
  have h1 := hg 1 (by omega)
  rw [ec] at h0 h1
  obtain ⟨x, ex, wx⟩ := trod_float Try.underlying22 (h0.trans (List.getElem?_eq_getElem (by omega)))
  obtain ⟨l, el, wl⟩ := trod_float Try.underlying22 (h1.trans (List.getElem?_eq_getElem (by omega)))
  simp [Value.cells] at ex el
  subst ex el
  exact ⟨x, l, rfl, wf64 wx, wf64 wl⟩

set_option maxRecDepth 100000 in
theorem paceWaits_lifted (os : Os) (started : os.Started) (H : Type) (enc : TypeId × Value → H) :
    ReturnsInHanded {} Try.checked os 3 .any (Rows.paceWaitsSpec.pre6 enc Try.prog Try.f3 Rows.paceWaitsRow.domain false) (Rows.paceWaitsSpec.post enc Try.prog Try.f3 false true false false) := by
  refine returnsInHanded_of_change (C := Try.checked) Try.own started (by kernel_rfl) Try.func3
    (ChangeSpec.witness6 (enc := enc) (C := Try.checked) false ⟨#[], #[.int .i64 0, .int .i64 0, .agg #[.float .f64 0, .float .f64 0]], []⟩ 8 (by kernel_rfl) (by kernel_rfl) (by kernel_rfl) (by kernel_rfl)) ?_
  intro W base args ds gs before hval0 hW hcnd _
  have hval : ∀ (j : Nat) t v, Try.f3.params[j]? = some t → args[j]? = some v → Value.okWide Try.prog W .any base t v := hval0
  have hW' := hW
  obtain ⟨p, q, hA0, hV, rfl, hfz, hnd⟩ := hW
  have hA : DataW.TrodAll enc Try.prog W 0 (fun _ => true) true Try.f3.params.toList args.toList ds p := hA0
  have hA1 := hA
  rw [Try.params3] at hA hval
  obtain ⟨v0, v1, v2, d0, d1, d2, p0, p1, p2, rfl, rfl, rfl, h0, h1, h2⟩ := trodAll_three hA
  obtain ⟨rfl, rfl⟩ := trodVars_none hV
  obtain ⟨half, rfl, rfl, rfl, wh⟩ := open_int Try.underlying3 (hval 0 3 v0 rfl rfl) h0
  obtain ⟨now, rfl, rfl, rfl, wn⟩ := open_int Try.underlying3 (hval 1 3 v1 rfl rfl) h1
  obtain ⟨x, l, rfl, hx, hl⟩ := open_pair (hval 2 23 v2 rfl rfl) h2
  clear hA0 hval0
  simp only [List.append_nil, List.nil_append] at hW' hA1
  refine (waits_any half now x l W hx).mono fun e W' ⟨he, hb⟩ => ?_
  subst he
  have hts : ∀ t ∈ Try.f3.params.toList, Try.prog.readableRec t = true ∧ t < Try.prog.types.size := by
    rw [Try.params3]
    intro t ht
    simp at ht
    rcases ht with rfl | rfl
    all_goals exact ⟨by kernel_rfl, of_decide_eq_true (by kernel_rfl)⟩
  exact ⟨_, rfl, post_of_below (pa := p2) (pv := []) hW' (fun _ _ _ => trodAll_mk1 (shut_bool Try.underlying4 _)) (fun sp hsp => trodAll_below Try.laidOut hb hts hA1 (fun x hx => ⟨hW'.lt x hx, hsp x hx⟩)) (fun _ _ => rfl) (by simp)
    hb (ok_one (by kernel_rfl) rfl (okWide_bool_mk Try.underlying4 _))⟩

theorem paceWaits_holds : Rows.PaceWaitsSaid :=
  OpenClaim.holds_of_wide 3 Try.f3 rfl rfl rfl rfl rfl rfl rfl ⟨rfl, rfl, rfl, rfl, rfl⟩ rfl rfl rfl rfl rfl (by kernel_rfl) Try.func3 (by kernel_rfl)
    (of_decide_eq_true (by kernel_rfl)) (by unfold Func.isWrapper; first | (rw [if_pos (by decide +kernel)]; kernel_rfl) | (rw [if_neg (by decide +kernel)]; exact ⟨rfl, rfl⟩))
    (fun os started H enc _ => paceWaits_lifted os started H enc)
#print axioms paceWaits_holds
end Go.Proofs.Ythpnfbpkoiebaaa
