/- PaceLevels. -/
import Derived.Test.YthpnfbpkoiebaaaWay
namespace Go.Proofs.Ythpnfbpkoiebaaa
open Go.RowKit PaceFl Go.Joins Go.ChangeShapes Go.WideShapes Go.ChangeAt
attribute [local go_sem ↓] Go.wp_at_zero Go.wp_at_succ
attribute [local go_sem] run_store_float

theorem sign_zero (w : World) : Calls Try.prog 20 #[.float .f64 0] w fun e w' => e = .returned (.bool false) ∧ w = w' := by
  have hb := fun w => bits_run 0 w
  go_enter Try.func20, Try.ntmps20
  go_wp2
  go_ret
  exact ⟨rfl, rfl⟩
theorem four_bd (z : Int) : 0 ≤ wrap64 ((IntKind.u64.wrap z).tmod 4) ∧ wrap64 ((IntKind.u64.wrap z).tmod 4) < 4 := by
  have h : 0 ≤ IntKind.u64.wrap z := by simp only [IntKind.wrap, IntKind.signed, IntKind.bits]; simp; omega
  rw [Int.tmod_eq_emod_of_nonneg h]
  generalize IntKind.u64.wrap z = y at *
  rw [IntWalk.wrap64_in _ ⟨by omega, by omega⟩]
  omega
theorem kind_any (kd t : Int) (x : Nat) (w : World) : Calls Try.prog 19 #[.agg #[.int .i64 kd, .int .i64 t, .float .f64 x]] w fun e w' => e = .returned (.int .i64 (wrap64 ((IntKind.u64.wrap kd).tmod 4))) ∧ Below w.heap.size w w' := by
  go_enter Try.func19, Try.ntmps19
  go_wp2
  go_ret
  exact ⟨rfl, (Below.refl _ _).alloc (Nat.le_refl _) _⟩
theorem early_some (a : Addr) (n c : Nat) (w : World) (hn : n ≤ c) (_hc : c ≤ maxLen) : Calls Try.prog 18 #[.slice (some a) n c] w fun e w' => (e = .returned (.slice (some a) (min n 100) c)) ∧ w = w' := by
  by_cases h : n ≤ 100
  · have h' : (n : Int) ≤ 100 := by omega
    rw [show min n 100 = n by omega]
    go_enter Try.func18, Try.ntmps18
    go_wp2
    go_ret
    exact ⟨rfl, rfl⟩
  · have h' : ¬ (n : Int) ≤ 100 := by omega
    rw [show min n 100 = 100 by omega]
    go_enter Try.func18, Try.ntmps18
    go_wp2
    go_ret
    exact ⟨rfl, rfl⟩
theorem early_none (w : World) : Calls Try.prog 18 #[.slice none 0 0] w fun e w' => (e = .returned (.slice none 0 0)) ∧ w = w' := by
  go_enter Try.func18, Try.ntmps18
  go_wp2
  go_ret
  exact ⟨rfl, rfl⟩

/-- A slice of steps that may be read. -/
def OpsAt (w : World) (A : Option Addr) (n : Nat) : Prop := ∀ k, k < n → ∃ (g o : Nat) (kd t : Int) (x : Nat), A = some ⟨g, o, none⟩ ∧ g < w.heap.size ∧ x < 18446744073709551616 ∧
  w.cell? ⟨g, o + k * 3, none⟩ = some (.int .i64 kd) ∧ w.cell? ⟨g, o + k * 3 + 1, none⟩ = some (.int .i64 t) ∧ w.cell? ⟨g, o + k * 3 + 2, none⟩ = some (.float .f64 x)
theorem ops_of {H : Type} {enc : TypeId × Value → H} {W : World} {base : Nat} {v : Value} {d : DataW H} {p : List MemPlace}
    (hval : Value.okWide Try.prog W .any base 40 v) (h : DataW.Trod enc Try.prog W 0 (fun _ => true) true 40 v d p) : ∃ (A : Option Addr) (n c : Nat), v = .slice A n c ∧ n ≤ c ∧ c ≤ maxLen ∧ (A = none → n = 0 ∧ c = 0) ∧ OpsAt W A n := by
  obtain ⟨a0, len, cap, rfl⟩ := okWide_slice Try.underlying40 hval
  obtain ⟨fuel, hf⟩ := h
  rcases DataW.trod_slice Try.underlying40 hf with ⟨hcs, _⟩ | ⟨a, len', cap', elems, rest, m, _, hcs, _, _, hl, hm, hlen, hel, _⟩
  · simp [Value.cells] at hcs
    obtain ⟨rfl, rfl, rfl⟩ := hcs
    exact ⟨none, 0, 0, rfl, by omega, Nat.zero_le _, fun _ => ⟨rfl, rfl⟩, fun k hk => absurd hk (by omega)⟩
  · simp [Value.cells] at hcs
    obtain ⟨rfl, rfl, rfl⟩ := hcs
    refine ⟨some a, _, _, rfl, hl, hm, fun h => (by cases h), fun k hk => ?_⟩
    have hk0 := hel 0 (by omega)
    rw [List.getElem?_eq_getElem (by omega), Option.bind_eq_some_iff] at hk0
    obtain ⟨cs0, hcs0, _⟩ := hk0
    obtain ⟨_, hl0, hcell0⟩ := World.cells?_some hcs0
    have hc0 := hcell0 0 (by rw [show Try.prog.cellsOf 43 = 3 by kernel_rfl]; omega)
    rw [show Try.prog.cellsOf 43 = 3 by kernel_rfl] at hl0
    rw [List.getElem?_eq_getElem (by omega)] at hc0
    have hk' := hel k hk
    rw [List.getElem?_eq_getElem (by omega), show Try.prog.cellsOf 43 = 3 by kernel_rfl, Option.bind_eq_some_iff] at hk'
    obtain ⟨cs, hcs, hy⟩ := hk'
    obtain ⟨_, hl3, hcell⟩ := World.cells?_some hcs
    obtain ⟨xs, m', _, _, _, hxs, hfl⟩ := DataW.trod_struct Try.underlying43 hy
    match cs, hl3 with
    | [c0, c1, c2], _ =>
      have h0 := (hfl 0 _ rfl).trans (List.getElem?_eq_getElem (by rw [hxs]; decide))
      have h1 := (hfl 1 _ rfl).trans (List.getElem?_eq_getElem (by rw [hxs]; decide))
      have h2 := (hfl 2 _ rfl).trans (List.getElem?_eq_getElem (by rw [hxs]; decide))
      obtain ⟨kd, e0, _, _⟩ := DataW.trod_int Try.underlying3 h0
      obtain ⟨t, e1, _, _⟩ := DataW.trod_int Try.underlying3 h1
      obtain ⟨x, e2, wx⟩ := trod_float Try.underlying22 h2
      change List.take (Try.prog.cellsOf 3) (List.drop 0 [c0, c1, c2]) = _ at e0
      change List.take (Try.prog.cellsOf 3) (List.drop 1 [c0, c1, c2]) = _ at e1
      change List.take (Try.prog.cellsOf 22) (List.drop 2 [c0, c1, c2]) = _ at e2
      rw [show Try.prog.cellsOf 3 = 1 by kernel_rfl] at e0 e1
      rw [show Try.prog.cellsOf 22 = 1 by kernel_rfl] at e2
      simp at e0 e1 e2
      subst e0 e1 e2
      have k0 := hcell 0 (by omega)
      have k1 := hcell 1 (by omega)
      have k2 := hcell 2 (by omega)
      obtain ⟨b, off, spot⟩ := a
      have hspot : spot = none := by simpa [Addr.add] using World.cell?_spot hc0
      subst hspot
      simp only [Go.WideShapes.add_plain, List.getElem?_cons_zero, List.getElem?_cons_succ, Nat.add_zero] at k0 k1 k2
      exact ⟨b, off, kd, t, x, rfl, World.block_lt_of_cell? W ⟨b, off + k * 3, none⟩ k0, wf64 wx, k0, k1, k2⟩

theorem ltB_pos (r s : Nat) (hr : r ≤ top) (hs : s ≤ top) : ltB r s = decide (r < s) := by
  unfold ltB
  rw [key_pos r hr, key_pos s hs]
  rw [decide_eq_decide]
  exact ⟨fun h => by omega, fun h => ⟨nan_pos r hr, nan_pos s hs, by omega⟩⟩
theorem lt_at (x y : Nat) (b : Bool) (h : ltB x y = b) : (FloatKind.f64.format.order x y == some .lt) = b := by rw [show (FloatKind.f64.format.order x y == some .lt) = ltB x y from order_lt x y]; exact h

theorem lev_up (r : Nat) (a h t : Int) (x : Nat) (_hr : r ≤ top) (hx : x < 18446744073709551616) (hg : gtB x 0 = true) : lvl r a h t x ≤ top ∧ 0 < lvl r a h t x ∧ ltB (lvl r a h t x) x = false := by
  obtain ⟨k1, k2⟩ := gt_zero x hx hg
  rw [lvl_yes r a h t x hg]
  have s := sum_right (halves (stepsI a h t).toNat r) x k1
  have s2 := sum_top (halves (stepsI a h t).toNat r) x
  exact ⟨s2, by omega, by rw [ltB_pos _ _ s2 k1]; exact decide_eq_false (by omega)⟩
theorem lev_down (r : Nat) (a h t : Int) (y : Nat) (hr : r ≤ top) (hg : gtB y 0 = false) : lvl r a h t y ≤ top ∧ gtB (lvl r a h t y) r = false := by
  rw [lvl_no r a h t y hg]
  have s := halves_le (stepsI a h t).toNat r hr
  exact ⟨by omega, by rw [gtB_pos _ _ (by omega) hr]; exact decide_eq_false (by omega)⟩
theorem lev_num (L : Nat) (hL : L ≤ top) : (FloatKind.f64.format.order L L != some .eq) = false ∧ (FloatKind.f64.format.order L 0 == some .lt) = false ∧ (FloatKind.f64.format.order L 0 == some .eq) = decide (L = 0) := by
  refine ⟨?_, ?_, ?_⟩
  · rw [bne, eq_at L L true (eq_same L hL)]; rfl
  · exact lt_at L 0 false (by rw [ltB_pos _ _ hL zero_top]; exact decide_eq_false (by omega))
  · exact eq_at L 0 _ (eqB_pos _ _ hL zero_top)

/-- WHAT HOLDS AT THE HEAD OF EACH ROUND. -/
def LevRel (w : World) (g : Nat) (h : Int) (n : Nat) (lv iv : Value) (wr : World) : Prop :=
  ∃ (k r : Nat) (a : Int), k ≤ n ∧ iv = .int .i64 k ∧ lv = .float .f64 r ∧ PaceAt wr g r a h ∧ Below w.heap.size w wr

set_option maxRecDepth 100000 in
set_option maxHeartbeats 4000000 in
theorem levels_some (half : Int) (A : Addr) (n c : Nat) (w : World) (hn : n ≤ c) (hc : c ≤ maxLen) (hA : Hid (OpsAt w (some A) n)) :
    Calls Try.prog 7 #[.int .i64 half, .slice (some A) n c] w fun e w' => e = .returned (.bool true) ∧ Below w.heap.size w w' := by
  have hh := clampH_bd half
  go_enter Try.func7, Try.ntmps7
  go_wp2_with fail
  refine (lives_any _).mono ?_
  rintro e w1 ⟨rfl, B1⟩
  go_wp2_with fail
  refine (new_any half _).mono ?_
  rintro e w2 ⟨rfl, rfl⟩
  have P0 := pace_new w1 half
  have hz : w.heap.size ≤ w1.heap.size := B1.size
  have B2 : Below w.heap.size w (w1.alloc (.cells (paceCells 0 0 (clampH half)) 48)) := (B1.alloc B1.size _)
  clear B1
  generalize clampH half = h at *
  go_wp2_with fail
  refine (early_some A n c _ hn hc).mono ?_
  rintro e w3 ⟨rfl, rfl⟩
  have hm : min n 100 ≤ n := by omega
  have hm1 : min n 100 ≤ 100 := by omega
  generalize min n 100 = m at *
  go_wp2_with fail
  go_loopw [6, 7] (fun l i wr => LevRel w w1.heap.size h m l i wr) (fun _ i _ => m - (intOf i).toNat)
  case atStart => exact ⟨0, 0, 0, by omega, rfl, rfl, P0, B2⟩
  case round =>
    obtain ⟨k, r, a, hk, rfl, rfl, PA, BB⟩ := hrel
    by_cases hkm : k < m
    · obtain ⟨g, o, kd, t, x, hAe, hg, hx, c0, c1, c2⟩ := (show OpsAt w (some A) n from hA) k (by omega)
      injection hAe with hAe
      subst hAe
      have d0 := (BB.cell (p := ⟨g, o + k * 3, none⟩) hg).trans c0
      have d1 := (BB.cell (p := ⟨g, o + k * 3 + 1, none⟩) hg).trans c1
      have d2 := (BB.cell (p := ⟨g, o + k * 3 + 2, none⟩) hg).trans c2
      go_wp2_with fail
      refine (kind_any kd t x _).mono ?_
      rintro e w4 ⟨rfl, B4⟩
      have O0 : Blk (wr.alloc (Obj.cells #[Value.int IntKind.i64 kd, Value.int IntKind.i64 t, Value.float FloatKind.f64 x] 43)) wr.heap.size 43 #[Value.int IntKind.i64 kd, Value.int IntKind.i64 t, Value.float FloatKind.f64 x] := Blk.new _ _ _
      have O1 := O0.below B4 (by simp)
      have o1 := O1.cell 1
      have o2 := O1.cell 2
      simp only [List.getElem?_toArray, List.getElem?_cons_zero, List.getElem?_cons_succ] at o1 o2
      have PA1 : PaceAt w4 w1.heap.size r a h := ⟨(PA.1.alloc _).below B4 (by have := PA.1.lt; simp; omega), PA.2⟩
      have BB1 : Below w.heap.size w w4 := (BB.alloc BB.size _).trans (B4.mono (by have := BB.size; simp; omega))
      have hne : w1.heap.size ≠ wr.heap.size := by have := PA.1.lt; omega
      have hr : r ≤ top := PA.2.1
      clear O0 PA BB B4 d0 d1 d2 c0 c1 c2
      generalize wrap64 ((IntKind.u64.wrap kd).tmod 4) = K
      by_cases hK : K = 0
      · subst hK
        cases hgx : gtB x 0
        · skip
          have HA := Lib.hid (fun W hW => add_any w1.heap.size r x a h t W hW hx)
          obtain ⟨hL, hd⟩ := lev_down r a h t x hr hgx
          obtain ⟨f1, f2, f3⟩ := lev_num _ hL
          have f5 := gt_at _ _ _ hd
          have f4 := gt_at _ _ _ hgx
          clear hd hgx
          generalize lvl r a h t x = L at *
          generalize a + stepsI a h t * h = a' at *
          go_wp2_with fail
          refine (HA.out _ PA1).mono ?_
          rintro e w5 ⟨rfl, PA2, g5⟩
          have BB2 := below_grown BB1 g5 (by omega)
          have O2 := O1.grown g5 (by intro hq; injection hq with hq; omega)
          have o12 := O2.cell 1
          have o22 := O2.cell 2
          simp only [List.getElem?_toArray, List.getElem?_cons_zero, List.getElem?_cons_succ] at o12 o22
          clear o1 o2 O1 HA g5 PA1 BB1
          by_cases hz0 : L = 0
          · subst hz0
            have f3' : (FloatKind.f64.format.order 0 0 == some .eq) = true := f3
            clear f3
            go_wp2_with fail
            refine (sign_zero _).mono ?_
            rintro e w6 ⟨rfl, rfl⟩
            go_wp2_with fail
            exact ⟨⟨k + 1, 0, a', by omega, by simp, rfl, PA2, BB2⟩, by simp [intOf]; omega⟩
          · rw [show decide (L = 0) = false from decide_eq_false hz0] at f3
            go_wp2_with fail
            exact ⟨⟨k + 1, L, a', by omega, by simp, rfl, PA2, BB2⟩, by simp [intOf]; omega⟩
        · skip
          have HA := Lib.hid (fun W hW => add_any w1.heap.size r x a h t W hW hx)
          obtain ⟨hL, hL0, hd⟩ := lev_up r a h t x hr hx hgx
          obtain ⟨f1, f2, f3⟩ := lev_num _ hL
          have f6 := lt_at _ _ _ hd
          have f4 := gt_at _ _ _ hgx
          rw [show decide (lvl r a h t x = 0) = false from decide_eq_false (by omega)] at f3
          clear hd hgx
          generalize lvl r a h t x = L at *
          generalize a + stepsI a h t * h = a' at *
          go_wp2_with fail
          refine (HA.out _ PA1).mono ?_
          rintro e w5 ⟨rfl, PA2, g5⟩
          have BB2 := below_grown BB1 g5 (by omega)
          have O2 := O1.grown g5 (by intro hq; injection hq with hq; omega)
          have o12 := O2.cell 1
          have o22 := O2.cell 2
          simp only [List.getElem?_toArray, List.getElem?_cons_zero, List.getElem?_cons_succ] at o12 o22
          clear o1 o2 O1 HA g5 PA1 BB1
          go_wp2_with fail
          exact ⟨⟨k + 1, L, a', by omega, by simp, rfl, PA2, BB2⟩, by simp [intOf]; omega⟩
      · skip
        have hK' : (K == 0) = false := by simpa using hK
        have HA := Lib.hid (fun W hW => add_any w1.heap.size r 0 a h t W hW (by omega))
        obtain ⟨hL, hd⟩ := lev_down r a h t 0 hr (by decide)
        obtain ⟨f1, f2, f3⟩ := lev_num _ hL
        have f5 := gt_at _ _ _ hd
        clear hd
        generalize lvl r a h t 0 = L at *
        generalize a + stepsI a h t * h = a' at *
        go_wp2_with fail
        refine (HA.out _ PA1).mono ?_
        rintro e w5 ⟨rfl, PA2, g5⟩
        have BB2 := below_grown BB1 g5 (by omega)
        have O2 := O1.grown g5 (by intro hq; injection hq with hq; omega)
        have o12 := O2.cell 1
        have o22 := O2.cell 2
        simp only [List.getElem?_toArray, List.getElem?_cons_zero, List.getElem?_cons_succ] at o12 o22
        clear o1 o2 O1 HA g5 PA1 BB1
        by_cases hz0 : L = 0
        · subst hz0
          have f3' : (FloatKind.f64.format.order 0 0 == some .eq) = true := f3
          clear f3
          go_wp2_with fail
          refine (sign_zero _).mono ?_
          rintro e w6 ⟨rfl, rfl⟩
          go_wp2_with fail
          exact ⟨⟨k + 1, 0, a', by omega, by simp, rfl, PA2, BB2⟩, by simp [intOf]; omega⟩
        · rw [show decide (L = 0) = false from decide_eq_false hz0] at f3
          go_wp2_with fail
          exact ⟨⟨k + 1, L, a', by omega, by simp, rfl, PA2, BB2⟩, by simp [intOf]; omega⟩
    · obtain rfl : k = m := by omega
      go_wp2
      go_ret
      exact ⟨rfl, BB⟩

set_option maxRecDepth 100000 in
set_option maxHeartbeats 4000000 in
theorem levels_none (half : Int) (w : World) :
    Calls Try.prog 7 #[.int .i64 half, .slice none 0 0] w fun e w' => e = .returned (.bool true) ∧ Below w.heap.size w w' := by
  go_enter Try.func7, Try.ntmps7
  go_wp2_with fail
  refine (lives_any _).mono ?_
  rintro e w1 ⟨rfl, B1⟩
  go_wp2_with fail
  refine (new_any half _).mono ?_
  rintro e w2 ⟨rfl, rfl⟩
  have B2 : Below w.heap.size w (w1.alloc (.cells (paceCells 0 0 (clampH half)) 48)) := (B1.alloc B1.size _)
  clear B1
  generalize clampH half = h at *
  go_wp2_with fail
  refine (early_none _).mono ?_
  rintro e w3 ⟨rfl, rfl⟩
  go_wp2_with fail
  go_loopw [6, 7] (fun l i wr => l = .float .f64 0 ∧ i = .int .i64 0 ∧ Below w.heap.size w wr) (fun _ i _ => 1 - (intOf i).toNat)
  case atStart => exact ⟨rfl, rfl, B2⟩
  case round =>
    obtain ⟨rfl, rfl, BB⟩ := hrel
    go_wp2
    go_ret
    exact ⟨rfl, BB⟩
theorem levels_any (half : Int) (A : Option Addr) (n c : Nat) (w : World) (hn : n ≤ c) (hc : c ≤ maxLen) (hz : A = none → n = 0 ∧ c = 0) (hA : OpsAt w A n) :
    Calls Try.prog 7 #[.int .i64 half, .slice A n c] w fun e w' => e = .returned (.bool true) ∧ Below w.heap.size w w' := by
  cases A with
  | none => obtain ⟨rfl, rfl⟩ := hz rfl; exact levels_none half w
  | some A => exact levels_some half A n c w hn hc hA

set_option maxRecDepth 100000 in
theorem paceLevels_lifted (os : Os) (started : os.Started) (H : Type) (enc : TypeId × Value → H) :
    ReturnsInHanded {} Try.checked os 7 .any (Rows.paceLevelsSpec.pre6 enc Try.prog Try.f7 Rows.paceLevelsRow.domain false) (Rows.paceLevelsSpec.post enc Try.prog Try.f7 false true false false) := by
  refine returnsInHanded_of_change (C := Try.checked) Try.own started (by kernel_rfl) Try.func7
    (ChangeSpec.witness6 (enc := enc) (C := Try.checked) false ⟨#[], #[.int .i64 0, .slice none 0 0], []⟩ 8 (by kernel_rfl) (by kernel_rfl) (by kernel_rfl) (by kernel_rfl)) ?_
  intro W base args ds gs before hval0 hW hcnd _
  have hval : ∀ (j : Nat) t v, Try.f7.params[j]? = some t → args[j]? = some v → Value.okWide Try.prog W .any base t v := hval0
  have hW' := hW
  obtain ⟨p, q, hA0, hV, rfl, hfz, hnd⟩ := hW
  have hA : DataW.TrodAll enc Try.prog W 0 (fun _ => true) true Try.f7.params.toList args.toList ds p := hA0
  have hA1 := hA
  rw [Try.params7] at hA hval
  obtain ⟨v0, v1, d0, d1, p0, p1, rfl, rfl, rfl, h0, h1⟩ := trodAll_two hA
  obtain ⟨rfl, rfl⟩ := trodVars_none hV
  obtain ⟨half, rfl, rfl, rfl, wh⟩ := open_int Try.underlying3 (hval 0 3 v0 rfl rfl) h0
  obtain ⟨A, n, c, rfl, hn, hm, hz, hi⟩ := ops_of (hval 1 40 v1 rfl rfl) h1
  clear hA0 hval0
  simp only [List.append_nil, List.nil_append] at hW' hA1
  refine (levels_any half A n c W hn hm hz hi).mono fun e W' ⟨he, hb⟩ => ?_
  subst he
  have hts : ∀ t ∈ Try.f7.params.toList, Try.prog.readableRec t = true ∧ t < Try.prog.types.size := by
    rw [Try.params7]
    intro t ht
    simp at ht
    rcases ht with rfl | rfl
    all_goals exact ⟨by kernel_rfl, of_decide_eq_true (by kernel_rfl)⟩
  exact ⟨_, rfl, post_of_below (pa := p1) (pv := []) hW' (fun _ _ _ => trodAll_mk1 (shut_bool Try.underlying4 _)) (fun sp hsp => trodAll_below Try.laidOut hb hts hA1 (fun x hx => ⟨hW'.lt x hx, hsp x hx⟩)) (fun _ _ => rfl) (by simp)
    hb (ok_one (by kernel_rfl) rfl (okWide_bool_mk Try.underlying4 _))⟩

theorem paceLevels_holds : Rows.PaceLevelsSaid :=
  OpenClaim.holds_of_wide 7 Try.f7 rfl rfl rfl rfl rfl rfl rfl ⟨rfl, rfl, rfl, rfl, rfl⟩ rfl rfl rfl rfl rfl (by kernel_rfl) Try.func7 (by kernel_rfl)
    (of_decide_eq_true (by kernel_rfl)) (by unfold Func.isWrapper; first | (rw [if_pos (by decide +kernel)]; kernel_rfl) | (rw [if_neg (by decide +kernel)]; exact ⟨rfl, rfl⟩))
    (fun os started H enc _ => paceLevels_lifted os started H enc)
#print axioms paceLevels_holds
end Go.Proofs.Ythpnfbpkoiebaaa
