/- The inner functions of package pace: IsInf, New, goOn, Add, Level, Over, as plain functions of the level's bits, its time and its half. -/
import Derived.Test.YthpnfbpkoiebaaaRows
import Derived.Test.YthpnfbpkoiebaaaFl
import Derived.WalkKit
import Derived.WalkSpells
import Derived.WalkLawsBesides
import Derived.Deep.RegionHeld3
import Derived.Deep.DrawnRows
import Derived.Lib.Hide
import Derived.BigQuiet
import Derived.StillTailTactics
namespace Go.Proofs.Ythpnfbpkoiebaaa
open Go.RowKit PaceFl
attribute [local go_sem ↓] Go.wp_at_zero Go.wp_at_succ

theorem run_store_float (P : Program) (w : World) (a : Addr) (m : Mode) (k : FloatKind) (b : Nat) : (store a (.float k b) m).run P w = stored P w a (.float k b) m := run_store P w a _ m rfl
attribute [local go_sem] run_store_float

theorem ret_bool {a b : Bool} (h : a = b) : Ending.returned (.bool a) = .returned (.bool b) := by rw [h]
theorem f64_gt (x y : Nat) : (FloatKind.f64.format.order x y == some .gt) = gtB x y := order_gt x y
theorem f64_eq (x y : Nat) : (FloatKind.f64.format.order x y == some .eq) = eqB x y := order_eq x y
theorem f64_le (x y : Nat) : (FloatKind.f64.format.order x y == some .lt || FloatKind.f64.format.order x y == some .eq) = leB x y := order_le x y

theorem inf_any (x : Nat) (w : World) : Calls Try.prog 13 #[.float .f64 x, .int .i64 1] w fun e w' => e = .returned (.bool (gtB x 9218868437227405311)) ∧ w = w' := by
  go_enter Try.func13, Try.ntmps13
  go_wp2
  go_ret
  exact ⟨ret_bool (f64_gt _ _), rfl⟩

theorem eqB_pos (r s : Nat) (hr : r ≤ top) (hs : s ≤ top) : eqB r s = decide (r = s) := by
  unfold eqB
  rw [key_pos r hr, key_pos s hs]
  simp [nan_pos r hr, nan_pos s hs] <;> omega
theorem gtB_pos (r s : Nat) (hr : r ≤ top) (hs : s ≤ top) : gtB r s = decide (s < r) := by
  unfold gtB
  rw [key_pos r hr, key_pos s hs]
  simp [nan_pos r hr, nan_pos s hs] <;> omega
theorem leB_pos (r s : Nat) (hr : r ≤ top) (hs : s ≤ top) : leB r s = decide (r ≤ s) := by
  unfold leB
  rw [key_pos r hr, key_pos s hs]
  simp [nan_pos r hr, nan_pos s hs] <;> omega
theorem zero_top : 0 ≤ top := Nat.zero_le _
theorem gtB_max (r : Nat) (hr : r ≤ top) : gtB r 9218868437227405311 = decide (r = top) := by
  rw [gtB_pos r _ hr (by decide)]
  unfold top at *
  rw [decide_eq_decide]
  omega
theorem halves_stay (k N r : Nat) (hk : k ≤ N) (h : halves k r = 0 ∨ halves k r = top) : halves N r = halves k r := by
  rw [show N = k + (N - k) by omega, halves_add]
  rcases h with h | h
  · rw [h, halves_zero]
  · rw [h, halves_inf]
theorem inf_at (x : Nat) (b : Bool) (h : Hid (gtB x 9218868437227405311 = b)) (w : World) : Calls Try.prog 13 #[.float .f64 x, .int .i64 1] w fun e w' => e = .returned (.bool b) ∧ w = w' := by
  have h' : gtB x 9218868437227405311 = b := h
  rw [← h']; exact inf_any x w

def clampH (half : Int) : Int := min (max half 1) 1000
theorem clampH_bd (half : Int) : 1 ≤ clampH half ∧ clampH half ≤ 1000 := by unfold clampH; omega
def paceCells (r : Nat) (a h : Int) : Array Value := #[.float .f64 r, .int .i64 a, .int .i64 h]
theorem new_at (half : Int) (h : Int) (hh : (half < 1 ∧ h = 1) ∨ (1000 < half ∧ h = 1000) ∨ (1 ≤ half ∧ half ≤ 1000 ∧ h = half)) (w : World) : Calls Try.prog 9 #[.int .i64 half] w fun e w' => e = .returned (.pointer (some ⟨w.heap.size, 0, none⟩)) ∧ w' = w.alloc (.cells #[.float .f64 0, .int .i64 0, .int .i64 h] 48) := by
  rcases hh with ⟨h1, rfl⟩ | ⟨h1, rfl⟩ | ⟨h1, h2, rfl⟩
  · go_enter Try.func9, Try.ntmps9
    go_wp2
    all_goals (go_ret; exact ⟨rfl, rfl⟩)
  · have k : ¬ half < 1 := by omega
    go_enter Try.func9, Try.ntmps9
    go_wp2
    all_goals (go_ret; exact ⟨rfl, rfl⟩)
  · have k : ¬ h < 1 := by omega
    have k' : ¬ 1000 < h := by omega
    go_enter Try.func9, Try.ntmps9
    go_wp2
    all_goals (go_ret; exact ⟨rfl, rfl⟩)
theorem new_any (half : Int) (w : World) : Calls Try.prog 9 #[.int .i64 half] w fun e w' => e = .returned (.pointer (some ⟨w.heap.size, 0, none⟩)) ∧ w' = w.alloc (.cells (paceCells 0 0 (clampH half)) 48) :=
  new_at half (clampH half) (by unfold clampH; omega) w

/-- Block g is just these cells. -/
def Blk (w : World) (g : Nat) (t : TypeId) (cs : Array Value) : Prop := w.heap[g]? = some (.cells cs t (0, 0))
section
variable {w w' : World} {g : Nat} {t : TypeId} {cs : Array Value}
theorem Blk.lt (h : Blk w g t cs) : g < w.heap.size := by
  rcases Nat.lt_or_ge g w.heap.size with hlt | hge
  · exact hlt
  · unfold Blk at h; rw [Array.getElem?_eq_none hge] at h; cases h
theorem Blk.cell (h : Blk w g t cs) (i : Nat) : w.cell? ⟨g, i, none⟩ = cs[i]? := cell_of_row w g i cs t (0, 0) h
theorem Blk.frozen (h : Blk w g t cs) (i : Nat) : w.frozen? ⟨g, i, none⟩ = false := by
  unfold Blk at h
  simp [World.frozen?, h]
theorem Blk.new (w : World) (t : TypeId) (cs : Array Value) : Blk (w.alloc (.cells cs t)) w.heap.size t cs := heap_alloc_new w _
theorem Blk.alloc (h : Blk w g t cs) (o : Obj) : Blk (w.alloc o) g t cs := (Below.heap_alloc w o g h.lt).trans h
theorem Blk.set_ (h : Blk w g t cs) (i : Nat) (u : Value) : Blk (w.setCell ⟨g, i, none⟩ u) g t (cs.setIfInBounds i u) := by
  unfold Blk at h ⊢
  simp [World.setCell, Array.getElem?_modify, h]
theorem Blk.far (h : Blk w g t cs) {p : Addr} (hp : g ≠ p.block) (u : Value) : Blk (w.setCell p u) g t cs := (Below.heap_setCell w p u g hp).trans h
theorem Blk.below {B : Nat} (h : Blk w g t cs) (hb : Below B w w') (hg : g < B) : Blk w' g t cs := (hb.block g hg).trans h
theorem Blk.drew (h : Blk w g t cs) : Blk w.drew g t cs := h
theorem Blk.grown {row : Option Nat} (h : Blk w g t cs) (hb : w.grownBy w' row) (hg : some g ≠ row) : Blk w' g t cs := (hb.block g h.lt hg).trans h
end
theorem only_drew {a w : World} {row : Option Nat} (h : a.grownBy w row) : a.grownBy w.drew row := ⟨h.os, h.tape, h.output, h.size, h.block⟩
theorem only_setCell {a w : World} {g : Nat} (h : a.grownBy w (some g)) {p : Addr} (hp : p.block = g) (u : Value) : a.grownBy (w.setCell p u) (some g) :=
  ⟨h.os, h.tape, h.output, by simpa [World.setCell] using h.size, fun i hi hne => (Below.heap_setCell w p u i (by
    rintro rfl
    exact hne (by rw [hp]))).trans (h.block i hi hne)⟩
theorem only_trans {a b c : World} {g : Nat} (h : a.grownBy b (some g)) (k : b.grownBy c (some g)) : a.grownBy c (some g) :=
  ⟨k.os.trans h.os, k.tape.trans h.tape, k.output.trans h.output, Nat.le_trans h.size k.size, fun i hi hne => (k.block i (Nat.lt_of_lt_of_le hi h.size) hne).trans (h.block i hi hne)⟩

/-- A pace in its block: level, time, half. -/
def PaceAt (w : World) (g : Nat) (r : Nat) (a h : Int) : Prop := Blk w g 48 #[.float .f64 r, .int .i64 a, .int .i64 h] ∧ r ≤ top ∧ 0 ≤ a ∧ a ≤ 1099511627776 ∧ 1 ≤ h ∧ h ≤ 1000
/-- How many halves lie between. -/
def stepsI (a h now : Int) : Int := (min (max now a) 1099511627776 - a) / h
def PaceRel (w : World) (g : Nat) (r : Nat) (a' h : Int) (n : Nat) (i : Value) (wr : World) : Prop :=
  ∃ k : Nat, k ≤ n ∧ i = .int .i64 k ∧ Blk wr g 48 #[.float .f64 (halves k r), .int .i64 a', .int .i64 h] ∧ w.grownBy wr (some g)

/-- No half lies between: nothing turns. -/
theorem goOn_low (g : Nat) (r : Nat) (a hf now : Int) (w : World) (hb : Blk w g 48 #[.float .f64 r, .int .i64 a, .int .i64 hf]) (ha0 : 0 ≤ a) (ha1 : a ≤ 1099511627776) (hh1 : 1 ≤ hf) (_hh2 : hf ≤ 1000) (h1 : now < a) :
    Calls Try.prog 21 #[.pointer (some ⟨g, 0, none⟩), .int .i64 now] w fun e w' => e = .returned (.tuple #[]) ∧ Blk w' g 48 #[.float .f64 r, .int .i64 a, .int .i64 hf] ∧ w.grownBy w' (some g) := by
  have x0 := hb.cell 0
  have x1 := hb.cell 1
  have x2 := hb.cell 2
  simp only [List.getElem?_toArray, List.getElem?_cons_zero, List.getElem?_cons_succ] at x0 x1 x2
  have f0 := hb.frozen 0
  have f1 := hb.frozen 1
  have k2 : ¬ hf = 0 := by omega
  have k3 : (hf == 0) = false := by simp; omega
  have e0 : IntKind.i64.wrap 0 = 0 := by decide
  have e1 : (0 : Int).tdiv hf = 0 := Int.zero_tdiv _
  have e2 : IntKind.i64.wrap a = a := IntWalk.i64_in _ (by omega)
  go_enter Try.func21, Try.ntmps21
  go_step3
  go_wp2_with fail
  go_region_held3 (fun w' => w'.cell? ⟨g, 0, none⟩ = some (.float .f64 r) ∧ w'.cell? ⟨g, 1, none⟩ = some (.int .i64 a) ∧ w'.cell? ⟨g, 2, none⟩ = some (.int .i64 hf)) (go_keep) (fail)
  go_wp2_with fail
  go_region
  go_wp2_with fail
  go_step3
  go_wp2_with fail
  go_loopw [36] (fun i wr => PaceRel w g r (a) hf 0 i wr) (fun i _ => 0 - (intOf i).toNat)
  case atStart => exact ⟨0, by omega, rfl, hb.set_ 1 (.int .i64 a), only_drew (only_drew (only_setCell (World.grownBy.refl w _) rfl _))⟩
  case round =>
    obtain ⟨k, hk, rfl, hbk, hgk⟩ := hrel
    obtain rfl : k = 0 := by omega
    go_wp2
    rw [Exit.noGoto_normal]
    go_end0
    exact ⟨rfl, hbk, hgk⟩
set_option maxHeartbeats 1000000 in
theorem goOn_mid (g : Nat) (r : Nat) (a hf now : Int) (N : Nat) (w : World) (hb : Blk w g 48 #[.float .f64 r, .int .i64 a, .int .i64 hf]) (hr : r ≤ top) (ha0 : 0 ≤ a) (ha1 : a ≤ 1099511627776) (hh1 : 1 ≤ hf) (_hh2 : hf ≤ 1000)
    (h1 : a ≤ now) (h2 : now ≤ 1099511627776) (hN : (now - a) / hf = (N : Int)) :
    Calls Try.prog 21 #[.pointer (some ⟨g, 0, none⟩), .int .i64 now] w fun e w' => e = .returned (.tuple #[]) ∧ Blk w' g 48 #[.float .f64 (halves N r), .int .i64 (a + N * hf), .int .i64 hf] ∧ w.grownBy w' (some g) := by
  have x0 := hb.cell 0
  have x1 := hb.cell 1
  have x2 := hb.cell 2
  simp only [List.getElem?_toArray, List.getElem?_cons_zero, List.getElem?_cons_succ] at x0 x1 x2
  have f0 := hb.frozen 0
  have f1 := hb.frozen 1
  have k2 : ¬ hf = 0 := by omega
  have k3 : (hf == 0) = false := by simp; omega
  have p1 : 0 ≤ (N : Int) * hf := Int.mul_nonneg (by omega) (by omega)
  have p2 : (N : Int) * hf ≤ now - a := by
    rw [← hN]
    exact Int.ediv_mul_le _ (by omega)
  have p3 : (N : Int) ≤ 1099511627776 := by
    have e : (N : Int) * 1 ≤ N * hf := Int.mul_le_mul_of_nonneg_left hh1 (by omega)
    omega
  have k : ¬ now < a := by omega
  have k4 : 0 ≤ now - a := by omega
  have e1 : IntKind.i64.wrap (now - a) = now - a := IntWalk.i64_in _ (by omega)
  have e2 : (now - a).tdiv hf = N := by rw [Int.tdiv_eq_ediv_of_nonneg k4]; exact hN
  have e3 : IntKind.i64.wrap (N : Int) = N := IntWalk.i64_in _ (by omega)
  have e4 : IntKind.i64.wrap ((N : Int) * hf) = N * hf := IntWalk.i64_in _ (by omega)
  have e5 : IntKind.i64.wrap (a + (N : Int) * hf) = a + N * hf := IntWalk.i64_in _ (by omega)
  go_enter Try.func21, Try.ntmps21
  go_step3
  go_wp2_with fail
  go_region_held3 (fun w' => w'.cell? ⟨g, 0, none⟩ = some (.float .f64 r) ∧ w'.cell? ⟨g, 1, none⟩ = some (.int .i64 a) ∧ w'.cell? ⟨g, 2, none⟩ = some (.int .i64 hf)) (go_keep) (fail)
  go_wp2_with fail
  go_region
  go_wp2_with fail
  go_step3
  go_wp2_with fail
  go_loopw [36] (fun i wr => PaceRel w g r (a + N * hf) hf N i wr) (fun i _ => N - (intOf i).toNat)
  case atStart => exact ⟨0, by omega, rfl, hb.set_ 1 (.int .i64 (a + N * hf)), only_drew (only_drew (only_setCell (World.grownBy.refl w _) rfl _))⟩
  case round =>
    obtain ⟨k, hk, rfl, hbk, hgk⟩ := hrel
    clear x0 x1 x2 f0 f1 hb
    have c0 := hbk.cell 0
    have d0 := hbk.frozen 0
    simp only [List.getElem?_toArray, List.getElem?_cons_zero] at c0
    have ht := halves_top k r hr
    have hq := fun W : World => run_float_arith (P := Try.prog) W .quo 22 .f64 (halves k r) 4611686018427387904 (half (halves k r)) (half_div _ ht)
    by_cases hlt : k < N
    · by_cases z : halves k r = 0
      · have hs := halves_stay k N r hk (.inl z)
        have z' : (FloatKind.f64.format.order (halves k r) 0 == some .eq) = true := by rw [f64_eq, eqB_pos _ _ ht zero_top]; exact decide_eq_true z
        have HS := Lib.hid hs
        clear hs z hq
        go_wp2
        rw [Exit.noGoto_normal]
        go_end0
        exact ⟨rfl, by rw [HS.out]; exact hbk, hgk⟩
      · by_cases t : halves k r = top
        · have hs := halves_stay k N r hk (.inr t)
          have z' : (FloatKind.f64.format.order (halves k r) 0 == some .eq) = false := by rw [f64_eq, eqB_pos _ _ ht zero_top]; exact decide_eq_false z
          have t' : Hid (gtB (halves k r) 9218868437227405311 = true) := by rw [gtB_max _ ht]; exact decide_eq_true t
          have HS := Lib.hid hs
          clear hs z t hq
          go_wp2_with fail
          refine (inf_at _ true t' _).mono ?_
          rintro e w2 ⟨rfl, rfl⟩
          go_wp2
          rw [Exit.noGoto_normal]
          go_end0
          exact ⟨rfl, by rw [HS.out]; exact hbk, hgk⟩
        · have z' : (FloatKind.f64.format.order (halves k r) 0 == some .eq) = false := by rw [f64_eq, eqB_pos _ _ ht zero_top]; exact decide_eq_false z
          have t' : Hid (gtB (halves k r) 9218868437227405311 = false) := by rw [gtB_max _ ht]; exact decide_eq_false t
          clear z t
          go_wp2_with fail
          refine (inf_at _ false t' _).mono ?_
          rintro e w2 ⟨rfl, rfl⟩
          go_wp2
          refine ⟨⟨k + 1, by omega, by simp, ?_, only_setCell hgk rfl _⟩, by simp [intOf]; omega⟩
          rw [halves_succ]
          exact hbk.set_ 0 (.float .f64 (half (halves k r)))
    · obtain rfl : k = N := by omega
      go_wp2
      rw [Exit.noGoto_normal]
      go_end0
      exact ⟨rfl, hbk, hgk⟩
set_option maxHeartbeats 1000000 in
theorem goOn_far (g : Nat) (r : Nat) (a hf now : Int) (N : Nat) (w : World) (hb : Blk w g 48 #[.float .f64 r, .int .i64 a, .int .i64 hf]) (hr : r ≤ top) (ha0 : 0 ≤ a) (ha1 : a ≤ 1099511627776) (hh1 : 1 ≤ hf) (_hh2 : hf ≤ 1000)
    (h1 : 1099511627776 < now) (hN : (1099511627776 - a) / hf = (N : Int)) :
    Calls Try.prog 21 #[.pointer (some ⟨g, 0, none⟩), .int .i64 now] w fun e w' => e = .returned (.tuple #[]) ∧ Blk w' g 48 #[.float .f64 (halves N r), .int .i64 (a + N * hf), .int .i64 hf] ∧ w.grownBy w' (some g) := by
  have x0 := hb.cell 0
  have x1 := hb.cell 1
  have x2 := hb.cell 2
  simp only [List.getElem?_toArray, List.getElem?_cons_zero, List.getElem?_cons_succ] at x0 x1 x2
  have f0 := hb.frozen 0
  have f1 := hb.frozen 1
  have k2 : ¬ hf = 0 := by omega
  have k3 : (hf == 0) = false := by simp; omega
  have p1 : 0 ≤ (N : Int) * hf := Int.mul_nonneg (by omega) (by omega)
  have p2 : (N : Int) * hf ≤ 1099511627776 - a := by
    rw [← hN]
    exact Int.ediv_mul_le _ (by omega)
  have p3 : (N : Int) ≤ 1099511627776 := by
    have e : (N : Int) * 1 ≤ N * hf := Int.mul_le_mul_of_nonneg_left hh1 (by omega)
    omega
  have k : ¬ now < a := by omega
  have k' : ¬ now ≤ 1099511627776 := by omega
  have k4 : 0 ≤ 1099511627776 - a := by omega
  have e1 : IntKind.i64.wrap (1099511627776 - a) = 1099511627776 - a := IntWalk.i64_in _ (by omega)
  have e2 : (1099511627776 - a).tdiv hf = N := by rw [Int.tdiv_eq_ediv_of_nonneg k4]; exact hN
  have e3 : IntKind.i64.wrap (N : Int) = N := IntWalk.i64_in _ (by omega)
  have e4 : IntKind.i64.wrap ((N : Int) * hf) = N * hf := IntWalk.i64_in _ (by omega)
  have e5 : IntKind.i64.wrap (a + (N : Int) * hf) = a + N * hf := IntWalk.i64_in _ (by omega)
  go_enter Try.func21, Try.ntmps21
  go_step3
  go_wp2_with fail
  go_region_held3 (fun w' => w'.cell? ⟨g, 0, none⟩ = some (.float .f64 r) ∧ w'.cell? ⟨g, 1, none⟩ = some (.int .i64 a) ∧ w'.cell? ⟨g, 2, none⟩ = some (.int .i64 hf)) (go_keep) (fail)
  go_wp2_with fail
  go_region
  go_wp2_with fail
  go_step3
  go_wp2_with fail
  go_loopw [36] (fun i wr => PaceRel w g r (a + N * hf) hf N i wr) (fun i _ => N - (intOf i).toNat)
  case atStart => exact ⟨0, by omega, rfl, hb.set_ 1 (.int .i64 (a + N * hf)), only_drew (only_drew (only_setCell (World.grownBy.refl w _) rfl _))⟩
  case round =>
    obtain ⟨k, hk, rfl, hbk, hgk⟩ := hrel
    clear x0 x1 x2 f0 f1 hb
    have c0 := hbk.cell 0
    have d0 := hbk.frozen 0
    simp only [List.getElem?_toArray, List.getElem?_cons_zero] at c0
    have ht := halves_top k r hr
    have hq := fun W : World => run_float_arith (P := Try.prog) W .quo 22 .f64 (halves k r) 4611686018427387904 (half (halves k r)) (half_div _ ht)
    by_cases hlt : k < N
    · by_cases z : halves k r = 0
      · have hs := halves_stay k N r hk (.inl z)
        have z' : (FloatKind.f64.format.order (halves k r) 0 == some .eq) = true := by rw [f64_eq, eqB_pos _ _ ht zero_top]; exact decide_eq_true z
        have HS := Lib.hid hs
        clear hs z hq
        go_wp2
        rw [Exit.noGoto_normal]
        go_end0
        exact ⟨rfl, by rw [HS.out]; exact hbk, hgk⟩
      · by_cases t : halves k r = top
        · have hs := halves_stay k N r hk (.inr t)
          have z' : (FloatKind.f64.format.order (halves k r) 0 == some .eq) = false := by rw [f64_eq, eqB_pos _ _ ht zero_top]; exact decide_eq_false z
          have t' : Hid (gtB (halves k r) 9218868437227405311 = true) := by rw [gtB_max _ ht]; exact decide_eq_true t
          have HS := Lib.hid hs
          clear hs z t hq
          go_wp2_with fail
          refine (inf_at _ true t' _).mono ?_
          rintro e w2 ⟨rfl, rfl⟩
          go_wp2
          rw [Exit.noGoto_normal]
          go_end0
          exact ⟨rfl, by rw [HS.out]; exact hbk, hgk⟩
        · have z' : (FloatKind.f64.format.order (halves k r) 0 == some .eq) = false := by rw [f64_eq, eqB_pos _ _ ht zero_top]; exact decide_eq_false z
          have t' : Hid (gtB (halves k r) 9218868437227405311 = false) := by rw [gtB_max _ ht]; exact decide_eq_false t
          clear z t
          go_wp2_with fail
          refine (inf_at _ false t' _).mono ?_
          rintro e w2 ⟨rfl, rfl⟩
          go_wp2
          refine ⟨⟨k + 1, by omega, by simp, ?_, only_setCell hgk rfl _⟩, by simp [intOf]; omega⟩
          rw [halves_succ]
          exact hbk.set_ 0 (.float .f64 (half (halves k r)))
    · obtain rfl : k = N := by omega
      go_wp2
      rw [Exit.noGoto_normal]
      go_end0
      exact ⟨rfl, hbk, hgk⟩

theorem stepsI_nat (a h now : Int) (hh : 1 ≤ h) (ha : a ≤ 1099511627776) : ((stepsI a h now).toNat : Int) = stepsI a h now := by
  have : 0 ≤ stepsI a h now := Int.ediv_nonneg (by omega) (by omega)
  omega
theorem goOn_any (g : Nat) (r : Nat) (a h now : Int) (w : World) (hp : PaceAt w g r a h) :
    Calls Try.prog 21 #[.pointer (some ⟨g, 0, none⟩), .int .i64 now] w fun e w' => e = .returned (.tuple #[]) ∧ Blk w' g 48 #[.float .f64 (halves (stepsI a h now).toNat r), .int .i64 (a + stepsI a h now * h), .int .i64 h] ∧ w.grownBy w' (some g) := by
  obtain ⟨hb, hr, ha0, ha1, hh1, hh2⟩ := hp
  have e := stepsI_nat a h now hh1 ha1
  by_cases h1 : now < a
  · have e0 : stepsI a h now = 0 := by
      unfold stepsI
      rw [show min (max now a) 1099511627776 - a = 0 by omega, Int.zero_ediv]
    rw [e0]
    simpa [halves] using goOn_low g r a h now w hb ha0 ha1 hh1 hh2 h1
  · by_cases h2 : now ≤ 1099511627776
    · have k := goOn_mid g r a h now (stepsI a h now).toNat w hb hr ha0 ha1 hh1 hh2 (by omega) h2 (by rw [e]; unfold stepsI; rw [show min (max now a) 1099511627776 - a = now - a by omega])
      rwa [e] at k
    · have k := goOn_far g r a h now (stepsI a h now).toNat w hb hr ha0 ha1 hh1 hh2 (by omega) (by rw [e]; unfold stepsI; rw [show min (max now a) 1099511627776 - a = 1099511627776 - a by omega])
      rwa [e] at k

end Go.Proofs.Ythpnfbpkoiebaaa
