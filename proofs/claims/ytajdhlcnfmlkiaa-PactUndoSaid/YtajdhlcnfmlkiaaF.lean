/- pact.Fit, Act and Name, slices.Index over four texts. -/
import Derived.Test.YtajdhlcnfmlkiaaB
namespace Go.Proofs.Ytajdhlcnfmlkiaa
open Go.RowKit
attribute [local go_sem ↓] Go.wp_at_zero Go.wp_at_succ

def t1 : ByteArray := ⟨#[115, 117, 98, 115, 99, 114, 105, 98, 101]⟩
def t2 : ByteArray := ⟨#[115, 117, 98, 115, 99, 114, 105, 98, 101, 100]⟩
def t3 : ByteArray := ⟨#[117, 110, 115, 117, 98, 115, 99, 114, 105, 98, 101]⟩
def t4 : ByteArray := ⟨#[117, 110, 115, 117, 98, 115, 99, 114, 105, 98, 101, 100]⟩

theorem types_any (w : World) : Calls Try.prog 27 #[] w fun e w' => e = .returned (.slice (some ⟨w.heap.size, 0, none⟩) 4 4) ∧ w' = w.alloc (.cells #[.string t1, .string t2, .string t3, .string t4] 9) := by
  go_enter Try.func27, Try.ntmps27
  go_wp2
  go_ret
  exact ⟨rfl, rfl⟩

theorem ret_int {k : IntKind} {a b : Int} (h : a = b) : Ending.returned (.int k a) = .returned (.int k b) := by rw [h]
def same (s t : ByteArray) : Bool := s.toList == t.toList
def idx4 (s s0 s1 s2 s3 : ByteArray) : Int := if same s s0 then 0 else if same s s1 then 1 else if same s s2 then 2 else if same s s3 then 3 else -1

set_option maxHeartbeats 400000 in
theorem index_any (s s0 s1 s2 s3 : ByteArray) (g : Nat) (w : World) (h0 : w.cell? ⟨g, 0, none⟩ = some (.string s0)) (h1 : w.cell? ⟨g, 1, none⟩ = some (.string s1)) (h2 : w.cell? ⟨g, 2, none⟩ = some (.string s2)) (h3 : w.cell? ⟨g, 3, none⟩ = some (.string s3)) :
    Calls Try.prog 26 #[.slice (some ⟨g, 0, none⟩) 4 4, .string s] w fun e w' => e = .returned (.int .i64 (idx4 s s0 s1 s2 s3)) ∧ w = w' := by
  go_enter Try.func26, Try.ntmps26
  go_wp2
  go_loop [5, 8] (fun _ i => ∃ k : Nat, k ≤ 4 ∧ i = .int .i64 k ∧ (0 < k → same s s0 = false) ∧ (1 < k → same s s1 = false) ∧ (2 < k → same s s2 = false) ∧ (3 < k → same s s3 = false)) (fun _ i => 4 - (intOf i).toNat)
  case atStart => exact ⟨0, by omega, rfl, by omega, by omega, by omega, by omega⟩
  case round =>
    obtain ⟨k, hk, rfl, e0, e1, e2, e3⟩ := hrel
    have E0 := Lib.hid e0
    have E1 := Lib.hid e1
    have E2 := Lib.hid e2
    have E3 := Lib.hid e3
    clear e0 e1 e2 e3
    match k, hk with
    | 0, _ =>
      cases hs : same s s0
      · have H := Lib.hid hs
        have hs' : (s.toList == s0.toList) = false := hs
        clear hs
        go_wp2
        refine ⟨⟨1, by omega, rfl, fun _ => (by first | exact H.out | trivial), by omega, by omega, by omega⟩, by simp [intOf]⟩
      · have H := Lib.hid hs
        have hs' : (s.toList == s0.toList) = true := hs
        clear hs
        go_wp2
        go_ret
        exact ⟨ret_int (by rw [idx4, if_pos H.out]), rfl⟩
    | 1, _ =>
      cases hs : same s s1
      · have H := Lib.hid hs
        have hs' : (s.toList == s1.toList) = false := hs
        clear hs
        go_wp2
        refine ⟨⟨2, by omega, rfl, fun _ => E0.out (by omega), fun _ => (by first | exact H.out | trivial), by omega, by omega⟩, by simp [intOf]⟩
      · have H := Lib.hid hs
        have hs' : (s.toList == s1.toList) = true := hs
        clear hs
        go_wp2
        go_ret
        exact ⟨ret_int (by rw [idx4, if_neg (by rw [E0.out (by omega)]; decide), if_pos H.out]), rfl⟩
    | 2, _ =>
      cases hs : same s s2
      · have H := Lib.hid hs
        have hs' : (s.toList == s2.toList) = false := hs
        clear hs
        go_wp2
        refine ⟨⟨3, by omega, rfl, fun _ => E0.out (by omega), fun _ => E1.out (by omega), fun _ => (by first | exact H.out | trivial), by omega⟩, by simp [intOf]⟩
      · have H := Lib.hid hs
        have hs' : (s.toList == s2.toList) = true := hs
        clear hs
        go_wp2
        go_ret
        exact ⟨ret_int (by rw [idx4, if_neg (by rw [E0.out (by omega)]; decide), if_neg (by rw [E1.out (by omega)]; decide), if_pos H.out]), rfl⟩
    | 3, _ =>
      cases hs : same s s3
      · have H := Lib.hid hs
        have hs' : (s.toList == s3.toList) = false := hs
        clear hs
        go_wp2
        refine ⟨⟨4, by omega, rfl, fun _ => E0.out (by omega), fun _ => E1.out (by omega), fun _ => E2.out (by omega), fun _ => (by first | exact H.out | trivial)⟩, by simp [intOf]⟩
      · have H := Lib.hid hs
        have hs' : (s.toList == s3.toList) = true := hs
        clear hs
        go_wp2
        go_ret
        exact ⟨ret_int (by rw [idx4, if_neg (by rw [E0.out (by omega)]; decide), if_neg (by rw [E1.out (by omega)]; decide), if_neg (by rw [E2.out (by omega)]; decide), if_pos H.out]), rfl⟩
    | 4, _ =>
      go_wp2
      go_ret
      exact ⟨ret_int (by rw [idx4, if_neg (by rw [E0.out (by omega)]; decide), if_neg (by rw [E1.out (by omega)]; decide), if_neg (by rw [E2.out (by omega)]; decide), if_neg (by rw [E3.out (by omega)]; decide)]), rfl⟩

def actOf (s : ByteArray) : Int := idx4 s t1 t2 t3 t4 + 1
theorem idx4_bd (s s0 s1 s2 s3 : ByteArray) : -1 ≤ idx4 s s0 s1 s2 s3 ∧ idx4 s s0 s1 s2 s3 ≤ 3 := by
  unfold idx4
  repeat' split
  all_goals omega
set_option maxHeartbeats 400000 in
theorem act_any (s : ByteArray) (w : World) : Calls Try.prog 18 #[.string s] w fun e w' => e = .returned (.int .i64 (actOf s)) ∧ Below w.heap.size w w' := by
  obtain ⟨b1, b2⟩ := idx4_bd s t1 t2 t3 t4
  go_enter Try.func18, Try.ntmps18
  go_wp2_with fail
  refine (types_any _).mono ?_
  rintro e w1 ⟨rfl, rfl⟩
  go_wp2_with fail
  refine (index_any s t1 t2 t3 t4 _ _ (by simp [go_sem]) (by simp [go_sem]) (by simp [go_sem]) (by simp [go_sem])).mono ?_
  rintro e w1 ⟨rfl, rfl⟩
  go_wp2
  go_ret
  exact ⟨rfl, (Below.refl _ _).alloc (Nat.le_refl _) _⟩

def nameOf (act : Int) : ByteArray := if act = 1 then t1 else if act = 2 then t2 else if act = 3 then t3 else if act = 4 then t4 else ⟨#[]⟩
theorem name_in (act : Int) (f : Int) (hf : f = 1 ∨ f = 2 ∨ f = 3 ∨ f = 4) (w : World) (h : act = f) : Calls Try.prog 19 #[.int .i64 act] w fun e w' => e = .returned (.string (nameOf act)) ∧ Below w.heap.size w w' := by
  subst h
  rcases hf with rfl | rfl | rfl | rfl
  all_goals
    go_enter Try.func19, Try.ntmps19
    go_wp2_with (go_at_call 27; refine (types_any _).mono ?_; rintro e w1 ⟨rfl, rfl⟩)
    go_ret
    exact ⟨rfl, (Below.refl _ _).alloc (Nat.le_refl _) _⟩
theorem name_low (act : Int) (h : act < 1) (w : World) : Calls Try.prog 19 #[.int .i64 act] w fun e w' => e = .returned (.string (nameOf act)) ∧ Below w.heap.size w w' := by
  have e : nameOf act = ⟨#[]⟩ := by unfold nameOf; rw [if_neg (by omega), if_neg (by omega), if_neg (by omega), if_neg (by omega)]
  rw [e]
  clear e
  go_enter Try.func19, Try.ntmps19
  go_wp2
  go_ret
  exact ⟨rfl, Below.refl _ _⟩
theorem name_high (act : Int) (h : 4 < act) (w : World) : Calls Try.prog 19 #[.int .i64 act] w fun e w' => e = .returned (.string (nameOf act)) ∧ Below w.heap.size w w' := by
  have e : nameOf act = ⟨#[]⟩ := by unfold nameOf; rw [if_neg (by omega), if_neg (by omega), if_neg (by omega), if_neg (by omega)]
  rw [e]
  clear e
  have h' : ¬ act < 1 := by omega
  go_enter Try.func19, Try.ntmps19
  go_wp2
  go_ret
  exact ⟨rfl, Below.refl _ _⟩
theorem name_any (act : Int) (w : World) : Calls Try.prog 19 #[.int .i64 act] w fun e w' => e = .returned (.string (nameOf act)) ∧ Below w.heap.size w w' := by
  by_cases h1 : act < 1
  · exact name_low act h1 w
  · by_cases h4 : 4 < act
    · exact name_high act h4 w
    · exact name_in act act (by omega) w rfl

def fitB (n : Int) (a b : Bool) (m : Int) (c d : Bool) : Bool := seesB n == seenB m && seesB m == seenB n && a == d && c == b


abbrev sideCells' (n : Int) (a b : Bool) : Array Value := #[.int .i64 n, .bool a, .bool b]
/-- What stays in Fit: the two sides' blocks, all that was there before. -/
def Rest3 (w0 : World) (n : Int) (a b : Bool) (m : Int) (c d : Bool) (w : World) : Prop :=
  Blk w w0.heap.size 23 (sideCells' n a b) ∧ Blk w (w0.heap.size + 1) 23 (sideCells' m c d) ∧ Below w0.heap.size w0 w
section
variable {w0 W w2 : World} {n : Int} {a b : Bool} {m : Int} {c d : Bool}
theorem rest3_new (w0 : World) (n : Int) (a b : Bool) (m : Int) (c d : Bool) :
    Rest3 w0 n a b m c d ((w0.alloc (.cells (sideCells' n a b) 23)).alloc (.cells (sideCells' m c d) 23)) := by
  have h1 := Blk.new (w0.alloc (.cells (sideCells' n a b) 23)) 23 (sideCells' m c d)
  simp only [World.size_alloc] at h1
  exact ⟨(Blk.new _ _ _).alloc _, h1, ((Below.refl _ _).alloc (Nat.le_refl _) _).alloc (by simp) _⟩
theorem rest3_below (hb : Below W.heap.size W w2) (h : Rest3 w0 n a b m c d W) : Rest3 w0 n a b m c d w2 :=
  ⟨h.1.below hb h.1.lt, h.2.1.below hb h.2.1.lt, h.2.2.trans (hb.mono h.2.2.size)⟩
theorem rest3_cells (h : Rest3 w0 n a b m c d W) : W.cell? ⟨w0.heap.size, 0, none⟩ = some (.int .i64 n) ∧ W.cell? ⟨w0.heap.size, 1, none⟩ = some (.bool a) ∧ W.cell? ⟨w0.heap.size, 2, none⟩ = some (.bool b) ∧
    W.cell? ⟨w0.heap.size + 1, 0, none⟩ = some (.int .i64 m) ∧ W.cell? ⟨w0.heap.size + 1, 1, none⟩ = some (.bool c) ∧ W.cell? ⟨w0.heap.size + 1, 2, none⟩ = some (.bool d) ∧ Rest3 w0 n a b m c d W :=
  ⟨h.1.cell 0, h.1.cell 1, h.1.cell 2, h.2.1.cell 0, h.2.1.cell 1, h.2.1.cell 2, h⟩
theorem rest3_dr (h : Rest3 w0 n a b m c d W) : Rest3 w0 n a b m c d W.drew := ⟨h.1, h.2.1, h.2.2.drew⟩
theorem rest3_drew (h : Rest3 w0 n a b m c d W) : W.drew.cell? ⟨w0.heap.size, 0, none⟩ = some (.int .i64 n) ∧ W.drew.cell? ⟨w0.heap.size, 1, none⟩ = some (.bool a) ∧ W.drew.cell? ⟨w0.heap.size, 2, none⟩ = some (.bool b) ∧
    W.drew.cell? ⟨w0.heap.size + 1, 0, none⟩ = some (.int .i64 m) ∧ W.drew.cell? ⟨w0.heap.size + 1, 1, none⟩ = some (.bool c) ∧ W.drew.cell? ⟨w0.heap.size + 1, 2, none⟩ = some (.bool d) ∧ Rest3 w0 n a b m c d W.drew :=
  rest3_cells ⟨h.1, h.2.1, h.2.2.drew⟩
theorem full3_below (w0 : World) (n : Int) (a b : Bool) (m : Int) (c d : Bool) {W w2 : World} (hb : Below W.heap.size W w2) (h : W.cell? ⟨w0.heap.size, 0, none⟩ = some (.int .i64 n) ∧ W.cell? ⟨w0.heap.size, 1, none⟩ = some (.bool a) ∧ W.cell? ⟨w0.heap.size, 2, none⟩ = some (.bool b) ∧
    W.cell? ⟨w0.heap.size + 1, 0, none⟩ = some (.int .i64 m) ∧ W.cell? ⟨w0.heap.size + 1, 1, none⟩ = some (.bool c) ∧ W.cell? ⟨w0.heap.size + 1, 2, none⟩ = some (.bool d) ∧ Rest3 w0 n a b m c d W) : Rest3 w0 n a b m c d w2 := rest3_below hb h.2.2.2.2.2.2
end

theorem sees_at' (n : Int) (a b t : Bool) (h : Hid (seesB n = t)) (w : World) :
    Calls Try.prog 16 #[S n a b] w fun e w' => e = .returned (.bool t) ∧ Below w.heap.size w w' := by
  have h' : seesB n = t := h
  rw [← h']; exact sees_any n a b w

set_option maxHeartbeats 1000000 in
theorem fit_t (n : Int) (a b : Bool) (m : Int) (c d : Bool) (p r t : Bool) (h1 : Hid (seesB n = p)) (h2 : Hid (seenB m = p)) (h3 : Hid (seesB m = r)) (h4 : Hid (seenB n = t)) (w : World) :
    Calls Try.prog 11 #[S n a b, S m c d] w fun e w' => e = .returned (.bool (r == t && a == d && c == b)) ∧ Below w.heap.size w w' := by
  have r0 := rest3_new w n a b m c d
  have kp : (p == p) = true := by cases p <;> rfl
  go_enter Try.func11, Try.ntmps11
  go_wp2_with fail
  go_region_held3 (fun w' => w'.cell? ⟨w.heap.size, 0, none⟩ = some (.int .i64 n) ∧ w'.cell? ⟨w.heap.size, 1, none⟩ = some (.bool a) ∧ w'.cell? ⟨w.heap.size, 2, none⟩ = some (.bool b) ∧
    w'.cell? ⟨w.heap.size + 1, 0, none⟩ = some (.int .i64 m) ∧ w'.cell? ⟨w.heap.size + 1, 1, none⟩ = some (.bool c) ∧ w'.cell? ⟨w.heap.size + 1, 2, none⟩ = some (.bool d) ∧ Rest3 w n a b m c d w') (first | ((with_reducible refine rest3_drew ?_); assumption) | (refine rest3_cells ?_; assumption))
    (first
      | (go_at_call_of 16 (Value.agg #[Value.int IntKind.i64 n, Value.bool a, Value.bool b]); refine (sees_at n a b p h1 _).mono ?_; rintro e w1 ⟨rfl, hb1⟩; have r1 := full3_below w n a b m c d hb1 (by assumption); clear hb1)
      | (go_at_call_of 17 (Value.agg #[Value.int IntKind.i64 m, Value.bool c, Value.bool d]); refine (seen_at m c d p h2 _).mono ?_; rintro e w2 ⟨rfl, hb2⟩; have r2 := full3_below w n a b m c d hb2 (by assumption); clear hb2)
      | (go_at_call_of 16 (Value.agg #[Value.int IntKind.i64 m, Value.bool c, Value.bool d]); refine (sees_at m c d r h3 _).mono ?_; rintro e w3 ⟨rfl, hb3⟩; have r3 := full3_below w n a b m c d hb3 (by assumption); clear hb3)
      | (go_at_call_of 17 (Value.agg #[Value.int IntKind.i64 n, Value.bool a, Value.bool b]); refine (seen_at n a b t h4 _).mono ?_; rintro e w4 ⟨rfl, hb4⟩; have r4 := full3_below w n a b m c d hb4 (by assumption); clear hb4))
  obtain ⟨v0, v1, v2, v3, v4, v5, _⟩ := rest3_cells r4
  go_wp2
  all_goals
    go_ret
    refine ⟨ret_bool ?_, r4.2.2⟩
    simp_all

set_option maxHeartbeats 2000000 in
theorem fit_f (n : Int) (a b : Bool) (m : Int) (c d : Bool) (p q : Bool) (h1 : Hid (seesB n = p)) (h2 : Hid (seenB m = q)) (hpq : (p == q) = false) (w : World) :
    Calls Try.prog 11 #[S n a b, S m c d] w fun e w' => e = .returned (.bool false) ∧ Below w.heap.size w w' := by
  have r0 := rest3_new w n a b m c d
  go_enter Try.func11, Try.ntmps11
  go_wp2_with fail
  have r0' := rest3_dr r0
  obtain ⟨z0, z1, z2, z3, z4, z5, _⟩ := rest3_cells r0
  first | (go_region_with (first
      | (go_at_call_of 16 (Value.agg #[Value.int IntKind.i64 n, Value.bool a, Value.bool b]); refine (sees_at n a b p h1 _).mono ?_; rintro e w1 ⟨rfl, hb1⟩; have r1 := rest3_below (w0 := w) (n := n) (a := a) (b := b) (m := m) (c := c) (d := d) hb1 (by first | assumption | exact rest3_dr (by assumption)); clear hb1; obtain ⟨v0, v1, v2, v3, v4, v5, _⟩ := rest3_cells r1)
      | (go_at_call_of 17 (Value.agg #[Value.int IntKind.i64 m, Value.bool c, Value.bool d]); refine (seen_at m c d q h2 _).mono ?_; rintro e w2 ⟨rfl, hb2⟩; have r2 := rest3_below (w0 := w) (n := n) (a := a) (b := b) (m := m) (c := c) (d := d) hb2 (by first | assumption | exact rest3_dr (by assumption)); clear hb2; obtain ⟨y0, y1, y2, y3, y4, y5, _⟩ := rest3_cells r2))) | fail
  all_goals
    go_wp2
    go_ret
    exact ⟨rfl, r2.2.2⟩

theorem fit_any (n : Int) (a b : Bool) (m : Int) (c d : Bool) (w : World) :
    Calls Try.prog 11 #[S n a b, S m c d] w fun e w' => e = .returned (.bool (fitB n a b m c d)) ∧ Below w.heap.size w w' := by
  cases h : (seesB n == seenB m)
  · have e : fitB n a b m c d = false := by simp [fitB, h]
    rw [e]
    exact fit_f n a b m c d (seesB n) (seenB m) rfl rfl h w
  · have e : fitB n a b m c d = (seesB m == seenB n && a == d && c == b) := by simp [fitB, h]
    rw [e]
    exact fit_t n a b m c d (seesB n) (seesB m) (seenB n) rfl (by have := beq_iff_eq.1 h; exact this.symm) rfl rfl w
end Go.Proofs.Ytajdhlcnfmlkiaa
