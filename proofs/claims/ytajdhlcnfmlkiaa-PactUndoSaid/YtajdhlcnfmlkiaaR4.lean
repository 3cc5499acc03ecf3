/- A reference's side as the program has it; what the reference's Do, Hear and Both answer at sides that may be is what the program's answer. -/
import Derived.Test.YtajdhlcnfmlkiaaR3
namespace Go.Proofs.Ytajdhlcnfmlkiaa
open Go.RowKit
attribute [local go_sem ↓] Go.wp_at_zero Go.wp_at_succ

def RestS (w0 : World) (x y a b : Bool) (w : World) : Prop :=
  Blk w w0.heap.size 29 #[.bool x, .bool y, .bool a, .bool b] ∧ (∃ c0 c1 c2, Blk w (w0.heap.size + 1) 23 #[c0, c1, c2]) ∧ Below w0.heap.size w0 w
section
variable {w0 W w2 : World} {x y a b : Bool}
theorem restS_new (w0 : World) (x y a b : Bool) (c0 c1 c2 : Value) : RestS w0 x y a b ((w0.alloc (.cells #[.bool x, .bool y, .bool a, .bool b] 29)).alloc (.cells #[c0, c1, c2] 23)) := by
  have h := Blk.new (w0.alloc (.cells #[.bool x, .bool y, .bool a, .bool b] 29)) 23 #[c0, c1, c2]
  simp only [World.size_alloc] at h
  exact ⟨(Blk.new _ _ _).alloc _, ⟨_, _, _, h⟩, ((Below.refl _ _).alloc (Nat.le_refl _) _).alloc (by simp) _⟩
theorem restS_below (hb : Below W.heap.size W w2) (h : RestS w0 x y a b W) : RestS w0 x y a b w2 := by
  obtain ⟨h1, ⟨_, _, _, h2⟩, h3⟩ := h
  exact ⟨h1.below hb h1.lt, ⟨_, _, _, h2.below hb h2.lt⟩, h3.trans (hb.mono h3.size)⟩
theorem restS_set (h : RestS w0 x y a b W) (i : Nat) (v : Value) : RestS w0 x y a b (W.setCell ⟨w0.heap.size + 1, i, none⟩ v) := by
  obtain ⟨h1, ⟨c0, c1, c2, h2⟩, h3⟩ := h
  refine ⟨h1.far (by simp) v, ?_, h3.setCell (by simp) v⟩
  have h4 := h2.set_ i v
  rcases i with _ | _ | _ | i
  · exact ⟨_, _, _, h4⟩
  · exact ⟨_, _, _, h4⟩
  · exact ⟨_, _, _, h4⟩
  · exact ⟨c0, c1, c2, h4⟩
theorem restS_full (h : RestS w0 x y a b W) : W.cell? ⟨w0.heap.size, 0, none⟩ = some (.bool x) ∧ W.cell? ⟨w0.heap.size, 1, none⟩ = some (.bool y) ∧ W.cell? ⟨w0.heap.size, 2, none⟩ = some (.bool a) ∧ W.cell? ⟨w0.heap.size, 3, none⟩ = some (.bool b) ∧ RestS w0 x y a b W :=
  ⟨h.1.cell 0, h.1.cell 1, h.1.cell 2, h.1.cell 3, h⟩
theorem restS_dr (h : RestS w0 x y a b W) : RestS w0 x y a b W.drew := ⟨h.1, h.2.1, h.2.2.drew⟩
theorem restS_drew (h : RestS w0 x y a b W) : W.drew.cell? ⟨w0.heap.size, 0, none⟩ = some (.bool x) ∧ W.drew.cell? ⟨w0.heap.size, 1, none⟩ = some (.bool y) ∧ W.drew.cell? ⟨w0.heap.size, 2, none⟩ = some (.bool a) ∧ W.drew.cell? ⟨w0.heap.size, 3, none⟩ = some (.bool b) ∧ RestS w0 x y a b W.drew := restS_full (restS_dr h)
theorem fullS_below (w0 : World) (x y a b : Bool) {W w2 : World} (hb : Below W.heap.size W w2) (h : W.cell? ⟨w0.heap.size, 0, none⟩ = some (.bool x) ∧ W.cell? ⟨w0.heap.size, 1, none⟩ = some (.bool y) ∧ W.cell? ⟨w0.heap.size, 2, none⟩ = some (.bool a) ∧ W.cell? ⟨w0.heap.size, 3, none⟩ = some (.bool b) ∧ RestS w0 x y a b W) : RestS w0 x y a b w2 := restS_below hb h.2.2.2.2
theorem restS_out (h : RestS w0 x y a b W) : ∃ c0 c1 c2 : Value, W.cell? ⟨w0.heap.size + 1, 0, none⟩ = some c0 ∧ W.cell? ⟨w0.heap.size + 1, 1, none⟩ = some c1 ∧ W.cell? ⟨w0.heap.size + 1, 2, none⟩ = some c2 ∧ W.frozen? ⟨w0.heap.size + 1, 0, none⟩ = false ∧ W.frozen? ⟨w0.heap.size + 1, 1, none⟩ = false ∧ W.frozen? ⟨w0.heap.size + 1, 2, none⟩ = false := by
  obtain ⟨_, ⟨c0, c1, c2, h2⟩, _⟩ := h
  exact ⟨c0, c1, c2, h2.cell 0, h2.cell 1, h2.cell 2, h2.frozen 0, h2.frozen 1, h2.frozen 2⟩
end

set_option maxHeartbeats 1000000 in
theorem side_any (x y a b : Bool) (w : World) : Calls Try.prog 14 #[Q4 x y a b] w fun e w' => e = .returned (S (subN x y) a b) ∧ Below w.heap.size w w' := by
  have r0 := restS_new w x y a b (.int .i64 0) (.bool false) (.bool false)
  go_enter Try.func14, Try.ntmps14
  go_wp2_with fail
  go_region_held3 (fun w' => w'.cell? ⟨w.heap.size, 0, none⟩ = some (.bool x) ∧ w'.cell? ⟨w.heap.size, 1, none⟩ = some (.bool y) ∧ w'.cell? ⟨w.heap.size, 2, none⟩ = some (.bool a) ∧ w'.cell? ⟨w.heap.size, 3, none⟩ = some (.bool b) ∧ RestS w x y a b w') (first | ((with_reducible refine restS_drew ?_); assumption) | (refine restS_full ?_; (repeat (with_reducible refine restS_set ?_ _ _)); assumption))
    (first | (go_at_call 25; refine (sub_any x y a b _).mono ?_; rintro e w1 ⟨rfl, hb1⟩; have r1 := fullS_below w x y a b hb1 (by assumption); clear hb1; obtain ⟨c0, c1, c2, x0, x1, x2, f0, f1, f2⟩ := restS_out r1))
  go_wp2
  refine bodyPost_ret (v := S (subN x y) a b) (by simp [results, Try.results14, go_sem, x0, x1, x2]) rfl ⟨rfl, ?_⟩
  exact (restS_set (restS_set (restS_set r1 0 _) 1 _) 2 _).2.2

theorem ansD (n : Int) (a b : Bool) (act : Int) (h : rightB n a b = true) (h1 : 1 ≤ act) (h4 : act ≤ 4) : AnsD (seesB n) (seenB n) a b act (seesB (doN n a b act)) (seenB (doN n a b act)) (doA n a b act) (doB n a b act) (doT n a b act) := by
  have to : ∀ {x y a b : Bool} {act : Int} {x1 y1 a1 b1 t1 x2 y2 a2 b2 t2 : Bool}, AnsD x y a b act x1 y1 a1 b1 t1 → x1 = x2 → y1 = y2 → a1 = a2 → b1 = b2 → t1 = t2 → AnsD x y a b act x2 y2 a2 b2 t2 := by
    intro x y a b act x1 y1 a1 b1 t1 x2 y2 a2 b2 t2 h e1 e2 e3 e4 e5
    subst e1; subst e2; subst e3; subst e4; subst e5; exact h
  obtain ⟨k0, k3⟩ := right_bd h
  rcases act4 h1 h4 with rfl | rfl | rfl | rfl
  · refine to (rdo1 _ _ _ _) ?_ ?_ ?_ ?_ ?_ <;> (rcases small4 k0 k3 with rfl | rfl | rfl | rfl <;> cases a <;> cases b <;> first | (exfalso; revert h; decide) | decide)
  · refine to (rdo2 _ _ _ _) ?_ ?_ ?_ ?_ ?_ <;> (rcases small4 k0 k3 with rfl | rfl | rfl | rfl <;> cases a <;> cases b <;> first | (exfalso; revert h; decide) | decide)
  · refine to (rdo3 _ _ _ _) ?_ ?_ ?_ ?_ ?_ <;> (rcases small4 k0 k3 with rfl | rfl | rfl | rfl <;> cases a <;> cases b <;> first | (exfalso; revert h; decide) | decide)
  · refine to (rdo4 _ _ _ _) ?_ ?_ ?_ ?_ ?_ <;> (rcases small4 k0 k3 with rfl | rfl | rfl | rfl <;> cases a <;> cases b <;> first | (exfalso; revert h; decide) | decide)
theorem ansH (n : Int) (a b : Bool) (act : Int) (h : rightB n a b = true) (h1 : 1 ≤ act) (h4 : act ≤ 4) : AnsH (seesB n) (seenB n) a b act (seesB (hearN n a b act)) (seenB (hearN n a b act)) (hearA n a b act) (hearB n a b act) (hearT n a b act) (hearE n act) := by
  have to : ∀ {x y a b : Bool} {act : Int} {x1 y1 a1 b1 t1 e1 x2 y2 a2 b2 t2 e2 : Bool}, AnsH x y a b act x1 y1 a1 b1 t1 e1 → x1 = x2 → y1 = y2 → a1 = a2 → b1 = b2 → t1 = t2 → e1 = e2 → AnsH x y a b act x2 y2 a2 b2 t2 e2 := by
    intro x y a b act x1 y1 a1 b1 t1 e1 x2 y2 a2 b2 t2 e2 h k1 k2 k3 k4 k5 k6
    subst k1; subst k2; subst k3; subst k4; subst k5; subst k6; exact h
  obtain ⟨k0, k3⟩ := right_bd h
  rcases act4 h1 h4 with rfl | rfl | rfl | rfl
  · refine to (rhear1 _ _ _ _) ?_ ?_ ?_ ?_ ?_ ?_ <;> (rcases small4 k0 k3 with rfl | rfl | rfl | rfl <;> cases a <;> cases b <;> first | (exfalso; revert h; decide) | decide)
  · refine to (rhear2 _ _ _ _) ?_ ?_ ?_ ?_ ?_ ?_ <;> (rcases small4 k0 k3 with rfl | rfl | rfl | rfl <;> cases a <;> cases b <;> first | (exfalso; revert h; decide) | decide)
  · refine to (rhear3 _ _ _ _) ?_ ?_ ?_ ?_ ?_ ?_ <;> (rcases small4 k0 k3 with rfl | rfl | rfl | rfl <;> cases a <;> cases b <;> first | (exfalso; revert h; decide) | decide)
  · refine to (rhear4 _ _ _ _) ?_ ?_ ?_ ?_ ?_ ?_ <;> (rcases small4 k0 k3 with rfl | rfl | rfl | rfl <;> cases a <;> cases b <;> first | (exfalso; revert h; decide) | decide)

theorem rboth_ok (n : Int) (a b : Bool) (m : Int) (c d : Bool) (act : Int) (h : rightB n a b = true) (g : rightB m c d = true) (h1 : 1 ≤ act) (h4 : act ≤ 4) (w : World) :
    Calls Try.prog 13 #[Q4 (seesB n) (seenB n) a b, Q4 (seesB m) (seenB m) c d, .int .i64 act] w fun e w' => e = .returned (.tuple #[Q4 (seesB (bxN n a b m act)) (seenB (bxN n a b m act)) (bxA n a b m act) (bxB n a b m act), Q4 (seesB (byN n a b m c d act)) (seenB (byN n a b m c d act)) (byA n a b m c d act) (byB n a b m c d act)]) ∧ Below w.heap.size w w' := by
  have HD := ansD n a b act h h1 h4
  have HH := ansH m c d act g h1 h4
  cases ht : doT n a b act
  · rw [ht] at HD
    have e := rboth_quiet (seesB n) (seenB n) a b (seesB m) (seenB m) c d act _ _ _ _ HD w
    simpa [bxN, bxA, bxB, byN, byA, byB, ht] using e
  · rw [ht] at HD
    cases he : hearE m act
    · rw [he] at HH
      have e := rboth_plain (seesB n) (seenB n) a b (seesB m) (seenB m) c d act _ _ _ _ _ _ _ _ _ HD HH w
      simpa [bxN, bxA, bxB, byN, byA, byB, ht, he] using e
    · rw [he] at HH
      have HG := ansH _ _ _ 2 (right_do n a b act h h1 h4) (by omega) (by omega)
      have e := rboth_echo (seesB n) (seenB n) a b (seesB m) (seenB m) c d act _ _ _ _ _ _ _ _ _ _ _ _ _ _ _ HD HH HG w
      simpa [bxN, bxA, bxB, byN, byA, byB, ht, he] using e

/-- A side is what its truths say. -/
theorem subN_sees (n : Int) (h0 : 0 ≤ n) (h3 : n ≤ 3) : subN (seesB n) (seenB n) = n := by
  rcases small4 h0 h3 with rfl | rfl | rfl | rfl <;> decide
theorem side_of (n : Int) (a b : Bool) (h : rightB n a b = true) (w : World) : Calls Try.prog 14 #[Q4 (seesB n) (seenB n) a b] w fun e w' => e = .returned (S n a b) ∧ Below w.heap.size w w' := by
  have e := side_any (seesB n) (seenB n) a b w
  rwa [subN_sees n (right_bd h).1 (right_bd h).2] at e
theorem rfit_eq (n : Int) (a b : Bool) (m : Int) (c d : Bool) : rfitB (seesB n) (seenB n) a b (seesB m) (seenB m) c d = fitB n a b m c d := rfl
theorem right_both (n : Int) (a b : Bool) (m : Int) (c d : Bool) (act : Int) (h : rightB n a b = true) (g : rightB m c d = true) (h1 : 1 ≤ act) (h4 : act ≤ 4) : rightB (bxN n a b m act) (bxA n a b m act) (bxB n a b m act) = true ∧ rightB (byN n a b m c d act) (byA n a b m c d act) (byB n a b m c d act) = true := by
  constructor
  · unfold bxN bxA bxB
    split
    · exact right_hear _ _ _ 2 (right_do n a b act h h1 h4) (by omega) (by omega)
    · exact right_do n a b act h h1 h4
  · unfold byN byA byB
    split
    · exact right_hear m c d act g h1 h4
    · exact g
end Go.Proofs.Ytajdhlcnfmlkiaa
