/- What Do, Hear and Both answer, as plain functions of the sides and the act; for every side and every act. -/
import Derived.Test.YtajdhlcnfmlkiaaC
import Derived.Test.YtajdhlcnfmlkiaaD0
import Derived.Test.YtajdhlcnfmlkiaaD1
import Derived.Test.YtajdhlcnfmlkiaaD2
import Derived.Test.YtajdhlcnfmlkiaaD3
import Derived.Test.YtajdhlcnfmlkiaaE
namespace Go.Proofs.Ytajdhlcnfmlkiaa
open Go.RowKit

def doT (n : Int) (a b : Bool) (act : Int) : Bool := if act = 1 then true else if act = 2 then b else if act = 3 then seesB n || a else seenB n || b
def doN (n : Int) (a b : Bool) (act : Int) : Int := if act = 1 then n else if act = 2 then pickI b (showN n true) n else if act = 3 then pickI (seesB n || a) (seeN n false) n else pickI (seenB n || b) (showN n false) n
def doA (n : Int) (a _b : Bool) (act : Int) : Bool := if act = 1 then !seesB n else if act = 2 then a else if act = 3 then pickB (seesB n || a) false a else a
def doB (n : Int) (_a b : Bool) (act : Int) : Bool := if act = 1 then b else if act = 2 then pickB b false b else if act = 3 then b else pickB (seenB n || b) false b
def hearT (n : Int) (a b : Bool) (act : Int) : Bool := if act = 1 then !seenB n && !b else if act = 2 then a else if act = 3 then seenB n || b else seesB n || a
def hearN (n : Int) (a b : Bool) (act : Int) : Int := if act = 1 then n else if act = 2 then pickI a (seeN n true) n else if act = 3 then pickI (seenB n || b) (showN n false) n else pickI (seesB n || a) (seeN n false) n
def hearA (n : Int) (a _b : Bool) (act : Int) : Bool := if act = 1 then a else if act = 2 then pickB a false a else if act = 3 then a else pickB (seesB n || a) false a
def hearB (n : Int) (_a b : Bool) (act : Int) : Bool := if act = 1 then b || !seenB n else if act = 2 then b else if act = 3 then pickB (seenB n || b) false b else b
def hearE (n : Int) (act : Int) : Bool := act == 1 && seenB n

theorem pickB_same (t x : Bool) : pickB t x x = x := by cases t <;> rfl
theorem pickI_same (t : Bool) (x : Int) : pickI t x x = x := by cases t <;> rfl

theorem right_bd {n : Int} {a b : Bool} (h : rightB n a b = true) : 0 ≤ n ∧ n ≤ 3 := by
  simp [rightB] at h
  exact ⟨h.1.1.1, h.1.1.2⟩

theorem ans_to {f : FuncId} {n : Int} {a b : Bool} {act n1 n2 : Int} {a1 a2 b1 b2 t1 t2 e1 e2 : Bool} {r : Int} (h : Ans f n a b act n1 a1 b1 t1 e1 r) (hn : n1 = n2) (ha : a1 = a2) (hb : b1 = b2) (ht : t1 = t2) (he : e1 = e2) : Ans f n a b act n2 a2 b2 t2 e2 r := by
  subst hn; subst ha; subst hb; subst ht; subst he; exact h

theorem do_ans (n : Int) (a b : Bool) (act : Int) (h : rightB n a b = true) (h1 : 1 ≤ act) (h4 : act ≤ 4) : Ans 21 n a b act (doN n a b act) (doA n a b act) (doB n a b act) (doT n a b act) false 0 := by
  obtain ⟨k0, k3⟩ := right_bd h
  have hc : act = 1 ∨ act = 2 ∨ act = 3 ∨ act = 4 := by omega
  rcases hc with rfl | rfl | rfl | rfl
  · exact ans_to (fun w => do_ask n a b h w) (pickI_same _ _) rfl (pickB_same _ _) rfl rfl
  · exact ans_to (fun w => do_grant n a b h k0 k3 w) rfl (pickB_same _ _) rfl rfl rfl
  · cases hs : seesB n
    · exact ans_to (fun w => do_leave_f n a b h k0 k3 hs w) (by simp [doN, hs]) (by simp [doA, hs]) (by simp [doB, pickB_same]) (by simp [doT, hs]) rfl
    · exact ans_to (fun w => do_leave_t n a b h k0 k3 hs w) (by simp [doN, hs]) (by simp [doA, hs]) (by simp [doB, pickB_same]) (by simp [doT, hs]) rfl
  · cases hs : seenB n
    · exact ans_to (fun w => do_refuse_f n a b h k0 k3 hs w) (by simp [doN, hs]) (by simp [doA, pickB_same]) (by simp [doB, hs]) (by simp [doT, hs]) rfl
    · exact ans_to (fun w => do_refuse_t n a b h k0 k3 hs w) (by simp [doN, hs]) (by simp [doA, pickB_same]) (by simp [doB, hs]) (by simp [doT, hs]) rfl

theorem hear_ans (n : Int) (a b : Bool) (act : Int) (h : rightB n a b = true) (h1 : 1 ≤ act) (h4 : act ≤ 4) : Ans 22 n a b act (hearN n a b act) (hearA n a b act) (hearB n a b act) (hearT n a b act) (hearE n act) 0 := by
  obtain ⟨k0, k3⟩ := right_bd h
  have hc : act = 1 ∨ act = 2 ∨ act = 3 ∨ act = 4 := by omega
  rcases hc with rfl | rfl | rfl | rfl
  · cases hs : seenB n
    · exact ans_to (fun w => hear_ask_f n a b h hs w) (pickI_same _ _) (pickB_same _ _) (by simp [hearB, hs]; cases b <;> rfl) (by simp [hearT, hs]) (by simp [hearE, hs])
    · exact ans_to (fun w => hear_ask_t n a b h hs w) rfl rfl (by simp [hearB, hs]) (by simp [hearT, hs]) (by simp [hearE, hs])
  · exact ans_to (fun w => hear_grant n a b h k0 k3 w) rfl rfl (pickB_same _ _) rfl rfl
  · cases hs : seenB n
    · exact ans_to (fun w => hear_leave_f n a b h k0 k3 hs w) (by simp [hearN, hs]) (by simp [hearA, pickB_same]) (by simp [hearB, hs]) (by simp [hearT, hs]) rfl
    · exact ans_to (fun w => hear_leave_t n a b h k0 k3 hs w) (by simp [hearN, hs]) (by simp [hearA, pickB_same]) (by simp [hearB, hs]) (by simp [hearT, hs]) rfl
  · cases hs : seesB n
    · exact ans_to (fun w => hear_refuse_f n a b h k0 k3 hs w) (by simp [hearN, hs]) (by simp [hearA, hs]) (by simp [hearB, pickB_same]) (by simp [hearT, hs]) rfl
    · exact ans_to (fun w => hear_refuse_t n a b h k0 k3 hs w) (by simp [hearN, hs]) (by simp [hearA, hs]) (by simp [hearB, pickB_same]) (by simp [hearT, hs]) rfl

theorem do_err (n : Int) (a b : Bool) (act : Int) (h : ¬ (rightB n a b = true ∧ 1 ≤ act ∧ act ≤ 4)) : Ans 21 n a b act 0 false false false false 1 := by
  intro w
  cases hr : rightB n a b
  · exact do_no n a b act hr w
  · have h' : ¬ (1 ≤ act ∧ act ≤ 4) := fun k => h ⟨hr, k⟩
    exact do_other n a b act hr (by simp; omega) (by simp; omega) (by simp; omega) (by simp; omega) w
theorem hear_err (n : Int) (a b : Bool) (act : Int) (h : ¬ (rightB n a b = true ∧ 1 ≤ act ∧ act ≤ 4)) : Ans 22 n a b act 0 false false false false 1 := by
  intro w
  cases hr : rightB n a b
  · exact hear_no n a b act hr w
  · have h' : ¬ (1 ≤ act ∧ act ≤ 4) := fun k => h ⟨hr, k⟩
    exact hear_other n a b act hr (by simp; omega) (by simp; omega) (by simp; omega) (by simp; omega) w

/-! ### The plain law of sides -/
def small (P : Int → Prop) : Prop := P 0 ∧ P 1 ∧ P 2 ∧ P 3
theorem of_small {P : Int → Prop} (h : small P) (n : Int) (h0 : 0 ≤ n) (h3 : n ≤ 3) : P n := by
  rcases small4 h0 h3 with rfl | rfl | rfl | rfl
  · exact h.1
  · exact h.2.1
  · exact h.2.2.1
  · exact h.2.2.2
theorem act4 {act : Int} (h1 : 1 ≤ act) (h4 : act ≤ 4) : act = 1 ∨ act = 2 ∨ act = 3 ∨ act = 4 := by omega

/-- An act of one's own leaves a side that may be. -/
theorem right_do (n : Int) (a b : Bool) (act : Int) (h : rightB n a b = true) (h1 : 1 ≤ act) (h4 : act ≤ 4) : rightB (doN n a b act) (doA n a b act) (doB n a b act) = true := by
  obtain ⟨k0, k3⟩ := right_bd h
  rcases small4 k0 k3 with rfl | rfl | rfl | rfl <;> cases a <;> cases b <;> first | (exfalso; revert h; decide) | (rcases act4 h1 h4 with rfl | rfl | rfl | rfl <;> decide)
theorem right_hear (n : Int) (a b : Bool) (act : Int) (h : rightB n a b = true) (h1 : 1 ≤ act) (h4 : act ≤ 4) : rightB (hearN n a b act) (hearA n a b act) (hearB n a b act) = true := by
  obtain ⟨k0, k3⟩ := right_bd h
  rcases small4 k0 k3 with rfl | rfl | rfl | rfl <;> cases a <;> cases b <;> first | (exfalso; revert h; decide) | (rcases act4 h1 h4 with rfl | rfl | rfl | rfl <;> decide)

/-- The two sides behind an act. -/
def bxN (n : Int) (a b : Bool) (m act : Int) : Int := if doT n a b act && hearE m act then hearN (doN n a b act) (doA n a b act) (doB n a b act) 2 else doN n a b act
def bxA (n : Int) (a b : Bool) (m act : Int) : Bool := if doT n a b act && hearE m act then hearA (doN n a b act) (doA n a b act) (doB n a b act) 2 else doA n a b act
def bxB (n : Int) (a b : Bool) (m act : Int) : Bool := if doT n a b act && hearE m act then hearB (doN n a b act) (doA n a b act) (doB n a b act) 2 else doB n a b act
def byN (n : Int) (a b : Bool) (m : Int) (c d : Bool) (act : Int) : Int := if doT n a b act then hearN m c d act else m
def byA (n : Int) (a b : Bool) (m : Int) (c d : Bool) (act : Int) : Bool := if doT n a b act then hearA m c d act else c
def byB (n : Int) (a b : Bool) (m : Int) (c d : Bool) (act : Int) : Bool := if doT n a b act then hearB m c d act else d

theorem both_ok (n : Int) (a b : Bool) (m : Int) (c d : Bool) (act : Int) (h : rightB n a b = true) (g : rightB m c d = true) (h1 : 1 ≤ act) (h4 : act ≤ 4) (w : World) :
    Calls Try.prog 9 #[S n a b, S m c d, .int .i64 act] w fun e w' => e = .returned (.tuple #[S (bxN n a b m act) (bxA n a b m act) (bxB n a b m act), S (byN n a b m c d act) (byA n a b m c d act) (byB n a b m c d act), .int .i64 0]) ∧ Below w.heap.size w w' := by
  have HD := do_ans n a b act h h1 h4
  have HH := hear_ans m c d act g h1 h4
  cases ht : doT n a b act
  · rw [ht] at HD
    have e := both_quiet n a b m c d act _ _ _ HD g w
    simpa [bxN, bxA, bxB, byN, byA, byB, ht] using e
  · rw [ht] at HD
    cases he : hearE m act
    · rw [he] at HH
      have e := both_plain n a b m c d act _ _ _ _ _ _ _ HD g HH w
      simpa [bxN, bxA, bxB, byN, byA, byB, ht, he] using e
    · rw [he] at HH
      have HG := hear_ans _ _ _ 2 (right_do n a b act h h1 h4) (by omega) (by omega)
      have e := both_echo n a b m c d act _ _ _ _ _ _ _ _ _ _ _ _ HD g HH HG w
      simpa [bxN, bxA, bxB, byN, byA, byB, ht, he] using e
theorem both_err (n : Int) (a b : Bool) (m : Int) (c d : Bool) (act : Int) (h : ¬ (rightB n a b = true ∧ rightB m c d = true ∧ 1 ≤ act ∧ act ≤ 4)) (w : World) :
    Calls Try.prog 9 #[S n a b, S m c d, .int .i64 act] w fun e w' => e = .returned (.tuple #[S 0 false false, S 0 false false, .int .i64 1]) ∧ Below w.heap.size w w' := by
  by_cases k : rightB n a b = true ∧ 1 ≤ act ∧ act ≤ 4
  · have hg : rightB m c d = false := by
      cases g : rightB m c d
      · rfl
      · exact absurd ⟨k.1, g, k.2⟩ h
    exact both_bad2 n a b m c d act _ _ _ _ (do_ans n a b act k.1 k.2.1 k.2.2) hg w
  · exact both_bad1 n a b m c d act (do_err n a b act k) w
end Go.Proofs.Ytajdhlcnfmlkiaa
