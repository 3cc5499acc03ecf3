/- Package pipes: pipes that a law made, of which nobody else knows; what is written in pieces. -/
import Derived.Test.YtdpjbkodenhelaaH
namespace Go.Proofs.Ytdpjbkodenhelaa
open Go.RowKit Go.Lib

/-- Pipes that were made behind the world a. -/
def Held (a w : World) (g : Nat) (st : Nat → PS) : Prop := ∃ F, PipesAt w g st F ∧ a.grownBy w none ∧ (∀ x, F x → a.heap.size ≤ x)
section
variable {a w : World} {g : Nat} {st : Nat → PS}
theorem Held.made (h : Held a w g st) : a.grownBy w none := by
  obtain ⟨F, _, h2, _⟩ := h
  exact h2
theorem Held.step {w' : World} {st' : Nat → PS} {F : Nat → Prop} (h : PipesAt w g st F ∧ a.grownBy w none ∧ (∀ x, F x → a.heap.size ≤ x)) (k : Stepped w w' g st' F) : Held a w' g st' := k.grown h.2.1 h.2.2
theorem New_h (hg : a.grownBy w none) : Calls Try.prog 9 #[] w fun e w' => e = .returned (.pointer (some ⟨w.heap.size, 0, none⟩)) ∧ Held a w' w.heap.size st0 := by
  refine (New_any w).mono ?_
  rintro e w' ⟨rfl, h1, h2⟩
  exact ⟨rfl, _, h1, grown_trans hg h2, fun x hx => by have := hg.size; omega⟩
theorem Open_h (h : Held a w g st) (id : Int) : Calls Try.prog 10 #[.pointer (some ⟨g, 0, none⟩), .int .i64 id] w fun e w' => e = .returned (.int .i64 (at_ opn st id).1) ∧ Held a w' g (at_ opn st id).2 := by
  obtain ⟨F, h⟩ := h
  exact (Open_at h.1 id).mono fun e w' k => ⟨k.1, Held.step h k.2⟩
theorem Close_h (h : Held a w g st) (id : Int) : Calls Try.prog 21 #[.pointer (some ⟨g, 0, none⟩), .int .i64 id] w fun e w' => e = .returned (.int .i64 (at_ cls st id).1) ∧ Held a w' g (at_ cls st id).2 := by
  obtain ⟨F, h⟩ := h
  exact (Close_at h.1 id).mono fun e w' k => ⟨k.1, Held.step h k.2⟩
theorem Break_h (h : Held a w g st) (id n : Int) (hn : n ≤ 9223372036854775807) : Calls Try.prog 11 #[.pointer (some ⟨g, 0, none⟩), .int .i64 id, .int .i64 n] w fun e w' => e = .returned (.int .i64 (at_ (brk n) st id).1) ∧ Held a w' g (at_ (brk n) st id).2 := by
  obtain ⟨F, h⟩ := h
  exact (Break_at h.1 id n hn).mono fun e w' k => ⟨k.1, Held.step h k.2⟩
theorem Write_h (h : Held a w g st) (id : Int) (s : ByteArray) (hs : ∀ i, i < 16 → (st i).out.size + s.size ≤ limit) : Calls Try.prog 13 #[.pointer (some ⟨g, 0, none⟩), .int .i64 id, .string s] w fun e w' => e = .returned (.int .i64 (at_ (wrt s) st id).1) ∧ Held a w' g (at_ (wrt s) st id).2 := by
  obtain ⟨F, h⟩ := h
  exact (Write_at h.1 id s hs).mono fun e w' k => ⟨k.1, Held.step h k.2⟩
theorem does_h (h : Held a w g st) (k id n : Int) (s : ByteArray) (hn : n ≤ 9223372036854775807) (hs : ∀ i, i < 16 → (st i).out.size + s.size ≤ limit) :
    Calls Try.prog 17 #[.pointer (some ⟨g, 0, none⟩), opVal k id n s] w fun e w' => e = .returned (.int .i64 (stp st k id n s).1) ∧ Held a w' g (stp st k id n s).2 := by
  obtain ⟨F, h⟩ := h
  exact (does_any h.1 k id n s hn hs).mono fun e w' k => ⟨k.1, Held.step h k.2⟩
theorem Out_h (h : Held a w g st) (i : Nat) (hi : i < 16) : Calls Try.prog 14 #[.pointer (some ⟨g, 0, none⟩), .int .i64 i] w fun e w' => e = .returned (.string (st i).out) ∧ w = w' := by
  obtain ⟨F, h⟩ := h
  exact Out_in h.1 i hi
theorem Is_h (h : Held a w g st) (i : Nat) (hi : i < 16) : Calls Try.prog 15 #[.pointer (some ⟨g, 0, none⟩), .int .i64 i] w fun e w' => e = .returned (.bool (st i).op) ∧ w = w' := by
  obtain ⟨F, h, _⟩ := h
  obtain ⟨vs, hF, _⟩ := h.ex
  exact Is_in hF i hi
theorem Whole_h (h : Held a w g st) (i : Nat) (hi : i < 16) : Calls Try.prog 12 #[.pointer (some ⟨g, 0, none⟩), .int .i64 i] w fun e w' => e = .returned (.bool ((st i).op && !(st i).br)) ∧ w = w' := by
  obtain ⟨F, h, _⟩ := h
  obtain ⟨vs, hF, _⟩ := h.ex
  exact Whole_in hF i hi
theorem Held.grown {w' : World} (h : Held a w g st) (k : w.grownBy w' none) : Held a w' g st := by
  obtain ⟨F, h1, h2, h3⟩ := h
  exact ⟨F, h1.grown k, grown_trans h2 k, h3⟩
theorem Held.drew (h : Held a w g st) : Held a w.drew g st := h.grown ⟨rfl, rfl, rfl, Nat.le_refl _, fun _ _ _ => rfl⟩
theorem All_h (h : Held a w g st) : Calls Try.prog 20 #[.pointer (some ⟨g, 0, none⟩)] w fun e w' => ∃ v, e = .returned v ∧ w'.ownsRow w.heap.size 3 1 v (opens st 16).length (opens st 16) ∧ w.grownBy w' none := by
  obtain ⟨F, h, _⟩ := h
  exact All_at h
theorem Held.cell (h : Held a w g st) {p : Addr} {v : Value} (hc : a.cell? p = some v) : w.cell? p = some v := h.made.cell hc (by simp)
end

/-- A pipe that breaks behind m bytes (m = -1: never), of which x has been asked. -/
def pst (m : Int) (x : ByteArray) : PS := if m = -1 then ⟨true, false, -1, x⟩ else if (x.size : Int) ≤ m then ⟨true, false, m - x.size, x⟩ else ⟨true, true, 0, x.extract 0 m.toNat⟩
def wholeB (m : Int) (x : ByteArray) : Bool := decide (m = -1 ∨ (x.size : Int) ≤ m)
theorem extract_append_le (x y : ByteArray) (k : Nat) (h : k ≤ x.size) : (x ++ y).extract 0 k = x.extract 0 k := by
  apply ByteArray.ext
  obtain ⟨x⟩ := x
  obtain ⟨y⟩ := y
  have h : k ≤ x.size := h
  simp [Array.extract_append, Nat.sub_eq_zero_of_le h]
theorem extract_append_ge (x y : ByteArray) (k : Nat) (h : x.size ≤ k) : (x ++ y).extract 0 k = x ++ y.extract 0 (k - x.size) := by
  apply ByteArray.ext
  obtain ⟨x⟩ := x
  obtain ⟨y⟩ := y
  have h : x.size ≤ k := h
  have e : ByteArray.size ⟨x⟩ = x.size := rfl
  rw [e]
  have e2 : x.extract 0 k = x := by
    apply Array.ext
    · simp; omega
    · intro i h1 h2; simp
  simp [Array.extract_append, e2]
theorem pst_whole (m : Int) (x : ByteArray) : ((pst m x).op && !(pst m x).br) = wholeB m x := by
  unfold pst wholeB
  by_cases h1 : m = -1
  · simp [h1]
  · by_cases h2 : (x.size : Int) ≤ m <;> simp [h1, h2]
theorem pst_op (m : Int) (x : ByteArray) : (pst m x).op = true := by
  unfold pst
  by_cases h1 : m = -1
  · simp [h1]
  · by_cases h2 : (x.size : Int) ≤ m <;> simp [h1, h2]
theorem pst_out_le (m : Int) (x : ByteArray) : (pst m x).out.size ≤ x.size := by
  unfold pst
  by_cases h1 : m = -1
  · simp [h1]
  · by_cases h2 : (x.size : Int) ≤ m <;> simp [h1, h2]
    omega
theorem wrt_pst (m : Int) (hm : -1 ≤ m) (x s : ByteArray) : wrt s (pst m x) = (if wholeB m (x ++ s) = true then 0 else 12, pst m (x ++ s)) := by
  unfold wrt wri
  rw [pst_whole]
  have hsz : (x ++ s).size = x.size + s.size := by simp
  by_cases h1 : m = -1
  · simp [wholeB, pst, h1]
  · by_cases h2 : (x.size : Int) ≤ m
    · have e1 : wholeB m x = true := decide_eq_true (.inr h2)
      have e2 : pst m x = ⟨true, false, m - x.size, x⟩ := by simp [pst, h1, h2]
      rw [if_pos e1, e2]
      have h3 : ¬ (m - (x.size : Int) = -1) := by omega
      rw [if_neg h3]
      simp only []
      by_cases h4 : (s.size : Int) ≤ m - x.size
      · have e3 : wholeB m (x ++ s) = true := decide_eq_true (.inr (by rw [hsz]; omega))
        rw [if_pos h4, if_pos e3]
        unfold pst
        rw [if_neg h1, if_pos (by rw [hsz]; omega), hsz]
        congr 2
        omega
      · have e3 : ¬ wholeB m (x ++ s) = true := by
          unfold wholeB
          rw [decide_eq_true_iff, hsz]
          omega
        rw [if_neg h4, if_neg e3]
        unfold pst
        rw [if_neg h1, if_neg (by rw [hsz]; omega), extract_append_ge _ _ _ (by omega)]
        congr 3
        congr 1
        omega
    · have e1 : ¬ wholeB m x = true := by
        unfold wholeB
        rw [decide_eq_true_iff]
        omega
      have e3 : ¬ wholeB m (x ++ s) = true := by
        unfold wholeB
        rw [decide_eq_true_iff, hsz]
        omega
      rw [if_neg e1, if_neg e3]
      unfold pst
      rw [if_neg h1, if_neg h2, if_neg h1, if_neg (by rw [hsz]; omega), extract_append_le _ _ _ (by omega)]
theorem Write_pst {a w : World} {g : Nat} {st : Nat → PS} {i : Nat} (hi : i < 16) (m : Int) (acc s : ByteArray) (h : Held a w g (upd st i (pst m acc))) (hm : -1 ≤ m) (h1 : acc.size + s.size ≤ limit) (h2 : ∀ j, j < 16 → (st j).out.size + s.size ≤ limit) :
    Calls Try.prog 13 #[.pointer (some ⟨g, 0, none⟩), .int .i64 i, .string s] w fun e w' => e = .returned (.int .i64 (if wholeB m (acc ++ s) = true then 0 else 12)) ∧ Held a w' g (upd st i (pst m (acc ++ s))) := by
  refine (Write_h h i s (fun j hj => ?_)).mono ?_
  · by_cases e : j = i
    · subst e
      rw [upd_same]
      have := pst_out_le m acc
      omega
    · rw [upd_other _ _ _ _ e]; exact h2 j hj
  · rw [at_in _ _ _ hi, upd_same, upd_upd, wrt_pst m hm]
    exact fun _ _ k => k
theorem pst_empty (n : Int) : (brk n (opn (st0 0)).2).2 = pst (max n (-1)) ByteArray.empty := by
  unfold pst
  have e : (opn (st0 0)).2 = ⟨true, false, -1, ByteArray.empty⟩ := rfl
  rw [e]
  simp only [brk]
  by_cases h1 : max n (-1) = -1
  · simp [h1]
  · have h2 : (ByteArray.empty.size : Int) ≤ max n (-1) := by
      have : ByteArray.empty.size = 0 := rfl
      omega
    simp [h1]
    omega
end Go.Proofs.Ytdpjbkodenhelaa
