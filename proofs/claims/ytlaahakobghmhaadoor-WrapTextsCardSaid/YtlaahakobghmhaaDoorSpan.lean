/- Package wrap: Span. -/
import Derived.Test.YtlaahakobghmhaaDoorC
namespace Go.Proofs.YtlaahakobghmhaaDoor
open Go.RowKit
attribute [local go_sem ↓] Go.wp_at_zero Go.wp_at_succ

/-- How many steps on it is, by way of the first k numbers. -/
def sp (f : Nat → Int) : Nat → Int
  | 0 => 0
  | k + 1 => if k = 0 then 0 else min (sp f k + (f k - f (k - 1)) % 4294967296) 4294967295
theorem sp_bd (f : Nat → Int) (k : Nat) : 0 ≤ sp f k ∧ sp f k ≤ 4294967295 := by
  induction k with
  | zero => simp [sp]
  | succ k ih =>
    simp only [sp]
    by_cases h : k = 0
    · simp [h]
    · rw [if_neg h]
      omega
/-- Numbers that may be read. -/
def NumsAt (w : World) (A : Option Addr) (n : Nat) (f : Nat → Int) : Prop := ∀ k, k < n → ∃ (g o : Nat), A = some ⟨g, o, none⟩ ∧ g < w.heap.size ∧ (0 ≤ f k ∧ f k < 4294967296) ∧ w.cell? ⟨g, o + k, none⟩ = some (.int .u32 (f k))

theorem span_some (b o n c : Nat) (f : Nat → Int) (hn : n ≤ 9223372036854775807) (w : World) (h : NumsAt w (some ⟨b, o, none⟩) n f) :
    Calls Tryd.prog 22 #[.slice (some ⟨b, o, none⟩) n c] w fun e w' => e = .returned (.int .u32 (sp f n)) ∧ w = w' := by
  go_enter Tryd.func22, Tryd.ntmps22
  go_wp2_with fail
  go_loop [3, 8] (fun x i => ∃ k : Nat, k ≤ n ∧ i = .int .i64 k ∧ x = .int .u64 (sp f k)) (fun _ i => n - (intOf i).toNat)
  case atStart => exact ⟨0, Nat.zero_le _, rfl, rfl⟩
  case round =>
    obtain ⟨k, hk, rfl, rfl⟩ := hrel
    have hs := sp_bd f k
    by_cases hlt : k < n
    · have hlt' : (k : Int) < n := by omega
      obtain ⟨b', o', hbo, _, hf, x0⟩ := h k hlt
      injection hbo with hbo
      injection hbo with e1 e2 e3
      subst e1 e2
      have hnext : sp f (k + 1) = if k = 0 then 0 else min (sp f k + (f k - f (k - 1)) % 4294967296) 4294967295 := rfl
      by_cases h0 : k = 0
      · subst h0
        rw [if_pos rfl] at hnext
        rw [Nat.add_zero] at x0
        go_wp2
        exact ⟨⟨1, by omega, by simp, by rw [hnext]; rfl⟩, by simp [intOf]; omega⟩
      · rw [if_neg h0] at hnext
        obtain ⟨b'', o'', hbo', _, hf', y0⟩ := h (k - 1) (by omega)
        injection hbo' with hbo'
        injection hbo' with e1 e2 e4
        subst e1 e2
        have hd : 0 ≤ (f k - f (k - 1)) % 4294967296 ∧ (f k - f (k - 1)) % 4294967296 < 4294967296 := by omega
        have e5 : ((k : Int) - 1).toNat = k - 1 := by omega
        have A := fun W => ahead_any (f (k - 1)) (f k) W
        have k1 : ¬ (k : Int) - 1 < 0 := by omega
        have k2 : (0 : Int) < k := by omega
        generalize (f k - f (k - 1)) % 4294967296 = d at *
        generalize f k = fk at *
        generalize f (k - 1) = fk1 at *
        generalize sp f k = s0 at *
        have A := Lib.hid A
        clear h
        by_cases hm : s0 + d ≤ 4294967295
        · have hm2 : ¬ 4294967295 < s0 + d := by omega
          rw [show min (s0 + d) 4294967295 = s0 + d by omega] at hnext
          go_wp2_with fail
          refine (A.out _).mono ?_
          rintro e w2 ⟨rfl, rfl⟩
          go_wp2
          exact ⟨⟨k + 1, by omega, by simp, by rw [hnext]⟩, by simp [intOf]; omega⟩
        · have hm2 : 4294967295 < s0 + d := by omega
          rw [show min (s0 + d) 4294967295 = 4294967295 by omega] at hnext
          go_wp2_with fail
          refine (A.out _).mono ?_
          rintro e w2 ⟨rfl, rfl⟩
          go_wp2
          exact ⟨⟨k + 1, by omega, by simp, by rw [hnext]⟩, by simp [intOf]; omega⟩
    · obtain rfl : k = n := by omega
      have hlt' : ¬ (k : Int) < k := by omega
      go_wp2
      all_goals (go_ret; exact ⟨rfl, rfl⟩)
theorem span_zero (A : Option Addr) (c : Nat) (w : World) :
    Calls Tryd.prog 22 #[.slice A 0 c] w fun e w' => e = .returned (.int .u32 0) ∧ w = w' := by
  go_enter Tryd.func22, Tryd.ntmps22
  go_wp2_with fail
  go_loop [3, 8] (fun x i => i = .int .i64 0 ∧ x = .int .u64 0) (fun _ i => 100 - (intOf i).toNat)
  case atStart => exact ⟨rfl, rfl⟩
  case round =>
    obtain ⟨rfl, rfl⟩ := hrel
    go_wp2
    all_goals (go_ret; exact ⟨rfl, rfl⟩)
theorem span_any (A : Option Addr) (n c : Nat) (f : Nat → Int) (hn : n ≤ 9223372036854775807) (w : World) (h : NumsAt w A n f) :
    Calls Tryd.prog 22 #[.slice A n c] w fun e w' => e = .returned (.int .u32 (sp f n)) ∧ w = w' := by
  rcases Nat.eq_zero_or_pos n with rfl | h0
  · exact span_zero A c w
  · obtain ⟨b, o, rfl, _⟩ := h 0 h0
    exact span_some b o n c f hn w h
end Go.Proofs.YtlaahakobghmhaaDoor
