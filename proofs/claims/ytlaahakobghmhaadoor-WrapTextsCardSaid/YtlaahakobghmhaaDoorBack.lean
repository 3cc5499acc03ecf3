/- WrapBack: on and back. -/
import Derived.Test.YtlaahakobghmhaaDoorText
import Derived.Lib.ItoaLen
namespace Go.Proofs.YtlaahakobghmhaaDoor
open Go Go.RowKit Go.Lib
attribute [local go_sem ↓] Go.wp_at_zero Go.wp_at_succ

theorem rdn_congr (s t : ByteArray) (k : Nat) (h : ∀ j, j < k → byteAt s j = byteAt t j) : rdn s k = rdn t k := by
  induction k with
  | zero => rfl
  | succ k ih =>
    simp only [rdn]
    rw [ih (fun j hj => h j (by omega)), h k (by omega)]
theorem digits_size (u : Nat) : (digits u).size = (decDigits u).length := by simp [digits, ByteArray.size]
theorem byteAt_digits (u j : Nat) : byteAt (digits u) j = (((decDigits u)[j]?).getD 0).toNat := by simp [byteAt, digits]
/-- The digits of u read as u. -/
theorem rdn_digits (u : Nat) (hu : u ≤ 4294967295) : rdn (digits u) (decDigits u).length = some (u : Int) := by
  induction u using Nat.strongRecOn with
  | _ u ih =>
    by_cases h : u < 10
    · rw [decDigits, dif_pos h]
      have hb : byteAt (digits u) 0 = 48 + u := by
        rw [byteAt_digits, decDigits, dif_pos h]
        simp
        omega
      simp only [List.length_cons, List.length_nil, rdn, hb]
      rw [if_neg (by omega)]
      congr 1
      omega
    · have e : decDigits u = decDigits (u / 10) ++ [UInt8.ofNat (48 + u % 10)] := by rw [decDigits, dif_neg h]
      have hl : (decDigits u).length = (decDigits (u / 10)).length + 1 := by rw [e]; simp
      have h1 : rdn (digits u) (decDigits (u / 10)).length = some ((u / 10 : Nat) : Int) := by
        rw [← ih (u / 10) (by omega) (by omega)]
        apply rdn_congr
        intro j hj
        rw [byteAt_digits, byteAt_digits, e, List.getElem?_append_left hj]
      have hb : byteAt (digits u) (decDigits (u / 10)).length = 48 + (u % 10 : Nat) := by
        rw [byteAt_digits, e, List.getElem?_append_right (Nat.le_refl _)]
        simp
        omega
      rw [hl]
      simp only [rdn, h1, hb]
      rw [if_neg (by omega)]
      congr 1
      omega

def T (x : Int) : ByteArray := digits x.toNat
theorem read_back (a : Int) (ha : 0 ≤ a ∧ a < 4294967296) : readR T (digits a.toNat) = .tuple #[.int .u32 a, .bool true] := by
  unfold readR
  rw [digits_size, rdn_digits _ (by omega)]
  have e : ((a.toNat : Nat) : Int) = a := by omega
  simp only [e]
  exact if_pos rfl
theorem read_pows (s : ByteArray) (hs : s.size ≤ 9223372036854775807) (w : World) (hp : Pows w) : Calls Tryd.prog 18 #[.string s] w fun e w' => e = .returned (readR T s) ∧ w.grownBy w' none :=
  read_any T s hs w (fun n hn W hg => text_any n (by have := rdn_bd s _ n hn; omega) W (hp.grown hg))
/-- What Read answers: none; or a number whose digits the bytes are. -/
theorem read_cases (s : ByteArray) : readR T s = .tuple #[.int .u32 0, .bool false] ∨ ∃ n : Int, (0 ≤ n ∧ n < 4294967296) ∧ T n = s ∧ readR T s = .tuple #[.int .u32 n, .bool true] := by
  unfold readR
  cases h : rdn s s.size with
  | none => exact .inl rfl
  | some n =>
    have hb := rdn_bd s _ n h
    by_cases ht : T n = s
    · exact .inr ⟨n, by omega, ht, by simp only [ht, if_true]⟩
    · exact .inl (by simp only [ht, if_false])

set_option maxHeartbeats 8000000 in
set_option maxRecDepth 100000 in
theorem back_any (a b : Int) (s : ByteArray) (ha : 0 ≤ a ∧ a < 4294967296) (hb : 0 ≤ b ∧ b < 4294967296) (hs : s.size ≤ 9223372036854775807) (w : World) (hp : Pows w) :
    Calls Tryd.prog 4 #[.int .u32 a, .int .u32 b, .string s] w fun e w' => e = .returned (.bool true) ∧ w.grownBy w' none := by
  go_enter Tryd.func4, Tryd.ntmps4
  go_wp2_with fail
  refine (lives_any _).mono ?_
  rintro e w1 ⟨rfl, g1⟩
  have hp1 := hp.grown g1
  have z : 0 ≤ (b - a) % 4294967296 ∧ (b - a) % 4294967296 < 4294967296 := by omega
  have C1 := fun W => ahead_any a b W
  have C2 := text_any a ha w1 hp1
  have C3 : ∀ W, Pows W → Calls Tryd.prog 18 #[.string (digits a.toNat)] W fun e w' => e = .returned (.tuple #[.int .u32 a, .bool true]) ∧ W.grownBy w' none := fun W hW => by
    have k := read_pows (digits a.toNat) (by have h1 := digits_size a.toNat; have h2 := nDigits_le20 a.toNat (by omega); have h3 := decDigits_length a.toNat; omega) W hW
    rw [read_back a ha] at k
    exact k
  have C5 := fun W => add_any a ((b - a) % 4294967296) W
  have C6 := fun W => add_any b (-((b - a) % 4294967296)) W
  have C7 := fun W => ahead_any b a W
  rw [show (a + (b - a) % 4294967296) % 4294967296 = b by omega] at C5
  rw [show (b + -((b - a) % 4294967296)) % 4294967296 = a by omega] at C6
  have hz0 : ((b - a) % 4294967296 + (a - b) % 4294967296) % 4294967296 = 0 := by omega
  have z2 : 0 ≤ (a - b) % 4294967296 ∧ (a - b) % 4294967296 < 4294967296 := by omega
  generalize (b - a) % 4294967296 = n at *
  generalize (a - b) % 4294967296 = n2 at *
  generalize digits a.toNat = da at *
  have C1 := Lib.hid C1
  have C2 := Lib.hid C2
  have C3 := Lib.hid C3
  have C5 := Lib.hid C5
  have C6 := Lib.hid C6
  have C7 := Lib.hid C7
  go_wp2_with fail
  refine (C1.out _).mono ?_
  rintro e w2 ⟨rfl, rfl⟩
  go_wp2_with fail
  refine C2.out.mono ?_
  rintro e w2 ⟨rfl, g2⟩
  have hp2 := hp1.grown g2
  go_wp2_with fail
  refine (C3.out _ hp2).mono ?_
  rintro e w3 ⟨rfl, g3⟩
  have hp3 := hp2.grown g3
  have g3 := grown_trans (grown_trans g1 g2) g3
  clear g1 g2
  have C4 := read_pows s hs w3 hp3
  rcases read_cases s with hr | ⟨x, hx, hT, hr⟩
  · rw [hr] at C4
    clear hr
    have C4 := Lib.hid C4
    go_wp2_with fail
    refine C4.out.mono ?_
    rintro e w4 ⟨rfl, g4⟩
    have g4 := grown_trans g3 g4
    go_wp2_with fail
    refine (C5.out _).mono ?_
    rintro e w5 ⟨rfl, rfl⟩
    go_wp2_with fail
    refine (C6.out _).mono ?_
    rintro e w5 ⟨rfl, rfl⟩
    by_cases hab : a = b
    · have hab' : (a == b) = true := beq_iff_eq.2 hab
      clear hab
      go_wp2
      all_goals (go_ret; exact ⟨rfl, g4⟩)
    · have hab' : (a == b) = false := beq_eq_false_iff_ne.2 hab
      clear hab
      go_wp2_with fail
      refine (C1.out _).mono ?_
      rintro e w6 ⟨rfl, rfl⟩
      go_wp2_with fail
      refine (C7.out _).mono ?_
      rintro e w6 ⟨rfl, rfl⟩
      go_wp2
      all_goals (go_ret; exact ⟨rfl, g4⟩)
  · rw [hr] at C4
    clear hr
    have C4 := Lib.hid C4
    go_wp2_with fail
    refine C4.out.mono ?_
    rintro e w4 ⟨rfl, g4⟩
    have hp4 := hp3.grown g4
    have g4 := grown_trans g3 g4
    have C8 := text_any x hx w4 hp4
    rw [show digits x.toNat = s from hT] at C8
    clear hT
    have C8 := Lib.hid C8
    go_wp2_with fail
    refine (C5.out _).mono ?_
    rintro e w5 ⟨rfl, rfl⟩
    go_wp2_with fail
    refine (C6.out _).mono ?_
    rintro e w5 ⟨rfl, rfl⟩
    go_wp2_with fail
    refine C8.out.mono ?_
    rintro e w6 ⟨rfl, g6⟩
    have g6 := grown_trans g4 g6
    by_cases hab : a = b
    · have hab' : (a == b) = true := beq_iff_eq.2 hab
      clear hab
      go_wp2
      all_goals (go_ret; exact ⟨rfl, g6⟩)
    · have hab' : (a == b) = false := beq_eq_false_iff_ne.2 hab
      clear hab
      go_wp2_with fail
      refine (C1.out _).mono ?_
      rintro e w6 ⟨rfl, rfl⟩
      go_wp2_with fail
      refine (C7.out _).mono ?_
      rintro e w6 ⟨rfl, rfl⟩
      go_wp2
      all_goals (go_ret; exact ⟨rfl, g6⟩)
end Go.Proofs.YtlaahakobghmhaaDoor
