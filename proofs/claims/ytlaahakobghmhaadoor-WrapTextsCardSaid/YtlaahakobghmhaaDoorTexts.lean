/- WrapTexts: a number's digits, the number of any text, and how long a way is, is what the document says. -/
import Derived.Test.YtlaahakobghmhaaDoorSame
namespace Go.Proofs.YtlaahakobghmhaaDoor
open Go Go.RowKit
attribute [local go_sem ↓] Go.wp_at_zero Go.wp_at_succ

theorem NumsAt.grown {w w' : World} {A : Option Addr} {n : Nat} {f : Nat → Int} (h : NumsAt w A n f) (hg : w.grownBy w' none) : NumsAt w' A n f := by
  intro k hk
  obtain ⟨b, o, e, h1, h2, c0⟩ := h k hk
  exact ⟨b, o, e, Nat.lt_of_lt_of_le h1 hg.size, h2, hg.cell c0 (by simp)⟩
theorem rr_form (s : ByteArray) : ∃ (n : Int) (b : Bool), rr s = .tuple #[.int .u32 n, .bool b] := by
  unfold rr rrest
  by_cases h : s.size = 0 ∨ 10 < s.size ∨ (byteAt s 0 = 48 ∧ 1 < s.size)
  · rw [if_pos h]; exact ⟨_, _, rfl⟩
  · rw [if_neg h]
    cases rv s s.size with
    | none => exact ⟨_, _, rfl⟩
    | some n =>
      simp only
      by_cases h2 : 4294967296 ≤ n
      · rw [if_pos h2]; exact ⟨_, _, rfl⟩
      · rw [if_neg h2]; exact ⟨_, _, rfl⟩

set_option maxHeartbeats 8000000 in
set_option maxRecDepth 100000 in
theorem texts_any (h : Int) (hh : 0 ≤ h ∧ h < 4294967296) (s : ByteArray) (hs : s.size ≤ 9223372036854775807) (A : Option Addr) (n c : Nat) (f : Nat → Int) (hn : n ≤ 9223372036854775807) (w : World) (hp : Pows w) (hA : NumsAt w A n f) :
    Calls Tryd.prog 6 #[.int .u32 h, .string s, .slice A n c] w fun e w' => e = .returned (.bool true) ∧ w.grownBy w' none := by
  go_enter Tryd.func6, Tryd.ntmps6
  go_wp2_with fail
  refine (lives_any _).mono ?_
  rintro e w1 ⟨rfl, g1⟩
  have hp1 := hp.grown g1
  go_wp2_with fail
  have hc : (s.extract 0 (min (s.size : Int) 40).toNat).size ≤ 9223372036854775807 := by simp; omega
  generalize s.extract 0 (min (s.size : Int) 40).toNat = c1 at *
  have C1 := read_pows c1 hc w1 hp1
  have C2 := fun W => rread_any c1 W
  rw [same_read] at C1
  obtain ⟨m, b, hr⟩ := rr_form c1
  rw [hr] at C1 C2
  clear hr hc
  have C1 := Lib.hid C1
  have C2 := Lib.hid C2
  refine C1.out.mono ?_
  rintro e w2 ⟨rfl, g2⟩
  cases b
  · have g12 := grown_trans g1 g2
    have hp2 := hp1.grown g2
    go_wp2_with fail
    refine (C2.out _).mono ?_
    rintro e w3 ⟨rfl, rfl⟩
    have C3 := Lib.hid (text_any h hh w2 hp2)
    go_wp2_with fail
    refine C3.out.mono ?_
    rintro e w4 ⟨rfl, g4⟩
    have g4 := grown_trans g12 g4
    have C4 := rtext_any h.toNat (by omega) w4
    rw [show ((h.toNat : Nat) : Int) = h by omega] at C4
    have C4 := Lib.hid C4
    go_wp2_with fail
    refine C4.out.mono ?_
    rintro e w5 ⟨rfl, g5⟩
    have g5 := grown_trans g4 g5
    generalize digits h.toNat = dh at *
    have C5 := Lib.hid (span_any A n c f hn w5 (hA.grown g5))
    go_wp2_with fail
    refine C5.out.mono ?_
    rintro e w6 ⟨rfl, rfl⟩
    have C6 := Lib.hid (rspan_any A n c f hn w5 (hA.grown g5))
    go_wp2_with fail
    refine C6.out.mono ?_
    rintro e w7 ⟨rfl, g7⟩
    have g7 := grown_trans g5 g7
    go_wp2
    all_goals (go_ret; exact ⟨rfl, g7⟩)
  · have g12 := grown_trans g1 g2
    have hp2 := hp1.grown g2
    go_wp2_with fail
    refine (C2.out _).mono ?_
    rintro e w3 ⟨rfl, rfl⟩
    have C3 := Lib.hid (text_any h hh w2 hp2)
    go_wp2_with fail
    refine C3.out.mono ?_
    rintro e w4 ⟨rfl, g4⟩
    have g4 := grown_trans g12 g4
    have C4 := rtext_any h.toNat (by omega) w4
    rw [show ((h.toNat : Nat) : Int) = h by omega] at C4
    have C4 := Lib.hid C4
    go_wp2_with fail
    refine C4.out.mono ?_
    rintro e w5 ⟨rfl, g5⟩
    have g5 := grown_trans g4 g5
    generalize digits h.toNat = dh at *
    have C5 := Lib.hid (span_any A n c f hn w5 (hA.grown g5))
    go_wp2_with fail
    refine C5.out.mono ?_
    rintro e w6 ⟨rfl, rfl⟩
    have C6 := Lib.hid (rspan_any A n c f hn w5 (hA.grown g5))
    go_wp2_with fail
    refine C6.out.mono ?_
    rintro e w7 ⟨rfl, g7⟩
    have g7 := grown_trans g5 g7
    go_wp2
    all_goals (go_ret; exact ⟨rfl, g7⟩)
end Go.Proofs.YtlaahakobghmhaaDoor
