/- PipesOut: whatever is written, what comes out is a beginning of it. No condition. -/
import Derived.Test.YtdpjbkodenhelaaK
import Derived.Test.YtdpjbkodenhelaaNil
import Derived.SliceStrings
namespace Go.Proofs.Ytdpjbkodenhelaa
open Go.RowKit Go.Lib Go.Joins Go.ChangeShapes Go.WideShapes Go.ChangeAt
attribute [local go_sem ↓] Go.wp_at_zero Go.wp_at_succ

/-- A slice of strings that may be read. -/
def StrsAt (w : World) (A : Option Addr) (n : Nat) : Prop := ∀ k, k < n → ∃ (g o : Nat) (s : ByteArray), A = some ⟨g, o, none⟩ ∧ g < w.heap.size ∧ s.size ≤ 9223372036854775807 ∧ w.cell? ⟨g, o + k, none⟩ = some (.string s)

set_option maxHeartbeats 4000000 in
theorem out_some (b o m c : Nat) (_hm : m ≤ c) (_hc : c ≤ maxLen) (n : Int) (hn : n ≤ 9223372036854775807) (w : World) (hA : StrsAt w (some ⟨b, o, none⟩) m) :
    Calls Try.prog 3 #[.slice (some ⟨b, o, none⟩) m c, .int .i64 n] w fun e w' => e = .returned (.bool true) ∧ w.grownBy w' none := by
  go_enter Try.func3, Try.ntmps3
  go_wp2_with fail
  refine (lives_any _).mono ?_
  rintro e w1 ⟨rfl, g1⟩
  go_wp2_with fail
  refine (New_h g1).mono ?_
  rintro e w2 ⟨rfl, H2⟩
  generalize w1.heap.size = g at *
  go_wp2_with fail
  refine (Open_h H2 3).mono ?_
  rw [show at_ opn st0 3 = (0, upd st0 3 (opn (st0 3)).2) from rfl]
  rintro e w3 ⟨rfl, H3⟩
  go_wp2_with fail
  refine (Break_h H3 3 n hn).mono ?_
  rw [show at_ (brk n) (upd st0 3 (opn (st0 3)).2) 3 = (0, upd st0 3 (pst (max n (-1)) ByteArray.empty)) from by
    rw [show (3 : Int) = ((3 : Nat) : Int) from rfl, at_in _ _ _ (by decide), upd_same, upd_upd, ← pst_empty]
    rfl]
  rintro e w4 ⟨rfl, H4⟩
  clear H2 H3 g1
  go_wp2_with fail
  go_loopw [6, 7] (fun x i wr => ∃ (k : Nat) (acc : ByteArray), k ≤ 50 ∧ i = .int .i64 k ∧ x = .string acc ∧ acc.size ≤ 40 * k ∧ Held w wr g (upd st0 3 (pst (max n (-1)) acc))) (fun _ i _ => 50 - (intOf i).toNat)
  case atStart => exact ⟨0, ByteArray.empty, by omega, rfl, rfl, by decide, H4⟩
  case round =>
    clear H4
    obtain ⟨k, acc, hk, rfl, rfl, hacc, H5⟩ := hrel
    by_cases hlt : k < m
    · by_cases h50 : k < 50
      · obtain ⟨b', o', s, hbo, hbl, hss, hcell⟩ := hA k hlt
        injection hbo with hbo
        injection hbo with e1 e2 e3
        subst e1 e2
        have x0 := H5.cell hcell
        have hk2 : (k : Int) < 50 := by omega
        by_cases h40 : s.size ≤ 40
        · have h40' : (s.size : Int) ≤ 40 := by omega
          go_wp2_with fail
          go_region
          have hc1 : s.size ≤ 40 := h40
          generalize s = c1 at *
          replace H5 := H5.drew
          go_wp2_with fail
          refine (Whole_h H5 3 (by decide)).mono ?_
          rintro e w5 ⟨rfl, rfl⟩
          rw [upd_same, pst_whole]
          have hsz : (acc ++ c1).size = acc.size + c1.size := by simp
          have HW := Lib.hid (fun W HW => Write_pst (a := w) (w := W) (g := g) (st := st0) (i := 3) (by decide) (max n (-1)) acc c1 HW (by omega) (by unfold limit; omega) (fun j _ => by rw [show (st0 j).out.size = 0 from rfl]; unfold limit; omega))
          have hsum : acc.size + c1.size ≤ 9223372036854775807 := by omega
          rcases (by omega : n < 0 ∨ (0 ≤ n ∧ ((acc.size + c1.size : Nat) : Int) ≤ n) ∨ (0 ≤ n ∧ n < ((acc.size + c1.size : Nat) : Int))) with hn1 | ⟨hn1, hn2⟩ | ⟨hn1, hn2⟩
          · have f1 : wholeB (max n (-1)) acc = true := decide_eq_true (.inl (by omega))
            have f2 : wholeB (max n (-1)) (acc ++ c1) = true := decide_eq_true (.inl (by omega))
            rw [f2, if_pos rfl] at HW
            rw [f1]
            go_wp2_with fail
            refine (HW.out _ H5).mono ?_
            rintro e w6 ⟨rfl, H6⟩
            go_wp2
            exact ⟨⟨k + 1, acc ++ c1, by omega, by simp, rfl, by omega, H6⟩, by simp [intOf]; omega⟩
          · have f1 : wholeB (max n (-1)) acc = true := decide_eq_true (.inr (by omega))
            have f2 : wholeB (max n (-1)) (acc ++ c1) = true := decide_eq_true (.inr (by rw [hsz]; omega))
            have hn0 : decide (n < 0) = false := decide_eq_false (by omega)
            have hn3 : decide ((acc.size : Int) + c1.size ≤ n) = true := decide_eq_true (by omega)
            rw [f2, if_pos rfl] at HW
            rw [f1]
            go_wp2_with fail
            refine (HW.out _ H5).mono ?_
            rintro e w6 ⟨rfl, H6⟩
            go_wp2
            exact ⟨⟨k + 1, acc ++ c1, by omega, by simp, rfl, by omega, H6⟩, by simp [intOf]; omega⟩
          · have f2 : wholeB (max n (-1)) (acc ++ c1) = false := decide_eq_false (by rw [hsz]; omega)
            have hn0 : decide (n < 0) = false := decide_eq_false (by omega)
            have hn3 : decide ((acc.size : Int) + c1.size ≤ n) = false := decide_eq_false (by omega)
            rw [f2, if_neg (by decide)] at HW
            generalize wholeB (max n (-1)) acc = b1
            cases b1
            · go_wp2_with fail
              refine (HW.out _ H5).mono ?_
              rintro e w6 ⟨rfl, H6⟩
              go_wp2
              exact ⟨⟨k + 1, acc ++ c1, by omega, by simp, rfl, by omega, H6⟩, by simp [intOf]; omega⟩
            · go_wp2_with fail
              refine (HW.out _ H5).mono ?_
              rintro e w6 ⟨rfl, H6⟩
              go_wp2
              exact ⟨⟨k + 1, acc ++ c1, by omega, by simp, rfl, by omega, H6⟩, by simp [intOf]; omega⟩
        · have h40' : ¬ (s.size : Int) ≤ 40 := by omega
          have h41 : 40 ≤ s.size := by omega
          go_wp2_with fail
          go_region
          have hc1 : (s.extract 0 40).size ≤ 40 := by simp; omega
          generalize s.extract 0 40 = c1 at *
          replace H5 := H5.drew
          go_wp2_with fail
          refine (Whole_h H5 3 (by decide)).mono ?_
          rintro e w5 ⟨rfl, rfl⟩
          rw [upd_same, pst_whole]
          have hsz : (acc ++ c1).size = acc.size + c1.size := by simp
          have HW := Lib.hid (fun W HW => Write_pst (a := w) (w := W) (g := g) (st := st0) (i := 3) (by decide) (max n (-1)) acc c1 HW (by omega) (by unfold limit; omega) (fun j _ => by rw [show (st0 j).out.size = 0 from rfl]; unfold limit; omega))
          have hsum : acc.size + c1.size ≤ 9223372036854775807 := by omega
          rcases (by omega : n < 0 ∨ (0 ≤ n ∧ ((acc.size + c1.size : Nat) : Int) ≤ n) ∨ (0 ≤ n ∧ n < ((acc.size + c1.size : Nat) : Int))) with hn1 | ⟨hn1, hn2⟩ | ⟨hn1, hn2⟩
          · have f1 : wholeB (max n (-1)) acc = true := decide_eq_true (.inl (by omega))
            have f2 : wholeB (max n (-1)) (acc ++ c1) = true := decide_eq_true (.inl (by omega))
            rw [f2, if_pos rfl] at HW
            rw [f1]
            go_wp2_with fail
            refine (HW.out _ H5).mono ?_
            rintro e w6 ⟨rfl, H6⟩
            go_wp2
            exact ⟨⟨k + 1, acc ++ c1, by omega, by simp, rfl, by omega, H6⟩, by simp [intOf]; omega⟩
          · have f1 : wholeB (max n (-1)) acc = true := decide_eq_true (.inr (by omega))
            have f2 : wholeB (max n (-1)) (acc ++ c1) = true := decide_eq_true (.inr (by rw [hsz]; omega))
            have hn0 : decide (n < 0) = false := decide_eq_false (by omega)
            have hn3 : decide ((acc.size : Int) + c1.size ≤ n) = true := decide_eq_true (by omega)
            rw [f2, if_pos rfl] at HW
            rw [f1]
            go_wp2_with fail
            refine (HW.out _ H5).mono ?_
            rintro e w6 ⟨rfl, H6⟩
            go_wp2
            exact ⟨⟨k + 1, acc ++ c1, by omega, by simp, rfl, by omega, H6⟩, by simp [intOf]; omega⟩
          · have f2 : wholeB (max n (-1)) (acc ++ c1) = false := decide_eq_false (by rw [hsz]; omega)
            have hn0 : decide (n < 0) = false := decide_eq_false (by omega)
            have hn3 : decide ((acc.size : Int) + c1.size ≤ n) = false := decide_eq_false (by omega)
            rw [f2, if_neg (by decide)] at HW
            generalize wholeB (max n (-1)) acc = b1
            cases b1
            · go_wp2_with fail
              refine (HW.out _ H5).mono ?_
              rintro e w6 ⟨rfl, H6⟩
              go_wp2
              exact ⟨⟨k + 1, acc ++ c1, by omega, by simp, rfl, by omega, H6⟩, by simp [intOf]; omega⟩
            · go_wp2_with fail
              refine (HW.out _ H5).mono ?_
              rintro e w6 ⟨rfl, H6⟩
              go_wp2
              exact ⟨⟨k + 1, acc ++ c1, by omega, by simp, rfl, by omega, H6⟩, by simp [intOf]; omega⟩
      · have hk2 : ¬ (k : Int) < 50 := by omega
        have hsl : acc.size ≤ 9223372036854775807 := by omega
        have F1 := Lib.hid (fun W HW => Out_h (a := w) (w := W) (g := g) (st := upd st0 3 (pst (max n (-1)) acc)) HW 3 (by decide))
        have F2 := Lib.hid (fun W HW => Whole_h (a := w) (w := W) (g := g) (st := upd st0 3 (pst (max n (-1)) acc)) HW 3 (by decide))
        have F3 := Lib.hid (fun W HW => Is_h (a := w) (w := W) (g := g) (st := upd st0 3 (pst (max n (-1)) acc)) HW 3 (by decide))
        rw [upd_same] at F1 F2 F3
        rw [pst_whole] at F2
        rw [pst_op] at F3
        rcases (by omega : n < 0 ∨ (0 ≤ n ∧ (acc.size : Int) ≤ n) ∨ (0 ≤ n ∧ n < (acc.size : Int))) with hn1 | ⟨hn1, hn2⟩ | ⟨hn1, hn2⟩
        · have f1 : wholeB (max n (-1)) acc = true := decide_eq_true (.inl (by omega))
          have f2 : (pst (max n (-1)) acc).out = acc := by unfold pst; rw [if_pos (by omega)]
          rw [f1] at F2
          rw [f2] at F1
          go_wp2_with fail
          refine (F1.out _ H5).mono ?_
          rintro e w6 ⟨rfl, rfl⟩
          go_wp2_with fail
          refine (F2.out _ H5).mono ?_
          rintro e w6 ⟨rfl, rfl⟩
          go_wp2
          all_goals (go_ret; exact ⟨rfl, H5.made⟩)
        · have hn0 : ¬ n < 0 := by omega
          have f1 : wholeB (max n (-1)) acc = true := decide_eq_true (.inr (by omega))
          have f2 : (pst (max n (-1)) acc).out = acc := by unfold pst; rw [if_neg (by omega), if_pos (by omega)]
          rw [f1] at F2
          rw [f2] at F1
          go_wp2_with fail
          refine (F1.out _ H5).mono ?_
          rintro e w6 ⟨rfl, rfl⟩
          go_wp2_with fail
          refine (F2.out _ H5).mono ?_
          rintro e w6 ⟨rfl, rfl⟩
          go_wp2
          all_goals (go_ret; exact ⟨rfl, H5.made⟩)
        · obtain ⟨N, rfl⟩ : ∃ N : Nat, n = N := ⟨n.toNat, by omega⟩
          have hn0 : ¬ (N : Int) < 0 := by omega
          have hn3 : ¬ (acc.size : Int) ≤ N := by omega
          have hN : N ≤ acc.size := by omega
          have f1 : wholeB (max (N : Int) (-1)) acc = false := decide_eq_false (by omega)
          have f2 : (pst (max (N : Int) (-1)) acc).out = acc.extract 0 N := by unfold pst; rw [if_neg (by omega), if_neg (by omega)]; simp only []; congr 1; omega
          rw [f1] at F2
          rw [f2] at F1
          go_wp2_with fail
          refine (F1.out _ H5).mono ?_
          rintro e w6 ⟨rfl, rfl⟩
          go_wp2_with fail
          refine (F2.out _ H5).mono ?_
          rintro e w6 ⟨rfl, rfl⟩
          go_wp2_with fail
          refine (F3.out _ H5).mono ?_
          rintro e w6 ⟨rfl, rfl⟩
          go_wp2
          all_goals (go_ret; exact ⟨rfl, H5.made⟩)
    · have hk2 : ¬ (k : Int) < m := by omega
      have hsl : acc.size ≤ 9223372036854775807 := by omega
      have F1 := Lib.hid (fun W HW => Out_h (a := w) (w := W) (g := g) (st := upd st0 3 (pst (max n (-1)) acc)) HW 3 (by decide))
      have F2 := Lib.hid (fun W HW => Whole_h (a := w) (w := W) (g := g) (st := upd st0 3 (pst (max n (-1)) acc)) HW 3 (by decide))
      have F3 := Lib.hid (fun W HW => Is_h (a := w) (w := W) (g := g) (st := upd st0 3 (pst (max n (-1)) acc)) HW 3 (by decide))
      rw [upd_same] at F1 F2 F3
      rw [pst_whole] at F2
      rw [pst_op] at F3
      rcases (by omega : n < 0 ∨ (0 ≤ n ∧ (acc.size : Int) ≤ n) ∨ (0 ≤ n ∧ n < (acc.size : Int))) with hn1 | ⟨hn1, hn2⟩ | ⟨hn1, hn2⟩
      · have f1 : wholeB (max n (-1)) acc = true := decide_eq_true (.inl (by omega))
        have f2 : (pst (max n (-1)) acc).out = acc := by unfold pst; rw [if_pos (by omega)]
        rw [f1] at F2
        rw [f2] at F1
        go_wp2_with fail
        refine (F1.out _ H5).mono ?_
        rintro e w6 ⟨rfl, rfl⟩
        go_wp2_with fail
        refine (F2.out _ H5).mono ?_
        rintro e w6 ⟨rfl, rfl⟩
        go_wp2
        all_goals (go_ret; exact ⟨rfl, H5.made⟩)
      · have hn0 : ¬ n < 0 := by omega
        have f1 : wholeB (max n (-1)) acc = true := decide_eq_true (.inr (by omega))
        have f2 : (pst (max n (-1)) acc).out = acc := by unfold pst; rw [if_neg (by omega), if_pos (by omega)]
        rw [f1] at F2
        rw [f2] at F1
        go_wp2_with fail
        refine (F1.out _ H5).mono ?_
        rintro e w6 ⟨rfl, rfl⟩
        go_wp2_with fail
        refine (F2.out _ H5).mono ?_
        rintro e w6 ⟨rfl, rfl⟩
        go_wp2
        all_goals (go_ret; exact ⟨rfl, H5.made⟩)
      · obtain ⟨N, rfl⟩ : ∃ N : Nat, n = N := ⟨n.toNat, by omega⟩
        have hn0 : ¬ (N : Int) < 0 := by omega
        have hn3 : ¬ (acc.size : Int) ≤ N := by omega
        have hN : N ≤ acc.size := by omega
        have f1 : wholeB (max (N : Int) (-1)) acc = false := decide_eq_false (by omega)
        have f2 : (pst (max (N : Int) (-1)) acc).out = acc.extract 0 N := by unfold pst; rw [if_neg (by omega), if_neg (by omega)]; simp only []; congr 1; omega
        rw [f1] at F2
        rw [f2] at F1
        go_wp2_with fail
        refine (F1.out _ H5).mono ?_
        rintro e w6 ⟨rfl, rfl⟩
        go_wp2_with fail
        refine (F2.out _ H5).mono ?_
        rintro e w6 ⟨rfl, rfl⟩
        go_wp2_with fail
        refine (F3.out _ H5).mono ?_
        rintro e w6 ⟨rfl, rfl⟩
        go_wp2
        all_goals (go_ret; exact ⟨rfl, H5.made⟩)
set_option maxHeartbeats 4000000 in
theorem out_zero (A : Option Addr) (c : Nat) (n : Int) (hn : n ≤ 9223372036854775807) (w : World) :
    Calls Try.prog 3 #[.slice A 0 c, .int .i64 n] w fun e w' => e = .returned (.bool true) ∧ w.grownBy w' none := by
  go_enter Try.func3, Try.ntmps3
  go_wp2_with fail
  refine (lives_any _).mono ?_
  rintro e w1 ⟨rfl, g1⟩
  go_wp2_with fail
  refine (New_h g1).mono ?_
  rintro e w2 ⟨rfl, H2⟩
  generalize w1.heap.size = g at *
  go_wp2_with fail
  refine (Open_h H2 3).mono ?_
  rw [show at_ opn st0 3 = (0, upd st0 3 (opn (st0 3)).2) from rfl]
  rintro e w3 ⟨rfl, H3⟩
  go_wp2_with fail
  refine (Break_h H3 3 n hn).mono ?_
  rw [show at_ (brk n) (upd st0 3 (opn (st0 3)).2) 3 = (0, upd st0 3 (pst (max n (-1)) ByteArray.empty)) from by
    rw [show (3 : Int) = ((3 : Nat) : Int) from rfl, at_in _ _ _ (by decide), upd_same, upd_upd, ← pst_empty]
    rfl]
  rintro e w4 ⟨rfl, H4⟩
  clear H2 H3 g1
  go_wp2_with fail
  go_loopw [6, 7] (fun x i wr => ∃ (acc : ByteArray), i = .int .i64 0 ∧ x = .string acc ∧ acc.size ≤ 0 ∧ Held w wr g (upd st0 3 (pst (max n (-1)) acc))) (fun _ i _ => 50 - (intOf i).toNat)
  case atStart => exact ⟨ByteArray.empty, rfl, rfl, by decide, H4⟩
  case round =>
    clear H4
    obtain ⟨acc, rfl, rfl, hacc, H5⟩ := hrel
    have hsl : acc.size ≤ 9223372036854775807 := by omega
    have F1 := Lib.hid (fun W HW => Out_h (a := w) (w := W) (g := g) (st := upd st0 3 (pst (max n (-1)) acc)) HW 3 (by decide))
    have F2 := Lib.hid (fun W HW => Whole_h (a := w) (w := W) (g := g) (st := upd st0 3 (pst (max n (-1)) acc)) HW 3 (by decide))
    have F3 := Lib.hid (fun W HW => Is_h (a := w) (w := W) (g := g) (st := upd st0 3 (pst (max n (-1)) acc)) HW 3 (by decide))
    rw [upd_same] at F1 F2 F3
    rw [pst_whole] at F2
    rw [pst_op] at F3
    rcases (by omega : n < 0 ∨ (0 ≤ n ∧ (acc.size : Int) ≤ n) ∨ (0 ≤ n ∧ n < (acc.size : Int))) with hn1 | ⟨hn1, hn2⟩ | ⟨hn1, hn2⟩
    · have f1 : wholeB (max n (-1)) acc = true := decide_eq_true (.inl (by omega))
      have f2 : (pst (max n (-1)) acc).out = acc := by unfold pst; rw [if_pos (by omega)]
      rw [f1] at F2
      rw [f2] at F1
      go_wp2_with fail
      refine (F1.out _ H5).mono ?_
      rintro e w6 ⟨rfl, rfl⟩
      go_wp2_with fail
      refine (F2.out _ H5).mono ?_
      rintro e w6 ⟨rfl, rfl⟩
      go_wp2
      all_goals (go_ret; exact ⟨rfl, H5.made⟩)
    · have hn0 : ¬ n < 0 := by omega
      have f1 : wholeB (max n (-1)) acc = true := decide_eq_true (.inr (by omega))
      have f2 : (pst (max n (-1)) acc).out = acc := by unfold pst; rw [if_neg (by omega), if_pos (by omega)]
      rw [f1] at F2
      rw [f2] at F1
      go_wp2_with fail
      refine (F1.out _ H5).mono ?_
      rintro e w6 ⟨rfl, rfl⟩
      go_wp2_with fail
      refine (F2.out _ H5).mono ?_
      rintro e w6 ⟨rfl, rfl⟩
      go_wp2
      all_goals (go_ret; exact ⟨rfl, H5.made⟩)
    · exfalso; omega
theorem out_any (A : Option Addr) (m c : Nat) (hm : m ≤ c) (hc : c ≤ maxLen) (n : Int) (hn : n ≤ 9223372036854775807) (w : World) (hA : StrsAt w A m) :
    Calls Try.prog 3 #[.slice A m c, .int .i64 n] w fun e w' => e = .returned (.bool true) ∧ w.grownBy w' none := by
  rcases Nat.eq_zero_or_pos m with rfl | h
  · exact out_zero A c n hn w
  · obtain ⟨b, o, _, rfl, _⟩ := hA 0 h
    exact out_some b o m c hm hc n hn w hA

/-- A slice of strings handed in. -/
theorem strs_of {H : Type} {enc : TypeId × Value → H} {W : World} {base : Nat} {v : Value} {d : DataW H} {p : List MemPlace}
    (hval : Value.okWide Try.prog W .any base 22 v) (h : DataW.Trod enc Try.prog W 0 (fun _ => true) true 22 v d p) : ∃ (A : Option Addr) (n c : Nat), v = .slice A n c ∧ n ≤ c ∧ c ≤ maxLen ∧ StrsAt W A n := by
  obtain ⟨a0, len, cap, rfl⟩ := okWide_slice Try.underlying22 hval
  obtain ⟨fuel, hf⟩ := h
  rcases open_strings Try.underlying22 Try.underlying9 (by kernel_rfl) hf with ⟨hcs, _⟩ | ⟨a, len', cap', ss, hcs, _, hl, hm, hlen, _, hcell, hsz⟩
  · simp [Value.cells] at hcs
    obtain ⟨rfl, rfl, rfl⟩ := hcs
    exact ⟨none, 0, 0, rfl, by omega, Nat.zero_le _, fun k hk => absurd hk (by omega)⟩
  · simp [Value.cells] at hcs
    obtain ⟨rfl, rfl, rfl⟩ := hcs
    simp only [if_pos] at hlen
    have hsp : 0 < len → a.spot = none := fun hk => by
      have h0 := hcell 0 (by omega)
      simpa [Addr.add] using World.cell?_spot h0
    refine ⟨some a, _, _, rfl, hl, hm, fun k hk => ?_⟩
    · have hc := hcell k (by omega)
      obtain ⟨b, off, spot⟩ := a
      have hspot : spot = none := hsp (by omega)
      subst hspot
      rw [Go.WideShapes.add_plain] at hc
      refine ⟨b, off, _, rfl, World.block_lt_of_cell? W ⟨b, off + k, none⟩ hc, ?_, hc⟩
      have := hsz (ss.getD k ByteArray.empty) (by rw [List.getD_eq_getElem?_getD, List.getElem?_eq_getElem (by omega)]; simp)
      simpa [maxLen] using this

set_option maxRecDepth 100000 in
theorem pipesOut_lifted (os : Os) (started : os.Started) (H : Type) (enc : TypeId × Value → H) :
    ReturnsInHanded {} Try.checked os 3 .any (Rows.pipesOutSpec.pre6 enc Try.prog Try.f3 Rows.pipesOutRow.domain false) (Rows.pipesOutSpec.post enc Try.prog Try.f3 false true false false) := by
  refine returnsInHanded_of_change (C := Try.checked) Try.own started (by kernel_rfl) Try.func3
    (ChangeSpec.witness6 (enc := enc) (C := Try.checked) false ⟨#[], #[.slice none 0 0, .int .i64 0], []⟩ 8 (by kernel_rfl) (by kernel_rfl) (by kernel_rfl) (by kernel_rfl)) ?_
  intro W base args ds gs before hval0 hW hcnd _
  have hval : ∀ (j : Nat) t v, Try.f3.params[j]? = some t → args[j]? = some v → Value.okWide Try.prog W .any base t v := hval0
  have hW' := hW
  obtain ⟨p, q, hA0, hV, rfl, hfz, hnd⟩ := hW
  have hA : DataW.TrodAll enc Try.prog W 0 (fun _ => true) true Try.f3.params.toList args.toList ds p := hA0
  have hA1 := hA
  rw [Try.params3] at hA hval
  obtain ⟨v0, v1, d0, d1, p0, p1, rfl, rfl, rfl, h0, h1⟩ := trodAll_two hA
  obtain ⟨rfl, rfl⟩ := trodVars_none hV
  obtain ⟨A, m, c, rfl, hm, hc, hi⟩ := strs_of (hval 0 22 v0 rfl rfl) h0
  obtain ⟨n, rfl, rfl, rfl, wn⟩ := open_int Try.underlying3 (hval 1 3 v1 rfl rfl) h1
  clear hA0 hval0
  simp only [List.append_nil] at hW' hA1
  refine (out_any A m c hm hc n (bounds_i64 wn).2 W hi).mono fun e W' ⟨he, hb⟩ => ?_
  subst he
  have hts : ∀ t ∈ Try.f3.params.toList, Try.prog.readableRec t = true ∧ t < Try.prog.types.size := by
    rw [Try.params3]
    intro t ht
    simp at ht
    rcases ht with rfl | rfl
    all_goals exact ⟨by kernel_rfl, of_decide_eq_true (by kernel_rfl)⟩
  exact ⟨_, rfl, post_of_below (pa := _) (pv := []) hW' (fun _ _ _ => trodAll_mk1 (shut_bool Try.underlying4 _)) (fun sp hsp => trodAll_below Try.laidOut (grown_below hb) hts hA1 (fun x hx => ⟨hW'.lt x hx, hsp x hx⟩)) (fun _ _ => rfl) (by simp)
    (grown_below hb) (ok_one (by kernel_rfl) rfl (okWide_bool_mk Try.underlying4 _))⟩

theorem pipesOut_holds : Rows.PipesOutSaid :=
  OpenClaim.holds_of_wide 3 Try.f3 rfl rfl rfl rfl rfl rfl rfl ⟨rfl, rfl, rfl, rfl, rfl⟩ rfl rfl rfl rfl rfl (by kernel_rfl) Try.func3 (by kernel_rfl)
    (of_decide_eq_true (by kernel_rfl)) (by unfold Func.isWrapper; first | (rw [if_pos (by decide +kernel)]; kernel_rfl) | (rw [if_neg (by decide +kernel)]; exact ⟨rfl, rfl⟩))
    (fun os started H enc _ => pipesOut_lifted os started H enc)
#print axioms pipesOut_holds
end Go.Proofs.Ytdpjbkodenhelaa
