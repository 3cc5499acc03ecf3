/- PactFits, the row: for every list of acts and every list of turns the law answers true, and its arguments read as they did. No condition. -/
import Derived.Test.YtajdhlcnfmlkiaaH
import Derived.Test.YtajdhlcnfmlkiaaLaw
import Derived.Deep.Grids
import Derived.OpenShut
namespace Go.Proofs.Ytajdhlcnfmlkiaa
open Go.RowKit Go.Joins Go.ChangeShapes Go.WideShapes Go.ChangeAt
attribute [local go_sem ↓] Go.wp_at_zero Go.wp_at_succ

/-- Two sides that may be, and fit. -/
def okB (n : Int) (a b : Bool) (m : Int) (c d : Bool) : Bool := rightB n a b && rightB m c d && fitB n a b m c d && fitB m c d n a b

theorem ok_both (n : Int) (a b : Bool) (m : Int) (c d : Bool) (act : Int) (h : okB n a b m c d = true) (h1 : 1 ≤ act) (h4 : act ≤ 4) :
    okB (bxN n a b m act) (bxA n a b m act) (bxB n a b m act) (byN n a b m c d act) (byA n a b m c d act) (byB n a b m c d act) = true := by
  have hn : rightB n a b = true := by simp [okB] at h; exact h.1.1.1
  have hm : rightB m c d = true := by simp [okB] at h; exact h.1.1.2
  obtain ⟨k0, k3⟩ := right_bd hn
  obtain ⟨g0, g3⟩ := right_bd hm
  rcases small4 k0 k3 with rfl | rfl | rfl | rfl <;> rcases small4 g0 g3 with rfl | rfl | rfl | rfl <;> cases a <;> cases b <;> cases c <;> cases d <;> first | (exfalso; revert h; decide) | (rcases act4 h1 h4 with rfl | rfl | rfl | rfl <;> decide)
theorem ok_swap {n : Int} {a b : Bool} {m : Int} {c d : Bool} (h : okB n a b m c d = true) : okB m c d n a b = true := by
  unfold okB at *
  simp only [Bool.and_eq_true] at *
  exact ⟨⟨⟨h.1.1.2, h.1.1.1⟩, h.2⟩, h.1.2⟩

theorem act_bd (z : Int) : 1 ≤ wrap64 (1 + wrap64 ((IntKind.u64.wrap z).tmod 4)) ∧ wrap64 (1 + wrap64 ((IntKind.u64.wrap z).tmod 4)) ≤ 4 := by
  have h : 0 ≤ IntKind.u64.wrap z := by simp only [IntKind.wrap, IntKind.signed, IntKind.bits]; simp; omega
  rw [Int.tmod_eq_emod_of_nonneg h]
  generalize IntKind.u64.wrap z = y at *
  have e1 : wrap64 (y % 4) = y % 4 := IntWalk.wrap64_in _ ⟨by omega, by omega⟩
  rw [e1, IntWalk.wrap64_in _ ⟨by omega, by omega⟩]
  omega
theorem fit_yes (n : Int) (a b : Bool) (m : Int) (c d : Bool) (h : Hid (fitB n a b m c d = true)) (w : World) :
    Calls Try.prog 11 #[S n a b, S m c d] w fun e w' => e = .returned (.bool true) ∧ Below w.heap.size w w' := by
  have h' : fitB n a b m c d = true := h
  rw [← h']; exact fit_any n a b m c d w
theorem ok_parts {n : Int} {a b : Bool} {m : Int} {c d : Bool} (h : okB n a b m c d = true) : rightB n a b = true ∧ rightB m c d = true ∧ fitB n a b m c d = true ∧ fitB m c d n a b = true := by
  unfold okB at h
  simp only [Bool.and_eq_true] at h
  exact ⟨h.1.1.1, h.1.1.2, h.1.2, h.2⟩
/-- What holds at the head of each round: so many acts are done; the two sides lie in their blocks, may be, and fit. -/
def FitsRel (w : World) (g n : Nat) (i : Value) (wr : World) : Prop :=
  ∃ k : Nat, k ≤ n ∧ i = .int .i64 k ∧ ∃ (sn : Int) (sa sb : Bool) (sm : Int) (sc sd : Bool), okB sn sa sb sm sc sd = true ∧ Blk wr g 23 #[.int .i64 sn, .bool sa, .bool sb] ∧ Blk wr (g + 1) 23 #[.int .i64 sm, .bool sc, .bool sd] ∧ Below w.heap.size w wr

/-- A slice of integers that may be read: cell k, where k is below its length. -/
def IntsAt (w : World) (A : Option Addr) (n : Nat) : Prop := ∀ k, k < n → ∃ g o z, A = some ⟨g, o, none⟩ ∧ g < w.heap.size ∧ w.cell? ⟨g, o + k, none⟩ = some (.int .i64 z)
def BoolsAt (w : World) (A : Option Addr) (n : Nat) : Prop := ∀ k, k < n → ∃ g o z, A = some ⟨g, o, none⟩ ∧ g < w.heap.size ∧ w.cell? ⟨g, o + k, none⟩ = some (.bool z)

theorem fits_next {w wr : World} {g n k : Nat} {sn : Int} {sa sb : Bool} {sm : Int} {sc sd : Bool} (hlt : k < n) (h : okB sn sa sb sm sc sd = true) (ha : Blk wr g 23 #[.int .i64 sn, .bool sa, .bool sb]) (hb : Blk wr (g + 1) 23 #[.int .i64 sm, .bool sc, .bool sd]) (hB : Below w.heap.size w wr) :
    FitsRel w g n (.int .i64 ((k : Int) + 1)) wr := ⟨k + 1, by omega, by simp, sn, sa, sb, sm, sc, sd, h, ha, hb, hB⟩

set_option maxRecDepth 100000 in
set_option maxHeartbeats 2000000 in
theorem fits_any (A B : Option Addr) (n ca m cb : Nat) (w : World) (hn : n ≤ 9223372036854775807)  (hA : Hid (IntsAt w A n)) (hB : Hid (BoolsAt w B m)) :
    Calls Try.prog 4 #[.slice A n ca, .slice B m cb] w fun e w' => e = .returned (.bool true) ∧ Below w.heap.size w w' := by
  go_enter Try.func4, Try.ntmps4
  go_wp2_with fail
  refine (lives_any _).mono ?_
  rintro e w1 ⟨rfl, hb1⟩
  have hz1 := hb1.size
  go_wp2_with fail
  go_loopw [7] (fun i wr => FitsRel w w1.heap.size n i wr) (fun i _ => n - (intOf i).toNat)
  case atStart =>
    have b0 := Blk.new (w1.alloc (.cells #[.int .i64 0, .bool false, .bool false] 23)) 23 #[.int .i64 0, .bool false, .bool false]
    simp only [World.size_alloc] at b0
    exact ⟨0, by omega, rfl, 0, false, false, 0, false, false, by decide, (Blk.new _ _ _).alloc _, b0, (hb1.alloc hz1 _).alloc (by simp; omega) _⟩
  case round =>
    obtain ⟨k, hk, rfl, sn, sa, sb, sm, sc, sd, hok, ha, hb, hB'⟩ := hrel
    by_cases hlt : k < n
    · by_cases h2 : k < 200
      · obtain ⟨g, o, z, rfl, hg, hc⟩ := (show IntsAt w A n from hA) k hlt
        have hc' := (hB'.cell (p := ⟨g, o + k, none⟩) hg).trans hc
        obtain ⟨ra0, rb0, _, _⟩ := ok_parts hok
        have ra := Lib.hid ra0
        have rb := Lib.hid rb0
        clear ra0 rb0
        have ok := Lib.hid hok
        clear hok
        obtain ⟨x0, x1, x2, _, _, _⟩ := ha.side
        obtain ⟨y0, y1, y2, _, _, _⟩ := hb.side
        by_cases hkm : k < m
        · obtain ⟨g', o', t, rfl, hg', hd⟩ := (show BoolsAt w B m from hB) k hkm
          have hd' := (hB'.cell (p := ⟨g', o' + k, none⟩) hg').trans hd
          cases t
          · skip
            go_wp2_with fail
            generalize hact : wrap64 (1 + wrap64 ((IntKind.u64.wrap z).tmod 4)) = act
            have c1 : 1 ≤ act := by rw [← hact]; exact (act_bd z).1
            have c4 : act ≤ 4 := by rw [← hact]; exact (act_bd z).2
            clear hact
            refine (both_ok sn sa sb sm sc sd act ra.out rb.out c1 c4 _).mono ?_
            rintro e w2 ⟨rfl, hb2⟩
            have a2 := ha.below hb2 ha.lt
            have b2 := hb.below hb2 hb.lt
            have B2 := hB'.trans (hb2.mono hB'.size)
            clear hb2 x0 x1 x2 y0 y1 y2
            have a3 := (a2.store3 (x' := .int .i64 (bxN sn sa sb sm act)) (y' := .bool (bxA sn sa sb sm act)) (z' := .bool (bxB sn sa sb sm act))).far3 (g' := w1.heap.size + 1) (by omega) (.int .i64 (byN sn sa sb sm sc sd act)) (.bool (byA sn sa sb sm sc sd act)) (.bool (byB sn sa sb sm sc sd act))
            have b3 := (b2.far3 (g' := w1.heap.size) (by omega) (.int .i64 (bxN sn sa sb sm act)) (.bool (bxA sn sa sb sm act)) (.bool (bxB sn sa sb sm act))).store3 (x' := .int .i64 (byN sn sa sb sm sc sd act)) (y' := .bool (byA sn sa sb sm sc sd act)) (z' := .bool (byB sn sa sb sm sc sd act))
            have B3 := below_set3 (below_set3 B2 (g := w1.heap.size) (by omega) (.int .i64 (bxN sn sa sb sm act)) (.bool (bxA sn sa sb sm act)) (.bool (bxB sn sa sb sm act))) (g := w1.heap.size + 1) (by omega) (.int .i64 (byN sn sa sb sm sc sd act)) (.bool (byA sn sa sb sm sc sd act)) (.bool (byB sn sa sb sm sc sd act))
            obtain ⟨p0, p1, p2, p3, p4, p5⟩ := a2.side
            obtain ⟨q0, q1, q2, q3, q4, q5⟩ := b2.side
            clear ha hb hB' a2 b2 B2
            have ok2 : okB (bxN sn sa sb sm act) (bxA sn sa sb sm act) (bxB sn sa sb sm act) (byN sn sa sb sm sc sd act) (byA sn sa sb sm sc sd act) (byB sn sa sb sm sc sd act) = true := ok_both sn sa sb sm sc sd act ok.out c1 c4
            obtain ⟨k1, k2, k3, k4⟩ := ok_parts ok2
            have OK2 := Lib.hid ok2
            have K1 := Lib.hid k1
            have K2 := Lib.hid k2
            have K3 := Lib.hid k3
            have K4 := Lib.hid k4
            clear ok2 k1 k2 k3 k4
            go_wp2_with fail
            clear p0 p1 p2 p3 p4 p5 q0 q1 q2 q3 q4 q5
            refine (right_yes (bxN sn sa sb sm act) (bxA sn sa sb sm act) (bxB sn sa sb sm act) K1 _).mono ?_
            rintro e w4 ⟨rfl, hb4⟩
            have a4 := a3.below hb4 a3.lt
            have b4 := b3.below hb4 b3.lt
            have B4 := B3.trans (hb4.mono B3.size)
            clear hb4 a3 b3 B3
            obtain ⟨p0, p1, p2, _, _, _⟩ := a4.side
            obtain ⟨q0, q1, q2, _, _, _⟩ := b4.side
            go_wp2_with fail
            refine (right_yes (byN sn sa sb sm sc sd act) (byA sn sa sb sm sc sd act) (byB sn sa sb sm sc sd act) K2 _).mono ?_
            rintro e w5 ⟨rfl, hb5⟩
            have a5 := a4.below hb5 a4.lt
            have b5 := b4.below hb5 b4.lt
            have B5 := B4.trans (hb5.mono B4.size)
            clear hb5 a4 b4 B4 p0 p1 p2 q0 q1 q2
            obtain ⟨p0, p1, p2, _, _, _⟩ := a5.side
            obtain ⟨q0, q1, q2, _, _, _⟩ := b5.side
            go_wp2_with fail
            refine (fit_yes (bxN sn sa sb sm act) (bxA sn sa sb sm act) (bxB sn sa sb sm act) (byN sn sa sb sm sc sd act) (byA sn sa sb sm sc sd act) (byB sn sa sb sm sc sd act) K3 _).mono ?_
            rintro e w6 ⟨rfl, hb6⟩
            have a6 := a5.below hb6 a5.lt
            have b6 := b5.below hb6 b5.lt
            have B6 := B5.trans (hb6.mono B5.size)
            clear hb6 a5 b5 B5 p0 p1 p2 q0 q1 q2
            obtain ⟨p0, p1, p2, _, _, _⟩ := a6.side
            obtain ⟨q0, q1, q2, _, _, _⟩ := b6.side
            go_wp2_with fail
            refine (fit_yes (byN sn sa sb sm sc sd act) (byA sn sa sb sm sc sd act) (byB sn sa sb sm sc sd act) (bxN sn sa sb sm act) (bxA sn sa sb sm act) (bxB sn sa sb sm act) K4 _).mono ?_
            rintro e w7 ⟨rfl, hb7⟩
            have a7 := a6.below hb7 a6.lt
            have b7 := b6.below hb7 b6.lt
            have B7 := B6.trans (hb7.mono B6.size)
            clear hb7 a6 b6 B6 p0 p1 p2 q0 q1 q2
            go_wp2
            refine ⟨fits_next hlt OK2 a7 b7 B7, by simp [intOf]; omega⟩
          · skip
            go_wp2_with fail
            generalize hact : wrap64 (1 + wrap64 ((IntKind.u64.wrap z).tmod 4)) = act
            have c1 : 1 ≤ act := by rw [← hact]; exact (act_bd z).1
            have c4 : act ≤ 4 := by rw [← hact]; exact (act_bd z).2
            clear hact
            refine (both_ok sm sc sd sn sa sb act rb.out ra.out c1 c4 _).mono ?_
            rintro e w2 ⟨rfl, hb2⟩
            have a2 := ha.below hb2 ha.lt
            have b2 := hb.below hb2 hb.lt
            have B2 := hB'.trans (hb2.mono hB'.size)
            clear hb2 x0 x1 x2 y0 y1 y2
            have a3 := (a2.far3 (g' := w1.heap.size + 1) (by omega) (.int .i64 (bxN sm sc sd sn act)) (.bool (bxA sm sc sd sn act)) (.bool (bxB sm sc sd sn act))).store3 (x' := .int .i64 (byN sm sc sd sn sa sb act)) (y' := .bool (byA sm sc sd sn sa sb act)) (z' := .bool (byB sm sc sd sn sa sb act))
            have b3 := (b2.store3 (x' := .int .i64 (bxN sm sc sd sn act)) (y' := .bool (bxA sm sc sd sn act)) (z' := .bool (bxB sm sc sd sn act))).far3 (g' := w1.heap.size) (by omega) (.int .i64 (byN sm sc sd sn sa sb act)) (.bool (byA sm sc sd sn sa sb act)) (.bool (byB sm sc sd sn sa sb act))
            have B3 := below_set3 (below_set3 B2 (g := w1.heap.size + 1) (by omega) (.int .i64 (bxN sm sc sd sn act)) (.bool (bxA sm sc sd sn act)) (.bool (bxB sm sc sd sn act))) (g := w1.heap.size) (by omega) (.int .i64 (byN sm sc sd sn sa sb act)) (.bool (byA sm sc sd sn sa sb act)) (.bool (byB sm sc sd sn sa sb act))
            obtain ⟨p0, p1, p2, p3, p4, p5⟩ := a2.side
            obtain ⟨q0, q1, q2, q3, q4, q5⟩ := b2.side
            clear ha hb hB' a2 b2 B2
            have ok2 : okB (byN sm sc sd sn sa sb act) (byA sm sc sd sn sa sb act) (byB sm sc sd sn sa sb act) (bxN sm sc sd sn act) (bxA sm sc sd sn act) (bxB sm sc sd sn act) = true := ok_swap (ok_both sm sc sd sn sa sb act (ok_swap ok.out) c1 c4)
            obtain ⟨k1, k2, k3, k4⟩ := ok_parts ok2
            have OK2 := Lib.hid ok2
            have K1 := Lib.hid k1
            have K2 := Lib.hid k2
            have K3 := Lib.hid k3
            have K4 := Lib.hid k4
            clear ok2 k1 k2 k3 k4
            go_wp2_with fail
            clear p0 p1 p2 p3 p4 p5 q0 q1 q2 q3 q4 q5
            refine (right_yes (byN sm sc sd sn sa sb act) (byA sm sc sd sn sa sb act) (byB sm sc sd sn sa sb act) K1 _).mono ?_
            rintro e w4 ⟨rfl, hb4⟩
            have a4 := a3.below hb4 a3.lt
            have b4 := b3.below hb4 b3.lt
            have B4 := B3.trans (hb4.mono B3.size)
            clear hb4 a3 b3 B3
            obtain ⟨p0, p1, p2, _, _, _⟩ := a4.side
            obtain ⟨q0, q1, q2, _, _, _⟩ := b4.side
            go_wp2_with fail
            refine (right_yes (bxN sm sc sd sn act) (bxA sm sc sd sn act) (bxB sm sc sd sn act) K2 _).mono ?_
            rintro e w5 ⟨rfl, hb5⟩
            have a5 := a4.below hb5 a4.lt
            have b5 := b4.below hb5 b4.lt
            have B5 := B4.trans (hb5.mono B4.size)
            clear hb5 a4 b4 B4 p0 p1 p2 q0 q1 q2
            obtain ⟨p0, p1, p2, _, _, _⟩ := a5.side
            obtain ⟨q0, q1, q2, _, _, _⟩ := b5.side
            go_wp2_with fail
            refine (fit_yes (byN sm sc sd sn sa sb act) (byA sm sc sd sn sa sb act) (byB sm sc sd sn sa sb act) (bxN sm sc sd sn act) (bxA sm sc sd sn act) (bxB sm sc sd sn act) K3 _).mono ?_
            rintro e w6 ⟨rfl, hb6⟩
            have a6 := a5.below hb6 a5.lt
            have b6 := b5.below hb6 b5.lt
            have B6 := B5.trans (hb6.mono B5.size)
            clear hb6 a5 b5 B5 p0 p1 p2 q0 q1 q2
            obtain ⟨p0, p1, p2, _, _, _⟩ := a6.side
            obtain ⟨q0, q1, q2, _, _, _⟩ := b6.side
            go_wp2_with fail
            refine (fit_yes (bxN sm sc sd sn act) (bxA sm sc sd sn act) (bxB sm sc sd sn act) (byN sm sc sd sn sa sb act) (byA sm sc sd sn sa sb act) (byB sm sc sd sn sa sb act) K4 _).mono ?_
            rintro e w7 ⟨rfl, hb7⟩
            have a7 := a6.below hb7 a6.lt
            have b7 := b6.below hb7 b6.lt
            have B7 := B6.trans (hb7.mono B6.size)
            clear hb7 a6 b6 B6 p0 p1 p2 q0 q1 q2
            go_wp2
            refine ⟨fits_next hlt OK2 a7 b7 B7, by simp [intOf]; omega⟩
        · skip
          go_wp2_with fail
          generalize hact : wrap64 (1 + wrap64 ((IntKind.u64.wrap z).tmod 4)) = act
          have c1 : 1 ≤ act := by rw [← hact]; exact (act_bd z).1
          have c4 : act ≤ 4 := by rw [← hact]; exact (act_bd z).2
          clear hact
          refine (both_ok sn sa sb sm sc sd act ra.out rb.out c1 c4 _).mono ?_
          rintro e w2 ⟨rfl, hb2⟩
          have a2 := ha.below hb2 ha.lt
          have b2 := hb.below hb2 hb.lt
          have B2 := hB'.trans (hb2.mono hB'.size)
          clear hb2 x0 x1 x2 y0 y1 y2
          have a3 := (a2.store3 (x' := .int .i64 (bxN sn sa sb sm act)) (y' := .bool (bxA sn sa sb sm act)) (z' := .bool (bxB sn sa sb sm act))).far3 (g' := w1.heap.size + 1) (by omega) (.int .i64 (byN sn sa sb sm sc sd act)) (.bool (byA sn sa sb sm sc sd act)) (.bool (byB sn sa sb sm sc sd act))
          have b3 := (b2.far3 (g' := w1.heap.size) (by omega) (.int .i64 (bxN sn sa sb sm act)) (.bool (bxA sn sa sb sm act)) (.bool (bxB sn sa sb sm act))).store3 (x' := .int .i64 (byN sn sa sb sm sc sd act)) (y' := .bool (byA sn sa sb sm sc sd act)) (z' := .bool (byB sn sa sb sm sc sd act))
          have B3 := below_set3 (below_set3 B2 (g := w1.heap.size) (by omega) (.int .i64 (bxN sn sa sb sm act)) (.bool (bxA sn sa sb sm act)) (.bool (bxB sn sa sb sm act))) (g := w1.heap.size + 1) (by omega) (.int .i64 (byN sn sa sb sm sc sd act)) (.bool (byA sn sa sb sm sc sd act)) (.bool (byB sn sa sb sm sc sd act))
          obtain ⟨p0, p1, p2, p3, p4, p5⟩ := a2.side
          obtain ⟨q0, q1, q2, q3, q4, q5⟩ := b2.side
          clear ha hb hB' a2 b2 B2
          have ok2 : okB (bxN sn sa sb sm act) (bxA sn sa sb sm act) (bxB sn sa sb sm act) (byN sn sa sb sm sc sd act) (byA sn sa sb sm sc sd act) (byB sn sa sb sm sc sd act) = true := ok_both sn sa sb sm sc sd act ok.out c1 c4
          obtain ⟨k1, k2, k3, k4⟩ := ok_parts ok2
          have OK2 := Lib.hid ok2
          have K1 := Lib.hid k1
          have K2 := Lib.hid k2
          have K3 := Lib.hid k3
          have K4 := Lib.hid k4
          clear ok2 k1 k2 k3 k4
          go_wp2_with fail
          clear p0 p1 p2 p3 p4 p5 q0 q1 q2 q3 q4 q5
          refine (right_yes (bxN sn sa sb sm act) (bxA sn sa sb sm act) (bxB sn sa sb sm act) K1 _).mono ?_
          rintro e w4 ⟨rfl, hb4⟩
          have a4 := a3.below hb4 a3.lt
          have b4 := b3.below hb4 b3.lt
          have B4 := B3.trans (hb4.mono B3.size)
          clear hb4 a3 b3 B3
          obtain ⟨p0, p1, p2, _, _, _⟩ := a4.side
          obtain ⟨q0, q1, q2, _, _, _⟩ := b4.side
          go_wp2_with fail
          refine (right_yes (byN sn sa sb sm sc sd act) (byA sn sa sb sm sc sd act) (byB sn sa sb sm sc sd act) K2 _).mono ?_
          rintro e w5 ⟨rfl, hb5⟩
          have a5 := a4.below hb5 a4.lt
          have b5 := b4.below hb5 b4.lt
          have B5 := B4.trans (hb5.mono B4.size)
          clear hb5 a4 b4 B4 p0 p1 p2 q0 q1 q2
          obtain ⟨p0, p1, p2, _, _, _⟩ := a5.side
          obtain ⟨q0, q1, q2, _, _, _⟩ := b5.side
          go_wp2_with fail
          refine (fit_yes (bxN sn sa sb sm act) (bxA sn sa sb sm act) (bxB sn sa sb sm act) (byN sn sa sb sm sc sd act) (byA sn sa sb sm sc sd act) (byB sn sa sb sm sc sd act) K3 _).mono ?_
          rintro e w6 ⟨rfl, hb6⟩
          have a6 := a5.below hb6 a5.lt
          have b6 := b5.below hb6 b5.lt
          have B6 := B5.trans (hb6.mono B5.size)
          clear hb6 a5 b5 B5 p0 p1 p2 q0 q1 q2
          obtain ⟨p0, p1, p2, _, _, _⟩ := a6.side
          obtain ⟨q0, q1, q2, _, _, _⟩ := b6.side
          go_wp2_with fail
          refine (fit_yes (byN sn sa sb sm sc sd act) (byA sn sa sb sm sc sd act) (byB sn sa sb sm sc sd act) (bxN sn sa sb sm act) (bxA sn sa sb sm act) (bxB sn sa sb sm act) K4 _).mono ?_
          rintro e w7 ⟨rfl, hb7⟩
          have a7 := a6.below hb7 a6.lt
          have b7 := b6.below hb7 b6.lt
          have B7 := B6.trans (hb7.mono B6.size)
          clear hb7 a6 b6 B6 p0 p1 p2 q0 q1 q2
          go_wp2
          refine ⟨fits_next hlt OK2 a7 b7 B7, by simp [intOf]; omega⟩
      · go_wp2
        go_ret
        exact ⟨rfl, hB'⟩
    · go_wp2
      go_ret
      exact ⟨rfl, hB'⟩

theorem ints_of {H : Type} {enc : TypeId × Value → H} {P : Program} {W : World} {base : Nat} {t e : TypeId} {v : Value} {d : DataW H} {p : List MemPlace} (ht : P.underlying t = some (.slice e)) (he : P.underlying e = some (.int .i64)) (hc : P.cellsOf e = 1)
    (hval : Value.okWide P W .any base t v) (h : DataW.Trod enc P W 0 (fun _ => true) true t v d p) : ∃ (A : Option Addr) (n c : Nat), v = .slice A n c ∧ n ≤ maxLen ∧ IntsAt W A n := by
  obtain ⟨a0, len, cap, rfl⟩ := okWide_slice ht hval
  obtain ⟨fuel, hf⟩ := h
  rcases open_ints ht he hc hf with ⟨hcs, _⟩ | ⟨a, len', cap', zs, hcs, _, hl, hm, hz, _, hcell, _⟩
  · simp [Value.cells] at hcs
    obtain ⟨rfl, rfl, rfl⟩ := hcs
    exact ⟨none, 0, 0, rfl, Nat.zero_le _, fun k hk => absurd hk (by omega)⟩
  · simp [Value.cells] at hcs
    obtain ⟨rfl, rfl, rfl⟩ := hcs
    refine ⟨some a, _, _, rfl, by omega, fun k hk => ?_⟩
    simp only [if_true] at hz
    obtain ⟨b, off, rfl, hcell'⟩ := ints_at hcell (by omega)
    have hck := hcell' k (by omega)
    exact ⟨b, off, _, rfl, World.block_lt_of_cell? W ⟨b, off + k, none⟩ hck, hck⟩
theorem bools_of {H : Type} {enc : TypeId × Value → H} {P : Program} {W : World} {base : Nat} {t e : TypeId} {v : Value} {d : DataW H} {p : List MemPlace} (ht : P.underlying t = some (.slice e)) (he : P.underlying e = some .bool) (hc : P.cellsOf e = 1)
    (hval : Value.okWide P W .any base t v) (h : DataW.Trod enc P W 0 (fun _ => true) true t v d p) : ∃ (A : Option Addr) (n c : Nat), v = .slice A n c ∧ n ≤ maxLen ∧ BoolsAt W A n := by
  obtain ⟨a0, len, cap, rfl⟩ := okWide_slice ht hval
  obtain ⟨fuel, hf⟩ := h
  rcases Go.Deep.open_bools ht he hc hf with ⟨hcs, _⟩ | ⟨a, len', cap', B, hcs, _, hl, hm, _, hcell⟩
  · simp [Value.cells] at hcs
    obtain ⟨rfl, rfl, rfl⟩ := hcs
    exact ⟨none, 0, 0, rfl, Nat.zero_le _, fun k hk => absurd hk (by omega)⟩
  · simp [Value.cells] at hcs
    obtain ⟨rfl, rfl, rfl⟩ := hcs
    refine ⟨some a, _, _, rfl, by omega, fun k hk => ?_⟩
    have hck := hcell k (by omega)
    obtain ⟨b, off, spot⟩ := a
    have hspot : spot = none := by simpa [Addr.add] using World.cell?_spot (hcell 0 (by omega))
    subst hspot
    rw [Go.WideShapes.add_plain] at hck
    exact ⟨b, off, _, rfl, World.block_lt_of_cell? W ⟨b, off + k, none⟩ hck, hck⟩

set_option maxRecDepth 100000 in
theorem pactFits_lifted (os : Os) (started : os.Started) (H : Type) (enc : TypeId × Value → H) :
    ReturnsInHanded {} Try.checked os 4 .any (Rows.pactFitsSpec.pre6 enc Try.prog Try.f4 Rows.pactFitsRow.domain false) (Rows.pactFitsSpec.post enc Try.prog Try.f4 false true false false) := by
  refine returnsInHanded_of_change (C := Try.checked) Try.own started (by kernel_rfl) Try.func4
    (ChangeSpec.witness6 (enc := enc) (C := Try.checked) false ⟨#[], #[.slice none 0 0, .slice none 0 0], []⟩ 8 (by kernel_rfl) (by kernel_rfl) (by kernel_rfl) (by kernel_rfl)) ?_
  intro W base args ds gs before hval0 hW hcnd _
  have hval : ∀ (j : Nat) t v, Try.f4.params[j]? = some t → args[j]? = some v → Value.okWide Try.prog W .any base t v := hval0
  have hW' := hW
  obtain ⟨p, q, hA0, hV, rfl, hfz, hnd⟩ := hW
  have hA : DataW.TrodAll enc Try.prog W 0 (fun _ => true) true Try.f4.params.toList args.toList ds p := hA0
  have hA1 := hA
  rw [Try.params4] at hA hval
  obtain ⟨v0, v1, d0, d1, p0, p1, rfl, rfl, rfl, h0, h1⟩ := trodAll_two hA
  obtain ⟨rfl, rfl⟩ := trodVars_none hV
  obtain ⟨A, n, ca, rfl, hn, hi⟩ := ints_of Try.underlying38 Try.underlying3 (by kernel_rfl) (hval 0 38 v0 rfl rfl) h0
  obtain ⟨B, m, cb, rfl, hm, hb⟩ := bools_of Try.underlying39 Try.underlying4 (by kernel_rfl) (hval 1 39 v1 rfl rfl) h1
  clear hA0 hval0
  simp only [List.append_nil] at hW' hA1
  refine (fits_any A B n ca m cb W (by unfold maxLen at hn; omega) hi hb).mono fun e W' ⟨he, hb⟩ => ?_
  subst he
  have hts : ∀ t ∈ Try.f4.params.toList, Try.prog.readableRec t = true ∧ t < Try.prog.types.size := by
    rw [Try.params4]
    intro t ht
    simp at ht
    rcases ht with rfl | rfl
    · exact ⟨by kernel_rfl, of_decide_eq_true (by kernel_rfl)⟩
    · exact ⟨by kernel_rfl, of_decide_eq_true (by kernel_rfl)⟩
  exact ⟨_, rfl, post_of_below (pa := p0 ++ p1) (pv := []) hW' (fun _ _ _ => trodAll_mk1 (shut_bool Try.underlying4 _)) (fun sp hsp => trodAll_below Try.laidOut hb hts hA1 (fun x hx => ⟨hW'.lt x hx, hsp x hx⟩)) (fun _ _ => rfl) (by simp)
    hb (ok_one (by kernel_rfl) rfl (okWide_bool_mk Try.underlying4 _))⟩

theorem pactFits_holds : Rows.PactFitsSaid :=
  OpenClaim.holds_of_wide 4 Try.f4 rfl rfl rfl rfl rfl rfl rfl ⟨rfl, rfl, rfl, rfl, rfl⟩ rfl rfl rfl rfl rfl (by kernel_rfl) Try.func4 (by kernel_rfl)
    (of_decide_eq_true (by kernel_rfl)) (by unfold Func.isWrapper; first | (rw [if_pos (by decide +kernel)]; kernel_rfl) | (rw [if_neg (by decide +kernel)]; exact ⟨rfl, rfl⟩))
    (fun os started H enc _ => pactFits_lifted os started H enc)
#print axioms pactFits_holds
end Go.Proofs.Ytajdhlcnfmlkiaa
