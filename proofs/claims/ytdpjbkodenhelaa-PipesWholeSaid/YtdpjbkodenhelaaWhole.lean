/- PipesWhole: what comes out is the same whether it is written in pieces or all at once. No condition. -/
import Derived.Test.YtdpjbkodenhelaaOut
namespace Go.Proofs.Ytdpjbkodenhelaa
open Go.RowKit Go.Lib Go.Joins Go.ChangeShapes Go.WideShapes Go.ChangeAt
attribute [local go_sem ↓] Go.wp_at_zero Go.wp_at_succ

def pb : PS := ⟨true, false, -1, ByteArray.empty⟩
def ps (n : Int) : PS := ⟨true, false, max n (-1), ByteArray.empty⟩
theorem pst_start (n : Int) : pst (max n (-1)) ByteArray.empty = ps n := by
  rw [← pst_empty]
  rfl
theorem upd_comm (st : Nat → PS) (i j : Nat) (x y : PS) (h : i ≠ j) : upd (upd st i x) j y = upd (upd st j y) i x := by
  funext k
  unfold upd
  by_cases e1 : k = i
  · subst e1; simp [h]
  · by_cases e2 : k = j
    · subst e2; simp [e1]
    · simp [e1, e2]
theorem upd_start (st : Nat → PS) (x y : PS) : upd (upd (upd (upd st 1 x) 2 x) 1 y) 2 y = upd (upd st 2 y) 1 y := by
  rw [upd_comm (upd st 1 x) 2 1 _ _ (by decide), upd_upd, upd_upd, upd_comm _ 1 2 _ _ (by decide)]

set_option maxHeartbeats 4000000 in
theorem whole_some (b o m c : Nat) (n : Int) (hn : n ≤ 9223372036854775807) (w : World) (hA : StrsAt w (some ⟨b, o, none⟩) m) :
    Calls Try.prog 4 #[.slice (some ⟨b, o, none⟩) m c, .int .i64 n] w fun e w' => e = .returned (.bool true) ∧ w.grownBy w' none := by
  go_enter Try.func4, Try.ntmps4
  go_wp2_with fail
  refine (lives_any _).mono ?_
  rintro e w1 ⟨rfl, g1⟩
  go_wp2_with fail
  refine (New_h g1).mono ?_
  rintro e w2 ⟨rfl, H2⟩
  generalize w1.heap.size = g at *
  go_wp2_with fail
  refine (Open_h H2 1).mono ?_
  rw [show at_ opn st0 1 = (0, upd st0 1 pb) from rfl]
  rintro e w3 ⟨rfl, H3⟩
  go_wp2_with fail
  refine (Open_h H3 2).mono ?_
  rw [show at_ opn (upd st0 1 pb) 2 = (0, upd (upd st0 1 pb) 2 pb) from rfl]
  rintro e w4 ⟨rfl, H4⟩
  go_wp2_with fail
  refine (Break_h H4 1 n hn).mono ?_
  rw [show at_ (brk n) (upd (upd st0 1 pb) 2 pb) 1 = (0, upd (upd (upd st0 1 pb) 2 pb) 1 (ps n)) from rfl]
  rintro e w5 ⟨rfl, H5⟩
  go_wp2_with fail
  refine (Break_h H5 2 n hn).mono ?_
  rw [show at_ (brk n) (upd (upd (upd st0 1 pb) 2 pb) 1 (ps n)) 2 = (0, upd (upd (upd (upd st0 1 pb) 2 pb) 1 (ps n)) 2 (ps n)) from rfl]
  rintro e w6 ⟨rfl, H6⟩
  rw [upd_start, ← pst_start] at H6
  clear H2 H3 H4 H5 g1
  go_wp2_with fail
  go_loopw [6, 7] (fun x i wr => ∃ (k : Nat) (acc : ByteArray), k ≤ 50 ∧ i = .int .i64 k ∧ x = .string acc ∧ acc.size ≤ 40 * k ∧ Held w wr g (upd (upd st0 2 (pst (max n (-1)) ByteArray.empty)) 1 (pst (max n (-1)) acc))) (fun _ i _ => 50 - (intOf i).toNat)
  case atStart => exact ⟨0, ByteArray.empty, by omega, rfl, rfl, by decide, H6⟩
  case round =>
    clear H6
    obtain ⟨k, acc, hk, rfl, rfl, hacc, H5⟩ := hrel
    by_cases hlt : k < m
    · by_cases h50 : k < 50
      · obtain ⟨b', o', s, hbo, hbl, hss, hcell⟩ := hA k hlt
        injection hbo with hbo
        injection hbo with e1 e2 e3
        subst e1 e2
        have x0 := H5.cell hcell
        have hk2 : (k : Int) < 50 := by omega
        by_cases h40 : s.size ≤ 40
        · have h40' : (s.size : Int) ≤ 40 := by omega
          go_wp2_with fail
          go_region
          have hc1 : s.size ≤ 40 := h40
          generalize s = c1 at *
          replace H5 := H5.drew
          have HW := Write_pst (st := upd st0 2 (pst (max n (-1)) ByteArray.empty)) (i := 1) (by decide) (max n (-1)) acc c1 H5 (by omega) (by unfold limit; omega) (fun j _ => by
            have := pst_out_le (max n (-1)) ByteArray.empty
            have e0 : ByteArray.empty.size = 0 := rfl
            unfold limit
            by_cases e : j = 2
            · subst e; rw [upd_same]; omega
            · rw [upd_other _ _ _ _ e, show (st0 j).out.size = 0 from rfl]; omega)
          have hsz : (acc ++ c1).size = acc.size + c1.size := by simp
          have hsum : acc.size + c1.size ≤ 9223372036854775807 := by omega
          go_wp2_with fail
          refine HW.mono ?_
          rintro e w6 ⟨rfl, H6⟩
          clear HW
          generalize (if wholeB (max n (-1)) (acc ++ c1) = true then (0 : Int) else 12) = q
          go_wp2
          exact ⟨⟨k + 1, acc ++ c1, by omega, by simp, rfl, by omega, H6⟩, by simp [intOf]; omega⟩
        · have h40' : ¬ (s.size : Int) ≤ 40 := by omega
          have h41 : 40 ≤ s.size := by omega
          go_wp2_with fail
          go_region
          have hc1 : (s.extract 0 40).size ≤ 40 := by simp; omega
          generalize s.extract 0 40 = c1 at *
          replace H5 := H5.drew
          have HW := Write_pst (st := upd st0 2 (pst (max n (-1)) ByteArray.empty)) (i := 1) (by decide) (max n (-1)) acc c1 H5 (by omega) (by unfold limit; omega) (fun j _ => by
            have := pst_out_le (max n (-1)) ByteArray.empty
            have e0 : ByteArray.empty.size = 0 := rfl
            unfold limit
            by_cases e : j = 2
            · subst e; rw [upd_same]; omega
            · rw [upd_other _ _ _ _ e, show (st0 j).out.size = 0 from rfl]; omega)
          have hsz : (acc ++ c1).size = acc.size + c1.size := by simp
          have hsum : acc.size + c1.size ≤ 9223372036854775807 := by omega
          go_wp2_with fail
          refine HW.mono ?_
          rintro e w6 ⟨rfl, H6⟩
          clear HW
          generalize (if wholeB (max n (-1)) (acc ++ c1) = true then (0 : Int) else 12) = q
          go_wp2
          exact ⟨⟨k + 1, acc ++ c1, by omega, by simp, rfl, by omega, H6⟩, by simp [intOf]; omega⟩
      · have hk2 : ¬ (k : Int) < 50 := by omega
        rw [upd_comm _ 2 1 _ _ (by decide)] at H5
        have HW := Write_pst (st := upd st0 1 (pst (max n (-1)) acc)) (i := 2) (by decide) (max n (-1)) ByteArray.empty acc H5 (by omega) (by unfold limit; have : ByteArray.empty.size = 0 := rfl; omega) (fun j _ => by
          have := pst_out_le (max n (-1)) acc
          unfold limit
          by_cases e : j = 1
          · subst e; rw [upd_same]; omega
          · rw [upd_other _ _ _ _ e, show (st0 j).out.size = 0 from rfl]; omega)
        rw [ByteArray.empty_append] at HW
        go_wp2_with fail
        refine HW.mono ?_
        rintro e w6 ⟨rfl, H6⟩
        clear HW H5
        generalize (if wholeB (max n (-1)) acc = true then (0 : Int) else 12) = q
        have F1 := Out_h H6 1 (by decide)
        have F2 := Out_h H6 2 (by decide)
        have F3 := Whole_h H6 1 (by decide)
        have F4 := Whole_h H6 2 (by decide)
        have F5 := Is_h H6 1 (by decide)
        rw [upd_same] at F2 F4
        rw [upd_other _ _ _ _ (by decide), upd_same] at F1 F3 F5
        rw [pst_whole] at F3 F4
        rw [pst_op] at F5
        have F1 := Lib.hid F1
        have F2 := Lib.hid F2
        have F3 := Lib.hid F3
        have F4 := Lib.hid F4
        have F5 := Lib.hid F5
        generalize (pst (max n (-1)) acc).out = xo at *
        go_wp2_with fail
        refine F1.out.mono ?_
        rintro e w7 ⟨rfl, rfl⟩
        go_wp2_with fail
        refine F2.out.mono ?_
        rintro e w7 ⟨rfl, rfl⟩
        generalize wholeB (max n (-1)) acc = wb at *
        cases wb
        · go_wp2_with fail
          refine F3.out.mono ?_
          rintro e w7 ⟨rfl, rfl⟩
          go_wp2_with fail
          refine F4.out.mono ?_
          rintro e w7 ⟨rfl, rfl⟩
          go_wp2_with fail
          refine F5.out.mono ?_
          rintro e w7 ⟨rfl, rfl⟩
          go_wp2
          all_goals (go_ret; exact ⟨rfl, H6.made⟩)
        · go_wp2_with fail
          refine F3.out.mono ?_
          rintro e w7 ⟨rfl, rfl⟩
          go_wp2_with fail
          refine F4.out.mono ?_
          rintro e w7 ⟨rfl, rfl⟩
          go_wp2_with fail
          refine F5.out.mono ?_
          rintro e w7 ⟨rfl, rfl⟩
          go_wp2
          all_goals (go_ret; exact ⟨rfl, H6.made⟩)
    · have hk2 : ¬ (k : Int) < m := by omega
      rw [upd_comm _ 2 1 _ _ (by decide)] at H5
      have HW := Write_pst (st := upd st0 1 (pst (max n (-1)) acc)) (i := 2) (by decide) (max n (-1)) ByteArray.empty acc H5 (by omega) (by unfold limit; have : ByteArray.empty.size = 0 := rfl; omega) (fun j _ => by
        have := pst_out_le (max n (-1)) acc
        unfold limit
        by_cases e : j = 1
        · subst e; rw [upd_same]; omega
        · rw [upd_other _ _ _ _ e, show (st0 j).out.size = 0 from rfl]; omega)
      rw [ByteArray.empty_append] at HW
      go_wp2_with fail
      refine HW.mono ?_
      rintro e w6 ⟨rfl, H6⟩
      clear HW H5
      generalize (if wholeB (max n (-1)) acc = true then (0 : Int) else 12) = q
      have F1 := Out_h H6 1 (by decide)
      have F2 := Out_h H6 2 (by decide)
      have F3 := Whole_h H6 1 (by decide)
      have F4 := Whole_h H6 2 (by decide)
      have F5 := Is_h H6 1 (by decide)
      rw [upd_same] at F2 F4
      rw [upd_other _ _ _ _ (by decide), upd_same] at F1 F3 F5
      rw [pst_whole] at F3 F4
      rw [pst_op] at F5
      have F1 := Lib.hid F1
      have F2 := Lib.hid F2
      have F3 := Lib.hid F3
      have F4 := Lib.hid F4
      have F5 := Lib.hid F5
      generalize (pst (max n (-1)) acc).out = xo at *
      go_wp2_with fail
      refine F1.out.mono ?_
      rintro e w7 ⟨rfl, rfl⟩
      go_wp2_with fail
      refine F2.out.mono ?_
      rintro e w7 ⟨rfl, rfl⟩
      generalize wholeB (max n (-1)) acc = wb at *
      cases wb
      · go_wp2_with fail
        refine F3.out.mono ?_
        rintro e w7 ⟨rfl, rfl⟩
        go_wp2_with fail
        refine F4.out.mono ?_
        rintro e w7 ⟨rfl, rfl⟩
        go_wp2_with fail
        refine F5.out.mono ?_
        rintro e w7 ⟨rfl, rfl⟩
        go_wp2
        all_goals (go_ret; exact ⟨rfl, H6.made⟩)
      · go_wp2_with fail
        refine F3.out.mono ?_
        rintro e w7 ⟨rfl, rfl⟩
        go_wp2_with fail
        refine F4.out.mono ?_
        rintro e w7 ⟨rfl, rfl⟩
        go_wp2_with fail
        refine F5.out.mono ?_
        rintro e w7 ⟨rfl, rfl⟩
        go_wp2
        all_goals (go_ret; exact ⟨rfl, H6.made⟩)
set_option maxHeartbeats 4000000 in
theorem whole_zero (A : Option Addr) (c : Nat) (n : Int) (hn : n ≤ 9223372036854775807) (w : World) :
    Calls Try.prog 4 #[.slice A 0 c, .int .i64 n] w fun e w' => e = .returned (.bool true) ∧ w.grownBy w' none := by
  go_enter Try.func4, Try.ntmps4
  go_wp2_with fail
  refine (lives_any _).mono ?_
  rintro e w1 ⟨rfl, g1⟩
  go_wp2_with fail
  refine (New_h g1).mono ?_
  rintro e w2 ⟨rfl, H2⟩
  generalize w1.heap.size = g at *
  go_wp2_with fail
  refine (Open_h H2 1).mono ?_
  rw [show at_ opn st0 1 = (0, upd st0 1 pb) from rfl]
  rintro e w3 ⟨rfl, H3⟩
  go_wp2_with fail
  refine (Open_h H3 2).mono ?_
  rw [show at_ opn (upd st0 1 pb) 2 = (0, upd (upd st0 1 pb) 2 pb) from rfl]
  rintro e w4 ⟨rfl, H4⟩
  go_wp2_with fail
  refine (Break_h H4 1 n hn).mono ?_
  rw [show at_ (brk n) (upd (upd st0 1 pb) 2 pb) 1 = (0, upd (upd (upd st0 1 pb) 2 pb) 1 (ps n)) from rfl]
  rintro e w5 ⟨rfl, H5⟩
  go_wp2_with fail
  refine (Break_h H5 2 n hn).mono ?_
  rw [show at_ (brk n) (upd (upd (upd st0 1 pb) 2 pb) 1 (ps n)) 2 = (0, upd (upd (upd (upd st0 1 pb) 2 pb) 1 (ps n)) 2 (ps n)) from rfl]
  rintro e w6 ⟨rfl, H6⟩
  rw [upd_start, ← pst_start] at H6
  clear H2 H3 H4 H5 g1
  go_wp2_with fail
  go_loopw [6, 7] (fun x i wr => ∃ (acc : ByteArray), i = .int .i64 0 ∧ x = .string acc ∧ acc.size ≤ 0 ∧ Held w wr g (upd (upd st0 2 (pst (max n (-1)) ByteArray.empty)) 1 (pst (max n (-1)) acc))) (fun _ i _ => 50 - (intOf i).toNat)
  case atStart => exact ⟨ByteArray.empty, rfl, rfl, by decide, H6⟩
  case round =>
    clear H6
    obtain ⟨acc, rfl, rfl, hacc, H5⟩ := hrel
    rw [upd_comm _ 2 1 _ _ (by decide)] at H5
    have HW := Write_pst (st := upd st0 1 (pst (max n (-1)) acc)) (i := 2) (by decide) (max n (-1)) ByteArray.empty acc H5 (by omega) (by unfold limit; have : ByteArray.empty.size = 0 := rfl; omega) (fun j _ => by
      have := pst_out_le (max n (-1)) acc
      unfold limit
      by_cases e : j = 1
      · subst e; rw [upd_same]; omega
      · rw [upd_other _ _ _ _ e, show (st0 j).out.size = 0 from rfl]; omega)
    rw [ByteArray.empty_append] at HW
    go_wp2_with fail
    refine HW.mono ?_
    rintro e w6 ⟨rfl, H6⟩
    clear HW H5
    generalize (if wholeB (max n (-1)) acc = true then (0 : Int) else 12) = q
    have F1 := Out_h H6 1 (by decide)
    have F2 := Out_h H6 2 (by decide)
    have F3 := Whole_h H6 1 (by decide)
    have F4 := Whole_h H6 2 (by decide)
    have F5 := Is_h H6 1 (by decide)
    rw [upd_same] at F2 F4
    rw [upd_other _ _ _ _ (by decide), upd_same] at F1 F3 F5
    rw [pst_whole] at F3 F4
    rw [pst_op] at F5
    have F1 := Lib.hid F1
    have F2 := Lib.hid F2
    have F3 := Lib.hid F3
    have F4 := Lib.hid F4
    have F5 := Lib.hid F5
    generalize (pst (max n (-1)) acc).out = xo at *
    go_wp2_with fail
    refine F1.out.mono ?_
    rintro e w7 ⟨rfl, rfl⟩
    go_wp2_with fail
    refine F2.out.mono ?_
    rintro e w7 ⟨rfl, rfl⟩
    generalize wholeB (max n (-1)) acc = wb at *
    cases wb
    · go_wp2_with fail
      refine F3.out.mono ?_
      rintro e w7 ⟨rfl, rfl⟩
      go_wp2_with fail
      refine F4.out.mono ?_
      rintro e w7 ⟨rfl, rfl⟩
      go_wp2_with fail
      refine F5.out.mono ?_
      rintro e w7 ⟨rfl, rfl⟩
      go_wp2
      all_goals (go_ret; exact ⟨rfl, H6.made⟩)
    · go_wp2_with fail
      refine F3.out.mono ?_
      rintro e w7 ⟨rfl, rfl⟩
      go_wp2_with fail
      refine F4.out.mono ?_
      rintro e w7 ⟨rfl, rfl⟩
      go_wp2_with fail
      refine F5.out.mono ?_
      rintro e w7 ⟨rfl, rfl⟩
      go_wp2
      all_goals (go_ret; exact ⟨rfl, H6.made⟩)
theorem whole_any2 (A : Option Addr) (m c : Nat) (n : Int) (hn : n ≤ 9223372036854775807) (w : World) (hA : StrsAt w A m) :
    Calls Try.prog 4 #[.slice A m c, .int .i64 n] w fun e w' => e = .returned (.bool true) ∧ w.grownBy w' none := by
  rcases Nat.eq_zero_or_pos m with rfl | h
  · exact whole_zero A c n hn w
  · obtain ⟨b, o, _, rfl, _⟩ := hA 0 h
    exact whole_some b o m c n hn w hA

set_option maxRecDepth 100000 in
theorem pipesWhole_lifted (os : Os) (started : os.Started) (H : Type) (enc : TypeId × Value → H) :
    ReturnsInHanded {} Try.checked os 4 .any (Rows.pipesWholeSpec.pre6 enc Try.prog Try.f4 Rows.pipesWholeRow.domain false) (Rows.pipesWholeSpec.post enc Try.prog Try.f4 false true false false) := by
  refine returnsInHanded_of_change (C := Try.checked) Try.own started (by kernel_rfl) Try.func4
    (ChangeSpec.witness6 (enc := enc) (C := Try.checked) false ⟨#[], #[.slice none 0 0, .int .i64 0], []⟩ 8 (by kernel_rfl) (by kernel_rfl) (by kernel_rfl) (by kernel_rfl)) ?_
  intro W base args ds gs before hval0 hW hcnd _
  have hval : ∀ (j : Nat) t v, Try.f4.params[j]? = some t → args[j]? = some v → Value.okWide Try.prog W .any base t v := hval0
  have hW' := hW
  obtain ⟨p, q, hA0, hV, rfl, hfz, hnd⟩ := hW
  have hA : DataW.TrodAll enc Try.prog W 0 (fun _ => true) true Try.f4.params.toList args.toList ds p := hA0
  have hA1 := hA
  rw [Try.params4] at hA hval
  obtain ⟨v0, v1, d0, d1, p0, p1, rfl, rfl, rfl, h0, h1⟩ := trodAll_two hA
  obtain ⟨rfl, rfl⟩ := trodVars_none hV
  obtain ⟨A, m, c, rfl, _, _, hi⟩ := strs_of (hval 0 22 v0 rfl rfl) h0
  obtain ⟨n, rfl, rfl, rfl, wn⟩ := open_int Try.underlying3 (hval 1 3 v1 rfl rfl) h1
  clear hA0 hval0
  simp only [List.append_nil] at hW' hA1
  refine (whole_any2 A m c n (bounds_i64 wn).2 W hi).mono fun e W' ⟨he, hb⟩ => ?_
  subst he
  have hts : ∀ t ∈ Try.f4.params.toList, Try.prog.readableRec t = true ∧ t < Try.prog.types.size := by
    rw [Try.params4]
    intro t ht
    simp at ht
    rcases ht with rfl | rfl
    all_goals exact ⟨by kernel_rfl, of_decide_eq_true (by kernel_rfl)⟩
  exact ⟨_, rfl, post_of_below (pa := _) (pv := []) hW' (fun _ _ _ => trodAll_mk1 (shut_bool Try.underlying4 _)) (fun sp hsp => trodAll_below Try.laidOut (grown_below hb) hts hA1 (fun x hx => ⟨hW'.lt x hx, hsp x hx⟩)) (fun _ _ => rfl) (by simp)
    (grown_below hb) (ok_one (by kernel_rfl) rfl (okWide_bool_mk Try.underlying4 _))⟩

theorem pipesWhole_holds : Rows.PipesWholeSaid :=
  OpenClaim.holds_of_wide 4 Try.f4 rfl rfl rfl rfl rfl rfl rfl ⟨rfl, rfl, rfl, rfl, rfl⟩ rfl rfl rfl rfl rfl (by kernel_rfl) Try.func4 (by kernel_rfl)
    (of_decide_eq_true (by kernel_rfl)) (by unfold Func.isWrapper; first | (rw [if_pos (by decide +kernel)]; kernel_rfl) | (rw [if_neg (by decide +kernel)]; exact ⟨rfl, rfl⟩))
    (fun os started H enc _ => pipesWhole_lifted os started H enc)
#print axioms pipesWhole_holds
end Go.Proofs.Ytdpjbkodenhelaa
