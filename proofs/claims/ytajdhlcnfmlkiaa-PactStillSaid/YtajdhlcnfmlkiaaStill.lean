/- PactStill, the row: for every side and every act the law answers true, and its arguments read as they did. No condition. -/
import Derived.Test.YtajdhlcnfmlkiaaI
import Derived.Test.YtajdhlcnfmlkiaaLaw
namespace Go.Proofs.Ytajdhlcnfmlkiaa
open Go.RowKit Go.Joins Go.ChangeShapes Go.WideShapes Go.ChangeAt
attribute [local go_sem ↓] Go.wp_at_zero Go.wp_at_succ
set_option maxHeartbeats 1000000 in
theorem still_err (n : Int) (a b : Bool) (act : Int) (HD : Hid (Ans 21 n a b act 0 false false false false 1)) (HH : Hid (Ans 22 n a b act 0 false false false false 1)) (w : World) :
    Calls Try.prog 7 #[S n a b, .int .i64 act] w fun e w' => e = .returned (.bool true) ∧ Below w.heap.size w w' := by
  go_enter Try.func7, Try.ntmps7
  go_wp2_with fail
  refine (lives_any _).mono ?_
  rintro e w1 ⟨rfl, hb1⟩
  have B1 : Below w.heap.size w w1 := ((((Below.refl w.heap.size w)).alloc ((Below.refl w.heap.size w)).size (.cells #[.int .i64 n, .bool a, .bool b] 23))).trans (hb1.mono ((((Below.refl w.heap.size w)).alloc ((Below.refl w.heap.size w)).size (.cells #[.int .i64 n, .bool a, .bool b] 23))).size)
  have p1 := (Blk.new w 23 #[.int .i64 n, .bool a, .bool b]).below hb1 (Blk.new w 23 #[.int .i64 n, .bool a, .bool b]).lt
  clear hb1
  have p1c0 := p1.cell 0
  have p1c1 := p1.cell 1
  have p1c2 := p1.cell 2
  simp only [List.getElem?_toArray, List.getElem?_cons_zero, List.getElem?_cons_succ] at p1c0 p1c1 p1c2
  go_wp2_with fail
  refine (HD _).mono ?_
  rintro e w2 ⟨rfl, hb2⟩
  have B2 : Below w.heap.size w w2 := (B1).trans (hb2.mono (B1).size)
  have p2 := (p1).below hb2 (p1).lt
  clear hb2 B1 p1
  have p2c0 := p2.cell 0
  have p2c1 := p2.cell 1
  have p2c2 := p2.cell 2
  simp only [List.getElem?_toArray, List.getElem?_cons_zero, List.getElem?_cons_succ] at p2c0 p2c1 p2c2
  have z1 := fun o => (p2.alloc o).cell 0
  have z2 := fun o => (p2.alloc o).cell 1
  have z3 := fun o => (p2.alloc o).cell 2
  simp only [List.getElem?_toArray, List.getElem?_cons_zero, List.getElem?_cons_succ] at z1 z2 z3
  go_wp2_with fail
  refine (HH _).mono ?_
  rintro e w3 ⟨rfl, hb3⟩
  have B3 : Below w.heap.size w w3 := (((B2).alloc (B2).size (.cells #[.int .i64 0, .bool false, .bool false, .bool false, .bool false] 47))).trans (hb3.mono (((B2).alloc (B2).size (.cells #[.int .i64 0, .bool false, .bool false, .bool false, .bool false] 47))).size)
  have p3 := (((p2).alloc (.cells #[.int .i64 0, .bool false, .bool false, .bool false, .bool false] 47))).below hb3 (((p2).alloc (.cells #[.int .i64 0, .bool false, .bool false, .bool false, .bool false] 47))).lt
  have q3 := (Blk.new w2 47 #[.int .i64 0, .bool false, .bool false, .bool false, .bool false]).below hb3 (Blk.new w2 47 #[.int .i64 0, .bool false, .bool false, .bool false, .bool false]).lt
  clear hb3 B2 p2
  go_wp2
  go_ret
  exact ⟨rfl, B3.alloc B3.size _⟩

/-- The plain law, for every side that may be and every act. -/
theorem still_law (n : Int) (a b : Bool) (act : Int) (h : rightB n a b = true) (h1 : 1 ≤ act) (h4 : act ≤ 4) :
    (doT n a b act = false → doN n a b act = n ∧ doA n a b act = a ∧ doB n a b act = b) ∧ (hearT n a b act = false → hearN n a b act = n ∧ hearA n a b act = a ∧ hearB n a b act = b) ∧ (hearT n a b act = true → hearE n act = false) ∧
    doN (doN n a b act) (doA n a b act) (doB n a b act) act = doN n a b act ∧ doA (doN n a b act) (doA n a b act) (doB n a b act) act = doA n a b act ∧ doB (doN n a b act) (doA n a b act) (doB n a b act) act = doB n a b act ∧ doT (doN n a b act) (doA n a b act) (doB n a b act) act = (act == 1) ∧
    hearN (hearN n a b act) (hearA n a b act) (hearB n a b act) act = hearN n a b act ∧ hearA (hearN n a b act) (hearA n a b act) (hearB n a b act) act = hearA n a b act ∧ hearB (hearN n a b act) (hearA n a b act) (hearB n a b act) act = hearB n a b act ∧ hearT (hearN n a b act) (hearA n a b act) (hearB n a b act) act = false := by
  obtain ⟨k0, k3⟩ := right_bd h
  rcases small4 k0 k3 with rfl | rfl | rfl | rfl <;> cases a <;> cases b <;> first | (exfalso; revert h; decide) | (rcases act4 h1 h4 with rfl | rfl | rfl | rfl <;> decide)

theorem still_any (n : Int) (a b : Bool) (act : Int) (w : World) :
    Calls Try.prog 7 #[S n a b, .int .i64 act] w fun e w' => e = .returned (.bool true) ∧ Below w.heap.size w w' := by
  by_cases h : rightB n a b = true ∧ 1 ≤ act ∧ act ≤ 4
  · obtain ⟨hr, h1, h4⟩ := h
    obtain ⟨p1, p2, p3, q1, q2, q3, q4, r1, r2, r3, r4⟩ := still_law n a b act hr h1 h4
    have HD := do_ans n a b act hr h1 h4
    have HH := hear_ans n a b act hr h1 h4
    have HD2 := do_ans _ _ _ act (right_do n a b act hr h1 h4) h1 h4
    have HH2 := hear_ans _ _ _ act (right_hear n a b act hr h1 h4) h1 h4
    rw [q1, q2, q3, q4] at HD2
    rw [r1, r2, r3, r4] at HH2
    cases hx : doT n a b act
    · obtain ⟨e1, e2, e3⟩ := p1 hx
      rw [hx] at HD
      rw [e1, e2, e3] at HD HD2
      cases hy : hearT n a b act
      · obtain ⟨f1, f2, f3⟩ := p2 hy
        rw [hy] at HH
        rw [f1, f2, f3] at HH HH2
        by_cases k : act = 1
        · rw [show (act == 1) = true from beq_iff_eq.2 k] at HD2
          exact still7 n a b act _ _ k HD HH HD2 HH2 w
        · rw [show (act == 1) = false from beq_eq_false_iff_ne.2 k] at HD2
          exact still8 n a b act _ _ (beq_eq_false_iff_ne.2 k) HD HH HD2 HH2 w
      · rw [hy, p3 hy] at HH
        by_cases k : act = 1
        · rw [show (act == 1) = true from beq_iff_eq.2 k] at HD2
          exact still5 n a b act _ _ _ _ k HD HH HD2 HH2 w
        · rw [show (act == 1) = false from beq_eq_false_iff_ne.2 k] at HD2
          exact still6 n a b act _ _ _ _ (beq_eq_false_iff_ne.2 k) HD HH HD2 HH2 w
    · rw [hx] at HD
      cases hy : hearT n a b act
      · obtain ⟨f1, f2, f3⟩ := p2 hy
        rw [hy] at HH
        rw [f1, f2, f3] at HH HH2
        by_cases k : act = 1
        · rw [show (act == 1) = true from beq_iff_eq.2 k] at HD2
          exact still3 n a b act _ _ _ _ _ k HD HH HD2 HH2 w
        · rw [show (act == 1) = false from beq_eq_false_iff_ne.2 k] at HD2
          exact still4 n a b act _ _ _ _ _ (beq_eq_false_iff_ne.2 k) HD HH HD2 HH2 w
      · rw [hy, p3 hy] at HH
        by_cases k : act = 1
        · rw [show (act == 1) = true from beq_iff_eq.2 k] at HD2
          exact still1 n a b act _ _ _ _ _ _ _ k HD HH HD2 HH2 w
        · rw [show (act == 1) = false from beq_eq_false_iff_ne.2 k] at HD2
          exact still2 n a b act _ _ _ _ _ _ _ (beq_eq_false_iff_ne.2 k) HD HH HD2 HH2 w
  · exact still_err n a b act (do_err n a b act h) (hear_err n a b act h) w

/-- A side handed in. -/
theorem open_side {H : Type} {enc : TypeId × Value → H} {W : World} {base : Nat} {v : Value} {d : DataW H} {p : List MemPlace} (hval : Value.okWide Try.prog W .any base 23 v) (h : DataW.Trod enc Try.prog W 0 (fun _ => true) true 23 v d p) : ∃ (n : Int) (a b : Bool), v = S n a b ∧ (Lit.int .i64 n).wf = true := by
  obtain ⟨c0, c1, c2, y0, y1, y2, m, rfl, rfl, rfl, hy0, hy1, hy2⟩ := open_agg3 Try.underlying23 (by kernel_rfl) (by kernel_rfl) hval h
  obtain ⟨n, e0, _, w0⟩ := DataW.trod_int Try.underlying3 hy0
  obtain ⟨a, e1, _⟩ := DataW.trod_bool Try.underlying4 hy1
  obtain ⟨b, e2, _⟩ := DataW.trod_bool Try.underlying4 hy2
  simp at e0 e1 e2
  subst e0 e1 e2
  exact ⟨n, a, b, rfl, w0⟩

set_option maxRecDepth 100000 in
theorem pactStill_lifted (os : Os) (started : os.Started) (H : Type) (enc : TypeId × Value → H) :
    ReturnsInHanded {} Try.checked os 7 .any (Rows.pactStillSpec.pre6 enc Try.prog Try.f7 Rows.pactStillRow.domain false) (Rows.pactStillSpec.post enc Try.prog Try.f7 false true false false) := by
  refine returnsInHanded_of_change (C := Try.checked) Try.own started (by kernel_rfl) Try.func7
    (ChangeSpec.witness6 (enc := enc) (C := Try.checked) false ⟨#[], #[.agg #[.int .i64 0, .bool false, .bool false], .int .i64 0], []⟩ 8 (by kernel_rfl) (by kernel_rfl) (by kernel_rfl) (by kernel_rfl)) ?_
  intro W base args ds gs before hval0 hW hcnd _
  have hval : ∀ (j : Nat) t v, Try.f7.params[j]? = some t → args[j]? = some v → Value.okWide Try.prog W .any base t v := hval0
  have hW' := hW
  obtain ⟨p, q, hA0, hV, rfl, hfz, hnd⟩ := hW
  have hA : DataW.TrodAll enc Try.prog W 0 (fun _ => true) true Try.f7.params.toList args.toList ds p := hA0
  have hA1 := hA
  rw [Try.params7] at hA hval
  obtain ⟨v0, v1, d0, d1, p0, p1, rfl, rfl, rfl, h0, h1⟩ := trodAll_two hA
  obtain ⟨rfl, rfl⟩ := trodVars_none hV
  obtain ⟨n, a, b, rfl, wn⟩ := open_side (hval 0 23 v0 rfl rfl) h0
  obtain ⟨act, rfl, rfl, rfl, wa⟩ := open_int Try.underlying3 (hval 1 3 v1 rfl rfl) h1
  clear hA0 hval0
  simp only [List.append_nil] at hW'
  refine (still_any n a b act W).mono fun e W' ⟨he, hb⟩ => ?_
  subst he
  have hts : ∀ t ∈ Try.f7.params.toList, Try.prog.readableRec t = true ∧ t < Try.prog.types.size := by
    rw [Try.params7]
    intro t ht
    simp at ht
    rcases ht with rfl | rfl
    · exact ⟨by kernel_rfl, of_decide_eq_true (by kernel_rfl)⟩
    · exact ⟨by kernel_rfl, of_decide_eq_true (by kernel_rfl)⟩
  simp only [List.append_nil] at hA1
  exact ⟨_, rfl, post_of_below (pa := p0) (pv := []) hW' (fun _ _ _ => trodAll_mk1 (shut_bool Try.underlying4 _)) (fun sp hsp => trodAll_below Try.laidOut hb hts hA1 (fun x hx => ⟨hW'.lt x hx, hsp x hx⟩)) (fun _ _ => rfl) (by simp)
    hb (ok_one (by kernel_rfl) rfl (okWide_bool_mk Try.underlying4 _))⟩

theorem pactStill_holds : Rows.PactStillSaid :=
  OpenClaim.holds_of_wide 7 Try.f7 rfl rfl rfl rfl rfl rfl rfl ⟨rfl, rfl, rfl, rfl, rfl⟩ rfl rfl rfl rfl rfl (by kernel_rfl) Try.func7 (by kernel_rfl)
    (of_decide_eq_true (by kernel_rfl)) (by unfold Func.isWrapper; first | (rw [if_pos (by decide +kernel)]; kernel_rfl) | (rw [if_neg (by decide +kernel)]; exact ⟨rfl, rfl⟩))
    (fun os started H enc _ => pactStill_lifted os started H enc)
#print axioms pactStill_holds
end Go.Proofs.Ytajdhlcnfmlkiaa
