/- PipesNil: whatever the step, connections that aren't there do nothing. No condition. -/
import Derived.Test.YtdpjbkodenhelaaH
import Derived.Test.YtdpjbkodenhelaaLaw
namespace Go.Proofs.Ytdpjbkodenhelaa
open Go.RowKit Go.Lib Go.Joins Go.ChangeShapes Go.WideShapes Go.ChangeAt
attribute [local go_sem ↓] Go.wp_at_zero Go.wp_at_succ

theorem grown_below {w w' : World} (h : w.grownBy w' none) : Below w.heap.size w w' := ⟨h.os, h.tape, h.output, h.size, fun k hk => h.block k hk (by simp)⟩

theorem nil_any (k id n : Int) (s : ByteArray) (w : World) : Calls Try.prog 7 #[opVal k id n s] w fun e w' => e = .returned (.bool true) ∧ w.grownBy w' none := by
  unfold opVal
  go_enter Try.func7, Try.ntmps7
  go_wp2_with fail
  refine (lives_any _).mono ?_
  rintro e w1 ⟨rfl, hg⟩
  have hb := (Blk.new w 43 #[.int .i64 k, .int .i64 id, .int .i64 n, .string s]).grown hg (by simp)
  have hg1 := grown_trans (World.grownBy_alloc w (.cells #[.int .i64 k, .int .i64 id, .int .i64 n, .string s] 43) none) hg
  clear hg
  have x0 := hb.cell 0
  have x1 := hb.cell 1
  have x2 := hb.cell 2
  have x3 := hb.cell 3
  simp only [List.getElem?_toArray, List.getElem?_cons_zero, List.getElem?_cons_succ] at x0 x1 x2 x3
  go_wp2_with fail
  refine (does_nil k id n s _).mono ?_
  rintro e w2 ⟨rfl, hg2⟩
  have hb2 := hb.grown hg2 (by simp)
  have hg3 := grown_trans hg1 hg2
  clear hg2 hg1 x0 x1 x2 x3 hb
  have x1 := hb2.cell 1
  simp only [List.getElem?_toArray, List.getElem?_cons_zero, List.getElem?_cons_succ] at x1
  go_wp2_with fail
  refine (Out_nil id _).mono ?_
  rintro e w3 ⟨rfl, rfl⟩
  go_wp2_with fail
  refine (Is_nil id _).mono ?_
  rintro e w3 ⟨rfl, rfl⟩
  go_wp2_with fail
  refine (Whole_nil id _).mono ?_
  rintro e w3 ⟨rfl, rfl⟩
  go_wp2_with fail
  refine (All_nil _).mono ?_
  rintro e w3 ⟨rfl, rfl⟩
  go_wp2
  all_goals (go_ret; exact ⟨rfl, hg3⟩)

/-- A step handed in. -/
theorem open_op {H : Type} {enc : TypeId × Value → H} {W : World} {base : Nat} {v : Value} {d : DataW H} {p : List MemPlace} (hval : Value.okWide Try.prog W .any base 43 v) (h : DataW.Trod enc Try.prog W 0 (fun _ => true) true 43 v d p) : ∃ (k id n : Int) (s : ByteArray), v = opVal k id n s := by
  obtain ⟨c0, c1, c2, c3, y0, y1, y2, y3, m, rfl, rfl, rfl, hy0, hy1, hy2, hy3⟩ := open_agg4 Try.underlying43 (by kernel_rfl) (by kernel_rfl) hval h
  obtain ⟨k, e0, _, _⟩ := DataW.trod_int Try.underlying3 hy0
  obtain ⟨id, e1, _, _⟩ := DataW.trod_int Try.underlying3 hy1
  obtain ⟨n, e2, _, _⟩ := DataW.trod_int Try.underlying3 hy2
  obtain ⟨s, e3, _, _⟩ := DataW.trod_string Try.underlying9 hy3
  simp at e0 e1 e2 e3
  subst e0 e1 e2 e3
  exact ⟨k, id, n, s, rfl⟩

set_option maxRecDepth 100000 in
theorem pipesNil_lifted (os : Os) (started : os.Started) (H : Type) (enc : TypeId × Value → H) :
    ReturnsInHanded {} Try.checked os 7 .any (Rows.pipesNilSpec.pre6 enc Try.prog Try.f7 Rows.pipesNilRow.domain false) (Rows.pipesNilSpec.post enc Try.prog Try.f7 false true false false) := by
  refine returnsInHanded_of_change (C := Try.checked) Try.own started (by kernel_rfl) Try.func7
    (ChangeSpec.witness6 (enc := enc) (C := Try.checked) false ⟨#[], #[.agg #[.int .i64 0, .int .i64 0, .int .i64 0, .string ByteArray.empty]], []⟩ 8 (by kernel_rfl) (by kernel_rfl) (by kernel_rfl) (by kernel_rfl)) ?_
  intro W base args ds gs before hval0 hW hcnd _
  have hval : ∀ (j : Nat) t v, Try.f7.params[j]? = some t → args[j]? = some v → Value.okWide Try.prog W .any base t v := hval0
  have hW' := hW
  obtain ⟨p, q, hA0, hV, rfl, hfz, hnd⟩ := hW
  have hA : DataW.TrodAll enc Try.prog W 0 (fun _ => true) true Try.f7.params.toList args.toList ds p := hA0
  have hA1 := hA
  rw [Try.params7] at hA hval
  obtain ⟨v0, d0, rfl, rfl, h0⟩ := trodAll_one hA
  obtain ⟨rfl, rfl⟩ := trodVars_none hV
  obtain ⟨k, id, n, s, rfl⟩ := open_op (hval 0 43 v0 rfl rfl) h0
  clear hA0 hval0
  simp only [List.append_nil] at hW' hA1
  refine (nil_any k id n s W).mono fun e W' ⟨he, hb⟩ => ?_
  subst he
  have hts : ∀ t ∈ Try.f7.params.toList, Try.prog.readableRec t = true ∧ t < Try.prog.types.size := by
    rw [Try.params7]
    intro t ht
    simp at ht
    rcases ht with rfl
    all_goals exact ⟨by kernel_rfl, of_decide_eq_true (by kernel_rfl)⟩
  exact ⟨_, rfl, post_of_below (pa := _) (pv := []) hW' (fun _ _ _ => trodAll_mk1 (shut_bool Try.underlying4 _)) (fun sp hsp => trodAll_below Try.laidOut (grown_below hb) hts hA1 (fun x hx => ⟨hW'.lt x hx, hsp x hx⟩)) (fun _ _ => rfl) (by simp)
    (grown_below hb) (ok_one (by kernel_rfl) rfl (okWide_bool_mk Try.underlying4 _))⟩

theorem pipesNil_holds : Rows.PipesNilSaid :=
  OpenClaim.holds_of_wide 7 Try.f7 rfl rfl rfl rfl rfl rfl rfl ⟨rfl, rfl, rfl, rfl, rfl⟩ rfl rfl rfl rfl rfl (by kernel_rfl) Try.func7 (by kernel_rfl)
    (of_decide_eq_true (by kernel_rfl)) (by unfold Func.isWrapper; first | (rw [if_pos (by decide +kernel)]; kernel_rfl) | (rw [if_neg (by decide +kernel)]; exact ⟨rfl, rfl⟩))
    (fun os started H enc _ => pipesNil_lifted os started H enc)
#print axioms pipesNil_holds
end Go.Proofs.Ytdpjbkodenhelaa
