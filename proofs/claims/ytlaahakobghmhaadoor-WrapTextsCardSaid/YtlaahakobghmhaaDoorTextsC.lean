/- WrapTexts: no condition; the tied card. The walk lies in Texts. -/
import Derived.Test.YtlaahakobghmhaaDoorTexts
import Derived.Test.YtlaahakobghmhaaDoorLaw
import Derived.Test.YtlaahakobghmhaaDoorTie
import Derived.Test.YtlaahakobghmhaaDoorCards
import Derived.SevenTiedAt
import Derived.Laws.IdiomArrays
import Derived.SliceStrings
namespace Go.Proofs.YtlaahakobghmhaaDoor
open Go Go.OpenShut Go.RowKit Go.Joins Go.ChangeShapes Go.WideShapes Go.ChangeAt

theorem u32_wf {x : Int} (h : (Lit.int .u32 x).wf = true) : 0 ≤ x ∧ x < 4294967296 := by
  simp [Lit.wf, IntKind.min, IntKind.max, IntKind.signed, IntKind.bits] at h
  omega

/-- A slice of numbers handed in. -/
theorem nums_of {H : Type} {enc : TypeId × Value → H} {W : World} {base : Nat} {v : Value} {d : DataW H} {p : List MemPlace}
    (hval : Value.okWide Tryd.prog W .any base 36 v) (h : DataW.Trod enc Tryd.prog W 0 (fun _ => true) true 36 v d p) : ∃ (A : Option Addr) (n c : Nat) (f : Nat → Int), v = .slice A n c ∧ n ≤ 9223372036854775807 ∧ NumsAt W A n f := by
  obtain ⟨a0, len, cap, rfl⟩ := okWide_slice Tryd.underlying36 hval
  obtain ⟨fuel, hf⟩ := h
  rcases open_ints Tryd.underlying36 Tryd.underlying22 (by kernel_rfl) hf with ⟨hcs, _⟩ | ⟨a, len', cap', zs, hcs, _, hl, hm, hz, _, hcell, hw⟩
  · simp [Value.cells] at hcs
    obtain ⟨rfl, rfl, rfl⟩ := hcs
    exact ⟨none, 0, 0, fun _ => 0, rfl, by decide, fun k hk => absurd hk (by omega)⟩
  · simp [Value.cells] at hcs
    obtain ⟨rfl, rfl, rfl⟩ := hcs
    refine ⟨some a, _, _, fun k => zs.getD k 0, rfl, by simp only [maxLen] at hm; omega, fun k hk => ?_⟩
    simp only [if_true] at hz
    obtain ⟨b, off, rfl, hcell'⟩ := ints_at hcell (by omega)
    have hck := hcell' k (by omega)
    have hmem : zs.getD k 0 ∈ zs := by rw [List.getD_eq_getElem?_getD, List.getElem?_eq_getElem (by omega)]; simp
    exact ⟨b, off, rfl, World.block_lt_of_cell? W ⟨b, off + k, none⟩ hck, u32_wf (hw _ hmem), hck⟩

set_option maxRecDepth 100000 in
theorem wrapTexts_lifted (os : Os) (started : os.Started) (H : Type) (enc : TypeId × Value → H) :
    ReturnsInHanded {} Tryd.checked os 6 .any (fun w args => (Rows.wrapTextsSpec.pre enc Tryd.prog Tryd.f6 [] false w args ∧ laidMetH Tryd.prog laid3 w) ∧ sizedMet enc Tryd.prog Tryd.f6 (OpenSpec.ofChange Rows.wrapTextsSpec) false w args)
      (Rows.wrapTextsSpec.post enc Tryd.prog Tryd.f6 false true false false) := by
  refine returnsInHanded_of_change_and (C := Tryd.checked) (X := fun w _ => laidMetH Tryd.prog laid3 w) (fun _ _ _ hh h => h.of_heap hh) Tryd.own started (by kernel_rfl) Tryd.func6
    (ChangeSpec.witness_shaped (enc := enc) (C := Tryd.checked) (os := os) (X := fun w _ => laidMetH Tryd.prog laid3 w) false (World.doorLaid Tryd.prog 400 os) #[.int .u32 0, .string ByteArray.empty, .slice none 0 0] 8 rfl (World.shaped_of_RefB (by kernel_rfl) (by kernel_rfl)) (by kernel_rfl) (by kernel_rfl) (by kernel_rfl) (door_met os _)) ?_
  intro W base args ds gs before hval0 hW _ _ hL _
  have hval : ∀ (j : Nat) t v, Tryd.f6.params[j]? = some t → args[j]? = some v → Value.okWide Tryd.prog W .any base t v := hval0
  have hW' := hW
  obtain ⟨p, q, hA0, hV, rfl, hfz, hnd⟩ := hW
  have hA : DataW.TrodAll enc Tryd.prog W 0 (fun _ => true) true Tryd.f6.params.toList args.toList ds p := hA0
  have hA1 := hA
  rw [Tryd.params6] at hA hval
  obtain ⟨v0, v1, v2, d0, d1, d2, p0, p1, p2, rfl, rfl, rfl, h0, h1, h2⟩ := trodAll_three hA
  obtain ⟨rfl, rfl⟩ := trodVars_none hV
  obtain ⟨h, rfl, rfl, rfl, wh⟩ := open_int Tryd.underlying22 (hval 0 22 v0 rfl rfl) h0
  obtain ⟨s, rfl, rfl, rfl, ws⟩ := Go.ChangeMaps.open_string Tryd.underlying9 (hval 1 9 v1 rfl rfl) h1
  obtain ⟨A, n, c, f, rfl, hn, hi⟩ := nums_of (hval 2 36 v2 rfl rfl) h2
  clear hA0 hval0
  simp only [List.append_nil] at hW' hA1
  refine (texts_any h (u32_wf wh) s (by simpa [maxLen] using ws) A n c f hn W (Pows.of_laid hL) hi).mono fun e W' ⟨he, hb⟩ => ?_
  subst he
  have hts : ∀ t ∈ Tryd.f6.params.toList, Tryd.prog.readableRec t = true ∧ t < Tryd.prog.types.size := by
    rw [Tryd.params6]
    intro t ht
    simp at ht
    rcases ht with rfl | rfl | rfl
    all_goals exact ⟨by kernel_rfl, of_decide_eq_true (by kernel_rfl)⟩
  exact ⟨_, rfl, post_of_below (pa := _) (pv := []) hW' (fun _ _ _ => trodAll_mk1 (shut_bool Tryd.underlying4 _)) (fun sp hsp => trodAll_below Tryd.laidOut (grown_below hb) hts hA1 (fun x hx => ⟨hW'.lt x hx, hsp x hx⟩)) (fun _ _ => rfl) (by simp)
    (grown_below hb) (ok_one (by kernel_rfl) rfl (okWide_bool_mk Tryd.underlying4 _))⟩

theorem wrapTexts_row_holds : Rows.WrapTextsSaid :=
  OpenClaim.holds_of_wide 6 Tryd.f6 rfl rfl rfl rfl rfl rfl rfl ⟨rfl, rfl, rfl, rfl, rfl⟩ rfl rfl rfl rfl rfl (by kernel_rfl) Tryd.func6 (by kernel_rfl)
    (of_decide_eq_true (by kernel_rfl)) (by unfold Func.isWrapper; first | (rw [if_pos (by decide +kernel)]; kernel_rfl) | (rw [if_neg (by decide +kernel)]; exact ⟨rfl, rfl⟩))
    (fun os started H enc _ => wrapTexts_lifted os started H enc)

theorem wrapTexts_holds : Rows.WrapTextsCardSaid :=
  Claim7.holds_tied_plain_at .later [] [.data, .data, .data] true (true, "e68bc682110b81b6055e4ee188e29bb3e966e7f62d875d9d6709e71b6e79fd1f") false
    wrapTexts_row_holds (fun _ h => by cases h) (by kernel_rfl) (fun _ h => by cases h) wrapTexts_row_tie rfl ⟨rfl, rfl⟩ (by kernel_rfl) rfl
    (fun f fn hf hfn => by
      obtain rfl : f = 6 := Option.some.inj ((show Tryd.prog.funcNamed "tidewater/tidewaterlaw04.WrapTexts" = some 6 by kernel_rfl).symm.trans hf) |>.symm
      obtain rfl : fn = Tryd.f6 := (Option.some.inj (Tryd.func6.symm.trans hfn)).symm
      exact ⟨by kernel_rfl, fun j t ht => by
        rw [Tryd.params6] at ht
        have hm : t ∈ [22, 9, 36] := by simpa using Array.mem_of_getElem? ht
        have hall : ([22, 9, 36].all fun u => !Tryd.prog.wantsStandIn u) = true := by kernel_rfl
        exact (show Tryd.prog.wantsStandIn t = false by simpa using List.all_eq_true.1 hall t hm)⟩)
    (by kernel_rfl)
#print axioms wrapTexts_holds
end Go.Proofs.YtlaahakobghmhaaDoor
