/- PipesPlay: what connections answer, and what came out of each, is what the document says. No condition. -/
import Derived.Test.YtdpjbkodenhelaaQ
import Derived.Test.YtdpjbkodenhelaaApart
import Derived.Deep.QuietTactic
namespace Go.Proofs.Ytdpjbkodenhelaa
open Go.RowKit Go.Lib Go.Joins Go.ChangeShapes Go.WideShapes Go.ChangeAt
attribute [local go_sem ↓] Go.wp_at_zero Go.wp_at_succ

theorem R2.made {a w0 w : World} {g r : Nat} {s1 s2 : Nat → PS} (h : R2 w0 (fun x => x = g) w g s1 r s2) (k : a.grownBy w0 none) (h1 : a.heap.size ≤ g) (h2 : a.heap.size ≤ r) : a.grownBy w none := by
  obtain ⟨F, _, _, _, _, h6⟩ := h
  exact ⟨h6.os.trans k.os, h6.tape.trans k.tape, h6.output.trans k.output, Nat.le_trans k.size h6.size, fun x hx _ => (h6.block x (Nat.lt_of_lt_of_le hx k.size) (fun c => by rcases c with c | c <;> omega)).trans (k.block x hx (by simp))⟩

def refCells : Array Value := #[.bool false, .bool false, .int .i64 0, .string ⟨#[]⟩, .bool false, .bool false, .int .i64 0, .string ⟨#[]⟩, .bool false, .bool false, .int .i64 0, .string ⟨#[]⟩, .bool false, .bool false, .int .i64 0, .string ⟨#[]⟩, .bool false, .bool false, .int .i64 0, .string ⟨#[]⟩, .bool false, .bool false, .int .i64 0, .string ⟨#[]⟩, .bool false, .bool false, .int .i64 0, .string ⟨#[]⟩, .bool false, .bool false, .int .i64 0, .string ⟨#[]⟩, .bool false, .bool false, .int .i64 0, .string ⟨#[]⟩, .bool false, .bool false, .int .i64 0, .string ⟨#[]⟩, .bool false, .bool false, .int .i64 0, .string ⟨#[]⟩, .bool false, .bool false, .int .i64 0, .string ⟨#[]⟩, .bool false, .bool false, .int .i64 0, .string ⟨#[]⟩, .bool false, .bool false, .int .i64 0, .string ⟨#[]⟩, .bool false, .bool false, .int .i64 0, .string ⟨#[]⟩, .bool false, .bool false, .int .i64 0, .string ⟨#[]⟩]
theorem ref_new (w : World) : Four (w.alloc (.cells refCells 39)) w.heap.size 39 st0 (strs st0) :=
  ⟨⟨_, Blk.new w 39 _, fun i hi => by rcases (by omega : i = 0 ∨ i = 1 ∨ i = 2 ∨ i = 3 ∨ i = 4 ∨ i = 5 ∨ i = 6 ∨ i = 7 ∨ i = 8 ∨ i = 9 ∨ i = 10 ∨ i = 11 ∨ i = 12 ∨ i = 13 ∨ i = 14 ∨ i = 15) with rfl | rfl | rfl | rfl | rfl | rfl | rfl | rfl | rfl | rfl | rfl | rfl | rfl | rfl | rfl | rfl <;> exact ⟨rfl, rfl, rfl, rfl⟩⟩⟩

set_option maxHeartbeats 8000000 in
set_option maxRecDepth 100000 in
theorem play_any (A : Option Addr) (m c : Nat) (f : Nat → OpD) (w : World) (hA : OpsAt w A m f) (nA : ∀ k, (f k).n ≤ 9223372036854775807) :
    Calls Try.prog 5 #[.slice A m c] w fun e w' => e = .returned (.bool true) ∧ w.grownBy w' none := by
  obtain ⟨i3, q1, q2, q3, q4⟩ := info_parts info3
  go_enter Try.func5, Try.ntmps5
  go_wp2_with fail
  refine (lives_any _).mono ?_
  rintro e w1 ⟨rfl, y1⟩
  go_wp2_with fail
  refine (New_any w1).mono ?_
  rintro e w2 ⟨rfl, p1, y2⟩
  have l1 := p1.lt _ rfl
  have z1 := y1.size
  generalize w1.heap.size = g at *
  have y2 := grown_trans y1 y2
  go_wp2_with fail
  have r3 := ref_new w2
  have y3 := World.grownBy_alloc w2 (.cells refCells 39) none
  unfold refCells at r3 y3
  generalize w2.alloc (.cells #[.bool false, .bool false, .int .i64 0, .string ⟨#[]⟩, .bool false, .bool false, .int .i64 0, .string ⟨#[]⟩, .bool false, .bool false, .int .i64 0, .string ⟨#[]⟩, .bool false, .bool false, .int .i64 0, .string ⟨#[]⟩, .bool false, .bool false, .int .i64 0, .string ⟨#[]⟩, .bool false, .bool false, .int .i64 0, .string ⟨#[]⟩, .bool false, .bool false, .int .i64 0, .string ⟨#[]⟩, .bool false, .bool false, .int .i64 0, .string ⟨#[]⟩, .bool false, .bool false, .int .i64 0, .string ⟨#[]⟩, .bool false, .bool false, .int .i64 0, .string ⟨#[]⟩, .bool false, .bool false, .int .i64 0, .string ⟨#[]⟩, .bool false, .bool false, .int .i64 0, .string ⟨#[]⟩, .bool false, .bool false, .int .i64 0, .string ⟨#[]⟩, .bool false, .bool false, .int .i64 0, .string ⟨#[]⟩, .bool false, .bool false, .int .i64 0, .string ⟨#[]⟩, .bool false, .bool false, .int .i64 0, .string ⟨#[]⟩] 39) = w3 at *
  generalize Value.agg #[.bool false, .bool false, .int .i64 0, .string ⟨#[]⟩, .bool false, .bool false, .int .i64 0, .string ⟨#[]⟩, .bool false, .bool false, .int .i64 0, .string ⟨#[]⟩, .bool false, .bool false, .int .i64 0, .string ⟨#[]⟩, .bool false, .bool false, .int .i64 0, .string ⟨#[]⟩, .bool false, .bool false, .int .i64 0, .string ⟨#[]⟩, .bool false, .bool false, .int .i64 0, .string ⟨#[]⟩, .bool false, .bool false, .int .i64 0, .string ⟨#[]⟩, .bool false, .bool false, .int .i64 0, .string ⟨#[]⟩, .bool false, .bool false, .int .i64 0, .string ⟨#[]⟩, .bool false, .bool false, .int .i64 0, .string ⟨#[]⟩, .bool false, .bool false, .int .i64 0, .string ⟨#[]⟩, .bool false, .bool false, .int .i64 0, .string ⟨#[]⟩, .bool false, .bool false, .int .i64 0, .string ⟨#[]⟩, .bool false, .bool false, .int .i64 0, .string ⟨#[]⟩, .bool false, .bool false, .int .i64 0, .string ⟨#[]⟩] = vg
  have p1 := p1.grown y3
  have l2 := r3.lt
  have y3 := grown_trans y2 y3
  have gr : g < w2.heap.size := l1
  generalize w2.heap.size = r at *
  refine (early_any A m c w3 f (hA.grown y3)).mono ?_
  rintro e w5 ⟨va, rfl, oa, y5⟩
  have y6 := grown_trans y3 y5
  have p1 := p1.grown y5
  have r5 : Four w5 r 39 st0 (strs st0) := r3.same (y5.block r l2 (by simp))
  have hT : R2 w5 (fun x => x = g) w5 g st0 r st0 := ⟨_, p1, r5, fun e => by omega, fun x e => .inl e, Keeps.refl w5 _⟩
  obtain ⟨A', ca, rfl, ra⟩ := own_rows oa
  have ma100 : min m 100 ≤ 100 := Nat.min_le_right _ _
  generalize min m 100 = ma at *
  have hg1 : w.heap.size ≤ g := z1
  have z5 := y5.size
  clear oa y5 y3 y2 y1 p1 r3 r5 hA z1
  go_wp2_with fail
  go_loopw [5] (fun i wr => ∃ (k : Nat) (st : Nat → PS), i = .int .i64 k ∧ k ≤ 100 ∧ (∀ j, j < 16 → (st j).out.size ≤ 40 * k) ∧ R2 w5 (fun x => x = g) wr g st r st) (fun i _ => 100 - (intOf i).toNat)
  case atStart => exact ⟨0, st0, rfl, by omega, fun j _ => Nat.le_refl _, hT⟩
  case round =>
    clear hT
    obtain ⟨k, st, rfl, hk, hz, hT⟩ := hrel
    by_cases ha : k < ma
    · obtain ⟨b, hb0, hb1, hb2, x0, x1, x2, x3⟩ := ra k ha
      subst hb0
      have hcut := (f k).cut_le
      have hn := nA k
      have hk2 : (k : Int) < ma := by omega
      have en : (f k).cut.n = (f k).n := rfl
      rw [← en] at hn
      dsimp only at x0 x1 x2 x3
      generalize (f k).cut = op at *
      obtain ⟨ok, oid, on, os⟩ := op
      dsimp only at *
      clear en
      have FB := Lib.hid (fun (w' : World) (t t' : Nat → PS) (h : R2 w5 (fun x => x = g) w' g t r t') => (by
        have hh := h.block b hb2 (by omega) (by omega)
        exact ⟨(World.cell?_of_block (a := ⟨b, k * 4, none⟩) hh).trans x0, (World.cell?_of_block (a := ⟨b, k * 4 + 1, none⟩) hh).trans x1, (World.cell?_of_block (a := ⟨b, k * 4 + 2, none⟩) hh).trans x2, (World.cell?_of_block (a := ⟨b, k * 4 + 3, none⟩) hh).trans x3⟩ : w'.cell? ⟨b, k * 4, none⟩ = some (.int .i64 ok) ∧ w'.cell? ⟨b, k * 4 + 1, none⟩ = some (.int .i64 oid) ∧ w'.cell? ⟨b, k * 4 + 2, none⟩ = some (.int .i64 on) ∧ w'.cell? ⟨b, k * 4 + 3, none⟩ = some (.string os)))
      have hlim : ∀ j, j < 16 → (st j).out.size + os.size ≤ limit := fun j hj => by have := hz j hj; unfold limit; omega
      have hleft := hT.left
      have C1 := Lib.hid (fun (w' : World) (h : R2 w5 (fun x => x = g) w' g st r st) => h.does ok oid on os hn hlim)
      have C2 := Lib.hid (fun (w' : World) (h : R2 w5 (fun x => x = g) w' g (stp st ok oid on os).2 r st) => h.ref ok oid on os hleft hlim)
      have hz' := stp_size st ok oid on os (40 * k) hz
      generalize (stp st ok oid on os).1 = rs at *
      generalize (stp st ok oid on os).2 = st' at *
      clear x0 x1 x2 x3
      go_wp2_with fail
      go_region_held3 (fun w' => w'.cell? ⟨b, k * 4, none⟩ = some (.int .i64 ok) ∧ w'.cell? ⟨b, k * 4 + 1, none⟩ = some (.int .i64 oid) ∧ w'.cell? ⟨b, k * 4 + 2, none⟩ = some (.int .i64 on) ∧ w'.cell? ⟨b, k * 4 + 3, none⟩ = some (.string os)) (first | exact FB.out _ _ _ (by assumption) | exact FB.out _ _ _ (R2.drew (by assumption)))
        (first | (go_at_call 17; refine (C1.out _ (by first | assumption | exact R2.drew (by assumption))).mono ?_; rintro e w8 ⟨rfl, h8⟩) | (go_at_call 18; refine (C2.out _ (by first | assumption | exact R2.drew (by assumption))).mono ?_; rintro e w9 ⟨rfl, h9⟩))
      clear C1 C2 FB h8 hlim hleft hT
      go_wp2_with fail
      go_loopw [6, 7] (fun v i wr => ∃ j : Nat, i = .int .i64 j ∧ j ≤ 16 ∧ wr.ownsRow w9.heap.size 3 1 v (opens st' j).length (opens st' j) ∧ w9.grownBy wr none) (fun _ i _ => 16 - (intOf i).toNat)
      case atStart => exact ⟨0, rfl, by omega, World.ownsRow_nil _ _ _ _, World.grownBy.refl _ _⟩
      case round =>
        obtain ⟨j, rfl, hj, hown, hgr⟩ := hrel
        have hR := h9.grown hgr
        have hle := opens_le st' j
        by_cases hj16 : j < 16
        · have hj2 : (j : Int) < 16 := by omega
          have hf := hR.four
          have y0 := hf.c0 hj16
          have y1 := hf.c1 hj16
          have y3 := hf.c3 hj16
          simp only [strs] at y3
          have D1 := Lib.hid (fun n => ((hR.grown (grown_drewN wr n)).out j hj16).mono (fun e w' a => ⟨a.1, a.2.symm⟩) : ∀ n, Calls Try.prog 14 #[.pointer (some ⟨g, 0, none⟩), .int .i64 j] (wr.drewN n) fun e w' => e = .returned (.string (st' j).out) ∧ w' = wr.drewN n)
          have D2 := Lib.hid (fun n => ((hR.grown (grown_drewN wr n)).is_ j hj16).mono (fun e w' a => ⟨a.1, a.2.symm⟩) : ∀ n, Calls Try.prog 15 #[.pointer (some ⟨g, 0, none⟩), .int .i64 j] (wr.drewN n) fun e w' => e = .returned (.bool (st' j).op) ∧ w' = wr.drewN n)
          have D3 := Lib.hid (fun n => ((hR.grown (grown_drewN wr n)).whole j hj16).mono (fun e w' a => ⟨a.1, a.2.symm⟩) : ∀ n, Calls Try.prog 12 #[.pointer (some ⟨g, 0, none⟩), .int .i64 j] (wr.drewN n) fun e w' => e = .returned (.bool ((st' j).op && !(st' j).br)) ∧ w' = wr.drewN n)
          generalize (st' j).out = xo at y3 D1
          have hnext : opens st' (j + 1) = opens st' j ++ (if (st' j).op = true then [.int .i64 (j : Int)] else []) := rfl
          cases hop : (st' j).op with
          | false =>
            rw [hop] at y0 D2 D3 hnext
            generalize (st' j).br = bb at y1 D3
            go_wp2_with fail
            go_quiet (first | (go_at_call 14; exact Calls.quiet_of_same (D1.out _)) | (go_at_call 15; exact Calls.quiet_of_same (D2.out _)) | (go_at_call 12; exact Calls.quiet_of_same (D3.out _)))
            go_wp2_with fail
            exact ⟨⟨j + 1, by simp, by omega, by rw [hnext]; simpa using hown.kept (grown_drewN wr nq) (by cases hv : u6.ownBlock <;> simp), grown_trans hgr (grown_drewN wr nq)⟩, by simp [intOf]; omega⟩
          | true =>
            rw [hop] at y0 D2 D3 hnext
            generalize (st' j).br = bb at y1 D3
            cases bb
            · go_wp2_with fail
              go_quiet (first | (go_at_call 14; exact Calls.quiet_of_same (D1.out _)) | (go_at_call 15; exact Calls.quiet_of_same (D2.out _)) | (go_at_call 12; exact Calls.quiet_of_same (D3.out _)))
              have y0' := (hR.grown (grown_drewN wr nq)).four.c0 hj16
              rw [hop] at y0'
              have hown := hown.kept (grown_drewN wr nq) (by cases hv : u6.ownBlock <;> simp)
              have hgr := grown_trans hgr (grown_drewN wr nq)
              have hgz := hgr.size
              clear D1 D2 D3 y0 y1 y3 hf hR
              generalize wr.drewN nq = wq at *
              go_wp2_with (at_builtin; refine wpList_append_own _ rfl _ _ 45 rfl w9.heap.size 3 i3 (.int .i64 0) 1 8 Go.Proofs.Ytdpjbkodenhelaa.u45 q1 q2 q3 q4 rfl (by decide) _ _ _ rfl (hown.alloc _) ⟨wq.heap.size, 0, none⟩ 1 1 [.int .i64 j] rfl rfl ?c11 ?c21 ?c31 ?c41 ?c51 ?_)
              case c11 =>
                intro jj u hjj
                match jj, hjj with
                | 0, hjj => simp at hjj; subst hjj; simp [Addr.add]
              case c21 => intro u hu; simp at hu; subst hu; rfl
              case c31 => unfold maxLen; omega
              case c41 => omega
              case c51 => simp; omega
              · intro v' w10 hown' hgrow _
                have hgr1 : w9.grownBy w10 none := grown_own (grown_trans hgr (World.grownBy_alloc wq _ none)) hgrow (fun x hx => (hown.lt x hx).1)
                have hown2 : w10.ownsRow w9.heap.size 3 1 v' (opens st' (j + 1)).length (opens st' (j + 1)) := by
                  rw [hnext]
                  simp only [if_pos, List.length_append, List.length_cons, List.length_nil]
                  exact hown'
                clear hown' hgrow hown hgr
                go_wp2
                exact ⟨⟨j + 1, by simp, by omega, hown2, hgr1⟩, by simp [intOf]; omega⟩
            · go_wp2_with fail
              go_quiet (first | (go_at_call 14; exact Calls.quiet_of_same (D1.out _)) | (go_at_call 15; exact Calls.quiet_of_same (D2.out _)) | (go_at_call 12; exact Calls.quiet_of_same (D3.out _)))
              have y0' := (hR.grown (grown_drewN wr nq)).four.c0 hj16
              rw [hop] at y0'
              have hown := hown.kept (grown_drewN wr nq) (by cases hv : u6.ownBlock <;> simp)
              have hgr := grown_trans hgr (grown_drewN wr nq)
              have hgz := hgr.size
              clear D1 D2 D3 y0 y1 y3 hf hR
              generalize wr.drewN nq = wq at *
              go_wp2_with (at_builtin; refine wpList_append_own _ rfl _ _ 45 rfl w9.heap.size 3 i3 (.int .i64 0) 1 8 Go.Proofs.Ytdpjbkodenhelaa.u45 q1 q2 q3 q4 rfl (by decide) _ _ _ rfl (hown.alloc _) ⟨wq.heap.size, 0, none⟩ 1 1 [.int .i64 j] rfl rfl ?c12 ?c22 ?c32 ?c42 ?c52 ?_)
              case c12 =>
                intro jj u hjj
                match jj, hjj with
                | 0, hjj => simp at hjj; subst hjj; simp [Addr.add]
              case c22 => intro u hu; simp at hu; subst hu; rfl
              case c32 => unfold maxLen; omega
              case c42 => omega
              case c52 => simp; omega
              · intro v' w10 hown' hgrow _
                have hgr1 : w9.grownBy w10 none := grown_own (grown_trans hgr (World.grownBy_alloc wq _ none)) hgrow (fun x hx => (hown.lt x hx).1)
                have hown2 : w10.ownsRow w9.heap.size 3 1 v' (opens st' (j + 1)).length (opens st' (j + 1)) := by
                  rw [hnext]
                  simp only [if_pos, List.length_append, List.length_cons, List.length_nil]
                  exact hown'
                clear hown' hgrow hown hgr
                go_wp2
                exact ⟨⟨j + 1, by simp, by omega, hown2, hgr1⟩, by simp [intOf]; omega⟩
        · obtain rfl : j = 16 := by omega
          have hj2 : ¬ ((16 : Nat) : Int) < 16 := by omega
          have A1 := Lib.hid hR.all
          have hi := opens_int st' 16
          generalize opens st' 16 = xs at *
          obtain ⟨a', l', c', rfl⟩ := slice_form hown
          go_wp2_with fail
          refine A1.out.mono ?_
          rintro e w10 ⟨v2, rfl, own2, g10⟩
          have hR10 := hR.grown g10
          have own1 := hown.kept g10 (by cases hv : (Value.slice a' l' c').ownBlock <;> simp)
          obtain ⟨a2, l2, c2, rfl⟩ := slice_form own2
          go_wp2_with fail
          refine (same_own own2 own1 hi (by omega)).mono ?_
          rintro e w11 ⟨rfl, g11⟩
          have hR11 := hR10.grown g11
          clear own1 own2 hown A1
          go_wp2
          exact ⟨⟨k + 1, st', by simp, by omega, fun j hj => by have := hz' j hj; omega, hR11⟩, by simp [intOf]; omega⟩
    · have hk2 : ¬ (k : Int) < ma := by omega
      go_wp2_with fail
      refine (Out_out g (-1) (by omega) _).mono ?_
      rintro e w10 ⟨rfl, rfl⟩
      go_wp2_with fail
      refine (Out_out g 16 (by omega) _).mono ?_
      rintro e w10 ⟨rfl, rfl⟩
      go_wp2_with fail
      refine (Is_out g 16 (by omega) _).mono ?_
      rintro e w10 ⟨rfl, rfl⟩
      go_wp2
      all_goals (go_ret; exact ⟨rfl, hT.made y6 (by omega) (by omega)⟩)
set_option maxRecDepth 100000 in
theorem pipesPlay_lifted (os : Os) (started : os.Started) (H : Type) (enc : TypeId × Value → H) :
    ReturnsInHanded {} Try.checked os 5 .any (Rows.pipesPlaySpec.pre6 enc Try.prog Try.f5 Rows.pipesPlayRow.domain false) (Rows.pipesPlaySpec.post enc Try.prog Try.f5 false true false false) := by
  refine returnsInHanded_of_change (C := Try.checked) Try.own started (by kernel_rfl) Try.func5
    (ChangeSpec.witness6 (enc := enc) (C := Try.checked) false ⟨#[], #[.slice none 0 0], []⟩ 8 (by kernel_rfl) (by kernel_rfl) (by kernel_rfl) (by kernel_rfl)) ?_
  intro W base args ds gs before hval0 hW hcnd _
  have hval : ∀ (j : Nat) t v, Try.f5.params[j]? = some t → args[j]? = some v → Value.okWide Try.prog W .any base t v := hval0
  have hW' := hW
  obtain ⟨p, q, hA0, hV, rfl, hfz, hnd⟩ := hW
  have hA : DataW.TrodAll enc Try.prog W 0 (fun _ => true) true Try.f5.params.toList args.toList ds p := hA0
  have hA1 := hA
  rw [Try.params5] at hA hval
  obtain ⟨v0, d0, rfl, rfl, h0⟩ := trodAll_one hA
  obtain ⟨rfl, rfl⟩ := trodVars_none hV
  obtain ⟨A, m, c, f, rfl, hi, ni⟩ := ops_of (hval 0 33 v0 rfl rfl) h0
  clear hA0 hval0
  simp only [List.append_nil] at hW' hA1
  refine (play_any A m c f W hi ni).mono fun e W' ⟨he, hb⟩ => ?_
  subst he
  have hts : ∀ t ∈ Try.f5.params.toList, Try.prog.readableRec t = true ∧ t < Try.prog.types.size := by
    rw [Try.params5]
    intro t ht
    simp at ht
    rcases ht with rfl
    all_goals exact ⟨by kernel_rfl, of_decide_eq_true (by kernel_rfl)⟩
  exact ⟨_, rfl, post_of_below (pa := _) (pv := []) hW' (fun _ _ _ => trodAll_mk1 (shut_bool Try.underlying4 _)) (fun sp hsp => trodAll_below Try.laidOut (grown_below hb) hts hA1 (fun x hx => ⟨hW'.lt x hx, hsp x hx⟩)) (fun _ _ => rfl) (by simp)
    (grown_below hb) (ok_one (by kernel_rfl) rfl (okWide_bool_mk Try.underlying4 _))⟩

theorem pipesPlay_holds : Rows.PipesPlaySaid :=
  OpenClaim.holds_of_wide 5 Try.f5 rfl rfl rfl rfl rfl rfl rfl ⟨rfl, rfl, rfl, rfl, rfl⟩ rfl rfl rfl rfl rfl (by kernel_rfl) Try.func5 (by kernel_rfl)
    (of_decide_eq_true (by kernel_rfl)) (by unfold Func.isWrapper; first | (rw [if_pos (by decide +kernel)]; kernel_rfl) | (rw [if_neg (by decide +kernel)]; exact ⟨rfl, rfl⟩))
    (fun os started H enc _ => pipesPlay_lifted os started H enc)
#print axioms pipesPlay_holds
end Go.Proofs.Ytdpjbkodenhelaa
