/- Package pipes: Write. -/
import Derived.Test.YtdpjbkodenhelaaC
namespace Go.Proofs.Ytdpjbkodenhelaa
open Go.RowKit Go.Lib
attribute [local go_sem ↓] Go.wp_at_zero Go.wp_at_succ

/-- What a Write answers, and what it leaves. -/
def wri (p : PS) (s : ByteArray) : Int × PS :=
  if (p.op && !p.br) = true then
    if p.left = -1 then (0, { p with out := p.out ++ s })
    else if (s.size : Int) ≤ p.left then (0, { p with left := p.left - s.size, out := p.out ++ s })
    else (12, { p with br := true, left := 0, out := p.out ++ s.extract 0 p.left.toNat })
  else (12, p)

section
variable {w : World} {g : Nat} {st : Nat → PS} {F : Nat → Prop}
/-- Behind an append and the store of its value. -/
theorem appended {W w2 : World} {vs : Nat → Value} (hF : Four W g 56 st vs)
    (ho : ∀ i, i < 16 → W.ownsRow 0 5 1 (vs i) (st i).out.size (strCells (st i).out) ∧ ∀ k, (vs i).ownBlock = some k → F k ∧ k ≠ g ∧ ∀ j, j < 16 → j ≠ i → (vs j).ownBlock ≠ some k)
    (self : F g) (lt : ∀ k, F k → k < W.heap.size) (left : ∀ i, i < 16 → -1 ≤ (st i).left ∧ (st i).left ≤ 9223372036854775807)
    (i : Nat) (hi : i < 16) (v' : Value) (s : ByteArray) (hown : w2.ownsRow 0 5 1 v' ((st i).out.size + s.size) (strCells (st i).out ++ strCells s)) (hg : W.grownBy w2 (vs i).ownBlock)
    (hb : ∀ k, v'.ownBlock = some k → (vs i).ownBlock = some k ∨ W.heap.size ≤ k) :
    ∃ F', PipesAt (w2.setCell ⟨g, i * 4 + 3, none⟩ v') g (upd st i { st i with out := (st i).out ++ s }) F' ∧ Keeps W (w2.setCell ⟨g, i * 4 + 3, none⟩ v') F ∧ (∀ k, F' k → F k ∨ W.heap.size ≤ k) := by
  have hng : (some g : Option Nat) ≠ (vs i).ownBlock := fun e => ((ho i hi).2 g e.symm).2.1 rfl
  have h4 : Four w2 g 56 st vs := hF.same (hg.block g hF.lt hng)
  have hne : ∀ k, v'.ownBlock = some k → k ≠ g := by
    intro k hk e
    subst e
    rcases hb k hk with h1 | h1
    · exact hng h1.symm
    · have := hF.lt
      omega
  have hset : ∀ k, k ≠ g → (w2.setCell ⟨g, i * 4 + 3, none⟩ v').heap[k]? = w2.heap[k]? := fun k hk => Below.heap_setCell w2 _ v' k hk
  have hsz : (w2.setCell ⟨g, i * 4 + 3, none⟩ v').heap.size = w2.heap.size := by simp [World.setCell]
  refine ⟨fun k => F k ∨ v'.ownBlock = some k, ⟨⟨_, h4.set3 hi v' ((st i).out ++ s), fun j hj => ?_⟩, .inl self, ?_, ?_⟩, ⟨hg.os, hg.tape, hg.output, by rw [hsz]; exact hg.size, ?_⟩, ?_⟩
  · by_cases e : j = i
    · subst e
      simp only [if_pos, upd_same, size_append, strCells_append]
      refine ⟨⟨hown.1, ?_⟩, fun k hk => ⟨.inr hk, hne k hk, fun j' hj' hjj => ?_⟩⟩
      · rcases hown.2 with hn | ⟨b, cap, cur, e, hbg, hgg, rest⟩
        · exact .inl hn
        · exact .inr ⟨b, cap, cur, e, hbg, (hset b (hne b (by rw [e]; rfl))).trans hgg, rest⟩
      · rw [if_neg hjj]
        intro hk'
        rcases hb k hk with h1 | h1
        · exact ((ho j hj).2 k h1).2.2 j' hj' hjj hk'
        · have := lt k ((ho j' hj').2 k hk').1
          omega
    · simp only [if_neg e, upd_other _ _ _ _ e]
      obtain ⟨h1, h2⟩ := ho j hj
      refine ⟨?_, fun k hk => ⟨.inl (h2 k hk).1, (h2 k hk).2.1, fun j' hj' hjj => ?_⟩⟩
      · refine ⟨h1.1, ?_⟩
        rcases h1.2 with hn | ⟨b, cap, cur, e', hbg, hgg, rest⟩
        · exact .inl hn
        · have hbk : (vs j).ownBlock = some b := by rw [e']; rfl
          refine .inr ⟨b, cap, cur, e', hbg, ((hset b (h2 b hbk).2.1).trans (hg.block b (lt b (h2 b hbk).1) ?_)).trans hgg, rest⟩
          exact fun h => (h2 b hbk).2.2 i hi (fun h => e h.symm) h.symm
      · by_cases e2 : j' = i
        · subst e2
          rw [if_pos rfl]
          intro hk'
          rcases hb k hk' with h3 | h3
          · exact ((ho j hj).2 k hk).2.2 j' hj' hjj h3
          · have := lt k (h2 k hk).1
            omega
        · rw [if_neg e2]
          exact (h2 k hk).2.2 j' hj' hjj
  · intro k hk
    rw [hsz]
    rcases hk with hk | hk
    · exact Nat.lt_of_lt_of_le (lt k hk) hg.size
    · exact (hown.lt k hk).2
  · intro j hj
    by_cases e : j = i
    · subst e
      rw [upd_same]; exact left j hj
    · rw [upd_other _ _ _ _ e]; exact left j hj
  · intro k hk hf
    have hkg : k ≠ g := fun e => hf (e ▸ self)
    exact (hset k hkg).trans (hg.block k hk (fun e => hf ((ho i hi).2 k e.symm).1))
  · intro k hk
    rcases hk with hk | hk
    · exact .inl hk
    · rcases hb k hk with h1 | h1
      · exact .inl ((ho i hi).2 k h1).1
      · exact .inr h1

theorem Keeps.fore {a b c : World} {F : Nat → Prop} (h : Keeps b c F) (e1 : b.os = a.os) (e2 : b.tape = a.tape) (e3 : b.output = a.output) (e4 : b.heap = a.heap) : Keeps a c F :=
  ⟨h.os.trans e1, h.tape.trans e2, h.output.trans e3, e4 ▸ h.size, fun k hk hf => (h.block k (e4 ▸ hk) hf).trans (by rw [e4])⟩
theorem slice_form {w : World} {base : Nat} {e : TypeId} {size : Nat} {v : Value} {n : Nat} {xs : List Value} (h : w.ownsRow base e size v n xs) : ∃ a l c, v = .slice a l c := by
  rcases h.2 with ⟨rfl, _⟩ | ⟨g, cap, _, rfl, _⟩
  · exact ⟨_, _, _, rfl⟩
  · exact ⟨_, _, _, rfl⟩

theorem Write_out (g : Nat) (i : Int) (s : ByteArray) (hi : i < 0 ∨ 16 ≤ i) (w : World) : Calls Try.prog 13 #[.pointer (some ⟨g, 0, none⟩), .int .i64 i, .string s] w fun e w' => e = .returned (.int .i64 1) ∧ w = w' := by
  go_enter Try.func13, Try.ntmps13
  go_wp2_with fail
  refine (live_out g i hi _).mono ?_
  rintro e w1 ⟨rfl, rfl⟩
  go_wp2
  all_goals (go_ret; exact ⟨rfl, rfl⟩)
theorem Write_nil (i : Int) (s : ByteArray) (w : World) : Calls Try.prog 13 #[.pointer none, .int .i64 i, .string s] w fun e w' => e = .returned (.int .i64 1) ∧ w = w' := by
  go_enter Try.func13, Try.ntmps13
  go_wp2_with fail
  refine (live_nil i _).mono ?_
  rintro e w1 ⟨rfl, rfl⟩
  go_wp2
  all_goals (go_ret; exact ⟨rfl, rfl⟩)
theorem Write_gone (h : PipesAt w g st F) (i : Nat) (s : ByteArray) (hi : i < 16) (hl : ((st i).op && !(st i).br) = false) : Calls Try.prog 13 #[.pointer (some ⟨g, 0, none⟩), .int .i64 i, .string s] w fun e w' => e = .returned (.int .i64 12) ∧ w = w' := by
  obtain ⟨vs, hF, ho⟩ := h.ex
  go_enter Try.func13, Try.ntmps13
  go_wp2_with fail
  refine (live_gone hF i hi hl).mono ?_
  rintro e w1 ⟨rfl, rfl⟩
  go_wp2
  all_goals (go_ret; exact ⟨rfl, rfl⟩)
theorem Write_free (h : PipesAt w g st F) (i : Nat) (s : ByteArray) (hi : i < 16) (hl : ((st i).op && !(st i).br) = true) (hlf : (st i).left = -1) (hsz : (st i).out.size + s.size ≤ limit) :
    Calls Try.prog 13 #[.pointer (some ⟨g, 0, none⟩), .int .i64 i, .string s] w fun e w' => e = .returned (.int .i64 0) ∧ ∃ F', PipesAt w' g (upd st i { st i with out := (st i).out ++ s }) F' ∧ Keeps w w' F ∧ (∀ k, F' k → F k ∨ w.heap.size ≤ k) := by
  obtain ⟨vs, hF, ho⟩ := h.ex
  have x2 := hF.c2 hi
  rw [hlf] at x2
  have x3 := hF.c3 hi
  have f3 := hF.frozen (i * 4 + 3)
  obtain ⟨i5, q1, q2, q3, q4⟩ := info_parts info5
  have hown := (ho i hi).1
  have hng : (some g : Option Nat) ≠ (vs i).ownBlock := fun e => ((ho i hi).2 g e.symm).2.1 rfl
  simp only [limit] at hsz
  have hsl : s.size ≤ 9223372036854775807 := by omega
  go_enter Try.func13, Try.ntmps13
  go_wp2_with fail
  refine (live_ok hF i hi hl).mono ?_
  rintro e w1 ⟨rfl, rfl⟩
  go_wp2_with fail
  go_region_law (refine step_append_own_string rfl (.tmp 44) (.tmp 47) 51 9 rfl 0 5 i5 u51 u9 q1 q2 q3 q4 _ _ _ (by simp [Act.eval]) hown.drew s (by simp [Act.eval]) (by simp only [maxLen]; omega) (by omega) (Nat.zero_le _) ?_; intro v' w2 hown' hgrow hblk; have h4 := (hF.drew.same (hgrow.block g hF.lt hng)); have y3 := h4.c3 hi; have g3 := h4.frozen (i * 4 + 3); obtain ⟨a', l', c', rfl⟩ := slice_form hown')
  go_wp2
  all_goals go_ret
  all_goals
    obtain ⟨F', k1, k2, k3⟩ := appended hF.drew (fun j hj => ⟨(ho j hj).1.drew, (ho j hj).2⟩) h.self h.lt h.left i hi _ s hown' hgrow hblk
    exact ⟨rfl, F', k1, k2.fore rfl rfl rfl rfl, k3⟩
/-- The world behind the store of how many come out yet. -/
theorem left_row {vs : Nat → Value} {i : Nat} (hi : i < 16) (x : Int) (hx : -1 ≤ x ∧ x ≤ 9223372036854775807) (self : F g) (lt : ∀ k, F k → k < w.heap.size) (left : ∀ i, i < 16 → -1 ≤ (st i).left ∧ (st i).left ≤ 9223372036854775807)
    (ho : ∀ i, i < 16 → w.ownsRow 0 5 1 (vs i) (st i).out.size (strCells (st i).out) ∧ ∀ k, (vs i).ownBlock = some k → F k ∧ k ≠ g ∧ ∀ j, j < 16 → j ≠ i → (vs j).ownBlock ≠ some k) :
    (∀ j, j < 16 → (w.setCell ⟨g, i * 4 + 2, none⟩ (.int .i64 x)).ownsRow 0 5 1 (vs j) (upd st i { st i with left := x } j).out.size (strCells (upd st i { st i with left := x } j).out) ∧ ∀ k, (vs j).ownBlock = some k → F k ∧ k ≠ g ∧ ∀ j', j' < 16 → j' ≠ j → (vs j').ownBlock ≠ some k) ∧
    (∀ k, F k → k < (w.setCell ⟨g, i * 4 + 2, none⟩ (.int .i64 x)).heap.size) ∧ (∀ j, j < 16 → -1 ≤ (upd st i { st i with left := x } j).left ∧ (upd st i { st i with left := x } j).left ≤ 9223372036854775807) ∧ Keeps w (w.setCell ⟨g, i * 4 + 2, none⟩ (.int .i64 x)) F := by
  refine ⟨fun j hj => ?_, fun k hk => by simpa [World.setCell] using lt k hk, fun j hj => ?_, Keeps.grown (only_set (World.grownBy.refl w (some g)) _ _) (fun k e => by injection e with e; exact e ▸ self)⟩
  · have e : (upd st i { st i with left := x } j).out = (st j).out := by
      unfold upd
      by_cases e : j = i <;> simp [e]
    rw [e]
    refine ⟨(ho j hj).1.kept (only_set (World.grownBy.refl w (some g)) _ _) ?_, (ho j hj).2⟩
    cases hv : (vs j).ownBlock with
    | none => exact .inl rfl
    | some k => exact .inr (fun e => ((ho j hj).2 k hv).2.1 (by injection e))
  · by_cases e : j = i
    · subst e
      rw [upd_same]; exact hx
    · rw [upd_other _ _ _ _ e]; exact left j hj
theorem Write_fits (h : PipesAt w g st F) (i : Nat) (s : ByteArray) (hi : i < 16) (hl : ((st i).op && !(st i).br) = true) (l : Int) (hlf : (st i).left = l) (_hl0 : l ≠ -1) (hls : (s.size : Int) ≤ l) (hsz : (st i).out.size + s.size ≤ limit) :
    Calls Try.prog 13 #[.pointer (some ⟨g, 0, none⟩), .int .i64 i, .string s] w fun e w' => e = .returned (.int .i64 0) ∧ ∃ F', PipesAt w' g (upd st i { st i with left := l - s.size, out := (st i).out ++ s }) F' ∧ Keeps w w' F ∧ (∀ k, F' k → F k ∨ w.heap.size ≤ k) := by
  obtain ⟨vs, hF, ho⟩ := h.ex
  have hld := h.left i hi
  rw [hlf] at hld
  have x2 := hF.c2 hi
  rw [hlf] at x2
  have x3 := hF.c3 hi
  have f2 := hF.frozen (i * 4 + 2)
  have f3 := hF.frozen (i * 4 + 3)
  obtain ⟨i5, q1, q2, q3, q4⟩ := info_parts info5
  have hng : (some g : Option Nat) ≠ (vs i).ownBlock := fun e => ((ho i hi).2 g e.symm).2.1 rfl
  simp only [limit] at hsz
  have hsl : s.size ≤ 9223372036854775807 := by omega
  have hF1 := hF.set2 hi (l - s.size)
  obtain ⟨ho1, lt1, left1, kp1⟩ := left_row (w := w) hi (l - s.size) (by omega) h.self h.lt h.left ho
  have hown1 := (ho1 i hi).1
  simp only [upd_same] at hown1
  have e1 : IntKind.i64.wrap (l - s.size) = l - s.size := IntWalk.i64_in _ (by omega)
  go_enter Try.func13, Try.ntmps13
  go_wp2_with fail
  refine (live_ok hF i hi hl).mono ?_
  rintro e w1 ⟨rfl, rfl⟩
  go_wp2_with fail
  go_region_law (refine step_append_own_string rfl (.tmp 44) (.tmp 47) 51 9 rfl 0 5 i5 u51 u9 q1 q2 q3 q4 _ _ _ (by simp [Act.eval]) hown1.drew s (by simp [Act.eval]) (by simp only [maxLen]; omega) (by omega) (Nat.zero_le _) ?_; intro v' w2 hown' hgrow hblk; have h4 := (hF1.drew.same (hgrow.block g hF1.lt hng)); have y3 := h4.c3 hi; have g3 := h4.frozen (i * 4 + 3); obtain ⟨a', l', c', rfl⟩ := slice_form hown')
  go_wp2
  all_goals go_ret
  all_goals
    obtain ⟨F', k1, k2, k3⟩ := appended hF1.drew (fun j hj => ⟨(ho1 j hj).1.drew, (ho1 j hj).2⟩) h.self lt1 left1 i hi _ s (by rw [upd_same]; exact hown') hgrow hblk
    simp only [upd_upd, upd_same] at k1
    exact ⟨rfl, F', k1, kp1.trans (k2.fore rfl rfl rfl rfl) (fun x hx => .inl hx), fun k hk => (k3 k hk).imp id fun h => by simpa [World.setCell] using h⟩
theorem PipesAt.breaks (h : PipesAt w g st F) {i : Nat} (hi : i < 16) : PipesAt (w.setCell ⟨g, i * 4 + 1, none⟩ (.bool true)) g (upd st i { st i with br := true }) F ∧ Keeps w (w.setCell ⟨g, i * 4 + 1, none⟩ (.bool true)) F := by
  obtain ⟨vs, hF, ho⟩ := h.ex
  refine ⟨⟨⟨vs, hF.set1 hi true, fun j hj => ?_⟩, h.self, fun k hk => by simpa [World.setCell] using h.lt k hk, fun j hj => ?_⟩, Keeps.grown (only_set (World.grownBy.refl w (some g)) _ _) (fun k e => by injection e with e; exact e ▸ h.self)⟩
  · have e : (upd st i { st i with br := true } j).out = (st j).out := by
      unfold upd
      by_cases e : j = i <;> simp [e]
    rw [e]
    refine ⟨(ho j hj).1.kept (only_set (World.grownBy.refl w (some g)) _ _) ?_, (ho j hj).2⟩
    cases hv : (vs j).ownBlock with
    | none => exact .inl rfl
    | some k => exact .inr (fun e => ((ho j hj).2 k hv).2.1 (by injection e))
  · by_cases e : j = i
    · subst e
      rw [upd_same]; exact h.left j hj
    · rw [upd_other _ _ _ _ e]; exact h.left j hj
theorem Write_breaks (h : PipesAt w g st F) (i : Nat) (s : ByteArray) (hi : i < 16) (hl : ((st i).op && !(st i).br) = true) (m : Nat) (hlf : (st i).left = (m : Int)) (hls : m < s.size) (hsz : (st i).out.size + s.size ≤ limit) :
    Calls Try.prog 13 #[.pointer (some ⟨g, 0, none⟩), .int .i64 i, .string s] w fun e w' => e = .returned (.int .i64 12) ∧ ∃ F', PipesAt w' g (upd st i { st i with br := true, left := 0, out := (st i).out ++ s.extract 0 m }) F' ∧ Keeps w w' F ∧ (∀ k, F' k → F k ∨ w.heap.size ≤ k) := by
  obtain ⟨vs, hF, ho⟩ := h.ex
  have x2 := hF.c2 hi
  rw [hlf] at x2
  have x3 := hF.c3 hi
  have f2 := hF.frozen (i * 4 + 2)
  have f3 := hF.frozen (i * 4 + 3)
  obtain ⟨i5, q1, q2, q3, q4⟩ := info_parts info5
  have hng : (some g : Option Nat) ≠ (vs i).ownBlock := fun e => ((ho i hi).2 g e.symm).2.1 rfl
  simp only [limit] at hsz
  have hsl : s.size ≤ 9223372036854775807 := by omega
  have hF1 := hF.set2 hi 0
  obtain ⟨ho1, lt1, left1, kp1⟩ := left_row (w := w) hi 0 (by omega) h.self h.lt h.left ho
  have hown1 := (ho1 i hi).1
  simp only [upd_same] at hown1
  have hms : m ≤ s.size := by omega
  have e0 : ¬ (m : Int) = -1 := by omega
  have e1 : ¬ (s.size : Int) ≤ m := by omega
  have e2 : ¬ (m : Int) < 0 := by omega
  have e3 : (s.extract 0 m).size = m := by simp; omega
  go_enter Try.func13, Try.ntmps13
  go_wp2_with fail
  refine (live_ok hF i hi hl).mono ?_
  rintro e w1 ⟨rfl, rfl⟩
  go_wp2_with fail
  go_region_law (refine step_append_own_string rfl (.tmp 44) (.tmp 47) 51 9 rfl 0 5 i5 u51 u9 q1 q2 q3 q4 _ _ _ (by simp [Act.eval]) hown1.drew (s.extract 0 m) (by simp [Act.eval]) (by simp only [maxLen]; omega) (by omega) (Nat.zero_le _) ?_; intro v' w2 hown' hgrow hblk; have h4 := (hF1.drew.same (hgrow.block g hF1.lt hng)); have y3 := h4.c3 hi; have y1 := h4.c1 hi; have g3 := h4.frozen (i * 4 + 3); have g1 := h4.frozen (i * 4 + 1); obtain ⟨a', l', c', rfl⟩ := slice_form hown')
  go_wp2
  all_goals go_ret
  all_goals
    obtain ⟨F', k1, k2, k3⟩ := appended hF1.drew (fun j hj => ⟨(ho1 j hj).1.drew, (ho1 j hj).2⟩) h.self lt1 left1 i hi _ (s.extract 0 m) (by rw [upd_same]; exact hown') hgrow hblk
    simp only [upd_upd, upd_same] at k1
    obtain ⟨k4, k5⟩ := k1.breaks hi
    simp only [upd_upd, upd_same] at k4
    exact ⟨rfl, F', k4, (kp1.trans (k2.fore rfl rfl rfl rfl) (fun x hx => .inl hx)).trans k5 (fun x hx => (k3 x hx).imp id fun h => by simpa [World.setCell] using h), fun k hk => (k3 k hk).imp id fun h => by simpa [World.setCell] using h⟩
end
end Go.Proofs.Ytdpjbkodenhelaa
