/- Package pipes: each step as a plain function of the sixteen pipes; New; the law's kind and does. -/
import Derived.Test.YtdpjbkodenhelaaD
namespace Go.Proofs.Ytdpjbkodenhelaa
open Go.RowKit Go.Lib
attribute [local go_sem ↓] Go.wp_at_zero Go.wp_at_succ

def opn (p : PS) : Int × PS := if p.op = true then (8, p) else (0, ⟨true, false, -1, ByteArray.empty⟩)
def brk (n : Int) (p : PS) : Int × PS := if (p.op && !p.br) = true then (0, { p with left := max n (-1) }) else (12, p)
def cls (p : PS) : Int × PS := if p.op = true then (0, { p with op := false }) else (12, p)
def wrt (s : ByteArray) (p : PS) : Int × PS := wri p s
def at_ (f : PS → Int × PS) (st : Nat → PS) (id : Int) : Int × (Nat → PS) := if 0 ≤ id ∧ id < 16 then ((f (st id.toNat)).1, upd st id.toNat (f (st id.toNat)).2) else (1, st)

/-- The pipes have gone on. -/
def Stepped (w w' : World) (g : Nat) (st' : Nat → PS) (F : Nat → Prop) : Prop := ∃ F', PipesAt w' g st' F' ∧ Keeps w w' F ∧ (∀ k, F' k → F k ∨ w.heap.size ≤ k)
theorem upd_self (st : Nat → PS) (i : Nat) : upd st i (st i) = st := by
  funext j
  unfold upd
  by_cases e : j = i <;> simp [e]
theorem at_in (f : PS → Int × PS) (st : Nat → PS) (i : Nat) (hi : i < 16) : at_ f st (i : Int) = ((f (st i)).1, upd st i (f (st i)).2) := by
  unfold at_
  rw [if_pos (by omega)]
  simp
theorem at_out (f : PS → Int × PS) (st : Nat → PS) (id : Int) (h : id < 0 ∨ 16 ≤ id) : at_ f st id = (1, st) := by
  unfold at_
  rw [if_neg (by omega)]

section
variable {w : World} {g : Nat} {st : Nat → PS} {F : Nat → Prop}
theorem PipesAt.stay (h : PipesAt w g st F) : Stepped w w g st F := ⟨F, h, Keeps.refl w F, fun _ hk => .inl hk⟩
/-- A change of the pipes' own block alone. -/
theorem PipesAt.own_block (h : PipesAt w g st F) {w' : World} {st' : Nat → PS} {i : Nat} (hi : i < 16) (x : PS) (e : st' = upd st i x) (vs' : Nat → Value) (vs : Nat → Value)
    (ho : ∀ i, i < 16 → w.ownsRow 0 5 1 (vs i) (st i).out.size (strCells (st i).out) ∧ ∀ k, (vs i).ownBlock = some k → F k ∧ k ≠ g ∧ ∀ j, j < 16 → j ≠ i → (vs j).ownBlock ≠ some k)
    (hF : Four w' g 56 st' vs') (hg : w.grownBy w' (some g)) (hv : ∀ j, j < 16 → (vs' j = vs j ∧ (st' j).out = (st j).out) ∨ (vs' j = .slice none 0 0 ∧ (st' j).out = ByteArray.empty)) (hl : -1 ≤ x.left ∧ x.left ≤ 9223372036854775807) : Stepped w w' g st' F := by
  refine ⟨F, ⟨⟨vs', hF, fun j hj => ?_⟩, h.self, fun k hk => Nat.lt_of_lt_of_le (h.lt k hk) hg.size, fun j hj => ?_⟩, Keeps.grown hg (fun k e => by injection e with e; exact e ▸ h.self), fun k hk => .inl hk⟩
  · rcases hv j hj with ⟨e1, e2⟩ | ⟨e1, e2⟩
    · rw [e1, e2]
      refine ⟨(ho j hj).1.kept hg ?_, fun k hk => ⟨((ho j hj).2 k hk).1, ((ho j hj).2 k hk).2.1, fun j' hj' hjj => ?_⟩⟩
      · cases hvj : (vs j).ownBlock with
        | none => exact .inl rfl
        | some k => exact .inr (fun e => ((ho j hj).2 k hvj).2.1 (by injection e))
      · rcases hv j' hj' with ⟨e3, _⟩ | ⟨e3, _⟩
        · rw [e3]; exact ((ho j hj).2 k hk).2.2 j' hj' hjj
        · rw [e3]; intro h; cases h
    · rw [e1, e2]
      exact ⟨World.ownsRow_nil _ _ _ _, fun k hk => by cases hk⟩
  · rw [e]
    by_cases e : j = i
    · subst e
      rw [upd_same]; exact hl
    · rw [upd_other _ _ _ _ e]; exact h.left j hj

theorem Open_at (h : PipesAt w g st F) (id : Int) : Calls Try.prog 10 #[.pointer (some ⟨g, 0, none⟩), .int .i64 id] w fun e w' => e = .returned (.int .i64 (at_ opn st id).1) ∧ Stepped w w' g (at_ opn st id).2 F := by
  by_cases hi : id < 0 ∨ 16 ≤ id
  · rw [at_out _ _ _ hi]
    refine (Open_out g id hi w).mono ?_
    rintro e w' ⟨rfl, rfl⟩
    exact ⟨rfl, h.stay⟩
  · obtain ⟨i, rfl⟩ : ∃ i : Nat, id = i := ⟨id.toNat, by omega⟩
    have hi : i < 16 := by omega
    rw [at_in _ _ _ hi]
    obtain ⟨vs, hF, ho⟩ := h.ex
    cases hop : (st i).op with
    | true =>
      refine (Open_there hF i hi hop).mono ?_
      rintro e w' ⟨rfl, rfl⟩
      have e1 : opn (st i) = (8, st i) := by simp [opn, hop]
      rw [e1, upd_self]
      exact ⟨rfl, h.stay⟩
    | false =>
      refine (Open_ok hF i hi hop).mono ?_
      rintro e w' ⟨rfl, h4, hg⟩
      have e1 : opn (st i) = (0, ⟨true, false, -1, ByteArray.empty⟩) := by simp [opn, hop]
      rw [e1]
      refine ⟨rfl, h.own_block hi _ rfl _ vs ho h4 hg (fun j hj => ?_) (by simp)⟩
      by_cases e : j = i
      · exact .inr ⟨by simp [e], by subst e; simp [upd_same]⟩
      · exact .inl ⟨by simp [e], by simp [upd_other _ _ _ _ e]⟩
theorem Close_at (h : PipesAt w g st F) (id : Int) : Calls Try.prog 21 #[.pointer (some ⟨g, 0, none⟩), .int .i64 id] w fun e w' => e = .returned (.int .i64 (at_ cls st id).1) ∧ Stepped w w' g (at_ cls st id).2 F := by
  by_cases hi : id < 0 ∨ 16 ≤ id
  · rw [at_out _ _ _ hi]
    refine (Close_out g id hi w).mono ?_
    rintro e w' ⟨rfl, rfl⟩
    exact ⟨rfl, h.stay⟩
  · obtain ⟨i, rfl⟩ : ∃ i : Nat, id = i := ⟨id.toNat, by omega⟩
    have hi : i < 16 := by omega
    rw [at_in _ _ _ hi]
    obtain ⟨vs, hF, ho⟩ := h.ex
    cases hop : (st i).op with
    | false =>
      refine (Close_gone hF i hi hop).mono ?_
      rintro e w' ⟨rfl, rfl⟩
      have e1 : cls (st i) = (12, st i) := by simp [cls, hop]
      rw [e1, upd_self]
      exact ⟨rfl, h.stay⟩
    | true =>
      refine (Close_ok hF i hi hop).mono ?_
      rintro e w' ⟨rfl, h4, hg⟩
      have e1 : cls (st i) = (0, { st i with op := false }) := by simp [cls, hop]
      rw [e1]
      refine ⟨rfl, h.own_block hi _ rfl _ vs ho h4 hg (fun j hj => .inl ⟨rfl, ?_⟩) (h.left i hi)⟩
      unfold upd
      by_cases e : j = i <;> simp [e]
theorem Break_at (h : PipesAt w g st F) (id n : Int) (hn : n ≤ 9223372036854775807) : Calls Try.prog 11 #[.pointer (some ⟨g, 0, none⟩), .int .i64 id, .int .i64 n] w fun e w' => e = .returned (.int .i64 (at_ (brk n) st id).1) ∧ Stepped w w' g (at_ (brk n) st id).2 F := by
  by_cases hi : id < 0 ∨ 16 ≤ id
  · rw [at_out _ _ _ hi]
    refine (Break_out g id n hi w).mono ?_
    rintro e w' ⟨rfl, rfl⟩
    exact ⟨rfl, h.stay⟩
  · obtain ⟨i, rfl⟩ : ∃ i : Nat, id = i := ⟨id.toNat, by omega⟩
    have hi : i < 16 := by omega
    rw [at_in _ _ _ hi]
    obtain ⟨vs, hF, ho⟩ := h.ex
    cases hop : ((st i).op && !(st i).br) with
    | false =>
      refine (Break_gone hF i hi n hop).mono ?_
      rintro e w' ⟨rfl, rfl⟩
      have e1 : brk n (st i) = (12, st i) := by unfold brk; rw [hop]; rfl
      rw [e1, upd_self]
      exact ⟨rfl, h.stay⟩
    | true =>
      refine (Break_ok hF i hi n hop).mono ?_
      rintro e w' ⟨rfl, h4, hg⟩
      have e1 : brk n (st i) = (0, { st i with left := max n (-1) }) := by unfold brk; rw [hop]; rfl
      rw [e1]
      refine ⟨rfl, h.own_block hi _ rfl _ vs ho h4 hg (fun j hj => .inl ⟨rfl, ?_⟩) ⟨by simp only []; omega, by simp only []; omega⟩⟩
      unfold upd
      by_cases e : j = i <;> simp [e]
theorem Write_at (h : PipesAt w g st F) (id : Int) (s : ByteArray) (hs : ∀ i, i < 16 → (st i).out.size + s.size ≤ limit) : Calls Try.prog 13 #[.pointer (some ⟨g, 0, none⟩), .int .i64 id, .string s] w fun e w' => e = .returned (.int .i64 (at_ (wrt s) st id).1) ∧ Stepped w w' g (at_ (wrt s) st id).2 F := by
  by_cases hi : id < 0 ∨ 16 ≤ id
  · rw [at_out _ _ _ hi]
    refine (Write_out g id s hi w).mono ?_
    rintro e w' ⟨rfl, rfl⟩
    exact ⟨rfl, h.stay⟩
  · obtain ⟨i, rfl⟩ : ∃ i : Nat, id = i := ⟨id.toNat, by omega⟩
    have hi : i < 16 := by omega
    rw [at_in _ _ _ hi]
    have hl := h.left i hi
    cases hop : ((st i).op && !(st i).br) with
    | false =>
      refine (Write_gone h i s hi hop).mono ?_
      rintro e w' ⟨rfl, rfl⟩
      have e1 : wrt s (st i) = (12, st i) := by unfold wrt wri; rw [hop]; rfl
      rw [e1, upd_self]
      exact ⟨rfl, h.stay⟩
    | true =>
      by_cases h1 : (st i).left = -1
      · refine (Write_free h i s hi hop h1 (hs i hi)).mono ?_
        rintro e w' ⟨rfl, hst⟩
        have e1 : wrt s (st i) = (0, { st i with out := (st i).out ++ s }) := by unfold wrt wri; rw [if_pos hop, if_pos h1]
        rw [e1]
        exact ⟨rfl, hst⟩
      · by_cases h2 : (s.size : Int) ≤ (st i).left
        · refine (Write_fits h i s hi hop _ rfl h1 h2 (hs i hi)).mono ?_
          rintro e w' ⟨rfl, hst⟩
          have e1 : wrt s (st i) = (0, { st i with left := (st i).left - s.size, out := (st i).out ++ s }) := by unfold wrt wri; rw [if_pos hop, if_neg h1, if_pos h2]
          rw [e1]
          exact ⟨rfl, hst⟩
        · refine (Write_breaks h i s hi hop (st i).left.toNat (by omega) (by omega) (hs i hi)).mono ?_
          rintro e w' ⟨rfl, hst⟩
          have e1 : wrt s (st i) = (12, { st i with br := true, left := 0, out := (st i).out ++ s.extract 0 (st i).left.toNat }) := by unfold wrt wri; rw [if_pos hop, if_neg h1, if_neg h2]
          rw [e1]
          exact ⟨rfl, hst⟩
end

def st0 : Nat → PS := fun _ => ⟨false, false, 0, ByteArray.empty⟩
theorem New_any (w : World) : Calls Try.prog 9 #[] w fun e w' => e = .returned (.pointer (some ⟨w.heap.size, 0, none⟩)) ∧ PipesAt w' w.heap.size st0 (fun k => k = w.heap.size) ∧ w.grownBy w' none := by
  go_enter Try.func9, Try.ntmps9
  go_wp2
  all_goals go_ret
  all_goals
    refine ⟨rfl, ⟨⟨fun _ => .slice none 0 0, ⟨_, Blk.new w 56 _, fun i hi => ?_⟩, fun i _ => ⟨World.ownsRow_nil _ _ _ _, fun k hk => by cases hk⟩⟩, rfl, fun k hk => ?_, fun i _ => ⟨by simp [st0], by simp [st0]⟩⟩, World.grownBy_alloc w _ none⟩
    · rcases (by omega : i = 0 ∨ i = 1 ∨ i = 2 ∨ i = 3 ∨ i = 4 ∨ i = 5 ∨ i = 6 ∨ i = 7 ∨ i = 8 ∨ i = 9 ∨ i = 10 ∨ i = 11 ∨ i = 12 ∨ i = 13 ∨ i = 14 ∨ i = 15) with rfl | rfl | rfl | rfl | rfl | rfl | rfl | rfl | rfl | rfl | rfl | rfl | rfl | rfl | rfl | rfl <;> exact ⟨rfl, rfl, rfl, rfl⟩
    · subst hk; simp
end Go.Proofs.Ytdpjbkodenhelaa
