/- The inner functions of package pipes: get, live, whole, Open, Break, Close, Is, Whole, as plain functions of the sixteen pipes. -/
import Derived.Test.YtdpjbkodenhelaaRows
import Derived.WalkKit
import Derived.WalkSpells
import Derived.WalkLawsBesides
import Derived.Deep.RegionHeld3
import Derived.Deep.DrawnRows
import Derived.Lib.Hide
import Derived.BigQuiet
import Derived.StillTailTactics
import Derived.Lib.AppendStr
import Derived.Deep.RegionLaw
namespace Go.Proofs.Ytdpjbkodenhelaa
open Go.RowKit
attribute [local go_sem ↓] Go.wp_at_zero Go.wp_at_succ

/-- A pipe: open, broken, how many bytes come out yet, what came out. -/
structure PS where
  op : Bool
  br : Bool
  left : Int
  out : ByteArray
def upd (st : Nat → PS) (i : Nat) (x : PS) : Nat → PS := fun j => if j = i then x else st j
theorem upd_same (st : Nat → PS) (i : Nat) (x : PS) : upd st i x i = x := by simp [upd]
theorem upd_upd (st : Nat → PS) (i : Nat) (x y : PS) : upd (upd st i x) i y = upd st i y := by
  funext j
  unfold upd
  by_cases e : j = i <;> simp [e]
theorem upd_other (st : Nat → PS) (i : Nat) (x : PS) (j : Nat) (h : j ≠ i) : upd st i x j = st j := by simp [upd, h]


/-- Block g is just these cells. -/
def Blk (w : World) (g : Nat) (t : TypeId) (cs : Array Value) : Prop := w.heap[g]? = some (.cells cs t (0, 0))
section
variable {w w' : World} {g : Nat} {t : TypeId} {cs : Array Value}
theorem Blk.lt (h : Blk w g t cs) : g < w.heap.size := by
  rcases Nat.lt_or_ge g w.heap.size with hlt | hge
  · exact hlt
  · unfold Blk at h; rw [Array.getElem?_eq_none hge] at h; cases h
theorem Blk.cell (h : Blk w g t cs) (i : Nat) : w.cell? ⟨g, i, none⟩ = cs[i]? := cell_of_row w g i cs t (0, 0) h
theorem Blk.frozen (h : Blk w g t cs) (i : Nat) : w.frozen? ⟨g, i, none⟩ = false := by
  unfold Blk at h
  simp [World.frozen?, h]
theorem Blk.new (w : World) (t : TypeId) (cs : Array Value) : Blk (w.alloc (.cells cs t)) w.heap.size t cs := heap_alloc_new w _
theorem Blk.alloc (h : Blk w g t cs) (o : Obj) : Blk (w.alloc o) g t cs := (Below.heap_alloc w o g h.lt).trans h
theorem Blk.set_ (h : Blk w g t cs) (i : Nat) (u : Value) : Blk (w.setCell ⟨g, i, none⟩ u) g t (cs.setIfInBounds i u) := by
  unfold Blk at h ⊢
  simp [World.setCell, Array.getElem?_modify, h]
theorem Blk.far (h : Blk w g t cs) {p : Addr} (hp : g ≠ p.block) (u : Value) : Blk (w.setCell p u) g t cs := (Below.heap_setCell w p u g hp).trans h
theorem Blk.below {B : Nat} (h : Blk w g t cs) (hb : Below B w w') (hg : g < B) : Blk w' g t cs := (hb.block g hg).trans h
theorem Blk.drew (h : Blk w g t cs) : Blk w.drew g t cs := h
theorem Blk.grown {row : Option Nat} (h : Blk w g t cs) (hb : w.grownBy w' row) (hg : some g ≠ row) : Blk w' g t cs := (hb.block g h.lt hg).trans h
end
theorem only_drew {a w : World} {row : Option Nat} (h : a.grownBy w row) : a.grownBy w.drew row := ⟨h.os, h.tape, h.output, h.size, h.block⟩
theorem only_setCell {a w : World} {g : Nat} (h : a.grownBy w (some g)) {p : Addr} (hp : p.block = g) (u : Value) : a.grownBy (w.setCell p u) (some g) :=
  ⟨h.os, h.tape, h.output, by simpa [World.setCell] using h.size, fun i hi hne => (Below.heap_setCell w p u i (by
    rintro rfl
    exact hne (by rw [hp]))).trans (h.block i hi hne)⟩
theorem only_set {a w : World} {g : Nat} (h : a.grownBy w (some g)) (o : Nat) (u : Value) : a.grownBy (w.setCell ⟨g, o, none⟩ u) (some g) := only_setCell h rfl u
theorem only_trans {a b c : World} {g : Nat} (h : a.grownBy b (some g)) (k : b.grownBy c (some g)) : a.grownBy c (some g) :=
  ⟨k.os.trans h.os, k.tape.trans h.tape, k.output.trans h.output, Nat.le_trans h.size k.size, fun i hi hne => (k.block i (Nat.lt_of_lt_of_le hi h.size) hne).trans (h.block i hi hne)⟩

/-- Sixteen pipes in a block: the fourth cell of each holds whatever. -/
structure Four (w : World) (g : Nat) (t : TypeId) (st : Nat → PS) (vs : Nat → Value) : Prop where
  ex : ∃ cs, Blk w g t cs ∧ ∀ i, i < 16 → cs[i * 4]? = some (.bool (st i).op) ∧ cs[i * 4 + 1]? = some (.bool (st i).br) ∧ cs[i * 4 + 2]? = some (.int .i64 (st i).left) ∧ cs[i * 4 + 3]? = some (vs i)
section
variable {w w' : World} {g : Nat} {t : TypeId} {st : Nat → PS} {vs : Nat → Value}
theorem Four.lt (h : Four w g t st vs) : g < w.heap.size := by
  obtain ⟨cs, hb, _⟩ := h.ex
  exact hb.lt
theorem Four.c0 (h : Four w g t st vs) {i : Nat} (hi : i < 16) : w.cell? ⟨g, i * 4, none⟩ = some (.bool (st i).op) := by
  obtain ⟨cs, hb, hc⟩ := h.ex
  rw [hb.cell]; exact (hc i hi).1
theorem Four.c1 (h : Four w g t st vs) {i : Nat} (hi : i < 16) : w.cell? ⟨g, i * 4 + 1, none⟩ = some (.bool (st i).br) := by
  obtain ⟨cs, hb, hc⟩ := h.ex
  rw [hb.cell]; exact (hc i hi).2.1
theorem Four.c2 (h : Four w g t st vs) {i : Nat} (hi : i < 16) : w.cell? ⟨g, i * 4 + 2, none⟩ = some (.int .i64 (st i).left) := by
  obtain ⟨cs, hb, hc⟩ := h.ex
  rw [hb.cell]; exact (hc i hi).2.2.1
theorem Four.c3 (h : Four w g t st vs) {i : Nat} (hi : i < 16) : w.cell? ⟨g, i * 4 + 3, none⟩ = some (vs i) := by
  obtain ⟨cs, hb, hc⟩ := h.ex
  rw [hb.cell]; exact (hc i hi).2.2.2
theorem Four.frozen (h : Four w g t st vs) (k : Nat) : w.frozen? ⟨g, k, none⟩ = false := by
  obtain ⟨cs, hb, _⟩ := h.ex
  exact hb.frozen k
theorem Four.alloc (h : Four w g t st vs) (o : Obj) : Four (w.alloc o) g t st vs := by
  obtain ⟨cs, hb, hc⟩ := h.ex
  exact ⟨cs, hb.alloc o, hc⟩
theorem Four.far (h : Four w g t st vs) {p : Addr} (hp : g ≠ p.block) (u : Value) : Four (w.setCell p u) g t st vs := by
  obtain ⟨cs, hb, hc⟩ := h.ex
  exact ⟨cs, hb.far hp u, hc⟩
theorem Four.drew (h : Four w g t st vs) : Four w.drew g t st vs := by
  obtain ⟨cs, hb, hc⟩ := h.ex
  exact ⟨cs, hb.drew, hc⟩
theorem Four.same (h : Four w g t st vs) (he : w'.heap[g]? = w.heap[g]?) : Four w' g t st vs := by
  obtain ⟨cs, hb, hc⟩ := h.ex
  exact ⟨cs, he.trans hb, hc⟩
theorem lt_of_some {cs : Array Value} {k : Nat} {v : Value} (h : cs[k]? = some v) : k < cs.size := (Array.getElem?_eq_some_iff.1 h).1
theorem Four.set0 (h : Four w g t st vs) {i : Nat} (hi : i < 16) (b : Bool) : Four (w.setCell ⟨g, i * 4, none⟩ (.bool b)) g t (upd st i { st i with op := b }) vs := by
  obtain ⟨cs, hb, hc⟩ := h.ex
  refine ⟨_, hb.set_ _ _, fun j hj => ?_⟩
  obtain ⟨a0, a1, a2, a3⟩ := hc j hj
  have := lt_of_some (hc i hi).1
  unfold upd
  by_cases e : j = i
  · subst e
    simp [a1, a2, a3, this]
  · simp only [Array.getElem?_setIfInBounds, if_neg e]
    rw [if_neg (by omega), if_neg (by omega), if_neg (by omega), if_neg (by omega)]
    exact ⟨a0, a1, a2, a3⟩
theorem Four.set1 (h : Four w g t st vs) {i : Nat} (hi : i < 16) (b : Bool) : Four (w.setCell ⟨g, i * 4 + 1, none⟩ (.bool b)) g t (upd st i { st i with br := b }) vs := by
  obtain ⟨cs, hb, hc⟩ := h.ex
  refine ⟨_, hb.set_ _ _, fun j hj => ?_⟩
  obtain ⟨a0, a1, a2, a3⟩ := hc j hj
  have := lt_of_some (hc i hi).2.1
  unfold upd
  by_cases e : j = i
  · subst e
    simp [a0, a2, a3, this]
  · simp only [Array.getElem?_setIfInBounds, if_neg e]
    rw [if_neg (by omega), if_neg (by omega), if_neg (by omega), if_neg (by omega)]
    exact ⟨a0, a1, a2, a3⟩
theorem Four.set2 (h : Four w g t st vs) {i : Nat} (hi : i < 16) (b : Int) : Four (w.setCell ⟨g, i * 4 + 2, none⟩ (.int .i64 b)) g t (upd st i { st i with left := b }) vs := by
  obtain ⟨cs, hb, hc⟩ := h.ex
  refine ⟨_, hb.set_ _ _, fun j hj => ?_⟩
  obtain ⟨a0, a1, a2, a3⟩ := hc j hj
  have := lt_of_some (hc i hi).2.2.1
  unfold upd
  by_cases e : j = i
  · subst e
    simp [a0, a1, a3, this]
  · simp only [Array.getElem?_setIfInBounds, if_neg e]
    rw [if_neg (by omega), if_neg (by omega), if_neg (by omega), if_neg (by omega)]
    exact ⟨a0, a1, a2, a3⟩
theorem Four.set3 (h : Four w g t st vs) {i : Nat} (hi : i < 16) (v : Value) (o : ByteArray) : Four (w.setCell ⟨g, i * 4 + 3, none⟩ v) g t (upd st i { st i with out := o }) (fun j => if j = i then v else vs j) := by
  obtain ⟨cs, hb, hc⟩ := h.ex
  refine ⟨_, hb.set_ _ _, fun j hj => ?_⟩
  obtain ⟨a0, a1, a2, a3⟩ := hc j hj
  have := lt_of_some (hc i hi).2.2.2
  unfold upd
  by_cases e : j = i
  · subst e
    simp [a0, a1, a2, this]
  · simp only [Array.getElem?_setIfInBounds, if_neg e]
    rw [if_neg (by omega), if_neg (by omega), if_neg (by omega), if_neg (by omega)]
    exact ⟨a0, a1, a2, a3⟩
end

theorem get_in (g : Nat) (i : Nat) (hi : i < 16) (w : World) : Calls Try.prog 22 #[.pointer (some ⟨g, 0, none⟩), .int .i64 i] w fun e w' => e = .returned (.pointer (some ⟨g, i * 4, none⟩)) ∧ w = w' := by
  have h1 : ¬ (i : Int) < 0 := by omega
  have h2 : ¬ (16 : Int) ≤ i := by omega
  go_enter Try.func22, Try.ntmps22
  go_wp2
  all_goals (go_ret; exact ⟨rfl, rfl⟩)
theorem get_out (g : Nat) (i : Int) (hi : i < 0 ∨ 16 ≤ i) (w : World) : Calls Try.prog 22 #[.pointer (some ⟨g, 0, none⟩), .int .i64 i] w fun e w' => e = .returned (.pointer none) ∧ w = w' := by
  rcases hi with hi | hi
  · go_enter Try.func22, Try.ntmps22
    go_wp2
    all_goals (go_ret; exact ⟨rfl, rfl⟩)
  · have h1 : ¬ i < 0 := by omega
    go_enter Try.func22, Try.ntmps22
    go_wp2
    all_goals (go_ret; exact ⟨rfl, rfl⟩)
theorem get_nil (i : Int) (w : World) : Calls Try.prog 22 #[.pointer none, .int .i64 i] w fun e w' => e = .returned (.pointer none) ∧ w = w' := by
  go_enter Try.func22, Try.ntmps22
  go_wp2
  all_goals (go_ret; exact ⟨rfl, rfl⟩)

theorem whole_any {w : World} {g : Nat} {t : TypeId} {st : Nat → PS} {vs : Nat → Value} (h : Four w g t st vs) (i : Nat) (hi : i < 16) : Calls Try.prog 24 #[.pointer (some ⟨g, i * 4, none⟩)] w fun e w' => e = .returned (.bool ((st i).op && !(st i).br)) ∧ w = w' := by
  have x0 := h.c0 hi
  have x1 := h.c1 hi
  cases hop : (st i).op with
  | false =>
    rw [hop] at x0
    go_enter Try.func24, Try.ntmps24
    go_wp2
    all_goals (go_ret; exact ⟨rfl, rfl⟩)
  | true =>
    rw [hop] at x0
    generalize (st i).br = b at x1
    go_enter Try.func24, Try.ntmps24
    go_wp2
    all_goals (go_ret; exact ⟨rfl, rfl⟩)
end Go.Proofs.Ytdpjbkodenhelaa
