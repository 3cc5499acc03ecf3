/- The document's pipes: there, Open, Break, Close, Write, and the law's doesRef, as the same plain functions of sixteen pipes. -/
import Derived.Test.YtdpjbkodenhelaaN
namespace Go.Proofs.Ytdpjbkodenhelaa
open Go.RowKit Go.Lib
attribute [local go_sem ↓] Go.wp_at_zero Go.wp_at_succ

def strs (st : Nat → PS) : Nat → Value := fun i => .string (st i).out
theorem strs_upd (st : Nat → PS) (i : Nat) (x : PS) (h : x.out = (st i).out) : strs (upd st i x) = strs st := by
  funext j
  unfold strs upd
  by_cases e : j = i
  · subst e; simp [h]
  · simp [e]
theorem strs_set (st : Nat → PS) (i : Nat) (x : PS) (o : ByteArray) (h : x.out = o) : (fun j => if j = i then Value.string o else strs st j) = strs (upd st i x) := by
  funext j
  unfold strs upd
  by_cases e : j = i
  · subst e; simp [h]
  · simp [e]

theorem there_in (i : Nat) (hi : i < 16) (w : World) : Calls Try.prog 30 #[.int .i64 i] w fun e w' => e = .returned (.bool true) ∧ w = w' := by
  have h1 : (0 : Int) ≤ i := by omega
  have h2 : (i : Int) < 16 := by omega
  go_enter Try.func30, Try.ntmps30
  go_wp2
  all_goals (go_ret; exact ⟨rfl, rfl⟩)
theorem there_out (i : Int) (hi : i < 0 ∨ 16 ≤ i) (w : World) : Calls Try.prog 30 #[.int .i64 i] w fun e w' => e = .returned (.bool false) ∧ w = w' := by
  rcases hi with hi | hi
  · have h1 : ¬ (0 : Int) ≤ i := by omega
    go_enter Try.func30, Try.ntmps30
    go_wp2
    all_goals (go_ret; exact ⟨rfl, rfl⟩)
  · have h1 : (0 : Int) ≤ i := by omega
    have h2 : ¬ i < 16 := by omega
    go_enter Try.func30, Try.ntmps30
    go_wp2
    all_goals (go_ret; exact ⟨rfl, rfl⟩)

/-- The document's pipes have gone on. -/
def RefTo (w w' : World) (r : Nat) (st' : Nat → PS) : Prop := Four w' r 39 st' (strs st') ∧ w.grownBy w' (some r)
section
variable {w : World} {r : Nat} {st : Nat → PS}
theorem rOpen_at (h : Four w r 39 st (strs st)) (id : Int) : Calls Try.prog 26 #[.pointer (some ⟨r, 0, none⟩), .int .i64 id] w fun e w' => e = .returned (.int .i64 (at_ opn st id).1) ∧ RefTo w w' r (at_ opn st id).2 := by
  by_cases hi : id < 0 ∨ 16 ≤ id
  · rw [at_out _ _ _ hi]
    go_enter Try.func26, Try.ntmps26
    go_wp2_with fail
    refine (there_out id hi _).mono ?_
    rintro e w1 ⟨rfl, rfl⟩
    go_wp2
    all_goals (go_ret; exact ⟨rfl, h, World.grownBy.refl _ _⟩)
  · obtain ⟨i, rfl⟩ : ∃ i : Nat, id = i := ⟨id.toNat, by omega⟩
    have hi : i < 16 := by omega
    rw [at_in _ _ _ hi]
    have x0 := h.c0 hi
    have k1 : ¬ (i : Int) < 0 := by omega
    have k2 : (i : Int) < 16 := by omega
    cases hop : (st i).op with
    | true =>
      have e1 : opn (st i) = (8, st i) := by simp [opn, hop]
      rw [e1, upd_self]
      rw [hop] at x0
      go_enter Try.func26, Try.ntmps26
      go_wp2_with fail
      refine (there_in i hi _).mono ?_
      rintro e w1 ⟨rfl, rfl⟩
      go_wp2
      all_goals (go_ret; exact ⟨rfl, h, World.grownBy.refl _ _⟩)
    | false =>
      have e1 : opn (st i) = (0, ⟨true, false, -1, ByteArray.empty⟩) := by simp [opn, hop]
      rw [e1]
      rw [hop] at x0
      have x1 := h.c1 hi
      have x2 := h.c2 hi
      have x3 := h.c3 hi
      have f0 := h.frozen (i * 4)
      have f1 := h.frozen (i * 4 + 1)
      have f2 := h.frozen (i * 4 + 2)
      have f3 := h.frozen (i * 4 + 3)
      go_enter Try.func26, Try.ntmps26
      go_wp2_with fail
      refine (there_in i hi _).mono ?_
      rintro e w1 ⟨rfl, rfl⟩
      go_wp2
      all_goals (go_ret; refine ⟨rfl, ?_, only_set (only_set (only_set (only_set (World.grownBy.refl w (some r)) _ _) _ _) _ _) _ _⟩)
      all_goals
        have k := (((h.set0 hi true).set1 hi false).set2 hi (-1)).set3 hi (.string ByteArray.empty) ByteArray.empty
        simp only [upd_same, upd_upd] at k
        rw [strs_set st i ⟨true, false, -1, ByteArray.empty⟩ ByteArray.empty rfl] at k
        exact k
theorem rClose_at (h : Four w r 39 st (strs st)) (id : Int) : Calls Try.prog 29 #[.pointer (some ⟨r, 0, none⟩), .int .i64 id] w fun e w' => e = .returned (.int .i64 (at_ cls st id).1) ∧ RefTo w w' r (at_ cls st id).2 := by
  by_cases hi : id < 0 ∨ 16 ≤ id
  · rw [at_out _ _ _ hi]
    go_enter Try.func29, Try.ntmps29
    go_wp2_with fail
    refine (there_out id hi _).mono ?_
    rintro e w1 ⟨rfl, rfl⟩
    go_wp2
    all_goals (go_ret; exact ⟨rfl, h, World.grownBy.refl _ _⟩)
  · obtain ⟨i, rfl⟩ : ∃ i : Nat, id = i := ⟨id.toNat, by omega⟩
    have hi : i < 16 := by omega
    rw [at_in _ _ _ hi]
    have x0 := h.c0 hi
    have k1 : ¬ (i : Int) < 0 := by omega
    have k2 : (i : Int) < 16 := by omega
    cases hop : (st i).op with
    | false =>
      have e1 : cls (st i) = (12, st i) := by simp [cls, hop]
      rw [e1, upd_self]
      rw [hop] at x0
      go_enter Try.func29, Try.ntmps29
      go_wp2_with fail
      refine (there_in i hi _).mono ?_
      rintro e w1 ⟨rfl, rfl⟩
      go_wp2
      all_goals (go_ret; exact ⟨rfl, h, World.grownBy.refl _ _⟩)
    | true =>
      have e1 : cls (st i) = (0, { st i with op := false }) := by simp [cls, hop]
      rw [e1]
      rw [hop] at x0
      have f0 := h.frozen (i * 4)
      go_enter Try.func29, Try.ntmps29
      go_wp2_with fail
      refine (there_in i hi _).mono ?_
      rintro e w1 ⟨rfl, rfl⟩
      go_wp2
      all_goals (go_ret; refine ⟨rfl, ?_, only_set (World.grownBy.refl w (some r)) _ _⟩)
      all_goals
        rw [strs_upd st i ⟨false, (st i).br, (st i).left, (st i).out⟩ rfl]
        exact h.set0 hi false
theorem rBreak_at (h : Four w r 39 st (strs st)) (id n : Int) : Calls Try.prog 28 #[.pointer (some ⟨r, 0, none⟩), .int .i64 id, .int .i64 n] w fun e w' => e = .returned (.int .i64 (at_ (brk n) st id).1) ∧ RefTo w w' r (at_ (brk n) st id).2 := by
  by_cases hi : id < 0 ∨ 16 ≤ id
  · rw [at_out _ _ _ hi]
    go_enter Try.func28, Try.ntmps28
    go_wp2_with fail
    refine (there_out id hi _).mono ?_
    rintro e w1 ⟨rfl, rfl⟩
    go_wp2
    all_goals (go_ret; exact ⟨rfl, h, World.grownBy.refl _ _⟩)
  · obtain ⟨i, rfl⟩ : ∃ i : Nat, id = i := ⟨id.toNat, by omega⟩
    have hi : i < 16 := by omega
    rw [at_in _ _ _ hi]
    have x0 := h.c0 hi
    have x1 := h.c1 hi
    have x2 := h.c2 hi
    have f2 := h.frozen (i * 4 + 2)
    have k1 : ¬ (i : Int) < 0 := by omega
    have k2 : (i : Int) < 16 := by omega
    cases hop : (st i).op with
    | false =>
      have e1 : brk n (st i) = (12, st i) := by simp [brk, hop]
      rw [e1, upd_self]
      rw [hop] at x0
      go_enter Try.func28, Try.ntmps28
      go_wp2_with fail
      refine (there_in i hi _).mono ?_
      rintro e w1 ⟨rfl, rfl⟩
      go_wp2
      all_goals (go_ret; exact ⟨rfl, h, World.grownBy.refl _ _⟩)
    | true =>
      cases hbr : (st i).br with
      | true =>
        have e1 : brk n (st i) = (12, st i) := by simp [brk, hbr]
        rw [e1, upd_self]
        rw [hop] at x0
        rw [hbr] at x1
        go_enter Try.func28, Try.ntmps28
        go_wp2_with fail
        refine (there_in i hi _).mono ?_
        rintro e w1 ⟨rfl, rfl⟩
        go_wp2
        all_goals (go_ret; exact ⟨rfl, h, World.grownBy.refl _ _⟩)
      | false =>
        have e1 : brk n (st i) = (0, { st i with left := max n (-1) }) := by simp [brk, hop, hbr]
        rw [e1]
        rw [hop] at x0
        rw [hbr] at x1
        have hF := h
        clear h
        go_enter Try.func28, Try.ntmps28
        go_wp2_with fail
        refine (there_in i hi _).mono ?_
        rintro e w1 ⟨rfl, rfl⟩
        go_wp2
        all_goals
          go_ret
          refine ⟨rfl, ?_, only_set (World.grownBy.refl w (some r)) _ _⟩
          rw [strs_upd st i ⟨true, false, max n (-1), (st i).out⟩ rfl]
          have k := hF.set2 hi (max n (-1))
          simp only [hop, hbr] at k
          first
          | (rw [show max n (-1) = -1 by omega] at k ⊢; exact k)
          | (rw [show max n (-1) = n by omega] at k ⊢; exact k)

/-- k bytes of s are written. -/
def rst (p : PS) (s : ByteArray) (k : Nat) : PS := ⟨true, false, if p.left = -1 then -1 else p.left - k, p.out ++ s.extract 0 k⟩
theorem extract_step (s : ByteArray) (k : Nat) (h : k < s.size) : s.extract 0 k ++ s.extract k (k + 1) = s.extract 0 (k + 1) := by
  apply ByteArray.ext
  obtain ⟨d⟩ := s
  have h : k < d.size := h
  simp
theorem extract_all (s : ByteArray) : s.extract 0 s.size = s := by
  apply ByteArray.ext
  obtain ⟨d⟩ := s
  simp [ByteArray.size]
theorem extract_none (s : ByteArray) : s.extract 0 0 = ByteArray.empty := by
  apply ByteArray.ext
  obtain ⟨d⟩ := s
  simp
theorem rst_set1 {p : PS} {i : Nat} (hf : Four w r 39 (upd st i p) (strs (upd st i p))) (hi : i < 16) : Four (w.setCell ⟨r, i * 4 + 1, none⟩ (.bool true)) r 39 (upd st i { p with br := true }) (strs (upd st i { p with br := true })) := by
  have k := hf.set1 hi true
  rw [upd_same, upd_upd] at k
  rwa [show strs (upd st i { p with br := true }) = strs (upd st i p) from by rw [← upd_upd st i p, strs_upd (upd st i p) i { p with br := true } (by rw [upd_same])]]
theorem rst_set2 {p : PS} {i : Nat} (hf : Four w r 39 (upd st i p) (strs (upd st i p))) (hi : i < 16) (x : Int) : Four (w.setCell ⟨r, i * 4 + 2, none⟩ (.int .i64 x)) r 39 (upd st i { p with left := x }) (strs (upd st i { p with left := x })) := by
  have k := hf.set2 hi x
  rw [upd_same, upd_upd] at k
  rwa [show strs (upd st i { p with left := x }) = strs (upd st i p) from by rw [← upd_upd st i p, strs_upd (upd st i p) i { p with left := x } (by rw [upd_same])]]
theorem rst_set3 {p : PS} {i : Nat} (hf : Four w r 39 (upd st i p) (strs (upd st i p))) (hi : i < 16) (o : ByteArray) : Four (w.setCell ⟨r, i * 4 + 3, none⟩ (.string o)) r 39 (upd st i { p with out := o }) (strs (upd st i { p with out := o })) := by
  have k := hf.set3 hi (.string o) o
  rw [upd_same, upd_upd, strs_set (upd st i p) i { p with out := o } o rfl, upd_upd] at k
  exact k
theorem wri_all (p : PS) (s : ByteArray) (ho : p.op = true) (hb : p.br = false) (h : p.left = -1 ∨ (s.size : Int) ≤ p.left) : wri p s = (0, rst p s s.size) := by
  obtain ⟨o, b, l, x⟩ := p
  simp only at ho hb h
  subst ho hb
  unfold wri rst
  rw [extract_all]
  by_cases h1 : l = -1
  · subst h1; simp
  · have h2 : (s.size : Int) ≤ l := by omega
    simp [h1, h2]
theorem wri_part (p : PS) (s : ByteArray) (k : Nat) (ho : p.op = true) (hb : p.br = false) (h : p.left = k) (hk : k < s.size) : wri p s = (12, { rst p s k with br := true }) := by
  obtain ⟨o, b, l, x⟩ := p
  simp only at ho hb h
  subst ho hb h
  have h1 : ¬ ((k : Int) = -1) := by omega
  have h2 : ¬ ((s.size : Int) ≤ k) := by omega
  simp only [wri, rst, h1, h2, if_false]
  simp
theorem rWrite_live (h : Four w r 39 st (strs st)) (i : Nat) (s : ByteArray) (hi : i < 16) (hop : (st i).op = true) (hbr : (st i).br = false) (hl : -1 ≤ (st i).left ∧ (st i).left ≤ 9223372036854775807) (hsz : (st i).out.size + s.size ≤ limit) :
    Calls Try.prog 27 #[.pointer (some ⟨r, 0, none⟩), .int .i64 i, .string s] w fun e w' => e = .returned (.int .i64 (wri (st i) s).1) ∧ RefTo w w' r (upd st i (wri (st i) s).2) := by
  have x0 := h.c0 hi
  have x1 := h.c1 hi
  rw [hop] at x0
  rw [hbr] at x1
  have k1 : ¬ (i : Int) < 0 := by omega
  have k2 : (i : Int) < 16 := by omega
  simp only [limit] at hsz
  have hsl : s.size ≤ 9223372036854775807 := by omega
  have hlive : ((st i).op && !(st i).br) = true := by rw [hop, hbr]; rfl
  have start : Four w r 39 (upd st i (rst (st i) s 0)) (strs (upd st i (rst (st i) s 0))) := by
    have e : rst (st i) s 0 = st i := by
      unfold rst
      rw [extract_none]
      cases hp : st i with
      | mk o b l x =>
        rw [hp] at hop hbr
        simp only at hop hbr
        subst hop hbr
        simp
        omega
    rw [e, upd_self]
    exact h
  have p0 : (st i).left ≠ -1 → ∃ l : Nat, (st i).left = l := fun _ => ⟨(st i).left.toNat, by omega⟩
  go_enter Try.func27, Try.ntmps27
  go_wp2_with fail
  refine (there_in i hi _).mono ?_
  rintro e w1 ⟨rfl, rfl⟩
  go_wp2_with fail
  go_loopw [7] (fun x wr => ∃ k : Nat, x = .int .i64 k ∧ k ≤ s.size ∧ ((st i).left = -1 ∨ (k : Int) ≤ (st i).left) ∧ Four wr r 39 (upd st i (rst (st i) s k)) (strs (upd st i (rst (st i) s k))) ∧ w.grownBy wr (some r)) (fun x _ => s.size - (intOf x).toNat)
  case atStart => exact ⟨0, rfl, Nat.zero_le _, by omega, start, World.grownBy.refl _ _⟩
  case round =>
    clear x0 x1 start
    obtain ⟨k, rfl, hk, hkl, hf, hg⟩ := hrel
    have y1 := hf.c1 hi
    have y2 := hf.c2 hi
    have y3 := hf.c3 hi
    simp only [strs, upd_same, rst] at y1 y2 y3
    have g1 := hf.frozen (i * 4 + 1)
    have g2 := hf.frozen (i * 4 + 2)
    have g3 := hf.frozen (i * 4 + 3)
    by_cases hlt : k < s.size
    · have hlt' : (k : Int) < s.size := by omega
      have hacc : ((st i).out ++ s.extract 0 k).size = (st i).out.size + k := by simp; omega
      have hnext : ((st i).out ++ s.extract 0 k) ++ s.extract k (k + 1) = (st i).out ++ s.extract 0 (k + 1) := by rw [ByteArray.append_assoc, extract_step s k hlt]
      generalize hq : (st i).out ++ s.extract 0 k = acc at y3 hacc hnext
      have hk1 : k + 1 ≤ s.size := hlt
      have e3 : (s.extract k (k + 1)).size = 1 := by simp; omega
      have hsum : acc.size + (s.extract k (k + 1)).size ≤ 9223372036854775807 := by rw [e3]; omega
      by_cases hm : (st i).left = -1
      · rw [if_pos hm] at y2
        have hnew : Four (wr.setCell ⟨r, i * 4 + 3, none⟩ (.string ((st i).out ++ s.extract 0 (k + 1)))) r 39 (upd st i (rst (st i) s (k + 1))) (strs (upd st i (rst (st i) s (k + 1)))) := by
          have e : ({ rst (st i) s k with out := (st i).out ++ s.extract 0 (k + 1) } : PS) = rst (st i) s (k + 1) := by simp [rst, hm]
          rw [← e]
          exact rst_set3 hf hi ((st i).out ++ s.extract 0 (k + 1))
        go_wp2_with fail
        go_region
        go_wp2_with fail
        exact ⟨⟨k + 1, by simp, hk1, by omega, hnew.drew, only_drew (only_set hg _ _)⟩, by simp [intOf]; omega⟩
      · obtain ⟨l, hlv⟩ := p0 hm
        rw [if_neg hm, hlv] at y2
        rw [hlv] at hkl hl
        have hkl' : k ≤ l := by omega
        by_cases hkl2 : k = l
        · subst hkl2
          rw [show ((k : Int) - k) = 0 by omega] at y2
          have hnew := rst_set1 hf hi
          clear hf y3
          go_wp2_with fail
          all_goals (go_ret; rw [wri_part (st i) s k hop hbr hlv hlt]; exact ⟨rfl, hnew, only_set hg _ _⟩)
        · have z1 : ¬ ((l : Int) - k = 0) := by omega
          have z2 : (0 : Int) < l - k := by omega
          have z3 : IntKind.i64.wrap ((l : Int) - k - 1) = l - k - 1 := IntWalk.i64_in _ (by omega)
          go_wp2_with fail
          go_region
          go_wp2_with fail
          go_region
          have hnew : Four ((wr.setCell ⟨r, i * 4 + 2, none⟩ (.int .i64 ((l : Int) - k - 1))).setCell ⟨r, i * 4 + 3, none⟩ (.string ((st i).out ++ s.extract 0 (k + 1)))) r 39 (upd st i (rst (st i) s (k + 1))) (strs (upd st i (rst (st i) s (k + 1)))) := by
            have e : ({ ({ rst (st i) s k with left := (l : Int) - k - 1 } : PS) with out := (st i).out ++ s.extract 0 (k + 1) } : PS) = rst (st i) s (k + 1) := by
              have e0 : ((l : Int) - k - 1) = (l : Int) - ((k + 1 : Nat) : Int) := by omega
              have e1 : ¬ ((l : Int) = -1) := by omega
              simp only [rst, hlv, e1, if_false, e0]
            rw [← e]
            exact rst_set3 (rst_set2 hf hi ((l : Int) - k - 1)) hi ((st i).out ++ s.extract 0 (k + 1))
          go_wp2_with fail
          exact ⟨⟨k + 1, by simp, hk1, by omega, hnew.drew.drew, only_drew (only_drew (only_set (only_set hg _ _) _ _))⟩, by simp [intOf]; omega⟩
    · obtain rfl : k = s.size := by omega
      have hlt' : ¬ (s.size : Int) < s.size := by omega
      go_wp2
      all_goals (go_ret; rw [wri_all (st i) s hop hbr hkl]; exact ⟨rfl, hf, hg⟩)
end
end Go.Proofs.Ytdpjbkodenhelaa
