/- WrapRound: by way of others it is as many steps on as on each way together. -/
import Derived.Test.YtlaahakobghmhaaDoorSpan
import Derived.OwnWalk
import Derived.Laws.AppendOwn
namespace Go.Proofs.YtlaahakobghmhaaDoor
open Go.RowKit
attribute [local go_sem ↓] Go.wp_at_zero Go.wp_at_succ

theorem u36 : Tryd.prog.underlying 36 = some (.slice 22) := by kernel_rfl
theorem info22 : (Tryd.prog.info? 22).map (fun i => (i.zero, i.size, i.bytes)) = some (some (.int .u32 0), 1, 4) := by kernel_rfl

def nn (z : Nat → Int) (k : Nat) : Int := wrap64 ((IntKind.u64.wrap (z k)).tmod 4294967296)
theorem nn_bd (z : Nat → Int) (k : Nat) : 0 ≤ nn z k ∧ nn z k < 4294967296 := by
  unfold nn
  have h0 : 0 ≤ IntKind.u64.wrap (z k) := by simp only [IntKind.wrap, IntKind.signed, IntKind.bits]; simp; omega
  rw [Int.tmod_eq_emod_of_nonneg h0]
  generalize IntKind.u64.wrap (z k) = y at *
  rw [IntWalk.wrap64_in _ ⟨by omega, by omega⟩]
  omega
/-- The steps, together. -/
def su (z : Nat → Int) : Nat → Int
  | 0 => 0
  | k + 1 => su z k + nn z k
theorem su_bd (z : Nat → Int) (k : Nat) : 0 ≤ su z k ∧ su z k ≤ 4294967296 * k := by
  induction k with
  | zero => simp [su]
  | succ k ih =>
    have := nn_bd z k
    simp only [su]
    omega
def fa (h : Int) (z : Nat → Int) (k : Nat) : Int := (h + su z k) % 4294967296
theorem fa_bd (h : Int) (z : Nat → Int) (k : Nat) : 0 ≤ fa h z k ∧ fa h z k < 4294967296 := by unfold fa; omega
theorem fa_succ (h : Int) (z : Nat → Int) (k : Nat) : (fa h z k + nn z k) % 4294967296 = fa h z (k + 1) := by
  simp only [fa, su]
  omega
theorem sp_fa (h : Int) (z : Nat → Int) (k : Nat) : sp (fa h z) (k + 1) = min (su z k) 4294967295 := by
  induction k with
  | zero => simp only [sp, su]; simp; omega
  | succ k ih =>
    have h1 : sp (fa h z) (k + 1 + 1) = min (sp (fa h z) (k + 1) + (fa h z (k + 1) - fa h z k) % 4294967296) 4294967295 := by
      show (if k + 1 = 0 then (0 : Int) else _) = _
      rw [if_neg (by omega)]
      rfl
    have h2 := nn_bd z k
    have h3 : (fa h z (k + 1) - fa h z k) % 4294967296 = nn z k := by
      simp only [fa, su]
      omega
    have h4 := su_bd z k
    rw [h1, ih, h3]
    simp only [su]
    omega
def vl (f : Nat → Int) : Nat → List Value
  | 0 => []
  | k + 1 => vl f k ++ [.int .u32 (f k)]
theorem vl_length (f : Nat → Int) (n : Nat) : (vl f n).length = n := by
  induction n with
  | zero => rfl
  | succ n ih => simp [vl, ih]
theorem vl_get (f : Nat → Int) (n : Nat) : ∀ k, k < n → (vl f n)[k]? = some (.int .u32 (f k)) := by
  induction n with
  | zero => intro k hk; omega
  | succ n ih =>
    intro k hk
    have hl := vl_length f n
    simp only [vl]
    rcases Nat.lt_or_ge k n with h | h
    · rw [List.getElem?_append_left (by omega)]; exact ih k h
    · obtain rfl : k = n := by omega
      rw [List.getElem?_append_right (by omega), hl, Nat.sub_self]
      rfl
theorem grown_own {a b c : World} {v : Value} (h : a.grownBy b none) (k : b.grownBy c v.ownBlock) (hv : ∀ x, v.ownBlock = some x → a.heap.size ≤ x) : a.grownBy c none :=
  ⟨k.os.trans h.os, k.tape.trans h.tape, k.output.trans h.output, Nat.le_trans h.size k.size, fun x hx _ => (k.block x (Nat.lt_of_lt_of_le hx h.size) (fun e => by have := hv x e.symm; omega)).trans (h.block x hx (by simp))⟩
theorem nums_own {w : World} {base : Nat} {v : Value} {n : Nat} {f : Nat → Int} (h : w.ownsRow base 22 1 v n (vl f n)) (hf : ∀ k, 0 ≤ f k ∧ f k < 4294967296) : ∃ A c, v = .slice A n c ∧ NumsAt w A n f := by
  rcases h.2 with ⟨rfl, rfl⟩ | ⟨b, cap, cur, rfl, hb, hg, _⟩
  · exact ⟨_, _, rfl, fun k hk => absurd hk (by omega)⟩
  · refine ⟨_, _, rfl, fun k hk => ⟨b, 0, rfl, (h.lt b rfl).2, hf k, ?_⟩⟩
    have hc := h.cells (g := b) rfl _ _ (vl_get f n k hk)
    rwa [Go.WideShapes.add_plain] at hc

/-- Numbers handed in. -/
def IntsAt (w : World) (A : Option Addr) (n : Nat) (z : Nat → Int) : Prop := ∀ k, k < n → ∃ (g o : Nat), A = some ⟨g, o, none⟩ ∧ g < w.heap.size ∧ w.cell? ⟨g, o + k, none⟩ = some (.int .i64 (z k))

set_option maxHeartbeats 8000000 in
set_option maxRecDepth 100000 in
theorem round_some (h : Int) (hh : 0 ≤ h ∧ h < 4294967296) (b o n c : Nat) (z : Nat → Int) (w : World) (hA : IntsAt w (some ⟨b, o, none⟩) n z) :
    Calls Tryd.prog 8 #[.int .u32 h, .slice (some ⟨b, o, none⟩) n c] w fun e w' => e = .returned (.bool true) ∧ w.grownBy w' none := by
  obtain ⟨i22, q1, q2, q3, q4⟩ := info_parts info22
  go_enter Tryd.func8, Tryd.ntmps8
  go_wp2_with fail
  refine (lives_any _).mono ?_
  rintro e w1 ⟨rfl, g1⟩
  have f0 : fa h z 0 = h := by simp only [fa, su]; omega
  have own0 : (w1.alloc (.cells #[.int .u32 h] 22)).ownsRow w.heap.size 22 1 (.slice (some ⟨w1.heap.size, 0, none⟩) 1 1) 1 (vl (fa h z) 1) :=
    ⟨rfl, .inr ⟨w1.heap.size, 1, _, rfl, g1.size, heap_alloc_new w1 _, Nat.le_refl _, by decide, rfl, by simp [vl, f0]⟩⟩
  have g2 := grown_trans g1 (World.grownBy_alloc w1 (.cells #[.int .u32 h] 22) none)
  go_wp2_with fail
  go_loopw [5, 6, 7, 8] (fun l s a i wr => ∃ k : Nat, k ≤ n ∧ k ≤ 60 ∧ i = .int .i64 k ∧ s = .int .i64 (su z k) ∧ a = .int .u32 (fa h z k) ∧ wr.ownsRow w.heap.size 22 1 l (k + 1) (vl (fa h z) (k + 1)) ∧ w.grownBy wr none) (fun _ _ _ i _ => 60 - (intOf i).toNat)
  case atStart => exact ⟨0, by omega, by omega, rfl, rfl, by rw [f0], own0, g2⟩
  case round =>
    clear own0 g2 g1
    obtain ⟨k, hk, hk60, rfl, rfl, rfl, hown, hgr⟩ := hrel
    have hs := su_bd z k
    have hf := fa_bd h z k
    by_cases hlt : k < n
    · by_cases h60 : k < 60
      · have hlt' : (k : Int) < n := by omega
        have h60' : (k : Int) < 60 := by omega
        obtain ⟨b', o', hbo, _, c0⟩ := hA k hlt
        injection hbo with hbo
        injection hbo with e1 e2 e3
        subst e1 e2
        have x0 := hgr.cell c0 (by simp)
        have hm := nn_bd z k
        have hmz : wrap64 ((IntKind.u64.wrap (z k)).tmod 4294967296) = nn z k := rfl
        have hfs := fa_succ h z k
        have hss : su z (k + 1) = su z k + nn z k := rfl
        have hvs : vl (fa h z) (k + 1 + 1) = vl (fa h z) (k + 1) ++ [.int .u32 (fa h z (k + 1))] := rfl
        have A := fun W => add_any (fa h z k) (nn z k) W
        rw [hfs] at A
        have hfb := fa_bd h z (k + 1)
        have hgz := hgr.size
        clear hfs c0
        generalize z k = zk at *
        generalize nn z k = m at *
        generalize su z k = s0 at *
        generalize ha1 : fa h z (k + 1) = a1 at *
        generalize fa h z k = a0 at *
        have A := Lib.hid A
        go_wp2_with fail
        refine (A.out _).mono ?_
        rintro e w2 ⟨rfl, rfl⟩
        go_wp2_with (at_builtin; refine wpList_append_own _ rfl _ _ 36 rfl w.heap.size 22 i22 (.int .u32 0) 1 4 Go.Proofs.YtlaahakobghmhaaDoor.u36 q1 q2 q3 q4 rfl (by decide) _ _ _ rfl (hown.alloc _) ⟨wr.heap.size, 0, none⟩ 1 1 [.int .u32 a1] rfl rfl ?c1 ?c2 ?c3 ?c4 ?c5 ?_)
        case c1 =>
          intro jj u hjj
          match jj, hjj with
          | 0, hjj => simp at hjj; subst hjj; simp [Addr.add]
        case c2 => intro u hu; simp at hu; subst hu; rfl
        case c3 => unfold maxLen; omega
        case c4 => omega
        case c5 => simp; omega
        · intro v' w10 hown' hgrow _
          have hgr1 : w.grownBy w10 none := grown_own (grown_trans hgr (World.grownBy_alloc wr _ none)) hgrow (fun x hx => (hown.lt x hx).1)
          rw [← hvs] at hown'
          clear hgrow hown hgr
          go_wp2
          exact ⟨⟨k + 1, by omega, by omega, by simp, by rw [hss], by rw [ha1], hown', hgr1⟩, by simp [intOf]; omega⟩
      · have hlt' : (k : Int) < n := by omega
        have h60' : ¬ (k : Int) < 60 := by omega
        have C1 := fun W => add_any h (su z k) W
        have C3 := fun W => add_any (fa h z k) (-(su z k)) W
        rw [show (h + su z k) % 4294967296 = fa h z k from rfl] at C1
        rw [show (fa h z k + -(su z k)) % 4294967296 = h by unfold fa; omega] at C3
        obtain ⟨A', c', rfl, hnums⟩ := nums_own hown (fa_bd h z)
        have C2 := span_any A' (k + 1) c' (fa h z) (by omega) wr hnums
        rw [sp_fa] at C2
        clear hnums hown f0 hA
        generalize fa h z k = a0 at *
        generalize su z k = s0 at *
        have C1 := Lib.hid C1
        have C2 := Lib.hid C2
        have C3 := Lib.hid C3
        by_cases hmx : s0 ≤ 4294967295
        · rw [show min s0 4294967295 = s0 by omega] at C2
          have hmx2 : ¬ 4294967295 < s0 := by omega
          go_wp2_with fail
          refine (C1.out _).mono ?_
          rintro e w3 ⟨rfl, rfl⟩
          go_wp2_with fail
          refine C2.out.mono ?_
          rintro e w3 ⟨rfl, rfl⟩
          go_wp2_with fail
          refine (C3.out _).mono ?_
          rintro e w3 ⟨rfl, rfl⟩
          go_wp2
          all_goals (go_ret; exact ⟨rfl, hgr⟩)
        · rw [show min s0 4294967295 = 4294967295 by omega] at C2
          have hmx2 : 4294967295 < s0 := by omega
          go_wp2_with fail
          refine (C1.out _).mono ?_
          rintro e w3 ⟨rfl, rfl⟩
          go_wp2_with fail
          refine C2.out.mono ?_
          rintro e w3 ⟨rfl, rfl⟩
          go_wp2_with fail
          refine (C3.out _).mono ?_
          rintro e w3 ⟨rfl, rfl⟩
          go_wp2
          all_goals (go_ret; exact ⟨rfl, hgr⟩)
    · have hlt' : ¬ (k : Int) < n := by omega
      have C1 := fun W => add_any h (su z k) W
      have C3 := fun W => add_any (fa h z k) (-(su z k)) W
      rw [show (h + su z k) % 4294967296 = fa h z k from rfl] at C1
      rw [show (fa h z k + -(su z k)) % 4294967296 = h by unfold fa; omega] at C3
      obtain ⟨A', c', rfl, hnums⟩ := nums_own hown (fa_bd h z)
      have C2 := span_any A' (k + 1) c' (fa h z) (by omega) wr hnums
      rw [sp_fa] at C2
      clear hnums hown f0 hA
      generalize fa h z k = a0 at *
      generalize su z k = s0 at *
      have C1 := Lib.hid C1
      have C2 := Lib.hid C2
      have C3 := Lib.hid C3
      by_cases hmx : s0 ≤ 4294967295
      · rw [show min s0 4294967295 = s0 by omega] at C2
        have hmx2 : ¬ 4294967295 < s0 := by omega
        go_wp2_with fail
        refine (C1.out _).mono ?_
        rintro e w3 ⟨rfl, rfl⟩
        go_wp2_with fail
        refine C2.out.mono ?_
        rintro e w3 ⟨rfl, rfl⟩
        go_wp2_with fail
        refine (C3.out _).mono ?_
        rintro e w3 ⟨rfl, rfl⟩
        go_wp2
        all_goals (go_ret; exact ⟨rfl, hgr⟩)
      · rw [show min s0 4294967295 = 4294967295 by omega] at C2
        have hmx2 : 4294967295 < s0 := by omega
        go_wp2_with fail
        refine (C1.out _).mono ?_
        rintro e w3 ⟨rfl, rfl⟩
        go_wp2_with fail
        refine C2.out.mono ?_
        rintro e w3 ⟨rfl, rfl⟩
        go_wp2_with fail
        refine (C3.out _).mono ?_
        rintro e w3 ⟨rfl, rfl⟩
        go_wp2
        all_goals (go_ret; exact ⟨rfl, hgr⟩)
set_option maxHeartbeats 8000000 in
set_option maxRecDepth 100000 in
theorem round_zero (h : Int) (hh : 0 ≤ h ∧ h < 4294967296) (A : Option Addr) (c : Nat) (z : Nat → Int) (w : World) :
    Calls Tryd.prog 8 #[.int .u32 h, .slice A 0 c] w fun e w' => e = .returned (.bool true) ∧ w.grownBy w' none := by
  go_enter Tryd.func8, Tryd.ntmps8
  go_wp2_with fail
  refine (lives_any _).mono ?_
  rintro e w1 ⟨rfl, g1⟩
  have f0 : fa h z 0 = h := by simp only [fa, su]; omega
  have own0 : (w1.alloc (.cells #[.int .u32 h] 22)).ownsRow w.heap.size 22 1 (.slice (some ⟨w1.heap.size, 0, none⟩) 1 1) 1 (vl (fa h z) 1) :=
    ⟨rfl, .inr ⟨w1.heap.size, 1, _, rfl, g1.size, heap_alloc_new w1 _, Nat.le_refl _, by decide, rfl, by simp [vl, f0]⟩⟩
  have g2 := grown_trans g1 (World.grownBy_alloc w1 (.cells #[.int .u32 h] 22) none)
  go_wp2_with fail
  go_loopw [5, 6, 7, 8] (fun l s a i wr => i = .int .i64 0 ∧ s = .int .i64 (su z 0) ∧ a = .int .u32 (fa h z 0) ∧ wr.ownsRow w.heap.size 22 1 l (0 + 1) (vl (fa h z) (0 + 1)) ∧ w.grownBy wr none) (fun _ _ _ i _ => 60 - (intOf i).toNat)
  case atStart => exact ⟨rfl, rfl, by rw [f0], own0, g2⟩
  case round =>
    clear own0 g2 g1
    obtain ⟨rfl, rfl, rfl, hown, hgr⟩ := hrel
    have hs := su_bd z 0
    have hf := fa_bd h z 0
    have C1 := fun W => add_any h (su z 0) W
    have C3 := fun W => add_any (fa h z 0) (-(su z 0)) W
    rw [show (h + su z 0) % 4294967296 = fa h z 0 from rfl] at C1
    rw [show (fa h z 0 + -(su z 0)) % 4294967296 = h by unfold fa; omega] at C3
    obtain ⟨A', c', rfl, hnums⟩ := nums_own hown (fa_bd h z)
    have C2 := span_any A' (0 + 1) c' (fa h z) (by omega) wr hnums
    rw [sp_fa] at C2
    clear hnums hown f0
    generalize fa h z 0 = a0 at *
    generalize su z 0 = s0 at *
    have C1 := Lib.hid C1
    have C2 := Lib.hid C2
    have C3 := Lib.hid C3
    by_cases hmx : s0 ≤ 4294967295
    · rw [show min s0 4294967295 = s0 by omega] at C2
      have hmx2 : ¬ 4294967295 < s0 := by omega
      go_wp2_with fail
      refine (C1.out _).mono ?_
      rintro e w3 ⟨rfl, rfl⟩
      go_wp2_with fail
      refine C2.out.mono ?_
      rintro e w3 ⟨rfl, rfl⟩
      go_wp2_with fail
      refine (C3.out _).mono ?_
      rintro e w3 ⟨rfl, rfl⟩
      go_wp2
      all_goals (go_ret; exact ⟨rfl, hgr⟩)
    · rw [show min s0 4294967295 = 4294967295 by omega] at C2
      have hmx2 : 4294967295 < s0 := by omega
      go_wp2_with fail
      refine (C1.out _).mono ?_
      rintro e w3 ⟨rfl, rfl⟩
      go_wp2_with fail
      refine C2.out.mono ?_
      rintro e w3 ⟨rfl, rfl⟩
      go_wp2_with fail
      refine (C3.out _).mono ?_
      rintro e w3 ⟨rfl, rfl⟩
      go_wp2
      all_goals (go_ret; exact ⟨rfl, hgr⟩)
theorem round_any (h : Int) (hh : 0 ≤ h ∧ h < 4294967296) (A : Option Addr) (n c : Nat) (z : Nat → Int) (w : World) (hA : IntsAt w A n z) :
    Calls Tryd.prog 8 #[.int .u32 h, .slice A n c] w fun e w' => e = .returned (.bool true) ∧ w.grownBy w' none := by
  rcases Nat.eq_zero_or_pos n with rfl | h0
  · exact round_zero h hh A c z w
  · obtain ⟨b, o, rfl, _⟩ := hA 0 h0
    exact round_some h hh b o n c z w hA
end Go.Proofs.YtlaahakobghmhaaDoor
