/- The document's Text and Span. -/
import Derived.Test.YtlaahakobghmhaaDoorBack
import Derived.Test.YtlaahakobghmhaaDoorSpan
import Derived.Test.YtlaahakobghmhaaDoorSteps
import Derived.Deep.RegionWith
import Derived.Deep.RegionLaw
namespace Go.Proofs.YtlaahakobghmhaaDoor
open Go Go.RowKit Go.Lib
attribute [local go_sem ↓] Go.wp_at_zero Go.wp_at_succ

theorem conv_one (W : World) (g : Nat) (x : UInt8) (h : W.heap[g]? = some (.cells #[.int .u8 (x.toNat : Int)] 5 (0, 0))) : (convert 42 9 (.slice (some ⟨g, 0, none⟩) 1 1)).run Tryd.prog W = .ok (.string ⟨#[x]⟩) W :=
  run_convert_bytes_back (P := Tryd.prog) W 42 9 5 ⟨g, 0, none⟩ 1 [x] u42 u5 u9 (fun j hj => by
    have hj0 : j = 0 := by simpa using hj
    subst hj0
    rw [Go.WideShapes.add_plain]
    exact cell_of_row W g 0 _ 5 (0, 0) h)
theorem digits_le (u : Nat) (hu : u < 18446744073709551616) : (digits u).size ≤ 20 := by
  have h1 := digits_size u
  have h2 := nDigits_le20 u hu
  have h3 := decDigits_length u
  omega
theorem digits_succ (u : Nat) (h : ¬ u < 10) : digits (u / 10) ++ ⟨#[UInt8.ofNat (48 + u % 10)]⟩ = digits u := by
  apply ByteArray.ext
  unfold digits
  rw [decDigits.eq_def u, dif_neg h]
  simp

theorem rtext_small (u : Nat) (h : u < 10) (w : World) : Calls Tryd.prog 21 #[.int .u32 u] w fun e w' => e = .returned (.string (digits u)) ∧ w.grownBy w' none := by
  have e0 : digits u = ⟨#[UInt8.ofNat (48 + u)]⟩ := by unfold digits; rw [decDigits, dif_pos h]
  rw [e0]
  have h' : (u : Int) < 10 := by omega
  have ex : ((UInt8.ofNat (48 + u)).toNat : Int) = 48 + u := by simp; omega
  have hcv := conv_one (w.alloc (.cells #[.int .u8 ((UInt8.ofNat (48 + u)).toNat : Int)] 5)) w.heap.size (UInt8.ofNat (48 + u)) (heap_alloc_new w _)
  rw [ex] at hcv
  generalize (⟨#[UInt8.ofNat (48 + u)]⟩ : ByteArray) = D at *
  clear e0 ex
  go_enter Tryd.func21, Tryd.ntmps21
  go_wp2
  all_goals (go_ret; exact ⟨rfl, World.grownBy_alloc w _ none⟩)

set_option maxHeartbeats 400000 in
theorem rtext_big (u : Nat) (h : ¬ u < 10) (hu : u < 4294967296) (IH : ∀ W, Calls Tryd.prog 21 #[.int .u32 ((u / 10 : Nat) : Int)] W fun e w' => e = .returned (.string (digits (u / 10))) ∧ W.grownBy w' none) (w : World) :
    Calls Tryd.prog 21 #[.int .u32 u] w fun e w' => e = .returned (.string (digits u)) ∧ w.grownBy w' none := by
  have h' : ¬ (u : Int) < 10 := by omega
  have hd := digits_le (u / 10) (by omega)
  have hs := digits_succ u h
  have ex : ((UInt8.ofNat (48 + u % 10)).toNat : Int) = 48 + (u % 10 : Nat) := by simp; omega
  have A : ∀ W : World, (convert 42 9 (.slice (some ⟨W.heap.size, 0, none⟩) 1 1)).run Tryd.prog (W.alloc (.cells #[.int .u8 (48 + (u % 10 : Nat))] 5)) = .ok (.string ⟨#[UInt8.ofNat (48 + u % 10)]⟩) (W.alloc (.cells #[.int .u8 (48 + (u % 10 : Nat))] 5)) := fun W => by
    have k := conv_one (W.alloc (.cells #[.int .u8 ((UInt8.ofNat (48 + u % 10)).toNat : Int)] 5)) W.heap.size (UInt8.ofNat (48 + u % 10)) (heap_alloc_new W _)
    rwa [ex] at k
  have B0 : ∀ w8 : World, w8.heap[w.heap.size]? = some (.cells #[.int .u8 (48 + (u % 10 : Nat))] 5 (0, 0)) → (convert 42 9 (.slice (some ⟨w.heap.size, 0, none⟩) 1 1)).run Tryd.prog w8 = .ok (.string ⟨#[UInt8.ofNat (48 + u % 10)]⟩) w8 := fun w8 hb => by
    refine conv_one w8 w.heap.size (UInt8.ofNat (48 + u % 10)) ?_
    rw [ex]
    exact hb
  have A1 := B0 (w.drew.alloc (.cells #[.int .u8 (48 + (u % 10 : Nat))] 5)) (heap_alloc_new w.drew _)
  have A2 := B0 (w.alloc (.cells #[.int .u8 (48 + (u % 10 : Nat))] 5)).drew (heap_alloc_new w _)
  have B1 : ∀ w8 : World, (w.drew.alloc (.cells #[.int .u8 (48 + (u % 10 : Nat))] 5)).grownBy w8 none → (convert 42 9 (.slice (some ⟨w.heap.size, 0, none⟩) 1 1)).run Tryd.prog w8 = .ok (.string ⟨#[UInt8.ofNat (48 + u % 10)]⟩) w8 := fun w8 hg => B0 w8 ((hg.block w.heap.size (by simp) (by simp)).trans (heap_alloc_new w.drew _))
  have B2 : ∀ w8 : World, (w.alloc (.cells #[.int .u8 (48 + (u % 10 : Nat))] 5)).drew.grownBy w8 none → (convert 42 9 (.slice (some ⟨w.heap.size, 0, none⟩) 1 1)).run Tryd.prog w8 = .ok (.string ⟨#[UInt8.ofNat (48 + u % 10)]⟩) w8 := fun w8 hg => B0 w8 ((hg.block w.heap.size (by simp) (by simp)).trans (heap_alloc_new w _))
  clear B0
  have e1 : (u : Int).tdiv 10 = ((u / 10 : Nat) : Int) := by rw [Int.tdiv_eq_ediv_of_nonneg (by omega)]; omega
  have e2 : (u : Int).tmod 10 = ((u % 10 : Nat) : Int) := by rw [Int.tmod_eq_emod_of_nonneg (by omega)]; omega
  have hm : ((u % 10 : Nat) : Int) < 10 := by omega
  have hv : ((u / 10 : Nat) : Int) < 4294967296 := by omega
  have hw4 : IntKind.u32.wrap (48 + ((u % 10 : Nat) : Int)) = 48 + ((u % 10 : Nat) : Int) := by rw [u32_mod]; omega
  have hw5 : IntKind.u8.wrap (48 + ((u % 10 : Nat) : Int)) = 48 + ((u % 10 : Nat) : Int) := IntWalk.u8_in _ (by omega)
  have hw : IntKind.u32.wrap ((u / 10 : Nat) : Int) = ((u / 10 : Nat) : Int) := by rw [u32_mod]; omega
  clear ex
  generalize hD : (⟨#[UInt8.ofNat (48 + u % 10)]⟩ : ByteArray) = D at *
  have hD1 : D.size = 1 := by rw [← hD]; rfl
  clear hD
  generalize hdg : digits (u / 10) = dg at *
  have hsum4 : ¬ 9223372036854775807 < dg.size + 1 := by omega
  clear hd
  generalize digits u = du at *
  generalize u / 10 = v at *
  generalize u % 10 = m at *
  have IH := Lib.hid IH
  have B1 := Lib.hid B1
  have B2 := Lib.hid B2
  clear hdg
  go_enter Tryd.func21, Tryd.ntmps21
  go_wp2_with fail
  go_region_law (first | (go_simp; go_at_call 21; refine (IH.out _).mono ?_; rintro e w8 ⟨rfl, h8⟩; first | (have h9 := B1.out _ h8) | (have h9 := B2.out _ h8) | skip))
  all_goals
    go_wp2
    go_ret
    first
    | exact ⟨rfl, grown_trans (grown_trans (grown_drew w) h8) (World.grownBy_alloc _ _ none)⟩
    | exact ⟨rfl, grown_trans (grown_trans (World.grownBy_alloc w _ none) (grown_drew _)) h8⟩
/-- The document's Text: the same digits. -/
theorem rtext_any (u : Nat) (hu : u < 4294967296) (w : World) : Calls Tryd.prog 21 #[.int .u32 u] w fun e w' => e = .returned (.string (digits u)) ∧ w.grownBy w' none := by
  induction u using Nat.strongRecOn generalizing w with
  | _ u ih =>
    by_cases h : u < 10
    · exact rtext_small u h w
    · exact rtext_big u h hu (fun W => ih (u / 10) (by omega) (by omega) W) w

theorem rspan_some (b o n c : Nat) (f : Nat → Int) (hn : n ≤ 9223372036854775807) (h1 : 1 ≤ n) (w : World) (h : NumsAt w (some ⟨b, o, none⟩) n f) :
    Calls Tryd.prog 23 #[.slice (some ⟨b, o, none⟩) n c] w fun e w' => e = .returned (.int .u32 (sp f n)) ∧ w.grownBy w' none := by
  go_enter Tryd.func23, Tryd.ntmps23
  go_wp2_with fail
  go_loopw [3, 4] (fun x i wr => ∃ k : Nat, 1 ≤ k ∧ k ≤ n ∧ i = .int .i64 k ∧ x = .int .i64 (sp f k) ∧ w.grownBy wr none) (fun _ i _ => n - (RowKit.intOf i).toNat)
  case atStart => exact ⟨1, by omega, h1, rfl, rfl, World.grownBy.refl _ _⟩
  case round =>
    obtain ⟨k, hk1, hk, rfl, rfl, hg⟩ := hrel
    have hs := sp_bd f k
    by_cases hlt : k < n
    · have hlt' : (k : Int) < n := by omega
      obtain ⟨b', o', hbo, _, hf, x0⟩ := h k hlt
      injection hbo with hbo
      injection hbo with e1 e2 e3
      subst e1 e2
      have hnext : sp f (k + 1) = min (sp f k + (f k - f (k - 1)) % 4294967296) 4294967295 := by
        show (if k = 0 then (0 : Int) else _) = _
        rw [if_neg (by omega)]
      obtain ⟨b'', o'', hbo', _, hf', y0⟩ := h (k - 1) (by omega)
      injection hbo' with hbo'
      injection hbo' with e1 e2 e4
      subst e1 e2
      have x0 := hg.cell x0 (by simp)
      have y0 := hg.cell y0 (by simp)
      have hd : 0 ≤ (f k - f (k - 1)) % 4294967296 ∧ (f k - f (k - 1)) % 4294967296 < 4294967296 := by omega
      have e5 : ((k : Int) - 1).toNat = k - 1 := by omega
      have A := fun W => rahead_any (f (k - 1)) (f k) hf' hf W
      have k1 : ¬ (k : Int) - 1 < 0 := by omega
      have k2 : (0 : Int) < k := by omega
      have k3 : (k : Int) - 1 < n := by omega
      generalize (f k - f (k - 1)) % 4294967296 = d at *
      generalize f k = fk at *
      generalize f (k - 1) = fk1 at *
      generalize sp f k = s0 at *
      have A := Lib.hid (quiet_of A wr)
      clear h hf hf'
      by_cases hm : s0 + d ≤ 4294967295
      · have hm2 : ¬ 4294967295 < s0 + d := by omega
        rw [show min (s0 + d) 4294967295 = s0 + d by omega] at hnext
        go_wp2_with fail
        go_quiet (first | (go_at_call 13; exact Calls.quiet_of_same (A.out _)))
        go_wp2
        exact ⟨⟨k + 1, by omega, by omega, by simp, by rw [hnext]; first | rfl | (congr 1; omega), grown_trans hg (grown_drewN _ _)⟩, by simp [RowKit.intOf]; omega⟩
      · have hm2 : 4294967295 < s0 + d := by omega
        rw [show min (s0 + d) 4294967295 = 4294967295 by omega] at hnext
        go_wp2_with fail
        go_quiet (first | (go_at_call 13; exact Calls.quiet_of_same (A.out _)))
        go_wp2
        exact ⟨⟨k + 1, by omega, by omega, by simp, by rw [hnext]; first | rfl | (congr 1; omega), grown_trans hg (grown_drewN _ _)⟩, by simp [RowKit.intOf]; omega⟩
    · obtain rfl : k = n := by omega
      have hlt' : ¬ (k : Int) < k := by omega
      go_wp2
      all_goals (go_ret; exact ⟨rfl, hg⟩)
theorem rspan_zero (A : Option Addr) (c : Nat) (w : World) :
    Calls Tryd.prog 23 #[.slice A 0 c] w fun e w' => e = .returned (.int .u32 0) ∧ w.grownBy w' none := by
  go_enter Tryd.func23, Tryd.ntmps23
  go_wp2_with fail
  go_loopw [3, 4] (fun x i wr => i = .int .i64 1 ∧ x = .int .i64 0 ∧ w.grownBy wr none) (fun _ i _ => 100 - (RowKit.intOf i).toNat)
  case atStart => exact ⟨rfl, rfl, World.grownBy.refl _ _⟩
  case round =>
    obtain ⟨rfl, rfl, hg⟩ := hrel
    go_wp2
    all_goals (go_ret; exact ⟨rfl, hg⟩)
theorem rspan_any (A : Option Addr) (n c : Nat) (f : Nat → Int) (hn : n ≤ 9223372036854775807) (w : World) (h : NumsAt w A n f) :
    Calls Tryd.prog 23 #[.slice A n c] w fun e w' => e = .returned (.int .u32 (sp f n)) ∧ w.grownBy w' none := by
  rcases Nat.eq_zero_or_pos n with rfl | h0
  · exact rspan_zero A c w
  · obtain ⟨b, o, rfl, _⟩ := h 0 h0
    exact rspan_some b o n c f hn h0 w h
end Go.Proofs.YtlaahakobghmhaaDoor
