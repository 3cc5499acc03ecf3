/- Package wrap: Text: a number's digits, for every number. -/
import Derived.Test.YtlaahakobghmhaaDoorShelf
import Derived.Test.YtlaahakobghmhaaDoorC
import Derived.Lib.ItoaMem
import Derived.Lib.ItoaWalk
import Derived.Lib.AppendIntMem
import Derived.Laws.IdiomStrings
import Derived.Lib.LaidTab
import Derived.Stop.LaidErr
import Derived.Test.YtlaahakobghmhaaDoorLaw
namespace Go.Proofs.YtlaahakobghmhaaDoor
open Go Go.Shelf Go.RowKit Go.Sort Go.Lib
attribute [local go_sem ↓] Go.wp_at_zero Go.wp_at_succ

def digits (u : Nat) : ByteArray := ⟨(Lib.decDigits u).toArray⟩
theorem small_any (i : Nat) (h : i < 100) (w : World) : Calls Tryd.prog 27 #[.int .i64 i] w fun e w' => e = .returned (.string (digits i)) ∧ w = w' :=
  (Any.internal_strconv_small lays283 i h w).mono fun _ _ k => ⟨k.1, k.2.symm⟩
theorem numDigits_any (u : Nat) (h1 : 1 ≤ u) (h2 : u < 18446744073709551616) (w : World) (htab : Lib.TabIs Tryd.prog w "internal/strconv.uint64pow10" .u64 Lib.pow10Tab) :
    Calls Tryd.prog 28 #[.int .u64 u] w fun e w' => e = .returned (.int .i64 (Lib.nDigits u)) ∧ w = w' :=
  (Any.internal_strconv_numDigits lays284 u h1 h2 w htab).mono fun _ _ k => ⟨k.1, k.2.symm⟩
theorem base10_any (blk off cap : Nat) (u : Nat) (d : Array UInt8) (w : World) (hH : Holds (fun (b : UInt8) => Value.int .u8 (b.toNat : Int)) w blk off d) (hu : u < 10 ^ d.size) (hu64 : u < 18446744073709551616) (hsz : d.size < 4611686018427387904) :
    Calls Tryd.prog 29 #[.slice (some ⟨blk, off, none⟩) d.size cap, .int .u64 u] w fun e w' =>
      e = .returned (.tuple #[]) ∧ ∃ (n v' : Nat) (dk : Array UInt8), w' = (putRow (fun (b : UInt8) => Value.int .u8 (b.toNat : Int)) w blk off dk).drewN n ∧ FmtInv d.size u 0 v' dk :=
  Any.internal_strconv_formatBase10 lays285 blk off cap u d w hH hu hu64 hsz

theorem holds_zero0 (w : World) (T : TypeId) (nd : Nat) (hs : nd ≤ 24) : Holds (fun (b : UInt8) => Value.int .u8 (b.toNat : Int)) (w.alloc (.cells zeros24 T)) w.heap.size 0 (Array.replicate nd (0 : UInt8)) := fun j hj => by
  have hj' : j < nd := by simpa using hj
  refine ⟨?_, World.frozen?_alloc_new _ _ _ _⟩
  rw [World.cell?_alloc_new, zeros24_at _ (by omega), getElem!_pos _ j hj]
  simp
theorem fin_grown (w : World) (o : Obj) (dk : Array UInt8) (k : Nat) : w.grownBy ((putRow (fun (b : UInt8) => Value.int .u8 (b.toNat : Int)) (w.alloc o) w.heap.size 0 dk).drewN k) none := by
  rw [alloc_eq_grow]
  obtain ⟨os', _, e⟩ := putRow_grow_new (fun (b : UInt8) => Value.int .u8 (b.toNat : Int)) w #[o] w.heap.size 0 dk (Nat.le_refl _)
  rw [e]
  refine ⟨rfl, rfl, rfl, ?_, fun x hx _ => ?_⟩
  · show w.heap.size ≤ (w.heap ++ os').size
    simp
  · show (w.heap ++ os')[x]? = w.heap[x]?
    rw [Array.getElem?_append_left hx]
/-- The library's table of powers of ten. -/
def Pows (w : World) : Prop := Lib.TabIs Tryd.prog w "internal/strconv.uint64pow10" .u64 Lib.pow10Tab
theorem gPow : Tryd.prog.globalNamed "internal/strconv.uint64pow10" = some 0 := by kernel_rfl
theorem Pows.grown {w w' : World} (h : Pows w) (hg : w.grownBy w' none) : Pows w' := by
  unfold Pows Lib.TabIs World.var? at h ⊢
  rw [gPow] at h ⊢
  simp only [Option.bind_some] at h ⊢
  have hlt : 0 < w.heap.size := by
    rcases Nat.lt_or_ge 0 w.heap.size with h' | h'
    · exact h'
    · rw [Array.getElem?_eq_none h'] at h; cases h
  rw [hg.block 0 hlt (by simp)]
  exact h
theorem tPow : (Tryd.prog.globals[0]?).map (·.type) = some 53 := by kernel_rfl
theorem Pows.of_laid {W : World} (h : laidMetH Tryd.prog laid3 W) : Pows W := by
  rw [MakeChecks.laidMetH_plain _ _ _ (by kernel_rfl)] at h
  have h2 : laidMet Tryd.prog [("internal/strconv.uint64pow10", Rows.laid_internal_strconv_uint64pow10)] W := h.tail.tail
  exact Lib.tabIs_of_head gPow tPow Tryd.underlying53 Tryd.underlying41 (by kernel_rfl) (by kernel_rfl) h2

set_option maxHeartbeats 6400000 in
set_option maxRecDepth 100000 in
theorem fmt_big (u : Nat) (hs : 100 ≤ u) (hu64 : u < 18446744073709551616) (w : World) (htab : Pows w) :
    Calls Tryd.prog 26 #[.int .u64 u, .int .i64 10] w fun e w' => e = .returned (.string (digits u)) ∧ w.grownBy w' none := by
  have hu1 : 1 ≤ u := by omega
  have hnd20 : Lib.nDigits u ≤ 20 := by have := Lib.numDigits_eq u hu1 hu64; split at this <;> omega
  have hH0 := holds_zero0 w 46 (Lib.nDigits u) (by omega)
  have hfmt := base10_any w.heap.size 0 24 u (Array.replicate (Lib.nDigits u) 0) (w.alloc (.cells Lib.zeros24 46)) hH0 (by rw [Array.size_replicate]; exact Lib.lt_pow_nDigits u) hu64 (by rw [Array.size_replicate]; omega)
  rw [Array.size_replicate] at hfmt
  have HH0 := Lib.hid hH0
  have hnd := numDigits_any u hu1 hu64 (w.alloc (.cells Lib.zeros24 46)) (Lib.tabIs_alloc htab _)
  have hfmt := Lib.hid hfmt
  have hnd := Lib.hid hnd
  clear hH0
  have hlt : ¬ (u : Int) < 100 := by omega
  have hal : Tryd.prog.arrayLen 46 = 24 := by kernel_rfl
  have hsl : ∀ W, (Instr.sliceAt 46 (.pointer (some ⟨w.heap.size, 0, none⟩)) none (some (.int .i64 (Lib.nDigits u : Int))) none).run Tryd.prog W = .ok (.slice (some ⟨w.heap.size, 0, none⟩) (Lib.nDigits u) 24) W := fun W => by
    rw [run_sliceAt_array_h W 46 ⟨w.heap.size, 0, none⟩ (by kernel_rfl) .i64 (Lib.nDigits u : Int) (by omega) (by rw [hal]; omega)]
    go_simp
  go_enter Tryd.func26, Tryd.ntmps26
  go_wp2_with fail
  refine hnd.out.mono ?_
  rintro e w' ⟨rfl, rfl⟩
  go_wp2_with fail
  refine hfmt.out.mono ?_
  rintro e w' ⟨rfl, k, v', dk, rfl, hF⟩
  have hcv : (convert 42 9 (.slice (some ⟨w.heap.size, 0, none⟩) (Lib.nDigits u) 24)).run Tryd.prog ((putRow (fun (b : UInt8) => Value.int .u8 (b.toNat : Int)) (w.alloc (.cells Lib.zeros24 46)) w.heap.size 0 dk).drewN k) = .ok (.string (digits u)) ((putRow (fun (b : UInt8) => Value.int .u8 (b.toNat : Int)) (w.alloc (.cells Lib.zeros24 46)) w.heap.size 0 dk).drewN k) := by
    have h := run_convert_bytes_back (P := Tryd.prog) ((putRow (fun (b : UInt8) => Value.int .u8 (b.toNat : Int)) (w.alloc (.cells Lib.zeros24 46)) w.heap.size 0 dk).drewN k) 42 9 5 ⟨w.heap.size, 0, none⟩ 24 (Lib.decDigits u) u42 u5 u9 (fun j hj => by
      rw [Lib.row_is_numeral hF j hj, Lib.add_plain, World.cell?_drewN]
      exact cell?_putRow (fun (b : UInt8) => Value.int .u8 (b.toNat : Int)) _ w.heap.size 0 _ dk HH0.out (by rw [hF.size, Array.size_replicate]) j (by rw [hF.size]; rw [Lib.decDigits_length] at hj; exact hj))
    rw [Lib.decDigits_length] at h
    exact h
  have hg := fin_grown w (.cells Lib.zeros24 46) dk k
  generalize (putRow (fun (b : UInt8) => Value.int .u8 (b.toNat : Int)) (w.alloc (.cells Lib.zeros24 46)) w.heap.size 0 dk).drewN k = wq at *
  clear hF hfmt hnd HH0
  go_wp2
  all_goals (go_ret; exact ⟨rfl, hg⟩)
theorem fmt_small (i : Nat) (h : i < 100) (w : World) : Calls Tryd.prog 26 #[.int .u64 i, .int .i64 10] w fun e w' => e = .returned (.string (digits i)) ∧ w.grownBy w' none := by
  have A := Lib.hid (small_any i h)
  have h' : (i : Int) < 100 := by omega
  go_enter Tryd.func26, Tryd.ntmps26
  go_wp2_with fail
  refine (A.out _).mono ?_
  rintro e w1 ⟨rfl, rfl⟩
  go_wp2
  all_goals (go_ret; exact ⟨rfl, World.grownBy.refl _ _⟩)
/-- Text, of any number. -/
theorem text_any (x : Int) (hx : 0 ≤ x ∧ x < 4294967296) (w : World) (hp : Pows w) : Calls Tryd.prog 19 #[.int .u32 x] w fun e w' => e = .returned (.string (digits x.toNat)) ∧ w.grownBy w' none := by
  obtain ⟨u, rfl⟩ : ∃ u : Nat, x = u := ⟨x.toNat, by omega⟩
  rw [Int.toNat_natCast]
  refine text_lift u hx _ (fun w' => w.grownBy w' none) w ?_
  by_cases h : u < 100
  · exact fmt_small u h w
  · exact fmt_big u (by omega) (by omega) w hp
end Go.Proofs.YtlaahakobghmhaaDoor
