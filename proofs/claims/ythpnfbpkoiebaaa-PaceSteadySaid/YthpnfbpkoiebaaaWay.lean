/- PaceWay. -/
import Derived.Test.YthpnfbpkoiebaaaSame
import Derived.ChangeSlices
namespace Go.Proofs.Ythpnfbpkoiebaaa
open Go.RowKit PaceFl Go.Joins Go.ChangeShapes Go.WideShapes Go.ChangeAt
attribute [local go_sem ↓] Go.wp_at_zero Go.wp_at_succ
attribute [local go_sem] run_store_float

/-- A slice of integers that may be read: cell k, where k is below its length. -/
def IntsAt (w : World) (A : Option Addr) (n : Nat) : Prop := ∀ k, k < n → ∃ g o z, A = some ⟨g, o, none⟩ ∧ g < w.heap.size ∧ w.cell? ⟨g, o + k, none⟩ = some (.int .i64 z)
theorem ints_of {H : Type} {enc : TypeId × Value → H} {P : Program} {W : World} {base : Nat} {t e : TypeId} {v : Value} {d : DataW H} {p : List MemPlace} (ht : P.underlying t = some (.slice e)) (he : P.underlying e = some (.int .i64)) (hc : P.cellsOf e = 1)
    (hval : Value.okWide P W .any base t v) (h : DataW.Trod enc P W 0 (fun _ => true) true t v d p) : ∃ (A : Option Addr) (n c : Nat), v = .slice A n c ∧ n ≤ maxLen ∧ IntsAt W A n := by
  obtain ⟨a0, len, cap, rfl⟩ := okWide_slice ht hval
  obtain ⟨fuel, hf⟩ := h
  rcases open_ints ht he hc hf with ⟨hcs, _⟩ | ⟨a, len', cap', zs, hcs, _, hl, hm, hz, _, hcell, _⟩
  · simp [Value.cells] at hcs
    obtain ⟨rfl, rfl, rfl⟩ := hcs
    exact ⟨none, 0, 0, rfl, Nat.zero_le _, fun k hk => absurd hk (by omega)⟩
  · simp [Value.cells] at hcs
    obtain ⟨rfl, rfl, rfl⟩ := hcs
    refine ⟨some a, _, _, rfl, by omega, fun k hk => ?_⟩
    simp only [if_true] at hz
    obtain ⟨b, off, rfl, hcell'⟩ := ints_at hcell (by omega)
    have hck := hcell' k (by omega)
    exact ⟨b, off, _, rfl, World.block_lt_of_cell? W ⟨b, off + k, none⟩ hck, hck⟩

theorem hund_bd (z : Int) : 0 ≤ wrap64 ((IntKind.u64.wrap z).tmod 100) ∧ wrap64 ((IntKind.u64.wrap z).tmod 100) < 100 := by
  have h : 0 ≤ IntKind.u64.wrap z := by simp only [IntKind.wrap, IntKind.signed, IntKind.bits]; simp; omega
  rw [Int.tmod_eq_emod_of_nonneg h]
  generalize IntKind.u64.wrap z = y at *
  rw [IntWalk.wrap64_in _ ⟨by omega, by omega⟩]
  omega
/-- The level at N: so many halves of what it was at 0; and the time that it then bears. -/
def hAt (h : Int) (X : Nat) (N : Int) : Nat := halves (N / h).toNat X
def tAt (h N : Int) : Int := N / h * h
theorem level_on (g X : Nat) (h N M : Int) (h1 : 1 ≤ h) (n0 : 0 ≤ N) (nm : N ≤ M) (hM : M ≤ 1099511627776) : LevelF g (hAt h X N) (tAt h N) h M (hAt h X M) (tAt h M) := by
  have k0 : N / h * h ≤ N := Int.ediv_mul_le N (by omega)
  have d0 : 0 ≤ N / h := Int.ediv_nonneg n0 (by omega)
  have d1 : N / h ≤ M / h := Int.ediv_le_ediv (by omega) nm
  have e : stepsI (tAt h N) h M = (((M / h).toNat - (N / h).toNat : Nat) : Int) := by
    unfold stepsI tAt
    rw [show min (max M (N / h * h)) 1099511627776 - N / h * h = M + (-(N / h)) * h by rw [Int.neg_mul]; omega]
    rw [Int.add_mul_ediv_right _ _ (by omega)]
    omega
  have k := levelS g (hAt h X N) (tAt h N) h M _ (tAt h M) e (by
    unfold tAt
    rw [← Int.add_mul]
    congr 1
    omega)
  have e2 : halves ((M / h).toNat - (N / h).toNat) (hAt h X N) = hAt h X M := by
    unfold hAt
    rw [← halves_add]
    congr 1
    omega
  rwa [e2] at k
theorem at_zero (h : Int) (X : Nat) : hAt h X 0 = X ∧ tAt h 0 = 0 := by simp [hAt, tAt, halves]
def AddG (g : Nat) (X : Nat) (A h t : Int) (x L : Nat) : Prop :=
  ∀ W : World, PaceAt W g X A h → Calls Try.prog 10 #[.pointer (some ⟨g, 0, none⟩), .float .f64 x, .int .i64 t] W fun e w' => e = .returned (.float .f64 L) ∧ W.grownBy w' (some g)
theorem addG (g X : Nat) (A h t : Int) (x : Nat) (hx : x < 18446744073709551616) : AddG g X A h t x (lvl X A h t x) := fun W hW =>
  (add_any g X x A h t W hW hx).mono fun _ _ ⟨h1, _, h3⟩ => ⟨h1, h3⟩

def WayRel (w : World) (ga gb X : Nat) (h : Int) (n : Nat) (nv iv : Value) (wr : World) : Prop :=
  ∃ (k : Nat) (N : Int), k ≤ n ∧ k ≤ 60 ∧ iv = .int .i64 k ∧ nv = .int .i64 N ∧ 0 ≤ N ∧ N ≤ 99 * k ∧ PaceAt wr ga (hAt h X N) (tAt h N) h ∧ PaceAt wr gb X 0 h ∧ Below w.heap.size w wr

set_option maxRecDepth 100000 in
set_option maxHeartbeats 4000000 in
theorem way_any (half : Int) (x : Nat) (A : Option Addr) (n c : Nat) (w : World) (hx : x < 18446744073709551616) (hn : n ≤ 9223372036854775807) (hA : Hid (IntsAt w A n)) :
    Calls Try.prog 5 #[.int .i64 half, .float .f64 x, .slice A n c] w fun e w' => e = .returned (.bool true) ∧ Below w.heap.size w w' := by
  have hh := clampH_bd half
  go_enter Try.func5, Try.ntmps5
  go_wp2_with fail
  refine (lives_any _).mono ?_
  rintro e w1 ⟨rfl, B1⟩
  go_wp2_with fail
  refine (new_any half _).mono ?_
  rintro e w2 ⟨rfl, rfl⟩
  go_wp2_with fail
  refine (new_any half _).mono ?_
  rintro e w2 ⟨rfl, rfl⟩
  have q0 := pace_new w1 half
  have q1 := pace_new (w1.alloc (.cells (paceCells 0 0 (clampH half)) 48)) half
  simp only [World.size_alloc] at q1
  have hz : w.heap.size ≤ w1.heap.size := B1.size
  have B2 : Below w.heap.size w ((w1.alloc (.cells (paceCells 0 0 (clampH half)) 48)).alloc (.cells (paceCells 0 0 (clampH half)) 48)) := (B1.alloc B1.size _).alloc (by simp; omega) _
  have P0 := pace_alloc q0 (.cells (paceCells 0 0 (clampH half)) 48)
  have P1 := q1
  clear q0 q1 B1
  have HA0 := fun g => addF g x (clampH half) 0 hx
  rw [steps_zero _ hh.1, show (0 : Int) + ((0 : Nat) : Int) * clampH half = 0 by simp] at HA0
  have HA := Lib.hid HA0
  clear HA0
  generalize addV 0 x = X at *
  generalize clampH half = h at *
  go_wp2_with fail
  refine (HA.out _ _ P0).mono ?_
  rintro e w3 ⟨rfl, P0', g3⟩
  have Q1 := pace_keep (w' := w3) P1 g3 (by omega)
  have B3 := below_grown B2 g3 (by omega)
  clear P0 P1 g3 B2
  go_wp2_with fail
  refine (HA.out _ _ Q1).mono ?_
  rintro e w4 ⟨rfl, Q1', g4⟩
  have R0 := pace_keep P0' g4 (by omega)
  have B4 := below_grown B3 g4 (by omega)
  clear P0' Q1 g4 B3 HA
  go_wp2_with fail
  go_loopw [9, 10] (fun a i wr => WayRel w w1.heap.size (w1.heap.size + 1) X h n a i wr) (fun _ i _ => n - (intOf i).toNat)
  case atStart => exact ⟨0, 0, by omega, by omega, rfl, rfl, by omega, by omega, by rw [(at_zero h X).1, (at_zero h X).2]; exact R0, Q1', B4⟩
  case round =>
    obtain ⟨k, N, hk, hk6, rfl, rfl, N0, N1, PA, PB, BB⟩ := hrel
    by_cases hkn : k < n ∧ k < 60
    · obtain ⟨hkn, hk60⟩ := hkn
      obtain ⟨g, o, z, rfl, hg, hc⟩ := (show IntsAt w A n from hA) k hkn
      have hc' := (BB.cell (p := ⟨g, o + k, none⟩) hg).trans hc
      obtain ⟨d0, d1⟩ := hund_bd z
      go_wp2_with fail
      generalize wrap64 ((IntKind.u64.wrap z).tmod 100) = d at *
      have HL := Lib.hid (level_on w1.heap.size X h N (N + d) hh.1 N0 (by omega) (by omega))
      refine (HL.out _ PA).mono ?_
      rintro e w5 ⟨rfl, PA', g5⟩
      have PB' := pace_keep PB g5 (by omega)
      have B5 := below_grown BB g5 (by omega)
      go_wp2_with fail
      exact ⟨⟨k + 1, N + d, by omega, by omega, by simp, rfl, by omega, by omega, PA', PB', B5⟩, by simp [intOf]; omega⟩
    · have HLa := Lib.hid (level_on w1.heap.size X h N N hh.1 N0 (by omega) (by omega))
      have HLb0 := level_on (w1.heap.size + 1) X h 0 N hh.1 (by omega) N0 (by omega)
      rw [(at_zero h X).1, (at_zero h X).2] at HLb0
      have HLb := Lib.hid HLb0
      clear HLb0
      have HGa := Lib.hid (addG w1.heap.size (hAt h X N) (tAt h N) h (N + 1) 4613937818241073152 (by omega))
      have HGb := Lib.hid (addG (w1.heap.size + 1) (hAt h X N) (tAt h N) h (N + 1) 4613937818241073152 (by omega))
      generalize lvl (hAt h X N) (tAt h N) h (N + 1) 4613937818241073152 = L at *
      generalize hAt h X N = XN at *
      generalize tAt h N = TN at *
      by_cases hkn' : k < n
      · have h60 : k = 60 := by omega
        subst h60
        go_wp2_with fail
        refine (HLa.out _ PA).mono ?_
        rintro e w5 ⟨rfl, PA', g5⟩
        have PB' := pace_keep PB g5 (by omega)
        have B5 := below_grown BB g5 (by omega)
        clear PA PB BB g5 HLa
        go_wp2_with fail
        refine (HLb.out _ PB').mono ?_
        rintro e w6 ⟨rfl, PB2, g6⟩
        have PA2 := pace_keep PA' g6 (by omega)
        have B6 := below_grown B5 g6 (by omega)
        clear PA' PB' B5 g6 HLb
        go_wp2_with fail
        refine (same_self XN _).mono ?_
        rintro e w7 ⟨rfl, rfl⟩
        go_wp2_with fail
        refine (HGa.out _ PA2).mono ?_
        rintro e w8 ⟨rfl, g8⟩
        have PB3 := pace_keep PB2 g8 (by omega)
        have B8 := below_grown B6 g8 (by omega)
        clear PA2 PB2 B6 g8 HGa
        go_wp2_with fail
        refine (HGb.out _ PB3).mono ?_
        rintro e w9 ⟨rfl, g9⟩
        have B9 := below_grown B8 g9 (by omega)
        go_wp2_with fail
        refine (same_self L _).mono ?_
        rintro e w10 ⟨rfl, rfl⟩
        go_wp2
        go_ret
        exact ⟨rfl, B9⟩
      · obtain rfl : k = n := by omega
        go_wp2_with fail
        refine (HLa.out _ PA).mono ?_
        rintro e w5 ⟨rfl, PA', g5⟩
        have PB' := pace_keep PB g5 (by omega)
        have B5 := below_grown BB g5 (by omega)
        clear PA PB BB g5 HLa
        go_wp2_with fail
        refine (HLb.out _ PB').mono ?_
        rintro e w6 ⟨rfl, PB2, g6⟩
        have PA2 := pace_keep PA' g6 (by omega)
        have B6 := below_grown B5 g6 (by omega)
        clear PA' PB' B5 g6 HLb
        go_wp2_with fail
        refine (same_self XN _).mono ?_
        rintro e w7 ⟨rfl, rfl⟩
        go_wp2_with fail
        refine (HGa.out _ PA2).mono ?_
        rintro e w8 ⟨rfl, g8⟩
        have PB3 := pace_keep PB2 g8 (by omega)
        have B8 := below_grown B6 g8 (by omega)
        clear PA2 PB2 B6 g8 HGa
        go_wp2_with fail
        refine (HGb.out _ PB3).mono ?_
        rintro e w9 ⟨rfl, g9⟩
        have B9 := below_grown B8 g9 (by omega)
        go_wp2_with fail
        refine (same_self L _).mono ?_
        rintro e w10 ⟨rfl, rfl⟩
        go_wp2
        go_ret
        exact ⟨rfl, B9⟩
set_option maxRecDepth 100000 in
theorem paceWay_lifted (os : Os) (started : os.Started) (H : Type) (enc : TypeId × Value → H) :
    ReturnsInHanded {} Try.checked os 5 .any (Rows.paceWaySpec.pre6 enc Try.prog Try.f5 Rows.paceWayRow.domain false) (Rows.paceWaySpec.post enc Try.prog Try.f5 false true false false) := by
  refine returnsInHanded_of_change (C := Try.checked) Try.own started (by kernel_rfl) Try.func5
    (ChangeSpec.witness6 (enc := enc) (C := Try.checked) false ⟨#[], #[.int .i64 0, .float .f64 0, .slice none 0 0], []⟩ 8 (by kernel_rfl) (by kernel_rfl) (by kernel_rfl) (by kernel_rfl)) ?_
  intro W base args ds gs before hval0 hW hcnd _
  have hval : ∀ (j : Nat) t v, Try.f5.params[j]? = some t → args[j]? = some v → Value.okWide Try.prog W .any base t v := hval0
  have hW' := hW
  obtain ⟨p, q, hA0, hV, rfl, hfz, hnd⟩ := hW
  have hA : DataW.TrodAll enc Try.prog W 0 (fun _ => true) true Try.f5.params.toList args.toList ds p := hA0
  have hA1 := hA
  rw [Try.params5] at hA hval
  obtain ⟨v0, v1, v2, d0, d1, d2, p0, p1, p2, rfl, rfl, rfl, h0, h1, h2⟩ := trodAll_three hA
  obtain ⟨rfl, rfl⟩ := trodVars_none hV
  obtain ⟨half, rfl, rfl, rfl, wh⟩ := open_int Try.underlying3 (hval 0 3 v0 rfl rfl) h0
  obtain ⟨x, rfl, rfl, rfl, wx⟩ := open_float Try.underlying22 (hval 1 22 v1 rfl rfl) h1
  obtain ⟨A, n, c, rfl, hn, hi⟩ := ints_of Try.underlying36 Try.underlying3 (by kernel_rfl) (hval 2 36 v2 rfl rfl) h2
  have hx := wf64 wx
  clear hA0 hval0
  simp only [List.append_nil, List.nil_append] at hW' hA1
  refine (way_any half x A n c W hx (by unfold maxLen at hn; omega) hi).mono fun e W' ⟨he, hb⟩ => ?_
  subst he
  have hts : ∀ t ∈ Try.f5.params.toList, Try.prog.readableRec t = true ∧ t < Try.prog.types.size := by
    rw [Try.params5]
    intro t ht
    simp at ht
    rcases ht with rfl | rfl | rfl
    all_goals exact ⟨by kernel_rfl, of_decide_eq_true (by kernel_rfl)⟩
  exact ⟨_, rfl, post_of_below (pa := p2) (pv := []) hW' (fun _ _ _ => trodAll_mk1 (shut_bool Try.underlying4 _)) (fun sp hsp => trodAll_below Try.laidOut hb hts hA1 (fun x hx => ⟨hW'.lt x hx, hsp x hx⟩)) (fun _ _ => rfl) (by simp)
    hb (ok_one (by kernel_rfl) rfl (okWide_bool_mk Try.underlying4 _))⟩

theorem paceWay_holds : Rows.PaceWaySaid :=
  OpenClaim.holds_of_wide 5 Try.f5 rfl rfl rfl rfl rfl rfl rfl ⟨rfl, rfl, rfl, rfl, rfl⟩ rfl rfl rfl rfl rfl (by kernel_rfl) Try.func5 (by kernel_rfl)
    (of_decide_eq_true (by kernel_rfl)) (by unfold Func.isWrapper; first | (rw [if_pos (by decide +kernel)]; kernel_rfl) | (rw [if_neg (by decide +kernel)]; exact ⟨rfl, rfl⟩))
    (fun os started H enc _ => paceWay_lifted os started H enc)
#print axioms paceWay_holds
end Go.Proofs.Ythpnfbpkoiebaaa
