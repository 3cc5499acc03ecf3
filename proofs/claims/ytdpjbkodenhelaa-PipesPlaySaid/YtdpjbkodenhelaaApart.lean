/- PipesApart: two connections don't touch one another. No condition. -/
import Derived.Test.YtdpjbkodenhelaaN
import Derived.Test.YtdpjbkodenhelaaNil
namespace Go.Proofs.Ytdpjbkodenhelaa
open Go.RowKit Go.Lib Go.Joins Go.ChangeShapes Go.WideShapes Go.ChangeAt
attribute [local go_sem ↓] Go.wp_at_zero Go.wp_at_succ

theorem T2.all {a w0 w : World} {g1 g2 : Nat} {s1 s2 : Nat → PS} (h : T2 w0 (fun x => x = g1) (fun x => x = g2) w g1 s1 g2 s2) (k : a.grownBy w0 none) (h1 : a.heap.size ≤ g1) (h2 : a.heap.size ≤ g2) : a.grownBy w none := by
  obtain ⟨F1, F2, _, _, _, _, _, h6⟩ := h
  exact ⟨h6.os.trans k.os, h6.tape.trans k.tape, h6.output.trans k.output, Nat.le_trans k.size h6.size, fun x hx _ => (h6.block x (Nat.lt_of_lt_of_le hx k.size) (fun c => by rcases c with c | c <;> omega)).trans (k.block x hx (by simp))⟩

set_option maxHeartbeats 8000000 in
set_option maxRecDepth 100000 in
theorem apart_any (A : Option Addr) (m c : Nat) (f : Nat → OpD) (B : Option Addr) (m2 c2 : Nat) (f2 : Nat → OpD) (w : World) (hA : OpsAt w A m f) (hB : OpsAt w B m2 f2) (nA : ∀ k, (f k).n ≤ 9223372036854775807) (nB : ∀ k, (f2 k).n ≤ 9223372036854775807) :
    Calls Try.prog 6 #[.slice A m c, .slice B m2 c2] w fun e w' => e = .returned (.bool true) ∧ w.grownBy w' none := by
  go_enter Try.func6, Try.ntmps6
  go_wp2_with fail
  refine (lives_any _).mono ?_
  rintro e w1 ⟨rfl, y1⟩
  go_wp2_with fail
  refine (New_any w1).mono ?_
  rintro e w2 ⟨rfl, p1, y2⟩
  go_wp2_with fail
  refine (New_any w2).mono ?_
  rintro e w3 ⟨rfl, p2, y3⟩
  have l1 := p1.lt _ rfl
  have l2 := p2.lt _ rfl
  have z1 := y1.size
  have p1 := p1.grown y3
  generalize w1.heap.size = g1 at *
  generalize w2.heap.size = g2 at *
  have y3 := grown_trans (grown_trans y1 y2) y3
  clear y1 y2
  go_wp2_with fail
  refine (early_any A m c w3 f (hA.grown y3)).mono ?_
  rintro e w4 ⟨va, rfl, oa, y4⟩
  go_wp2_with fail
  have y4' := grown_trans y3 y4
  refine (early_any B m2 c2 w4 f2 (hB.grown y4')).mono ?_
  rintro e w5 ⟨vb, rfl, ob, y5⟩
  have oa := oa.kept y5 (by cases hv : va.ownBlock <;> simp)
  have z3 := y3.size
  have z4 := y4.size
  have z5 := y5.size
  have y6 := grown_trans y4' y5
  have p1 := (p1.grown y4).grown y5
  have p2 := (p2.grown y4).grown y5
  have hT : T2 w5 (fun x => x = g1) (fun x => x = g2) w5 g1 st0 g2 st0 := ⟨_, _, p1, p2, fun x a b => by omega, fun x a => .inl a, fun x a => .inl a, Keeps.refl w5 _⟩
  obtain ⟨A', ca, rfl, ra⟩ := own_rows oa
  obtain ⟨B', cb, rfl, rb⟩ := own_rows ob
  have ma100 : min m 100 ≤ 100 := Nat.min_le_right _ _
  have mb100 : min m2 100 ≤ 100 := Nat.min_le_right _ _
  generalize min m 100 = ma at *
  generalize min m2 100 = mb at *
  have hg1 : w.heap.size ≤ g1 := z1
  have hg2 : g1 < g2 := by omega
  have rb : RowAt w5 B' mb (fun k => (f2 k).cut) w3.heap.size := fun k hk => by
    obtain ⟨b, e, h1, h2⟩ := rb k hk
    exact ⟨b, e, by omega, h2⟩
  clear oa ob y4 y5 y4' y3 p1 p2 hA hB z1 z3 z4 z5
  go_wp2_with fail
  go_loopw [7] (fun i wr => ∃ (k : Nat) (s1 s2 : Nat → PS), i = .int .i64 k ∧ k ≤ 100 ∧ s1 1 = s2 1 ∧ (∀ j, j < 16 → (s1 j).out.size ≤ 80 * k) ∧ (∀ j, j < 16 → (s2 j).out.size ≤ 80 * k) ∧ T2 w5 (fun x => x = g1) (fun x => x = g2) wr g1 s1 g2 s2) (fun i _ => 100 - (intOf i).toNat)
  case atStart => exact ⟨0, st0, st0, rfl, by omega, rfl, fun j _ => Nat.le_refl _, fun j _ => Nat.le_refl _, hT⟩
  case round =>
    clear hT
    obtain ⟨k, s1, s2, rfl, hk, hs, hz1, hz2, hT⟩ := hrel
    have ra' : RowAt wr A' ma (fun k => (f k).cut) w3.heap.size := ra.keeps (fun b h1 h2 => hT.block b h2 (by omega) (by omega)) (by obtain ⟨_, _, _, _, _, _, _, h6⟩ := hT; exact h6.size)
    by_cases ha : k < ma
    · obtain ⟨b, hb0, hb1, hb2, x0, x1, x2, x3⟩ := ra' k ha
      subst hb0
      have hcut := (f k).cut_le
      have hn := nA k
      have hk2 : (k : Int) < ma := by omega
      have en : (f k).cut.n = (f k).n := rfl
      rw [← en] at hn
      dsimp only at x0 x1 x2 x3
      generalize (f k).cut = op at *
      obtain ⟨ok, oid, on, os⟩ := op
      dsimp only at *
      clear en
      have YA := World.grownBy_alloc wr (.cells #[.int .i64 ok, .int .i64 1, .int .i64 on, .string os] 43) none
      have BA := Blk.new wr 43 #[.int .i64 ok, .int .i64 1, .int .i64 on, .string os]
      obtain ⟨Q1, Q2, hq, k1, k2, kk⟩ := hT.base_new YA
      generalize hw1 : wr.alloc (.cells #[.int .i64 ok, .int .i64 1, .int .i64 on, .string os] 43) = wq at hq kk BA
      go_wp2_with fail
      have l3 : wr.heap.size < wq.heap.size := BA.lt
      have FB := Lib.hid (fun (w' : World) (t t' : Nat → PS) (h : T2 wq Q1 Q2 w' g1 t g2 t') => (by
        have hb := h.block wr.heap.size l3 (fun q => by have := (k1 _ q).2; omega) (fun q => by have := (k2 _ q).2; omega)
        have B2 : Blk w' wr.heap.size 43 #[.int .i64 ok, .int .i64 1, .int .i64 on, .string os] := hb.trans BA
        exact ⟨B2.cell 0, B2.cell 1, B2.cell 2, B2.cell 3⟩ : w'.cell? ⟨wr.heap.size, 0, none⟩ = some (.int .i64 ok) ∧ w'.cell? ⟨wr.heap.size, 1, none⟩ = some (.int .i64 1) ∧ w'.cell? ⟨wr.heap.size, 2, none⟩ = some (.int .i64 on) ∧ w'.cell? ⟨wr.heap.size, 3, none⟩ = some (.string os)))
      have hq1 := sps_le ok on os (s1 1)
      have hlim1 : ∀ j, j < 16 → (s1 j).out.size + os.size ≤ limit := fun j hj => by have := hz1 j hj; unfold limit; omega
      have hlim2 : ∀ j, j < 16 → (s2 j).out.size + os.size ≤ limit := fun j hj => by have := hz2 j hj; unfold limit; omega
      have C1 := Lib.hid (fun (w' : World) (h : T2 wq Q1 Q2 w' g1 s1 g2 s2) => h.does ok on 1 (by decide) os hn hlim1)
      have C2 := Lib.hid (fun (w' : World) (h : T2 wq Q1 Q2 w' g1 (upd s1 1 (sps ok on os (s1 1)).2) g2 s2) => h.symm.does ok on 1 (by decide) os hn hlim2)
      rw [← hs] at C2
      have hz1' := upd_size s1 1 (sps ok on os (s1 1)).2 (80 * k + 40) (fun j hj => by have := hz1 j hj; omega) (by have := hz1 1 (by decide); omega)
      have hz2' := upd_size s2 1 (sps ok on os (s1 1)).2 (80 * k + 40) (fun j hj => by have := hz2 j hj; omega) (by have := hz1 1 (by decide); omega)
      generalize (sps ok on os (s1 1)).1 = r at *
      generalize hp : (sps ok on os (s1 1)).2 = pq at *
      clear hw1 x0 x1 x2 x3 ra' hq1 YA
      go_region_held3 (fun w' => w'.cell? ⟨wr.heap.size, 0, none⟩ = some (.int .i64 ok) ∧ w'.cell? ⟨wr.heap.size, 1, none⟩ = some (.int .i64 1) ∧ w'.cell? ⟨wr.heap.size, 2, none⟩ = some (.int .i64 on) ∧ w'.cell? ⟨wr.heap.size, 3, none⟩ = some (.string os)) (first | exact FB.out _ _ _ (by assumption) | exact FB.out _ _ _ (T2.drew (by assumption)) | exact FB.out _ _ _ (T2.symm (by assumption)))
        (first | (go_at_call_of 17 (Value.pointer (some (Addr.mk g1 0 none))); refine (C1.out _ (by first | assumption | exact T2.drew (by assumption))).mono ?_; rintro e w8 ⟨rfl, h8⟩) | (go_at_call_of 17 (Value.pointer (some (Addr.mk g2 0 none))); refine (C2.out _ (by first | assumption | exact T2.drew (by assumption))).mono ?_; rintro e w9 ⟨rfl, h9⟩))
      have hT' := T2.join (T2.symm h9) (fun x q => (k1 x q).1) (fun x q => (k2 x q).1) kk
      have hs' : upd s1 1 pq 1 = upd s2 1 pq 1 := by rw [upd_same, upd_same]
      clear hp C1 C2 FB h8 h9 hlim1 hlim2 k1 k2 kk hq BA
      generalize upd s1 1 pq = t1 at *
      generalize upd s2 1 pq = t2 at *
      by_cases hb : k < mb
      · obtain ⟨b2, hb0, hb1, hb2, x0, x1, x2, x3⟩ := (rb.keeps (fun b h1 h2 => hT'.block b h2 (by omega) (by omega)) (by obtain ⟨_, _, _, _, _, _, _, h6⟩ := hT'; exact h6.size) : RowAt w9 B' mb (fun k => (f2 k).cut) w3.heap.size) k hb
        subst hb0
        have hcut2 := (f2 k).cut_le
        have hn2 := nB k
        have hk3 : (k : Int) < mb := by omega
        have en : (f2 k).cut.n = (f2 k).n := rfl
        rw [← en] at hn2
        dsimp only at x0 x1 x2 x3
        generalize (f2 k).cut = op2 at *
        obtain ⟨pk, pid, pn, psz⟩ := op2
        dsimp only at *
        clear en
        have hq2 := sps_le pk pn psz (t1 2)
        have hlim3 : ∀ j, j < 16 → (t1 j).out.size + psz.size ≤ limit := fun j hj => by have := hz1' j hj; unfold limit; omega
        have C3 := (hT'.grown (World.grownBy_alloc w9 (.cells #[.int .i64 pk, .int .i64 2, .int .i64 pn, .string psz] 43) none)).does pk pn 2 (by decide) psz hn2 hlim3
        have hz3 := upd_size t1 2 (sps pk pn psz (t1 2)).2 (80 * (k + 1)) (fun j hj => by have := hz1' j hj; omega) (by have := hz1' 2 (by decide); omega)
        have hs3 : upd t1 2 (sps pk pn psz (t1 2)).2 1 = t2 1 := by rw [upd_other _ _ _ _ (by decide)]; exact hs'
        generalize (sps pk pn psz (t1 2)).1 = r2 at *
        generalize upd t1 2 (sps pk pn psz (t1 2)).2 = t3 at *
        go_wp2_with fail
        refine C3.mono ?_
        rintro e w10 ⟨rfl, h10⟩
        go_wp2
        exact ⟨⟨k + 1, t3, t2, by simp, by omega, hs3, hz3, fun j hj => by have := hz2' j hj; omega, h10⟩, by simp [intOf]; omega⟩
      · have hk3 : ¬ (k : Int) < mb := by omega
        go_wp2
        exact ⟨⟨k + 1, t1, t2, by simp, by omega, hs', fun j hj => by have := hz1' j hj; omega, fun j hj => by have := hz2' j hj; omega, hT'⟩, by simp [intOf]; omega⟩
    · have hk2 : ¬ (k : Int) < ma := by omega
      have hz1' : ∀ j, j < 16 → (s1 j).out.size ≤ 80 * k + 40 := fun j hj => by have := hz1 j hj; omega
      have hz2' : ∀ j, j < 16 → (s2 j).out.size ≤ 80 * k + 40 := fun j hj => by have := hz2 j hj; omega
      have hT' := hT
      have hs' := hs
      clear hz1 hz2 hT ra' hs
      generalize s1 = t1 at *
      generalize s2 = t2 at *
      by_cases hb : k < mb
      · obtain ⟨b2, hb0, hb1, hb2, x0, x1, x2, x3⟩ := (rb.keeps (fun b h1 h2 => hT'.block b h2 (by omega) (by omega)) (by obtain ⟨_, _, _, _, _, _, _, h6⟩ := hT'; exact h6.size) : RowAt wr B' mb (fun k => (f2 k).cut) w3.heap.size) k hb
        subst hb0
        have hcut2 := (f2 k).cut_le
        have hn2 := nB k
        have hk3 : (k : Int) < mb := by omega
        have en : (f2 k).cut.n = (f2 k).n := rfl
        rw [← en] at hn2
        dsimp only at x0 x1 x2 x3
        generalize (f2 k).cut = op2 at *
        obtain ⟨pk, pid, pn, psz⟩ := op2
        dsimp only at *
        clear en
        have hq2 := sps_le pk pn psz (t1 2)
        have hlim3 : ∀ j, j < 16 → (t1 j).out.size + psz.size ≤ limit := fun j hj => by have := hz1' j hj; unfold limit; omega
        have C3 := (hT'.grown (World.grownBy_alloc wr (.cells #[.int .i64 pk, .int .i64 2, .int .i64 pn, .string psz] 43) none)).does pk pn 2 (by decide) psz hn2 hlim3
        have hz3 := upd_size t1 2 (sps pk pn psz (t1 2)).2 (80 * (k + 1)) (fun j hj => by have := hz1' j hj; omega) (by have := hz1' 2 (by decide); omega)
        have hs3 : upd t1 2 (sps pk pn psz (t1 2)).2 1 = t2 1 := by rw [upd_other _ _ _ _ (by decide)]; exact hs'
        generalize (sps pk pn psz (t1 2)).1 = r2 at *
        generalize upd t1 2 (sps pk pn psz (t1 2)).2 = t3 at *
        go_wp2_with fail
        refine C3.mono ?_
        rintro e w10 ⟨rfl, h10⟩
        go_wp2
        exact ⟨⟨k + 1, t3, t2, by simp, by omega, hs3, hz3, fun j hj => by have := hz2' j hj; omega, h10⟩, by simp [intOf]; omega⟩
      · have hk3 : ¬ (k : Int) < mb := by omega
        have O1 := Lib.hid (hT'.out 1 (by decide))
        have O2 := Lib.hid (hT'.symm.out 1 (by decide))
        have I1 := Lib.hid (hT'.is_ 1 (by decide))
        have I2 := Lib.hid (hT'.symm.is_ 1 (by decide))
        have V1 := Lib.hid (hT'.whole 1 (by decide))
        have V2 := Lib.hid (hT'.symm.whole 1 (by decide))
        have L1 := Lib.hid (hT'.close 1 (by decide))
        rw [← hs'] at O2 I2 V2
        have co : (cls (t1 1)).2.out = (t1 1).out := by unfold cls; by_cases h : (t1 1).op = true <;> simp [h]
        have cc : (cls (t1 1)).2.op = false := by unfold cls; by_cases h : (t1 1).op = true <;> simp [h]
        generalize (cls (t1 1)).1 = rc at *
        generalize (cls (t1 1)).2 = pc at *
        generalize ((t1 1).op && !(t1 1).br) = wb at *
        generalize (t1 1).op = ob at *
        go_wp2_with fail
        refine O1.out.mono ?_
        rintro e w10 ⟨rfl, rfl⟩
        go_wp2_with fail
        refine O2.out.mono ?_
        rintro e w10 ⟨rfl, rfl⟩
        cases ob
        · go_wp2_with fail
          refine I1.out.mono ?_
          rintro e w10 ⟨rfl, rfl⟩
          go_wp2_with fail
          refine I2.out.mono ?_
          rintro e w10 ⟨rfl, rfl⟩
          cases wb
          · go_wp2_with fail
            refine V1.out.mono ?_
            rintro e w10 ⟨rfl, rfl⟩
            go_wp2_with fail
            refine V2.out.mono ?_
            rintro e w10 ⟨rfl, rfl⟩
            go_wp2_with fail
            refine L1.out.mono ?_
            rintro e w11 ⟨rfl, h11⟩
            have O3 := h11.out 1 (by decide)
            rw [upd_same, co] at O3
            go_wp2_with fail
            refine O3.mono ?_
            rintro e w12 ⟨rfl, rfl⟩
            have O4 := h11.open_ 1 (by decide)
            rw [upd_same, upd_upd, show opn pc = (0, ⟨true, false, -1, ByteArray.empty⟩) from by simp [opn, cc]] at O4
            go_wp2_with fail
            refine O4.mono ?_
            rintro e w13 ⟨rfl, h13⟩
            have O5 := h13.out 1 (by decide)
            rw [upd_same, show (PS.mk true false (-1) ByteArray.empty).out = ⟨#[]⟩ from rfl] at O5
            go_wp2_with fail
            refine O5.mono ?_
            rintro e w14 ⟨rfl, rfl⟩
            go_wp2
            all_goals (go_ret; exact ⟨rfl, h13.all y6 (by omega) (by omega)⟩)
          · go_wp2_with fail
            refine V1.out.mono ?_
            rintro e w10 ⟨rfl, rfl⟩
            go_wp2_with fail
            refine V2.out.mono ?_
            rintro e w10 ⟨rfl, rfl⟩
            go_wp2_with fail
            refine L1.out.mono ?_
            rintro e w11 ⟨rfl, h11⟩
            have O3 := h11.out 1 (by decide)
            rw [upd_same, co] at O3
            go_wp2_with fail
            refine O3.mono ?_
            rintro e w12 ⟨rfl, rfl⟩
            have O4 := h11.open_ 1 (by decide)
            rw [upd_same, upd_upd, show opn pc = (0, ⟨true, false, -1, ByteArray.empty⟩) from by simp [opn, cc]] at O4
            go_wp2_with fail
            refine O4.mono ?_
            rintro e w13 ⟨rfl, h13⟩
            have O5 := h13.out 1 (by decide)
            rw [upd_same, show (PS.mk true false (-1) ByteArray.empty).out = ⟨#[]⟩ from rfl] at O5
            go_wp2_with fail
            refine O5.mono ?_
            rintro e w14 ⟨rfl, rfl⟩
            go_wp2
            all_goals (go_ret; exact ⟨rfl, h13.all y6 (by omega) (by omega)⟩)
        · go_wp2_with fail
          refine I1.out.mono ?_
          rintro e w10 ⟨rfl, rfl⟩
          go_wp2_with fail
          refine I2.out.mono ?_
          rintro e w10 ⟨rfl, rfl⟩
          cases wb
          · go_wp2_with fail
            refine V1.out.mono ?_
            rintro e w10 ⟨rfl, rfl⟩
            go_wp2_with fail
            refine V2.out.mono ?_
            rintro e w10 ⟨rfl, rfl⟩
            go_wp2_with fail
            refine L1.out.mono ?_
            rintro e w11 ⟨rfl, h11⟩
            have O3 := h11.out 1 (by decide)
            rw [upd_same, co] at O3
            go_wp2_with fail
            refine O3.mono ?_
            rintro e w12 ⟨rfl, rfl⟩
            have O4 := h11.open_ 1 (by decide)
            rw [upd_same, upd_upd, show opn pc = (0, ⟨true, false, -1, ByteArray.empty⟩) from by simp [opn, cc]] at O4
            go_wp2_with fail
            refine O4.mono ?_
            rintro e w13 ⟨rfl, h13⟩
            have O5 := h13.out 1 (by decide)
            rw [upd_same, show (PS.mk true false (-1) ByteArray.empty).out = ⟨#[]⟩ from rfl] at O5
            go_wp2_with fail
            refine O5.mono ?_
            rintro e w14 ⟨rfl, rfl⟩
            go_wp2
            all_goals (go_ret; exact ⟨rfl, h13.all y6 (by omega) (by omega)⟩)
          · go_wp2_with fail
            refine V1.out.mono ?_
            rintro e w10 ⟨rfl, rfl⟩
            go_wp2_with fail
            refine V2.out.mono ?_
            rintro e w10 ⟨rfl, rfl⟩
            go_wp2_with fail
            refine L1.out.mono ?_
            rintro e w11 ⟨rfl, h11⟩
            have O3 := h11.out 1 (by decide)
            rw [upd_same, co] at O3
            go_wp2_with fail
            refine O3.mono ?_
            rintro e w12 ⟨rfl, rfl⟩
            have O4 := h11.open_ 1 (by decide)
            rw [upd_same, upd_upd, show opn pc = (0, ⟨true, false, -1, ByteArray.empty⟩) from by simp [opn, cc]] at O4
            go_wp2_with fail
            refine O4.mono ?_
            rintro e w13 ⟨rfl, h13⟩
            have O5 := h13.out 1 (by decide)
            rw [upd_same, show (PS.mk true false (-1) ByteArray.empty).out = ⟨#[]⟩ from rfl] at O5
            go_wp2_with fail
            refine O5.mono ?_
            rintro e w14 ⟨rfl, rfl⟩
            go_wp2
            all_goals (go_ret; exact ⟨rfl, h13.all y6 (by omega) (by omega)⟩)
/-- A slice of steps handed in. -/
theorem ops_of {H : Type} {enc : TypeId × Value → H} {W : World} {base : Nat} {v : Value} {d : DataW H} {p : List MemPlace}
    (hval : Value.okWide Try.prog W .any base 33 v) (h : DataW.Trod enc Try.prog W 0 (fun _ => true) true 33 v d p) : ∃ (A : Option Addr) (n c : Nat) (f : Nat → OpD), v = .slice A n c ∧ OpsAt W A n f ∧ ∀ k, (f k).n ≤ 9223372036854775807 := by
  obtain ⟨a0, len, cap, rfl⟩ := okWide_slice Try.underlying33 hval
  obtain ⟨fuel, hf⟩ := h
  rcases DataW.trod_slice Try.underlying33 hf with ⟨hcs, _⟩ | ⟨a, len', cap', elems, rest, m, _, hcs, _, _, hl, hm, hlen, hel, _⟩
  · simp [Value.cells] at hcs
    obtain ⟨rfl, rfl, rfl⟩ := hcs
    exact ⟨none, 0, 0, fun _ => ⟨0, 0, 0, ByteArray.empty⟩, rfl, fun k hk => absurd hk (by omega), fun _ => by simp⟩
  · simp [Value.cells] at hcs
    obtain ⟨rfl, rfl, rfl⟩ := hcs
    have each : ∀ k, ∃ o : OpD, o.n ≤ 9223372036854775807 ∧ (k < len → ∃ (g off : Nat), some a = some (Addr.mk g off none) ∧ g < W.heap.size ∧ o.s.size ≤ 9223372036854775807 ∧ o.n ≤ 9223372036854775807 ∧
        W.cell? ⟨g, off + k * 4, none⟩ = some (.int .i64 o.k) ∧ W.cell? ⟨g, off + k * 4 + 1, none⟩ = some (.int .i64 o.id) ∧ W.cell? ⟨g, off + k * 4 + 2, none⟩ = some (.int .i64 o.n) ∧ W.cell? ⟨g, off + k * 4 + 3, none⟩ = some (.string o.s)) := by
      intro k
      by_cases hk : k < len
      · have hk0 := hel 0 (by omega)
        rw [List.getElem?_eq_getElem (by omega), Option.bind_eq_some_iff] at hk0
        obtain ⟨cs0, hcs0, _⟩ := hk0
        obtain ⟨_, hl0, hcell0⟩ := World.cells?_some hcs0
        have hc0 := hcell0 0 (by rw [show Try.prog.cellsOf 43 = 4 by kernel_rfl]; omega)
        rw [show Try.prog.cellsOf 43 = 4 by kernel_rfl] at hl0
        rw [List.getElem?_eq_getElem (by omega)] at hc0
        have hk' := hel k hk
        rw [List.getElem?_eq_getElem (by omega), show Try.prog.cellsOf 43 = 4 by kernel_rfl, Option.bind_eq_some_iff] at hk'
        obtain ⟨cs, hcs, hy⟩ := hk'
        obtain ⟨_, hl3, hcell⟩ := World.cells?_some hcs
        obtain ⟨xs, m', _, _, _, hxs, hfl⟩ := DataW.trod_struct Try.underlying43 hy
        match cs, hl3 with
        | [c0, c1, c2, c3], _ =>
          have h0 := (hfl 0 _ rfl).trans (List.getElem?_eq_getElem (by rw [hxs]; decide))
          have h1 := (hfl 1 _ rfl).trans (List.getElem?_eq_getElem (by rw [hxs]; decide))
          have h2 := (hfl 2 _ rfl).trans (List.getElem?_eq_getElem (by rw [hxs]; decide))
          have h3 := (hfl 3 _ rfl).trans (List.getElem?_eq_getElem (by rw [hxs]; decide))
          obtain ⟨kd, e0, _, _⟩ := DataW.trod_int Try.underlying3 h0
          obtain ⟨id, e1, _, _⟩ := DataW.trod_int Try.underlying3 h1
          obtain ⟨n, e2, _, wn⟩ := DataW.trod_int Try.underlying3 h2
          obtain ⟨s, e3, _, ws⟩ := DataW.trod_string Try.underlying9 h3
          change List.take (Try.prog.cellsOf 3) (List.drop 0 [c0, c1, c2, c3]) = _ at e0
          change List.take (Try.prog.cellsOf 3) (List.drop 1 [c0, c1, c2, c3]) = _ at e1
          change List.take (Try.prog.cellsOf 3) (List.drop 2 [c0, c1, c2, c3]) = _ at e2
          change List.take (Try.prog.cellsOf 9) (List.drop 3 [c0, c1, c2, c3]) = _ at e3
          rw [show Try.prog.cellsOf 3 = 1 by kernel_rfl] at e0 e1 e2
          rw [show Try.prog.cellsOf 9 = 1 by kernel_rfl] at e3
          simp at e0 e1 e2 e3
          subst e0 e1 e2 e3
          have k0 := hcell 0 (by omega)
          have k1 := hcell 1 (by omega)
          have k2 := hcell 2 (by omega)
          have k3 := hcell 3 (by omega)
          obtain ⟨b, off, spot⟩ := a
          have hspot : spot = none := by simpa [Addr.add] using World.cell?_spot hc0
          subst hspot
          simp only [Go.WideShapes.add_plain, List.getElem?_cons_zero, List.getElem?_cons_succ, Nat.add_zero] at k0 k1 k2 k3
          exact ⟨⟨kd, id, n, s⟩, (bounds_i64 wn).2, fun _ => ⟨b, off, rfl, World.block_lt_of_cell? W ⟨b, off + k * 4, none⟩ k0, by simpa [maxLen] using ws, (bounds_i64 wn).2, k0, k1, k2, k3⟩⟩
      · exact ⟨⟨0, 0, 0, ByteArray.empty⟩, by simp, fun h => absurd h hk⟩
    refine ⟨some a, len, cap, fun k => Classical.choose (each k), rfl, fun k hk => ?_, fun k => (Classical.choose_spec (each k)).1⟩
    exact (Classical.choose_spec (each k)).2 hk
set_option maxRecDepth 100000 in
theorem pipesApart_lifted (os : Os) (started : os.Started) (H : Type) (enc : TypeId × Value → H) :
    ReturnsInHanded {} Try.checked os 6 .any (Rows.pipesApartSpec.pre6 enc Try.prog Try.f6 Rows.pipesApartRow.domain false) (Rows.pipesApartSpec.post enc Try.prog Try.f6 false true false false) := by
  refine returnsInHanded_of_change (C := Try.checked) Try.own started (by kernel_rfl) Try.func6
    (ChangeSpec.witness6 (enc := enc) (C := Try.checked) false ⟨#[], #[.slice none 0 0, .slice none 0 0], []⟩ 8 (by kernel_rfl) (by kernel_rfl) (by kernel_rfl) (by kernel_rfl)) ?_
  intro W base args ds gs before hval0 hW hcnd _
  have hval : ∀ (j : Nat) t v, Try.f6.params[j]? = some t → args[j]? = some v → Value.okWide Try.prog W .any base t v := hval0
  have hW' := hW
  obtain ⟨p, q, hA0, hV, rfl, hfz, hnd⟩ := hW
  have hA : DataW.TrodAll enc Try.prog W 0 (fun _ => true) true Try.f6.params.toList args.toList ds p := hA0
  have hA1 := hA
  rw [Try.params6] at hA hval
  obtain ⟨v0, v1, d0, d1, p0, p1, rfl, rfl, rfl, h0, h1⟩ := trodAll_two hA
  obtain ⟨rfl, rfl⟩ := trodVars_none hV
  obtain ⟨A, m, c, f, rfl, hi, ni⟩ := ops_of (hval 0 33 v0 rfl rfl) h0
  obtain ⟨B, m2, c2, f2, rfl, hi2, ni2⟩ := ops_of (hval 1 33 v1 rfl rfl) h1
  clear hA0 hval0
  simp only [List.append_nil] at hW' hA1
  refine (apart_any A m c f B m2 c2 f2 W hi hi2 ni ni2).mono fun e W' ⟨he, hb⟩ => ?_
  subst he
  have hts : ∀ t ∈ Try.f6.params.toList, Try.prog.readableRec t = true ∧ t < Try.prog.types.size := by
    rw [Try.params6]
    intro t ht
    simp at ht
    rcases ht with rfl | rfl
    all_goals exact ⟨by kernel_rfl, of_decide_eq_true (by kernel_rfl)⟩
  exact ⟨_, rfl, post_of_below (pa := _) (pv := []) hW' (fun _ _ _ => trodAll_mk1 (shut_bool Try.underlying4 _)) (fun sp hsp => trodAll_below Try.laidOut (grown_below hb) hts hA1 (fun x hx => ⟨hW'.lt x hx, hsp x hx⟩)) (fun _ _ => rfl) (by simp)
    (grown_below hb) (ok_one (by kernel_rfl) rfl (okWide_bool_mk Try.underlying4 _))⟩

theorem pipesApart_holds : Rows.PipesApartSaid :=
  OpenClaim.holds_of_wide 6 Try.f6 rfl rfl rfl rfl rfl rfl rfl ⟨rfl, rfl, rfl, rfl, rfl⟩ rfl rfl rfl rfl rfl (by kernel_rfl) Try.func6 (by kernel_rfl)
    (of_decide_eq_true (by kernel_rfl)) (by unfold Func.isWrapper; first | (rw [if_pos (by decide +kernel)]; kernel_rfl) | (rw [if_neg (by decide +kernel)]; exact ⟨rfl, rfl⟩))
    (fun os started H enc _ => pipesApart_lifted os started H enc)
#print axioms pipesApart_holds
end Go.Proofs.Ytdpjbkodenhelaa
