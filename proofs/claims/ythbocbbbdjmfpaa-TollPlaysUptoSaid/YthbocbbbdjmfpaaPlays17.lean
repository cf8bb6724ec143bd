/- THE WALK of TollPlays: step by step each answer, and what is left, are the document's. -/
import Derived.Test.YthbocbbbdjmfpaaLaw17a
import Derived.Deep.DeepCutAuto
import Derived.Deep.CutBlock
namespace Go.Proofs.Ythbocbbbdjmfpaa
open Go.RowKit Go.Fp

theorem tick_ow {s : TollS} {n : Int} : (tickF s n).2.ow ≤ s.ow := by unfold tickF; split <;> exact Int.le_refl _
theorem frame_ow {s : TollS} {n : Int} : (frameF s n).2.ow ≤ s.ow := by unfold frameF; (repeat' split) <;> exact Int.le_refl _
theorem hold_ow {s : TollS} {n : Int} (h : s.ok) : (holdF s n).2.ow ≤ s.ow + 1073741824 := by
  unfold TollS.ok RatesS.ok at h
  unfold holdF; (repeat' split) <;> (simp only; omega)
theorem settle_ow {s : TollS} {n : Int} (h : s.ok) : (settleF s n).2.ow ≤ s.ow := by
  unfold TollS.ok RatesS.ok at h
  unfold settleF; (repeat' split) <;> (simp only; omega)

/-- One step: the document's and the program's contracts, at one answer. -/
def TpStep (fd fp : Nat) (s : TollS) (n : Int) (k : Nat) : Prop :=
  ∃ (rr : Int) (s3 : TollS), s3.ok ∧ s3.ow ≤ 1073741824 * (k + 1) ∧
    (∀ w, Calls Try.prog fd #[.agg s.cs, .int .i64 n] w fun e w' => e = .returned (.tuple #[.int .i64 rr, .agg s3.cs]) ∧ Fr [] w w') ∧
    (∀ g w, Has w g 51 s.cs → Calls Try.prog fp #[.pointer (some ⟨g, 0, none⟩), .int .i64 n] w fun e w' => e = .returned (.int .i64 rr) ∧ Has w' g 51 s3.cs ∧ Fr [g] w w')

theorem stepTick {s : TollS} {n : Int} {k : Nat} (hs : s.ok) (ho : s.ow ≤ 1073741824 * k) : TpStep 13 14 s n k :=
  ⟨(tickF s n).1, (tickF s n).2, tick_ok hs, by have := tick_ow (s := s) (n := n); omega, fun w => ref17_Tick s n w hs, fun g w h => toll_Tick g s n w hs h⟩
theorem stepFrame {s : TollS} {n : Int} {k : Nat} (hs : s.ok) (ho : s.ow ≤ 1073741824 * k) : TpStep 15 16 s n k :=
  ⟨(frameF s n).1, (frameF s n).2, frame_ok hs, by have := frame_ow (s := s) (n := n); omega, fun w => ref17_Frame s n w hs, fun g w h => toll_Frame g s n w hs h⟩
theorem stepHold {s : TollS} {n : Int} {k : Nat} (hs : s.ok) (ho : s.ow ≤ 1073741824 * k) (hk : k ≤ 1048576) : TpStep 17 18 s n k :=
  ⟨(holdF s n).1, (holdF s n).2, hold_ok hs (by omega), by have := hold_ow (n := n) hs; omega, fun w => ref17_Hold s n w hs, fun g w h => toll_Hold g s n w hs h⟩
theorem stepSettle {s : TollS} {n : Int} {k : Nat} (hs : s.ok) (ho : s.ow ≤ 1073741824 * k) : TpStep 19 20 s n k :=
  ⟨(settleF s n).1, (settleF s n).2, settle_ok hs, by have := settle_ow (n := n) hs; omega, fun w => ref17_Settle s n w hs, fun g w h => toll_Settle g s n w hs h⟩

/-- The loop's relation. -/
def TpRel (len g b mb : Nat) (r : Array Value) (W : World) (a52 : Value) (wr : World) : Prop :=
  ∃ (k : Nat) (s : TollS), k ≤ len ∧ a52 = .int .i64 k ∧ s.ok ∧ s.ow ≤ 1073741824 * k ∧ Trk W wr [(mb, 35, s.cs), (g, 51, s.cs), (b, 23, r)]
/-- What stands when a step is done. -/
def TpMid (k g b mb : Nat) (r : Array Value) (W : World) (a10 a11 : Value) (wx : World) : Prop :=
  ∃ (rr : Int) (s : TollS), a10 = .int .i64 rr ∧ a11 = .int .i64 rr ∧ s.ok ∧ s.ow ≤ 1073741824 * (k + 1) ∧ Trk W wx [(mb, 35, s.cs), (g, 51, s.cs), (b, 23, r)]

set_option maxRecDepth 100000 in
set_option maxHeartbeats 2000000 in
theorem law17_Plays (r : RatesS) (x : Option Addr) (len cap B off : Nat) (w : World) (hx0 : 0 < len → x = some ⟨B, off, none⟩ ∧ B < w.heap.size) (hlen : len ≤ 1048576)
    (hc : ∀ i, i < len → ∃ kd n : Int, w.cell? ⟨B, off + i * 2, none⟩ = some (.int .i64 kd) ∧ w.cell? ⟨B, off + i * 2 + 1, none⟩ = some (.int .i64 n)) :
    Calls Try.prog 3 #[r.v, .slice x len cap] w fun e w' => e = .returned (.bool true) ∧ Fr [] w w' := by
  refine calls_cps fun R hR => ?_
  have c3 := law17_To r
  have cT := toll_Right r
  have cR := ref17_Right r
  have hT := (Trk.refl w).alloc r.cs 23
  by_cases hr : r.ok
  · obtain ⟨f, ft, b, bt⟩ := r
    have c1 := toll_New_ok ⟨f, ft, b, bt⟩ (hr := hr)
    have c2 := ref17_New ⟨f, ft, b, bt⟩
    have cT' : ∀ w, Calls Try.prog 9 #[(⟨f, ft, b, bt⟩ : RatesS).v] w fun e w' => e = .returned (.bool true) ∧ Fr [] w w' := fun w => (cT w).mono fun e w' ⟨b, h1, h2, h3⟩ => by rw [h2.2 hr] at h1; exact ⟨h1, h3⟩
    have cR' : ∀ w, Calls Try.prog 10 #[(⟨f, ft, b, bt⟩ : RatesS).v] w fun e w' => e = .returned (.bool true) ∧ Fr [] w w' := fun w => (cR w).mono fun e w' ⟨b, h1, h2, h3⟩ => by rw [h2.2 hr] at h1; exact ⟨h1, h3⟩
    have Hr := Fp.hid hr
    clear cT cR hr
    simp only [RatesS.v, RatesS.cs, TollS.cs] at c1 c2 c3 cT' cR' hT ⊢
    go_enter Try.func3, Try.ntmps3
    go_wp2_with (first
    | (refine wp_region_text (id := 2) [0, 2, 2, 0, 2, 0] (Fr [] _) Try.mixed (by kernel_rfl) (Fr.refl _ _) ?_)
    | (refine wpT_0 (fun K hK => ?_); go_simp; refine hK _ ?_; clear hK K)
    | (refine wpT_1 (fun K hK => ?_); go_simp; refine hK _ ?_; clear hK K)
    | (refine wpT_tail (by rfl) ?_)
    | (refine wpT_2A (fun _ _ => ?_); rw [if_pos (by rfl)])
    | (refine wpT_nil ?_)
    | (refine wpT_2 (fun _ _ => ?_); rw [if_pos (by rfl)])
    | (refine And.intro (by first | assumption | exact Fr.refl _ _ | exact Fr.trans (by assumption) (by assumption) | exact Fr.trans (Fr.trans (by assumption) (by assumption)) (by assumption) | exact Fr.trans (Fr.trans (Fr.trans (by assumption) (by assumption)) (by assumption)) (by assumption)) ?_)
    | (refine wpT_S (fun K hK => ?_); rw [if_pos (by rfl)]; refine ⟨.agg #[.int .i64 f, .int .i64 ft, .int .i64 b, .int .i64 bt], ?_, hK _ ?_⟩; (focus (intro w' hS; have hc := ((hS.has0 (hT0.has 1 rfl)).cell); go_simp)); clear hK K)
    | (go_at_call 8; refine (c3 _).mono ?_; rintro e w' ⟨rfl, fq⟩; replace hT := hT.call fq)
    | (go_at_call 9; refine (cT' _).mono ?_; rintro e w' ⟨rfl, fq⟩; replace hT := hT.call fq)
    | (go_at_call 10; refine (cR' _).mono ?_; rintro e w' ⟨rfl, fq⟩; replace hT := hT.call fq; (try clear q1); have q1 := (hT.has 1 rfl).cell)
    | (go_at_call 11; refine (law17_awake _).mono ?_; rintro e w' ⟨rfl, fq⟩; replace hT := hT.call fq; (try clear q1); have q1 := (hT.has 1 rfl).cell)
    | (go_at_call 12; refine (c2 _).mono ?_; rintro e w' ⟨rfl, fq⟩; replace hT := hT.call fq)
    | (go_at_call 7; refine (c1 _).mono ?_; rintro e w' ⟨g, rfl, hg, h0, fq⟩; replace hT := hT.new fq hg h0; (try clear q1); have q1 := (hT.has 1 rfl).cell;  have hT0 := hT))
    have hM := hT.alloc #[.int .i64 f, .int .i64 ft, .int .i64 b, .int .i64 bt, .int .i64 f, .int .i64 b, .int .i64 0] 35
    generalize w'.heap.size = mb at hM ⊢
    go_loopw [52] (TpRel len g w.heap.size mb #[.int .i64 f, .int .i64 ft, .int .i64 b, .int .i64 bt] w) (fun i _ => len - (intOf i).toNat)
    case atStart =>
      refine ⟨0, ⟨⟨f, ft, b, bt⟩, f, b, 0⟩, by omega, rfl, ?_, by simp only; omega, hM⟩
      have h := Hr.out
      unfold RatesS.ok at h
      simp only at h
      exact ⟨Hr.out, by simp only; omega, by simp only; omega, by simp only; omega, by simp only; omega, by simp only; omega, by simp only; omega⟩
    case round =>
      obtain ⟨k, s, hk, rfl, hs, ho, hT⟩ := hrel
      by_cases hlt : k < len
      · obtain ⟨rfl, hB⟩ := hx0 (by omega)
        obtain ⟨kd, n, hck1, hck2⟩ := hc k hlt
        rw [← hT.fr.cell hB (by simp)] at hck1 hck2
        clear hc hx0
        have hq0 : ¬ (mb = wr.heap.size) := by have := (hT.has 0 rfl).lt; omega
        have hT1 := hT.alloc #[.int .i64 kd, .int .i64 n] 38
        have q0 := (hT1.has 1 rfl).cell
        have p0 := (hT1.has 1 rfl).froz
        have HT := Fp.hid hT
        have HS := Fp.hid hs
        have HO := Fp.hid ho
        clear hT hs ho
        go_upto_block 2 with (fail)
        go_cut [10, 11] (fun s10 s11 wx => TpMid k g w.heap.size mb #[.int .i64 f, .int .i64 ft, .int .i64 b, .int .i64 bt] w s10 s11 wx)
        case first =>
          by_cases e0 : kd = 0
          · subst e0
            obtain ⟨rr, s3, hs3, ho3, d1, d2⟩ := stepTick (n := n) (k := k) HS.out HO.out
            obtain ⟨⟨r1, r2, r3, r4⟩, r5, r6, r7⟩ := s3
            obtain ⟨⟨u1, u2, u3, u4⟩, u5, u6, u7⟩ := s
            simp only [TollS.cs] at d1 d2 q0 hT1
            have HS3 := Fp.hid hs3
            have HO3 := Fp.hid ho3
            clear hs3 ho3
            go_wp2_with (first
    | (refine wp_region_text (id := 2) [1, 2, 2, 1] Any Try.mixed (by kernel_rfl) trivial ?_)
    | (refine wpT_0 (fun K hK => ?_); go_simp; refine hK _ ?_; clear hK K)
    | (refine wpT_1 (fun K hK => ?_); go_simp; refine hK _ ?_; clear hK K)
    | (refine wpT_tail (by rfl) ?_)
    | (refine wpT_2A (fun _ _ => ?_); rw [if_pos (by rfl)])
    | (refine wpT_nil ?_)
    | (go_at_call 13; refine (d1 _).mono ?_; rintro e w3 ⟨rfl, fq⟩; have hT3 := hT1.call fq; clear q0 p0; have q0 := (hT3.has 1 rfl).cell; have p0 := (hT3.has 1 rfl).froz; have q1 := (hT3.has 0 rfl).cell)
    | (go_at_call 14; have hT4 := ((((((hT3.store 1 0 (.int .i64 r1) rfl).store 1 1 (.int .i64 r2) rfl).store 1 2 (.int .i64 r3) rfl).store 1 3 (.int .i64 r4) rfl).store 1 4 (.int .i64 r5) rfl).store 1 5 (.int .i64 r6) rfl).store 1 6 (.int .i64 r7) rfl; refine (d2 _ _ (hT4.has 2 rfl)).mono ?_; rintro e w5 ⟨rfl, hg5, fq5⟩; have hT5 := hT4.put 2 rfl fq5 hg5))
            all_goals (go_meet; exact ⟨rr, ⟨⟨r1, r2, r3, r4⟩, r5, r6, r7⟩, rfl, rfl, HS3.out, HO3.out, hT5.drop 0⟩)
          by_cases e1 : kd = 1
          · subst e1
            obtain ⟨rr, s3, hs3, ho3, d1, d2⟩ := stepFrame (n := n) (k := k) HS.out HO.out
            obtain ⟨⟨r1, r2, r3, r4⟩, r5, r6, r7⟩ := s3
            obtain ⟨⟨u1, u2, u3, u4⟩, u5, u6, u7⟩ := s
            simp only [TollS.cs] at d1 d2 q0 hT1
            have HS3 := Fp.hid hs3
            have HO3 := Fp.hid ho3
            clear hs3 ho3
            go_wp2_with (first
    | (refine wp_region_text (id := 2) [1, 2, 2, 1] Any Try.mixed (by kernel_rfl) trivial ?_)
    | (refine wpT_0 (fun K hK => ?_); go_simp; refine hK _ ?_; clear hK K)
    | (refine wpT_1 (fun K hK => ?_); go_simp; refine hK _ ?_; clear hK K)
    | (refine wpT_tail (by rfl) ?_)
    | (refine wpT_2A (fun _ _ => ?_); rw [if_pos (by rfl)])
    | (refine wpT_nil ?_)
    | (go_at_call 15; refine (d1 _).mono ?_; rintro e w3 ⟨rfl, fq⟩; have hT3 := hT1.call fq; clear q0 p0; have q0 := (hT3.has 1 rfl).cell; have p0 := (hT3.has 1 rfl).froz; have q1 := (hT3.has 0 rfl).cell)
    | (go_at_call 16; have hT4 := ((((((hT3.store 1 0 (.int .i64 r1) rfl).store 1 1 (.int .i64 r2) rfl).store 1 2 (.int .i64 r3) rfl).store 1 3 (.int .i64 r4) rfl).store 1 4 (.int .i64 r5) rfl).store 1 5 (.int .i64 r6) rfl).store 1 6 (.int .i64 r7) rfl; refine (d2 _ _ (hT4.has 2 rfl)).mono ?_; rintro e w5 ⟨rfl, hg5, fq5⟩; have hT5 := hT4.put 2 rfl fq5 hg5))
            all_goals (go_meet; exact ⟨rr, ⟨⟨r1, r2, r3, r4⟩, r5, r6, r7⟩, rfl, rfl, HS3.out, HO3.out, hT5.drop 0⟩)
          by_cases e2 : kd = 2
          · subst e2
            obtain ⟨rr, s3, hs3, ho3, d1, d2⟩ := stepHold (n := n) (k := k) HS.out HO.out (by omega)
            obtain ⟨⟨r1, r2, r3, r4⟩, r5, r6, r7⟩ := s3
            obtain ⟨⟨u1, u2, u3, u4⟩, u5, u6, u7⟩ := s
            simp only [TollS.cs] at d1 d2 q0 hT1
            have HS3 := Fp.hid hs3
            have HO3 := Fp.hid ho3
            clear hs3 ho3
            go_wp2_with (first
    | (refine wp_region_text (id := 2) [1, 2, 2, 1] Any Try.mixed (by kernel_rfl) trivial ?_)
    | (refine wpT_0 (fun K hK => ?_); go_simp; refine hK _ ?_; clear hK K)
    | (refine wpT_1 (fun K hK => ?_); go_simp; refine hK _ ?_; clear hK K)
    | (refine wpT_tail (by rfl) ?_)
    | (refine wpT_2A (fun _ _ => ?_); rw [if_pos (by rfl)])
    | (refine wpT_nil ?_)
    | (go_at_call 17; refine (d1 _).mono ?_; rintro e w3 ⟨rfl, fq⟩; have hT3 := hT1.call fq; clear q0 p0; have q0 := (hT3.has 1 rfl).cell; have p0 := (hT3.has 1 rfl).froz; have q1 := (hT3.has 0 rfl).cell)
    | (go_at_call 18; have hT4 := ((((((hT3.store 1 0 (.int .i64 r1) rfl).store 1 1 (.int .i64 r2) rfl).store 1 2 (.int .i64 r3) rfl).store 1 3 (.int .i64 r4) rfl).store 1 4 (.int .i64 r5) rfl).store 1 5 (.int .i64 r6) rfl).store 1 6 (.int .i64 r7) rfl; refine (d2 _ _ (hT4.has 2 rfl)).mono ?_; rintro e w5 ⟨rfl, hg5, fq5⟩; have hT5 := hT4.put 2 rfl fq5 hg5))
            all_goals (go_meet; exact ⟨rr, ⟨⟨r1, r2, r3, r4⟩, r5, r6, r7⟩, rfl, rfl, HS3.out, HO3.out, hT5.drop 0⟩)
          by_cases e3 : kd = 3
          · subst e3
            obtain ⟨rr, s3, hs3, ho3, d1, d2⟩ := stepSettle (n := n) (k := k) HS.out HO.out
            obtain ⟨⟨r1, r2, r3, r4⟩, r5, r6, r7⟩ := s3
            obtain ⟨⟨u1, u2, u3, u4⟩, u5, u6, u7⟩ := s
            simp only [TollS.cs] at d1 d2 q0 hT1
            have HS3 := Fp.hid hs3
            have HO3 := Fp.hid ho3
            clear hs3 ho3
            go_wp2_with (first
    | (refine wp_region_text (id := 2) [1, 2, 2, 1] Any Try.mixed (by kernel_rfl) trivial ?_)
    | (refine wpT_0 (fun K hK => ?_); go_simp; refine hK _ ?_; clear hK K)
    | (refine wpT_1 (fun K hK => ?_); go_simp; refine hK _ ?_; clear hK K)
    | (refine wpT_tail (by rfl) ?_)
    | (refine wpT_2A (fun _ _ => ?_); rw [if_pos (by rfl)])
    | (refine wpT_nil ?_)
    | (go_at_call 19; refine (d1 _).mono ?_; rintro e w3 ⟨rfl, fq⟩; have hT3 := hT1.call fq; clear q0 p0; have q0 := (hT3.has 1 rfl).cell; have p0 := (hT3.has 1 rfl).froz; have q1 := (hT3.has 0 rfl).cell)
    | (go_at_call 20; have hT4 := ((((((hT3.store 1 0 (.int .i64 r1) rfl).store 1 1 (.int .i64 r2) rfl).store 1 2 (.int .i64 r3) rfl).store 1 3 (.int .i64 r4) rfl).store 1 4 (.int .i64 r5) rfl).store 1 5 (.int .i64 r6) rfl).store 1 6 (.int .i64 r7) rfl; refine (d2 _ _ (hT4.has 2 rfl)).mono ?_; rintro e w5 ⟨rfl, hg5, fq5⟩; have hT5 := hT4.put 2 rfl fq5 hg5))
            all_goals (go_meet; exact ⟨rr, ⟨⟨r1, r2, r3, r4⟩, r5, r6, r7⟩, rfl, rfl, HS3.out, HO3.out, hT5.drop 0⟩)
          have g0 : (kd == 0) = false := by simpa using e0
          have g1 : (kd == 1) = false := by simpa using e1
          have g2 : (kd == 2) = false := by simpa using e2
          have g3 : (kd == 3) = false := by simpa using e3
          clear e0 e1 e2 e3
          go_wp2_with fail
          go_meet
          exact ⟨0, s, rfl, rfl, HS.out, by have := HO.out; omega, hT1.drop 0⟩
        case rest =>
          obtain ⟨rr, s3, rfl, rfl, hs3, ho3, hT⟩ := hcut
          have q1 := (hT.has 0 rfl).cell
          obtain ⟨⟨r1, r2, r3, r4⟩, r5, r6, r7⟩ := s3
          have HS3 := Fp.hid hs3
          have HO3 := Fp.hid ho3
          clear hs3 ho3 q0 p0
          simp only [TollS.cs] at q1
          go_wp2_with (first
    | (refine wp_region_text (id := 2) [1, 2, 2, 1] Any Try.mixed (by kernel_rfl) trivial ?_)
    | (refine wpT_0 (fun K hK => ?_); go_simp; refine hK _ ?_; clear hK K)
    | (refine wpT_1 (fun K hK => ?_); go_simp; refine hK _ ?_; clear hK K)
    | (refine wpT_tail (by rfl) ?_)
    | (refine wpT_2A (fun _ _ => ?_); rw [if_pos (by rfl)])
    | (refine wpT_nil ?_)
    | (go_at_call 21; refine (toll_Left _ _ _ (hT.has 1 rfl)).mono ?_; rintro e w5 ⟨rfl, fq5⟩; replace hT := hT.call fq5; clear q1; have q1 := (hT.has 0 rfl).cell; simp only [TollS.cs] at q1))
          go_roundw
          case rel => exact ⟨k + 1, ⟨⟨r1, r2, r3, r4⟩, r5, r6, r7⟩, by omega, by go_num, HS3.out, by have := HO3.out; simp only at this ⊢; omega, hT⟩
          case measure => simp [intOf]; omega
      · have hk6 : (len : Int) ≤ k := by omega
        clear hc hx0
        go_wp2_with (first
    | (refine wp_region_text (id := 2) [1, 2, 2, 1] Any Try.mixed (by kernel_rfl) trivial ?_)
    | (refine wpT_0 (fun K hK => ?_); go_simp; refine hK _ ?_; clear hK K)
    | (refine wpT_1 (fun K hK => ?_); go_simp; refine hK _ ?_; clear hK K)
    | (refine wpT_tail (by rfl) ?_)
    | (refine wpT_2A (fun _ _ => ?_); rw [if_pos (by rfl)])
    | (refine wpT_nil ?_))
        exact hR.out _ _ ⟨rfl, hT.fr⟩
  · obtain ⟨f, ft, b, bt⟩ := r
    have c1 := toll_New_no ⟨f, ft, b, bt⟩ (hr := hr)
    have cT' : ∀ w, Calls Try.prog 9 #[(⟨f, ft, b, bt⟩ : RatesS).v] w fun e w' => e = .returned (.bool false) ∧ Fr [] w w' := fun w => (cT w).mono fun e w' ⟨b, h1, h2, h3⟩ => by rw [Bool.eq_false_iff.2 (fun h => hr (h2.1 h))] at h1; exact ⟨h1, h3⟩
    have cR' : ∀ w, Calls Try.prog 10 #[(⟨f, ft, b, bt⟩ : RatesS).v] w fun e w' => e = .returned (.bool false) ∧ Fr [] w w' := fun w => (cR w).mono fun e w' ⟨b, h1, h2, h3⟩ => by rw [Bool.eq_false_iff.2 (fun h => hr (h2.1 h))] at h1; exact ⟨h1, h3⟩
    clear cT cR hr
    simp only [RatesS.v, RatesS.cs] at c1 c3 cT' cR' hT ⊢
    go_enter Try.func3, Try.ntmps3
    go_wp2_with (first
    | (refine wp_region_text (id := 2) [0, 2, 2, 0, 2, 0] (Fr [] _) Try.mixed (by kernel_rfl) (Fr.refl _ _) ?_)
    | (refine wpT_0 (fun K hK => ?_); go_simp; refine hK _ ?_; clear hK K)
    | (refine wpT_1 (fun K hK => ?_); go_simp; refine hK _ ?_; clear hK K)
    | (refine wpT_tail (by rfl) ?_)
    | (refine wpT_2A (fun _ _ => ?_); rw [if_pos (by rfl)])
    | (refine wpT_nil ?_)
    | (refine wpT_2 (fun _ _ => ?_); rw [if_pos (by rfl)])
    | (refine And.intro (by first | assumption | exact Fr.refl _ _ | exact Fr.trans (by assumption) (by assumption) | exact Fr.trans (Fr.trans (by assumption) (by assumption)) (by assumption) | exact Fr.trans (Fr.trans (Fr.trans (by assumption) (by assumption)) (by assumption)) (by assumption)) ?_)
    | (refine wpT_S (fun K hK => ?_); rw [if_pos (by rfl)]; refine ⟨.agg #[.int .i64 f, .int .i64 ft, .int .i64 b, .int .i64 bt], ?_, hK _ ?_⟩; (focus (intro w' hS; have hc := ((hS.has0 (hT0.has 0 rfl)).cell); go_simp)); clear hK K)
    | (go_at_call 8; refine (c3 _).mono ?_; rintro e w' ⟨rfl, fq⟩; replace hT := hT.call fq)
    | (go_at_call 9; refine (cT' _).mono ?_; rintro e w' ⟨rfl, fq⟩; replace hT := hT.call fq)
    | (go_at_call 10; refine (cR' _).mono ?_; rintro e w' ⟨rfl, fq⟩; replace hT := hT.call fq; (try clear q0); have q0 := (hT.has 0 rfl).cell)
    | (go_at_call 11; refine (law17_awake _).mono ?_; rintro e w' ⟨rfl, fq⟩; replace hT := hT.call fq; (try clear q0); have q0 := (hT.has 0 rfl).cell)
    | (go_at_call 7; refine (c1 _).mono ?_; rintro e w' ⟨rfl, fq⟩; replace hT := hT.call fq; (try clear q0); have q0 := (hT.has 0 rfl).cell;  have hT0 := hT))
    exact hR.out _ _ ⟨rfl, hT.fr⟩
end Go.Proofs.Ythbocbbbdjmfpaa
