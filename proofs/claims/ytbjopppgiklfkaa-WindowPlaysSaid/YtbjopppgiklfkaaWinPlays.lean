/- THE WALK of WindowPlays. -/
import Derived.Test.YtbjopppgiklfkaaWinStep
import Derived.Test.YtbjopppgiklfkaaLaw02a
import Derived.Deep.DeepCutAuto
namespace Go.Proofs.Ytbjopppgiklfkaa
open Go.RowKit Go.Fp

def WpRel (len : Nat) (size : Int) (g ab mb : Nat) (acs : Array Value) (w : World) (s50 : Value) (wr : World) : Prop :=
  ∃ (k : Nat) (s : WinS) (l : List Int) (v : Value), k ≤ len ∧ s50 = .int .i64 k ∧ WInv s l ∧ s.size = size ∧ l.length ≤ k ∧ wr.ownsRow 0 30 1 v l.length (u64s l) ∧
    Trk w wr [(mb, 38, #[.int .i64 size, .int .u64 s.boot, .int .u64 s.top, v]), (g, 54, s.cs), (ab, 32, acs)]

set_option maxHeartbeats 4000000 in
set_option maxRecDepth 100000 in
theorem law02_Plays (size : Int) (x : Option Addr) (len cap B off : Nat) (a0 a1 : Int) (w : World) (hx0 : 0 < len → x = some ⟨B, off, none⟩ ∧ B < w.heap.size) (hlen : len ≤ 9223372036854775807)
    (hc : ∀ i, i < len → ∃ b c : Int, (0 ≤ b ∧ b < 18446744073709551616) ∧ (0 ≤ c ∧ c < 18446744073709551616) ∧ w.cell? ⟨B, off + i * 2, none⟩ = some (.int .u64 b) ∧ w.cell? ⟨B, off + i * 2 + 1, none⟩ = some (.int .u64 c))
    (ha0 : 0 ≤ a0) (ha1 : 0 ≤ a1) (ha2 : a1 < 18446744073709551616) :
    Calls Try.prog 4 #[.int .i64 size, .slice x len cap, .agg #[.int .u64 a0, .int .u64 a1]] w fun e w' => e = .returned (.bool true) ∧ Fr [] w w' := by
  refine calls_cps fun R hR => ?_
  have hT := (Trk.refl w).alloc #[.int .u64 a0, .int .u64 a1] 32
  by_cases hs : 1 ≤ size ∧ size ≤ 64
  · obtain ⟨hs1, hs2⟩ := hs
    have c1 := fun w => win_New_ok size w hs1 hs2
    go_enter Try.func4, Try.ntmps4
    go_wp2_with (first
    | (refine wp_region_text (id := 11) [0, 0, 1, 0, 1, 2, 1, 0, 1, 0, 1] Any Try.mixed (by kernel_rfl) trivial ?_)
    | (refine wp_region_text (id := 18) [0, 0, 1, 0, 0, 0, 0, 1, 0, 0, 0, 0, 0, 1, 0, 1, 2, 1, 0, 1, 0, 1] Any Try.mixed (by kernel_rfl) trivial ?_)
    | (refine wpT_0 (fun K hK => ?_); go_simp; refine hK _ ?_; clear hK K)
    | (refine wpT_1 (fun K hK => ?_); go_simp; refine hK _ ?_; clear hK K)
    | (refine wpT_tail (by rfl) ?_)
    | (refine wpT_2A (fun _ _ => ?_); rw [if_pos (by rfl)])
    | (refine wpT_nil ?_)
    | (go_at_call 8; refine (law02_awake _).mono ?_; rintro e w' ⟨rfl, fq⟩; replace hT := hT.call fq)
    | (go_at_call 7; refine (c1 _).mono ?_; rintro e w' ⟨g, rfl, hg, h0, fq⟩; replace hT := hT.new fq hg h0))
    have hM := hT.alloc #[.int .i64 size, .int .u64 0, .int .u64 0, .slice none 0 0] 38
    generalize w'.heap.size = mb at hM ⊢
    go_loopw [50] (WpRel len size g w.heap.size mb #[.int .u64 a0, .int .u64 a1] w) (fun i _ => len - (intOf i).toNat)
    case atStart =>
      exact ⟨0, ⟨size, 0, 0, 0, false⟩, [], .slice none 0 0, by omega, rfl, ⟨by simp only [WinS.ok]; omega, fun _ => ⟨rfl, rfl, rfl⟩, (by simp), fun h => (by cases h)⟩, rfl, by simp, World.ownsRow_nil _ _ _ _, hM⟩
    case round =>
      obtain ⟨k, s, l, v, hk, rfl, hI, hs, hl, hO, hT⟩ := hrel
      by_cases hlt : k < len
      · obtain ⟨rfl, hB⟩ := hx0 (by omega)
        obtain ⟨ob, oc, ⟨b0, b1⟩, ⟨o0, o1⟩, hck1, hck2⟩ := hc k hlt
        rw [← hT.fr.cell hB (by simp)] at hck1 hck2
        clear hc hx0
        have hT1 := hT.alloc #[.int .u64 ob, .int .u64 oc] 32
        have q0 := (hT1.has 0 rfl).cell
        by_cases hk5 : 150 ≤ k
        · have hk6 : (150 : Int) ≤ k := by omega
          go_wp2_with (first
    | (refine wp_region_text (id := 11) [0, 0, 1, 0, 1, 2, 1, 0, 1, 0, 1] Any Try.mixed (by kernel_rfl) trivial ?_)
    | (refine wp_region_text (id := 18) [0, 0, 1, 0, 0, 0, 0, 1, 0, 0, 0, 0, 0, 1, 0, 1, 2, 1, 0, 1, 0, 1] Any Try.mixed (by kernel_rfl) trivial ?_)
    | (refine wpT_0 (fun K hK => ?_); go_simp; refine hK _ ?_; clear hK K)
    | (refine wpT_1 (fun K hK => ?_); go_simp; refine hK _ ?_; clear hK K)
    | (refine wpT_tail (by rfl) ?_)
    | (refine wpT_2A (fun _ _ => ?_); rw [if_pos (by rfl)])
    | (refine wpT_nil ?_))
          exact hR.out _ _ ⟨rfl, hT1.fr⟩
        · have hk6 : (k : Int) < 150 := by omega
          obtain ⟨fv, d1, d2⟩ := stepFresh hI b0 o0 o1
          obtain ⟨r, s', l', hI', hs', hl', d3, d4⟩ := stepTake hI b0 b1 o0 o1 (by omega)
          obtain ⟨av, a3, a4⟩ := stepFresh hI' ha0 ha1 ha2
          obtain ⟨xm, capm, rfl⟩ := own_slice hO
          obtain ⟨size0, boot, top, seen, any⟩ := s
          obtain ⟨size', boot', top', seen', any'⟩ := s'
          simp only at hs hs' d2 d4 a4
          subst hs
          subst hs'
          have HI := Fp.hid hI'
          have HO := Fp.hid hO
          have HL := Fp.hid hl
          have HL2 := Fp.hid hl'
          clear hI hI' hO hl hl'
          simp only [WinS.cs] at d1 d3 a3 hT hT1
          have q1 := (hT1.has 1 rfl).cell
          go_wp2_with (first
    | (refine wp_region_text (id := 11) [0, 0, 0, 0, 0, 2, 0, 0, 0, 0, 0, 2, 0] (Fr [] _) Try.mixed (by kernel_rfl) (Fr.refl _ _) ?_)
    | (refine wp_region_text (id := 18) [0, 0, 0, 0, 0, 0, 0, 0, 0, 0, 0, 0, 0, 0, 0, 0, 2, 0, 0, 0, 0, 0, 2, 0, 0] (Fr [] _) Try.mixed (by kernel_rfl) (Fr.refl _ _) ?_)
    | (refine wpT_0 (fun K hK => ?_); go_simp; refine hK _ ?_; clear hK K)
    | (refine wpT_1 (fun K hK => ?_); go_simp; refine hK _ ?_; clear hK K)
    | (refine wpT_tail (by rfl) ?_)
    | (refine wpT_2A (fun _ _ => ?_); rw [if_pos (by rfl)])
    | (refine wpT_nil ?_)
    | (refine wpT_2 (fun _ _ => ?_); rw [if_pos (by rfl)])
    | ((with_reducible refine And.intro (a := Fr _ _ _) ?_ ?_); focus (first | assumption | exact Fr.refl _ _ | exact Fr.trans (by assumption) (by assumption) | exact Fr.trans (Fr.trans (by assumption) (by assumption)) (by assumption) | exact Fr.trans (Fr.trans (Fr.trans (by assumption) (by assumption)) (by assumption)) (by assumption) | (repeat (first | exact Fr.refl _ _ | exact Fr.drew0 _ _ | apply Fr.drew | apply Fr.alloc | apply Fr.set _ (Or.inl (by simp))))))
    | (refine wpT_S (fun K hK => ?_); rw [if_pos (by rfl)]; refine ⟨.int .u64 ob, ?_, hK _ ?_⟩; (focus (intro w' hS; have hc := ((hS.has0 (hT1.has 0 rfl)).cell); go_simp; done)); clear hK K)
    | (refine wpT_S (fun K hK => ?_); rw [if_pos (by rfl)]; refine ⟨.int .u64 oc, ?_, hK _ ?_⟩; (focus (intro w' hS; have hc := ((hS.has0 (hT1.has 0 rfl)).cell); go_simp; done)); clear hK K)
    | (refine wpT_S (fun K hK => ?_); rw [if_pos (by rfl)]; refine ⟨.agg #[.int .i64 size', .int .u64 boot, .int .u64 top, .slice xm l.length capm], ?_, hK _ ?_⟩; (focus (intro w' hS; have hc := ((hS.has0 (hT1.has 1 rfl)).cell); go_simp; done)); clear hK K)
    | (refine wpT_S (fun K hK => ?_); rw [if_pos (by rfl)]; refine ⟨.int .u64 boot', ?_, hK _ ?_⟩; (focus (intro w' hS; have hc := ((hS.has0 (hT7.has 2 rfl)).cell); go_simp; done)); clear hK K)
    | (refine wpT_S (fun K hK => ?_); rw [if_pos (by rfl)]; refine ⟨.int .u64 top', ?_, hK _ ?_⟩; (focus (intro w' hS; have hc := ((hS.has0 (hT7.has 2 rfl)).cell); go_simp; done)); clear hK K)
    | (refine wpT_S (fun K hK => ?_); rw [if_pos (by rfl)]; refine ⟨.agg #[.int .i64 size', .int .u64 boot', .int .u64 top', .slice xm' l'.length capm'], ?_, hK _ ?_⟩; (focus (intro w' hS; have hc := ((hS.has0 (hT7.has 2 rfl)).cell); go_simp; done)); clear hK K)
    | (refine wpT_S (fun K hK => ?_); rw [if_pos (by rfl)]; refine ⟨.int .u64 a0, ?_, hK _ ?_⟩; (focus (intro w' hS; have hc := ((hS.has0 (hT7.has 4 rfl)).cell); go_simp; done)); clear hK K)
    | (refine wpT_S (fun K hK => ?_); rw [if_pos (by rfl)]; refine ⟨.int .u64 a1, ?_, hK _ ?_⟩; (focus (intro w' hS; have hc := ((hS.has0 (hT7.has 4 rfl)).cell); go_simp; done)); clear hK K)
    | (go_at_call 9; (fail_if_success (have _z := hT2)); (with_reducible refine Calls.mono (d1 _ _ ?_) ?_); (focus exact (hT1.has 2 rfl).drew); rintro e w' ⟨rfl, hq⟩; subst w')
    | (go_at_call 11; (fail_if_success (have _z := hT2)); (with_reducible refine Calls.mono (d2 _ l.length _ ?_) ?_); (focus exact (HO.out.alloc _).drew); rintro e w3 ⟨rfl, fq3⟩; have hT2 := hT1.call fq3; have hO2 := Fp.hid (own_fr fq3 (HO.out.alloc _).drew); clear q0 q1; have q0 := (hT2.has 0 rfl).cell; have q1 := (hT2.has 1 rfl).cell)
    | (go_at_call 12; (with_reducible refine Calls.mono (d4 _ l.length _ ?_) ?_); (focus exact hO2.out); rintro e w4 ⟨v', rfl, hO4, fq4⟩; obtain ⟨xm', capm', rfl⟩ := own_slice hO4; replace hO4 := Fp.hid hO4; have hT3 := hT2.call fq4; have hT4 := hT3.alloc #[.int .i64 size', .int .u64 boot', .int .u64 top', .slice xm' l'.length capm'] 38; clear q0 q1; have q1 := (hT4.has 1 rfl).cell)
    | (go_at_call 10; (with_reducible refine Calls.mono (d3 _ _ ?_) ?_); (focus exact (hT4.has 3 rfl)); rintro e w5 ⟨rfl, h5, f5⟩; have hT5 := hT4.put 3 rfl f5 h5; have hO5 := Fp.hid (own_frS f5 (hO4.out.alloc _) (own_ne (hO4.out.alloc _) (hT4.has 3 rfl) (by decide))); clear q1; have q0 := (hT5.has 0 rfl).cell; have q2 := (hT5.has 2 rfl).cell; have p2 := (hT5.has 2 rfl).froz)
    | (go_at_call 13; have hT6 := (((hT5.store 2 0 (.int .i64 size') rfl).store 2 1 (.int .u64 boot') rfl).store 2 2 (.int .u64 top') rfl).store 2 3 (.slice xm' l'.length capm') rfl; refine (win_Top g ⟨size', boot', top', seen', any'⟩ _ (hT6.has 3 rfl)).mono ?_; rintro e w7 ⟨rfl, f7⟩; have hT7 := hT6.call f7; have hO7 := Fp.hid (own_fr f7 (own_frS (S := [mb]) (by repeat (first | with_reducible exact Fr.refl _ _ | with_reducible apply Fr.drew | with_reducible apply Fr.alloc | with_reducible refine Fr.set ?_ (Or.inl (by simp)) _)) hO5.out (own_ne hO5.out (hT5.has 2 rfl) (by decide)))); clear q0 q2 p2)
    | (go_at_call 9; (with_reducible refine Calls.mono (a3 _ _ ?_) ?_); (focus exact (hT7.has 3 rfl).drew); rintro e w' ⟨rfl, hq⟩; subst w')
    | (go_at_call 11; (with_reducible refine Calls.mono (a4 _ l'.length _ ?_) ?_); (focus exact hO7.out.drew); rintro e w9 ⟨rfl, fq9⟩; have hT9 := hT7.call fq9; have hO9 := Fp.hid (own_fr fq9 hO7.out.drew)))
          refine ⟨⟨k + 1, ⟨size', boot', top', seen', any'⟩, l', .slice xm' l'.length capm', by omega, by go_num, HI.out, rfl, by have h1 := HL.out; have h2 := HL2.out; omega, hO9.out, (hT9.drop 0).drop 0⟩, by simp only [intOf]; omega⟩
      · have hk6 : (len : Int) ≤ k := by omega
        clear hc hx0
        go_wp2_with (first
    | (refine wp_region_text (id := 11) [0, 0, 1, 0, 1, 2, 1, 0, 1, 0, 1] Any Try.mixed (by kernel_rfl) trivial ?_)
    | (refine wp_region_text (id := 18) [0, 0, 1, 0, 0, 0, 0, 1, 0, 0, 0, 0, 0, 1, 0, 1, 2, 1, 0, 1, 0, 1] Any Try.mixed (by kernel_rfl) trivial ?_)
    | (refine wpT_0 (fun K hK => ?_); go_simp; refine hK _ ?_; clear hK K)
    | (refine wpT_1 (fun K hK => ?_); go_simp; refine hK _ ?_; clear hK K)
    | (refine wpT_tail (by rfl) ?_)
    | (refine wpT_2A (fun _ _ => ?_); rw [if_pos (by rfl)])
    | (refine wpT_nil ?_))
        exact hR.out _ _ ⟨rfl, hT.fr⟩
  · have c1 := fun w => win_New_no size w hs
    go_enter Try.func4, Try.ntmps4
    go_wp2_with (first
    | (refine wp_region_text (id := 11) [0, 0, 1, 0, 1, 2, 1, 0, 1, 0, 1] Any Try.mixed (by kernel_rfl) trivial ?_)
    | (refine wp_region_text (id := 18) [0, 0, 1, 0, 0, 0, 0, 1, 0, 0, 0, 0, 0, 1, 0, 1, 2, 1, 0, 1, 0, 1] Any Try.mixed (by kernel_rfl) trivial ?_)
    | (refine wpT_0 (fun K hK => ?_); go_simp; refine hK _ ?_; clear hK K)
    | (refine wpT_1 (fun K hK => ?_); go_simp; refine hK _ ?_; clear hK K)
    | (refine wpT_tail (by rfl) ?_)
    | (refine wpT_2A (fun _ _ => ?_); rw [if_pos (by rfl)])
    | (refine wpT_nil ?_)
    | (go_at_call 8; refine (law02_awake _).mono ?_; rintro e w' ⟨rfl, fq⟩; replace hT := hT.call fq)
    | (go_at_call 7; (with_reducible refine Calls.mono (c1 _) ?_); rintro e w' ⟨rfl, hq⟩; subst w'))
    all_goals exact hR.out _ _ ⟨rfl, hT.fr⟩
end Go.Proofs.Ytbjopppgiklfkaa
