/- THE WALK of TollBounds: within any ticks no more is taken than there was and came back. -/
import Derived.Test.YthbocbbbdjmfpaaLaw17a
import Derived.Deep.DeepCutAuto
import Derived.Deep.CutBlock
namespace Go.Proofs.Ythbocbbbdjmfpaa
open Go.RowKit Go.Fp

/-- What holds of the toll and of the law's sums. -/
def TbInv (r : RatesS) (s : TollS) (fr bl ow tk : Int) : Prop :=
  s.ok ∧ s.r = r ∧ s.ow = ow ∧ 0 ≤ ow ∧ ow ≤ bl ∧ s.bl + bl ≤ r.b + r.bt * tk ∧ s.fr + fr ≤ r.f + r.ft * tk ∧ 0 ≤ fr ∧ 0 ≤ tk ∧ tk ≤ 60000

theorem fill_le {a b c d : Int} (h1 : 0 ≤ b) (h6 : 0 ≤ d) : fillF a b c d ≤ a + b * d := by
  unfold fillF
  have := Int.mul_nonneg h1 h6
  split
  · rename_i hb
    split
    · rename_i h
      have h9 := (Int.ediv_le_iff_le_mul hb).1 h
      have : d * b = b * d := Int.mul_comm _ _
      omega
    · omega
  · omega

section
variable {r : RatesS} {s : TollS} {fr bl ow tk n : Int}

theorem TbInv.tick (h : TbInv r s fr bl ow tk) (h0 : 0 ≤ n) (h1 : tk + n ≤ 60000) : TbInv r (tickF s n).2 fr bl ow (tk + n) := by
  obtain ⟨h2, rfl, h3, h4, h5, h6, h7, h8, h9, h10⟩ := h
  have hk := tick_ok (n := n) h2
  have e : tickF s n = (0, { s with fr := fillF s.fr s.r.ft s.r.f n, bl := fillF s.bl s.r.bt s.r.b n }) := by unfold tickF; rw [if_neg (by omega)]
  rw [e] at hk ⊢
  have h2' := h2
  unfold TollS.ok RatesS.ok at h2'
  have a1 := fill_le (a := s.fr) (b := s.r.ft) (c := s.r.f) (d := n) (by omega) h0
  have a2 := fill_le (a := s.bl) (b := s.r.bt) (c := s.r.b) (d := n) (by omega) h0
  have d1 : s.r.bt * (tk + n) = s.r.bt * tk + s.r.bt * n := Int.mul_add _ _ _
  have d2 : s.r.ft * (tk + n) = s.r.ft * tk + s.r.ft * n := Int.mul_add _ _ _
  refine ⟨hk, rfl, h3, h4, h5, ?_, ?_, h8, by omega, by omega⟩
  · simp only; omega
  · simp only; omega

theorem TbInv.frame (h : TbInv r s fr bl ow tk) : ((frameF s n).1 = 0 ∧ TbInv r (frameF s n).2 (fr + 1) (bl + n) ow tk ∧ 0 ≤ n ∧ n ≤ 1073741824) ∨ (((frameF s n).1 == 0) = false ∧ TbInv r (frameF s n).2 fr bl ow tk) := by
  have h' := h
  obtain ⟨h2, rfl, h3, h4, h5, h6, h7, h8, h9, h10⟩ := h
  have hk := frame_ok (n := n) h2
  unfold TollS.ok RatesS.ok at h2
  unfold frameF at hk ⊢
  split
  · rename_i g; rw [if_pos g] at hk; exact .inr ⟨rfl, h'⟩
  · rename_i g1
    rw [if_neg g1] at hk
    split
    · exact .inr ⟨rfl, h'⟩
    · rename_i g2
      rw [if_neg g2] at hk
      split
      · exact .inr ⟨rfl, h'⟩
      · rename_i g3
        rw [if_neg g3] at hk
        exact .inl ⟨rfl, ⟨hk, rfl, h3, h4, by omega, by simp only; omega, by simp only; omega, by omega, h9, h10⟩, by omega, by omega⟩

theorem TbInv.hold (h : TbInv r s fr bl ow tk) (hb : bl ≤ 1125899906842624) : ((holdF s n).1 = 0 ∧ TbInv r (holdF s n).2 fr (bl + n) (ow + n) tk ∧ 0 ≤ n ∧ n ≤ 1073741824) ∨ (((holdF s n).1 == 0) = false ∧ TbInv r (holdF s n).2 fr bl ow tk) := by
  have h' := h
  obtain ⟨h2, rfl, h3, h4, h5, h6, h7, h8, h9, h10⟩ := h
  have hk := hold_ok (n := n) h2 (by omega)
  unfold TollS.ok RatesS.ok at h2
  unfold holdF at hk ⊢
  split
  · rename_i g; rw [if_pos g] at hk; exact .inr ⟨rfl, h'⟩
  · rename_i g1
    rw [if_neg g1] at hk
    split
    · exact .inr ⟨rfl, h'⟩
    · rename_i g2
      rw [if_neg g2] at hk
      exact .inl ⟨rfl, ⟨hk, rfl, by simp only; omega, by omega, by omega, by simp only; omega, by simp only; omega, by omega, h9, h10⟩, by omega, by omega⟩

theorem TbInv.settle (h : TbInv r s fr bl ow tk) : ((settleF s n).1 = 0 ∧ TbInv r (settleF s n).2 fr (bl - (ow - n)) 0 tk ∧ 0 ≤ n ∧ n ≤ ow) ∨ (((settleF s n).1 == 0) = false ∧ TbInv r (settleF s n).2 fr bl ow tk) := by
  have h' := h
  obtain ⟨h2, rfl, h3, h4, h5, h6, h7, h8, h9, h10⟩ := h
  have hk := settle_ok (n := n) h2
  unfold TollS.ok RatesS.ok at h2
  unfold settleF at hk ⊢
  split
  · rename_i g; rw [if_pos g] at hk; exact .inr ⟨rfl, h'⟩
  · rename_i g1
    rw [if_neg g1] at hk
    split
    · exact .inr ⟨rfl, h'⟩
    · rename_i g2
      rw [if_neg g2] at hk
      exact .inl ⟨rfl, ⟨hk, rfl, rfl, by omega, by omega, by simp only; omega, by simp only; omega, by omega, h9, h10⟩, by omega, by omega⟩
end

theorem TbInv.facts {r : RatesS} {s : TollS} {fr bl ow tk : Int} (h : TbInv r s fr bl ow tk) (h1 : 0 ≤ r.ft) (h2 : r.ft ≤ 1048576) (h3 : 0 ≤ r.bt) (h4 : r.bt ≤ 1048576) (h5 : r.f ≤ 1073741824) (h6 : r.b ≤ 1073741824) :
    0 ≤ s.fr ∧ s.fr ≤ r.f ∧ 0 ≤ s.bl ∧ s.bl ≤ r.b ∧ fr ≤ r.f + r.ft * tk ∧ bl ≤ r.b + r.bt * tk ∧ 0 ≤ r.ft * tk ∧ r.ft * tk ≤ 62914560000 ∧ 0 ≤ r.bt * tk ∧ r.bt * tk ≤ 62914560000 ∧ 0 ≤ tk ∧ tk ≤ 60000 ∧ 0 ≤ ow ∧ ow ≤ bl ∧ 0 ≤ fr ∧ bl ≤ 1125899906842624 := by
  obtain ⟨k1, rfl, k3, k4, k5, k6, k7, k8, k9, k10⟩ := h
  unfold TollS.ok RatesS.ok at k1
  have m1 := Int.mul_nonneg h1 k9
  have m2 := Int.mul_nonneg h3 k9
  have m3 := Int.mul_le_mul h2 k10 k9 (by omega)
  have m4 := Int.mul_le_mul h4 k10 k9 (by omega)
  omega

theorem mod1000 (n : Int) : 0 ≤ wrap64 ((IntKind.u64.wrap n).tmod 1000) ∧ wrap64 ((IntKind.u64.wrap n).tmod 1000) ≤ 999 := by
  have h : 0 ≤ IntKind.u64.wrap n := by simp [IntKind.wrap, IntKind.signed, IntKind.bits]; omega
  generalize IntKind.u64.wrap n = m at h
  have h1 : m.tmod 1000 = m % 1000 := Int.tmod_eq_emod_of_nonneg h
  rw [h1]
  unfold wrap64
  omega

/-- The loop's relation. -/
def TbRel (r : RatesS) (len g b : Nat) (W : World) (a7 a8 a9 a10 a37 : Value) (wr : World) : Prop :=
  ∃ (k : Nat) (s : TollS) (fr bl ow tk : Int), k ≤ len ∧ k ≤ 60 ∧ a37 = .int .i64 k ∧ a7 = .int .i64 fr ∧ a8 = .int .i64 bl ∧ a9 = .int .i64 ow ∧ a10 = .int .i64 tk ∧ tk ≤ 999 * k ∧ fr ≤ k ∧
    TbInv r s fr bl ow tk ∧ Has wr g 51 s.cs ∧ Has wr b 23 r.cs ∧ Fr [] W wr

/-- What stands when a step is done. -/
def TbMid (r : RatesS) (g b k : Nat) (wr : World) (a7 a8 a9 a10 : Value) (wx : World) : Prop :=
  ∃ (s : TollS) (fr bl ow tk : Int), a7 = .int .i64 fr ∧ a8 = .int .i64 bl ∧ a9 = .int .i64 ow ∧ a10 = .int .i64 tk ∧ tk ≤ 999 * (k + 1) ∧ fr ≤ k + 1 ∧
    TbInv r s fr bl ow tk ∧ Has wx g 51 s.cs ∧ Has wx b 23 r.cs ∧ Fr [g] wr wx

set_option maxRecDepth 100000 in
set_option maxHeartbeats 2000000 in
theorem law17_Bounds (r : RatesS) (x : Option Addr) (len cap B off : Nat) (w : World) (hx0 : 0 < len → x = some ⟨B, off, none⟩ ∧ B < w.heap.size) (hlen : len ≤ 9223372036854775807)
    (hc : ∀ i, i < len → ∃ kd n : Int, w.cell? ⟨B, off + i * 2, none⟩ = some (.int .i64 kd) ∧ w.cell? ⟨B, off + i * 2 + 1, none⟩ = some (.int .i64 n)) :
    Calls Try.prog 5 #[r.v, .slice x len cap] w fun e w' => e = .returned (.bool true) ∧ Fr [] w w' := by
  refine calls_cps fun R hR => ?_
  have c3 := law17_To r
  by_cases hr : r.ok ∧ r.ft ≤ 1048576 ∧ r.bt ≤ 1048576
  · obtain ⟨hr, hft, hbt⟩ := hr
    have hr' := hr
    obtain ⟨f, ft, b, bt⟩ := r
    unfold RatesS.ok at hr'
    obtain ⟨h1, h2, h3, h4, h5, h6, h7, h8⟩ := hr'
    simp only at hft hbt h1 h2 h3 h4 h5 h6 h7 h8
    have c1 := toll_New_ok ⟨f, ft, b, bt⟩ (hr := hr)
    have cM := fun t w h0 h1 => toll_Most_ok ⟨f, ft, b, bt⟩ t w hr h0 h1
    have Hr := Fp.hid hr
    clear hr
    simp only [RatesS.v, RatesS.cs] at c1 c3 cM ⊢
    go_enter Try.func5, Try.ntmps5
    go_wp2_with (first
    | (go_at_call 8; refine (c3 _).mono ?_; rintro e w1 ⟨rfl, f1⟩)
    | (go_at_call 7; refine (c1 _).mono ?_; rintro e w2 ⟨g, rfl, hg, h0, f2⟩; have hb1 := (f1.trans f2).has0 (Has.new w _ _); have hb2 := hb1.cell; have hgb : w.heap.size < g := (by have := f1.size; simp at this; omega)))
    go_loopw [7, 8, 9, 10, 37] (TbRel ⟨f, ft, b, bt⟩ len g w.heap.size w) (fun _ _ _ _ i _ => len - (intOf i).toNat)
    case atStart =>
      refine ⟨0, _, 0, 0, 0, 0, by omega, by omega, rfl, rfl, rfl, rfl, rfl, by omega, by omega, ?_, h0, hb1, ((Fr.refl _ _).alloc _).trans (f1.trans f2)⟩
      refine ⟨?_, rfl, rfl, by omega, by omega, by simp only; omega, by simp only; omega, by omega, by omega, by omega⟩
      exact ⟨Hr.out, by simp only; omega, by simp only; omega, by simp only; omega, by simp only; omega, by simp only; omega, by simp only; omega⟩
    case round =>
      obtain ⟨k, s, fr, bl, ow, tk, hk, hk60, rfl, rfl, rfl, rfl, rfl, htk, hfr, hI, hs, hb, hf⟩ := hrel
      simp only [RatesS.cs] at hb
      by_cases hlt : k < len
      · obtain ⟨rfl, hB⟩ := hx0 (by omega)
        by_cases h60 : k < 60
        · have hck := hc k hlt
          obtain ⟨kd, n, hck1, hck2⟩ := hck
          rw [← hf.cell hB (by simp)] at hck1 hck2
          have hgw := hs.lt
          have hs3 := hs.alloc (.cells #[.int .i64 kd, .int .i64 n] 38)
          have hb3 := hb.alloc (.cells #[.int .i64 kd, .int .i64 n] 38)
          have ho3 := Has.new wr #[.int .i64 kd, .int .i64 n] 38
          have hI3 := hI
          have hfa := hI.facts h3 hft h7 hbt h2 h6
          simp only at hfa
          obtain ⟨q1, q2, q3, q4, q5, q6, q7, q8, q9, q10, q11, q12, q13, q14, q15, q16⟩ := hfa
          have f3 := (Fr.refl [g] wr).alloc (.cells #[.int .i64 kd, .int .i64 n] 38)
          have hk1 : (k : Int) < 60 := by omega
          clear hc
          go_upto_block 2 with (fail)
          go_cut [7, 8, 9, 10] (fun s7 s8 s9 s10 wx => TbMid ⟨f, ft, b, bt⟩ g w.heap.size k wr s7 s8 s9 s10 wx)
          case first =>
            go_wp2_with (first
    | (go_at_call 14; obtain ⟨m, hm, m0, m9⟩ : ∃ m, wrap64 ((IntKind.u64.wrap n).tmod 1000) = m ∧ 0 ≤ m ∧ m ≤ 999 := ⟨_, rfl, mod1000 n⟩; rw [hm]; clear hm; refine (toll_Tick _ s m _ hI.1 hs3).mono ?_; rintro e w3 ⟨rfl, hs3, f3'⟩; have hI3 := hI.tick (n := m) m0 (by omega); generalize (tickF s m).2 = s3 at hs3 hI3; have f3 := f3.trans f3'; have hb3 := f3'.has hb3 (by simp; omega); have ho3 := f3'.has ho3 (by simp; omega); have hoc := ho3.cell)
    | (go_at_call 16; refine (toll_Frame _ s n _ hI.1 hs3).mono ?_; rintro e w3 ⟨rfl, hs3, f3'⟩; have hJ := hI.frame (n := n); generalize (frameF s n).2 = s3 at hs3 hJ; generalize (frameF s n).1 = rr at hJ; rcases hJ with ⟨rfl, hI3, n0, n9⟩ | ⟨hrr, hI3⟩ <;> ( have f3 := f3.trans f3'; have hb3 := f3'.has hb3 (by simp; omega); have ho3 := f3'.has ho3 (by simp; omega); have hoc := ho3.cell))
    | (go_at_call 18; refine (toll_Hold _ s n _ hI.1 hs3).mono ?_; rintro e w3 ⟨rfl, hs3, f3'⟩; have hJ := hI.hold (n := n) q16; generalize (holdF s n).2 = s3 at hs3 hJ; generalize (holdF s n).1 = rr at hJ; rcases hJ with ⟨rfl, hI3, n0, n9⟩ | ⟨hrr, hI3⟩ <;> ( have f3 := f3.trans f3'; have hb3 := f3'.has hb3 (by simp; omega); have ho3 := f3'.has ho3 (by simp; omega); have hoc := ho3.cell))
    | (go_at_call 20; refine (toll_Settle _ s n _ hI.1 hs3).mono ?_; rintro e w3 ⟨rfl, hs3, f3'⟩; have hJ := hI.settle (n := n); generalize (settleF s n).2 = s3 at hs3 hJ; generalize (settleF s n).1 = rr at hJ; rcases hJ with ⟨rfl, hI3, n0, n9⟩ | ⟨hrr, hI3⟩ <;> ( have f3 := f3.trans f3'; have hb3 := f3'.has hb3 (by simp; omega); have ho3 := f3'.has ho3 (by simp; omega); have hoc := ho3.cell)))
            all_goals (go_meet; exact ⟨_, _, _, _, _, rfl, rfl, rfl, rfl, by omega, by omega, hI3, hs3, hb3, f3⟩)
          case rest =>
            obtain ⟨s3, fr3, bl3, ow3, tk3, rfl, rfl, rfl, rfl, htk3, hfr3, hI3, hs3, hb3, f3⟩ := hcut
            clear ho3
            simp only [RatesS.cs] at hb3
            go_wp2_with (first
    | (go_at_call 21; refine (toll_Left g _ _ (by assumption)).mono ?_; rintro e w4 ⟨rfl, f4⟩; have hfa := hI3.facts h3 hft h7 hbt h2 h6; simp only at hfa; obtain ⟨p1, p2, p3, p4, p5, p6, p7, p8, p9, p10, p11, p12, p13, p14, p15, p16⟩ := hfa; have hb4 := f4.has0 hb3; have hbc4 := hb4.cell; have hs4 := f4.has0 hs3)
    | (go_at_call 8; refine (c3 _).mono ?_; rintro e w5 ⟨rfl, f5⟩; have hb5 := f5.has0 hb4; have hs5 := f5.has0 hs4)
    | (go_at_call 22; refine (cM _ _ p11 (by omega)).mono ?_; rintro e w6 ⟨rfl, f6⟩; have hb6 := f6.has0 hb5; have hbc6 := hb6.cell; have hs6 := f6.has0 hs5; simp only [mostF]))
            go_roundw
            case rel =>
              refine ⟨k + 1, _, _, _, _, _, by omega, by omega, by go_num, rfl, rfl, rfl, rfl, by omega, by omega, hI3, hs6, hb6, ?_⟩
              exact hf.step (((f3.trans (f4.weaken (by simp))).trans (f5.weaken (by simp))).trans (f6.weaken (by simp))) (fun x hx => by simp at hx; subst hx; right; omega)
            case measure => simp [intOf]; omega
        · have hck := hc k hlt
          obtain ⟨kd, n, hck1, hck2⟩ := hck
          rw [← hf.cell hB (by simp)] at hck1 hck2
          have hk6 : (60 : Int) ≤ k := by omega
          clear hc
          go_wp2_with (first
    | (go_at_call 11; refine (law17_awake _).mono ?_; rintro e w9 ⟨rfl, f9⟩))
          exact hR.out _ _ ⟨rfl, (hf.alloc _).trans f9⟩
      · have hk6 : (len : Int) ≤ k := by omega
        clear hc
        go_wp2_with (first
    | (go_at_call 11; refine (law17_awake _).mono ?_; rintro e w9 ⟨rfl, f9⟩))
        exact hR.out _ _ ⟨rfl, hf.trans f9⟩
  · by_cases hk : r.ok
    · have hx : 1048576 < r.ft ∨ 1048576 < r.bt := by
        rcases Int.lt_or_le 1048576 r.ft with h | h
        · exact .inl h
        · exact .inr (Int.not_le.1 fun h' => hr ⟨hk, h, h'⟩)
      clear hr
      obtain ⟨f, ft, b, bt⟩ := r
      have c1 := toll_New_ok ⟨f, ft, b, bt⟩ (hr := hk)
      clear hk
      simp only [RatesS.v, RatesS.cs] at c1 c3 hx ⊢
      by_cases hx1 : 1048576 < ft
      · clear hx
        go_enter Try.func5, Try.ntmps5
        go_wp2_with (first
    | (go_at_call 11; refine (law17_awake _).mono ?_; rintro e w9 ⟨rfl, f9⟩)
    | (go_at_call 8; refine (c3 _).mono ?_; rintro e w1 ⟨rfl, f1⟩)
    | (go_at_call 7; refine (c1 _).mono ?_; rintro e w2 ⟨g, rfl, hg, h0, f2⟩; have hb1 := (f1.trans f2).has0 (Has.new w _ _); have hb2 := hb1.cell))
        exact hR.out _ _ ⟨rfl, (((Fr.refl _ _).alloc _).trans (f1.trans f2)).trans f9⟩
      · have hx2 : 1048576 < bt := by omega
        have hx3 : ft ≤ 1048576 := by omega
        clear hx hx1
        go_enter Try.func5, Try.ntmps5
        go_wp2_with (first
    | (go_at_call 11; refine (law17_awake _).mono ?_; rintro e w9 ⟨rfl, f9⟩)
    | (go_at_call 8; refine (c3 _).mono ?_; rintro e w1 ⟨rfl, f1⟩)
    | (go_at_call 7; refine (c1 _).mono ?_; rintro e w2 ⟨g, rfl, hg, h0, f2⟩; have hb1 := (f1.trans f2).has0 (Has.new w _ _); have hb2 := hb1.cell))
        exact hR.out _ _ ⟨rfl, (((Fr.refl _ _).alloc _).trans (f1.trans f2)).trans f9⟩
    · clear hr
      obtain ⟨f, ft, b, bt⟩ := r
      have c1 := toll_New_no ⟨f, ft, b, bt⟩ (hr := hk)
      clear hk
      simp only [RatesS.v, RatesS.cs] at c1 c3 ⊢
      go_enter Try.func5, Try.ntmps5
      go_wp2_with (first
    | (go_at_call 11; refine (law17_awake _).mono ?_; rintro e w9 ⟨rfl, f9⟩)
    | (go_at_call 8; refine (c3 _).mono ?_; rintro e w1 ⟨rfl, f1⟩)
    | (go_at_call 7; refine (c1 _).mono ?_; rintro e w2 ⟨rfl, f2⟩))
      exact hR.out _ _ ⟨rfl, (((Fr.refl _ _).alloc _).trans (f1.trans f2)).trans f9⟩
end Go.Proofs.Ythbocbbbdjmfpaa
