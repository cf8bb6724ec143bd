/- THE WALKS of package rank and of its document: keys. -/
import Derived.Test.YtonbjealgdmngaaBase
namespace Go.Proofs.Ytonbjealgdmngaa
open Go.RowKit Go.Fp

def kRight (e s m : Int) : Bool := decide (e ≤ 65536 ∧ s < 64 ∧ 0 ≤ m ∧ m ≤ 15)
def kNewer (e s e' s' : Int) : Bool := decide (e' < e ∨ (e = e' ∧ s' < s))
def kCmp (e s m e' s' m' : Int) : Int := if e ≠ e' then (if e' < e then 1 else -1) else if s ≠ s' then (if s' < s then 1 else -1) else if m ≠ m' then (if m < m' then 1 else -1) else 0

set_option maxHeartbeats 400000 in
theorem rank_Right (e s m : Int) (w : World) : Calls Try.prog 23 #[.agg #[.int .u32 e, .int .u32 s, .int .i64 m]] w fun en w' => en = .returned (.bool (kRight e s m)) ∧ Fr [] w w' := by
  refine calls_cps fun R hR => ?_
  by_cases h1 : e ≤ 65536
  · by_cases h2 : s < 64
    · by_cases h3 : 0 ≤ m
      · go_enter Try.func23, Try.ntmps23
        go_wp2_with fail
        refine hR.out _ _ ⟨ret_bool ?_, (Fr.refl _ _).alloc _⟩
        simp [kRight, h1, h2, h3]
      · have h3' : m < 0 := by omega
        go_enter Try.func23, Try.ntmps23
        go_wp2_with fail
        refine hR.out _ _ ⟨ret_bool ?_, (Fr.refl _ _).alloc _⟩
        simp [kRight, h1, h2]; omega
    · have h2' : 64 ≤ s := by omega
      go_enter Try.func23, Try.ntmps23
      go_wp2_with fail
      refine hR.out _ _ ⟨ret_bool ?_, (Fr.refl _ _).alloc _⟩
      simp [kRight, h1]; omega
  · have h1' : 65536 < e := by omega
    go_enter Try.func23, Try.ntmps23
    go_wp2_with fail
    refine hR.out _ _ ⟨ret_bool ?_, (Fr.refl _ _).alloc _⟩
    simp [kRight]; omega

set_option maxHeartbeats 400000 in
theorem ref01_Right (e s m : Int) (w : World) : Calls Try.prog 14 #[.agg #[.int .u32 e, .int .u32 s, .int .i64 m]] w fun en w' => en = .returned (.bool (kRight e s m)) ∧ Fr [] w w' := by
  refine calls_cps fun R hR => ?_
  by_cases h1 : e ≤ 65536
  · by_cases h2 : s < 64
    · have h2a : s ≤ 63 := by omega
      by_cases h3 : 0 ≤ m
      · go_enter Try.func14, Try.ntmps14
        go_wp2_with fail
        refine hR.out _ _ ⟨ret_bool ?_, (Fr.refl _ _).alloc _⟩
        simp [kRight, h1, h2, h3]
      · have h3' : m < 0 := by omega
        go_enter Try.func14, Try.ntmps14
        go_wp2_with fail
        refine hR.out _ _ ⟨ret_bool ?_, (Fr.refl _ _).alloc _⟩
        simp [kRight, h1, h2]; omega
    · have h2' : 63 < s := by omega
      go_enter Try.func14, Try.ntmps14
      go_wp2_with fail
      refine hR.out _ _ ⟨ret_bool ?_, (Fr.refl _ _).alloc _⟩
      simp [kRight, h1]; omega
  · have h1' : 65536 < e := by omega
    go_enter Try.func14, Try.ntmps14
    go_wp2_with fail
    refine hR.out _ _ ⟨ret_bool ?_, (Fr.refl _ _).alloc _⟩
    simp [kRight]; omega

theorem rank_sign (b : Bool) (w : World) : Calls Try.prog 27 #[.bool b] w fun en w' => en = .returned (.int .i64 (if b = true then 1 else -1)) ∧ w' = w := by
  refine calls_cps fun R hR => ?_
  cases b
  · go_enter Try.func27, Try.ntmps27
    go_wp2_with fail
    exact hR.out _ _ ⟨rfl, rfl⟩
  · go_enter Try.func27, Try.ntmps27
    go_wp2_with fail
    exact hR.out _ _ ⟨rfl, rfl⟩

set_option maxHeartbeats 800000 in
theorem rank_Compare (e s m e' s' m' : Int) (w : World) : Calls Try.prog 26 #[.agg #[.int .u32 e, .int .u32 s, .int .i64 m], .agg #[.int .u32 e', .int .u32 s', .int .i64 m']] w fun en w' => en = .returned (.int .i64 (kCmp e s m e' s' m')) ∧ Fr [] w w' := by
  refine calls_cps fun R hR => ?_
  by_cases h1 : e = e'
  · subst h1
    by_cases h2 : s = s'
    · subst h2
      by_cases h3 : m = m'
      · subst h3
        go_enter Try.func26, Try.ntmps26
        go_wp2_with fail
        refine hR.out _ _ ⟨ret_int ?_, ((Fr.refl _ _).alloc _).alloc _⟩
        simp [kCmp]
      · have h3' : (m != m') = true := by simpa using h3
        have HS := Fp.hid (show (if decide (m < m') = true then (1 : Int) else -1) = kCmp e s m e s m' by simp [kCmp, h3])
        clear h3
        go_enter Try.func26, Try.ntmps26
        go_wp2_with (first
    | (go_at_call 27; (with_reducible refine Calls.mono (rank_sign _ _) ?_); rintro e w' ⟨rfl, hq⟩; subst w'))
        all_goals exact hR.out _ _ ⟨ret_int (by rw [← HS.out]; first | rw [if_pos (by simp; omega)] | rw [if_neg (by simp; omega)]), ((Fr.refl _ _).alloc _).alloc _⟩
    · have h2' : (s != s') = true := by simpa using h2
      have HS := Fp.hid (show (if decide (s' < s) = true then (1 : Int) else -1) = kCmp e s m e s' m' by simp [kCmp, h2])
      clear h2
      go_enter Try.func26, Try.ntmps26
      go_wp2_with (first
    | (go_at_call 27; (with_reducible refine Calls.mono (rank_sign _ _) ?_); rintro e w' ⟨rfl, hq⟩; subst w'))
      all_goals exact hR.out _ _ ⟨ret_int (by rw [← HS.out]; first | rw [if_pos (by simp; omega)] | rw [if_neg (by simp; omega)]), ((Fr.refl _ _).alloc _).alloc _⟩
  · have h1' : (e != e') = true := by simpa using h1
    have HS := Fp.hid (show (if decide (e' < e) = true then (1 : Int) else -1) = kCmp e s m e' s' m' by simp [kCmp, h1])
    clear h1
    go_enter Try.func26, Try.ntmps26
    go_wp2_with (first
    | (go_at_call 27; (with_reducible refine Calls.mono (rank_sign _ _) ?_); rintro e w' ⟨rfl, hq⟩; subst w'))
    all_goals exact hR.out _ _ ⟨ret_int (by rw [← HS.out]; first | rw [if_pos (by simp; omega)] | rw [if_neg (by simp; omega)]), ((Fr.refl _ _).alloc _).alloc _⟩

set_option maxHeartbeats 800000 in
theorem rank_Newer (e s m e' s' m' : Int) (w : World) : Calls Try.prog 24 #[.agg #[.int .u32 e, .int .u32 s, .int .i64 m], .agg #[.int .u32 e', .int .u32 s', .int .i64 m']] w fun en w' => en = .returned (.bool (kNewer e s e' s')) ∧ Fr [] w w' := by
  refine calls_cps fun R hR => ?_
  have HS := Fp.hid (show decide (kCmp e s 0 e' s' 0 > 0) = kNewer e s e' s' by unfold kCmp kNewer; (repeat' split) <;> simp <;> omega)
  go_enter Try.func24, Try.ntmps24
  go_wp2_with (first
    | (go_at_call 26; (with_reducible refine Calls.mono (rank_Compare _ _ _ _ _ _ _) ?_); rintro e w' ⟨rfl, fq⟩))
  refine hR.out _ _ ⟨ret_bool ?_, ?_⟩
  · rw [← HS.out]
  · exact (((Fr.refl _ _).alloc _).alloc _).trans fq

set_option maxHeartbeats 400000 in
theorem ref01_Newer (e s m e' s' m' : Int) (w : World) : Calls Try.prog 11 #[.agg #[.int .u32 e, .int .u32 s, .int .i64 m], .agg #[.int .u32 e', .int .u32 s', .int .i64 m']] w fun en w' => en = .returned (.bool (kNewer e s e' s')) ∧ Fr [] w w' := by
  refine calls_cps fun R hR => ?_
  by_cases h1 : e' < e
  · go_enter Try.func11, Try.ntmps11
    go_wp2_with fail
    refine hR.out _ _ ⟨ret_bool ?_, ((Fr.refl _ _).alloc _).alloc _⟩
    simp [kNewer, h1]
  · have h1' : e ≤ e' := by omega
    by_cases h2 : e = e'
    · subst h2
      clear h1 h1'
      go_enter Try.func11, Try.ntmps11
      go_wp2_with fail
      refine hR.out _ _ ⟨ret_bool ?_, ((Fr.refl _ _).alloc _).alloc _⟩
      simp [kNewer]
    · have h2' : (e == e') = false := by simpa using h2
      go_enter Try.func11, Try.ntmps11
      go_wp2_with fail
      refine hR.out _ _ ⟨ret_bool ?_, ((Fr.refl _ _).alloc _).alloc _⟩
      simp [kNewer]; omega

set_option maxHeartbeats 400000 in
theorem law01_To (e s m : Int) (w : World) : Calls Try.prog 10 #[.agg #[.int .u32 e, .int .u32 s, .int .i64 m]] w fun en w' => en = .returned (.agg #[.int .u32 e, .int .u32 s, .int .i64 m]) ∧ Fr [] w w' := by
  refine calls_cps fun R hR => ?_
  go_enter Try.func10, Try.ntmps10
  go_wp2_with fail
  refine bodyPost_ret ?_ rfl (hR.out _ _ ⟨rfl, by repeat (first | with_reducible exact Fr.refl _ _ | with_reducible apply Fr.drew | with_reducible apply Fr.alloc | with_reducible refine Fr.set ?_ (Or.inl (by simp)) _)⟩)
  simp [results, Try.results10, go_sem]
end Go.Proofs.Ytonbjealgdmngaa
