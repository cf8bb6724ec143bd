/- SettleUrgent: the plain law, and the walk. -/
import Derived.Test.YtonbjealgdmngaaLaw20a
namespace Go.Proofs.Ytonbjealgdmngaa
open Go.RowKit Go.Fp

theorem filter_one (c : Nat → Bool) (d : Nat) : ∀ n, (∀ i, i < n → i ≠ d → c i = false) → (List.range n).filter c = if decide (d < n) && c d then [d] else []
  | 0, _ => by simp
  | n + 1, h => by
    rw [List.range_succ, List.filter_append, filter_one c d n (fun i hi hne => h i (by omega) hne)]
    by_cases e : n = d
    · subst e
      cases hc : c n <;> simp [hc]
    · rw [show List.filter c [n] = [] by simp [h n (by omega) e], List.append_nil]
      have : decide (d < n + 1) = decide (d < n) := by rw [decide_eq_decide]; omega
      rw [this]

def ur1 (st : Int) : PlanS := fullS (plan0 1000 st) 0
def ur2 (st : Int) (d : Nat) (e s m : Int) : PlanS := noteS (ur1 st) 1 d e s m false
def ur3 (st : Int) (d : Nat) (e s m wt : Int) : PlanS := dueS (ur2 st d e s m) (1 + wt)
def ur4 (st : Int) (d : Nat) (e s m wt : Int) : PlanS := noteS (ur3 st d e s m wt) (1 + wt) d e s m true
def ur5 (st : Int) (d : Nat) (e s m wt : Int) : PlanS := dueS (ur4 st d e s m wt) (1 + wt)

section
variable {st : Int} {d : Nat} {e s m wt : Int} (h0 : 1 ≤ st) (h1 : st ≤ 100) (hd : d < 8) (w0 : 0 ≤ wt) (w1 : wt ≤ 255)
include h0 h1 in
theorem ur1_ok : (ur1 st).ok := fullS_ok (plan0_ok (by unfold rulesB; exact decide_eq_true (by omega))) (by omega)
theorem ur1_l (i : Nat) (_h : i < 8) : (ur1 st).l i = ⟨0, 0, 0, false, 0, false, false⟩ := by
  simp only [ur1, fullS, clrTo, plan0, news0, clrN]; split <;> rfl
include h0 h1 in
theorem ur2_ok : (ur2 st d e s m).ok := noteS_ok (ur1_ok h0 h1) (by omega) _ _ _ _ _
theorem ur2_d (hd : d < 8) : (ur2 st d e s m).l d = ⟨e, s, m, true, 1, true, false⟩ := by
  simp only [ur2, noteS, upd_same, noteN, ur1_l d hd]; rfl
theorem ur2_o {i : Nat} (hi : i < 8) (hne : i ≠ d) : (ur2 st d e s m).l i = ⟨0, 0, 0, false, 0, false, false⟩ := by
  simp only [ur2, noteS, upd_other _ _ hne, ur1_l i hi]
include w1 in
theorem ur2_full : fullB (ur2 st d e s m) (1 + wt) = false := by
  have h : fullB (ur2 st d e s m) (1 + wt) = (false || decide ((1000 : Int) ≤ 1 + wt - 0)) := rfl
  rw [h]; simp; omega
include hd in
theorem ur2_due : dueL (ur2 st d e s m) (1 + wt) 8 = if decide (st ≤ wt) then [d] else [] := by
  unfold dueL
  rw [filter_one _ d 8 (fun i hi hne => by unfold settledB; rw [ur2_o hi hne]; rfl)]
  have : settledB (ur2 st d e s m) (1 + wt) ((ur2 st d e s m).l d) = decide (st ≤ wt) := by
    unfold settledB; rw [ur2_d hd]
    have : (ur2 st d e s m).settle = st := rfl
    rw [this]
    simp only [Bool.true_and, Bool.false_or, decide_eq_decide]; omega
  rw [this]; simp [hd]
include h0 h1 in
theorem ur3_ok : (ur3 st d e s m wt).ok := dueS_ok (ur2_ok h0 h1) _
theorem ur3_o {i : Nat} (hi : i < 8) (hne : i ≠ d) : ((ur3 st d e s m wt).l i).waits = false := by
  simp only [ur3, dueS, clrTo]; split
  · rfl
  · rw [ur2_o hi hne]
include h0 h1 w0 w1 in
theorem ur4_ok : (ur4 st d e s m wt).ok := noteS_ok (ur3_ok h0 h1) (by omega) _ _ _ _ _
theorem ur4_d : ((ur4 st d e s m wt).l d).waits = true ∧ ((ur4 st d e s m wt).l d).urgent = true := by
  simp only [ur4, noteS, upd_same, noteN]; simp
theorem ur4_o {i : Nat} (hi : i < 8) (hne : i ≠ d) : ((ur4 st d e s m wt).l i).waits = false := by
  simp only [ur4, noteS, upd_other _ _ hne]; exact ur3_o hi hne
include w1 in
theorem ur4_full : fullB (ur4 st d e s m wt) (1 + wt) = false := by
  have h : fullB (ur4 st d e s m wt) (1 + wt) = (false || decide ((1000 : Int) ≤ 1 + wt - 0)) := rfl
  rw [h]; simp; omega
theorem ur4_s (now : Int) : settledB (ur4 st d e s m wt) now ((ur4 st d e s m wt).l d) = true := by
  unfold settledB; rw [ur4_d.1, ur4_d.2]; rfl
include hd in
theorem ur4_due : dueL (ur4 st d e s m wt) (1 + wt) 8 = [d] := by
  unfold dueL
  rw [filter_one _ d 8 (fun i hi hne => by unfold settledB; rw [ur4_o hi hne]; rfl), ur4_s]; simp [hd]
theorem ur5_waits : waitL (ur5 st d e s m wt) 8 = [] := by
  unfold waitL
  rw [filter_one _ d 8 (fun i hi hne => by simp only [ur5, dueS, clrTo]; split; rfl; exact ur4_o hi hne)]
  have : ((ur5 st d e s m wt).l d).waits = false ∨ ¬ d < 8 := by
    by_cases h : d < 8
    · left
      simp only [ur5, dueS, clrTo]
      rw [if_pos (by rw [ur4_s]; simp [h])]
      rfl
    · exact .inr h
  rcases this with h | h <;> simp [h]
end

theorem own_list {w : World} {base e : Nat} {v : Value} {l : List Nat} (h : w.ownsRow base e 1 v l.length (i64s l)) : ∃ x cap, v = .slice x l.length cap := own_slice h
theorem own_cell1 {w : World} {base e : Nat} {v : Value} {d : Nat} (h : w.ownsRow base e 1 v [d].length (i64s [d])) : ∃ g cap, v = .slice (some ⟨g, 0, none⟩) 1 cap ∧ 1 ≤ cap ∧ cap ≤ 9223372036854775807 ∧ w.cell? ⟨g, 0, none⟩ = some (.int .i64 d) := by
  obtain ⟨_, x, cap, g, rfl, h1, h2, h3, h4⟩ := own_read h
  obtain ⟨rfl, _⟩ := h3 (by simp)
  have h5 := h4 0 (by simp)
  simp [i64s] at h5
  unfold maxLen at h2
  exact ⟨g, cap, rfl, by simpa using h1, h2, h5⟩

theorem settle_Waits' {g : Nat} {p : PlanS} {w : World} {l : List Nat} (hl : waitL p 8 = l) (h : Has w g 72 p.cs) :
    Calls Try.prog 13 #[.pointer (some ⟨g, 0, none⟩)] w fun e w' => ∃ v, e = .returned v ∧ w'.ownsRow w.heap.size 3 1 v l.length (i64s l) ∧ Fr [] w w' := by
  subst hl; exact settle_Waits g p w h

set_option maxHeartbeats 4000000 in
theorem law20_Urgent (r0 r1 e s m dest wt : Int) (w : World) (w0 : 0 ≤ wt) (w1 : wt ≤ 255) :
    Calls Try.prog 4 #[.agg #[.int .i64 r0, .int .i64 r1], .agg #[.int .u32 e, .int .u32 s, .int .i64 m], .int .i64 dest, .int .u8 wt] w fun en w' => en = .returned (.bool true) ∧ Fr [] w w' := by
  have hT := ((Trk.refl w).alloc #[.int .i64 1000, .int .i64 (1 + r1 % 18446744073709551616 % 100)] 23).alloc #[.int .u32 e, .int .u32 s, .int .i64 m] 36
  rw [show (w.alloc (.cells #[.int .i64 1000, .int .i64 (1 + r1 % 18446744073709551616 % 100)] 23 (0, 0))).heap.size = w.heap.size + 1 by simp] at hT
  have qk := (hT.has 0 rfl).cell
  have qr := (hT.has 1 rfl).cell
  have hu : IntKind.u64.wrap r1 = r1 % 18446744073709551616 := by simp [IntKind.wrap, IntKind.bits, IntKind.signed]
  have hs1 : 1 ≤ (1 + r1 % 18446744073709551616 % 100) := by omega
  have hs2 : (1 + r1 % 18446744073709551616 % 100) ≤ 100 := by omega
  have cNew := fun w => settle_New_ok 1000 (1 + r1 % 18446744073709551616 % 100) w (by unfold rulesB; exact decide_eq_true (by omega))
  have cR := ref01_Right e s m
  refine calls_cps fun R hR => ?_
  cases hk : kRight e s m
  · rw [hk] at cR
    go_enter Try.func4, Try.ntmps4
    go_wp2_with (first
    | (go_at_call 7; (with_reducible refine Calls.mono (cNew _) ?_); rintro e1 w1 ⟨g, rfl, hg, h1, f1⟩; replace hT := hT.new f1 hg h1; clear qk qr; have qk := (hT.has 1 rfl).cell; have qr := (hT.has 2 rfl).cell)
    | (go_at_call 8; (with_reducible refine Calls.mono (law20_awake _) ?_); rintro e1 w1 ⟨rfl, fq⟩; replace hT := hT.call fq; clear qk qr; have qk := (hT.has 1 rfl).cell; have qr := (hT.has 2 rfl).cell)
    | (go_at_call 14; (with_reducible refine Calls.mono (cR _) ?_); rintro e1 w1 ⟨rfl, fq⟩; replace hT := hT.call fq; clear qk qr; have qk := (hT.has 1 rfl).cell; have qr := (hT.has 2 rfl).cell))
    exact hR.out _ _ ⟨rfl, hT.fr⟩
  rw [hk] at cR
  by_cases hd0 : dest < 0
  · go_enter Try.func4, Try.ntmps4
    go_wp2_with (first
    | (go_at_call 7; (with_reducible refine Calls.mono (cNew _) ?_); rintro e1 w1 ⟨g, rfl, hg, h1, f1⟩; replace hT := hT.new f1 hg h1; clear qk qr; have qk := (hT.has 1 rfl).cell; have qr := (hT.has 2 rfl).cell)
    | (go_at_call 8; (with_reducible refine Calls.mono (law20_awake _) ?_); rintro e1 w1 ⟨rfl, fq⟩; replace hT := hT.call fq; clear qk qr; have qk := (hT.has 1 rfl).cell; have qr := (hT.has 2 rfl).cell)
    | (go_at_call 14; (with_reducible refine Calls.mono (cR _) ?_); rintro e1 w1 ⟨rfl, fq⟩; replace hT := hT.call fq; clear qk qr; have qk := (hT.has 1 rfl).cell; have qr := (hT.has 2 rfl).cell))
    exact hR.out _ _ ⟨rfl, hT.fr⟩
  by_cases hd8 : 8 ≤ dest
  · go_enter Try.func4, Try.ntmps4
    go_wp2_with (first
    | (go_at_call 7; (with_reducible refine Calls.mono (cNew _) ?_); rintro e1 w1 ⟨g, rfl, hg, h1, f1⟩; replace hT := hT.new f1 hg h1; clear qk qr; have qk := (hT.has 1 rfl).cell; have qr := (hT.has 2 rfl).cell)
    | (go_at_call 8; (with_reducible refine Calls.mono (law20_awake _) ?_); rintro e1 w1 ⟨rfl, fq⟩; replace hT := hT.call fq; clear qk qr; have qk := (hT.has 1 rfl).cell; have qr := (hT.has 2 rfl).cell)
    | (go_at_call 14; (with_reducible refine Calls.mono (cR _) ?_); rintro e1 w1 ⟨rfl, fq⟩; replace hT := hT.call fq; clear qk qr; have qk := (hT.has 1 rfl).cell; have qr := (hT.has 2 rfl).cell))
    exact hR.out _ _ ⟨rfl, hT.fr⟩
  obtain ⟨d, rfl⟩ : ∃ d : Nat, dest = d := ⟨dest.toNat, by omega⟩
  have hd : d < 8 := by omega
  have cD1 := fun g w' h => settle_Due_f (g := g) (w := w') (q := ur1 (1 + r1 % 18446744073709551616 % 100)) rfl rfl (by omega) (plan0_ok (p := 1000) (s := (1 + r1 % 18446744073709551616 % 100)) (by unfold rulesB; exact decide_eq_true (by omega))) h
  have cN1 := fun g w' h => settle_Note' (g := g) (w := w') (p := ur1 (1 + r1 % 18446744073709551616 % 100)) (q := ur2 (1 + r1 % 18446744073709551616 % 100) d e s m) (now := 1) (u := false) rfl rfl hd (by omega) hk h
  have cD2 := fun g w' l hl h => settle_Due_p (g := g) (w := w') (p := ur2 (1 + r1 % 18446744073709551616 % 100) d e s m) (q := ur3 (1 + r1 % 18446744073709551616 % 100) d e s m wt) (now := 1 + wt) (l := l) rfl hl (ur2_full w1) (by omega) (ur2_ok hs1 hs2) h
  have cN2 := fun g w' h => settle_Note' (g := g) (w := w') (p := ur3 (1 + r1 % 18446744073709551616 % 100) d e s m wt) (q := ur4 (1 + r1 % 18446744073709551616 % 100) d e s m wt) (now := 1 + wt) (u := true) rfl rfl hd (by omega) hk h
  have cD3 := fun g w' h => settle_Due_p (g := g) (w := w') (p := ur4 (1 + r1 % 18446744073709551616 % 100) d e s m wt) (q := ur5 (1 + r1 % 18446744073709551616 % 100) d e s m wt) (now := 1 + wt) (l := [d]) rfl (ur4_due hd) (ur4_full w1) (by omega) (ur4_ok hs1 hs2 w0 w1) h
  have cW := fun g w' h => settle_Waits' (g := g) (w := w') (p := ur5 (1 + r1 % 18446744073709551616 % 100) d e s m wt) (l := []) ur5_waits h
  have hdu := ur2_due (st := (1 + r1 % 18446744073709551616 % 100)) (e := e) (s := s) (m := m) (wt := wt) hd
  by_cases hw : (1 + r1 % 18446744073709551616 % 100) ≤ wt
  · rw [decide_eq_true hw] at hdu
    replace cD2 := fun g w' h => cD2 g w' [d] hdu h
    clear hdu
    go_enter Try.func4, Try.ntmps4
    go_wp2_with (first
    | (go_at_call 7; (with_reducible refine Calls.mono (cNew _) ?_); rintro e1 w1 ⟨g, rfl, hg, h1, f1⟩; replace hT := hT.new f1 hg h1; clear qk qr; have qk := (hT.has 1 rfl).cell; have qr := (hT.has 2 rfl).cell)
    | (go_at_call 8; (with_reducible refine Calls.mono (law20_awake _) ?_); rintro e1 w1 ⟨rfl, fq⟩; replace hT := hT.call fq; clear qk qr; have qk := (hT.has 1 rfl).cell; have qr := (hT.has 2 rfl).cell)
    | (go_at_call 14; (with_reducible refine Calls.mono (cR _) ?_); rintro e1 w1 ⟨rfl, fq⟩; replace hT := hT.call fq; clear qk qr; have qk := (hT.has 1 rfl).cell; have qr := (hT.has 2 rfl).cell)
    | (go_at_call 12; (fail_if_success (have _z := hD1)); (with_reducible refine Calls.mono (cD1 _ _ ?_) ?_); (focus exact hT.has 0 rfl); rintro e1 w1 ⟨rfl, h1, f1⟩; have hD1 : True := trivial; replace hT := hT.put 0 rfl f1 h1; clear qk qr; have qk := (hT.has 1 rfl).cell; have qr := (hT.has 2 rfl).cell)
    | (go_at_call 9; (fail_if_success (have _z := hN1)); (with_reducible refine Calls.mono (cN1 _ _ ?_) ?_); (focus exact hT.has 0 rfl); rintro e1 w1 ⟨rfl, h1, f1⟩; have hN1 : True := trivial; replace hT := hT.put 0 rfl f1 h1; clear qk qr; have qk := (hT.has 1 rfl).cell; have qr := (hT.has 2 rfl).cell)
    | (go_at_call 10; (with_reducible refine Calls.mono (law01_To _ _ _ _) ?_); rintro e1 w1 ⟨rfl, fq⟩; replace hT := hT.call fq; clear qk qr; have qk := (hT.has 1 rfl).cell; have qr := (hT.has 2 rfl).cell)
    | (go_at_call 12; (fail_if_success (have _z := hD2)); (with_reducible refine Calls.mono (cD2 _ _ ?_) ?_); (focus exact hT.has 0 rfl); rintro e1 w1 ⟨v2, rfl, o2, h1, f1⟩; have hD2 : True := trivial; replace hT := hT.put 0 rfl f1 h1; clear qk qr; have qk := (hT.has 1 rfl).cell; have qr := (hT.has 2 rfl).cell; obtain ⟨g2, cap2, rfl, k20, k21, k22⟩ := own_cell1 o2)
    | (go_at_call 9; (fail_if_success (have _z := hN2)); (with_reducible refine Calls.mono (cN2 _ _ ?_) ?_); (focus exact hT.has 0 rfl); rintro e1 w1 ⟨rfl, h1, f1⟩; have hN2 : True := trivial; replace hT := hT.put 0 rfl f1 h1; clear qk qr; have qk := (hT.has 1 rfl).cell; have qr := (hT.has 2 rfl).cell)
    | (go_at_call 12; (fail_if_success (have _z := hD3)); (with_reducible refine Calls.mono (cD3 _ _ ?_) ?_); (focus exact hT.has 0 rfl); rintro e1 w1 ⟨v3, rfl, o3, h1, f1⟩; have hD3 : True := trivial; replace hT := hT.put 0 rfl f1 h1; clear qk qr; have qk := (hT.has 1 rfl).cell; have qr := (hT.has 2 rfl).cell; obtain ⟨g3, cap3, rfl, k30, k31, k32⟩ := own_cell1 o3)
    | (go_at_call 13; (with_reducible refine Calls.mono (cW _ _ ?_) ?_); (focus exact hT.has 0 rfl); rintro e1 w1 ⟨v5, rfl, o5, fq⟩; replace hT := hT.call fq; obtain ⟨x5, cap5, rfl⟩ := own_slice o5))
    exact hR.out _ _ ⟨rfl, hT.fr⟩
  · have hw' : wt < (1 + r1 % 18446744073709551616 % 100) := by omega
    rw [decide_eq_false hw] at hdu
    replace cD2 := fun g w' h => cD2 g w' [] hdu h
    clear hdu
    go_enter Try.func4, Try.ntmps4
    go_wp2_with (first
    | (go_at_call 7; (with_reducible refine Calls.mono (cNew _) ?_); rintro e1 w1 ⟨g, rfl, hg, h1, f1⟩; replace hT := hT.new f1 hg h1; clear qk qr; have qk := (hT.has 1 rfl).cell; have qr := (hT.has 2 rfl).cell)
    | (go_at_call 8; (with_reducible refine Calls.mono (law20_awake _) ?_); rintro e1 w1 ⟨rfl, fq⟩; replace hT := hT.call fq; clear qk qr; have qk := (hT.has 1 rfl).cell; have qr := (hT.has 2 rfl).cell)
    | (go_at_call 14; (with_reducible refine Calls.mono (cR _) ?_); rintro e1 w1 ⟨rfl, fq⟩; replace hT := hT.call fq; clear qk qr; have qk := (hT.has 1 rfl).cell; have qr := (hT.has 2 rfl).cell)
    | (go_at_call 12; (fail_if_success (have _z := hD1)); (with_reducible refine Calls.mono (cD1 _ _ ?_) ?_); (focus exact hT.has 0 rfl); rintro e1 w1 ⟨rfl, h1, f1⟩; have hD1 : True := trivial; replace hT := hT.put 0 rfl f1 h1; clear qk qr; have qk := (hT.has 1 rfl).cell; have qr := (hT.has 2 rfl).cell)
    | (go_at_call 9; (fail_if_success (have _z := hN1)); (with_reducible refine Calls.mono (cN1 _ _ ?_) ?_); (focus exact hT.has 0 rfl); rintro e1 w1 ⟨rfl, h1, f1⟩; have hN1 : True := trivial; replace hT := hT.put 0 rfl f1 h1; clear qk qr; have qk := (hT.has 1 rfl).cell; have qr := (hT.has 2 rfl).cell)
    | (go_at_call 10; (with_reducible refine Calls.mono (law01_To _ _ _ _) ?_); rintro e1 w1 ⟨rfl, fq⟩; replace hT := hT.call fq; clear qk qr; have qk := (hT.has 1 rfl).cell; have qr := (hT.has 2 rfl).cell)
    | (go_at_call 12; (fail_if_success (have _z := hD2)); (with_reducible refine Calls.mono (cD2 _ _ ?_) ?_); (focus exact hT.has 0 rfl); rintro e1 w1 ⟨v2, rfl, o2, h1, f1⟩; have hD2 : True := trivial; replace hT := hT.put 0 rfl f1 h1; clear qk qr; have qk := (hT.has 1 rfl).cell; have qr := (hT.has 2 rfl).cell; obtain ⟨x2, cap2, rfl⟩ := own_slice o2)
    | (go_at_call 9; (fail_if_success (have _z := hN2)); (with_reducible refine Calls.mono (cN2 _ _ ?_) ?_); (focus exact hT.has 0 rfl); rintro e1 w1 ⟨rfl, h1, f1⟩; have hN2 : True := trivial; replace hT := hT.put 0 rfl f1 h1; clear qk qr; have qk := (hT.has 1 rfl).cell; have qr := (hT.has 2 rfl).cell)
    | (go_at_call 12; (fail_if_success (have _z := hD3)); (with_reducible refine Calls.mono (cD3 _ _ ?_) ?_); (focus exact hT.has 0 rfl); rintro e1 w1 ⟨v3, rfl, o3, h1, f1⟩; have hD3 : True := trivial; replace hT := hT.put 0 rfl f1 h1; clear qk qr; have qk := (hT.has 1 rfl).cell; have qr := (hT.has 2 rfl).cell; obtain ⟨g3, cap3, rfl, k30, k31, k32⟩ := own_cell1 o3)
    | (go_at_call 13; (with_reducible refine Calls.mono (cW _ _ ?_) ?_); (focus exact hT.has 0 rfl); rintro e1 w1 ⟨v5, rfl, o5, fq⟩; replace hT := hT.call fq; obtain ⟨x5, cap5, rfl⟩ := own_slice o5))
    exact hR.out _ _ ⟨rfl, hT.fr⟩
end Go.Proofs.Ytonbjealgdmngaa
