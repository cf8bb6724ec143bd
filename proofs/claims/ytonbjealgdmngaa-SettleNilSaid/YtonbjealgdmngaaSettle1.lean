/- THE WALKS of package settle: what has no loop. -/
import Derived.Test.YtonbjealgdmngaaRank
import Derived.Test.YtonbjealgdmngaaFpRows
namespace Go.Proofs.Ytonbjealgdmngaa
open Go.RowKit Go.Fp

structure NewsS where
  (epoch seq metric : Int)
  any : Bool
  first : Int
  (waits urgent : Bool)
structure PlanS where
  (period settle last : Int)
  any : Bool
  l : Nat → NewsS
def NewsS.row (n : NewsS) : List Value := [.int .u32 n.epoch, .int .u32 n.seq, .int .i64 n.metric, .bool n.any, .int .i64 n.first, .bool n.waits, .bool n.urgent]
/-- A plan's cells: a head, and eight rows. -/
def planA (hd : List Value) (f : Nat → List Value) : Array Value := (hd ++ rows f 8).toArray
def PlanS.hd (s : PlanS) : List Value := [.int .i64 s.period, .int .i64 s.settle, .int .i64 s.last, .bool s.any]
def PlanS.rw (s : PlanS) : Nat → List Value := fun d => (s.l d).row
def PlanS.cs (s : PlanS) : Array Value := planA s.hd s.rw
structure NewsS.ok (n : NewsS) : Prop where
  f0 : 0 ≤ n.first
  f1 : n.first ≤ 1099511627776
structure PlanS.ok (s : PlanS) : Prop where
  p0 : 1 ≤ s.period
  p1 : s.period ≤ 1048576
  s0 : 0 ≤ s.settle
  s1 : s.settle ≤ 1048576
  l0 : 0 ≤ s.last
  l1 : s.last ≤ 1099511627776
  ok : ∀ d, (s.l d).ok
theorem PlanS.rw_len (s : PlanS) (i : Nat) : (s.rw i).length = 7 := rfl
theorem plan_head (s : PlanS) : s.cs[0]? = some (.int .i64 s.period) ∧ s.cs[1]? = some (.int .i64 s.settle) ∧ s.cs[2]? = some (.int .i64 s.last) ∧ s.cs[3]? = some (.bool s.any) :=
  ⟨hrows_head (by simp [PlanS.hd]), hrows_head (by simp [PlanS.hd]), hrows_head (by simp [PlanS.hd]), hrows_head (by simp [PlanS.hd])⟩
theorem planA_get {hd : List Value} {f : Nat → List Value} (hh : hd.length = 4) (hf : ∀ i, (f i).length = 7) {d : Nat} (hdn : d < 8) {j : Nat} (hj : j < 7) : (planA hd f)[4 + d * 7 + j]? = (f d)[j]? := hrows_get hh hf hdn hj
theorem planA_set {hd : List Value} {f : Nat → List Value} (hh : hd.length = 4) (hf : ∀ i, (f i).length = 7) {d : Nat} (hdn : d < 8) {j : Nat} (hj : j < 7) (v : Value) : (planA hd f).setIfInBounds (4 + d * 7 + j) v = planA hd (upd f d ((f d).set j v)) := hrows_set hh hf hdn hj v
theorem plan_row (s : PlanS) {d : Nat} (hd : d < 8) : s.cs[4 + d * 7]? = some (.int .u32 (s.l d).epoch) ∧ s.cs[4 + d * 7 + 1]? = some (.int .u32 (s.l d).seq) ∧ s.cs[4 + d * 7 + 2]? = some (.int .i64 (s.l d).metric) ∧
    s.cs[4 + d * 7 + 3]? = some (.bool (s.l d).any) ∧ s.cs[4 + d * 7 + 4]? = some (.int .i64 (s.l d).first) ∧ s.cs[4 + d * 7 + 5]? = some (.bool (s.l d).waits) ∧ s.cs[4 + d * 7 + 6]? = some (.bool (s.l d).urgent) :=
  ⟨planA_get (f := s.rw) rfl (fun _ => rfl) hd (j := 0) (by omega), planA_get (f := s.rw) rfl (fun _ => rfl) hd (by omega), planA_get (f := s.rw) rfl (fun _ => rfl) hd (by omega), planA_get (f := s.rw) rfl (fun _ => rfl) hd (by omega), planA_get (f := s.rw) rfl (fun _ => rfl) hd (by omega), planA_get (f := s.rw) rfl (fun _ => rfl) hd (by omega), planA_get (f := s.rw) rfl (fun _ => rfl) hd (by omega)⟩
theorem plan_is {s : PlanS} {hd : List Value} {f : Nat → List Value} (h1 : hd = s.hd) (h2 : ∀ i, i < 8 → f i = s.rw i) : planA hd f = s.cs := by
  unfold planA PlanS.cs planA; rw [h1, rows_congr h2]

theorem upd_row {s : PlanS} {d : Nat} {n : NewsS} {f : Nat → List Value} (h1 : f d = n.row) (h2 : ∀ i, i ≠ d → f i = s.rw i) : planA s.hd f = ({ s with l := upd s.l d n } : PlanS).cs :=
  plan_is rfl fun i _ => by
    by_cases e : i = d
    · subst e; rw [h1]; simp [PlanS.rw, upd]
    · rw [h2 i e]; simp [PlanS.rw, upd, e]
theorem plan_sets (p : PlanS) {d : Nat} (hd : d < 8) (us : List (Nat × Value)) (hu : ∀ u, u ∈ us → u.1 < 7) (n : NewsS) (hn : us.foldl (fun r u => r.set u.1 u.2) (p.l d).row = n.row) :
    us.foldl (fun cs u => cs.setIfInBounds (4 + d * 7 + u.1) u.2) p.cs = ({ p with l := upd p.l d n } : PlanS).cs :=
  (hrows_sets (m := 7) (hd := p.hd) rfl hd us (f := p.rw) (fun _ => rfl) hu).trans (upd_row (by rw [upd_same]; exact hn) (fun i h => upd_other _ _ h))
/-- Key, any, waits, urgent. -/
theorem note_cs (p : PlanS) {d : Nat} (hd : d < 8) (e s m : Int) (x : Bool) :
    ((((((p.cs.setIfInBounds (4 + d * 7 + 3) (.bool true)).setIfInBounds (4 + d * 7) (.int .u32 e)).setIfInBounds (4 + d * 7 + 1) (.int .u32 s)).setIfInBounds (4 + d * 7 + 2) (.int .i64 m)).setIfInBounds (4 + d * 7 + 5) (.bool true)).setIfInBounds (4 + d * 7 + 6) (.bool x)) =
      ({ p with l := upd p.l d ⟨e, s, m, true, (p.l d).first, true, x⟩ } : PlanS).cs := by
  have h := plan_sets p hd [(3, .bool true), (0, .int .u32 e), (1, .int .u32 s), (2, .int .i64 m), (5, .bool true), (6, .bool x)] (by simp) ⟨e, s, m, true, (p.l d).first, true, x⟩ rfl
  simp only [List.foldl_cons, List.foldl_nil, Nat.add_zero] at h
  exact h
/-- First, key, any, waits, urgent. -/
theorem note_cs1 (p : PlanS) {d : Nat} (hd : d < 8) (now e s m : Int) (x : Bool) :
    (((((((p.cs.setIfInBounds (4 + d * 7 + 4) (.int .i64 now)).setIfInBounds (4 + d * 7 + 3) (.bool true)).setIfInBounds (4 + d * 7) (.int .u32 e)).setIfInBounds (4 + d * 7 + 1) (.int .u32 s)).setIfInBounds (4 + d * 7 + 2) (.int .i64 m)).setIfInBounds (4 + d * 7 + 5) (.bool true)).setIfInBounds (4 + d * 7 + 6) (.bool x)) =
      ({ p with l := upd p.l d ⟨e, s, m, true, now, true, x⟩ } : PlanS).cs := by
  have h := plan_sets p hd [(4, .int .i64 now), (3, .bool true), (0, .int .u32 e), (1, .int .u32 s), (2, .int .i64 m), (5, .bool true), (6, .bool x)] (by simp) ⟨e, s, m, true, now, true, x⟩ rfl
  simp only [List.foldl_cons, List.foldl_nil, Nat.add_zero] at h
  exact h

theorem settle_time (n : Int) (w : World) : Calls Try.prog 22 #[.int .i64 n] w fun en w' => en = .returned (.bool (decide (0 ≤ n ∧ n ≤ 1099511627776))) ∧ w' = w := by
  refine calls_cps fun R hR => ?_
  by_cases h1 : 0 ≤ n
  · go_enter Try.func22, Try.ntmps22
    go_wp2_with fail
    refine hR.out _ _ ⟨ret_bool ?_, rfl⟩
    simp [h1]
  · have h1' : n < 0 := by omega
    go_enter Try.func22, Try.ntmps22
    go_wp2_with fail
    refine hR.out _ _ ⟨ret_bool ?_, rfl⟩
    simp; omega

def rulesB (p s : Int) : Bool := decide (1 ≤ p ∧ p ≤ 1048576 ∧ 0 ≤ s ∧ s ≤ 1048576)
set_option maxHeartbeats 400000 in
theorem settle_Right (p s : Int) (w : World) : Calls Try.prog 15 #[.agg #[.int .i64 p, .int .i64 s]] w fun en w' => en = .returned (.bool (rulesB p s)) ∧ Fr [] w w' := by
  refine calls_cps fun R hR => ?_
  go_enter Try.func15, Try.ntmps15
  go_wp2_with fail
  all_goals
    refine hR.out _ _ ⟨ret_bool ?_, (Fr.refl _ _).alloc _⟩
    unfold rulesB
    simp only [decide_eq_decide, Bool.true_eq, Bool.false_eq, decide_eq_true_eq, decide_eq_false_iff_not]
    omega
set_option maxHeartbeats 400000 in
theorem ref20_Right (p s : Int) (w : World) : Calls Try.prog 16 #[.agg #[.int .i64 p, .int .i64 s]] w fun en w' => en = .returned (.bool (rulesB p s)) ∧ Fr [] w w' := by
  refine calls_cps fun R hR => ?_
  go_enter Try.func16, Try.ntmps16
  go_wp2_with fail
  all_goals
    refine hR.out _ _ ⟨ret_bool ?_, (Fr.refl _ _).alloc _⟩
    unfold rulesB
    simp only [decide_eq_decide, Bool.true_eq, Bool.false_eq, decide_eq_true_eq, decide_eq_false_iff_not]
    omega

def news0 : NewsS := ⟨0, 0, 0, false, 0, false, false⟩
def plan0 (p s : Int) : PlanS := ⟨p, s, 0, false, fun _ => news0⟩
theorem plan0_ok {p s : Int} (h : rulesB p s = true) : (plan0 p s).ok := by
  unfold rulesB at h
  have h := of_decide_eq_true h
  exact ⟨h.1, h.2.1, h.2.2.1, h.2.2.2, by simp [plan0], by simp [plan0], fun _ => ⟨by simp [plan0, news0], by simp [plan0, news0]⟩⟩
theorem plan0_cs (p s : Int) : (plan0 p s).cs = #[.int .i64 p, .int .i64 s, .int .i64 0, .bool false,
    .int .u32 0, .int .u32 0, .int .i64 0, .bool false, .int .i64 0, .bool false, .bool false, .int .u32 0, .int .u32 0, .int .i64 0, .bool false, .int .i64 0, .bool false, .bool false,
    .int .u32 0, .int .u32 0, .int .i64 0, .bool false, .int .i64 0, .bool false, .bool false, .int .u32 0, .int .u32 0, .int .i64 0, .bool false, .int .i64 0, .bool false, .bool false,
    .int .u32 0, .int .u32 0, .int .i64 0, .bool false, .int .i64 0, .bool false, .bool false, .int .u32 0, .int .u32 0, .int .i64 0, .bool false, .int .i64 0, .bool false, .bool false,
    .int .u32 0, .int .u32 0, .int .i64 0, .bool false, .int .i64 0, .bool false, .bool false, .int .u32 0, .int .u32 0, .int .i64 0, .bool false, .int .i64 0, .bool false, .bool false] := rfl

set_option maxHeartbeats 400000 in
theorem settle_New_ok (p s : Int) (w : World) (h : rulesB p s = true) : Calls Try.prog 7 #[.agg #[.int .i64 p, .int .i64 s]] w fun e w' =>
    ∃ g, e = .returned (.tuple #[.pointer (some ⟨g, 0, none⟩), .int .i64 0]) ∧ w.heap.size ≤ g ∧ Has w' g 72 (plan0 p s).cs ∧ Fr [] w w' := by
  have c1 := settle_Right p s
  rw [h] at c1
  refine calls_cps fun R hR => ?_
  go_enter Try.func7, Try.ntmps7
  go_wp2_with (first
    | (go_at_call 15; (with_reducible refine Calls.mono (c1 _) ?_); rintro e w1 ⟨rfl, fq⟩; have q0 := (fq.has0 (Has.new w _ _)).cell; have hsz := fq.size))
  rw [plan0_cs] at hR
  refine hR.out _ _ ⟨_, rfl, ?_, Has.new _ _ _, (((Fr.refl _ _).alloc _).trans fq).alloc _⟩
  simp at hsz; omega
set_option maxHeartbeats 400000 in
theorem settle_New_no (p s : Int) (w : World) (h : rulesB p s = false) : Calls Try.prog 7 #[.agg #[.int .i64 p, .int .i64 s]] w fun e w' =>
    e = .returned (.tuple #[.pointer none, .int .i64 1]) ∧ Fr [] w w' := by
  have c1 := settle_Right p s
  rw [h] at c1
  refine calls_cps fun R hR => ?_
  go_enter Try.func7, Try.ntmps7
  go_wp2_with (first
    | (go_at_call 15; (with_reducible refine Calls.mono (c1 _) ?_); rintro e w1 ⟨rfl, fq⟩))
  refine hR.out _ _ ⟨rfl, ((Fr.refl _ _).alloc _).trans fq⟩

/-- What may be noted. -/
def noteB (now dest e s m : Int) : Bool := decide (0 ≤ dest ∧ dest < 8 ∧ 0 ≤ now ∧ now ≤ 1099511627776) && kRight e s m
def noteN (now e s m : Int) (u : Bool) (n : NewsS) : NewsS := ⟨e, s, m, true, if (!n.any || kNewer e s n.epoch n.seq) = true then now else n.first, true, n.urgent || u⟩
def noteS (p : PlanS) (now : Int) (d : Nat) (e s m : Int) (u : Bool) : PlanS := { p with l := upd p.l d (noteN now e s m u (p.l d)) }


theorem noteS_new (p : PlanS) (now : Int) (d : Nat) (e s m : Int) (u x : Bool) (h : (!(p.l d).any || kNewer e s (p.l d).epoch (p.l d).seq) = true) (hx : x = ((p.l d).urgent || u)) :
    ({ p with l := upd p.l d ⟨e, s, m, true, now, true, x⟩ } : PlanS).cs = (noteS p now d e s m u).cs := by
  subst hx; unfold noteS noteN; rw [if_pos h]
theorem noteS_old (p : PlanS) (now : Int) (d : Nat) (e s m : Int) (u x : Bool) (h : (!(p.l d).any || kNewer e s (p.l d).epoch (p.l d).seq) = false) (hx : x = ((p.l d).urgent || u)) :
    ({ p with l := upd p.l d ⟨e, s, m, true, (p.l d).first, true, x⟩ } : PlanS).cs = (noteS p now d e s m u).cs := by
  subst hx; unfold noteS noteN; rw [if_neg (by rw [h]; simp)]
theorem noteS_ok {p : PlanS} (h : p.ok) {now : Int} (ht : 0 ≤ now ∧ now ≤ 1099511627776) (d : Nat) (e s m : Int) (u : Bool) : (noteS p now d e s m u).ok := by
  refine ⟨h.p0, h.p1, h.s0, h.s1, h.l0, h.l1, fun i => ?_⟩
  simp only [noteS]
  by_cases e1 : i = d
  · subst e1; rw [upd_same]
    constructor <;> (simp only [noteN]; split <;> first | exact ht.1 | exact ht.2 | exact (h.ok _).f0 | exact (h.ok _).f1)
  · rw [upd_other _ _ e1]; exact h.ok _
end Go.Proofs.Ytonbjealgdmngaa
