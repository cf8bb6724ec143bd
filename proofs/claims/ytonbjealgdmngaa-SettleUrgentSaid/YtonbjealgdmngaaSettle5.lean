/- THE WALKS of package settle: Due where not all is told; Waits; Next. -/
import Derived.Test.YtonbjealgdmngaaSettle4
namespace Go.Proofs.Ytonbjealgdmngaa
open Go.RowKit Go.Fp

theorem infoInt : (Try.prog.info? 3).map (fun i => (i.zero, i.size, i.bytes)) = some (some (.int .i64 0), 1, 8) := by kernel_rfl

def DueRel (p : PlanS) (now : Int) (g : Nat) (w : World) (s5 s62 : Value) (wr : World) : Prop :=
  ∃ k : Nat, k ≤ 8 ∧ s62 = .int .i64 k ∧ wr.ownsRow w.heap.size 3 1 s5 (dueL p now k).length (i64s (dueL p now k)) ∧
    Has wr g 72 (clrTo p (fun d => settledB p now (p.l d)) k).cs ∧ Fr [g] w wr

theorem clr_settled (p : PlanS) (now : Int) (c : Nat → Bool) (k : Nat) (n : NewsS) : settledB (clrTo p c k) now n = settledB p now n := rfl

set_option maxHeartbeats 1600000 in
theorem settle_Due_part (g : Nat) (p : PlanS) (now : Int) (w : World) (h : Has w g 72 p.cs) (ht : 0 ≤ now ∧ now ≤ 1099511627776) (hp : p.ok) (hf : fullB p now = false) :
    Calls Try.prog 12 #[.pointer (some ⟨g, 0, none⟩), .int .i64 now] w fun en w' => ∃ v, en = .returned (.tuple #[.bool false, v]) ∧
      w'.ownsRow w.heap.size 3 1 v (dueL p now 8).length (i64s (dueL p now 8)) ∧ Has w' g 72 (dueS p now).cs ∧ Fr [g] w w' := by
  obtain ⟨i0, hi, hz0, hz1, hz2⟩ := info_parts infoInt
  have ct := settle_time now
  rw [decide_eq_true ht] at ct
  have cs := fun g q n w hq hn => settle_settled g q now n w hq ht hn
  obtain ⟨a0, a1, a2, a3⟩ := plan_head p
  have hc := h.cell
  have hz := h.froz
  have hgl := h.lt
  have HP := Fp.hid hp
  obtain ⟨t0, t1⟩ := ht
  obtain ⟨p0, p1, s0, s1, l0, l1, hok⟩ := hp
  have hcase : p.any = true ∧ ¬ p.period ≤ now - p.last := by
    unfold fullB at hf; cases h2 : p.any <;> simp_all
  obtain ⟨h2, hlt⟩ := hcase
  rw [h2] at a3
  clear hf h2
  have hlt' : now - p.last < p.period := by omega
  have hsum : IntKind.i64.wrap (now - p.last) = now - p.last := IntWalk.i64_in _ (by omega)
  have hrow := fun (k : Nat) (hk : k < 8) => run_index_rows (k := k) (P := Try.prog) (t := 70) (e := 69) (n := 8) (f := p.rw) (m := 7) Try.underlying70 Try.underlying69 rfl (by kernel_rfl) (fun _ => rfl) hk
  have hrng := h.range 4 (rows p.rw 8) (fun j hj => by
    unfold PlanS.cs planA
    rw [List.getElem?_toArray, List.getElem?_append_right (by simp [PlanS.hd])]
    congr 1; simp [PlanS.hd])
  have hlen : (Try.prog.info? 70).map (·.size) = some (rows p.rw 8).length := by rw [rows_length (m := 7) (fun _ => rfl)]; kernel_rfl
  have HR1 := Fp.hid hrng
  have HR2 := Fp.hid hlen
  obtain ⟨RW, hRW⟩ : ∃ RW, RW = rows p.rw 8 := ⟨_, rfl⟩
  rw [← hRW] at hrow HR1 HR2
  clear hrng hlen hRW
  refine calls_cps fun R hR => ?_
  go_enter Try.func12, Try.ntmps12
  go_wp2_with (first
    | (refine wp_region_text (id := 3) [0, 0, 0, 1, 0, 0, 0, 0, 0, 0, 1, 0, 0, 0, 0, 0, 1] Any Try.mixed (by kernel_rfl) trivial ?_)
    | (refine wp_region_text (id := 8) [0, 0, 0, 0, 0, 0, 0, 0, 2, 0, 0] Any Try.mixed (by kernel_rfl) trivial ?_)
    | (refine wp_region_text (id := 15) [0, 0, 0, 0, 0, 0, 0, 0, 2, 0, 0] Any Try.mixed (by kernel_rfl) trivial ?_)
    | (refine wpT_0 (fun K hK => ?_); go_simp; refine hK _ ?_; clear hK K)
    | (refine wpT_1 (fun K hK => ?_); go_simp; refine hK _ ?_; clear hK K)
    | (refine wpT_tail (by rfl) ?_)
    | (refine wpT_2A (fun _ _ => ?_); rw [if_pos (by rfl)])
    | (refine wpT_nil ?_)
    | (go_at_call 22; (with_reducible refine Calls.mono (ct _) ?_); rintro e w' ⟨rfl, hq⟩; subst w')
    | (refine wpList_load_mid rfl 70 (.tmp 60) rfl g 4 rfl RW _ ?_ Try.underlying70 rfl HR2.out ?_; (focus exact HR1.out)))
  clear hsum a0 a1 a2 a3 hc hz HR1 HR2
  go_loopw [5, 62] (DueRel p now g w) (fun _ i _ => 8 - (intOf i).toNat)
  case atStart =>
    exact ⟨0, by omega, rfl, World.ownsRow_nil _ _ _ _, by rw [clrTo_zero]; exact h, by repeat (first | with_reducible exact Fr.refl _ _ | with_reducible apply Fr.drew | with_reducible apply Fr.alloc | with_reducible refine Fr.set ?_ (Or.inl (by simp)) _)⟩
  case round =>
    obtain ⟨k, hk, rfl, hO, hH, hF⟩ := hrel
    by_cases hlt8 : k < 8
    · have hix : ∀ w, (Instr.index 70 (.agg RW.toArray) (.int .i64 k)).run Try.prog w = .ok (.agg #[.int .u32 (p.l k).epoch, .int .u32 (p.l k).seq, .int .i64 (p.l k).metric, .bool (p.l k).any, .int .i64 (p.l k).first, .bool (p.l k).waits, .bool (p.l k).urgent]) w := hrow k hlt8
      clear hrow
      have hH1 := hH.alloc (.cells #[.int .u32 (p.l k).epoch, .int .u32 (p.l k).seq, .int .i64 (p.l k).metric, .bool (p.l k).any, .int .i64 (p.l k).first, .bool (p.l k).waits, .bool (p.l k).urgent] 69 (0, 0))
      have c1 := fun w hq => cs g (clrTo p (fun d => settledB p now (p.l d)) k) (p.l k) w hq (HP.out.ok k)
      rw [clr_settled] at c1
      obtain ⟨_, _, _, _, _, b5, b6⟩ := plan_row (clrTo p (fun d => settledB p now (p.l d)) k) hlt8
      have HO := Fp.hid hO
      have HL := Fp.hid (dueL_succ p now k)
      have HL2 := Fp.hid (dueL_le p now k)
      clear hO cs hok
      cases hs : settledB p now (p.l k)
      all_goals
        rw [hs] at c1
        go_wp2_with (first
    | (refine wp_region_text (id := 3) [0, 0, 0, 1, 0, 0, 0, 0, 0, 0, 1, 0, 0, 0, 0, 0, 1] Any Try.mixed (by kernel_rfl) trivial ?_)
    | (refine wp_region_text (id := 8) [0, 0, 0, 0, 0, 0, 0, 0, 2, 0, 0] Any Try.mixed (by kernel_rfl) trivial ?_)
    | (refine wp_region_text (id := 15) [0, 0, 0, 0, 0, 0, 0, 0, 2, 0, 0] Any Try.mixed (by kernel_rfl) trivial ?_)
    | (refine wpT_0 (fun K hK => ?_); go_simp; refine hK _ ?_; clear hK K)
    | (refine wpT_1 (fun K hK => ?_); go_simp; refine hK _ ?_; clear hK K)
    | (refine wpT_tail (by rfl) ?_)
    | (refine wpT_2A (fun _ _ => ?_); rw [if_pos (by rfl)])
    | (refine wpT_nil ?_)
    | (go_at_call 25; (with_reducible refine Calls.mono (c1 _ ?_) ?_); (focus exact hH1); rintro e3 w3 ⟨rfl, fq⟩; have hH3 := fq.has0 hH1; have hF3 := hF.trans (((Fr.refl [] wr).alloc _).trans fq |>.weaken (fun _ h => by simp at h)); have hO3 := Fp.hid (own_fr (((Fr.refl [] wr).alloc _).trans fq) HO.out); have hc := hH3.cell; have hz := hH3.froz)
    | (at_builtin; refine wpList_append1 rfl _ _ 46 rfl w.heap.size 3 i0 (.int .i64 0) 8 Try.underlying46 hi hz0 hz1 hz2 rfl _ _ _ rfl hO3.out (S := [g]) (by repeat (first | with_reducible exact Fr.refl _ _ | with_reducible apply Fr.drew | with_reducible apply Fr.alloc | with_reducible refine Fr.set ?_ (Or.inl (by simp)) _)) (own_ne hO3.out hH3 (by decide)) w3.heap.size _ (.int .i64 (k : Int)) rfl (by first | exact cell_new1 (by simp [World.setCell]) | exact cell_new1d (by simp [World.setCell])) rfl (by have := HL2.out; unfold maxLen; omega) (by have := HL2.out; omega) hF3.size ?_; intro v' w5 hown' hgrow hloc))
        first
          | (refine ⟨⟨k + 1, by omega, by go_num, ?_, ?_, hF3⟩, by simp only [intOf]; omega⟩
             · rw [HL.out, hs]; simpa using hO3.out
             · rw [← clrTo_no (c := fun d => settledB p now (p.l d)) hs]; exact hH3)
          | (refine ⟨⟨k + 1, by omega, by go_num, ?_, ?_, ?_⟩, by simp only [intOf]; omega⟩
             · rw [HL.out, hs]; simpa [i64s] using hown'
             · refine has_grown ?_ hgrow (own_ne hO3.out hH3 (by decide))
               rw [← clrTo_yes (c := fun d => settledB p now (p.l d)) hs]
               (repeat (first | with_reducible apply Has.drew | with_reducible apply Has.alloc))
               (with_reducible refine Has.eq ((hH3.set _ _).set _ _) ?_)
               rw [clr_cs _ hlt8, clrTo_l]
             · exact fr_grown (hF3.trans (by repeat (first | with_reducible exact Fr.refl _ _ | with_reducible apply Fr.drew | with_reducible apply Fr.alloc | with_reducible refine Fr.set ?_ (Or.inl (by simp)) _))) hgrow (own_frS (S := [g]) (by repeat (first | with_reducible exact Fr.refl _ _ | with_reducible apply Fr.drew | with_reducible apply Fr.alloc | with_reducible refine Fr.set ?_ (Or.inl (by simp)) _)) hO3.out (own_ne hO3.out hH3 (by decide))))
    · obtain rfl : k = 8 := by omega
      clear hrow
      go_wp2_with (first
    | (refine wp_region_text (id := 3) [0, 0, 0, 1, 0, 0, 0, 0, 0, 0, 1, 0, 0, 0, 0, 0, 1] Any Try.mixed (by kernel_rfl) trivial ?_)
    | (refine wp_region_text (id := 8) [0, 0, 0, 0, 0, 0, 0, 0, 2, 0, 0] Any Try.mixed (by kernel_rfl) trivial ?_)
    | (refine wp_region_text (id := 15) [0, 0, 0, 0, 0, 0, 0, 0, 2, 0, 0] Any Try.mixed (by kernel_rfl) trivial ?_)
    | (refine wpT_0 (fun K hK => ?_); go_simp; refine hK _ ?_; clear hK K)
    | (refine wpT_1 (fun K hK => ?_); go_simp; refine hK _ ?_; clear hK K)
    | (refine wpT_tail (by rfl) ?_)
    | (refine wpT_2A (fun _ _ => ?_); rw [if_pos (by rfl)])
    | (refine wpT_nil ?_))
      exact hR.out _ _ ⟨_, rfl, hO, hH, hF⟩

def waitL (p : PlanS) (k : Nat) : List Nat := (List.range k).filter fun d => (p.l d).waits
theorem waitL_succ (p : PlanS) (k : Nat) : waitL p (k + 1) = waitL p k ++ if (p.l k).waits then [k] else [] := by
  unfold waitL; rw [List.range_succ, List.filter_append]; congr 1; simp [List.filter_cons]
theorem waitL_le (p : PlanS) (k : Nat) : (waitL p k).length ≤ k := by
  unfold waitL; exact Nat.le_trans (List.length_filter_le _ _) (by simp)

def WaitRel (p : PlanS) (w : World) (s3 s12 : Value) (wr : World) : Prop :=
  ∃ k : Nat, k ≤ 8 ∧ s12 = .int .i64 k ∧ wr.ownsRow w.heap.size 3 1 s3 (waitL p k).length (i64s (waitL p k)) ∧ Fr [] w wr

set_option maxHeartbeats 1600000 in
theorem settle_Waits (g : Nat) (p : PlanS) (w : World) (h : Has w g 72 p.cs) :
    Calls Try.prog 13 #[.pointer (some ⟨g, 0, none⟩)] w fun en w' => ∃ v, en = .returned v ∧ w'.ownsRow w.heap.size 3 1 v (waitL p 8).length (i64s (waitL p 8)) ∧ Fr [] w w' := by
  obtain ⟨i0, hi, hz0, hz1, hz2⟩ := info_parts infoInt
  have hrow := fun (k : Nat) (hk : k < 8) => run_index_rows (k := k) (P := Try.prog) (t := 70) (e := 69) (n := 8) (f := p.rw) (m := 7) Try.underlying70 Try.underlying69 rfl (by kernel_rfl) (fun _ => rfl) hk
  have hrng := h.range 4 (rows p.rw 8) (fun j hj => by
    unfold PlanS.cs planA
    rw [List.getElem?_toArray, List.getElem?_append_right (by simp [PlanS.hd])]
    congr 1; simp [PlanS.hd])
  have hlen : (Try.prog.info? 70).map (·.size) = some (rows p.rw 8).length := by rw [rows_length (m := 7) (fun _ => rfl)]; kernel_rfl
  have HR1 := Fp.hid hrng
  have HR2 := Fp.hid hlen
  obtain ⟨RW, hRW⟩ : ∃ RW, RW = rows p.rw 8 := ⟨_, rfl⟩
  rw [← hRW] at hrow HR1 HR2
  clear hrng hlen hRW
  refine calls_cps fun R hR => ?_
  go_enter Try.func13, Try.ntmps13
  go_wp2_with (first
    | (refine wpList_load_mid rfl 70 (.tmp 10) rfl g 4 rfl RW _ ?_ Try.underlying70 rfl HR2.out ?_; (focus exact HR1.out)))
  clear HR1 HR2
  go_loopw [3, 12] (WaitRel p w) (fun _ i _ => 8 - (intOf i).toNat)
  case atStart =>
    exact ⟨0, by omega, rfl, World.ownsRow_nil _ _ _ _, Fr.refl _ _⟩
  case round =>
    obtain ⟨k, hk, rfl, hO, hF⟩ := hrel
    by_cases hlt8 : k < 8
    · have hix : ∀ w, (Instr.index 70 (.agg RW.toArray) (.int .i64 k)).run Try.prog w = .ok (.agg #[.int .u32 (p.l k).epoch, .int .u32 (p.l k).seq, .int .i64 (p.l k).metric, .bool (p.l k).any, .int .i64 (p.l k).first, .bool (p.l k).waits, .bool (p.l k).urgent]) w := hrow k hlt8
      clear hrow
      have HO := Fp.hid hO
      have HL := Fp.hid (waitL_succ p k)
      have HL2 := Fp.hid (waitL_le p k)
      clear hO
      cases hs : (p.l k).waits
      all_goals
        rw [hs] at hix
        have HS := Fp.hid hs
        clear hs
        go_wp2_with (first
    | (at_builtin; refine wpList_append1 rfl _ _ 46 rfl w.heap.size 3 i0 (.int .i64 0) 8 Try.underlying46 hi hz0 hz1 hz2 rfl _ _ _ rfl HO.out (S := []) (by repeat (first | with_reducible exact Fr.refl _ _ | with_reducible apply Fr.drew | with_reducible apply Fr.alloc | with_reducible refine Fr.set ?_ (Or.inl (by simp)) _)) (fun _ _ => by simp) (wr.heap.size + 1) _ (.int .i64 (k : Int)) rfl (by first | exact cell_new1 (by simp) | exact cell_new1d (by simp)) rfl (by have := HL2.out; unfold maxLen; omega) (by have := HL2.out; omega) hF.size ?_; intro v' w5 hown' hgrow hloc))
        first
          | (refine ⟨⟨k + 1, by omega, by go_num, ?_, hF.trans (by repeat (first | with_reducible exact Fr.refl _ _ | with_reducible apply Fr.drew | with_reducible apply Fr.alloc | with_reducible refine Fr.set ?_ (Or.inl (by simp)) _))⟩, by simp only [intOf]; omega⟩
             rw [HL.out, HS.out]; simpa using own_fr (by repeat (first | with_reducible exact Fr.refl _ _ | with_reducible apply Fr.drew | with_reducible apply Fr.alloc | with_reducible refine Fr.set ?_ (Or.inl (by simp)) _)) HO.out)
          | (refine ⟨⟨k + 1, by omega, by go_num, ?_, ?_⟩, by simp only [intOf]; omega⟩
             · rw [HL.out, HS.out]; simpa [i64s] using hown'
             · exact fr_grown (hF.trans (by repeat (first | with_reducible exact Fr.refl _ _ | with_reducible apply Fr.drew | with_reducible apply Fr.alloc | with_reducible refine Fr.set ?_ (Or.inl (by simp)) _))) hgrow (own_fr (by repeat (first | with_reducible exact Fr.refl _ _ | with_reducible apply Fr.drew | with_reducible apply Fr.alloc | with_reducible refine Fr.set ?_ (Or.inl (by simp)) _)) HO.out))
    · obtain rfl : k = 8 := by omega
      clear hrow
      go_wp2_with fail
      exact hR.out _ _ ⟨_, rfl, hO, hF⟩

def whenN (p : PlanS) (n : NewsS) : Int := if n.urgent then 0 else n.first + p.settle
def nextTo (p : PlanS) : Nat → Int
  | 0 => p.last + p.period
  | k + 1 => if (p.l k).waits then min (nextTo p k) (whenN p (p.l k)) else nextTo p k
theorem nextTo_bd {p : PlanS} (hp : p.ok) : ∀ k, -1 ≤ nextTo p k ∧ nextTo p k ≤ 1099512676352
  | 0 => by have := hp.p0; have := hp.p1; have := hp.l0; have := hp.l1; simp only [nextTo]; omega
  | k + 1 => by
    have := nextTo_bd hp k
    have := (hp.ok k).f0
    have := (hp.ok k).f1
    have := hp.s0
    have := hp.s1
    simp only [nextTo, whenN]
    split <;> (try split) <;> omega
end Go.Proofs.Ytonbjealgdmngaa
