/- THE WALKS of the laws on settling: the document's example; nil ones. -/
import Derived.Test.YtonbjealgdmngaaSettle2
import Derived.Test.YtonbjealgdmngaaSettle6
namespace Go.Proofs.Ytonbjealgdmngaa
open Go.RowKit Go.Fp

theorem clrTo_ok {p : PlanS} (h : p.ok) (c : Nat → Bool) (k : Nat) : (clrTo p c k).ok :=
  ⟨h.p0, h.p1, h.s0, h.s1, h.l0, h.l1, fun i => by
    simp only [clrTo]
    split
    · exact ⟨(h.ok i).f0, (h.ok i).f1⟩
    · exact h.ok i⟩
theorem fullS_ok {p : PlanS} (h : p.ok) {now : Int} (ht : 0 ≤ now ∧ now ≤ 1099511627776) : (fullS p now).ok :=
  clrTo_ok (p := { p with any := true, last := now }) ⟨h.p0, h.p1, h.s0, h.s1, ht.1, ht.2, h.ok⟩ _ _
theorem dueS_ok {p : PlanS} (h : p.ok) (now : Int) : (dueS p now).ok := clrTo_ok h _ _

theorem settle_Note' {g : Nat} {p q : PlanS} {now : Int} {d : Nat} {dest e s m : Int} {u : Bool} {w : World} (he : dest = (d : Int)) (hq : noteS p now d e s m u = q) (hd : d < 8) (ht : 0 ≤ now ∧ now ≤ 1099511627776) (hk : kRight e s m = true) (h : Has w g 72 p.cs) :
    Calls Try.prog 9 #[.pointer (some ⟨g, 0, none⟩), .int .i64 now, .int .i64 dest, .agg #[.int .u32 e, .int .u32 s, .int .i64 m], .bool u] w fun en w' =>
      en = .returned (.int .i64 0) ∧ Has w' g 72 q.cs ∧ Fr [g] w w' := by
  subst he hq; exact settle_Note g p now d e s m u w h hd ht hk
theorem settle_Due_f {g : Nat} {p q : PlanS} {now : Int} {w : World} (hq : fullS p now = q) (hf : fullB p now = true) (ht : 0 ≤ now ∧ now ≤ 1099511627776) (hp : p.ok) (h : Has w g 72 p.cs) :
    Calls Try.prog 12 #[.pointer (some ⟨g, 0, none⟩), .int .i64 now] w fun en w' => en = .returned (.tuple #[.bool true, .slice none 0 0]) ∧ Has w' g 72 q.cs ∧ Fr [g] w w' := by
  subst hq; exact settle_Due_full g p now w h ht hp hf
theorem settle_Due_p {g : Nat} {p q : PlanS} {now : Int} {w : World} {l : List Nat} (hq : dueS p now = q) (hl : dueL p now 8 = l) (hf : fullB p now = false) (ht : 0 ≤ now ∧ now ≤ 1099511627776) (hp : p.ok) (h : Has w g 72 p.cs) :
    Calls Try.prog 12 #[.pointer (some ⟨g, 0, none⟩), .int .i64 now] w fun en w' => ∃ v, en = .returned (.tuple #[.bool false, v]) ∧
      w'.ownsRow w.heap.size 3 1 v l.length (i64s l) ∧ Has w' g 72 q.cs ∧ Fr [g] w w' := by
  subst hq hl; exact settle_Due_part g p now w h ht hp hf

def aw0 : PlanS := plan0 10 3
def aw1 : PlanS := fullS aw0 0
def aw2 : PlanS := noteS aw1 1 2 0 1 1 false
def aw3 : PlanS := dueS aw2 2
def aw4 : PlanS := noteS aw3 3 2 0 1 0 false
def aw5 : PlanS := dueS aw4 4
theorem aw0_ok : aw0.ok := plan0_ok rfl
theorem aw1_ok : aw1.ok := fullS_ok aw0_ok (by omega)
theorem aw2_ok : aw2.ok := noteS_ok aw1_ok (by omega) _ _ _ _ _
theorem aw3_ok : aw3.ok := dueS_ok aw2_ok _
theorem aw4_ok : aw4.ok := noteS_ok aw3_ok (by omega) _ _ _ _ _

theorem aw_new {w : World} : Calls Try.prog 7 #[.agg #[.int .i64 10, .int .i64 3]] w fun e w' => ∃ g, e = .returned (.tuple #[.pointer (some ⟨g, 0, none⟩), .int .i64 0]) ∧ w.heap.size ≤ g ∧ Has w' g 72 aw0.cs ∧ Fr [] w w' :=
  settle_New_ok 10 3 w rfl
theorem aw_d1 {g : Nat} {w : World} (h : Has w g 72 aw0.cs) : Calls Try.prog 12 #[.pointer (some ⟨g, 0, none⟩), .int .i64 0] w fun en w' => en = .returned (.tuple #[.bool true, .slice none 0 0]) ∧ Has w' g 72 aw1.cs ∧ Fr [g] w w' :=
  settle_Due_f rfl rfl (by omega) aw0_ok h
theorem aw_n1 {g : Nat} {w : World} (h : Has w g 72 aw1.cs) : Calls Try.prog 9 #[.pointer (some ⟨g, 0, none⟩), .int .i64 1, .int .i64 2, .agg #[.int .u32 0, .int .u32 1, .int .i64 1], .bool false] w fun en w' =>
      en = .returned (.int .i64 0) ∧ Has w' g 72 aw2.cs ∧ Fr [g] w w' :=
  settle_Note' (d := 2) rfl rfl (by omega) (by omega) rfl h
theorem aw_l2 : dueL aw2 2 8 = [] := by kernel_rfl
theorem aw_d2 {g : Nat} {w : World} (h : Has w g 72 aw2.cs) : Calls Try.prog 12 #[.pointer (some ⟨g, 0, none⟩), .int .i64 2] w fun en w' => ∃ v, en = .returned (.tuple #[.bool false, v]) ∧
      w'.ownsRow w.heap.size 3 1 v ([] : List Nat).length (i64s []) ∧ Has w' g 72 aw3.cs ∧ Fr [g] w w' :=
  settle_Due_p rfl aw_l2 (by kernel_rfl) (by omega) aw2_ok h
theorem aw_n2 {g : Nat} {w : World} (h : Has w g 72 aw3.cs) : Calls Try.prog 9 #[.pointer (some ⟨g, 0, none⟩), .int .i64 3, .int .i64 2, .agg #[.int .u32 0, .int .u32 1, .int .i64 0], .bool false] w fun en w' =>
      en = .returned (.int .i64 0) ∧ Has w' g 72 aw4.cs ∧ Fr [g] w w' :=
  settle_Note' (d := 2) rfl rfl (by omega) (by omega) rfl h
theorem aw_l4 : dueL aw4 4 8 = [2] := by kernel_rfl
theorem aw_d3 {g : Nat} {w : World} (h : Has w g 72 aw4.cs) : Calls Try.prog 12 #[.pointer (some ⟨g, 0, none⟩), .int .i64 4] w fun en w' => ∃ v, en = .returned (.tuple #[.bool false, v]) ∧
      w'.ownsRow w.heap.size 3 1 v [2].length (i64s [2]) ∧ Has w' g 72 aw5.cs ∧ Fr [g] w w' :=
  settle_Due_p rfl aw_l4 (by kernel_rfl) (by omega) aw4_ok h

set_option maxHeartbeats 1600000 in
theorem law20_awake (w : World) : Calls Try.prog 8 #[] w fun e w' => e = .returned (.bool true) ∧ Fr [] w w' := by
  have hT0 := Trk.refl w
  refine calls_cps fun R hR => ?_
  go_enter Try.func8, Try.ntmps8
  go_wp2_with (first
    | (go_at_call 7; (with_reducible refine Calls.mono aw_new ?_); rintro e w1 ⟨g, rfl, hg, h1, f1⟩; have hT1 := hT0.new f1 hg h1; replace hT1 : Trk w w1 [(g, 72, aw0.cs)] := hT1)
    | (go_at_call 12; (fail_if_success (have _z := hT2)); (with_reducible refine Calls.mono (aw_d1 ?_) ?_); (focus exact hT1.has 0 rfl); rintro e w2 ⟨rfl, h2, f2⟩; have hT2 := hT1.put 0 rfl f2 h2)
    | (go_at_call 9; (fail_if_success (have _z := hT3)); (with_reducible refine Calls.mono (aw_n1 ?_) ?_); (focus exact hT2.has 0 rfl); rintro e w3 ⟨rfl, h3, f3⟩; have hT3 := hT2.put 0 rfl f3 h3)
    | (go_at_call 12; (fail_if_success (have _z := hT4)); (with_reducible refine Calls.mono (aw_d2 ?_) ?_); (focus exact hT3.has 0 rfl); rintro e w4 ⟨v4, rfl, o4, h4, f4⟩; have hT4 := hT3.put 0 rfl f4 h4; obtain ⟨x4, cap4, rfl⟩ := own_slice o4)
    | (go_at_call 9; (fail_if_success (have _z := hT5)); (with_reducible refine Calls.mono (aw_n2 ?_) ?_); (focus exact hT4.has 0 rfl); rintro e w5 ⟨rfl, h5, f5⟩; have hT5 := hT4.put 0 rfl f5 h5)
    | (go_at_call 12; (with_reducible refine Calls.mono (aw_d3 ?_) ?_); (focus exact hT5.has 0 rfl); rintro e w6 ⟨v6, rfl, o6, h6, f6⟩; have hT6 := hT5.put 0 rfl f6 h6; obtain ⟨_, x6, cap6, g6, rfl, c60, c61, c62, c63⟩ := own_read o6; obtain ⟨rfl, _⟩ := c62 (by decide); have c64 := c63 0 (by decide); simp [i64s] at c64 c60 c61; clear c63 c62; unfold maxLen at c61))
  exact hR.out _ _ ⟨rfl, hT6.fr⟩

set_option maxHeartbeats 1600000 in
theorem law20_Nil (now : Int) (w : World) : Calls Try.prog 6 #[.int .i64 now] w fun e w' => e = .returned (.bool true) ∧ Fr [] w w' := by
  refine calls_cps fun R hR => ?_
  have hT := Trk.refl w
  go_enter Try.func6, Try.ntmps6
  go_wp2_with (first
    | (go_at_call 12; (with_reducible refine Calls.mono (settle_nil now 0 0 0 0 false _).2.1 ?_); rintro e w1 ⟨rfl, fq⟩; replace hT := hT.call fq)
    | (go_at_call 20; (with_reducible refine Calls.mono (settle_nil now 0 0 0 0 false _).2.2.2 ?_); rintro e w1 ⟨rfl, fq⟩; replace hT := hT.call fq)
    | (go_at_call 8; (with_reducible refine Calls.mono (law20_awake _) ?_); rintro e w1 ⟨rfl, fq⟩; replace hT := hT.call fq)
    | (go_at_call 9; (with_reducible refine Calls.mono (settle_nil now 1 0 0 0 true _).1 ?_); rintro e w1 ⟨rfl, fq⟩; replace hT := hT.call fq)
    | (go_at_call 13; (with_reducible refine Calls.mono (settle_nil now 0 0 0 0 false _).2.2.1 ?_); rintro e w1 ⟨rfl, fq⟩; replace hT := hT.call fq))
  exact hR.out _ _ ⟨rfl, hT.fr⟩
end Go.Proofs.Ytonbjealgdmngaa
