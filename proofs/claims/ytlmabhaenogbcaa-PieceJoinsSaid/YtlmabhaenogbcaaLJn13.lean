/- THE WALK: a body's pieces are put together: its last stages. -/
import Derived.Test.YtlmabhaenogbcaaAwk13
import Derived.Test.YtlmabhaenogbcaaJnLaw13
import Derived.Test.YtlmabhaenogbcaaSl4
namespace Go.Proofs.Ytlmabhaenogbcaa
open Go.RowKit Go.Fp
attribute [local irreducible] Go.Calls
set_option maxRecDepth 100000
set_option maxHeartbeats 8000000
def JoinsR (n : Nat) (env : List (Nat × Value)) (w w1 : World) : Prop := ∀ a0, Base 242 a0 → wpC Try.prog (restQ n (bodyC Try.f5)) (.base (bodyPost Try.prog Try.f5 fun e w' => e = .returned (.bool true) ∧ Fr [] w w')) (puts a0 env) w1
theorem pce_TakeAs {q : Nat} {s s2 : JS} {r : Pr} {rb : List UInt8} {rd : Bool} {re : Int} (hres : takeJ s r.p = (rb, rd, re, s2)) (f9 : List Nat) (ww : World) (h : Tk f9 ww ww [J q s] [Ob.rd r.x r.p.part.length 1 (u8s r.p.part)]) (hx : r.x = none → r.p.part.length = 0 ∧ r.c = 0) :
    Calls Try.prog 15 #[.pointer (some ⟨q, 0, none⟩), .agg r.cells.toArray] ww fun e w' => ∃ (xb : Option Addr) (cb : Nat), e = .returned (.tuple #[.slice xb rb.length cb, .bool rd, .int .i64 re]) ∧ Tk f9 ww w' [J q s2, Ob.own 5 1 (.slice xb rb.length cb) rb.length (u8s rb)] [Ob.rd r.x r.p.part.length 1 (u8s r.p.part)] := by
  have h8 := pce_Take q s r.p r.x r.c f9 ww (m := []) h hx
  rw [hres] at h8
  exact h8
theorem Tk.mnilM {S : List Nat} {w0 w : World} {l m : List Ob} (h : Tk S w0 w l m) {r : Pr} (ho : r.ob ∈ m) : r.x = none → r.p.part.length = 0 ∧ r.c = 0 := by
  obtain ⟨i, hi⟩ := List.getElem?_of_mem ho
  exact Tk.mnil h hi
/-- What a row is read from. -/
theorem fromOb {l m : List Ob} {r : Pr} (ho : r.ob ∈ m) : ∀ o', o' ∈ [Ob.rd r.x r.p.part.length 1 (u8s r.p.part)] → ∃ o2, o2 ∈ l ++ m ∧ Ob.Ent o2 o' := fun o' h => by
  rw [List.mem_singleton] at h
  subst h
  exact ⟨_, List.mem_append_right _ ho, Ent.own_rd _ _ _ _ _ _⟩
section
variable (id sz M : Nat) (bs : List UInt8) (qs : List Pr) (x1 : Option Addr) (c1 : Nat) (q : Nat) (w w1 : World) {m : List Ob}
theorem joins5 (s : JS) (c : Cut id bs sz M (qs.map Pr.p)) (hs : JSt (qs.map Pr.p) id M M s) (hm : ∀ r, r ∈ qs → r.ob ∈ m)
    (hT : Tk [] w w1 [J q s, Ob.own 36 4 (.slice x1 M c1) M (qs.map Pr.cells).flatten] m) : JoinsR 23 [(13, .slice x1 M c1), (15, .pointer (some ⟨q, 0, none⟩))] w w1 := by
  intro a0 hN
  have hM := c.bound
  have hlen := c.length
  rw [List.length_map] at hlen
  obtain ⟨B, rfl⟩ := hT.own_addr 1 rfl (by omega)
  obtain ⟨r, hr⟩ : ∃ r, qs[0]? = some r := ⟨_, List.getElem?_eq_getElem (by omega)⟩
  have hrm := hm r (List.mem_of_getElem? hr)
  have hnil := Tk.mnilM hT hrm
  obtain ⟨i, rfl⟩ : ∃ i, M = i + 1 := ⟨M - 1, by omega⟩
  have hres := c.takeOld (i := i) hs (Nat.zero_le _) (show (qs.map Pr.p)[0]? = some r.p by rw [List.getElem?_map, hr]; rfl)
  rw [if_pos rfl] at hres
  have hover : s.over = true := by
    rcases hs with ⟨h, _⟩ | ⟨_, rfl⟩
    · omega
    · exact decide_eq_true rfl
  have cW := fun f9 ww h => pce_Waits q s f9 ww (m := m) h
  simp only [hover, Bool.true_eq_false, and_false, if_false] at cW
  have hc : ∀ {w : World}, Rdz w (some ⟨B, 0, none⟩) (i + 1) 4 (qs.map Pr.cells).flatten → ∀ (j : Nat) (v : Value), r.cells[j]? = some v → w.cell? ⟨B, 0 + 0 * 4 + j, none⟩ = some v := fun h => pr_load h hr
  repeat' (first
    | (refine isT ?_; (first | (refine isGuard ?_; (first | (refine T_yes hN rfl rfl rfl ?_) | (refine T_guardD hN rfl rfl rfl (fun hb => ?_) (fun hb => ?_) <;> ((first | (exfalso; omega) | (exfalso; exact hb rfl) | (exfalso; exact hb (fun h => h rfl)) | ((with_reducible refine absurd ?_ hb); (repeat' (first | exact trivial | refine And.intro rfl ?_)); done) | (replace hb := Classical.not_not.1 hb) | skip))))) | (refine T_assign hN rfl (by first | exact .inr trivial | exact .inl rfl) ?_) | (refine T_extract hN rfl rfl (by first | exact .inr trivial | exact .inl rfl) ?_) | (refine T_move hN rfl (by first | exact .inr trivial | exact .inl rfl) ?_) | (refine T_not hN rfl (by first | exact .inr trivial | exact .inl rfl) ?_) | (refine T_nil ?_) | (refine is_load ?_; (first | (refine T_loadnc hN rfl (us := r.cells) rfl (hc (hT.ord 1 rfl)) (by first | exact .inl rfl | exact .inr ⟨by decide, trivial⟩) ?_))) | (refine is_binOp ?_; (first | (refine T_eql hN rfl rfl (by first | exact .inr trivial | exact .inl rfl) ?_))) | (refine is_pick ?_; (first | (refine T_pick1 hN rfl rfl (by first | exact .inr trivial | exact .inl rfl) ?_))) | (refine is_call ?_; (first | (refine is_call ?_; obtain ⟨f1, hP, hK⟩ := hT.call1 0 rfl [Ob.rd r.x r.p.part.length 1 (u8s r.p.part)] (fromOb hrm); refine T_call (f := 15) hN rfl (by decide) (pce_TakeAs hres f1 _ hP hnil) ?_; rintro e ww ⟨xb, cb, rfl, h1⟩; clear hT hP; replace hT := hK _ _ _ _ h1; clear hK h1; refine ⟨_, rfl, (by first | exact trivial | ((repeat' (first | exact hT.has 0 rfl | exact hT.has 1 rfl | exact hT.has 2 rfl | exact hT.has 3 rfl | exact hT.has 4 rfl | exact hT.has 5 rfl | exact hT.ord 0 rfl | exact hT.ord 1 rfl | exact hT.ord 2 rfl | exact hT.ord 3 rfl | exact hT.ord 4 rfl | exact hT.ord 5 rfl | exact hT.mrd (by assumption) | refine And.intro ?_ ?_)); done)), ?_⟩) | (refine is_call ?_; obtain ⟨f1, hP, hK⟩ := hT.call1m 1 rfl; refine T_call (f := 17) hN rfl (by decide) (cW f1 _ hP) ?_; rintro e ww ⟨rfl, h1⟩; clear hT hP; replace hT := hK _ _ _ _ h1; clear hK h1; refine ⟨_, rfl, (by first | exact trivial | ((repeat' (first | exact hT.has 0 rfl | exact hT.has 1 rfl | exact hT.has 2 rfl | exact hT.has 3 rfl | exact hT.has 4 rfl | exact hT.has 5 rfl | exact hT.ord 0 rfl | exact hT.ord 1 rfl | exact hT.ord 2 rfl | exact hT.ord 3 rfl | exact hT.ord 4 rfl | exact hT.ord 5 rfl | exact hT.mrd (by assumption) | refine And.intro ?_ ?_)); done)), ?_⟩) | (refine is_call ?_; refine T_call (f := 8) hN rfl (by decide) (law13_awake _) ?_; rintro e ww ⟨rfl, hf⟩; replace hT := hT.same hf; clear hf; refine ⟨_, rfl, (by first | exact trivial | ((repeat' (first | exact hT.has 0 rfl | exact hT.has 1 rfl | exact hT.has 2 rfl | exact hT.has 3 rfl | exact hT.has 4 rfl | exact hT.has 5 rfl | exact hT.ord 0 rfl | exact hT.ord 1 rfl | exact hT.ord 2 rfl | exact hT.ord 3 rfl | exact hT.ord 4 rfl | exact hT.ord 5 rfl | exact hT.mrd (by assumption) | refine And.intro ?_ ?_)); done)), ?_⟩))) | (refine is_indexAddr ?_; (first | (refine T_indexAddrz hN rfl rfl (by omega) (by first | exact .inr trivial | exact .inl rfl) ?_)))))
    | (refine isC ?_; (first | (refine C_seq ?_) | (refine C_rgn ?_) | (refine C_ret ?_)))
    | (refine isE ?_; (first | (refine E_thn ?_) | (refine E_ret hN Try.results5 (.tmp rfl .nil) ?_))))
  all_goals exact ⟨by first | rfl | (simp only [bdec_eq]; simp; rfl), hT.fr⟩
end
end Go.Proofs.Ytlmabhaenogbcaa
