/- A region whose order is drawn, an effect of it beside several others: a tree of orders. -/
import Derived.Test.YthjdhmnmlblpfaaRSx
import Derived.Test.YthjdhmnmlblpfaaRFpTre
import Derived.Test.YthjdhmnmlblpfaaRSeal12
import Derived.Test.YthjdhmnmlblpfaaRRefS03
namespace Go.Fp
open Go Go.RowKit
section
variable {P : Program} {k : Ks} {a0 : Act} {w : World} {N : Nat} {env : List (Nat × Value)}
theorem C_treek (hN : Base N a0) {id : Nat} {l : List Oper} (env' : List (Nat × Value)) (hk : Keeps N env env') (cl : List Nat) (t : Tr) (R : World → Prop) (hm : P.follows .mixedOrders = true) (hB : (textS l && okTr l cl [] t && (t.len == l.length)) = true) (hR : R w.drew)
    (h1 : ∀ a1, Base N a1 → TrD P l (dq P k) R cl [] t (puts a1 env') w.drew) : wpC P (.region id l.toArray true) k (puts a0 env) w := by
  have e1 := h1 (puts a0 env) (base_puts hN env)
  rw [keeps_puts hN hk] at e1
  unfold dq at e1
  unfold wpC
  exact wp_regionT l cl t R hm hB hR e1
end
end Go.Fp
/- THE WALKS of the document's frames: may one be; its bytes. -/
namespace Go.Proofs.YthjdhmnmlblpfaaR
open Go.RowKit Go.Fp
attribute [local irreducible] Go.Calls
set_option maxRecDepth 100000
set_option maxHeartbeats 16000000
theorem ref_Right (r : Fm) (x : Option Addr) (c : Nat) (w : World) : Calls Try.prog 40 #[.agg (r.cells x c).toArray] w fun e w' => e = .returned (.bool (bdec r.ok)) ∧ Fr [] w w' := by
  have hT := Tk.start0 w
  obtain ⟨a, b, bt, ct, kd, body⟩ := r
  rw [show Fm.cells ⟨a, b, bt, ct, kd, body⟩ x c = [.int .i64 a, .int .i64 b, .int .u64 bt, .int .u64 ct, .int .i64 kd, .slice x body.length c] from rfl]
  refine enter [(0, _)] Try.func40 rfl Try.ntmps40 (Nat.le_of_ble_eq_true rfl) rfl ?_; intro a0 hN
  repeat' (first
    | (refine isT ?_; (first | (refine isGuard ?_; (first | (refine T_yes hN rfl rfl rfl ?_) | (refine T_no hN rfl rfl rfl rfl ?_) | (refine T_guardD hN rfl rfl rfl (fun hb => ?_) (fun hb => ?_) <;> ((first | (exfalso; omega) | (exfalso; exact hb rfl) | (exfalso; exact hb (fun h => h rfl)) | ((with_reducible refine absurd ?_ hb); (repeat' (first | exact trivial | refine And.intro rfl ?_)); done) | (replace hb := Classical.not_not.1 hb) | skip))))) | (refine T_assign hN rfl (by first | exact .inr trivial | exact .inl rfl) ?_) | (refine T_fieldAddr hN rfl (by first | exact .inr trivial | exact .inl rfl) ?_) | (refine T_move hN rfl (by first | exact .inr trivial | exact .inl rfl) ?_) | (refine T_nil ?_) | (refine is_load ?_; (first | (refine T_load hN rfl (hT.has 0 rfl) rfl (by first | exact .inl rfl | exact .inr ⟨by decide, trivial⟩) ?_))) | (refine is_binOp ?_; (first | (refine T_eql hN rfl rfl (by first | exact .inr trivial | exact .inl rfl) ?_) | (refine T_geq hN rfl rfl (by first | exact .inr trivial | exact .inl rfl) ?_) | (refine T_leq hN rfl rfl (by first | exact .inr trivial | exact .inl rfl) ?_) | (refine T_lss hN rfl rfl (by first | exact .inr trivial | exact .inl rfl) ?_))) | (refine is_pick ?_; (first | (refine T_pick1 hN rfl rfl (by first | exact .inr trivial | exact .inl rfl) ?_) | (refine T_pick0 hN rfl rfl (by first | exact .inr trivial | exact .inl rfl) ?_))) | (refine is_call ?_; (first | (refine T_len hN rfl (by first | exact .inr trivial | exact .inl rfl) ?_))) | (refine is_box ?_; (first | (refine T_box hN hT rfl (by decide) ?_; clear hT; intro g ww hT; refine ⟨(by first | exact trivial), ?_⟩)))))
    | (refine isC ?_; (first | (refine C_seq ?_) | (refine C_rgnk (id := 0) hN [(0, _)] ⟨rfl, trivial⟩ ?_; clear hN; intro a0 hN) | (refine C_rgnk (id := 1) hN [(0, _), (1, _), (2, _)] ⟨rfl, rfl, rfl, trivial⟩ ?_; clear hN; intro a0 hN) | (refine C_rgnk (id := 2) hN [(0, _), (1, _), (2, _), (27, _)] ⟨rfl, rfl, rfl, rfl, trivial⟩ ?_; clear hN; intro a0 hN) | (refine C_rgnk (id := 3) hN [(0, _), (1, _), (2, _), (27, _)] ⟨rfl, rfl, rfl, rfl, trivial⟩ ?_; clear hN; intro a0 hN) | (refine C_true hN rfl ?_) | (refine C_if hN rfl (fun hb => ?_) (fun hb => ?_) <;> ((first | (exfalso; omega) | (exfalso; exact hb rfl) | (exfalso; exact hb (fun h => h rfl)) | ((with_reducible refine absurd ?_ hb); (repeat' (first | exact trivial | refine And.intro rfl ?_)); done) | (replace hb := Classical.not_not.1 hb) | skip))) | (refine C_skip ?_) | (refine C_ret ?_)))
    | (refine isE ?_; (first | (refine E_thn ?_) | (refine E_thn_ret ?_) | (refine E_ret hN Try.results40 (.tmp rfl .nil) ?_))))
  all_goals first
    | exact ⟨ret_bb (by unfold Fm.ok; dsimp only; omega), hT.fr⟩
    | exact ⟨ret_bf (fun h => by unfold Fm.ok at h; dsimp only at h; omega), hT.fr⟩
    | exact ⟨ret_bt (by unfold Fm.ok; dsimp only; omega), hT.fr⟩
theorem ref_Right2 {r : Fm} {x : Option Addr} {c : Nat} {v : Bool} (hv : bdec r.ok = v) (w : World) : Calls Try.prog 40 #[.agg (r.cells x c).toArray] w fun e w' => e = .returned (.bool v) ∧ Fr [] w w' := hv ▸ ref_Right r x c w
theorem rBlob (x : Option Addr) (c : Nat) (bs : List UInt8) (hlen : bs.length ≤ 100000) (y : Option Addr) (d : Nat) (ps : List UInt8) (hy : y = none → ps.length = 0 ∧ d = 0) (hp : ps.length ≤ 4096) (f : List Nat) (w : World) {m : List Ob} (hm : Ob.rd y ps.length 1 (u8s ps) ∈ m) (hT : Tk f w w [Ob.own 5 1 (.slice x bs.length c) bs.length (u8s bs)] m) :
    Calls Try.prog 77 #[.agg #[.slice x bs.length c, .bool false], .slice y ps.length d] w fun e w' => ∃ x' c', e = .returned (.agg #[.slice x' (bs ++ be 2 ps.length ++ ps).length c', .bool false]) ∧ Tk f w w' [Ob.own 5 1 (.slice x' (bs ++ be 2 ps.length ++ ps).length c') (bs ++ be 2 ps.length ++ ps).length (u8s (bs ++ be 2 ps.length ++ ps))] m := by
  have h1 := ref_Blob x c (bs, false) (by dsimp only; omega) y ps.length d ps rfl hy (by omega) f w (m := m) (hT.meq (fun o ho => by
    rcases List.mem_cons.1 ho with rfl | ho
    · exact ⟨_, hm, Ob.Ent.refl _⟩
    · exact ⟨_, ho, Ob.Ent.refl _⟩))
  have e : blobO ps (bs, false) = (bs ++ be 2 ps.length ++ ps, false) := by
    unfold blobO; rw [if_neg (by omega), numO_f (Nat.div_eq_of_lt (by omega))]
  rw [e] at h1
  refine Calls.mono h1 ?_
  rintro en w' ⟨x', c', h2, h3⟩
  exact ⟨x', c', h2, h3.meq (fun o ho => ⟨o, List.mem_cons_of_mem _ ho, Ob.Ent.refl _⟩)⟩
end Go.Proofs.YthjdhmnmlblpfaaR
