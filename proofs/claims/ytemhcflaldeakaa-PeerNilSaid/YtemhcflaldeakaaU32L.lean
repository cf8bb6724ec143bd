/- WORDS OF 32 BITS: the operations' laws. -/
import Derived.Test.YtemhcflaldeakaaSha
import Derived.Test.YtemhcflaldeakaaFc
namespace Go.Fp
open Go Go.RowKit
section
variable {P : Program} {ops : Array Oper} {Q : Exit → Act → World → Prop} {R : Kn} {cs : List Nat} {rest : List Oper} {a0 : Act} {w w0 : World} {N : Nat} {env : List (Nat × Value)}
  {d : Tmp} {ty : TypeId} {pos : String} {af : Array Edge}
theorem T_add32 (hN : Base N a0) {x y : Operand} {t t2 : TypeId} {m n : UInt32} (hx : ev N env x = some (.int .u32 (m.toNat : Int))) (hy : ev N env y = some (.int .u32 (n.toNat : Int))) (hR : cs.headD 2 = 0 ∨ R w) (h : wpD P ops Q R cs.tail rest (puts a0 ((d, w32 (m + n)) :: env)) w) :
    wpD P ops Q R cs (⟨some d, .binOp .add t x y t2, ty, pos, af, none⟩ :: rest) (puts a0 env) w := T_add hN hx hy (w_add m n) hR h
theorem T_mul32 (hN : Base N a0) {x y : Operand} {t t2 : TypeId} {m n : UInt32} (hx : ev N env x = some (.int .u32 (m.toNat : Int))) (hy : ev N env y = some (.int .u32 (n.toNat : Int))) (hR : cs.headD 2 = 0 ∨ R w) (h : wpD P ops Q R cs.tail rest (puts a0 ((d, w32 (m * n)) :: env)) w) :
    wpD P ops Q R cs (⟨some d, .binOp .mul t x y t2, ty, pos, af, none⟩ :: rest) (puts a0 env) w := T_mul hN hx hy (w_mul m n) hR h
theorem T_and32 (hN : Base N a0) {x y : Operand} {t t2 : TypeId} {m n : UInt32} (hx : ev N env x = some (.int .u32 (m.toNat : Int))) (hy : ev N env y = some (.int .u32 (n.toNat : Int))) (hR : cs.headD 2 = 0 ∨ R w) (h : wpD P ops Q R cs.tail rest (puts a0 ((d, w32 (m &&& n)) :: env)) w) :
    wpD P ops Q R cs (⟨some d, .binOp .and t x y t2, ty, pos, af, none⟩ :: rest) (puts a0 env) w := T_and hN hx hy (w_and m n) hR h
theorem T_or32 (hN : Base N a0) {x y : Operand} {t t2 : TypeId} {m n : UInt32} (hx : ev N env x = some (.int .u32 (m.toNat : Int))) (hy : ev N env y = some (.int .u32 (n.toNat : Int))) (hR : cs.headD 2 = 0 ∨ R w) (h : wpD P ops Q R cs.tail rest (puts a0 ((d, w32 (m ||| n)) :: env)) w) :
    wpD P ops Q R cs (⟨some d, .binOp .or t x y t2, ty, pos, af, none⟩ :: rest) (puts a0 env) w := T_or hN hx hy (w_or m n) hR h
theorem T_xor32 (hN : Base N a0) {x y : Operand} {t t2 : TypeId} {m n : UInt32} (hx : ev N env x = some (.int .u32 (m.toNat : Int))) (hy : ev N env y = some (.int .u32 (n.toNat : Int))) (hR : cs.headD 2 = 0 ∨ R w) (h : wpD P ops Q R cs.tail rest (puts a0 ((d, w32 (m ^^^ n)) :: env)) w) :
    wpD P ops Q R cs (⟨some d, .binOp .xor t x y t2, ty, pos, af, none⟩ :: rest) (puts a0 env) w := T_xor hN hx hy (w_xor m n) hR h
theorem T_shl32 (n : Nat) (hN : Base N a0) {x y : Operand} {t t2 : TypeId} {m : UInt32} {k2 : IntKind} {z : Int} (hx : ev N env x = some (.int .u32 (m.toNat : Int))) (hy : ev N env y = some (.int k2 z)) (hz : z = (n : Int)) (hn : n < 32) (hR : cs.headD 2 = 0 ∨ R w) (h : wpD P ops Q R cs.tail rest (puts a0 ((d, w32 (m <<< UInt32.ofNat n)) :: env)) w) :
    wpD P ops Q R cs (⟨some d, .binOp .shl t x y t2, ty, pos, af, none⟩ :: rest) (puts a0 env) w := by
  subst hz; exact T_shl hN hx hy (by omega) (w_shl m n hn) hR h
theorem T_shr32 (n : Nat) (hN : Base N a0) {x y : Operand} {t t2 : TypeId} {m : UInt32} {k2 : IntKind} {z : Int} (hx : ev N env x = some (.int .u32 (m.toNat : Int))) (hy : ev N env y = some (.int k2 z)) (hz : z = (n : Int)) (hn : n < 32) (hR : cs.headD 2 = 0 ∨ R w) (h : wpD P ops Q R cs.tail rest (puts a0 ((d, w32 (m >>> UInt32.ofNat n)) :: env)) w) :
    wpD P ops Q R cs (⟨some d, .binOp .shr t x y t2, ty, pos, af, none⟩ :: rest) (puts a0 env) w := by
  subst hz; exact T_shr hN hx hy (by omega) (w_shr m n hn) hR h
theorem T_cpl (hN : Base N a0) {x : Operand} {t : TypeId} {k : IntKind} {m r : Int} (hx : ev N env x = some (.int k m)) (hr : k.wrap (((BitVec.ofInt k.bits (if k.signed then -1 else k.max) ^^^ BitVec.ofInt k.bits m).toNat : Nat) : Int) = r) (hR : cs.headD 2 = 0 ∨ R w) (h : wpD P ops Q R cs.tail rest (puts a0 ((d, .int k r) :: env)) w) :
    wpD P ops Q R cs (⟨some d, .unOp .xor t x, ty, pos, af, none⟩ :: rest) (puts a0 env) w :=
  T_val rfl (fun w => by
    simp only [execOp, ev_spec hN hx, Op.unary, Op.intBits, hr]; rfl) hR h
theorem T_not32 (hN : Base N a0) {x : Operand} {t : TypeId} {m : UInt32} (hx : ev N env x = some (.int .u32 (m.toNat : Int))) (hR : cs.headD 2 = 0 ∨ R w) (h : wpD P ops Q R cs.tail rest (puts a0 ((d, w32 (~~~ m)) :: env)) w) :
    wpD P ops Q R cs (⟨some d, .unOp .xor t x, ty, pos, af, none⟩ :: rest) (puts a0 env) w := by
  refine T_cpl (r := ((~~~ m).toNat : Int)) hN hx ?_ hR h
  rw [BitVec.toNat_xor, BitVec.toNat_ofInt, BitVec.toNat_ofInt]
  have e : (if IntKind.u32.signed = true then (-1 : Int) else IntKind.u32.max) = IntKind.u32.max := rfl
  rw [e]
  have := w_not m
  simpa using this
theorem T_conv832 (hN : Base N a0) {x : Operand} {t t2 : TypeId} {b : UInt8} (hx : ev N env x = some (.int .u8 (b.toNat : Int))) [h1 : Und P t (.int .u8)] [h2 : Und P t2 (.int .u32)] (hR : cs.headD 2 = 0 ∨ R w) (h : wpD P ops Q R cs.tail rest (puts a0 ((d, w32 b.toUInt32) :: env)) w) :
    wpD P ops Q R cs (⟨some d, .convert t t2 x, ty, pos, af, none⟩ :: rest) (puts a0 env) w := T_conv hN hx (w_of8 b) hR h
theorem T_conv328 (hN : Base N a0) {x : Operand} {t t2 : TypeId} {b : UInt32} (hx : ev N env x = some (.int .u32 (b.toNat : Int))) [h1 : Und P t (.int .u32)] [h2 : Und P t2 (.int .u8)] (hR : cs.headD 2 = 0 ∨ R w) (h : wpD P ops Q R cs.tail rest (puts a0 ((d, u8 b.toUInt8) :: env)) w) :
    wpD P ops Q R cs (⟨some d, .convert t t2 x, ty, pos, af, none⟩ :: rest) (puts a0 env) w := T_conv hN hx (w_to8 b) hR h
end
end Go.Fp
/- THE WALK of a sum's block. -/
namespace Go.Fp
open Go Go.RowKit
theorem wc_set (p : List UInt8) {i : Nat} (hi : i < 64) {x : UInt32} (hx : x = nxt p (sched p i) i) : (wcells (sched p i)).set (0 + i * 1) (w32 x) = wcells (sched p (i + 1)) := by
  subst hx
  have h := wcells_set (ws := sched p i) (by rw [sched_len]; exact hi) (nxt p (sched p i) i)
  rw [sched_len] at h
  rw [Nat.zero_add, Nat.mul_one]
  exact h
theorem wc_get (p : List UInt8) {i j : Nat} (hj : j < i) : (wcells (sched p i))[0 + j * 1]? = some (w32 (gw (sched p i) j)) := by
  rw [Nat.zero_add, Nat.mul_one]; exact wcells_get (by rw [sched_len]; exact hj)
theorem wc_hole (p : List UInt8) {i : Nat} (hi : i < 64) : (wcells (sched p i))[0 + i * 1]? = some (w32 0) := by
  rw [Nat.zero_add, Nat.mul_one]
  unfold wcells w32s
  rw [List.getElem?_map, List.getElem?_append_right (by rw [sched_len]; exact Nat.le_refl _), sched_len, Nat.sub_self, List.getElem?_replicate, if_pos (by omega)]; rfl
theorem kc_get {j : Nat} (hj : j < 64) : (w32s shK)[0 + j * 1]? = some (w32 (gw shK j)) := by
  rw [Nat.zero_add, Nat.mul_one]
  unfold w32s
  rw [List.getElem?_map, gw_get (by exact hj)]; rfl
theorem byte_cell {w : World} {B off n : Nat} {p : List UInt8} (h : Rdz w (some ⟨B, off, none⟩) n 1 (u8s p)) {j : Nat} (hj : j < p.length) : w.cell? ⟨B, off + j * 1, none⟩ = some (u8 (gb p j)) :=
  h.cell rfl (by rw [Nat.mul_one, u8s_get, gb_get hj]; rfl)
theorem w32s_one (l : List UInt32) : (w32s l).all (·.oneCell') = true := List.all_eq_true.2 fun u hu => by
  obtain ⟨x, _, rfl⟩ := List.mem_map.1 hu; rfl
def S8.w (h : S8) (p : List UInt8) (i : Nat) : S8 := h.rnds shK (sched p 64) i
theorem sched_zero (p : List UInt8) : sched p 0 = [] := rfl
theorem S8.w_zero (h : S8) (p : List UInt8) : h.w p 0 = h := rfl
theorem S8.mix_w (h : S8) (p : List UInt8) : h.mix p = h.plus (h.w p 64) := rfl
theorem S8.w_succ (h : S8) (p : List UInt8) (i : Nat) : h.w p (i + 1) = (h.w p i).rnd (gw shK i) (gw (sched p 64) i) := rfl
end Go.Fp
namespace Go.Proofs.Ytemhcflaldeakaa
open Go.RowKit Go.Fp
attribute [local irreducible] Go.Calls
set_option maxRecDepth 100000
set_option maxHeartbeats 16000000
theorem sha_turn (x : UInt32) (n : Nat) (z : Int) (hz : z = n) (hn : 0 < n ∧ n < 32) (w : World) : Calls Try.prog 84 #[.int .u32 (x.toNat : Int), .int .i64 z] w fun e w' => e = .returned (.int .u32 ((rot x n).toNat : Int)) ∧ Fr [] w w' := by
  have hT := Tk.start0 w
  refine enter [(0, _), (1, _)] Try.func84 rfl Try.ntmps84 (Nat.le_of_ble_eq_true rfl) rfl ?_; intro a0 hN
  repeat' (first
    | (refine isT ?_; (first | (refine T_assign hN rfl (by first | exact .inr trivial | exact .inl rfl) ?_) | (refine T_move hN rfl (by first | exact .inr trivial | exact .inl rfl) ?_) | (refine T_nil ?_) | (refine T_nild ?_) | (refine is_binOp ?_; (first | (refine T_shr32 n hN rfl rfl (by omega) (by omega) (by first | exact .inr trivial | exact .inl rfl) ?_) | (refine T_shl32 (32 - n) hN rfl rfl (by omega) (by omega) (by first | exact .inr trivial | exact .inl rfl) ?_) | (refine T_or32 hN rfl rfl (by first | exact .inr trivial | exact .inl rfl) ?_) | (refine T_subi64 hN rfl rfl (by omega) (by first | exact .inr trivial | exact .inl rfl) ?_)))))
    | (refine isC ?_; (first | (refine C_seq ?_) | (refine C_rgnk (id := 0) hN [(0, _), (1, _)] ⟨rfl, rfl, trivial⟩ ?_; clear hN; intro a0 hN) | (refine C_ret ?_) | (refine C_drawk (id := 1) hN [(0, _), (1, _), (4, _)] ⟨rfl, rfl, rfl, trivial⟩ [0, 0, 0, 0] Any Try.mixed (by kernel_rfl) trivial ?_; replace hT := hT.drew; clear hN; intro a0 hN)))
    | (refine isE ?_; (first | (refine E_thn ?_) | (refine E_ret hN Try.results84 (.tmp rfl .nil) ?_))))
  all_goals exact ⟨rfl, hT.fr⟩
theorem sha_words (w : World) : Calls Try.prog 85 #[] w fun e w' => e = .returned (.agg (w32s shK).toArray) ∧ Fr [] w w' := by
  have hT := Tk.start0 w
  refine enter [] Try.func85 rfl Try.ntmps85 (Nat.le_of_ble_eq_true rfl) rfl ?_; intro a0 hN
  repeat' (first
    | (refine isT ?_; (first | (refine T_nil ?_) | (refine is_store ?_; (first | (refine T_storeAll hN hT 0 (us := w32s shK) rfl rfl rfl (by rfl) rfl (w32s_one _) (by decide) ?_; clear hT; intro ww hT; refine ⟨trivial, ?_⟩))) | (refine is_alloc ?_; (first | (refine T_alloc hN hT (by decide) ?_; clear hT; intro g ww hT; refine ⟨(by first | exact trivial), ?_⟩))) | (refine is_build ?_; (first | (refine T_build (t := 139) hN rfl rfl (by first | exact .inr trivial | exact .inl rfl) ?_)))))
    | (refine isC ?_; (first | (refine C_seq ?_) | (refine C_rgnk (id := 0) hN [] trivial ?_; clear hN; intro a0 hN) | (refine C_rgnk (id := 1) hN [(0, _)] ⟨rfl, trivial⟩ ?_; clear hN; intro a0 hN) | (refine C_ret ?_)))
    | (refine isE ?_; (first | (refine E_ret hN Try.results85 (.cell rfl (run_loadAll (hT.has 0 rfl) (us := w32s shK) (by rfl) (by rfl)) .nil) ?_) | (refine E_thn ?_))))
  all_goals exact ⟨rfl, hT.fr⟩
end Go.Proofs.Ytemhcflaldeakaa
