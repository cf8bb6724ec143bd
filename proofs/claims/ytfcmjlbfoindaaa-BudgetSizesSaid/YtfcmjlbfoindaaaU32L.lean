/- WORDS OF 32 BITS: the operations' laws. -/
import Derived.Test.YtfcmjlbfoindaaaSha
namespace Go.Fp
open Go Go.RowKit
section
variable {P : Program} {ops : Array Oper} {Q : Exit → Act → World → Prop} {R : Kn} {cs : List Nat} {rest : List Oper} {a0 : Act} {w w0 : World} {N : Nat} {env : List (Nat × Value)}
  {d : Tmp} {ty : TypeId} {pos : String} {af : Array Edge}
theorem T_add32 (hN : Base N a0) {x y : Operand} {t t2 : TypeId} {m n : UInt32} (hx : ev N env x = some (.int .u32 (m.toNat : Int))) (hy : ev N env y = some (.int .u32 (n.toNat : Int))) (hR : cs.headD 2 = 0 ∨ R w) (h : wpD P ops Q R cs.tail rest (puts a0 ((d, w32 (m + n)) :: env)) w) :
    wpD P ops Q R cs (⟨some d, .binOp .add t x y t2, ty, pos, af, none⟩ :: rest) (puts a0 env) w := T_add hN hx hy (w_add m n) hR h
theorem T_mul32 (hN : Base N a0) {x y : Operand} {t t2 : TypeId} {m n : UInt32} (hx : ev N env x = some (.int .u32 (m.toNat : Int))) (hy : ev N env y = some (.int .u32 (n.toNat : Int))) (hR : cs.headD 2 = 0 ∨ R w) (h : wpD P ops Q R cs.tail rest (puts a0 ((d, w32 (m * n)) :: env)) w) :
    wpD P ops Q R cs (⟨some d, .binOp .mul t x y t2, ty, pos, af, none⟩ :: rest) (puts a0 env) w := T_mul hN hx hy (w_mul m n) hR h
theorem T_and32 (hN : Base N a0) {x y : Operand} {t t2 : TypeId} {m n : UInt32} (hx : ev N env x = some (.int .u32 (m.toNat : Int))) (hy : ev N env y = some (.int .u32 (n.toNat : Int))) (hR : cs.headD 2 = 0 ∨ R w) (h : wpD P ops Q R cs.tail rest (puts a0 ((d, w32 (m &&& n)) :: env)) w) :
    wpD P ops Q R cs (⟨some d, .binOp .and t x y t2, ty, pos, af, none⟩ :: rest) (puts a0 env) w := T_and hN hx hy (w_and m n) hR h
theorem T_or32 (hN : Base N a0) {x y : Operand} {t t2 : TypeId} {m n : UInt32} (hx : ev N env x = some (.int .u32 (m.toNat : Int))) (hy : ev N env y = some (.int .u32 (n.toNat : Int))) (hR : cs.headD 2 = 0 ∨ R w) (h : wpD P ops Q R cs.tail rest (puts a0 ((d, w32 (m ||| n)) :: env)) w) :
    wpD P ops Q R cs (⟨some d, .binOp .or t x y t2, ty, pos, af, none⟩ :: rest) (puts a0 env) w := T_or hN hx hy (w_or m n) hR h
theorem T_xor32 (hN : Base N a0) {x y : Operand} {t t2 : TypeId} {m n : UInt32} (hx : ev N env x = some (.int .u32 (m.toNat : Int))) (hy : ev N env y = some (.int .u32 (n.toNat : Int))) (hR : cs.headD 2 = 0 ∨ R w) (h : wpD P ops Q R cs.tail rest (puts a0 ((d, w32 (m ^^^ n)) :: env)) w) :
    wpD P ops Q R cs (⟨some d, .binOp .xor t x y t2, ty, pos, af, none⟩ :: rest) (puts a0 env) w := T_xor hN hx hy (w_xor m n) hR h
theorem T_shl32 (n : Nat) (hN : Base N a0) {x y : Operand} {t t2 : TypeId} {m : UInt32} {k2 : IntKind} {z : Int} (hx : ev N env x = some (.int .u32 (m.toNat : Int))) (hy : ev N env y = some (.int k2 z)) (hz : z = (n : Int)) (hn : n < 32) (hR : cs.headD 2 = 0 ∨ R w) (h : wpD P ops Q R cs.tail rest (puts a0 ((d, w32 (m <<< UInt32.ofNat n)) :: env)) w) :
    wpD P ops Q R cs (⟨some d, .binOp .shl t x y t2, ty, pos, af, none⟩ :: rest) (puts a0 env) w := by
  subst hz; exact T_shl hN hx hy (by omega) (w_shl m n hn) hR h
theorem T_shr32 (n : Nat) (hN : Base N a0) {x y : Operand} {t t2 : TypeId} {m : UInt32} {k2 : IntKind} {z : Int} (hx : ev N env x = some (.int .u32 (m.toNat : Int))) (hy : ev N env y = some (.int k2 z)) (hz : z = (n : Int)) (hn : n < 32) (hR : cs.headD 2 = 0 ∨ R w) (h : wpD P ops Q R cs.tail rest (puts a0 ((d, w32 (m >>> UInt32.ofNat n)) :: env)) w) :
    wpD P ops Q R cs (⟨some d, .binOp .shr t x y t2, ty, pos, af, none⟩ :: rest) (puts a0 env) w := by
  subst hz; exact T_shr hN hx hy (by omega) (w_shr m n hn) hR h
theorem T_cpl (hN : Base N a0) {x : Operand} {t : TypeId} {k : IntKind} {m r : Int} (hx : ev N env x = some (.int k m)) (hr : k.wrap (((BitVec.ofInt k.bits (if k.signed then -1 else k.max) ^^^ BitVec.ofInt k.bits m).toNat : Nat) : Int) = r) (hR : cs.headD 2 = 0 ∨ R w) (h : wpD P ops Q R cs.tail rest (puts a0 ((d, .int k r) :: env)) w) :
    wpD P ops Q R cs (⟨some d, .unOp .xor t x, ty, pos, af, none⟩ :: rest) (puts a0 env) w :=
  T_val rfl (fun w => by
    simp only [execOp, ev_spec hN hx, Op.unary, Op.intBits, hr]; rfl) hR h
theorem T_not32 (hN : Base N a0) {x : Operand} {t : TypeId} {m : UInt32} (hx : ev N env x = some (.int .u32 (m.toNat : Int))) (hR : cs.headD 2 = 0 ∨ R w) (h : wpD P ops Q R cs.tail rest (puts a0 ((d, w32 (~~~ m)) :: env)) w) :
    wpD P ops Q R cs (⟨some d, .unOp .xor t x, ty, pos, af, none⟩ :: rest) (puts a0 env) w := by
  refine T_cpl (r := ((~~~ m).toNat : Int)) hN hx ?_ hR h
  rw [BitVec.toNat_xor, BitVec.toNat_ofInt, BitVec.toNat_ofInt]
  have e : (if IntKind.u32.signed = true then (-1 : Int) else IntKind.u32.max) = IntKind.u32.max := rfl
  rw [e]
  have := w_not m
  simpa using this
theorem T_conv832 (hN : Base N a0) {x : Operand} {t t2 : TypeId} {b : UInt8} (hx : ev N env x = some (.int .u8 (b.toNat : Int))) [h1 : Und P t (.int .u8)] [h2 : Und P t2 (.int .u32)] (hR : cs.headD 2 = 0 ∨ R w) (h : wpD P ops Q R cs.tail rest (puts a0 ((d, w32 b.toUInt32) :: env)) w) :
    wpD P ops Q R cs (⟨some d, .convert t t2 x, ty, pos, af, none⟩ :: rest) (puts a0 env) w := T_conv hN hx (w_of8 b) hR h
theorem T_conv328 (hN : Base N a0) {x : Operand} {t t2 : TypeId} {b : UInt32} (hx : ev N env x = some (.int .u32 (b.toNat : Int))) [h1 : Und P t (.int .u32)] [h2 : Und P t2 (.int .u8)] (hR : cs.headD 2 = 0 ∨ R w) (h : wpD P ops Q R cs.tail rest (puts a0 ((d, u8 b.toUInt8) :: env)) w) :
    wpD P ops Q R cs (⟨some d, .convert t t2 x, ty, pos, af, none⟩ :: rest) (puts a0 env) w := T_conv hN hx (w_to8 b) hR h
end
end Go.Fp
