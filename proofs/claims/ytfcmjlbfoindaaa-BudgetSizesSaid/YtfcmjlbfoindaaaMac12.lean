/- THE WALKS of tags. -/
import Derived.Test.YtfcmjlbfoindaaaHSum12
import Derived.Test.YtfcmjlbfoindaaaRefO03
namespace Go.Fp
open Go Go.RowKit
section
variable {P : Program} {ops : Array Oper} {Q : Exit → Act → World → Prop} {R : Kn} {cs : List Nat} {rest : List Oper} {a0 : Act} {w w0 : World} {N : Nat} {env : List (Nat × Value)}
  {d : Tmp} {ty : TypeId} {pos : String} {af : Array Edge} {S : List Nat} {l m : List Ob}
/-- 'copy' of what is longer. -/
theorem T_copyS (hN : Base N a0) (hT : Tk S w0 w l m) (i : Nat) {s y : Operand} {t t2 e : Nat} [hs : Slc P t e 1] {g o dn dc T : Nat} {vs : List Value} (hev : ev N env s = some (.slice (some ⟨g, o, none⟩) dn dc)) (hi : l[i]? = some (.blk g T vs))
    {x : Option Addr} {k c : Nat} {news : List Value} (hey : ev N env y = some (.slice x k c)) (hrd : Rdz w x k 1 news) (h1 : Value.all1 news) (hk : dn ≤ k) (hd : 0 < dn) (hfit : o + dn ≤ vs.length) (hc : cs.headD 2 = 2)
    (h : ∀ w', Tk S w0 w' (l.set i (.blk g T (spl vs o (news.take dn)))) m → R w' ∧ wpD P ops Q R cs.tail rest (puts a0 ((d, .int .i64 dn) :: env)) w') :
    wpD P ops Q R cs (⟨some d, .call { callee := .builtin .copy, args := #[s, y], argTypes := #[t, t2] }, ty, pos, af, none⟩ :: rest) (puts a0 env) w := by
  refine T_do rfl hc ?_
  have hh := hT.has i hi
  have hkl : news.length = k := by have := hrd.1; omega
  have hl2 : (news.take dn).length = dn := by rw [List.length_take]; omega
  have hT' := hT.turn (w' := w.setRow g (spl vs o (news.take dn)).toArray) i (o' := .blk g T (spl vs o (news.take dn))) hi fun f ⟨hf, _⟩ => ⟨f, ⟨hf, setRow_heap w g _ _ T _ hh⟩, ⟨rfl, rfl, rfl, by simp, fun k hk hn => setRow_other w g k _ (fun e => hn (by rw [hf]; simp [e]))⟩, fun k hk => .inl hk⟩
  have hrun : (execOp (puts a0 env).eval ⟨some d, .call { callee := .builtin .copy, args := #[s, y], argTypes := #[t, t2] }, ty, pos, af, none⟩).run P w = .ok (.value (.int .i64 dn)) (w.setRow g (spl vs o (news.take dn)).toArray) := by
    obtain ⟨B, off, rfl, _, h3⟩ := hrd.2 (by omega)
    have hmin : Nat.min k dn = dn := Nat.min_eq_right hk
    have hr := run_copy_row (P := P) w t t2 ty e g o dn dc ⟨B, off, none⟩ k c vs.toArray T (news.take dn) hs.out.1 hs.out.2 hh (by rw [hl2, hmin]) (fun j v hj => by
      have hadd : (⟨B, off, none⟩ : Addr).add j = ⟨B, off + j, none⟩ := by unfold Addr.add; split <;> simp_all
      have hj2 : news[j]? = some v := by
        rw [List.getElem?_take] at hj
        split at hj
        · exact hj
        · cases hj
      rw [hadd]; exact h3 j v hj2) (by simp; omega) (fun u hu => h1 u (List.mem_of_mem_take hu))
    have e : (vs.toArray.toList.take o ++ news.take dn ++ vs.toArray.toList.drop (o + (news.take dn).length)).toArray = (spl vs o (news.take dn)).toArray := by simp [spl]
    rw [e] at hr
    have e2 : min dn news.length = dn := by omega
    simp [execOp, resolve, invoke, builtin, ev_spec hN hev, ev_spec hN hey, hr, goInt, e2]
  unfold Oper.wp
  rw [hrun]
  exact h _ hT'
end
theorem b_in (x : UInt8) : ((x.toNat : Int) % 2 ^ IntKind.u8.bits).toNat = x.toNat := by
  have := x.toNat_lt
  show ((x.toNat : Int) % 2 ^ 8).toNat = x.toNat
  omega
theorem b_self (x : UInt8) : IntKind.u8.wrap (x.toNat : Int) = (x.toNat : Int) := by
  rw [IntKind.wrap_u8]; have := x.toNat_lt; omega
theorem b_xor (x y : UInt8) : IntKind.u8.wrap (((((x.toNat : Int) % 2 ^ IntKind.u8.bits).toNat ^^^ ((y.toNat : Int) % 2 ^ IntKind.u8.bits).toNat : Nat)) : Int) = ((x ^^^ y).toNat : Int) := by
  rw [b_in, b_in, ← UInt8.toNat_xor, b_self]
theorem b_or (x y : UInt8) : IntKind.u8.wrap (((((x.toNat : Int) % 2 ^ IntKind.u8.bits).toNat ||| ((y.toNat : Int) % 2 ^ IntKind.u8.bits).toNat : Nat)) : Int) = ((x ||| y).toNat : Int) := by
  rw [b_in, b_in, ← UInt8.toNat_or, b_self]
/-- A key as one block. -/
def kpad (k : List UInt8) : List UInt8 := k ++ List.replicate (64 - k.length) 0
theorem kpad_len {k : List UInt8} (h : k.length ≤ 64) : (kpad k).length = 64 := by simp [kpad]; omega
theorem kpad_spl {k : List UInt8} (h : k.length ≤ 64) : spl (List.replicate 64 (.int .u8 0)) 0 (u8s k) = u8s (kpad k) := by
  have e : List.replicate 64 (Value.int .u8 0) = u8s (List.replicate 64 0) := by simp [u8s, u8]
  unfold kpad spl
  rw [e, u8s_append, u8s_length, List.take_zero, List.nil_append, Nat.zero_add]
  congr 1
  unfold u8s
  rw [← List.map_drop, List.drop_replicate]
/-- A block, turned so far. -/
def xorB (b : UInt8) (k : List UInt8) (i : Nat) : List UInt8 := (k.take i).map (· ^^^ b) ++ k.drop i
theorem xorB_len (b : UInt8) (k : List UInt8) (i : Nat) : (xorB b k i).length = k.length := by unfold xorB; rw [List.length_append, List.length_map, List.length_take, List.length_drop]; omega
theorem xorB_get (b : UInt8) {k : List UInt8} {i : Nat} (h : i < k.length) : (u8s (xorB b k i))[0 + i * 1]? = some (u8 (gb k i)) := by
  rw [u8s_get, Nat.zero_add, Nat.mul_one]
  unfold xorB
  rw [List.getElem?_append_right (by simp; omega), List.getElem?_drop, show i + (i - (List.map (· ^^^ b) (k.take i)).length) = i by simp; omega, gb_get h]; rfl
theorem xorB_set (b : UInt8) {k : List UInt8} {i : Nat} (h : i < k.length) : (u8s (xorB b k i)).set (0 + i * 1) (u8 (gb k i ^^^ b)) = u8s (xorB b k (i + 1)) := by
  rw [u8s_set, Nat.zero_add, Nat.mul_one]
  congr 1
  unfold xorB
  rw [set_app _ _ _ 0 _ (by simp; omega), List.take_add_one, gb_get h, List.drop_eq_getElem_cons h]
  have e : k[i] = gb k i := by have := gb_get h; rw [List.getElem?_eq_getElem h] at this; exact Option.some.inj this
  simp [List.set]
theorem xorB_zero (b : UInt8) (k : List UInt8) : xorB b k 0 = k := by simp [xorB]
theorem xorB_all (b : UInt8) {k : List UInt8} (h : k.length = 64) : xorB b k 64 = k.map (· ^^^ b) := by
  unfold xorB; rw [List.take_of_length_le (by omega), List.drop_eq_nil_of_le (by omega), List.append_nil]
/-- A message's tag by a key. -/
def macP (k p : List UInt8) : List UInt8 := shaP ((kpad k).map (· ^^^ 0x5c) ++ shaP ((kpad k).map (· ^^^ 0x36) ++ p))
def tagP (k p : List UInt8) : List UInt8 := (macP k p).take 16
theorem macP_len (k p : List UInt8) : (macP k p).length = 32 := shaP_len _
theorem tagP_len (k p : List UInt8) : (tagP k p).length = 16 := by unfold tagP; rw [List.length_take, macP_len]; rfl
end Go.Fp
namespace Go.Proofs.Ytfcmjlbfoindaaa
open Go.RowKit Go.Fp
attribute [local irreducible] Go.Calls
set_option maxRecDepth 100000
set_option maxHeartbeats 16000000
attribute [local irreducible] shaP
theorem freeze_blk {S : List Nat} {w0 w : World} {l m : List Ob} {g T n : Nat} {vs : List Value} (hT : Tk S w0 w l (Ob.blk g T vs :: m)) (hn : vs.length = n * 1) : Tk S w0 w l (Ob.rd (some ⟨g, 0, none⟩) n 1 vs :: m) :=
  hT.meq fun o ho => by
    rcases List.mem_cons.1 ho with rfl | ho
    · exact ⟨_, List.mem_cons_self .., Ent.blk_rd _ _ _ _ _ hn⟩
    · exact ⟨_, List.mem_cons_of_mem _ ho, Ob.Ent.refl _⟩
theorem sha_WriteM (q : Nat) (p : List UInt8) (y : Option Addr) (n d : Nat) (ps : List UInt8) (hpn : ps.length = n) (hy : y = none → n = 0 ∧ d = 0) (hn : p.length + n ≤ 1000000) (f : List Nat) (w : World) {m : List Ob} (hm : Ob.rd y n 1 (u8s ps) ∈ m) (hT : Tk f w w [Hs q p] m) :
    Calls Try.prog 89 #[.pointer (some ⟨q, 0, none⟩), .slice y n d] w fun e w' => e = .returned (.tuple #[]) ∧ Tk f w w' [Hs q (p ++ ps)] m := by
  subst hpn
  have h := sha_Write q p y d ps hy hn f w (m := m) (hT.meq (fun o ho => by
    rcases List.mem_cons.1 ho with rfl | ho
    · exact ⟨_, hm, Ob.Ent.refl _⟩
    · exact ⟨_, ho, Ob.Ent.refl _⟩))
  refine Calls.mono h ?_
  rintro e w' ⟨h1, h2⟩
  exact ⟨h1, h2.meq (fun o ho => ⟨o, List.mem_cons_of_mem _ ho, Ob.Ent.refl _⟩)⟩
theorem mac_key (x : Option Addr) (c : Nat) (k : List UInt8) (hk : k.length ≤ 64) (w : World) {m : List Ob} (hm : Ob.rd x k.length 1 (u8s k) ∈ m) (hT : Tk [] w w [] m) :
    Calls Try.prog 87 #[.slice x k.length c] w fun e w' => e = .returned (.agg (u8s (kpad k)).toArray) ∧ Tk [] w w' [] m := by
  have hsp := kpad_spl hk
  have hl := kpad_len hk
  generalize kpad k = r at *
  refine enter [(0, _)] Try.func87 rfl Try.ntmps87 (Nat.le_of_ble_eq_true rfl) rfl ?_; intro a0 hN
  repeat' (first
    | (refine isT ?_; (first | (refine T_move hN rfl (by first | exact .inr trivial | exact .inl rfl) ?_) | (refine T_nil ?_) | (refine is_load ?_; (first | (refine T_loadn hN rfl (hT.has 0 rfl) (us := u8s r) (by rw [List.drop_zero]; refine Eq.trans (congrArg _ hsp) ?_; rw [List.take_of_length_le (by rw [u8s_length, hl]; exact Nat.le_refl _)]) (by rw [u8s_length, hl]) (by first | exact .inl rfl | exact .inr ⟨by decide, trivial⟩) ?_))) | (refine is_binOp ?_; (first | (refine T_gtr hN rfl rfl (by first | exact .inr trivial | exact .inl rfl) ?_))) | (refine is_call ?_; (first | (refine T_copy hN hT 0 rfl rfl rfl (hT.mrd hm) (u8s_all1 k) hk (by rw [Nat.zero_add]; exact hk) (by decide) ?_; clear hT; intro ww hT; refine ⟨trivial, ?_⟩) | (refine T_len hN rfl (by first | exact .inr trivial | exact .inl rfl) ?_))) | (refine is_store ?_; (first | (refine T_storeAll hN hT 1 (us := u8s r) rfl rfl rfl (by rw [u8s_length, hl]; rfl) rfl (List.all_eq_true.2 (u8s_all1 r)) (by decide) ?_; clear hT; intro ww hT; refine ⟨trivial, ?_⟩))) | (refine is_alloc ?_; (first | (refine T_alloc hN hT (by decide) ?_; clear hT; intro g ww hT; refine ⟨(by first | exact trivial), ?_⟩))) | (refine is_slice ?_; (first | (refine T_slcA hN rfl (by first | exact .inr trivial | exact .inl rfl) ?_)))))
    | (refine isC ?_; (first | (refine C_seq ?_) | (refine C_rgnk (id := 0) hN [(0, _)] ⟨rfl, trivial⟩ ?_; clear hN; intro a0 hN) | (refine C_rgnk (id := 1) hN [(0, _), (2, _)] ⟨rfl, rfl, trivial⟩ ?_; clear hN; intro a0 hN) | (refine C_rgnk (id := 2) hN [(0, _), (2, _), (3, _)] ⟨rfl, rfl, rfl, trivial⟩ ?_; clear hN; intro a0 hN) | (refine C_rgnk (id := 5) hN [(0, _), (2, _), (3, _), (7, _)] ⟨rfl, rfl, rfl, rfl, trivial⟩ ?_; clear hN; intro a0 hN) | (refine C_rgnk (id := 6) hN [(0, _), (2, _), (3, _), (7, _)] ⟨rfl, rfl, rfl, rfl, trivial⟩ ?_; clear hN; intro a0 hN) | (refine C_if hN rfl (fun hb => ?_) (fun hb => ?_) <;> ((first | (exfalso; omega) | (exfalso; exact hb rfl) | (exfalso; exact hb (fun h => h rfl)) | ((with_reducible refine absurd ?_ hb); (repeat' (first | exact trivial | refine And.intro rfl ?_)); done) | (replace hb := Classical.not_not.1 hb) | skip))) | (refine C_ret ?_)))
    | (refine isE ?_; (first | (refine E_ret hN Try.results87 (.cell rfl (run_loadAll (hT.has 1 rfl) (us := u8s r) (by rw [List.drop_zero, List.take_of_length_le (by rw [u8s_length, hl]; exact Nat.le_refl _)]) (by rw [u8s_length, hl])) .nil) ?_) | (refine E_thn ?_))))
  all_goals exact ⟨rfl, hT.sel [] rfl⟩
theorem mac_first (r : List UInt8) (hr : r.length = 32) (w : World) :
    Calls Try.prog 79 #[.agg (u8s r).toArray] w fun e w' => e = .returned (.agg (u8s (r.take 16)).toArray) ∧ Fr [] w w' := by
  have hT := Tk.start0 w
  have hl : (r.take 16).length = 16 := by rw [List.length_take]; omega
  have hsp : spl (List.replicate 16 (.int .u8 0)) 0 (List.take 16 (u8s r)) = u8s (r.take 16) := by
    unfold spl u8s
    rw [← List.map_take, List.drop_eq_nil_of_le (by simp; omega)]; simp
  generalize hs : r.take 16 = s at *
  refine enter [(0, _)] Try.func79 rfl Try.ntmps79 (Nat.le_of_ble_eq_true rfl) rfl ?_; intro a0 hN
  repeat' (first
    | (refine isT ?_; (first | (refine T_copyS hN hT 0 rfl rfl rfl (blk_rdz (sz := 1) (hT.has 2 rfl) (by rw [u8s_length]; omega) (by rw [List.drop_zero, List.take_of_length_le (by rw [u8s_length]; omega)])) (u8s_all1 r) (by omega) (by omega) (by decide) (by decide) ?_; clear hT; intro ww hT; refine ⟨trivial, ?_⟩) | (refine T_nil ?_) | (refine T_nild ?_) | (refine is_load ?_; (first | (refine T_loadn hN rfl (hT.has 0 rfl) (us := u8s s) (by rw [List.drop_zero]; refine Eq.trans (congrArg _ hsp) ?_; rw [List.take_of_length_le (by rw [u8s_length, hl]; exact Nat.le_refl _)]) (by rw [u8s_length, hl]) (by first | exact .inl rfl | exact .inr ⟨by decide, trivial⟩) ?_))) | (refine is_store ?_; (first | (refine T_storeAll hN hT 1 (us := u8s s) rfl rfl rfl (by rw [u8s_length, hl]; rfl) rfl (List.all_eq_true.2 (u8s_all1 s)) (by decide) ?_; clear hT; intro ww hT; refine ⟨trivial, ?_⟩))) | (refine is_alloc ?_; (first | (refine T_alloc hN hT (by decide) ?_; clear hT; intro g ww hT; refine ⟨(by first | exact trivial), ?_⟩))) | (refine is_box ?_; (first | (refine T_box hN hT rfl (by decide) ?_; clear hT; intro g ww hT; refine ⟨(by first | exact trivial), ?_⟩))) | (refine is_slice ?_; (first | (refine T_slcA hN rfl (by first | exact .inr trivial | exact .inl rfl) ?_)))))
    | (refine isC ?_; (first | (refine C_seq ?_) | (refine C_rgnk (id := 0) hN [(0, _)] ⟨rfl, trivial⟩ ?_; clear hN; intro a0 hN) | (refine C_rgnk (id := 1) hN [(0, _), (1, _), (2, _)] ⟨rfl, rfl, rfl, trivial⟩ ?_; clear hN; intro a0 hN) | (refine C_rgnk (id := 3) hN [(0, _), (1, _), (2, _), (3, _)] ⟨rfl, rfl, rfl, rfl, trivial⟩ ?_; clear hN; intro a0 hN) | (refine C_ret ?_) | (refine C_drawk (id := 2) hN [(0, _), (1, _), (2, _), (3, _)] ⟨rfl, rfl, rfl, rfl, trivial⟩ [0, 0] Any Try.mixed (by kernel_rfl) trivial ?_; replace hT := hT.drew; clear hN; intro a0 hN)))
    | (refine isE ?_; (first | (refine E_ret hN Try.results79 (.cell rfl (run_loadAll (hT.has 1 rfl) (us := u8s s) (by rw [List.drop_zero, List.take_of_length_le (by rw [u8s_length, hl]; exact Nat.le_refl _)]) (by rw [u8s_length, hl])) .nil) ?_) | (refine E_thn ?_))))
  all_goals exact ⟨rfl, hT.fr⟩
end Go.Proofs.Ytfcmjlbfoindaaa
