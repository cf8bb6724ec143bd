/- THE WALK of the document's answer: short sums. -/
import Derived.Test.YthjdhmnmlblpfaaRRefO03
import Derived.Test.YthjdhmnmlblpfaaRHSum12
import Derived.Test.YthjdhmnmlblpfaaRPU21
namespace Go.Proofs.YthjdhmnmlblpfaaR
open Go.RowKit Go.Fp
attribute [local irreducible] Go.Calls
set_option maxRecDepth 100000
set_option maxHeartbeats 2000000
theorem Ent.blk_rd (g T n sz : Nat) (vs : List Value) (hn : vs.length = n * sz) : Ob.Ent (Ob.blk g T vs) (Ob.rd (some ⟨g, 0, none⟩) n sz vs) := by
  rintro f w ⟨rfl, h⟩
  obtain ⟨f', h3, h4⟩ := of_rd (blk_rdz (o := 0) h hn (by rw [List.drop_zero, List.take_of_length_le (by omega)]))
  refine ⟨f', h3, fun k hk => ?_⟩
  obtain ⟨off, h5, _⟩ := h4 k hk
  simp only [Option.some.injEq, Addr.mk.injEq] at h5
  simp [h5.1]
theorem ref_OSums (x : Option Addr) (c : Nat) (o : List UInt8 × Bool) (hlen : o.1.length ≤ 800000000) (y : Option Addr) (n d : Nat) (ls : List (List UInt8)) (hls : ∀ l, l ∈ ls → l.length = 16) (hln : ls.length = n) (hn : n ≤ 1000) (f : List Nat) (w : World) {m : List Ob} (hT : Tk f w w [Ob.own 5 1 (.slice x o.1.length c) o.1.length (u8s o.1)] (Ob.rd y n 16 (u8s ls.flatten) :: m)) :
    Calls Try.prog 66 #[.agg #[.slice x o.1.length c, .bool o.2], .slice y n d] w fun e w' => ∃ x' c', e = .returned (.agg #[.slice x' (sumsO ls o).1.length c', .bool (sumsO ls o).2]) ∧ Tk f w w' [Ob.own 5 1 (.slice x' (sumsO ls o).1.length c') (sumsO ls o).1.length (u8s (sumsO ls o).1)] (Ob.rd y n 16 (u8s ls.flatten) :: m) := by
  have hl := numO_len 1 n o
  unfold sumsO
  rw [hln]
  have hNum := fun f1 ww (h) => ref_Num x c o n 1 (by omega) (by omega) (by omega) f1 ww (m := Ob.rd y n 16 (u8s ls.flatten) :: m) h
  generalize numO 1 n o = o1 at *
  refine enter [(0, _), (1, _)] Try.func66 rfl Try.ntmps66 (Nat.le_of_ble_eq_true rfl) rfl ?_; intro a0 hN
  repeat' (first
    | (refine isT ?_; (first | (refine T_assign hN rfl (by first | exact .inr trivial | exact .inl rfl) ?_) | (refine T_move hN rfl (by first | exact .inr trivial | exact .inl rfl) ?_) | (refine T_nil ?_) | (refine is_load ?_; (first | (refine T_loadn (t := 94) (us := [_, _]) hN rfl (hT.has 1 rfl) rfl rfl (by first | exact .inl rfl | exact .inr ⟨by decide, trivial⟩) ?_))) | (refine is_call ?_; (first | (refine is_call ?_; obtain ⟨f1, hP, hK⟩ := hT.call1m 2 rfl; refine T_call (f := 46) hN rfl (by decide) (hNum f1 _ hP) ?_; rintro e ww ⟨x1, c1, rfl, h1⟩; clear hT hP; replace hT := hK _ _ _ _ h1; clear hK h1; refine ⟨_, rfl, (by first | exact trivial | ((repeat' (first | exact hT.has 0 rfl | exact hT.has 1 rfl | exact hT.has 2 rfl | exact hT.has 3 rfl | exact hT.has 4 rfl | exact hT.has 5 rfl | exact hT.ord 0 rfl | exact hT.ord 1 rfl | exact hT.ord 2 rfl | exact hT.ord 3 rfl | exact hT.ord 4 rfl | exact hT.ord 5 rfl | exact hT.mrd (by assumption) | refine And.intro ?_ ?_)); done)), ?_⟩) | (refine T_len hN rfl (by first | exact .inr trivial | exact .inl rfl) ?_))) | (refine is_store ?_; (first | (refine T_storen hN hT 1 rfl rfl rfl rfl rfl rfl (by decide) ?_; clear hT; intro ww hT; refine ⟨(by first | exact trivial), ?_⟩))) | (refine is_alloc ?_; (first | (refine T_alloc hN hT (by decide) ?_; clear hT; intro g ww hT; refine ⟨(by first | exact trivial), ?_⟩))) | (refine is_box ?_; (first | (refine T_box hN hT rfl (by decide) ?_; clear hT; intro g ww hT; refine ⟨(by first | exact trivial), ?_⟩))) | (refine is_convert ?_; (first | (refine T_conv (r := ?_) hN rfl ?_ (by first | exact .inr trivial | exact .inl rfl) ?_; rotate_left; (focus (first | (refine Eq.trans (Go.IntWalk.i64_in _ (by omega)) ?_; (first | (simp only [Int.reduceAdd, Int.reduceSub, Int.reduceMul, Int.reduceNeg, Int.reduceDiv, Int.reduceMod]; rfl) | rfl)) | (refine Eq.trans (Go.IntWalk.u64_in _ (by omega)) ?_; (first | (simp only [Int.reduceAdd, Int.reduceSub, Int.reduceMul, Int.reduceNeg, Int.reduceDiv, Int.reduceMod]; rfl) | rfl)) | (refine Go.IntWalk.u32_in _ ?_; omega) | (refine Go.IntWalk.u8_in _ ?_; omega) | exact rfl)))))))
    | (refine isC ?_; (first | (refine C_seq ?_) | (refine C_rgnk (id := 0) hN [(0, _), (1, _)] ⟨rfl, rfl, trivial⟩ ?_; clear hN; intro a0 hN) | (refine C_rgnk (id := 1) hN [(0, _), (1, _), (2, _), (4, _)] ⟨rfl, rfl, rfl, rfl, trivial⟩ ?_; clear hN; intro a0 hN) | (refine C_rgnk (id := 2) hN [(0, _), (1, _), (2, _), (4, _)] ⟨rfl, rfl, rfl, rfl, trivial⟩ ?_; clear hN; intro a0 hN) | (refine C_block ?_)))
    | (refine isE ?_; (first | (refine E_thn ?_))))
  all_goals
    rename_i g1 _ _ _ _
    refine C_loop hN (X := Nat × Option Addr × Nat) (fun z => [(1, .slice y n d), (2, .pointer (some ⟨g1, 0, none⟩)), (4, .pointer (some ⟨g, 0, none⟩)), (5, .int .i64 z.1)]) (fun z w1 => z.1 ≤ n ∧ Tk f w w1 [Ob.blk g 94 [.slice none 0 0, .bool false], Ob.blk g1 94 [.slice z.2.1 (o1.1 ++ (ls.take z.1).flatten).length z.2.2, .bool o1.2], Ob.own 5 1 (.slice z.2.1 (o1.1 ++ (ls.take z.1).flatten).length z.2.2) (o1.1 ++ (ls.take z.1).flatten).length (u8s (o1.1 ++ (ls.take z.1).flatten))] (Ob.rd y n 16 (u8s ls.flatten) :: m)) (fun z => n - z.1) (0, x1, c1) ⟨rfl, rfl, rfl, rfl, trivial⟩ ⟨Nat.zero_le _, by dsimp only; rw [List.take_zero, List.flatten_nil, List.append_nil]; exact hT⟩ ?_
    clear hN hT x1 c1
    rintro ⟨j, x1, c1⟩ a0 ww hN ⟨hj, hT⟩
    dsimp only at hj hT ⊢
    by_cases hj0 : j = n
    · subst hj0
      repeat' (first
        | (refine isT ?_; (first | (refine T_move hN rfl (by first | exact .inr trivial | exact .inl rfl) ?_) | (refine T_nil ?_) | (refine is_load ?_; (first | (refine T_loadn (t := 94) (us := [_, _]) hN rfl (hT.has 1 rfl) rfl rfl (by first | exact .inl rfl | exact .inr ⟨by decide, trivial⟩) ?_))) | (refine is_binOp ?_; (first | (refine T_lss hN rfl rfl (by first | exact .inr trivial | exact .inl rfl) ?_))) | (refine is_call ?_; (first | (refine T_len hN rfl (by first | exact .inr trivial | exact .inl rfl) ?_))) | (refine is_store ?_; (first | (refine T_storen hN hT 0 rfl rfl rfl rfl rfl rfl (by decide) ?_; clear hT; intro ww hT; refine ⟨(by first | exact trivial), ?_⟩)))))
        | (refine isC ?_; (first | (refine C_seq ?_) | (refine C_rgn ?_) | (refine C_if hN rfl (fun hb => ?_) (fun hb => ?_) <;> ((first | (exfalso; omega) | (exfalso; exact hb rfl) | (exfalso; exact hb (fun h => h rfl)) | ((with_reducible refine absurd ?_ hb); (repeat' (first | exact trivial | refine And.intro rfl ?_)); done) | (replace hb := Classical.not_not.1 hb) | skip))) | (refine C_ret ?_) | (refine C_exit ?_)))
        | (refine isE ?_; (first | (refine E_thn ?_) | (refine E_thn_exit ?_) | (refine E_blk_hit ?_) | (refine E_lp_exit ?_) | (refine E_ret hN Try.results66 (.cell rfl (run_loadAll (hT.has 0 rfl) rfl rfl) .nil) ?_))))
      all_goals exact ⟨x1, c1, by rw [← hln, List.take_length]; rfl, by rw [← hln, List.take_length] at hT; rw [← hln]; exact hT.drop.drop⟩
    · obtain ⟨B, off, rfl⟩ := (hT.rrd 0 rfl).addr (by omega)
      have hjl : j < ls.length := by omega
      obtain ⟨a, ha⟩ : ∃ a, ls[j]? = some a := ⟨_, List.getElem?_eq_getElem hjl⟩
      have ha16 := hls a (List.mem_of_getElem? ha)
      have htk : o1.1 ++ (ls.take (j + 1)).flatten = o1.1 ++ (ls.take j).flatten ++ a := by rw [List.take_add_one, ha, Option.toList_some, List.flatten_append, List.append_assoc]; simp
      have hle : (o1.1 ++ (ls.take j).flatten).length ≤ 900000000 := by
        have h1 : ∀ (l : List (List UInt8)), (∀ x, x ∈ l → x.length = 16) → l.flatten.length = l.length * 16 := by
          intro l
          induction l with
          | nil => intro _; rfl
          | cons y l ih => intro h; rw [List.flatten_cons, List.length_append, ih (fun x hx => h x (List.mem_cons_of_mem _ hx)), h y (by simp), List.length_cons]; omega
        rw [List.length_append, h1 _ (fun x hx => hls x (List.mem_of_mem_take hx)), List.length_take]
        omega
      generalize o1.1 ++ (ls.take j).flatten = bs at *
      have hRaw := fun g2 f1 ww (h) => ref_Raw x1 c1 (bs, o1.2) hle (some ⟨g2, 0, none⟩) 16 16 a ha16 (fun h => by cases h) (by omega) f1 ww (m := []) h
      repeat' (first
        | (refine isT ?_; (first | (refine T_assign hN rfl (by first | exact .inr trivial | exact .inl rfl) ?_) | (refine T_move hN rfl (by first | exact .inr trivial | exact .inl rfl) ?_) | (refine T_nil ?_) | (refine T_nild ?_) | (refine is_load ?_; (first | (refine T_loadnc hN rfl (us := u8s a) (by rw [u8s_length, ha16]) (row_cell (hT.rrd 0 rfl) hls ha) (by first | exact .inl rfl | exact .inr ⟨by decide, trivial⟩) ?_) | (refine T_loadn (t := 94) (us := [_, _]) hN rfl (hT.has 2 rfl) rfl rfl (by first | exact .inl rfl | exact .inr ⟨by decide, trivial⟩) ?_))) | (refine is_binOp ?_; (first | (refine T_addi64 hN rfl rfl (by omega) (by first | exact .inr trivial | exact .inl rfl) ?_) | (refine T_lss hN rfl rfl (by first | exact .inr trivial | exact .inl rfl) ?_))) | (refine is_call ?_; (first | (refine is_call ?_; obtain ⟨f1, hP, hK⟩ := hT.call1 3 rfl [Ob.rd _ 16 1 (u8s a)] (fun o' ho => by rw [List.mem_singleton] at ho; subst ho; exact ⟨_, List.mem_append_left _ (List.mem_of_getElem? (i := 0) rfl), Ent.blk_rd _ _ 16 1 _ (by rw [u8s_length, ha16])⟩); refine T_call (f := 65) hN rfl (by decide) (hRaw _ f1 _ hP) ?_; rintro e ww ⟨x2, c2, rfl, h1⟩; clear hT hP; replace hT := hK _ _ _ _ h1; clear hK h1; refine ⟨_, rfl, trivial, ?_⟩) | (refine T_len hN rfl (by first | exact .inr trivial | exact .inl rfl) ?_))) | (refine is_store ?_; (first | (refine T_storeAll hN hT 0 (us := u8s a) rfl rfl rfl (by rw [u8s_length, ha16]; rfl) rfl (List.all_eq_true.2 (u8s_all1 a)) (by decide) ?_; clear hT; intro ww hT; refine ⟨trivial, ?_⟩) | (refine T_storen hN hT 2 rfl rfl rfl rfl rfl rfl (by decide) ?_; clear hT; intro ww hT; refine ⟨(by first | exact trivial), ?_⟩))) | (refine is_alloc ?_; (first | (refine T_alloc hN hT (by decide) ?_; clear hT; intro g ww hT; refine ⟨(by first | exact trivial), ?_⟩))) | (refine is_indexAddr ?_; (first | (refine T_indexAddr hN rfl rfl (by omega) (by first | exact .inr trivial | exact .inl rfl) ?_))) | (refine is_slice ?_; (first | (refine T_slcA hN rfl (by first | exact .inr trivial | exact .inl rfl) ?_)))))
        | (refine isC ?_; (first | (refine C_seq ?_) | (refine C_rgn ?_) | (refine C_if hN rfl (fun hb => ?_) (fun hb => ?_) <;> ((first | (exfalso; omega) | (exfalso; exact hb rfl) | (exfalso; exact hb (fun h => h rfl)) | ((with_reducible refine absurd ?_ hb); (repeat' (first | exact trivial | refine And.intro rfl ?_)); done) | (replace hb := Classical.not_not.1 hb) | skip))) | (refine C_skip ?_) | (refine C_block ?_) | (refine C_draw (id := 6) [1, 0] Any Try.mixed (by kernel_rfl) trivial ?_; replace hT := hT.drew)))
        | (refine isE ?_; (first | (refine E_thn ?_) | (refine E_blk ?_))))
      all_goals exact E_mk hN (j + 1, x2, c2) ⟨rfl, rfl, rfl, evI rfl (by omega), trivial⟩ ⟨⟨by omega, by dsimp only; rw [htk]; exact hT.drop⟩, by omega⟩
end Go.Proofs.YthjdhmnmlblpfaaR
/- THE WALKS of tags. -/
namespace Go.Fp
open Go Go.RowKit
section
variable {P : Program} {ops : Array Oper} {Q : Exit → Act → World → Prop} {R : Kn} {cs : List Nat} {rest : List Oper} {a0 : Act} {w w0 : World} {N : Nat} {env : List (Nat × Value)}
  {d : Tmp} {ty : TypeId} {pos : String} {af : Array Edge} {S : List Nat} {l m : List Ob}
/-- 'copy' of what is longer. -/
theorem T_copyS (hN : Base N a0) (hT : Tk S w0 w l m) (i : Nat) {s y : Operand} {t t2 e : Nat} [hs : Slc P t e 1] {g o dn dc T : Nat} {vs : List Value} (hev : ev N env s = some (.slice (some ⟨g, o, none⟩) dn dc)) (hi : l[i]? = some (.blk g T vs))
    {x : Option Addr} {k c : Nat} {news : List Value} (hey : ev N env y = some (.slice x k c)) (hrd : Rdz w x k 1 news) (h1 : Value.all1 news) (hk : dn ≤ k) (hd : 0 < dn) (hfit : o + dn ≤ vs.length) (hc : cs.headD 2 = 2)
    (h : ∀ w', Tk S w0 w' (l.set i (.blk g T (spl vs o (news.take dn)))) m → R w' ∧ wpD P ops Q R cs.tail rest (puts a0 ((d, .int .i64 dn) :: env)) w') :
    wpD P ops Q R cs (⟨some d, .call { callee := .builtin .copy, args := #[s, y], argTypes := #[t, t2] }, ty, pos, af, none⟩ :: rest) (puts a0 env) w := by
  refine T_do rfl hc ?_
  have hh := hT.has i hi
  have hkl : news.length = k := by have := hrd.1; omega
  have hl2 : (news.take dn).length = dn := by rw [List.length_take]; omega
  have hT' := hT.turn (w' := w.setRow g (spl vs o (news.take dn)).toArray) i (o' := .blk g T (spl vs o (news.take dn))) hi fun f ⟨hf, _⟩ => ⟨f, ⟨hf, setRow_heap w g _ _ T _ hh⟩, ⟨rfl, rfl, rfl, by simp, fun k hk hn => setRow_other w g k _ (fun e => hn (by rw [hf]; simp [e]))⟩, fun k hk => .inl hk⟩
  have hrun : (execOp (puts a0 env).eval ⟨some d, .call { callee := .builtin .copy, args := #[s, y], argTypes := #[t, t2] }, ty, pos, af, none⟩).run P w = .ok (.value (.int .i64 dn)) (w.setRow g (spl vs o (news.take dn)).toArray) := by
    obtain ⟨B, off, rfl, _, h3⟩ := hrd.2 (by omega)
    have hmin : Nat.min k dn = dn := Nat.min_eq_right hk
    have hr := run_copy_row (P := P) w t t2 ty e g o dn dc ⟨B, off, none⟩ k c vs.toArray T (news.take dn) hs.out.1 hs.out.2 hh (by rw [hl2, hmin]) (fun j v hj => by
      have hadd : (⟨B, off, none⟩ : Addr).add j = ⟨B, off + j, none⟩ := by unfold Addr.add; split <;> simp_all
      have hj2 : news[j]? = some v := by
        rw [List.getElem?_take] at hj
        split at hj
        · exact hj
        · cases hj
      rw [hadd]; exact h3 j v hj2) (by simp; omega) (fun u hu => h1 u (List.mem_of_mem_take hu))
    have e : (vs.toArray.toList.take o ++ news.take dn ++ vs.toArray.toList.drop (o + (news.take dn).length)).toArray = (spl vs o (news.take dn)).toArray := by simp [spl]
    rw [e] at hr
    have e2 : min dn news.length = dn := by omega
    simp [execOp, resolve, invoke, builtin, ev_spec hN hev, ev_spec hN hey, hr, goInt, e2]
  unfold Oper.wp
  rw [hrun]
  exact h _ hT'
end
theorem b_in (x : UInt8) : ((x.toNat : Int) % 2 ^ IntKind.u8.bits).toNat = x.toNat := by
  have := x.toNat_lt
  show ((x.toNat : Int) % 2 ^ 8).toNat = x.toNat
  omega
theorem b_self (x : UInt8) : IntKind.u8.wrap (x.toNat : Int) = (x.toNat : Int) := by
  rw [IntKind.wrap_u8]; have := x.toNat_lt; omega
theorem b_xor (x y : UInt8) : IntKind.u8.wrap (((((x.toNat : Int) % 2 ^ IntKind.u8.bits).toNat ^^^ ((y.toNat : Int) % 2 ^ IntKind.u8.bits).toNat : Nat)) : Int) = ((x ^^^ y).toNat : Int) := by
  rw [b_in, b_in, ← UInt8.toNat_xor, b_self]
theorem b_or (x y : UInt8) : IntKind.u8.wrap (((((x.toNat : Int) % 2 ^ IntKind.u8.bits).toNat ||| ((y.toNat : Int) % 2 ^ IntKind.u8.bits).toNat : Nat)) : Int) = ((x ||| y).toNat : Int) := by
  rw [b_in, b_in, ← UInt8.toNat_or, b_self]
/-- A key as one block. -/
def kpad (k : List UInt8) : List UInt8 := k ++ List.replicate (64 - k.length) 0
theorem kpad_len {k : List UInt8} (h : k.length ≤ 64) : (kpad k).length = 64 := by simp [kpad]; omega
theorem kpad_spl {k : List UInt8} (h : k.length ≤ 64) : spl (List.replicate 64 (.int .u8 0)) 0 (u8s k) = u8s (kpad k) := by
  have e : List.replicate 64 (Value.int .u8 0) = u8s (List.replicate 64 0) := by simp [u8s, u8]
  unfold kpad spl
  rw [e, u8s_append, u8s_length, List.take_zero, List.nil_append, Nat.zero_add]
  congr 1
  unfold u8s
  rw [← List.map_drop, List.drop_replicate]
/-- A block, turned so far. -/
def xorB (b : UInt8) (k : List UInt8) (i : Nat) : List UInt8 := (k.take i).map (· ^^^ b) ++ k.drop i
theorem xorB_len (b : UInt8) (k : List UInt8) (i : Nat) : (xorB b k i).length = k.length := by unfold xorB; rw [List.length_append, List.length_map, List.length_take, List.length_drop]; omega
theorem xorB_get (b : UInt8) {k : List UInt8} {i : Nat} (h : i < k.length) : (u8s (xorB b k i))[0 + i * 1]? = some (u8 (gb k i)) := by
  rw [u8s_get, Nat.zero_add, Nat.mul_one]
  unfold xorB
  rw [List.getElem?_append_right (by simp; omega), List.getElem?_drop, show i + (i - (List.map (· ^^^ b) (k.take i)).length) = i by simp; omega, gb_get h]; rfl
theorem xorB_set (b : UInt8) {k : List UInt8} {i : Nat} (h : i < k.length) : (u8s (xorB b k i)).set (0 + i * 1) (u8 (gb k i ^^^ b)) = u8s (xorB b k (i + 1)) := by
  rw [u8s_set, Nat.zero_add, Nat.mul_one]
  congr 1
  unfold xorB
  rw [set_app _ _ _ 0 _ (by simp; omega), List.take_add_one, gb_get h, List.drop_eq_getElem_cons h]
  have e : k[i] = gb k i := by have := gb_get h; rw [List.getElem?_eq_getElem h] at this; exact Option.some.inj this
  simp [List.set]
theorem xorB_zero (b : UInt8) (k : List UInt8) : xorB b k 0 = k := by simp [xorB]
theorem xorB_all (b : UInt8) {k : List UInt8} (h : k.length = 64) : xorB b k 64 = k.map (· ^^^ b) := by
  unfold xorB; rw [List.take_of_length_le (by omega), List.drop_eq_nil_of_le (by omega), List.append_nil]
/-- A message's tag by a key. -/
def macP (k p : List UInt8) : List UInt8 := shaP ((kpad k).map (· ^^^ 0x5c) ++ shaP ((kpad k).map (· ^^^ 0x36) ++ p))
def tagP (k p : List UInt8) : List UInt8 := (macP k p).take 16
theorem macP_len (k p : List UInt8) : (macP k p).length = 32 := shaP_len _
theorem tagP_len (k p : List UInt8) : (tagP k p).length = 16 := by unfold tagP; rw [List.length_take, macP_len]; rfl
end Go.Fp
namespace Go.Proofs.YthjdhmnmlblpfaaR
open Go.RowKit Go.Fp
attribute [local irreducible] Go.Calls
set_option maxRecDepth 100000
set_option maxHeartbeats 16000000
attribute [local irreducible] shaP
theorem freeze_blk {S : List Nat} {w0 w : World} {l m : List Ob} {g T n : Nat} {vs : List Value} (hT : Tk S w0 w l (Ob.blk g T vs :: m)) (hn : vs.length = n * 1) : Tk S w0 w l (Ob.rd (some ⟨g, 0, none⟩) n 1 vs :: m) :=
  hT.meq fun o ho => by
    rcases List.mem_cons.1 ho with rfl | ho
    · exact ⟨_, List.mem_cons_self .., Ent.blk_rd _ _ _ _ _ hn⟩
    · exact ⟨_, List.mem_cons_of_mem _ ho, Ob.Ent.refl _⟩
theorem sha_WriteM (q : Nat) (p : List UInt8) (y : Option Addr) (n d : Nat) (ps : List UInt8) (hpn : ps.length = n) (hy : y = none → n = 0 ∧ d = 0) (hn : p.length + n ≤ 1000000) (f : List Nat) (w : World) {m : List Ob} (hm : Ob.rd y n 1 (u8s ps) ∈ m) (hT : Tk f w w [Hs q p] m) :
    Calls Try.prog 93 #[.pointer (some ⟨q, 0, none⟩), .slice y n d] w fun e w' => e = .returned (.tuple #[]) ∧ Tk f w w' [Hs q (p ++ ps)] m := by
  subst hpn
  have h := sha_Write q p y d ps hy hn f w (m := m) (hT.meq (fun o ho => by
    rcases List.mem_cons.1 ho with rfl | ho
    · exact ⟨_, hm, Ob.Ent.refl _⟩
    · exact ⟨_, ho, Ob.Ent.refl _⟩))
  refine Calls.mono h ?_
  rintro e w' ⟨h1, h2⟩
  exact ⟨h1, h2.meq (fun o ho => ⟨o, List.mem_cons_of_mem _ ho, Ob.Ent.refl _⟩)⟩
theorem mac_key (x : Option Addr) (c : Nat) (k : List UInt8) (hk : k.length ≤ 64) (w : World) {m : List Ob} (hm : Ob.rd x k.length 1 (u8s k) ∈ m) (hT : Tk [] w w [] m) :
    Calls Try.prog 91 #[.slice x k.length c] w fun e w' => e = .returned (.agg (u8s (kpad k)).toArray) ∧ Tk [] w w' [] m := by
  have hsp := kpad_spl hk
  have hl := kpad_len hk
  generalize kpad k = r at *
  refine enter [(0, _)] Try.func91 rfl Try.ntmps91 (Nat.le_of_ble_eq_true rfl) rfl ?_; intro a0 hN
  repeat' (first
    | (refine isT ?_; (first | (refine T_move hN rfl (by first | exact .inr trivial | exact .inl rfl) ?_) | (refine T_nil ?_) | (refine is_load ?_; (first | (refine T_loadn hN rfl (hT.has 0 rfl) (us := u8s r) (by rw [List.drop_zero]; refine Eq.trans (congrArg _ hsp) ?_; rw [List.take_of_length_le (by rw [u8s_length, hl]; exact Nat.le_refl _)]) (by rw [u8s_length, hl]) (by first | exact .inl rfl | exact .inr ⟨by decide, trivial⟩) ?_))) | (refine is_binOp ?_; (first | (refine T_gtr hN rfl rfl (by first | exact .inr trivial | exact .inl rfl) ?_))) | (refine is_call ?_; (first | (refine T_copy hN hT 0 rfl rfl rfl (hT.mrd hm) (u8s_all1 k) hk (by rw [Nat.zero_add]; exact hk) (by decide) ?_; clear hT; intro ww hT; refine ⟨trivial, ?_⟩) | (refine T_len hN rfl (by first | exact .inr trivial | exact .inl rfl) ?_))) | (refine is_store ?_; (first | (refine T_storeAll hN hT 1 (us := u8s r) rfl rfl rfl (by rw [u8s_length, hl]; rfl) rfl (List.all_eq_true.2 (u8s_all1 r)) (by decide) ?_; clear hT; intro ww hT; refine ⟨trivial, ?_⟩))) | (refine is_alloc ?_; (first | (refine T_alloc hN hT (by decide) ?_; clear hT; intro g ww hT; refine ⟨(by first | exact trivial), ?_⟩))) | (refine is_slice ?_; (first | (refine T_slcA hN rfl (by first | exact .inr trivial | exact .inl rfl) ?_)))))
    | (refine isC ?_; (first | (refine C_seq ?_) | (refine C_rgnk (id := 0) hN [(0, _)] ⟨rfl, trivial⟩ ?_; clear hN; intro a0 hN) | (refine C_rgnk (id := 1) hN [(0, _), (2, _)] ⟨rfl, rfl, trivial⟩ ?_; clear hN; intro a0 hN) | (refine C_rgnk (id := 2) hN [(0, _), (2, _), (3, _)] ⟨rfl, rfl, rfl, trivial⟩ ?_; clear hN; intro a0 hN) | (refine C_rgnk (id := 5) hN [(0, _), (2, _), (3, _), (7, _)] ⟨rfl, rfl, rfl, rfl, trivial⟩ ?_; clear hN; intro a0 hN) | (refine C_rgnk (id := 6) hN [(0, _), (2, _), (3, _), (7, _)] ⟨rfl, rfl, rfl, rfl, trivial⟩ ?_; clear hN; intro a0 hN) | (refine C_if hN rfl (fun hb => ?_) (fun hb => ?_) <;> ((first | (exfalso; omega) | (exfalso; exact hb rfl) | (exfalso; exact hb (fun h => h rfl)) | ((with_reducible refine absurd ?_ hb); (repeat' (first | exact trivial | refine And.intro rfl ?_)); done) | (replace hb := Classical.not_not.1 hb) | skip))) | (refine C_ret ?_)))
    | (refine isE ?_; (first | (refine E_ret hN Try.results91 (.cell rfl (run_loadAll (hT.has 1 rfl) (us := u8s r) (by rw [List.drop_zero, List.take_of_length_le (by rw [u8s_length, hl]; exact Nat.le_refl _)]) (by rw [u8s_length, hl])) .nil) ?_) | (refine E_thn ?_))))
  all_goals exact ⟨rfl, hT.sel [] rfl⟩
theorem mac_first (r : List UInt8) (hr : r.length = 32) (w : World) :
    Calls Try.prog 75 #[.agg (u8s r).toArray] w fun e w' => e = .returned (.agg (u8s (r.take 16)).toArray) ∧ Fr [] w w' := by
  have hT := Tk.start0 w
  have hl : (r.take 16).length = 16 := by rw [List.length_take]; omega
  have hsp : spl (List.replicate 16 (.int .u8 0)) 0 (List.take 16 (u8s r)) = u8s (r.take 16) := by
    unfold spl u8s
    rw [← List.map_take, List.drop_eq_nil_of_le (by simp; omega)]; simp
  generalize hs : r.take 16 = s at *
  refine enter [(0, _)] Try.func75 rfl Try.ntmps75 (Nat.le_of_ble_eq_true rfl) rfl ?_; intro a0 hN
  repeat' (first
    | (refine isT ?_; (first | (refine T_copyS hN hT 0 rfl rfl rfl (blk_rdz (sz := 1) (hT.has 2 rfl) (by rw [u8s_length]; omega) (by rw [List.drop_zero, List.take_of_length_le (by rw [u8s_length]; omega)])) (u8s_all1 r) (by omega) (by omega) (by decide) (by decide) ?_; clear hT; intro ww hT; refine ⟨trivial, ?_⟩) | (refine T_nil ?_) | (refine T_nild ?_) | (refine is_load ?_; (first | (refine T_loadn hN rfl (hT.has 0 rfl) (us := u8s s) (by rw [List.drop_zero]; refine Eq.trans (congrArg _ hsp) ?_; rw [List.take_of_length_le (by rw [u8s_length, hl]; exact Nat.le_refl _)]) (by rw [u8s_length, hl]) (by first | exact .inl rfl | exact .inr ⟨by decide, trivial⟩) ?_))) | (refine is_store ?_; (first | (refine T_storeAll hN hT 1 (us := u8s s) rfl rfl rfl (by rw [u8s_length, hl]; rfl) rfl (List.all_eq_true.2 (u8s_all1 s)) (by decide) ?_; clear hT; intro ww hT; refine ⟨trivial, ?_⟩))) | (refine is_alloc ?_; (first | (refine T_alloc hN hT (by decide) ?_; clear hT; intro g ww hT; refine ⟨(by first | exact trivial), ?_⟩))) | (refine is_box ?_; (first | (refine T_box hN hT rfl (by decide) ?_; clear hT; intro g ww hT; refine ⟨(by first | exact trivial), ?_⟩))) | (refine is_slice ?_; (first | (refine T_slcA hN rfl (by first | exact .inr trivial | exact .inl rfl) ?_)))))
    | (refine isC ?_; (first | (refine C_seq ?_) | (refine C_rgnk (id := 0) hN [(0, _)] ⟨rfl, trivial⟩ ?_; clear hN; intro a0 hN) | (refine C_rgnk (id := 1) hN [(0, _), (1, _), (2, _)] ⟨rfl, rfl, rfl, trivial⟩ ?_; clear hN; intro a0 hN) | (refine C_rgnk (id := 3) hN [(0, _), (1, _), (2, _), (3, _)] ⟨rfl, rfl, rfl, rfl, trivial⟩ ?_; clear hN; intro a0 hN) | (refine C_ret ?_) | (refine C_drawk (id := 2) hN [(0, _), (1, _), (2, _), (3, _)] ⟨rfl, rfl, rfl, rfl, trivial⟩ [0, 0] Any Try.mixed (by kernel_rfl) trivial ?_; replace hT := hT.drew; clear hN; intro a0 hN)))
    | (refine isE ?_; (first | (refine E_ret hN Try.results75 (.cell rfl (run_loadAll (hT.has 1 rfl) (us := u8s s) (by rw [List.drop_zero, List.take_of_length_le (by rw [u8s_length, hl]; exact Nat.le_refl _)]) (by rw [u8s_length, hl])) .nil) ?_) | (refine E_thn ?_))))
  all_goals exact ⟨rfl, hT.fr⟩
end Go.Proofs.YthjdhmnmlblpfaaR
/- THE WALK of the document's PutUpdate. -/
namespace Go.Fp
open Go Go.RowKit
theorem Ent.blk_part {g T o n sz : Nat} {vs xs : List Value} (hl : xs.length = n * sz) (hv : (vs.drop o).take (n * sz) = xs) (hn : 0 < n) : Ob.Ent (Ob.blk g T vs) (Ob.rd (some ⟨g, o, none⟩) n sz xs) := by
  rintro f w ⟨rfl, h⟩
  obtain ⟨f', h1, h2⟩ := of_rd (blk_rdz (o := o) h hl hv)
  exact ⟨f', h1, fun k hk => by
    obtain ⟨off, e, _⟩ := h2 k hk
    cases e; simp⟩
end Go.Fp
namespace Go.Proofs.YthjdhmnmlblpfaaR
open Go.RowKit Go.Fp
set_option maxHeartbeats 16000000
theorem rNum (x : Option Addr) (c : Nat) (bs : List UInt8) (n k : Nat) (hlen : bs.length ≤ 100000) (hk : k = 1 ∨ k = 2 ∨ k = 4 ∨ k = 8) (hn : n / 256 ^ k = 0) (hn2 : n < 18446744073709551616) (f : List Nat) (w : World) {m : List Ob} (hT : Tk f w w [Ob.own 5 1 (.slice x bs.length c) bs.length (u8s bs)] m) :
    Calls Try.prog 46 #[.agg #[.slice x bs.length c, .bool false], .int .u64 n, .int .i64 k] w fun e w' => ∃ x' c', e = .returned (.agg #[.slice x' (bs ++ be k n).length c', .bool false]) ∧ Tk f w w' [Ob.own 5 1 (.slice x' (bs ++ be k n).length c') (bs ++ be k n).length (u8s (bs ++ be k n))] m := by
  have h := ref_Num x c (bs, false) n k hn2 hk (by dsimp only; omega) f w hT
  rwa [numO_fit (o := (bs, false)) hn] at h
theorem rSums (x : Option Addr) (c : Nat) (bs : List UInt8) (hlen : bs.length ≤ 100000) (y : Option Addr) (d : Nat) (ls : List (List UInt8)) (hls : ∀ l, l ∈ ls → l.length = 16) (hn : ls.length ≤ 255) (f : List Nat) (w : World) {m : List Ob} (hT : Tk f w w [Ob.own 5 1 (.slice x bs.length c) bs.length (u8s bs)] (Ob.rd y ls.length 16 (u8s ls.flatten) :: m)) :
    Calls Try.prog 66 #[.agg #[.slice x bs.length c, .bool false], .slice y ls.length d] w fun e w' => ∃ x' c', e = .returned (.agg #[.slice x' (bs ++ (be 1 ls.length ++ ls.flatten)).length c', .bool false]) ∧ Tk f w w' [Ob.own 5 1 (.slice x' (bs ++ (be 1 ls.length ++ ls.flatten)).length c') (bs ++ (be 1 ls.length ++ ls.flatten)).length (u8s (bs ++ (be 1 ls.length ++ ls.flatten)))] (Ob.rd y ls.length 16 (u8s ls.flatten) :: m) := by
  have h := ref_OSums x c (bs, false) (by dsimp only; omega) y ls.length d ls hls rfl (by omega) f w hT
  have e : sumsO ls (bs, false) = (bs ++ (be 1 ls.length ++ ls.flatten), false) := by
    unfold sumsO
    rw [numO_fit (k := 1) (o := (bs, false)) (Nat.div_eq_of_lt (by omega)), List.append_assoc]
  rwa [e] at h
theorem rRaw (x : Option Addr) (c : Nat) (bs : List UInt8) (hlen : bs.length ≤ 100000) (g o d : Nat) (s : List UInt8) (hs : s.length = 16) (f : List Nat) (w : World) {m : List Ob} (hT : Tk f w w [Ob.own 5 1 (.slice x bs.length c) bs.length (u8s bs)] (Ob.rd (some ⟨g, o, none⟩) 16 1 (u8s s) :: m)) :
    Calls Try.prog 65 #[.agg #[.slice x bs.length c, .bool false], .slice (some ⟨g, o, none⟩) 16 d] w fun e w' => ∃ x' c', e = .returned (.agg #[.slice x' (bs ++ s).length c', .bool false]) ∧ Tk f w w' [Ob.own 5 1 (.slice x' (bs ++ s).length c') (bs ++ s).length (u8s (bs ++ s))] (Ob.rd (some ⟨g, o, none⟩) 16 1 (u8s s) :: m) :=
  ref_Raw x c (bs, false) (by dsimp only; omega) _ 16 d s hs (fun h => by cases h) (by omega) f w hT
end Go.Proofs.YthjdhmnmlblpfaaR
