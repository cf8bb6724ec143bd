/- THE WALK of what lays fields: short sums. -/
import Derived.Test.YthjdhmnmlblpfaaROut03b
import Derived.Test.YthjdhmnmlblpfaaRFb
namespace Go.Proofs.YthjdhmnmlblpfaaR
open Go.RowKit Go.Fp
attribute [local irreducible] Go.Calls
set_option maxRecDepth 100000
set_option maxHeartbeats 2000000
theorem flat_get (k : Nat) : ∀ (ls : List (List UInt8)), (∀ l, l ∈ ls → l.length = k) → ∀ (j : Nat) (a : List UInt8), ls[j]? = some a → ∀ i, i < k → ls.flatten[j * k + i]? = a[i]?
  | [], _, j, a, h, _, _ => by simp at h
  | l :: ls, hls, 0, a, h, i, hi => by
    have hl := hls l (by simp)
    simp only [List.getElem?_cons_zero, Option.some.injEq] at h
    subst h
    rw [List.flatten_cons, Nat.zero_mul, Nat.zero_add, List.getElem?_append_left (by omega)]
  | l :: ls, hls, j + 1, a, h, i, hi => by
    have hl := hls l (by simp)
    rw [List.getElem?_cons_succ] at h
    rw [List.flatten_cons, List.getElem?_append_right (by rw [Nat.add_mul]; omega), show (j + 1) * k + i - l.length = j * k + i by rw [Nat.add_mul]; omega]
    exact flat_get k ls (fun l h => hls l (List.mem_cons_of_mem _ h)) j a h i hi
theorem row_cell {w : World} {B off n : Nat} {ls : List (List UInt8)} (h : Rdz w (some ⟨B, off, none⟩) n 16 (u8s ls.flatten)) (hls : ∀ l, l ∈ ls → l.length = 16) {j : Nat} {a : List UInt8} (hj : ls[j]? = some a) (i : Nat) (v : Value) (hv : (u8s a)[i]? = some v) : w.cell? ⟨B, off + j * 16 + i, none⟩ = some v := by
  have ha := hls a (List.mem_of_getElem? hj)
  have hi := (List.getElem?_eq_some_iff.1 hv).1
  rw [u8s_length, ha] at hi
  rw [Nat.add_assoc]
  exact h.cell rfl (by rw [u8s_get, flat_get 16 ls hls j a hj i hi, ← u8s_get]; exact hv)
def sumsO (ls : List (List UInt8)) (o : List UInt8 × Bool) : List UInt8 × Bool := ((numO 1 ls.length o).1 ++ ls.flatten, (numO 1 ls.length o).2)
theorem Out_Sums (q : Nat) (o : List UInt8 × Bool) (hlen : o.1.length ≤ 900000000) (x : Option Addr) (n c : Nat) (ls : List (List UInt8)) (hls : ∀ l, l ∈ ls → l.length = 16) (hln : ls.length = n) (hn : n ≤ 1000) (f : List Nat) (w : World) {m : List Ob} (hT : Tk f w w [Out q o.1 o.2] (Ob.rd x n 16 (u8s ls.flatten) :: m)) :
    Calls Try.prog 61 #[.pointer (some ⟨q, 0, none⟩), .slice x n c] w fun e w' => e = .returned (.tuple #[]) ∧ Tk f w w' [Out q (sumsO ls o).1 (sumsO ls o).2] (Ob.rd x n 16 (u8s ls.flatten) :: m) := by
  have hl := numO_len 1 n o
  unfold sumsO
  rw [hln]
  have hU := Out_U8 q o n (by omega)
  generalize numO 1 n o = o1 at *
  refine enter [(0, _), (1, _)] Try.func61 rfl Try.ntmps61 (Nat.le_of_ble_eq_true rfl) rfl ?_; intro a0 hN
  repeat' (first
    | (refine isT ?_; (first | (refine T_move hN rfl (by first | exact .inr trivial | exact .inl rfl) ?_) | (refine T_nil ?_) | (refine is_call ?_; (first | (refine is_call ?_; obtain ⟨f1, hP, hK⟩ := hT.call1m 0 rfl; refine T_call (f := 35) hN rfl (by decide) (hU f1 _ hP) ?_; rintro e ww ⟨rfl, h1⟩; clear hT hP; replace hT := hK _ _ _ _ h1; clear hK h1; refine ⟨_, rfl, (by first | exact trivial | ((repeat' (first | exact hT.has 0 rfl | exact hT.has 1 rfl | exact hT.has 2 rfl | exact hT.has 3 rfl | exact hT.has 4 rfl | exact hT.has 5 rfl | exact hT.ord 0 rfl | exact hT.ord 1 rfl | exact hT.ord 2 rfl | exact hT.ord 3 rfl | exact hT.ord 4 rfl | exact hT.ord 5 rfl | exact hT.mrd (by assumption) | refine And.intro ?_ ?_)); done)), ?_⟩) | (refine T_len hN rfl (by first | exact .inr trivial | exact .inl rfl) ?_))) | (refine is_convert ?_; (first | (refine T_conv (r := ?_) hN rfl ?_ (by first | exact .inr trivial | exact .inl rfl) ?_; rotate_left; (focus (first | (refine Eq.trans (Go.IntWalk.i64_in _ (by omega)) ?_; (first | (simp only [Int.reduceAdd, Int.reduceSub, Int.reduceMul, Int.reduceNeg, Int.reduceDiv, Int.reduceMod]; rfl) | rfl)) | (refine Eq.trans (Go.IntWalk.u64_in _ (by omega)) ?_; (first | (simp only [Int.reduceAdd, Int.reduceSub, Int.reduceMul, Int.reduceNeg, Int.reduceDiv, Int.reduceMod]; rfl) | rfl)) | (refine Go.IntWalk.u32_in _ ?_; omega) | (refine Go.IntWalk.u8_in _ ?_; omega) | exact rfl)))))))
    | (refine isC ?_; (first | (refine C_seq ?_) | (refine C_rgnk (id := 0) hN [(0, _), (1, _)] ⟨rfl, rfl, trivial⟩ ?_; clear hN; intro a0 hN) | (refine C_rgnk (id := 1) hN [(0, _), (1, _)] ⟨rfl, rfl, trivial⟩ ?_; clear hN; intro a0 hN) | (refine C_block ?_)))
    | (refine isE ?_; (first | (refine E_thn ?_))))
  all_goals
    refine C_loop hN (X := Nat) (fun j => [(0, .pointer (some ⟨q, 0, none⟩)), (11, .slice x n c), (12, .int .i64 n), (13, .int .i64 j)]) (fun j w1 => j ≤ n ∧ Tk f w w1 [Out q (o1.1 ++ (ls.take j).flatten) o1.2] (Ob.rd x n 16 (u8s ls.flatten) :: m)) (fun j => n - j) 0 ⟨rfl, rfl, rfl, rfl, trivial⟩ ⟨Nat.zero_le _, by rw [List.take_zero, List.flatten_nil, List.append_nil]; exact hT⟩ ?_
    clear hN hT
    rintro j a0 ww hN ⟨hj, hT⟩
    by_cases hj0 : j = n
    · subst hj0
      repeat' (first
        | (refine isT ?_; (first | (refine T_nil ?_) | (refine is_binOp ?_; (first | (refine T_lss hN rfl rfl (by first | exact .inr trivial | exact .inl rfl) ?_)))))
        | (refine isC ?_; (first | (refine C_seq ?_) | (refine C_rgn ?_) | (refine C_if hN rfl (fun hb => ?_) (fun hb => ?_) <;> ((first | (exfalso; omega) | (exfalso; exact hb rfl) | (exfalso; exact hb (fun h => h rfl)) | ((with_reducible refine absurd ?_ hb); (repeat' (first | exact trivial | refine And.intro rfl ?_)); done) | (replace hb := Classical.not_not.1 hb) | skip))) | (refine C_exit ?_)))
        | (refine isE ?_; (first | (refine E_thn ?_) | (refine E_thn_exit ?_) | (refine E_blk_hit ?_) | (refine E_lp_exit ?_) | (refine E_end hN Try.results61 .nil ?_))))
      all_goals exact ⟨rfl, by rw [← hln, List.take_length] at hT; rw [← hln]; exact hT⟩
    · obtain ⟨B, off, rfl⟩ := (hT.rrd 0 rfl).addr (by omega)
      have hjl : j < ls.length := by omega
      obtain ⟨a, ha⟩ : ∃ a, ls[j]? = some a := ⟨_, List.getElem?_eq_getElem hjl⟩
      have ha16 := hls a (List.mem_of_getElem? ha)
      have htk : (ls.take (j + 1)).flatten = (ls.take j).flatten ++ a := by rw [List.take_add_one, ha, Option.toList_some, List.flatten_append]; simp
      have hle : (o1.1 ++ (ls.take j).flatten).length ≤ 1000000000 := by
        have h1 : ∀ (l : List (List UInt8)), (∀ x, x ∈ l → x.length = 16) → l.flatten.length = l.length * 16 := by
          intro l
          induction l with
          | nil => intro _; rfl
          | cons y l ih => intro h; rw [List.flatten_cons, List.length_append, ih (fun x hx => h x (List.mem_cons_of_mem _ hx)), h y (by simp), List.length_cons]; omega
        rw [List.length_append, h1 _ (fun x hx => hls x (List.mem_of_mem_take hx)), List.length_take]
        omega
      have hS := fun f1 ww (h) => Out_Sum q (o1.1 ++ (ls.take j).flatten, o1.2) hle f1 ww (m := Ob.rd (some ⟨B, off, none⟩) n 16 (u8s ls.flatten) :: m) h a ha16
      repeat' (first
        | (refine isT ?_; (first | (refine T_move hN rfl (by first | exact .inr trivial | exact .inl rfl) ?_) | (refine T_nil ?_) | (refine is_load ?_; (first | (refine T_loadnc hN rfl (us := u8s a) (by rw [u8s_length, ha16]) (row_cell (hT.rrd 0 rfl) hls ha) (by first | exact .inl rfl | exact .inr ⟨by decide, trivial⟩) ?_) | (refine T_loadn hN rfl (hT.has 0 rfl) (us := u8s a) (by rw [List.drop_zero, List.take_of_length_le (by rw [u8s_length, ha16]; exact Nat.le_refl _)]) (by rw [u8s_length, ha16]) (by first | exact .inl rfl | exact .inr ⟨by decide, trivial⟩) ?_))) | (refine is_binOp ?_; (first | (refine T_addi64 hN rfl rfl (by omega) (by first | exact .inr trivial | exact .inl rfl) ?_) | (refine T_lss hN rfl rfl (by first | exact .inr trivial | exact .inl rfl) ?_))) | (refine is_call ?_; (first | (refine is_call ?_; obtain ⟨f1, hP, hK⟩ := hT.call1m 1 rfl; refine T_call (f := 60) hN rfl (by decide) (hS f1 _ hP) ?_; rintro e ww ⟨rfl, h1⟩; clear hT hP; replace hT := hK _ _ _ _ h1; clear hK h1; refine ⟨_, rfl, (by first | exact trivial | ((repeat' (first | exact hT.has 0 rfl | exact hT.has 1 rfl | exact hT.has 2 rfl | exact hT.has 3 rfl | exact hT.has 4 rfl | exact hT.has 5 rfl | exact hT.ord 0 rfl | exact hT.ord 1 rfl | exact hT.ord 2 rfl | exact hT.ord 3 rfl | exact hT.ord 4 rfl | exact hT.ord 5 rfl | exact hT.mrd (by assumption) | refine And.intro ?_ ?_)); done)), ?_⟩))) | (refine is_store ?_; (first | (refine T_storeAll hN hT 0 (us := u8s a) rfl rfl rfl (by rw [u8s_length, ha16]; rfl) rfl (List.all_eq_true.2 (u8s_all1 a)) (by decide) ?_; clear hT; intro ww hT; refine ⟨trivial, ?_⟩))) | (refine is_alloc ?_; (first | (refine T_alloc hN hT (by decide) ?_; clear hT; intro g ww hT; refine ⟨(by first | exact trivial), ?_⟩))) | (refine is_indexAddr ?_; (first | (refine T_indexAddr hN rfl rfl (by omega) (by first | exact .inr trivial | exact .inl rfl) ?_)))))
        | (refine isC ?_; (first | (refine C_seq ?_) | (refine C_rgn ?_) | (refine C_if hN rfl (fun hb => ?_) (fun hb => ?_) <;> ((first | (exfalso; omega) | (exfalso; exact hb rfl) | (exfalso; exact hb (fun h => h rfl)) | ((with_reducible refine absurd ?_ hb); (repeat' (first | exact trivial | refine And.intro rfl ?_)); done) | (replace hb := Classical.not_not.1 hb) | skip))) | (refine C_skip ?_) | (refine C_block ?_)))
        | (refine isE ?_; (first | (refine E_thn ?_) | (refine E_blk ?_))))
      all_goals exact E_mk hN (j + 1) ⟨rfl, rfl, rfl, evI rfl (by omega), trivial⟩ ⟨⟨by omega, by rw [htk, ← List.append_assoc]; exact hT.drop⟩, by omega⟩
end Go.Proofs.YthjdhmnmlblpfaaR
/- KEYS, ENTRIES: plainly, in memory; may a key be. -/
namespace Go.Proofs.YthjdhmnmlblpfaaR
open Go.RowKit Go.Fp
attribute [local irreducible] Go.Calls
set_option maxRecDepth 100000
set_option maxHeartbeats 4000000
/-- May a key be? -/
def kOk (e s : Nat) (m : Int) : Prop := e ≤ 65536 ∧ s < 64 ∧ 0 ≤ m ∧ m ≤ 15
instance (e s : Nat) (m : Int) : Decidable (kOk e s m) := by unfold kOk; infer_instance
theorem key_Right (e s : Nat) (m : Int) (w : World) : Calls Try.prog 59 #[.agg #[.int .u32 e, .int .u32 s, .int .i64 m]] w fun en w' => en = .returned (.bool (bdec (kOk e s m))) ∧ Fr [] w w' := by
  have hT := Tk.start0 w
  refine enter [(0, _)] Try.func59 rfl Try.ntmps59 (Nat.le_of_ble_eq_true rfl) rfl ?_; intro a0 hN
  repeat' (first
    | (refine isT ?_; (first | (refine isGuard ?_; (first | (refine T_yes hN rfl rfl rfl ?_) | (refine T_no hN rfl rfl rfl rfl ?_) | (refine T_guardD hN rfl rfl rfl (fun hb => ?_) (fun hb => ?_) <;> ((first | (exfalso; omega) | (exfalso; exact hb rfl) | (exfalso; exact hb (fun h => h rfl)) | ((with_reducible refine absurd ?_ hb); (repeat' (first | exact trivial | refine And.intro rfl ?_)); done) | (replace hb := Classical.not_not.1 hb) | skip))))) | (refine T_assign hN rfl (by first | exact .inr trivial | exact .inl rfl) ?_) | (refine T_fieldAddr hN rfl (by first | exact .inr trivial | exact .inl rfl) ?_) | (refine T_move hN rfl (by first | exact .inr trivial | exact .inl rfl) ?_) | (refine T_nil ?_) | (refine is_load ?_; (first | (refine T_load hN rfl (hT.has 0 rfl) rfl (by first | exact .inl rfl | exact .inr ⟨by decide, trivial⟩) ?_))) | (refine is_binOp ?_; (first | (refine T_geq hN rfl rfl (by first | exact .inr trivial | exact .inl rfl) ?_) | (refine T_leq hN rfl rfl (by first | exact .inr trivial | exact .inl rfl) ?_) | (refine T_lss hN rfl rfl (by first | exact .inr trivial | exact .inl rfl) ?_))) | (refine is_pick ?_; (first | (refine T_pick1 hN rfl rfl (by first | exact .inr trivial | exact .inl rfl) ?_) | (refine T_pick0 hN rfl rfl (by first | exact .inr trivial | exact .inl rfl) ?_))) | (refine is_box ?_; (first | (refine T_box hN hT rfl (by decide) ?_; clear hT; intro g ww hT; refine ⟨(by first | exact trivial), ?_⟩)))))
    | (refine isC ?_; (first | (refine C_seq ?_) | (refine C_rgnk (id := 0) hN [(0, _)] ⟨rfl, trivial⟩ ?_; clear hN; intro a0 hN) | (refine C_rgnk (id := 1) hN [(0, _), (1, _), (2, _)] ⟨rfl, rfl, rfl, trivial⟩ ?_; clear hN; intro a0 hN) | (refine C_ret ?_)))
    | (refine isE ?_; (first | (refine E_thn ?_) | (refine E_ret hN Try.results59 (.tmp rfl .nil) ?_))))
  all_goals first
    | exact ⟨ret_bb (by unfold kOk; omega), hT.fr⟩
    | exact ⟨ret_bf (fun h => by unfold kOk at h; omega), hT.fr⟩
theorem rkey_Right (e s : Nat) (m : Int) (w : World) : Calls Try.prog 64 #[.agg #[.int .u32 e, .int .u32 s, .int .i64 m]] w fun en w' => en = .returned (.bool (bdec (kOk e s m))) ∧ Fr [] w w' := by
  have hT := Tk.start0 w
  refine enter [(0, _)] Try.func64 rfl Try.ntmps64 (Nat.le_of_ble_eq_true rfl) rfl ?_; intro a0 hN
  repeat' (first
    | (refine isT ?_; (first | (refine isGuard ?_; (first | (refine T_yes hN rfl rfl rfl ?_) | (refine T_no hN rfl rfl rfl rfl ?_) | (refine T_guardD hN rfl rfl rfl (fun hb => ?_) (fun hb => ?_) <;> ((first | (exfalso; omega) | (exfalso; exact hb rfl) | (exfalso; exact hb (fun h => h rfl)) | ((with_reducible refine absurd ?_ hb); (repeat' (first | exact trivial | refine And.intro rfl ?_)); done) | (replace hb := Classical.not_not.1 hb) | skip))))) | (refine T_assign hN rfl (by first | exact .inr trivial | exact .inl rfl) ?_) | (refine T_fieldAddr hN rfl (by first | exact .inr trivial | exact .inl rfl) ?_) | (refine T_move hN rfl (by first | exact .inr trivial | exact .inl rfl) ?_) | (refine T_nil ?_) | (refine is_load ?_; (first | (refine T_load hN rfl (hT.has 0 rfl) rfl (by first | exact .inl rfl | exact .inr ⟨by decide, trivial⟩) ?_))) | (refine is_binOp ?_; (first | (refine T_geq hN rfl rfl (by first | exact .inr trivial | exact .inl rfl) ?_) | (refine T_leq hN rfl rfl (by first | exact .inr trivial | exact .inl rfl) ?_))) | (refine is_pick ?_; (first | (refine T_pick1 hN rfl rfl (by first | exact .inr trivial | exact .inl rfl) ?_) | (refine T_pick0 hN rfl rfl (by first | exact .inr trivial | exact .inl rfl) ?_))) | (refine is_box ?_; (first | (refine T_box hN hT rfl (by decide) ?_; clear hT; intro g ww hT; refine ⟨(by first | exact trivial), ?_⟩)))))
    | (refine isC ?_; (first | (refine C_seq ?_) | (refine C_rgnk (id := 0) hN [(0, _)] ⟨rfl, trivial⟩ ?_; clear hN; intro a0 hN) | (refine C_rgnk (id := 1) hN [(0, _), (1, _), (2, _)] ⟨rfl, rfl, rfl, trivial⟩ ?_; clear hN; intro a0 hN) | (refine C_ret ?_)))
    | (refine isE ?_; (first | (refine E_thn ?_) | (refine E_ret hN Try.results64 (.tmp rfl .nil) ?_))))
  all_goals first
    | exact ⟨ret_bb (by unfold kOk; omega), hT.fr⟩
    | exact ⟨ret_bf (fun h => by unfold kOk at h; omega), hT.fr⟩
/-- An entry of an update. -/
structure En where
  dest : Int
  ep : Nat
  sq : Nat
  me : Int
  leaf : List UInt8
  wx : Option Addr
  wc : Nat
  way : List (List UInt8)
  px : Option Addr
  pc : Nat
  path : List (List UInt8)
structure En.Ok (e : En) : Prop where
  ep : e.ep < 4294967296
  sq : e.sq < 4294967296
  leaf : e.leaf.length = 16
  way : ∀ l, l ∈ e.way → l.length = 16
  path : ∀ l, l ∈ e.path → l.length = 16
def En.cells (e : En) : List Value := .int .i64 e.dest :: .int .u32 e.ep :: .int .u32 e.sq :: .int .i64 e.me :: (u8s e.leaf ++ [.slice e.wx e.way.length e.wc, .slice e.px e.path.length e.pc])
def En.wob (e : En) : Ob := Ob.rd e.wx e.way.length 16 (u8s e.way.flatten)
def En.pob (e : En) : Ob := Ob.rd e.px e.path.length 16 (u8s e.path.flatten)
theorem En.len {e : En} (h : e.Ok) : e.cells.length = 22 := by simp [En.cells, u8s_length, h.leaf]
theorem ens_len {es : List En} (h : ∀ e, e ∈ es → e.Ok) : ∀ l, l ∈ es.map En.cells → l.length = 22 := fun l hl => by obtain ⟨r, hr, rfl⟩ := List.mem_map.1 hl; exact En.len (h r hr)
theorem sixteen {l : List UInt8} (h : l.length = 16) : ∃ a0 a1 a2 a3 a4 a5 a6 a7 a8 a9 a10 a11 a12 a13 a14 a15, l = [a0, a1, a2, a3, a4, a5, a6, a7, a8, a9, a10, a11, a12, a13, a14, a15] := by
  match l, h with
  | [a0, a1, a2, a3, a4, a5, a6, a7, a8, a9, a10, a11, a12, a13, a14, a15], _ => exact ⟨a0, a1, a2, a3, a4, a5, a6, a7, a8, a9, a10, a11, a12, a13, a14, a15, rfl⟩
/-- An entry's bytes. -/
def En.enc (e : En) : List UInt8 := be 1 e.dest.toNat ++ be 4 e.ep ++ be 1 e.sq ++ be 1 e.me.toNat ++ e.leaf ++ (be 1 e.way.length ++ e.way.flatten) ++ (be 1 e.path.length ++ e.path.flatten)
/-- May an entry be, behind another one? -/
def En.good (prev : Option En) (e : En) : Prop := 0 ≤ e.dest ∧ e.dest < 8 ∧ kOk e.ep e.sq e.me ∧ (∀ p, prev = some p → p.dest < e.dest) ∧ e.way.length ≤ 3 ∧ e.path.length ≤ 6
def ensGood : Option En → List En → Prop
  | _, [] => True
  | p, e :: es => En.good p e ∧ ensGood (some e) es
def prevE (p : Option En) (es : List En) : Nat → Option En
  | 0 => p
  | k + 1 => es[k]?
open Classical in
/-- An update's bytes, or why it is none. -/
noncomputable def putU (full : Bool) (es : List En) : List UInt8 × Int := if 8 < es.length then ([], 8) else if ensGood none es then (be 1 (if full then 1 else 0) ++ be 1 es.length ++ es.flatMap En.enc, 0) else ([], 1)
theorem flatten16 : ∀ {ls : List (List UInt8)}, (∀ l, l ∈ ls → l.length = 16) → ls.flatten.length = ls.length * 16
  | [], _ => rfl
  | l :: ls, h => by rw [List.flatten_cons, List.length_append, flatten16 (fun x hx => h x (List.mem_cons_of_mem _ hx)), h l (by simp), List.length_cons]; omega
theorem En.enc_len {e : En} {p : Option En} (h : e.Ok) (g : En.good p e) : e.enc.length ≤ 169 := by
  obtain ⟨_, _, _, _, g1, g2⟩ := g
  have h1 := flatten16 h.way
  have h2 := flatten16 h.path
  simp only [En.enc, List.length_append, be_length, h.leaf, h1, h2]
  omega
/-- Up to some place all are good, or at some place one is not. -/
theorem ensGood_take : ∀ {es : List En} {p : Option En} {j : Nat} {e : En}, es[j]? = some e → ensGood p (es.take j) → (ensGood p (es.take (j + 1)) ↔ En.good (prevE p es j) e)
  | [], _, _, _, h, _ => by simp at h
  | a :: es, p, 0, e, h, _ => by simp at h; subst h; simp [ensGood, prevE]
  | a :: es, p, j + 1, e, h, hg => by
    simp only [List.getElem?_cons_succ] at h
    simp only [List.take_succ_cons, ensGood] at hg ⊢
    have ih := ensGood_take (p := some a) h hg.2
    have hl : prevE p (a :: es) (j + 1) = prevE (some a) es j := by
      cases j with
      | zero => rfl
      | succ j => rfl
    rw [hl, ← ih]
    exact ⟨fun h => h.2, fun h => ⟨hg.1, h⟩⟩
theorem ensGood_le : ∀ {es : List En} {p : Option En} {j : Nat}, ensGood p es → ensGood p (es.take j)
  | [], _, _, _ => by simp [ensGood]
  | a :: es, p, 0, _ => by simp [ensGood]
  | a :: es, p, j + 1, h => by simp only [List.take_succ_cons, ensGood] at h ⊢; exact ⟨h.1, ensGood_le h.2⟩
end Go.Proofs.YthjdhmnmlblpfaaR
