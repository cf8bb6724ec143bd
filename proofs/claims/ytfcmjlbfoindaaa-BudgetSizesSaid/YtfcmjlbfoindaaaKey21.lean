/- KEYS, ENTRIES: plainly, in memory; may a key be. -/
import Derived.Test.YtfcmjlbfoindaaaOut03c
import Derived.Test.YtfcmjlbfoindaaaSl3
namespace Go.Proofs.Ytfcmjlbfoindaaa
open Go.RowKit Go.Fp
attribute [local irreducible] Go.Calls
set_option maxRecDepth 100000
set_option maxHeartbeats 4000000
/-- May a key be? -/
def kOk (e s : Nat) (m : Int) : Prop := e ≤ 65536 ∧ s < 64 ∧ 0 ≤ m ∧ m ≤ 15
instance (e s : Nat) (m : Int) : Decidable (kOk e s m) := by unfold kOk; infer_instance
theorem key_Right (e s : Nat) (m : Int) (w : World) : Calls Try.prog 47 #[.agg #[.int .u32 e, .int .u32 s, .int .i64 m]] w fun en w' => en = .returned (.bool (bdec (kOk e s m))) ∧ Fr [] w w' := by
  have hT := Tk.start0 w
  refine enter [(0, _)] Try.func47 rfl Try.ntmps47 (Nat.le_of_ble_eq_true rfl) rfl ?_; intro a0 hN
  repeat' (first
    | (refine isT ?_; (first | (refine isGuard ?_; (first | (refine T_yes hN rfl rfl rfl ?_) | (refine T_no hN rfl rfl rfl rfl ?_) | (refine T_guardD hN rfl rfl rfl (fun hb => ?_) (fun hb => ?_) <;> ((first | (exfalso; omega) | (exfalso; exact hb rfl) | (exfalso; exact hb (fun h => h rfl)) | ((with_reducible refine absurd ?_ hb); (repeat' (first | exact trivial | refine And.intro rfl ?_)); done) | (replace hb := Classical.not_not.1 hb) | skip))))) | (refine T_assign hN rfl (by first | exact .inr trivial | exact .inl rfl) ?_) | (refine T_fieldAddr hN rfl (by first | exact .inr trivial | exact .inl rfl) ?_) | (refine T_move hN rfl (by first | exact .inr trivial | exact .inl rfl) ?_) | (refine T_nil ?_) | (refine is_load ?_; (first | (refine T_load hN rfl (hT.has 0 rfl) rfl (by first | exact .inl rfl | exact .inr ⟨by decide, trivial⟩) ?_))) | (refine is_binOp ?_; (first | (refine T_geq hN rfl rfl (by first | exact .inr trivial | exact .inl rfl) ?_) | (refine T_leq hN rfl rfl (by first | exact .inr trivial | exact .inl rfl) ?_) | (refine T_lss hN rfl rfl (by first | exact .inr trivial | exact .inl rfl) ?_))) | (refine is_pick ?_; (first | (refine T_pick1 hN rfl rfl (by first | exact .inr trivial | exact .inl rfl) ?_) | (refine T_pick0 hN rfl rfl (by first | exact .inr trivial | exact .inl rfl) ?_))) | (refine is_box ?_; (first | (refine T_box hN hT rfl (by decide) ?_; clear hT; intro g ww hT; refine ⟨(by first | exact trivial), ?_⟩)))))
    | (refine isC ?_; (first | (refine C_seq ?_) | (refine C_rgnk (id := 0) hN [(0, _)] ⟨rfl, trivial⟩ ?_; clear hN; intro a0 hN) | (refine C_rgnk (id := 1) hN [(0, _), (1, _), (2, _)] ⟨rfl, rfl, rfl, trivial⟩ ?_; clear hN; intro a0 hN) | (refine C_ret ?_)))
    | (refine isE ?_; (first | (refine E_thn ?_) | (refine E_ret hN Try.results47 (.tmp rfl .nil) ?_))))
  all_goals first
    | exact ⟨ret_bb (by unfold kOk; omega), hT.fr⟩
    | exact ⟨ret_bf (fun h => by unfold kOk at h; omega), hT.fr⟩
/-- An entry of an update. -/
structure En where
  dest : Int
  ep : Nat
  sq : Nat
  me : Int
  leaf : List UInt8
  wx : Option Addr
  wc : Nat
  way : List (List UInt8)
  px : Option Addr
  pc : Nat
  path : List (List UInt8)
structure En.Ok (e : En) : Prop where
  ep : e.ep < 4294967296
  sq : e.sq < 4294967296
  leaf : e.leaf.length = 16
  way : ∀ l, l ∈ e.way → l.length = 16
  path : ∀ l, l ∈ e.path → l.length = 16
def En.cells (e : En) : List Value := .int .i64 e.dest :: .int .u32 e.ep :: .int .u32 e.sq :: .int .i64 e.me :: (u8s e.leaf ++ [.slice e.wx e.way.length e.wc, .slice e.px e.path.length e.pc])
def En.wob (e : En) : Ob := Ob.rd e.wx e.way.length 16 (u8s e.way.flatten)
def En.pob (e : En) : Ob := Ob.rd e.px e.path.length 16 (u8s e.path.flatten)
theorem En.len {e : En} (h : e.Ok) : e.cells.length = 22 := by simp [En.cells, u8s_length, h.leaf]
theorem ens_len {es : List En} (h : ∀ e, e ∈ es → e.Ok) : ∀ l, l ∈ es.map En.cells → l.length = 22 := fun l hl => by obtain ⟨r, hr, rfl⟩ := List.mem_map.1 hl; exact En.len (h r hr)
theorem sixteen {l : List UInt8} (h : l.length = 16) : ∃ a0 a1 a2 a3 a4 a5 a6 a7 a8 a9 a10 a11 a12 a13 a14 a15, l = [a0, a1, a2, a3, a4, a5, a6, a7, a8, a9, a10, a11, a12, a13, a14, a15] := by
  match l, h with
  | [a0, a1, a2, a3, a4, a5, a6, a7, a8, a9, a10, a11, a12, a13, a14, a15], _ => exact ⟨a0, a1, a2, a3, a4, a5, a6, a7, a8, a9, a10, a11, a12, a13, a14, a15, rfl⟩
/-- An entry's bytes. -/
def En.enc (e : En) : List UInt8 := be 1 e.dest.toNat ++ be 4 e.ep ++ be 1 e.sq ++ be 1 e.me.toNat ++ e.leaf ++ (be 1 e.way.length ++ e.way.flatten) ++ (be 1 e.path.length ++ e.path.flatten)
/-- May an entry be, behind another one? -/
def En.good (prev : Option En) (e : En) : Prop := 0 ≤ e.dest ∧ e.dest < 8 ∧ kOk e.ep e.sq e.me ∧ (∀ p, prev = some p → p.dest < e.dest) ∧ e.way.length ≤ 3 ∧ e.path.length ≤ 6
def ensGood : Option En → List En → Prop
  | _, [] => True
  | p, e :: es => En.good p e ∧ ensGood (some e) es
def prevE (p : Option En) (es : List En) : Nat → Option En
  | 0 => p
  | k + 1 => es[k]?
open Classical in
/-- An update's bytes, or why it is none. -/
noncomputable def putU (full : Bool) (es : List En) : List UInt8 × Int := if 8 < es.length then ([], 8) else if ensGood none es then (be 1 (if full then 1 else 0) ++ be 1 es.length ++ es.flatMap En.enc, 0) else ([], 1)
theorem flatten16 : ∀ {ls : List (List UInt8)}, (∀ l, l ∈ ls → l.length = 16) → ls.flatten.length = ls.length * 16
  | [], _ => rfl
  | l :: ls, h => by rw [List.flatten_cons, List.length_append, flatten16 (fun x hx => h x (List.mem_cons_of_mem _ hx)), h l (by simp), List.length_cons]; omega
theorem En.enc_len {e : En} {p : Option En} (h : e.Ok) (g : En.good p e) : e.enc.length ≤ 169 := by
  obtain ⟨_, _, _, _, g1, g2⟩ := g
  have h1 := flatten16 h.way
  have h2 := flatten16 h.path
  simp only [En.enc, List.length_append, be_length, h.leaf, h1, h2]
  omega
/-- Up to some place all are good, or at some place one is not. -/
theorem ensGood_take : ∀ {es : List En} {p : Option En} {j : Nat} {e : En}, es[j]? = some e → ensGood p (es.take j) → (ensGood p (es.take (j + 1)) ↔ En.good (prevE p es j) e)
  | [], _, _, _, h, _ => by simp at h
  | a :: es, p, 0, e, h, _ => by simp at h; subst h; simp [ensGood, prevE]
  | a :: es, p, j + 1, e, h, hg => by
    simp only [List.getElem?_cons_succ] at h
    simp only [List.take_succ_cons, ensGood] at hg ⊢
    have ih := ensGood_take (p := some a) h hg.2
    have hl : prevE p (a :: es) (j + 1) = prevE (some a) es j := by
      cases j with
      | zero => rfl
      | succ j => rfl
    rw [hl, ← ih]
    exact ⟨fun h => h.2, fun h => ⟨hg.1, h⟩⟩
theorem ensGood_le : ∀ {es : List En} {p : Option En} {j : Nat}, ensGood p es → ensGood p (es.take j)
  | [], _, _, _ => by simp [ensGood]
  | a :: es, p, 0, _ => by simp [ensGood]
  | a :: es, p, j + 1, h => by simp only [List.take_succ_cons, ensGood] at h ⊢; exact ⟨h.1, ensGood_le h.2⟩
end Go.Proofs.Ytfcmjlbfoindaaa
