/- WHAT A LAW's ARGUMENTS ARE, and the row of a law: whoever shows that the call answers true and leaves what there was has the row. -/
import Derived.ProofKit
import Derived.OpenShut
import Derived.Carry
import Derived.SizedLaws
import Derived.JoinedCond
import Derived.Deep.CondSized
import Derived.Test.YtfcmjlbfoindaaaFpKit
import Derived.Test.YtfcmjlbfoindaaaRows
namespace Go.Fp
open Go Go.RowKit Go.ChangeShapes
open Go.Proofs.Ytfcmjlbfoindaaa.Rows (uptoBulk uptoBulkAll uptoSmall)

/-- What one cell of a flat type holds. -/
inductive Ck
  | int (k : IntKind) | bool | str | slc (e : TypeId)

def Ck.fields (P : Program) (rec : TypeId → Option (List Ck)) : List Field → List Ck → Option (List Ck)
  | [], l => some l
  | f :: fs, l => match rec f.type with
    | some l' => if f.offset = l.length ∧ l'.length = P.cellsOf f.type then Ck.fields P rec fs (l ++ l') else none
    | none => none

def Ck.of (P : Program) : Nat → TypeId → Option (List Ck)
  | 0, _ => none
  | n + 1, t => match P.underlying t with
    | some .bool => some [.bool]
    | some (.int k) => some [.int k]
    | some .string => some [.str]
    | some (.slice e) => some [.slc e]
    | some (.struct fs) => match Ck.fields P (Ck.of P n) fs.toList [] with
      | some l => if l.length = P.cellsOf t then some l else none
      | none => none
    | some (.array m e) => match Ck.of P n e with
      | some l => if l.length = P.cellsOf e ∧ m * l.length = P.cellsOf t then some (List.replicate m l).flatten else none
      | none => none
    | _ => none

section
variable {H : Type} {enc : TypeId × Value → H} {P : Program} {w : World} {m : Nat}

theorem bulk_one (d : DataW H) : 1 ≤ uptoBulk d := by
  cases d with
  | lit l => cases l <;> simp [uptoBulk]
  | nil => simp [uptoBulk]
  | ptr d => simp [uptoBulk]
  | slice elems spare => simp [uptoBulk]
  | agg parts => simp [uptoBulk]
  | iface t d => simp [uptoBulk]
  | map entries => simp [uptoBulk]
  | held h => simp [uptoBulk]
theorem bulk_part {d : DataW H} {l : List (DataW H)} (h : d ∈ l) : uptoBulk d ≤ uptoBulkAll l := by
  induction l with
  | nil => cases h
  | cons x r ih =>
    simp only [uptoBulkAll]
    cases List.mem_cons.1 h with
    | inl e => subst e; omega
    | inr e => have := ih e; omega
theorem bulk_length (l : List (DataW H)) : l.length ≤ uptoBulkAll l := by
  induction l with
  | nil => simp [uptoBulkAll]
  | cons x r ih => have := bulk_one x; simp only [uptoBulkAll, List.length_cons]; omega
theorem bulk_nth {xs : List (DataW H × List MemPlace)} {i m : Nat} (h : i < xs.length) (hm : uptoBulkAll (xs.map (·.1)) ≤ m) : uptoBulk xs[i].1 ≤ m :=
  Nat.le_trans (bulk_part (List.mem_map.2 ⟨xs[i], List.getElem_mem h, rfl⟩)) hm

/-- What is read, of bulk m at most. -/
abbrev Read (enc : TypeId × Value → H) (P : Program) (w : World) (m : Nat) (e : TypeId) (cs : List Value) : Prop :=
  ∃ (fuel : Nat) (x : DataW H × List MemPlace), DataW.trod enc P w 0 (fun _ => true) true fuel e cs = some x ∧ uptoBulk x.1 ≤ m

def CellIs (enc : TypeId × Value → H) (P : Program) (w : World) (m : Nat) : Ck → Value → Prop
  | .int k, v => ∃ n, v = .int k n ∧ (Lit.int k n).wf = true
  | .bool, v => ∃ b, v = .bool b
  | .str, v => ∃ s, v = .string s ∧ s.size ≤ maxLen ∧ s.size + 1 ≤ m
  | .slc e, v => v = .slice none 0 0 ∨ ∃ (a : Addr) (len cap : Nat), v = .slice (some a) len cap ∧ len ≤ cap ∧ cap ≤ maxLen ∧ cap + 1 ≤ m ∧
      ∀ i, i < cap → ∃ cs, w.cells? 0 (a.add (i * P.cellsOf e)) (P.cellsOf e) = some cs ∧ Read enc P w m e cs

def All2 (enc : TypeId × Value → H) (P : Program) (w : World) (m : Nat) : List Ck → List Value → Prop
  | [], [] => True
  | k :: ks, v :: vs => CellIs enc P w m k v ∧ All2 enc P w m ks vs
  | _, _ => False

theorem All2.length : ∀ {ks : List Ck} {vs : List Value}, All2 enc P w m ks vs → vs.length = ks.length
  | [], [], _ => rfl
  | _ :: _, _ :: _, h => by simp [All2.length h.2]
  | [], _ :: _, h => h.elim
  | _ :: _, [], h => h.elim

theorem All2.append : ∀ {ks : List Ck} {vs : List Value} {ks' : List Ck} {vs' : List Value}, All2 enc P w m ks vs → All2 enc P w m ks' vs' → All2 enc P w m (ks ++ ks') (vs ++ vs')
  | [], [], _, _, _, h' => h'
  | _ :: _, _ :: _, _, _, h, h' => ⟨h.1, All2.append h.2 h'⟩
  | [], _ :: _, _, _, h, _ => h.elim
  | _ :: _, [], _, _, h, _ => h.elim

theorem All2.cons {k : Ck} {ks : List Ck} {vs : List Value} (h : All2 enc P w m (k :: ks) vs) : ∃ v vs', vs = v :: vs' ∧ CellIs enc P w m k v ∧ All2 enc P w m ks vs' := by
  cases vs with
  | nil => exact h.elim
  | cons v vs' => exact ⟨v, vs', rfl, h.1, h.2⟩

theorem All2.nil {vs : List Value} (h : All2 enc P w m [] vs) : vs = [] := by
  cases vs with
  | nil => rfl
  | cons v vs' => exact h.elim

theorem fields_all {rec : TypeId → Option (List Ck)} {cs : List Value} (hrec : ∀ f ks, rec f = some ks → ∀ cs, Read enc P w m f cs → All2 enc P w m ks cs) :
    ∀ (fs : List Field) (l r : List Ck), Ck.fields P rec fs l = some r → All2 enc P w m l (cs.take l.length) →
      (∀ f, f ∈ fs → Read enc P w m f.type ((cs.drop f.offset).take (P.cellsOf f.type))) → All2 enc P w m r (cs.take r.length)
  | [], l, r, h, ha, _ => by simp only [Ck.fields, Option.some.injEq] at h; subst h; exact ha
  | f :: fs, l, r, h, ha, hf => by
    rw [Ck.fields] at h
    cases hr : rec f.type with
    | none => rw [hr] at h; cases h
    | some l' =>
      simp only [hr] at h
      split at h
      · rename_i hc
        refine fields_all hrec fs (l ++ l') r h ?_ (fun f' hf' => hf f' (List.mem_cons_of_mem _ hf'))
        have h1 := hrec f.type l' hr _ (hf f List.mem_cons_self)
        rw [hc.1, ← hc.2] at h1
        rw [List.length_append, List.take_add]
        exact ha.append h1
      · cases h

theorem replicate_all {l : List Ck} {cs : List Value} : ∀ (q : Nat), (∀ i, i < q → All2 enc P w m l ((cs.drop (i * l.length)).take l.length)) →
    All2 enc P w m (List.replicate q l).flatten (cs.take (q * l.length))
  | 0, _ => by simp [All2]
  | q + 1, h => by
    have ih := replicate_all q (fun i hi => h i (by omega))
    rw [List.replicate_succ', List.flatten_append, Nat.succ_mul, List.take_add]
    have := h q (by omega)
    simpa using ih.append this

theorem flat_all : ∀ (n : Nat) (t : TypeId) (ks : List Ck), Ck.of P n t = some ks → ∀ cs, Read enc P w m t cs → All2 enc P w m ks cs := by
  intro n
  induction n with
  | zero => intro t ks h; cases h
  | succ n ih =>
    intro t ks h cs ⟨fuel, x, hx, hm⟩
    rw [Ck.of] at h
    cases hu : P.underlying t with
    | none => rw [hu] at h; cases h
    | some u =>
      simp only [hu] at h
      cases u <;> simp only [Option.some.injEq, reduceCtorEq] at h
      case bool =>
        subst h
        cases fuel with
        | zero => cases hx
        | succ q =>
          unfold DataW.trod at hx; rw [hu] at hx
          split at hx <;> simp_all [All2, CellIs]
      case int k =>
        subst h
        obtain ⟨n', h1, h2, h3⟩ := DataW.trod_int hu hx
        subst h1
        exact ⟨⟨n', rfl, h3⟩, trivial⟩
      case string =>
        subst h
        obtain ⟨b, rfl, rfl, h3⟩ := DataW.trod_string hu hx
        refine ⟨⟨b, rfl, h3, ?_⟩, trivial⟩
        have e : b.data.toList.length = b.size := by rw [Array.length_toList]; rfl
        simp only [uptoBulk, e] at hm
        exact hm
      case slice e =>
        subst h
        rcases DataW.trod_slice hu hx with ⟨rfl, _⟩ | ⟨a, len, cap, elems, rest, q, _, rfl, rfl, _, h1, h2, h3, h4, h5, _⟩
        · exact ⟨.inl rfl, trivial⟩
        · obtain ⟨h6, h7⟩ := h5 rfl
          simp only [uptoBulk] at hm
          have l1 := bulk_length (elems.map (·.1))
          have l2 := bulk_length (rest.map (·.1))
          simp only [List.length_map] at l1 l2
          refine ⟨.inr ⟨a, len, cap, rfl, h1, h2, by omega, fun i hi => ?_⟩, trivial⟩
          by_cases hl : i < len
          · have h8 := h4 i hl
            rw [List.getElem?_eq_getElem (by omega)] at h8
            obtain ⟨cs', h9, h10⟩ := Option.bind_eq_some_iff.1 h8
            exact ⟨cs', h9, q, _, h10, bulk_nth (by omega) (by omega)⟩
          · have h8 := h7 (i - len) (by omega)
            rw [List.getElem?_eq_getElem (by omega), show len + (i - len) = i by omega] at h8
            obtain ⟨cs', h9, h10⟩ := Option.bind_eq_some_iff.1 h8
            exact ⟨cs', h9, q, _, h10, bulk_nth (by omega) (by omega)⟩
      case struct fs =>
        obtain ⟨xs, q, _, rfl, hl, hlen, hf⟩ := DataW.trod_struct hu hx
        simp only [uptoBulk] at hm
        cases hr : Ck.fields P (Ck.of P n) fs.toList [] with
        | none => rw [hr] at h; cases h
        | some l =>
          simp only [hr] at h
          split at h
          · rename_i hc
            simp only [Option.some.injEq] at h
            subst h
            have := fields_all (enc := enc) (w := w) (m := m) (cs := cs) ih fs.toList [] l hr (by simp [All2]) (fun f hfm => by
              obtain ⟨i, hi⟩ := List.getElem?_of_mem hfm
              have h1 := hf i f (by simpa using hi)
              have hlt : i < xs.length := by rw [hlen]; have := (List.getElem?_eq_some_iff.1 hi).1; simpa using this
              rw [List.getElem?_eq_getElem hlt] at h1
              exact ⟨q, _, h1, bulk_nth hlt (by omega)⟩)
            rwa [hc, ← hl, List.take_length] at this
          · cases h
      case array z e =>
        obtain ⟨xs, q, _, rfl, hl, hlen, hf⟩ := DataW.trod_array hu hx
        simp only [uptoBulk] at hm
        cases hr : Ck.of P n e with
        | none => rw [hr] at h; cases h
        | some l =>
          simp only [hr] at h
          split at h
          · rename_i hc
            simp only [Option.some.injEq] at h
            subst h
            have := replicate_all (enc := enc) (P := P) (w := w) (m := m) (l := l) (cs := cs) z (fun i hi => by
              have h1 := hf i hi
              have hlt : i < xs.length := by omega
              rw [List.getElem?_eq_getElem hlt] at h1
              rw [hc.1]
              exact ih e l hr _ ⟨q, _, h1, bulk_nth hlt (by omega)⟩)
            rwa [hc.2, ← hl, List.take_length] at this
          · cases h

/-- A struct (an array) that came in by value. -/
theorem open_flat {t : TypeId} {ks : List Ck} {v : Value} {base : Nat} {r : Reach} (n : Nat) (hk : Ck.of P n t = some ks)
    (hs : (match P.underlying t with | some (.struct _) => true | some (.array _ _) => true | _ => false) = true)
    (hval : Value.okWide P w r base t v) (hd : ∃ d ps, DataW.Trod enc P w 0 (fun _ => true) true t v d ps ∧ uptoBulk d ≤ m) : ∃ cs, v = .agg cs ∧ All2 enc P w m ks cs.toList := by
  obtain ⟨d, ps, ⟨fuel, hf⟩, hm⟩ := hd
  unfold Value.okWide at hval
  cases hu : P.underlying t with
  | none => rw [hu] at hs; cases hs
  | some u =>
    rw [hu] at hs hval
    cases u <;> simp only [Bool.false_eq_true] at hs <;> (simp only at hval; obtain ⟨cs, rfl, _, _⟩ := hval; exact ⟨cs, rfl, flat_all n t ks hk _ ⟨fuel, _, hf, hm⟩⟩)

/-- Anything else. -/
theorem open_cell {t : TypeId} {k : Ck} {v : Value} (n : Nat) (hk : Ck.of P n t = some [k]) (hv : v.cells.toList = [v])
    (hd : ∃ d ps, DataW.Trod enc P w 0 (fun _ => true) true t v d ps ∧ uptoBulk d ≤ m) : CellIs enc P w m k v := by
  obtain ⟨d, ps, ⟨fuel, hf⟩, hm⟩ := hd
  rw [hv] at hf
  exact (flat_all n t [k] hk _ ⟨fuel, _, hf, hm⟩).1

/-- What a law's parameters are read as: each by itself. -/
def Args (enc : TypeId × Value → H) (P : Program) (w : World) (m base : Nat) : List TypeId → List Value → Prop
  | [], [] => True
  | t :: ts, v :: vs => (Value.okWide P w .any base t v ∧ ∃ d ps, DataW.Trod enc P w 0 (fun _ => true) true t v d ps ∧ uptoBulk d ≤ m) ∧ Args enc P w m base ts vs
  | _, _ => False

theorem mapM_range {α : Type} {f : Nat → Option α} : ∀ {n : Nat} {l : List α}, (List.range n).mapM f = some l → l.length = n ∧ ∀ j, j < n → f j = l[j]? := by
  intro n l h
  have key : ∀ (xs : List Nat) (l : List α), xs.mapM f = some l → l.length = xs.length ∧ ∀ j (hj : j < xs.length), f xs[j] = l[j]? := by
    intro xs
    induction xs with
    | nil => intro l h; simp at h; subst h; simp
    | cons x xs ih =>
      intro l h
      simp only [List.mapM_cons, Option.bind_eq_bind, Option.bind_eq_some_iff, Option.pure_def, Option.some.injEq] at h
      obtain ⟨y, h1, ys, h2, rfl⟩ := h
      obtain ⟨h3, h4⟩ := ih ys h2
      refine ⟨by simp [h3], fun j hj => ?_⟩
      cases j with
      | zero => simpa using h1
      | succ j => simpa using h4 j (by simpa using hj)
  obtain ⟨h1, h2⟩ := key _ _ h
  exact ⟨by simpa using h1, fun j hj => by have := h2 j (by simpa using hj); rwa [List.getElem_range] at this⟩

theorem cells_at {a : Addr} {n : Nat} {cs : List Value} (h : w.cells? 0 a n = some cs) : cs.length = n ∧ ∀ j, j < n → w.cell? (a.add j) = cs[j]? := by
  unfold World.cells? at h
  rw [if_pos (Nat.zero_le _)] at h
  exact mapM_range h

theorem spot_none {a : Addr} {v : Value} (h : w.cell? a = some v) : a.spot = none ∧ a.block < w.heap.size := by
  unfold World.cell? at h
  split at h
  · rename_i c _ _ hb
    refine ⟨?_, (Array.getElem?_eq_some_iff.1 hb).1⟩
    split at h
    · cases h
    · rename_i hs; cases hsp : a.spot with
      | none => rfl
      | some _ => rw [hsp] at hs; simp at hs
  · cases h

/-- **A slice of flat elements that came in**: each element's cells. -/
theorem slice_open {e : TypeId} {ks : List Ck} {v : Value} (n : Nat) (hk : Ck.of P n e = some ks) (hsz : P.cellsOf e = ks.length) (hpos : 0 < ks.length) (h : CellIs enc P w m (.slc e) v) :
    ∃ (x : Option Addr) (len cap B off : Nat), v = .slice x len cap ∧ len ≤ cap ∧ cap ≤ maxLen ∧ cap ≤ m ∧ (0 < len → x = some ⟨B, off, none⟩ ∧ B < w.heap.size) ∧ (x = none → len = 0 ∧ cap = 0) ∧
      ∀ i, i < len → ∃ cs, All2 enc P w m ks cs ∧ ∀ j, j < ks.length → w.cell? ⟨B, off + i * ks.length + j, none⟩ = cs[j]? := by
  rcases h with rfl | ⟨a, len, cap, rfl, h1, h2, hm, h3⟩
  · exact ⟨none, 0, 0, 0, 0, rfl, Nat.le_refl _, Nat.zero_le _, Nat.zero_le _, fun h => absurd h (by omega), fun _ => ⟨rfl, rfl⟩, fun i hi => absurd hi (by omega)⟩
  · refine ⟨some a, len, cap, a.block, a.off, rfl, h1, h2, by omega, fun h0 => ?_, fun h => (by cases h), fun i hi => ?_⟩
    · obtain ⟨cs, h4, h5⟩ := h3 0 (by omega)
      obtain ⟨h6, h7⟩ := cells_at h4
      have h8 := h7 0 (by omega)
      have h9 : 0 < cs.length := by omega
      rw [List.getElem?_eq_getElem h9] at h8
      have h10 := spot_none h8
      simp only [Nat.zero_mul, Addr.add, if_true] at h10
      obtain ⟨bl, of, sp⟩ := a
      simp only at h10 ⊢
      exact ⟨by rw [h10.1], h10.2⟩
    · obtain ⟨cs, h4, h5⟩ := h3 i (by omega)
      obtain ⟨h6, h7⟩ := cells_at h4
      refine ⟨cs, flat_all n e ks hk cs h5, fun j hj => ?_⟩
      have h8 := h7 j (by omega)
      rw [← h8]
      obtain ⟨cs0, g4, _⟩ := h3 0 (by omega)
      obtain ⟨g6, g7⟩ := cells_at g4
      have g8 := g7 0 (by omega)
      rw [List.getElem?_eq_getElem (by omega)] at g8
      have g10 := (spot_none g8).1
      simp only [Nat.zero_mul, Addr.add, if_true] at g10
      obtain ⟨bl, of, sp⟩ := a
      simp only at g10
      subst g10
      rw [hsz]
      congr 1
      unfold Addr.add
      split <;> split <;> simp_all
      all_goals omega

/-- One argument. -/
def Arg (enc : TypeId × Value → H) (P : Program) (w : World) (m base : Nat) (t : TypeId) (v : Value) : Prop :=
  Value.okWide P w .any base t v ∧ ∃ d ps, DataW.Trod enc P w 0 (fun _ => true) true t v d ps ∧ uptoBulk d ≤ m

theorem Args.cons {base : Nat} {t : TypeId} {ts : List TypeId} {vs : List Value} (h : Args enc P w m base (t :: ts) vs) : ∃ v vs', vs = v :: vs' ∧ Arg enc P w m base t v ∧ Args enc P w m base ts vs' := by
  cases vs with
  | nil => exact h.elim
  | cons v vs => exact ⟨v, vs, rfl, h.1, h.2⟩
theorem Args.nil {base : Nat} {vs : List Value} (h : Args enc P w m base [] vs) : vs = [] := by
  cases vs with
  | nil => rfl
  | cons v vs => exact h.elim
theorem Arg.cell {base : Nat} {t : TypeId} {v : Value} {k : Ck} (h : Arg enc P w m base t v) (hk : Ck.of P 1 t = some [k]) (hv : v.cells.toList = [v]) : CellIs enc P w m k v := open_cell 1 hk hv h.2
theorem Arg.int {base : Nat} {t : TypeId} {v : Value} {k : IntKind} (h : Arg enc P w m base t v) (ht : P.underlying t = some (.int k)) : ∃ n, v = .int k n ∧ (Lit.int k n).wf = true := by
  obtain ⟨n, rfl⟩ := WideShapes.okWide_int ht h.1
  exact h.cell (k := .int k) (by simp [Ck.of, ht]) rfl
theorem Arg.bool {base : Nat} {t : TypeId} {v : Value} (h : Arg enc P w m base t v) (ht : P.underlying t = some .bool) : ∃ b, v = .bool b := by
  obtain ⟨n, rfl⟩ := WideShapes.okWide_bool ht h.1
  exact ⟨_, rfl⟩
theorem Arg.str {base : Nat} {t : TypeId} {v : Value} (h : Arg enc P w m base t v) (ht : P.underlying t = some .string) : ∃ s, v = .string s ∧ s.size ≤ maxLen ∧ s.size + 1 ≤ m := by
  obtain ⟨n, rfl⟩ := WideShapes.okWide_string ht h.1
  exact h.cell (k := .str) (by simp [Ck.of, ht]) rfl
theorem Arg.slc {base : Nat} {t : TypeId} {v : Value} {e : TypeId} (h : Arg enc P w m base t v) (ht : P.underlying t = some (.slice e)) : CellIs enc P w m (.slc e) v := by
  obtain ⟨a, len, cap, rfl⟩ := WideShapes.okWide_slice ht h.1
  exact h.cell (k := .slc e) (by simp [Ck.of, ht]) rfl
theorem Arg.flat {base : Nat} {t : TypeId} {v : Value} {ks : List Ck} (h : Arg enc P w m base t v) (n : Nat) (hk : Ck.of P n t = some ks)
    (hs : (match P.underlying t with | some (.struct _) => true | some (.array _ _) => true | _ => false) = true) : ∃ cs, v = .agg cs ∧ All2 enc P w m ks cs.toList := open_flat n hk hs h.1 h.2

theorem args_of {base : Nat} : ∀ {ts : List TypeId} {vs : List Value} {ds : List (DataW H)} {ps : List MemPlace}, uptoBulkAll ds ≤ m →
    (∀ (j : Nat) t v, ts[j]? = some t → vs[j]? = some v → Value.okWide P w .any base t v) → DataW.TrodAll enc P w 0 (fun _ => true) true ts vs ds ps → Args enc P w m base ts vs
  | [], [], [], _, _, _, _ => trivial
  | t :: ts, v :: vs, d :: ds, ps, hm, hv, h => by
    obtain ⟨p, q, h1, h2, _⟩ := h
    simp only [uptoBulkAll] at hm
    exact ⟨⟨hv 0 t v rfl rfl, d, p, h1, by omega⟩, args_of (by omega) (fun j t v ht hv' => hv (j + 1) t v (by simpa using ht) (by simpa using hv')) h2⟩
  | [], _ :: _, _, _, _, _, h => by cases ‹List (DataW H)› <;> exact h.elim
  | _ :: _, [], _, _, _, _, h => by cases ‹List (DataW H)› <;> exact h.elim
  | [], [], _ :: _, _, _, _, h => h.elim
  | _ :: _, _ :: _, [], _, _, _, h => h.elim

theorem trodAll_below (hl : laidOutB P = true) {W W' : World} (hb : Below W.heap.size W W') : ∀ {ts : List TypeId} {vs : List Value} {ds : List (DataW H)} {ps : List MemPlace},
    ts.all (fun t => P.readableRec t && decide (t < P.types.size)) = true → DataW.TrodAll enc P W 0 (fun _ => true) true ts vs ds ps → (∀ x ∈ ps, x.block < W.heap.size) →
    DataW.TrodAll enc P W' 0 (fun b => decide (b < W.heap.size)) true ts vs ds ps
  | [], [], [], _, _, h, _ => h
  | t :: ts, v :: vs, d :: ds, ps, hr, h, hlt => by
    obtain ⟨p, q, h1, h2, rfl⟩ := h
    simp only [List.all_cons, Bool.and_eq_true, decide_eq_true_eq] at hr
    exact ⟨p, q, Below.trod hl hr.1.1 hr.1.2 h1 hb (fun x hx => hlt x (List.mem_append_left _ hx)),
      trodAll_below hl hb (by simpa using hr.2) h2 (fun x hx => hlt x (List.mem_append_right _ hx)), rfl⟩
  | [], _ :: _, _, _, _, h, _ => by cases ‹List (DataW H)› <;> exact h.elim
  | _ :: _, [], _, _, _, h, _ => by cases ‹List (DataW H)› <;> exact h.elim
  | [], [], _ :: _, _, _, h, _ => h.elim
  | _ :: _, _ :: _, [], _, _, h, _ => h.elim

/-- **THE POST OF A LAW**: true; what was there is as it was. -/
theorem law_post {f : Func} {s : ChangeSpec} {W W' : World} {args : Array Value} {ds gs : List (DataW H)} {before : List MemPlace} {tb : TypeId} (hl : laidOutB P = true)
    (hsv : s.vars = []) (hfn : ∀ ds : List (DataW H), ds.length = f.params.size → s.fn H (ds ++ []) = { results := [.lit (.bool true)], args := ds }) (hrt : f.resultTypes = #[tb]) (htb : P.underlying tb = some .bool)
    (hr : f.params.toList.all (fun t => P.readableRec t && decide (t < P.types.size)) = true)
    (hW : DataW.Whole enc P f.params.toList s.vars false W args.toList ds gs before) (hb : Below W.heap.size W W') :
    s.post enc P f false true false false W args (.bool true) W' := by
  have hW' := hW
  obtain ⟨p, q, hA, hV, rfl, _, _⟩ := hW
  rw [hsv] at hV
  have hgq : gs = [] ∧ q = [] := by
    cases gs with
    | nil => exact ⟨rfl, hV⟩
    | cons g gs => exact hV.elim
  obtain ⟨rfl, rfl⟩ := hgq
  have hlen : ds.length = f.params.size := by
    have key : ∀ {ts : List TypeId} {vs : List Value} {ds : List (DataW H)} {ps : List MemPlace}, DataW.TrodAll enc P W 0 (fun _ => true) true ts vs ds ps → ds.length = ts.length := by
      intro ts
      induction ts with
      | nil => intro vs ds ps h; cases vs <;> cases ds <;> first | rfl | exact h.elim
      | cons t ts ih =>
        intro vs ds ps h
        cases vs <;> cases ds <;> first | exact h.elim | (obtain ⟨p, q, _, h2, _⟩ := h; simp [ih h2])
    simpa using key hA
  have hlt : ∀ x ∈ p, x.block < W.heap.size := fun x hx => hW'.lt x (List.mem_append_left _ hx)
  refine ⟨ds, [], p ++ [], [], p, [], hW', ?_, ?_, ?_, ?_, fun h => by cases h⟩
  · rw [hfn ds hlen, hrt]
    exact ⟨[], [], ⟨1, by simp [DataW.trod, Value.cells, htb]⟩, rfl, rfl⟩
  · rw [hfn ds hlen]
    exact trodAll_below hl hb hr hA hlt
  · rw [hsv, hfn ds hlen]; exact rfl
  · exact hb.frame _
end
end Go.Fp
