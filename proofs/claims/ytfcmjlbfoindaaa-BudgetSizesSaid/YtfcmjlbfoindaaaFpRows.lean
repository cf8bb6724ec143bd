/- ROWS: an array of structs as one list of cells; reads and writes at a place that is a letter. -/
import Derived.Deep.MidRow
import Derived.Test.YtfcmjlbfoindaaaFpKit
import Derived.Test.YtfcmjlbfoindaaaFpText
import Derived.Laws.Rows
namespace Go.Fp
open Go Go.RowKit

/-- n rows, one behind the other. -/
def rows (f : Nat → List Value) (n : Nat) : List Value := (List.range n).flatMap f

theorem rows_succ (f : Nat → List Value) (n : Nat) : rows f (n + 1) = rows f n ++ f n := by simp [rows, List.range_succ]
theorem rows_length {f : Nat → List Value} {m : Nat} (hf : ∀ i, (f i).length = m) : ∀ n, (rows f n).length = n * m
  | 0 => by simp [rows]
  | n + 1 => by rw [rows_succ, List.length_append, rows_length hf n, hf, Nat.succ_mul]
theorem rows_get {f : Nat → List Value} {m : Nat} (hf : ∀ i, (f i).length = m) : ∀ {n d : Nat}, d < n → ∀ {j : Nat}, j < m → (rows f n)[d * m + j]? = (f d)[j]?
  | n + 1, d, hd, j, hj => by
    rw [rows_succ]
    by_cases h : d < n
    · have h1 : d * m + j < n * m := by
        have : (d + 1) * m ≤ n * m := Nat.mul_le_mul_right m h
        rw [Nat.succ_mul] at this; omega
      rw [List.getElem?_append_left (by rw [rows_length hf]; exact h1), rows_get hf h hj]
    · obtain rfl : d = n := by omega
      rw [List.getElem?_append_right (by rw [rows_length hf]; omega), rows_length hf]
      congr 1; omega
/-- Row d becomes r. -/
def upd {α : Type} (f : Nat → α) (d : Nat) (r : α) : Nat → α := fun i => if i = d then r else f i
theorem upd_same {α : Type} (f : Nat → α) (d : Nat) (r : α) : upd f d r d = r := by simp [upd]
theorem upd_other {α : Type} (f : Nat → α) {d i : Nat} (r : α) (h : i ≠ d) : upd f d r i = f i := by simp [upd, h]
theorem upd_upd {α : Type} (f : Nat → α) (d : Nat) (r s : α) : upd (upd f d r) d s = upd f d s := by funext i; simp only [upd]; split <;> rfl
theorem rows_congr {f g : Nat → List Value} : ∀ {n : Nat}, (∀ i, i < n → f i = g i) → rows f n = rows g n
  | 0, _ => by simp [rows]
  | n + 1, h => by rw [rows_succ, rows_succ, rows_congr (fun i hi => h i (by omega)), h n (by omega)]
theorem rows_set {f : Nat → List Value} {m : Nat} (hf : ∀ i, (f i).length = m) : ∀ {n d : Nat}, d < n → ∀ {j : Nat}, j < m → ∀ v, (rows f n).set (d * m + j) v = rows (upd f d ((f d).set j v)) n
  | n + 1, d, hd, j, hj, v => by
    rw [rows_succ, rows_succ]
    by_cases h : d < n
    · have h1 : d * m + j < n * m := by
        have : (d + 1) * m ≤ n * m := Nat.mul_le_mul_right m h
        rw [Nat.succ_mul] at this; omega
      rw [List.set_append_left _ _ (by rw [rows_length hf]; exact h1), rows_set hf h hj, upd_other _ _ (show n ≠ d by omega)]
    · obtain rfl : d = n := by omega
      rw [List.set_append_right _ _ (by rw [rows_length hf]; omega), rows_length hf, upd_same, rows_congr (f := upd f d ((f d).set j v)) (g := f) (fun i hi => upd_other _ _ (by omega))]
      congr 2; omega

/-- A block of a head and rows: a read of a row's cell. -/
theorem hrows_get {hd : List Value} {f : Nat → List Value} {h m n : Nat} (hh : hd.length = h) (hf : ∀ i, (f i).length = m) {d : Nat} (hdn : d < n) {j : Nat} (hj : j < m) :
    (hd ++ rows f n).toArray[h + d * m + j]? = (f d)[j]? := by
  rw [List.getElem?_toArray, List.getElem?_append_right (by omega), ← rows_get hf hdn hj]
  congr 1; omega
theorem hrows_head {hd : List Value} {l : List Value} {k : Nat} (h : k < hd.length) : (hd ++ l).toArray[k]? = hd[k]? := by
  rw [List.getElem?_toArray, List.getElem?_append_left h]
theorem hrows_set {hd : List Value} {f : Nat → List Value} {h m n : Nat} (hh : hd.length = h) (hf : ∀ i, (f i).length = m) {d : Nat} (hdn : d < n) {j : Nat} (hj : j < m) (v : Value) :
    (hd ++ rows f n).toArray.setIfInBounds (h + d * m + j) v = (hd ++ rows (upd f d ((f d).set j v)) n).toArray := by
  rw [List.setIfInBounds_toArray, List.set_append_right _ _ (by omega), ← rows_set hf hdn hj]
  congr 3; omega
theorem upd_len {f : Nat → List Value} {m : Nat} (hf : ∀ i, (f i).length = m) {d : Nat} {r : List Value} (hr : r.length = m) : ∀ i, (upd f d r i).length = m := fun i => by unfold upd; split; exact hr; exact hf i
/-- Several writes to one row. -/
theorem hrows_sets {hd : List Value} {h m n d : Nat} (hh : hd.length = h) (hdn : d < n) : ∀ (us : List (Nat × Value)) {f : Nat → List Value}, (∀ i, (f i).length = m) → (∀ u, u ∈ us → u.1 < m) →
    us.foldl (fun cs u => cs.setIfInBounds (h + d * m + u.1) u.2) (hd ++ rows f n).toArray = (hd ++ rows (upd f d (us.foldl (fun r u => r.set u.1 u.2) (f d))) n).toArray
  | [], f, hf, _ => by
    have : upd f d (f d) = f := by funext i; unfold upd; split <;> simp_all
    simp [this]
  | u :: us, f, hf, hu => by
    rw [List.foldl_cons, hrows_set hh hf hdn (hu u (by simp)), hrows_sets hh hdn us (upd_len hf (by simp [hf])) (fun v hv => hu v (by simp [hv])), upd_same, upd_upd]
    rfl
theorem hrows_head_set {hd : List Value} {l : List Value} {k : Nat} (h : k < hd.length) (v : Value) : (hd ++ l).toArray.setIfInBounds k v = (hd.set k v ++ l).toArray := by
  rw [List.setIfInBounds_toArray, List.set_append_left _ _ h]

/-- A part of a block known whole. -/
theorem Has.range {w : World} {g T : Nat} {cs : Array Value} (h : Has w g T cs) (o : Nat) (l : List Value) (hl : ∀ j, j < l.length → cs[o + j]? = l[j]?) : w.rangeAt g o l := fun j v hv => by
  rw [h.cell, hl j (List.getElem?_eq_some_iff.1 hv).1, hv]
theorem Has.there {w : World} {g T : Nat} {cs : Array Value} (h : Has w g T cs) (o n : Nat) (hn : o + n ≤ cs.size) : w.there g o n := fun j hj =>
  ⟨by rw [h.cell, Array.getElem?_eq_getElem (by omega)]; rfl, h.froz _⟩
theorem Has.setCells {g T : Nat} (b o : Nat) : ∀ (vs : List Value) {w : World} {cs : Array Value}, Has w g T cs → b = g → ∃ cs', Has (w.setCells b o vs) g T cs' ∧ cs'.size = cs.size ∧ ∀ k, cs'[k]? = if o ≤ k ∧ k < o + vs.length ∧ k < cs.size then vs[k - o]? else cs[k]? := by
  intro vs
  induction vs generalizing o with
  | nil => intro w cs h _; exact ⟨cs, h, rfl, fun k => by simp; omega⟩
  | cons v vs ih =>
    intro w cs h hb
    subst hb
    obtain ⟨cs', h1, h2, h3⟩ := ih (o + 1) (h.set o v) rfl
    refine ⟨cs', h1, by simpa using h2, fun k => ?_⟩
    rw [h3 k]
    simp only [Array.size_setIfInBounds, List.length_cons]
    by_cases hk : o + 1 ≤ k ∧ k < o + 1 + vs.length ∧ k < cs.size
    · rw [if_pos hk, if_pos (by omega), show k - o = (k - (o + 1)) + 1 by omega, List.getElem?_cons_succ]
    · rw [if_neg hk]
      by_cases he : k = o
      · subst he
        by_cases hs : k < cs.size
        · rw [if_pos (by omega)]; simp [hs]
        · rw [if_neg (by omega), Array.getElem?_eq_none (by simpa using hs), Array.getElem?_eq_none (by simpa using hs)]
      · rw [if_neg (by omega), Array.getElem?_setIfInBounds_ne (by omega)]
theorem fr_setCells {S : List Nat} {g : Nat} (hg : g ∈ S) : ∀ (vs : List Value) (o : Nat) {a w : World}, Fr S a w → Fr S a (w.setCells g o vs)
  | [], _, _, _, h => h
  | v :: vs, o, _, _, h => fr_setCells hg vs (o + 1) (h.set (.inl hg) v)

section
variable {P : Program}
/-- An element of an array of structs by value. -/
theorem run_index_rows {t e : TypeId} {n : Nat} {d : TypeDesc} {f : Nat → List Value} {m : Nat} (ht : P.underlying t = some (.array n e)) (he : P.underlying e = some d) (hd : d.isRow = true) (hi : (P.info? e).map (·.size) = some m)
    (hf : ∀ i, (f i).length = m) {k : Nat} (hk : k < n) (w : World) : (Instr.index t (.agg (rows f n).toArray) (.int .i64 (k : Int))).run P w = .ok (.agg (f k).toArray) w := by
  cases hq : P.info? e with
  | none => simp [hq] at hi
  | some i =>
    have hs : i.size = m := by simpa [hq] using hi
    have hagg : (isAgg e).run P w = .ok true w := by
      unfold isAgg
      rw [Sem.run_bind, run_underlying he w]
      cases d <;> simp_all
    have h0 : (0 : Int) ≤ k ∧ (k : Int) < n := by omega
    have hx : List.take m (List.drop (k * m) (rows f n)) = f k := by
      apply List.ext_getElem?
      intro j
      by_cases hj : j < m
      · rw [List.getElem?_take_of_lt (by omega), List.getElem?_drop, rows_get hf hk hj]
      · rw [List.getElem?_eq_none (by simp; omega), List.getElem?_eq_none (by simp [hf]; omega)]
    simp [Instr.index, run_underlying ht, asIntOf, h0, part, Sem.run_bind, hagg, sizeOf, typeInfo, hq, hs, hx, hk]
/-- An element of an array of single cells by value. -/
theorem run_index_cell {t e : TypeId} {n : Nat} {d : TypeDesc} {cs : Array Value} {v : Value} (ht : P.underlying t = some (.array n e)) (he : P.underlying e = some d) (hd : d.isRow = false) (hi : (P.info? e).map (·.size) = some 1)
    {k : Nat} (hk : k < n) (hv : cs[k]? = some v) (w : World) : (Instr.index t (.agg cs) (.int .i64 (k : Int))).run P w = .ok v w := by
  cases hq : P.info? e with
  | none => simp [hq] at hi
  | some i =>
    have hs : i.size = 1 := by simpa [hq] using hi
    have hagg : (isAgg e).run P w = .ok false w := by
      unfold isAgg
      rw [Sem.run_bind, run_underlying he w]
      cases d <;> simp_all [TypeDesc.isRow]
    simp [Instr.index, run_underlying ht, asIntOf, part, Sem.run_bind, hagg, sizeOf, typeInfo, hq, hs, hv]
    exact fun h => absurd h (by omega)
end
end Go.Fp
/- WHOLE BLOCKS: an aggregate loaded from a block that is known whole, and stored over one. -/
namespace Go.Fp
open Go Go.RowKit

section
variable {P : Program} {ops : Array Oper} {rest : List Oper} {o : Oper} {a : Act} {w : World} {Q : Exit → Act → World → Prop}

theorem run_loadVar_has {g T : Nat} {ty : TypeId} {cs : Array Value} {d : TypeDesc} (hg : Has w g T cs) (hu : P.underlying ty = some d) (hd : d.isRow = true) (hi : (P.info? ty).map (·.size) = some cs.size) :
    (loadVar ty ⟨g, 0, none⟩).run P w = .ok (.agg cs) w := by
  have := run_loadVar_mid (P := P) w g 0 ty cs.toList d (hg.range 0 cs.toList (fun j _ => by simp)) hu hd (by simpa using hi)
  simpa using this

theorem wpT_load {S : World → Prop} {cl : List Nat} (hgd : o.guard = none) (ty : TypeId) (x : Operand) (ho : o.op = .load ty x) (g T : Nat) (hx : a.eval x = .pointer (some ⟨g, 0, none⟩)) {cs : Array Value} {d : TypeDesc}
    (hg : Has w g T cs) (hu : P.underlying ty = some d) (hd : d.isRow = true) (hi : (P.info? ty).map (·.size) = some cs.size)
    (h : wpT P ops Q S cl rest (a.put o.dst (.agg cs)) w) : wpT P ops Q S (1 :: cl) (o :: rest) a w := by
  refine wpT_1 fun K hK => ?_
  rw [if_pos (by simp [Region.wanted, hgd])]
  refine ⟨.agg cs, ?_, hK _ h⟩
  unfold execOp
  simp only [ho, hx, Instr.loadAt, Instr.sureAddr, Sem.run_bind, Sem.run_pure, Result.andThen_ok, run_loadVar_has hg hu hd hi]

theorem wpList_load_has (hgd : o.guard = none) (ty : TypeId) (x : Operand) (ho : o.op = .load ty x) (g T : Nat) (hx : a.eval x = .pointer (some ⟨g, 0, none⟩)) {cs : Array Value} {d : TypeDesc}
    (hg : Has w g T cs) (hu : P.underlying ty = some d) (hd : d.isRow = true) (hi : (P.info? ty).map (·.size) = some cs.size)
    (h : wpList P ops Q rest (a.put o.dst (.agg cs)) w) : wpList P ops Q (o :: rest) a w := by
  have := wpList_load_mid (P := P) (ops := ops) (rest := rest) (Q := Q) hgd ty x ho g 0 hx cs.toList d (hg.range 0 cs.toList (fun j _ => by simp)) hu hd (by simpa using hi)
  exact this (by simpa using h)

theorem Has.setAll {g T : Nat} {zs l : Array Value} (h : Has w g T zs) (hz : zs.size = l.size) : Has (w.setCells g 0 l.toList) g T l := by
  obtain ⟨cs', h1, h2, h3⟩ := Has.setCells g 0 l.toList h rfl
  refine h1.eq (Array.ext_getElem? fun k => ?_)
  rw [h3 k]
  split
  · simp
  · rename_i hk
    simp only [Nat.zero_le, Nat.zero_add, Array.length_toList, true_and] at hk
    rw [Array.getElem?_eq_none (by omega), Array.getElem?_eq_none (by omega)]

theorem wpList_store_all (hgd : o.guard = none) (ty : TypeId) (x y : Operand) (ho : o.op = .store ty x y) (g T : Nat) (hx : a.eval x = .pointer (some ⟨g, 0, none⟩)) {l zs : Array Value} (hy : a.eval y = .agg l)
    (hg : Has w g T zs) (hz : zs.size = l.size) (hi : (P.info? ty).map (·.size) = some l.size) (h1 : l.all (·.oneCell') = true)
    (h : ∀ w', Has w' g T l → Fr [g] w w' → wpList P ops Q rest (a.put o.dst undef) w') : wpList P ops Q (o :: rest) a w :=
  wpList_store_mid hgd ty x y ho g 0 l hx hy (hg.there 0 l.size (by omega)) hi h1 (h _ (hg.setAll hz) (fr_setCells (by simp) _ _ (Fr.refl _ _)))
theorem Has.eq' {w : World} {g T : Nat} {cs ds : Array Value} (e : cs = ds) (h : Has w g T cs) : Has w g T ds := h.eq e
/-- What is known of the world is enough. -/
theorem wp_forget {c : Code} {Q : Exit → Act → World → Prop} {a : Act} {w : World} (R : World → Prop) (h : R w) (k : ∀ w', R w' → c.wp P Q a w') : c.wp P Q a w := k w h
end
end Go.Fp
