/- SLICES: what is read of them, appends, copies, bytes and strings. -/
import Derived.Test.YtfcmjlbfoindaaaSy
import Derived.Test.YtfcmjlbfoindaaaFpKit
import Derived.Stop.BytesEq
namespace Go.Fp
open Go Go.RowKit

/-- What a slice reads as. -/
def Rdz (w : World) (x : Option Addr) (n sz : Nat) (xs : List Value) : Prop :=
  xs.length = n * sz ∧ (0 < n → ∃ B off, x = some ⟨B, off, none⟩ ∧ B < w.heap.size ∧ ∀ j u, xs[j]? = some u → w.cell? ⟨B, off + j, none⟩ = some u)
def Value.all1 (xs : List Value) : Prop := ∀ u, u ∈ xs → u.oneCell' = true

/-- Bytes. -/
def u8 (b : UInt8) : Value := .int .u8 (b.toNat : Int)
def u8s (l : List UInt8) : List Value := l.map u8
theorem u8s_length (l : List UInt8) : (u8s l).length = l.length := by simp [u8s]
theorem u8s_append (a b : List UInt8) : u8s (a ++ b) = u8s a ++ u8s b := by simp [u8s]
theorem u8s_get (l : List UInt8) (j : Nat) : (u8s l)[j]? = (l[j]?).map u8 := by simp [u8s]
theorem u8s_all1 (l : List UInt8) : Value.all1 (u8s l) := fun u hu => by
  simp only [u8s, List.mem_map] at hu
  obtain ⟨b, _, rfl⟩ := hu; rfl
theorem u8_cell : u8 = Extern.Stop.cell := rfl
theorem u8s_inj {a b : List UInt8} (h : u8s a = u8s b) : a = b := by
  induction a generalizing b with
  | nil => cases b with | nil => rfl | cons y b => simp [u8s] at h
  | cons x a ih =>
    cases b with
    | nil => simp [u8s] at h
    | cons y b =>
      simp only [u8s, List.map_cons, List.cons.injEq, u8, Value.int.injEq, true_and] at h
      obtain ⟨h1, h2⟩ := h
      rw [ih h2, UInt8.toNat_inj.1 (by omega : x.toNat = y.toNat)]

/-- The same as an object that is read. -/
def Ob.rd (x : Option Addr) (n sz : Nat) (xs : List Value) : Ob where
  P f w := xs.length = n * sz ∧ ((n = 0 ∧ f = []) ∨ (0 < n ∧ ∃ B off, x = some ⟨B, off, none⟩ ∧ f = [B] ∧ B < w.heap.size ∧ ∀ j u, xs[j]? = some u → w.cell? ⟨B, off + j, none⟩ = some u))
  lt := by
    rintro f w ⟨_, ⟨_, rfl⟩ | ⟨_, B, off, _, rfl, h, _⟩⟩ k hk
    · cases hk
    · simp at hk; subst hk; exact h
  loc := by
    rintro f w w' ⟨h0, h | ⟨h1, B, off, h2, rfl, h3, h4⟩⟩ hk
    · exact ⟨h0, .inl h⟩
    · have hb := hk B (by simp)
      exact ⟨h0, .inr ⟨h1, B, off, h2, rfl, Ob.lt_of_some hb h3, fun j u hj => (World.cell?_of_block (a := ⟨B, off + j, none⟩) hb).trans (h4 j u hj)⟩⟩

section
variable {S : List Nat} {w0 w w' : World} {l l' m : List Ob} {x : Option Addr} {n c sz : Nat} {xs : List Value}
theorem rd_of {f : List Nat} (h : (Ob.rd x n sz xs).P f w) : Rdz w x n sz xs := by
  obtain ⟨h0, h | ⟨h1, B, off, h2, _, h3, h4⟩⟩ := h
  · exact ⟨h0, fun hn => by omega⟩
  · exact ⟨h0, fun _ => ⟨B, off, h2, h3, h4⟩⟩
theorem of_rd (h : Rdz w x n sz xs) : ∃ f, (Ob.rd x n sz xs).P f w ∧ (∀ k, k ∈ f → ∃ off, x = some ⟨k, off, none⟩ ∧ 0 < n) := by
  by_cases hn : n = 0
  · exact ⟨[], ⟨h.1, .inl ⟨hn, rfl⟩⟩, fun k hk => by cases hk⟩
  · obtain ⟨B, off, h1, h2, h3⟩ := h.2 (by omega)
    exact ⟨[B], ⟨h.1, .inr ⟨by omega, B, off, h1, rfl, h2, h3⟩⟩, fun k hk => by simp at hk; subst hk; exact ⟨off, h1, by omega⟩⟩
theorem Tk.rrd (h : Tk S w0 w l m) (i : Nat) (hi : m[i]? = some (Ob.rd x n sz xs)) : Rdz w x n sz xs := by
  obtain ⟨f, h⟩ := h.ro i hi; exact rd_of h
theorem Tk.lrd (h : Tk S w0 w l m) (i : Nat) (hi : l[i]? = some (Ob.rd x n sz xs)) : Rdz w x n sz xs := by
  obtain ⟨f, h, _⟩ := h.at i hi; exact rd_of h
theorem Tk.mrd (h : Tk S w0 w l m) (ho : Ob.rd x n sz xs ∈ m) : Rdz w x n sz xs := by
  obtain ⟨i, hi⟩ := List.getElem?_of_mem ho
  exact h.rrd i hi
theorem own_rdz {e : TypeId} (h : w.ownsRow 0 e sz (.slice x n c) n xs) : Rdz w x n sz xs := by
  refine ⟨h.1, fun hn => ?_⟩
  rcases h.2 with ⟨h2, h3⟩ | ⟨g, cap, cur, h2, _, h3, _⟩
  · omega
  · simp only [Value.slice.injEq] at h2
    obtain ⟨rfl, _, rfl⟩ := h2
    refine ⟨g, 0, rfl, (Array.getElem?_eq_some_iff.1 h3).1, fun j u hj => ?_⟩
    have hlt := (List.getElem?_eq_some_iff.1 hj).1
    rw [Nat.zero_add, h.cellAt j (by rw [h.1] at hlt; exact hlt)]; exact hj
theorem Tk.ord (h : Tk S w0 w l m) (i : Nat) {e : TypeId} (hi : l[i]? = some (Ob.own e sz (.slice x n c) n xs)) : Rdz w x n sz xs := own_rdz (h.owns i hi)
theorem Tk.rord (h : Tk S w0 w l m) (i : Nat) {e : TypeId} (hi : m[i]? = some (Ob.own e sz (.slice x n c) n xs)) : Rdz w x n sz xs := by
  obtain ⟨f, _, h⟩ := h.ro i hi; exact own_rdz h
theorem blk_rdz {g o T : Nat} {vs : List Value} (h : Has w g T vs.toArray) (hn : xs.length = n * sz) (hv : (vs.drop o).take (n * sz) = xs) : Rdz w (some ⟨g, o, none⟩) n sz xs :=
  ⟨hn, fun _ => ⟨g, o, rfl, h.lt, fun j u hj => has_part h hv j u hj⟩⟩
theorem nil_rdz (w : World) (sz : Nat) : Rdz w none 0 sz [] := ⟨by simp, fun h => by omega⟩
theorem Rdz.cell (h : Rdz w x n sz xs) {B off : Nat} (hx : x = some ⟨B, off, none⟩) {j : Nat} {u : Value} (hj : xs[j]? = some u) : w.cell? ⟨B, off + j, none⟩ = some u := by
  have hlt := (List.getElem?_eq_some_iff.1 hj).1
  have h0 := h.1
  have hn : 0 < n := by rcases Nat.eq_zero_or_pos n with e | e; subst e; simp at h0; subst h0; simp at hlt; exact e
  obtain ⟨B', off', h1, _, h2⟩ := h.2 hn
  rw [hx] at h1
  simp only [Option.some.injEq, Addr.mk.injEq, and_true] at h1
  obtain ⟨rfl, rfl⟩ := h1
  exact h2 j u hj
theorem Rdz.addr (h : Rdz w x n sz xs) (hn : 0 < n) : ∃ B off, x = some ⟨B, off, none⟩ := by
  obtain ⟨B, off, h1, _⟩ := h.2 hn; exact ⟨B, off, h1⟩
theorem Tk.own_addr (h : Tk S w0 w l m) (i : Nat) {e : TypeId} (hi : l[i]? = some (Ob.own e sz (.slice x n c) n xs)) (hn : 0 < n) : ∃ g, x = some ⟨g, 0, none⟩ := by
  rcases (h.owns i hi).2 with ⟨_, h3⟩ | ⟨g, cap, cur, h2, _⟩
  · omega
  · simp only [Value.slice.injEq] at h2; exact ⟨g, h2.1⟩
theorem Rdz.fr (h : Rdz w x n sz xs) (f : Fr [] w w') : Rdz w' x n sz xs :=
  ⟨h.1, fun hn => by
    obtain ⟨B, off, h1, h2, h3⟩ := h.2 hn
    exact ⟨B, off, h1, Nat.lt_of_lt_of_le h2 f.size, fun j u hj => (f.cell (p := ⟨B, off + j, none⟩) h2 (by simp)).trans (h3 j u hj)⟩⟩
theorem own_nil {e : TypeId} (h : w.ownsRow 0 e sz (.slice x n c) n xs) : x = none → n = 0 ∧ c = 0 := by
  rintro rfl
  rcases h.2 with ⟨h2, h3⟩ | ⟨g, cap, cur, h2, _⟩
  · simp only [Value.slice.injEq] at h2; exact ⟨h3, h2.2.2⟩
  · simp only [Value.slice.injEq] at h2; cases h2.1
theorem Ent.own_rd (e : TypeId) (x : Option Addr) (n c sz : Nat) (xs : List Value) : Ob.Ent (Ob.own e sz (.slice x n c) n xs) (Ob.rd x n sz xs) := by
  rintro f w ⟨rfl, h⟩
  obtain ⟨f', h1, h2⟩ := of_rd (own_rdz h)
  refine ⟨f', h1, fun k hk => ?_⟩
  obtain ⟨off, h3, _⟩ := h2 k hk
  rw [h3]; simp [Value.ownBlock]
/-- A nil slice owns nothing. -/
theorem Tk.addnil (h : Tk S w0 w l m) (e sz : Nat) : Tk S w0 w (.own e sz (.slice none 0 0) 0 [] :: l) m := by
  refine h.ent fun f w h => ⟨f, ⟨[], f, rfl, ⟨rfl, World.ownsRow_nil _ _ _ _⟩, h, fun k hk => (by cases hk)⟩, fun _ hk => hk⟩
/-- What came in is read. -/
theorem Tk.start (w : World) {ms : List Ob} (h : ∀ o, o ∈ ms → ∃ f, o.P f w) : Tk [] w w [] ms :=
  ⟨Fr.refl _ _, [], rfl, fun k hk => (by cases hk), fun o ho => by obtain ⟨f, hf⟩ := h o ho; exact ⟨f, hf, fun k _ hk => (by cases hk)⟩⟩
end

class Byt (P : Program) (e : TypeId) (b : outParam Nat) : Prop where
  out : (P.info? e).map (·.bytes) = some b

section
variable {P : Program} {ops : Array Oper} {Q : Exit → Act → World → Prop} {R : Kn} {cs : List Nat} {rest : List Oper} {a0 : Act} {w w0 : World} {N : Nat} {env : List (Nat × Value)}
  {d : Tmp} {ty : TypeId} {pos : String} {af : Array Edge} {S : List Nat} {l m : List Ob}

theorem run_appendz {t ty e sz bytes : Nat} {zs : List Value} [hs : Slc P t e sz] [hz : Zero P e zs] [hb : Byt P e bytes] (hzs : zs.length = sz) (hsz : Nat.blt 0 sz = true)
    {v : Value} {n : Nat} {xs : List Value} (hown : w.ownsRow 0 e sz v n xs) {x : Option Addr} {k c : Nat} {news : List Value} (hx0 : x = none → k = 0 ∧ c = 0) (hrd : Rdz w x k sz news) (h1 : Value.all1 news)
    (h63 : n + k ≤ maxLen) (hbytes : (n + k) * bytes ≤ 140737488355328) :
    ∃ x' c' w', (Builtin.append_ #[t, t] ty #[v, .slice x k c]).run P w = .ok (.slice x' (n + k) c') w' ∧ w'.ownsRow 0 e sz (.slice x' (n + k) c') (n + k) (xs ++ news) ∧ w.grownBy w' v.ownBlock ∧
      ((Value.slice x' (n + k) c').ownBlock = v.ownBlock ∨ (Value.slice x' (n + k) c').ownBlock = some w.heap.size) ∧ (v ≠ .slice none 0 0 → x' ≠ none) := by
  obtain ⟨i, z, i1, i2, i3⟩ := hz.out
  have isz : i.size = sz := by have := hs.out.2; rw [i1] at this; simpa using this
  have iby : i.bytes = bytes := by have := hb.out; rw [i1] at this; simpa using this
  have hsz' : 0 < sz := Nat.le_of_ble_eq_true hsz
  cases x with
  | none =>
    obtain ⟨rfl, rfl⟩ := hx0 rfl
    have hr := run_append_owned_none (P := P) w 0 t ty e i sz hs.out.1 i1 v n xs hown
    have hn : news = [] := List.eq_nil_of_length_eq_zero (by simpa using hrd.1)
    subst hn
    obtain ⟨x', c', rfl⟩ := own_slice hown
    exact ⟨x', c', w, hr, by simpa using hown, ⟨rfl, rfl, rfl, Nat.le_refl _, fun _ _ _ => rfl⟩, .inl rfl, fun hv hx => hv (by obtain ⟨h1, h2⟩ := own_nil hown hx; subst hx h1 h2; rfl)⟩
  | some a =>
    have hnews : ∀ j u, news[j]? = some u → w.cell? (a.add j) = some u := fun j u hj => by
      have hlt := (List.getElem?_eq_some_iff.1 hj).1
      have hk : 0 < k := by
        rcases Nat.eq_zero_or_pos k with e | e
        · subst e; have := hrd.1; simp at this; subst this; simp at hlt
        · exact e
      obtain ⟨B, off, h2, _, h3⟩ := hrd.2 hk
      simp only [Option.some.injEq] at h2
      subst h2
      have := h3 j u hj
      have hadd : (⟨B, off, none⟩ : Addr).add j = ⟨B, off + j, none⟩ := by unfold Addr.add; split <;> simp_all
      rw [hadd]; exact this
    obtain ⟨v', w', r1, r2, r3, r4, r5⟩ := run_append_own_at (P := P) w 0 t ty e i z sz bytes hs.out.1 i1 i2 isz iby (by rw [i3]; simpa using hzs) hsz' v n xs hown a k c news hrd.1 hnews h1 h63 hbytes (Nat.zero_le _)
    obtain ⟨x', c', rfl⟩ := own_slice r2
    exact ⟨x', c', w', r1, r2, r3, r5, fun hv hx => hv (r4.1 (by obtain ⟨h1, h2⟩ := own_nil r2 hx; rw [hx, h1, h2])).1⟩
theorem T_appendN (hN : Base N a0) (hT : Tk S w0 w l m) (i : Nat) {s y : Operand} {t e sz bytes : Nat} {zs : List Value} [hs : Slc P t e sz] [hz : Zero P e zs] [hb : Byt P e bytes] (hzs : zs.length = sz) (hsz : Nat.blt 0 sz = true)
    {v : Value} {n : Nat} {xs : List Value} (hev : ev N env s = some v) (hi : l[i]? = some (.own e sz v n xs)) {x : Option Addr} {k c : Nat} {news : List Value} (hey : ev N env y = some (.slice x k c)) (hx0 : x = none → k = 0 ∧ c = 0) (hrd : Rdz w x k sz news) (h1 : Value.all1 news)
    (h63 : n + k ≤ maxLen) (hbytes : (n + k) * bytes ≤ 140737488355328) (hc : cs.headD 2 = 2)
    (h : ∀ x' c' w', (v ≠ .slice none 0 0 → x' ≠ none) → Tk S w0 w' (l.set i (.own e sz (.slice x' (n + k) c') (n + k) (xs ++ news))) m → R w' ∧ wpD P ops Q R cs.tail rest (puts a0 ((d, .slice x' (n + k) c') :: env)) w') :
    wpD P ops Q R cs (⟨some d, .call { callee := .builtin .append, args := #[s, y], argTypes := #[t, t] }, ty, pos, af, none⟩ :: rest) (puts a0 env) w := by
  refine T_do rfl hc ?_
  have hown := hT.owns i hi
  obtain ⟨x', c', w', r1, r2, r3, r5, r6⟩ := run_appendz (P := P) (t := t) (ty := ty) hzs hsz hown (c := c) hx0 hrd h1 h63 hbytes
  have hrun : (execOp (puts a0 env).eval ⟨some d, .call { callee := .builtin .append, args := #[s, y], argTypes := #[t, t] }, ty, pos, af, none⟩).run P w = .ok (.value (.slice x' (n + k) c')) w' := by
    simp [execOp, resolve, invoke, builtin, ev_spec hN hev, ev_spec hN hey, r1]
  unfold Oper.wp
  rw [hrun]
  refine h _ _ _ r6 (hT.turn i hi fun f ⟨hf, _⟩ => ⟨_, ⟨rfl, r2⟩, ⟨r3.os, r3.tape, r3.output, r3.size, fun k hk hn => r3.block k hk fun e => hn (by rw [hf, ← e]; simp)⟩, fun k hk => ?_⟩)
  rcases r5 with r5 | r5
  · exact .inl (by rw [hf, ← r5]; exact hk)
  · rw [r5] at hk; simp at hk; subst hk; exact .inr (Nat.le_refl _)

theorem T_append (hN : Base N a0) (hT : Tk S w0 w l m) (i : Nat) {s y : Operand} {t e sz bytes : Nat} {zs : List Value} [hs : Slc P t e sz] [hz : Zero P e zs] [hb : Byt P e bytes] (hzs : zs.length = sz) (hsz : Nat.blt 0 sz = true)
    {v : Value} {n : Nat} {xs : List Value} (hev : ev N env s = some v) (hi : l[i]? = some (.own e sz v n xs)) {x : Option Addr} {k c : Nat} {news : List Value} (hey : ev N env y = some (.slice x k c)) (hx0 : x = none → k = 0 ∧ c = 0) (hrd : Rdz w x k sz news) (h1 : Value.all1 news)
    (h63 : n + k ≤ maxLen) (hbytes : (n + k) * bytes ≤ 140737488355328) (hc : cs.headD 2 = 2)
    (h : ∀ x' c' w', Tk S w0 w' (l.set i (.own e sz (.slice x' (n + k) c') (n + k) (xs ++ news))) m → R w' ∧ wpD P ops Q R cs.tail rest (puts a0 ((d, .slice x' (n + k) c') :: env)) w') :
    wpD P ops Q R cs (⟨some d, .call { callee := .builtin .append, args := #[s, y], argTypes := #[t, t] }, ty, pos, af, none⟩ :: rest) (puts a0 env) w :=
  T_appendN hN hT i hzs hsz hev hi hey hx0 hrd h1 h63 hbytes hc (fun x' c' w' _ => h x' c' w')

/-- 'x[a:b]' of a slice (capacity kept). -/
theorem T_slcHi (hN : Base N a0) {x y : Operand} {t e sz : Nat} {p : Option Addr} {n c j : Nat} {kk : IntKind} [hs : Slc P t e sz] (hx : ev N env x = some (.slice p n c)) (hy : ev N env y = some (.int kk j)) (hj : j ≤ c) (hR : cs.headD 2 = 0 ∨ R w)
    (h : wpD P ops Q R cs.tail rest (puts a0 ((d, .slice p j c) :: env)) w) : wpD P ops Q R cs (⟨some d, .slice t x none (some y) none, ty, pos, af, none⟩ :: rest) (puts a0 env) w :=
  T_val rfl (fun w => by
    have h6 := run_sizeOf_of (P := P) hs.out.2
    have hle : (j : Int) ≤ c := by omega
    have e1 : (0 = c) → (if c = 0 then p else p.map (·.add (0 * sz))) = p := fun e => by rw [if_pos e.symm]
    have e2 : (if c = 0 then p else p.map (·.add (0 * sz))) = p := by
      split
      · rfl
      · cases p with
        | none => rfl
        | some a => simp [Addr.add]
    simp [execOp, ev_spec hN hx, ev_spec hN hy, Instr.sliceAt, Instr.slice, run_underlying hs.out.1, Instr.sliceBounds, Instr.sliceBound, asIntOf, hj, h6]
    try simpa using e2) hR h
/-- 'x[a:]' of a slice that isn't nil. -/
theorem T_slcLo (hN : Base N a0) {x y : Operand} {t e sz : Nat} {B off n c j : Nat} {kk : IntKind} [hs : Slc P t e sz] (hx : ev N env x = some (.slice (some ⟨B, off, none⟩) n c)) (hy : ev N env y = some (.int kk j)) (hj : j ≤ n) (_hnc : n ≤ c) (hR : cs.headD 2 = 0 ∨ R w)
    (h : ∀ off', (j < c → off' = off + j * sz) → wpD P ops Q R cs.tail rest (puts a0 ((d, .slice (some ⟨B, off', none⟩) (n - j) (c - j)) :: env)) w) : wpD P ops Q R cs (⟨some d, .slice t x (some y) none none, ty, pos, af, none⟩ :: rest) (puts a0 env) w :=
  T_val rfl (v := .slice (some ⟨B, if c = j then off else off + j * sz, none⟩) (n - j) (c - j)) (fun w => by
    have h6 := run_sizeOf_of (P := P) hs.out.2
    have hle : (j : Int) ≤ n := by omega
    have e2 : (if c = j then (⟨B, off, none⟩ : Addr) else (⟨B, off, none⟩ : Addr).add (j * sz)) = ⟨B, if c = j then off else off + j * sz, none⟩ := by
      split
      · rfl
      · unfold Addr.add; split <;> simp_all
    have e3 : (if c = j then some (⟨B, off, none⟩ : Addr) else some ((⟨B, off, none⟩ : Addr).add (j * sz))) = some ⟨B, if c = j then off else off + j * sz, none⟩ := by
      rw [← e2]; split <;> rfl
    simp [execOp, ev_spec hN hx, ev_spec hN hy, Instr.sliceAt, Instr.slice, run_underlying hs.out.1, Instr.sliceBounds, Instr.sliceBound, asIntOf, hj, h6]
    simpa using e3) hR (h _ (fun hlt => by rw [if_neg (by omega)]))
/-- 'a[:]' of an array. -/
theorem T_slcA (hN : Base N a0) {x : Operand} {t e n sz g o : Nat} [hs : Arr P t e n sz] (hx : ev N env x = some (.pointer (some ⟨g, o, none⟩))) (hR : cs.headD 2 = 0 ∨ R w)
    (h : wpD P ops Q R cs.tail rest (puts a0 ((d, .slice (some ⟨g, o, none⟩) n n) :: env)) w) : wpD P ops Q R cs (⟨some d, .slice t x none none none, ty, pos, af, none⟩ :: rest) (puts a0 env) w :=
  T_val rfl (fun w => by
    have h6 := run_sizeOf_of (P := P) hs.out.2
    simp [execOp, ev_spec hN hx, Instr.sliceAt, run_underlying hs.out.1, Instr.sliceBounds, Instr.sureAddr, h6, Addr.add]) hR h
/-- 'copy' over a part of an object. -/
theorem T_copy (hN : Base N a0) (hT : Tk S w0 w l m) (i : Nat) {s y : Operand} {t t2 e : Nat} [hs : Slc P t e 1] {g o dn dc T : Nat} {vs : List Value} (hev : ev N env s = some (.slice (some ⟨g, o, none⟩) dn dc)) (hi : l[i]? = some (.blk g T vs))
    {x : Option Addr} {k c : Nat} {news : List Value} (hey : ev N env y = some (.slice x k c)) (hrd : Rdz w x k 1 news) (h1 : Value.all1 news) (hk : k ≤ dn) (hfit : o + k ≤ vs.length) (hc : cs.headD 2 = 2)
    (h : ∀ w', Tk S w0 w' (l.set i (.blk g T (spl vs o news))) m → R w' ∧ wpD P ops Q R cs.tail rest (puts a0 ((d, .int .i64 k) :: env)) w') :
    wpD P ops Q R cs (⟨some d, .call { callee := .builtin .copy, args := #[s, y], argTypes := #[t, t2] }, ty, pos, af, none⟩ :: rest) (puts a0 env) w := by
  refine T_do rfl hc ?_
  have hh := hT.has i hi
  have hkl : news.length = k := by have := hrd.1; omega
  have hT' := hT.turn (w' := w.setRow g (spl vs o news).toArray) i (o' := .blk g T (spl vs o news)) hi fun f ⟨hf, _⟩ => ⟨f, ⟨hf, setRow_heap w g _ _ T _ hh⟩, ⟨rfl, rfl, rfl, by simp, fun k hk hn => setRow_other w g k _ (fun e => hn (by rw [hf]; simp [e]))⟩, fun k hk => .inl hk⟩
  have hrun : (execOp (puts a0 env).eval ⟨some d, .call { callee := .builtin .copy, args := #[s, y], argTypes := #[t, t2] }, ty, pos, af, none⟩).run P w = .ok (.value (.int .i64 k)) (w.setRow g (spl vs o news).toArray) := by
    by_cases hk0 : k = 0
    · subst hk0
      have hn : news = [] := List.eq_nil_of_length_eq_zero hkl
      subst hn
      have hself : w.setRow g (spl vs o []).toArray = w := by
        have : (spl vs o []).toArray = vs.toArray := by simp [spl]
        rw [this]; exact setRow_self w g _ T _ hh
      rw [hself]
      have h6 := run_sizeOf_of (P := P) hs.out.2
      cases x with
      | none => simp [execOp, resolve, invoke, builtin, ev_spec hN hev, ev_spec hN hey, Builtin.copy_, run_underlying hs.out.1, Builtin.lenOf, h6, Builtin.firstCells, storeCells, goInt]
      | some a => simp [execOp, resolve, invoke, builtin, ev_spec hN hev, ev_spec hN hey, Builtin.copy_, run_underlying hs.out.1, Builtin.lenOf, h6, Builtin.firstCells, loadCells, loadCellsFrom, storeCells, goInt]
    · obtain ⟨B, off, rfl, _, h3⟩ := hrd.2 (by omega)
      have hmin : Nat.min k dn = k := Nat.min_eq_left hk
      have hr := run_copy_row (P := P) w t t2 ty e g o dn dc ⟨B, off, none⟩ k c vs.toArray T news hs.out.1 hs.out.2 hh (by rw [hkl, hmin]) (fun j v hj => by
        have hadd : (⟨B, off, none⟩ : Addr).add j = ⟨B, off + j, none⟩ := by unfold Addr.add; split <;> simp_all
        rw [hadd]; exact h3 j v hj) (by simp; omega) h1
      have e : (vs.toArray.toList.take o ++ news ++ vs.toArray.toList.drop (o + news.length)).toArray = (spl vs o news).toArray := by simp [spl]
      rw [e] at hr
      simp [execOp, resolve, invoke, builtin, ev_spec hN hev, ev_spec hN hey, hr, goInt, hkl]
  unfold Oper.wp
  rw [hrun]
  exact h _ hT'
/-- A string of bytes. -/
def bstr (l : List UInt8) : ByteArray := ⟨l.toArray⟩
theorem push_all (l : List UInt8) (s : ByteArray) : l.foldl (fun r b => r.push b) s = ⟨s.data ++ l.toArray⟩ := by
  induction l generalizing s with
  | nil => simp
  | cons b l ih => rw [List.foldl_cons, ih]; simp [ByteArray.push]
theorem T_b2s (hN : Base N a0) {x : Operand} {t t2 e : Nat} {p : Option Addr} {n c : Nat} {xs : List UInt8} [h1 : Und P t (.slice e)] [h2 : Und P t2 (.string)] [h3 : Und P e (.int .u8)] (hx : ev N env x = some (.slice p n c)) (hrd : Rdz w p n 1 (u8s xs)) (hc : cs.headD 2 = 1 ∨ (cs.headD 2 = 2 ∧ R w))
    (h : wpD P ops Q R cs.tail rest (puts a0 ((d, .string (bstr xs)) :: env)) w) : wpD P ops Q R cs (⟨some d, .convert t t2 x, ty, pos, af, none⟩ :: rest) (puts a0 env) w :=
  T_read rfl (by
    have hl : xs.length = n := by have := hrd.1; rw [u8s_length] at this; omega
    have hconv := run_convert_bytes_string (P := P) w t t2 e p n c h1.out h3.out h2.out
    have key : (Conv.bytesToString (.slice p n c)).run P w = .ok (.string (bstr xs)) w := by
      cases p with
      | none =>
        have hn : n = 0 := by
          rcases Nat.eq_zero_or_pos n with e | e
          · exact e
          · obtain ⟨_, _, h, _⟩ := hrd.2 e; cases h
        have : xs = [] := List.eq_nil_of_length_eq_zero (by omega)
        subst this
        simp [Conv.bytesToString, bstr]; rfl
      | some a =>
        have hload : (loadCells a n).run P w = .ok ((xs.map fun b => (b.toNat : Int)).map (Value.int .u8)).toArray w := by
          have := run_loadCells_list (P := P) w a (u8s xs) (fun j v hj => by
            have hlt := (List.getElem?_eq_some_iff.1 hj).1
            obtain ⟨B, off, h4, _, h5⟩ := hrd.2 (by rw [u8s_length] at hlt; omega)
            simp only [Option.some.injEq] at h4
            subst h4
            have hadd : (⟨B, off, none⟩ : Addr).add j = ⟨B, off + j, none⟩ := by unfold Addr.add; split <;> simp_all
            rw [hadd]; exact h5 j v hj)
          rw [u8s_length, hl] at this
          rw [this]
          congr 2
          simp [u8s, u8]
        rw [run_bytesToString w a n c _ hload]
        congr 2
        rw [List.foldl_map]
        have : (fun (r : ByteArray) (b : UInt8) => r.push (UInt8.ofNat ((b.toNat : Int)).toNat)) = fun r b => r.push b := by
          funext r b; simp
        rw [this, push_all]
        simp [bstr]
    simp [execOp, ev_spec hN hx, hconv, key]) hc h
theorem T_b2s3 (hN : Base N a0) {x : Operand} {t t2 e : Nat} {p : Option Addr} {n c : Nat} {xs : List UInt8} [h1 : Und P t (.slice e)] [h2 : Und P t2 (.string)] [h3 : Und P e (.int .u8)] (hx : ev N env x = some (.slice p n c)) (hl : xs.length = n) (hrd0 : ∀ w, R w → Rdz w p n 1 (u8s xs)) (hc : cs.headD 2 = 3)
    (h : wpD P ops Q R cs.tail rest (puts a0 ((d, .string (bstr xs)) :: env)) w) : wpD P ops Q R cs (⟨some d, .convert t t2 x, ty, pos, af, none⟩ :: rest) (puts a0 env) w :=
  T_held rfl hc (fun w hw => by
    have hrd := hrd0 w hw
    have hconv := run_convert_bytes_string (P := P) w t t2 e p n c h1.out h3.out h2.out
    have key : (Conv.bytesToString (.slice p n c)).run P w = .ok (.string (bstr xs)) w := by
      cases p with
      | none =>
        have hn : n = 0 := by
          rcases Nat.eq_zero_or_pos n with e | e
          · exact e
          · obtain ⟨_, _, h, _⟩ := hrd.2 e; cases h
        have : xs = [] := List.eq_nil_of_length_eq_zero (by omega)
        subst this
        simp [Conv.bytesToString, bstr]; rfl
      | some a =>
        have hload : (loadCells a n).run P w = .ok ((xs.map fun b => (b.toNat : Int)).map (Value.int .u8)).toArray w := by
          have := run_loadCells_list (P := P) w a (u8s xs) (fun j v hj => by
            have hlt := (List.getElem?_eq_some_iff.1 hj).1
            obtain ⟨B, off, h4, _, h5⟩ := hrd.2 (by rw [u8s_length] at hlt; omega)
            simp only [Option.some.injEq] at h4
            subst h4
            have hadd : (⟨B, off, none⟩ : Addr).add j = ⟨B, off + j, none⟩ := by unfold Addr.add; split <;> simp_all
            rw [hadd]; exact h5 j v hj)
          rw [u8s_length, hl] at this
          rw [this]
          congr 2
          simp [u8s, u8]
        rw [run_bytesToString w a n c _ hload]
        congr 2
        rw [List.foldl_map]
        have : (fun (r : ByteArray) (b : UInt8) => r.push (UInt8.ofNat ((b.toNat : Int)).toNat)) = fun r b => r.push b := by
          funext r b; simp
        rw [this, push_all]
        simp [bstr]
    simp [execOp, ev_spec hN hx, hconv, key]) h
theorem T_b2s0 (hN : Base N a0) {x : Operand} {t t2 e : Nat} {p : Option Addr} {n c : Nat} {xs : List UInt8} [h1 : Und P t (.slice e)] [h2 : Und P t2 (.string)] [h3 : Und P e (.int .u8)] (hx : ev N env x = some (.slice p n c)) (hl : xs.length = n) (hrd0 : ∀ w, R.z w → Rdz w p n 1 (u8s xs)) (hc : cs.headD 2 = 0)
    (h : wpD P ops Q R cs.tail rest (puts a0 ((d, .string (bstr xs)) :: env)) w) : wpD P ops Q R cs (⟨some d, .convert t t2 x, ty, pos, af, none⟩ :: rest) (puts a0 env) w :=
  T_hold rfl hc (fun w hw => by
    have hrd := hrd0 w hw
    have hconv := run_convert_bytes_string (P := P) w t t2 e p n c h1.out h3.out h2.out
    have key : (Conv.bytesToString (.slice p n c)).run P w = .ok (.string (bstr xs)) w := by
      cases p with
      | none =>
        have hn : n = 0 := by
          rcases Nat.eq_zero_or_pos n with e | e
          · exact e
          · obtain ⟨_, _, h, _⟩ := hrd.2 e; cases h
        have : xs = [] := List.eq_nil_of_length_eq_zero (by omega)
        subst this
        simp [Conv.bytesToString, bstr]; rfl
      | some a =>
        have hload : (loadCells a n).run P w = .ok ((xs.map fun b => (b.toNat : Int)).map (Value.int .u8)).toArray w := by
          have := run_loadCells_list (P := P) w a (u8s xs) (fun j v hj => by
            have hlt := (List.getElem?_eq_some_iff.1 hj).1
            obtain ⟨B, off, h4, _, h5⟩ := hrd.2 (by rw [u8s_length] at hlt; omega)
            simp only [Option.some.injEq] at h4
            subst h4
            have hadd : (⟨B, off, none⟩ : Addr).add j = ⟨B, off + j, none⟩ := by unfold Addr.add; split <;> simp_all
            rw [hadd]; exact h5 j v hj)
          rw [u8s_length, hl] at this
          rw [this]
          congr 2
          simp [u8s, u8]
        rw [run_bytesToString w a n c _ hload]
        congr 2
        rw [List.foldl_map]
        have : (fun (r : ByteArray) (b : UInt8) => r.push (UInt8.ofNat ((b.toNat : Int)).toNat)) = fun r b => r.push b := by
          funext r b; simp
        rw [this, push_all]
        simp [bstr]
    simp [execOp, ev_spec hN hx, hconv, key]) h
theorem bstr_list (l : List UInt8) : (bstr l).toList = l := by rw [ByteArray.toList_eq]; rfl
theorem T_eqlbs (hN : Base N a0) {x y : Operand} {t t2 : TypeId} {b c : List UInt8} (hx : ev N env x = some (.string (bstr b))) (hy : ev N env y = some (.string (bstr c))) (hR : cs.headD 2 = 0 ∨ R w)
    (h : wpD P ops Q R cs.tail rest (puts a0 ((d, .bool (bdec (b = c))) :: env)) w) : wpD P ops Q R cs (⟨some d, .binOp .eql t x y t2, ty, pos, af, none⟩ :: rest) (puts a0 env) w :=
  T_val rfl (fun w => by
    have : ((bstr b).toList == (bstr c).toList) = decide (b = c) := by rw [bstr_list, bstr_list]; by_cases e : b = c <;> simp [e]
    simp [execOp, ev_spec hN hx, ev_spec hN hy, binOp, eqGuard, Op.stringOp, this, bdec_eq]) hR h
/-- Arrays of bytes. -/
theorem T_eqlA (hN : Base N a0) {x y : Operand} {t t2 e : TypeId} {n : Nat} {b c : List UInt8} [h1 : Arr P t e n 1] [h2 : Und P e (.int .u8)] (hg : P.eqGuardType P.depth t = false) (hx : ev N env x = some (.agg (u8s b).toArray)) (hy : ev N env y = some (.agg (u8s c).toArray)) (hb : b.length = n) (hc : c.length = n) (hR : cs.headD 2 = 0 ∨ R w)
    (h : wpD P ops Q R cs.tail rest (puts a0 ((d, .bool (bdec (b = c))) :: env)) w) : wpD P ops Q R cs (⟨some d, .binOp .eql t x y t2, ty, pos, af, none⟩ :: rest) (puts a0 env) w :=
  T_val rfl (fun w => by
    have := run_equalIn_bytes (P := P) w 9998 t e n h1.out.1 h2.out (fun w => run_sizeOf_of h1.out.2 w) b c hb hc
    have e2 : (b == c) = decide (b = c) := by by_cases e : b = c <;> simp [e]
    simp only [execOp, ev_spec hN hx, ev_spec hN hy, Sem.run_bind, run_eqGuard_agg w _ _ _ _ _ _ hg, run_eql_struct, Result.andThen_ok]
    simp only [u8s, u8_cell]
    rw [this]
    simp [bdec_eq, e2]) hR h
theorem T_neqA (hN : Base N a0) {x y : Operand} {t t2 e : TypeId} {n : Nat} {b c : List UInt8} [h1 : Arr P t e n 1] [h2 : Und P e (.int .u8)] (hg : P.eqGuardType P.depth t = false) (hx : ev N env x = some (.agg (u8s b).toArray)) (hy : ev N env y = some (.agg (u8s c).toArray)) (hb : b.length = n) (hc : c.length = n) (hR : cs.headD 2 = 0 ∨ R w)
    (h : wpD P ops Q R cs.tail rest (puts a0 ((d, .bool (bdec (¬ b = c))) :: env)) w) : wpD P ops Q R cs (⟨some d, .binOp .neq t x y t2, ty, pos, af, none⟩ :: rest) (puts a0 env) w :=
  T_val rfl (fun w => by
    have := run_equalIn_bytes (P := P) w 9998 t e n h1.out.1 h2.out (fun w => run_sizeOf_of h1.out.2 w) b c hb hc
    have e2 : (!(b == c)) = decide (¬ b = c) := by by_cases e : b = c <;> simp [e]
    simp only [execOp, ev_spec hN hx, ev_spec hN hy, Sem.run_bind, run_eqGuard_agg w _ _ _ _ _ _ hg, run_neq_struct, Result.andThen_ok]
    simp only [u8s, u8_cell]
    rw [this]
    simp [bdec_eq, e2]) hR h
/-- A store into a slice of the call's own. -/
theorem T_storeo (hN : Base N a0) (hT : Tk S w0 w l m) (i : Nat) {t : TypeId} {x y : Operand} {g o e n c : Nat} {xs : List Value} {v : Value} [h1 : One P t] (hx : ev N env x = some (.pointer (some ⟨g, o, none⟩))) (hy : ev N env y = some v) (hi : l[i]? = some (.own e 1 (.slice (some ⟨g, 0, none⟩) n c) n xs)) (ho : o < n) (hv1 : v.oneCell' = true) (hc : cs.headD 2 = 2)
    (h : ∀ w', Tk S w0 w' (l.set i (.own e 1 (.slice (some ⟨g, 0, none⟩) n c) n (xs.set o v))) m → R w' ∧ wpD P ops Q R cs.tail rest (puts a0 env) w') : wpD P ops Q R cs (⟨none, .store t x y, ty, pos, af, none⟩ :: rest) (puts a0 env) w := by
  refine T_do rfl hc ?_
  have hown := hT.owns i hi
  have hlen : xs.length = n := by have := hown.1; omega
  have hcell : w.cell? ⟨g, o, none⟩ = some xs[o] := by rw [hown.cellAt o (by omega)]; exact List.getElem?_eq_getElem (by omega)
  have hs : v.cells = #[v] := by cases v <;> first | rfl | cases hv1
  have hrun : (execOp (puts a0 env).eval ⟨none, .store t x y, ty, pos, af, none⟩).run P w = .ok .skip (w.setCell ⟨g, o, none⟩ v) := by
    have h6 := run_sizeOf_of (P := P) h1.out.2
    have hadd : (⟨g, o, none⟩ : Addr).add 0 = ⟨g, o, none⟩ := rfl
    have hst : (store ⟨g, o, none⟩ v).run P w = .ok () (w.setCell ⟨g, o, none⟩ v) := by
      cases v <;> first | (simp [store, Sem.run, hcell, hown.frozenAt o]; done) | (cases hv1; done)
    simp [execOp, ev_spec hN hx, ev_spec hN hy, Instr.storeAt, Instr.sureAddr, storeVar, hs, h6, storeCells, hadd, hst]
  unfold Oper.wp
  rw [hrun]
  exact h _ (hT.turn i hi fun f ⟨hf, _⟩ => ⟨f, ⟨hf, (hown.stored o v).1⟩, (Fr.refl _ _).set (.inl (by rw [hf]; simp [Value.ownBlock])) v, fun k hk => .inl hk⟩)
end
end Go.Fp
