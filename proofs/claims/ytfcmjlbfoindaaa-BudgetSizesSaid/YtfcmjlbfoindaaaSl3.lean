/- MORE OF SLICES: made ones, parts of both ends, lists of constants, bytes of a text; objects that are read from now on. -/
import Derived.Test.YtfcmjlbfoindaaaFb
import Derived.Laws.OwnMore
namespace Go.Fp
open Go Go.RowKit
section
variable {S : List Nat} {w0 w w' : World} {l l' m : List Ob}
/-- From now on an object is only read. -/
theorem Tk.freeze {o : Ob} (h : Tk S w0 w (o :: l) m) : Tk S w0 w l (o :: m) := by
  obtain ⟨h1, F, ⟨x, y, rfl, a1, a2, a3⟩, h3, h4⟩ := h
  refine ⟨h1, y, a2, fun k hk => h3 k (List.mem_append_right _ hk), fun o' ho => ?_⟩
  rcases List.mem_cons.1 ho with rfl | ho
  · exact ⟨x, a1, a3⟩
  · obtain ⟨f, b1, b2⟩ := h4 o' ho
    exact ⟨f, b1, fun k hk hk' => b2 k hk (List.mem_append_right _ hk')⟩
theorem Tk.freezeAll : ∀ {os : List Ob} {l m : List Ob}, Tk S w0 w (Ob.all os :: l) m → Tk S w0 w l (os ++ m)
  | [], l, m, h => h.drop
  | o :: os, l, m, h => by
    have h1 : Tk S w0 w (o :: Ob.all os :: l) m := Tk.sepE h
    have h2 := Tk.freezeAll h1.freeze
    exact h2.forget fun o' ho => by
      rcases List.mem_cons.1 ho with rfl | ho
      · exact List.mem_append_right _ (by simp)
      · rcases List.mem_append.1 ho with ho | ho
        · exact List.mem_append_left _ ho
        · exact List.mem_append_right _ (List.mem_cons_of_mem _ ho)
theorem Tk.meq (h : Tk S w0 w l m) {m' : List Ob} (hm : ∀ o, o ∈ m' → ∃ o2, o2 ∈ m ∧ Ob.Ent o2 o) : Tk S w0 w l m' := by
  obtain ⟨h1, F, h2, h3, h4⟩ := h
  refine ⟨h1, F, h2, h3, fun o ho => ?_⟩
  obtain ⟨o2, ho2, he⟩ := hm o ho
  obtain ⟨f, a, b⟩ := h4 o2 ho2
  obtain ⟨f', c, d⟩ := he f w a
  exact ⟨f', c, fun k hk => b k (d k hk)⟩
/-- Some objects, each by its place among those that are left. -/
def selO : List Ob → List Nat → Option (List Ob)
  | _, [] => some []
  | l, i :: is => match l[i]? with
    | some o => match selO (l.eraseIdx i) is with
      | some l' => some (o :: l')
      | none => none
    | none => none
theorem Ent.selO : ∀ (is : List Nat) {l l' : List Ob}, selO l is = some l' → Ob.Ent (Ob.all l) (Ob.all l')
  | [], l, l', h => by
    simp only [Fp.selO, Option.some.injEq] at h
    subst h
    exact fun _ _ _ => ⟨[], rfl, fun k hk => (by cases hk)⟩
  | i :: is, l, l', h => by
    simp only [Fp.selO] at h
    cases h1 : l[i]? with
    | none => rw [h1] at h; cases h
    | some o =>
      rw [h1] at h
      cases h2 : Fp.selO (l.eraseIdx i) is with
      | none => simp only [h2] at h; cases h
      | some l2 =>
        simp only [h2, Option.some.injEq] at h
        subst h
        exact Ob.Ent.trans (Ob.Ent.front i h1) (Ob.Ent.sep (Ob.Ent.refl _) (Ent.selO is h2))
theorem Tk.sel (h : Tk S w0 w l m) (is : List Nat) (hs : selO l is = some l') : Tk S w0 w l' m := h.ent (Ent.selO is hs)
theorem Ent.snoc (os : List Ob) (o : Ob) : Ob.Ent (Ob.sep o (Ob.all os)) (Ob.all (os ++ [o])) :=
  Ob.Ent.trans (Ob.Ent.comm _ _) (Ob.Ent.trans (Ob.Ent.sep (Ob.Ent.refl _) (b' := Ob.all [o]) (fun f w h => ⟨f, ⟨f, [], by simp, h, rfl, fun k _ hk => (by cases hk)⟩, fun _ hk => hk⟩)) (Ob.Ent.app2 os [o]))
/-- One more of many. -/
theorem Tk.snocAll {o : Ob} {os : List Ob} (h : Tk S w0 w (o :: Ob.all os :: l) m) : Tk S w0 w (Ob.all (os ++ [o]) :: l) m :=
  h.ent (Ob.Ent.trans (Ob.Ent.assoc' _ _ _) (Ob.Ent.sep (Ent.snoc os o) (Ob.Ent.refl _)))
/-- None of many. -/
theorem Tk.nilAll (h : Tk S w0 w l m) : Tk S w0 w (Ob.all [] :: l) m :=
  h.ent fun f w h => ⟨f, ⟨[], f, rfl, rfl, h, fun k hk => (by cases hk)⟩, fun _ hk => hk⟩
/-- One of many objects. -/
theorem Ent.all_mem {os : List Ob} {o : Ob} (h : o ∈ os) : Ob.Ent (Ob.all os) o := fun _ _ hf => Ob.all_mem h hf
theorem Tk.allrd (h : Tk S w0 w l m) (i : Nat) {os : List Ob} (hi : l[i]? = some (Ob.all os)) {e sz n c : Nat} {x : Option Addr} {xs : List Value} (ho : Ob.own e sz (.slice x n c) n xs ∈ os) : Rdz w x n sz xs := by
  obtain ⟨f, hf, _⟩ := h.at i hi
  obtain ⟨f', ⟨_, h'⟩, _⟩ := Ob.all_mem ho hf
  exact own_rdz h'
theorem Tk.mown (h : Tk S w0 w l m) {e sz n c : Nat} {x : Option Addr} {xs : List Value} (ho : Ob.own e sz (.slice x n c) n xs ∈ m) : Rdz w x n sz xs := by
  obtain ⟨i, hi⟩ := List.getElem?_of_mem ho
  exact h.rord i hi
end
section
variable {P : Program} {ops : Array Oper} {Q : Exit → Act → World → Prop} {R : Kn} {cs : List Nat} {rest : List Oper} {a0 : Act} {w w0 : World} {N : Nat} {env : List (Nat × Value)}
  {d : Tmp} {ty : TypeId} {pos : String} {af : Array Edge} {S : List Nat} {l m : List Ob}
/-- A slice of some values. -/
theorem T_sliceL (hN : Base N a0) (hT : Tk S w0 w l m) {t e n : Nat} {parts : List (Nat × Operand)} {pvs : List (Nat × Value)} {vs zs : List Value} [hs : Slc P t e 1] [hz : Zero P e zs] (ha : evp N env parts = some pvs) (hn : Nat.ble n 100000 = true) (hn0 : Nat.beq n 0 = false)
    (hfill : Instr.fill (fun i => some (i * 1, 1)) ((Array.range (n * 1)).map (zs.toArray[· % zs.length]!)) pvs = some vs.toArray) (hc : cs.headD 2 = 2)
    (h : ∀ g w', Tk S w0 w' (.blk g e vs :: l) m → R w' ∧ wpD P ops Q R cs.tail rest (puts a0 ((d, .slice (some ⟨g, 0, none⟩) n n) :: env)) w') : wpD P ops Q R cs (⟨some d, .buildSlice t n parts.toArray, ty, pos, af, none⟩ :: rest) (puts a0 env) w := by
  refine T_do rfl hc ?_
  have hrun : (execOp (puts a0 env).eval ⟨some d, .buildSlice t n parts.toArray, ty, pos, af, none⟩).run P w = .ok (.value (.slice (some ⟨w.heap.size, 0, none⟩) n n)) (w.alloc (.cells vs.toArray e (0, 0))) := by
    have h6 := run_sizeOf_of (P := P) hs.out.2
    obtain ⟨z, hz1, hz2⟩ := hz.run w
    have h1 : n ≤ 100000 := Nat.le_of_ble_eq_true hn
    have hle : ¬ 2 ^ 24 < n := by omega
    have hne : ¬ n = 0 := Nat.ne_of_beq_eq_false hn0
    have hev := evp_spec hN ha
    have hfill2 : Instr.fill (fun i => some (i, 1)) ((Array.range n).map fun x => z.cells[x % z.cells.size]!) pvs = some vs.toArray := by
      rw [hz2]; simpa using hfill
    simp [execOp, Instr.buildSlice, run_underlying hs.out.1, h6, hz1, hle, hne, hev, hfill2, newRow, newObj, Sem.run]
  unfold Oper.wp
  rw [hrun]
  exact h _ _ (hT.alloc e vs)
/-- 'make' of so many. -/
theorem T_make (hN : Base N a0) (hT : Tk S w0 w l m) {t e sz bytes n : Nat} {x y : Operand} {k1 k2 : IntKind} {zs : List Value} [hs : Slc P t e sz] [hz : Zero P e zs] [hb : Byt P e bytes] (hx : ev N env x = some (.int k1 n)) (hy : ev N env y = some (.int k2 n))
    (h63 : n ≤ maxLen) (hbytes : bytes * n ≤ 281474976710656) (hc : cs.headD 2 = 2)
    (h : ∀ g w', Tk S w0 w' (.own e sz (.slice (some ⟨g, 0, none⟩) n n) n (madeCells zs.toArray (n * sz)).toList :: l) m → R w' ∧ wpD P ops Q R cs.tail rest (puts a0 ((d, .slice (some ⟨g, 0, none⟩) n n) :: env)) w') : wpD P ops Q R cs (⟨some d, .makeSlice t x y, ty, pos, af, none⟩ :: rest) (puts a0 env) w := by
  refine T_do rfl hc ?_
  obtain ⟨i, z, i1, i2, i3⟩ := hz.out
  have isz : i.size = sz := by have := hs.out.2; rw [i1] at this; simpa using this
  have iby : i.bytes = bytes := by have := hb.out; rw [i1] at this; simpa using this
  obtain ⟨w', r1, r2, r3⟩ := run_make_full (P := P) w 0 t e i z sz hs.out.1 i1 i2 isz k1 k2 n (by rw [iby]; exact hbytes) h63 (Nat.zero_le _)
  have hrun : (execOp (puts a0 env).eval ⟨some d, .makeSlice t x y, ty, pos, af, none⟩).run P w = .ok (.value (.slice (some ⟨w.heap.size, 0, none⟩) n n)) w' := by
    simp [execOp, ev_spec hN hx, ev_spec hN hy, r1]
  unfold Oper.wp
  rw [hrun]
  rw [i3] at r2
  refine h _ _ ((hT.call0 [] (fun o ho => (by cases ho))).2 w' [.own e sz (.slice (some ⟨w.heap.size, 0, none⟩) n n) n _] [] ⟨⟨r3.os, r3.tape, r3.output, r3.size, fun k hk _ => r3.block k hk (by simp)⟩, [w.heap.size],
    ⟨[w.heap.size], [], rfl, ⟨rfl, r2⟩, rfl, fun k _ hk => (by cases hk)⟩, fun k hk => (by simp at hk; subst hk; exact .inr (Nat.le_refl _)), fun o ho => (by cases ho)⟩)
/-- 'x[a:b]' of any slice. -/
theorem T_slcAB (hN : Base N a0) {x y z : Operand} {t e sz : Nat} {p : Option Addr} {n c j k : Nat} {kk k2 : IntKind} [hs : Slc P t e sz] (hx : ev N env x = some (.slice p n c)) (hy : ev N env y = some (.int kk j)) (hz : ev N env z = some (.int k2 k)) (hj : j ≤ k) (hk : k ≤ c) (hR : cs.headD 2 = 0 ∨ R w)
    (h : wpD P ops Q R cs.tail rest (puts a0 ((d, .slice (lo p sz c j) (k - j) (c - j)) :: env)) w) : wpD P ops Q R cs (⟨some d, .slice t x (some y) (some z) none, ty, pos, af, none⟩ :: rest) (puts a0 env) w :=
  T_val rfl (v := .slice (lo p sz c j) (k - j) (c - j)) (fun w => by
    have h6 := run_sizeOf_of (P := P) hs.out.2
    have hle : (j : Int) ≤ k := by omega
    have hle2 : (k : Int) ≤ c := by omega
    simp [execOp, ev_spec hN hx, ev_spec hN hy, ev_spec hN hz, Instr.sliceAt, Instr.slice, run_underlying hs.out.1, Instr.sliceBounds, Instr.sliceBound, asIntOf, hj, hk, h6]
    rfl) hR h
/-- The bytes of a text that is written out. -/
theorem T_convM (hN : Base N a0) (hT : Tk S w0 w l m) (i : Nat) {t e g n c T : Nat} {x : Operand} {vs : List Value} [hs : Und P t (.slice e)] [he : Und P e (.int .u8)] (hx : ev N env x = some (.slice (some ⟨g, 0, none⟩) n c)) (hi : l[i]? = some (.blk g T vs)) (hn : vs.length = n) (hn0 : Nat.beq n 0 = false) (hc : cs.headD 2 = 2)
    (h : ∀ w', Tk S w0 w' (l.set i (.rd (some ⟨g, 0, none⟩) n 1 vs)) m → R w' ∧ wpD P ops Q R cs.tail rest (puts a0 ((d, .slice (some ⟨g, 0, none⟩) n c) :: env)) w') : wpD P ops Q R cs (⟨some d, .convert t t x, ty, pos, af, none⟩ :: rest) (puts a0 env) w := by
  refine T_do rfl hc ?_
  have hh := hT.has i hi
  have hb : w.heap[g]? = some (.cells vs.toArray T (0, 0)) := hh
  have hrun : (execOp (puts a0 env).eval ⟨some d, .convert t t x, ty, pos, af, none⟩).run P w = .ok (.value (.slice (some ⟨g, 0, none⟩) n c)) (w.freeze ⟨g, vs.length, none⟩ 1) := by
    have hsh : w.shape? g = some (T, vs.length) := by simp [World.shape?, hb]
    simp [execOp, ev_spec hN hx, convert, run_underlying hs.out, run_underlying he.out, markStringish, shape, freeze, Sem.run, hsh]
  have hb2 : (w.freeze ⟨g, vs.length, none⟩ 1).heap[g]? = some (.cells vs.toArray T (vs.length, vs.length + 1)) := by
    simp [World.freeze, Array.getElem?_modify, hb]
  unfold Oper.wp
  rw [hrun]
  have hn0' : ¬ n = 0 := Nat.ne_of_beq_eq_false hn0
  refine h _ (hT.turn i hi fun f ⟨hf, _⟩ => ⟨[g], ⟨by rw [hn, Nat.mul_one], .inr ⟨by omega, g, 0, rfl, rfl, (Array.getElem?_eq_some_iff.1 hb2).1, fun j u hj => ?_⟩⟩, ⟨rfl, rfl, rfl, by simp [World.freeze], fun k _ hk => ?_⟩, fun k hk => .inl (by rw [hf]; exact hk)⟩)
  · simp [World.cell?, hb2, hj]
  · rw [hf] at hk
    have : ¬ g = k := fun e => hk (by simp [e])
    simp [World.freeze, Array.getElem?_modify, this]
theorem T_neqbs (hN : Base N a0) {x y : Operand} {t t2 : TypeId} {b c : List UInt8} (hx : ev N env x = some (.string (bstr b))) (hy : ev N env y = some (.string (bstr c))) (hR : cs.headD 2 = 0 ∨ R w)
    (h : wpD P ops Q R cs.tail rest (puts a0 ((d, .bool (bdec (¬ b = c))) :: env)) w) : wpD P ops Q R cs (⟨some d, .binOp .neq t x y t2, ty, pos, af, none⟩ :: rest) (puts a0 env) w :=
  T_val rfl (fun w => by
    have : (!((bstr b).toList == (bstr c).toList)) = decide (¬ b = c) := by rw [bstr_list, bstr_list]; by_cases e : b = c <;> simp [e]
    simp [execOp, ev_spec hN hx, ev_spec hN hy, binOp, eqGuard, Op.stringOp, bdec_eq]
    simpa using this) hR h
/-- A cut behind a block. -/
theorem C_cutB {id : Nat} {X : Type _} (N : Nat) (env' : X → List (Nat × Value)) (I : X → World → Prop) {x y : Code} {k : Ks} {a : Act} (h : wpC P (.block id x) (.lp (Lp N env' I) k) a w)
    (h2 : ∀ (z : X) (a1 : Act) (w1 : World), Base N a1 → I z w1 → wpC P y k (puts a1 (env' z)) w1) : wpC P (.seq (.block id x) y) k a w := C_cut N env' I h h2
end
theorem bdec_true' {p : Prop} [Decidable p] (h : p) : bdec p = true := by rw [bdec_eq]; exact decide_eq_true h
theorem bdec_false' {p : Prop} [Decidable p] (h : ¬ p) : bdec p = false := by rw [bdec_eq]; exact decide_eq_false h
end Go.Fp
/- MORE LAWS: a row stored into a slice of the call's own; slices of numbers that came in. -/
namespace Go.Fp
open Go Go.RowKit
theorem spl_take {cs us : List Value} {o n : Nat} (h : o + us.length ≤ n) (hn : n ≤ cs.length) : (spl cs o us).take n = spl (cs.take n) o us := by
  unfold spl
  have e1 : (cs.take n).take o = cs.take o := by rw [List.take_take, Nat.min_eq_left (by omega)]
  have e3 : (cs.take o ++ us).length = o + us.length := by rw [List.length_append, List.length_take, Nat.min_eq_left (by omega)]
  rw [e1, List.drop_take, List.take_append, List.take_of_length_le (by rw [e3]; exact h), e3]
theorem spl_flat {k : Nat} : ∀ {ls : List (List Value)}, (∀ l, l ∈ ls → l.length = k) → ∀ {j : Nat} {a : List Value}, a.length = k → j < ls.length → spl ls.flatten (j * k) a = (ls.set j a).flatten
  | [], _, j, a, _, h => by simp at h
  | l :: ls, hls, 0, a, ha, _ => by
    have hl := hls l (by simp)
    simp [spl, ha, ← hl]
  | l :: ls, hls, j + 1, a, ha, h => by
    have hl := hls l (by simp)
    have ih := spl_flat (ls := ls) (fun x hx => hls x (List.mem_cons_of_mem _ hx)) (j := j) ha (by simpa using h)
    rw [List.set_cons_succ, List.flatten_cons, List.flatten_cons, ← ih]
    unfold spl
    rw [Nat.add_mul, Nat.one_mul, show j * k + k = l.length + j * k by omega, show l.length + j * k + a.length = l.length + (j * k + a.length) by omega, List.take_length_add_append, List.drop_length_add_append]
    simp
section
variable {P : Program} {ops : Array Oper} {Q : Exit → Act → World → Prop} {R : Kn} {cs : List Nat} {rest : List Oper} {a0 : Act} {w w0 : World} {N : Nat} {env : List (Nat × Value)}
  {d : Tmp} {ty : TypeId} {pos : String} {af : Array Edge} {S : List Nat} {l m : List Ob}
/-- A row is stored into a slice of the call's own. -/
theorem T_storeR (hN : Base N a0) (hT : Tk S w0 w l m) (i : Nat) {t : TypeId} {x y : Operand} {g o e sz n c : Nat} {xs us : List Value} [h1 : Row P t sz] (hx : ev N env x = some (.pointer (some ⟨g, o, none⟩))) (hy : ev N env y = some (.agg us.toArray)) (hi : l[i]? = some (.own e sz (.slice (some ⟨g, 0, none⟩) n c) n xs)) (hn : us.length = sz) (ho : o + sz ≤ n * sz) (hv1 : us.all (·.oneCell') = true) (hc : cs.headD 2 = 2)
    (h : ∀ w', Tk S w0 w' (l.set i (.own e sz (.slice (some ⟨g, 0, none⟩) n c) n (spl xs o us))) m → R w' ∧ wpD P ops Q R cs.tail rest (puts a0 env) w') : wpD P ops Q R cs (⟨none, .store t x y, ty, pos, af, none⟩ :: rest) (puts a0 env) w := by
  refine T_do rfl hc ?_
  have hown := hT.owns i hi
  obtain ⟨hlen, hcase⟩ := hown
  rcases hcase with ⟨h', _⟩ | ⟨g', cap', cur, h', hb, hg, hnc, hcm, hcs, htake⟩
  · simp at h'
  simp only [Value.slice.injEq, Option.some.injEq, Addr.mk.injEq, and_true, true_and] at h'
  obtain ⟨rfl, rfl⟩ := h'
  have hnc2 := Nat.mul_le_mul_right sz hnc
  have hst := run_storeCells_at P g o e us 0 cur w hg (by omega) (fun v hv => List.all_eq_true.1 hv1 v hv)
  have hrun : (execOp (puts a0 env).eval ⟨none, .store t x y, ty, pos, af, none⟩).run P w = .ok .skip (w.setRow g (spl cur.toList o us).toArray) := by
    have h6 := run_sizeOf_of (P := P) h1.out.2
    simp only [Nat.add_zero] at hst
    have e : (cur.toList.take o ++ us ++ cur.toList.drop (o + us.length)).toArray = (spl cur.toList o us).toArray := by simp [spl]
    rw [e] at hst
    simp [execOp, ev_spec hN hx, ev_spec hN hy, Instr.storeAt, Instr.sureAddr, storeVar, Value.cells, h6, hn, hst]
  unfold Oper.wp
  rw [hrun]
  refine h _ (hT.turn i hi fun f ⟨hf, _⟩ => ⟨f, ⟨hf, ?_, .inr ⟨g, c, (spl cur.toList o us).toArray, rfl, hb, setRow_heap w g _ _ e _ hg, hnc, hcm, ?_, ?_⟩⟩, ⟨rfl, rfl, rfl, by simp, fun k hk hn => setRow_other w g k _ (fun e => hn (by rw [hf]; simp [e, Value.ownBlock]))⟩, fun k hk => .inl hk⟩)
  · rw [spl_length (by omega)]; exact hlen
  · rw [List.size_toArray, spl_length (by simp; omega)]; simpa using hcs
  · rw [List.toList_toArray, spl_take (by omega) (by simp; omega), htake]
/-- A test whose outcome is known. -/
theorem T_eqlY (hN : Base N a0) {x y : Operand} {t t2 : TypeId} {k : IntKind} {m n : Int} (hx : ev N env x = some (.int k m)) (hy : ev N env y = some (.int k n)) (hp : m = n) (hR : cs.headD 2 = 0 ∨ R w)
    (h : wpD P ops Q R cs.tail rest (puts a0 ((d, .bool true) :: env)) w) : wpD P ops Q R cs (⟨some d, .binOp .eql t x y t2, ty, pos, af, none⟩ :: rest) (puts a0 env) w :=
  T_eql hN hx hy hR (by rw [bdec_true' hp]; exact h)
theorem T_eqlN (hN : Base N a0) {x y : Operand} {t t2 : TypeId} {k : IntKind} {m n : Int} (hx : ev N env x = some (.int k m)) (hy : ev N env y = some (.int k n)) (hp : ¬ m = n) (hR : cs.headD 2 = 0 ∨ R w)
    (h : wpD P ops Q R cs.tail rest (puts a0 ((d, .bool false) :: env)) w) : wpD P ops Q R cs (⟨some d, .binOp .eql t x y t2, ty, pos, af, none⟩ :: rest) (puts a0 env) w :=
  T_eql hN hx hy hR (by rw [bdec_false' hp]; exact h)
/-- What is left of a code behind region id and what goes with it. -/
def restQ (id : Nat) : Code → Code
  | .seq (.seq (.region i _ _) _) y => if i = id then y else restQ id y
  | .seq _ y => restQ id y
  | c => c
variable {k : Ks} {a : Act}
theorem C_cutQ {id : Nat} {l : Array Oper} {dr : Bool} {X : Type _} (N : Nat) (env' : X → List (Nat × Value)) (I : X → World → Prop) {x y : Code} (h : wpC P (.seq (.region id l dr) x) (.lp (Lp N env' I) k) a w)
    (h2 : ∀ (z : X) (a1 : Act) (w1 : World), Base N a1 → I z w1 → wpC P y k (puts a1 (env' z)) w1) : wpC P (.seq (.seq (.region id l dr) x) y) k a w := C_cut N env' I h h2
end
/-- The remainder of what a number is as one without a sign. -/
theorem u64_nn (x : Int) : 0 ≤ IntKind.u64.wrap x := by
  unfold IntKind.wrap
  simp [IntKind.signed, IntKind.bits]
  omega
theorem u64_rem (x : Int) (n : Nat) (hn : 0 < n) : ∃ k : Nat, k < n ∧ (IntKind.u64.wrap x).tmod (n : Int) = (k : Int) := by
  have h0 := u64_nn x
  obtain ⟨u, hu⟩ : ∃ u : Nat, IntKind.u64.wrap x = u := ⟨(IntKind.u64.wrap x).toNat, by omega⟩
  exact ⟨u % n, Nat.mod_lt _ hn, by rw [hu]; rfl⟩
end Go.Fp
