/- THE WALKS of the document's window. -/
import Derived.Test.YtbjopppgiklfkaaWin
import Derived.Maps.AppendAt
import Derived.Laws.OwnMore
import Derived.OwnWalk
namespace Go.Proofs.Ytbjopppgiklfkaa
open Go.RowKit Go.Fp

/-- A list of numbers, in memory of its own. -/
def u64s (l : List Int) : List Value := l.map (.int .u64)
theorem u64s_get {l : List Int} {i : Nat} (h : i < l.length) : (u64s l)[i]? = some (.int .u64 l[i]) := by simp [u64s, h]

theorem own_fr {w w' : World} {base : Nat} {e : TypeId} {size : Nat} {v : Value} {n : Nat} {xs : List Value} (f : Fr [] w w') (h : w.ownsRow base e size v n xs) : w'.ownsRow base e size v n xs :=
  h.kept (row := none) ⟨f.os, f.tape, f.output, f.size, fun k hk _ => f.block k hk (by simp)⟩ (by cases v <;> first | exact Or.inl rfl | skip; all_goals (cases ‹Option Addr› <;> first | exact Or.inl rfl | (refine Or.inr ?_; simp [Value.ownBlock])))

/-- Is the number not taken, and may it be? -/
def rfresh (size boot top : Int) (l : List Int) (b c : Int) : Bool :=
  if b = 0 ∨ c = 0 ∨ b < boot then false else if boot < b ∨ top < c then true else if size ≤ top - c then false else !l.contains c

theorem own_open {w : World} {base : Nat} {e : TypeId} {v : Value} {n : Nat} {l : List Int} (h : w.ownsRow base e 1 v n (u64s l)) :
    l.length = n ∧ ∃ (x : Option Addr) (cap g : Nat), v = .slice x n cap ∧ n ≤ cap ∧ cap ≤ maxLen ∧ (0 < n → x = some ⟨g, 0, none⟩ ∧ g < w.heap.size) ∧ ∀ i (hi : i < l.length), w.cell? ⟨g, i, none⟩ = some (.int .u64 l[i]) := by
  have hn : l.length = n := by have := h.1; simpa [u64s] using this
  refine ⟨hn, ?_⟩
  rcases h.2 with ⟨rfl, h0⟩ | ⟨g, cap, cur, rfl, h1, h2, h3, h4, h5, h6⟩
  · subst h0
    exact ⟨none, 0, 0, rfl, Nat.le_refl _, Nat.zero_le _, fun h => absurd h (by omega), fun i hi => absurd hi (by omega)⟩
  · refine ⟨_, cap, g, rfl, h3, h4, fun _ => ⟨rfl, (Array.getElem?_eq_some_iff.1 h2).1⟩, fun i hi => ?_⟩
    rw [h.cellAt i (by omega), u64s_get hi]

theorem own_base {w : World} {base base' : Nat} {e : TypeId} {size : Nat} {v : Value} {n : Nat} {xs : List Value} (h : w.ownsRow base e size v n xs) (hb : base' ≤ base) : w.ownsRow base' e size v n xs := by
  refine ⟨h.1, ?_⟩
  rcases h.2 with h | ⟨g, cap, cur, h0, h1, h2⟩
  · exact .inl h
  · exact .inr ⟨g, cap, cur, h0, by omega, h2⟩

def RfRel (c : Int) (l : List Int) (w1 : World) (s7 : Value) (wr : World) : Prop :=
  ∃ k : Nat, k ≤ l.length ∧ s7 = .int .i64 k ∧ (∀ i (h : i < l.length), i < k → ¬ l[i] = c) ∧ wr = w1

theorem contains_no {l : List Int} {c : Int} (h : ∀ i (h : i < l.length), i < l.length → ¬ l[i] = c) : l.contains c = false := by
  rw [Bool.eq_false_iff]
  intro hc
  rw [List.contains_iff_mem] at hc
  obtain ⟨i, hi, he⟩ := List.getElem_of_mem hc
  exact h i hi hi he
theorem contains_yes {l : List Int} {c : Int} {i : Nat} (h : i < l.length) (he : l[i] = c) : l.contains c = true := by
  rw [List.contains_iff_mem]
  exact he ▸ List.getElem_mem h

set_option maxHeartbeats 1000000 in
theorem ref02_Fresh (size boot top b c : Int) (v : Value) (n base : Nat) (l : List Int) (w : World) (s0 : 1 ≤ size) (s1 : size ≤ 64) (t0 : 0 ≤ top) (t1 : top < 18446744073709551616) (c0 : 0 ≤ c) (c1 : c < 18446744073709551616) (h : w.ownsRow base 30 1 v n (u64s l)) :
    Calls Try.prog 11 #[.agg #[.int .i64 size, .int .u64 boot, .int .u64 top, v], .int .u64 b, .int .u64 c] w fun e w' => e = .returned (.bool (rfresh size boot top l b c)) ∧ Fr [] w w' := by
  obtain ⟨hn, x, cap, g, rfl, hcap, hmax, hx, hcell⟩ := own_open h
  clear h
  have hmax' : cap ≤ 9223372036854775807 := by simpa [maxLen] using hmax
  clear hmax
  refine calls_cps fun R hR => ?_
  by_cases hb : b = 0
  · subst hb
    go_enter Try.func11, Try.ntmps11
    go_wp2_with fail
    exact hR.out _ _ ⟨ret_bool (by simp [rfresh]), (Fr.refl _ _).alloc _⟩
  have hb1 : (b == 0) = false := by simpa using hb
  by_cases hcc : c = 0
  · subst hcc
    go_enter Try.func11, Try.ntmps11
    go_wp2_with fail
    exact hR.out _ _ ⟨ret_bool (by simp [rfresh]), (Fr.refl _ _).alloc _⟩
  have hc1 : (c == 0) = false := by simpa using hcc
  go_enter Try.func11, Try.ntmps11
  go_wp2_with fail
  all_goals try first
    | (refine hR.out _ _ ⟨ret_bool ?_, (Fr.refl _ _).alloc _⟩; simp only [rfresh]; rw [if_pos (by omega)]; done)
    | (refine hR.out _ _ ⟨ret_bool ?_, (Fr.refl _ _).alloc _⟩; simp only [rfresh]; rw [if_neg (by omega), if_pos (by omega)]; done)
    | (refine hR.out _ _ ⟨ret_bool ?_, (Fr.refl _ _).alloc _⟩; simp only [rfresh]; rw [if_neg (by omega), if_neg (by omega), if_pos (by omega)]; done)
  have hrf : rfresh size boot top l b c = !l.contains c := by
    simp only [rfresh]
    rw [if_neg (by omega), if_neg (by omega), if_neg (by omega)]
  rw [hrf] at hR
  clear hrf
  go_loopw [7] (RfRel c l (w.alloc (.cells #[.int .i64 size, .int .u64 boot, .int .u64 top, .slice x n cap] 38))) (fun i _ => n - (intOf i).toNat)
  case atStart => exact ⟨0, Nat.zero_le _, rfl, fun i h hi => absurd hi (by omega), rfl⟩
  case round =>
    obtain ⟨k, hk, rfl, hno, rfl⟩ := hrel
    by_cases hlt : k < n
    · obtain ⟨rfl, hB⟩ := hx (by omega)
      have hck := hcell k (by omega)
      have hq : ¬ g = w.heap.size := by omega
      by_cases he : l[k] = c
      · rw [contains_yes (by omega) he] at hR
        rw [he] at hck
        clear hno hcell he
        go_wp2_with fail
        exact hR.out _ _ ⟨rfl, (Fr.refl _ _).alloc _⟩
      · have he1 : (l[k] == c) = false := by simpa using he
        have HN := Fp.hid hno
        have HE := Fp.hid he
        clear hno hcell he
        generalize l[k] = lk at hck he1
        go_wp2_with fail
        go_roundw
        case rel =>
          refine ⟨k + 1, by omega, by go_num, fun i h hi => ?_, rfl⟩
          by_cases e : i = k
          · subst e; exact HE.out
          · exact HN.out i h (by omega)
        case measure => simp only [intOf]; omega
    · obtain rfl : k = l.length := by omega
      rw [contains_no hno] at hR
      clear hno hcell
      go_wp2_with fail
      exact hR.out _ _ ⟨rfl, (Fr.refl _ _).alloc _⟩

theorem Fr.drew0 (S : List Nat) (w : World) : Fr S w.drew w := ⟨rfl, rfl, rfl, Nat.le_refl _, fun _ _ _ => rfl⟩
theorem fr_grown {S : List Nat} {a w w' : World} {e : TypeId} {size n : Nat} {v : Value} {xs : List Value} (f : Fr S a w) (h : w.grownBy w' v.ownBlock) (ho : w.ownsRow a.heap.size e size v n xs) : Fr S a w' := by
  refine f.step (S' := match v.ownBlock with | some k => [k] | none => []) ⟨h.os, h.tape, h.output, h.size, fun k hk hn => h.block k hk fun e => hn (by rw [← e]; simp)⟩ (fun g hg => .inr ?_)
  cases hv : v.ownBlock with
  | none => rw [hv] at hg; simp at hg
  | some k => rw [hv] at hg; simp at hg; subst hg; exact (ho.lt _ hv).1

theorem own_frS {S : List Nat} {w w' : World} {base : Nat} {e : TypeId} {size : Nat} {v : Value} {n : Nat} {xs : List Value} (f : Fr S w w') (h : w.ownsRow base e size v n xs) (hn : ∀ k, v.ownBlock = some k → k ∉ S) : w'.ownsRow base e size v n xs := by
  refine ⟨h.1, ?_⟩
  rcases h.2 with h2 | ⟨g, cap, cur, h0, h1, h2, h3⟩
  · exact .inl h2
  · refine .inr ⟨g, cap, cur, h0, h1, ?_, h3⟩
    rw [f.block g (Array.getElem?_eq_some_iff.1 h2).1 (hn g (by rw [h0]; rfl))]; exact h2
theorem Has.new1 (w : World) (o : Obj) (cs : Array Value) (T : TypeId) : Has ((w.alloc o).alloc (.cells cs T (0, 0))) (w.heap.size + 1) T cs := by
  have := Has.new (w.alloc o) cs T
  simpa using this

theorem infoU64 : (Try.prog.info? 30).map (fun i => (i.zero, i.size, i.bytes)) = some (some (.int .u64 0), 1, 8) := by kernel_rfl
def rtake (size boot top : Int) (l : List Int) (b c : Int) : Int × Int × Int × List Int :=
  if b = 0 ∨ c = 0 then (1, boot, top, l) else if rfresh size boot top l b c = false then (25, boot, top, l)
  else if boot < b then (0, b, c, [c]) else (0, boot, if top < c then c else top, l ++ [c])

def RtRel (l : List Int) (w1 : World) (s8 s9 : Value) (wr : World) : Prop :=
  ∃ k : Nat, k ≤ l.length ∧ s9 = .int .i64 k ∧ wr.ownsRow w1.heap.size 30 1 s8 k (u64s (l.take k)) ∧ Fr [] w1 wr

set_option maxHeartbeats 1000000 in
theorem ref02_Take_no (size boot top b c : Int) (v : Value) (n base : Nat) (l : List Int) (w : World) (s0 : 1 ≤ size) (s1 : size ≤ 64) (t0 : 0 ≤ top) (t1 : top < 18446744073709551616) (c0 : 0 ≤ c) (c1 : c < 18446744073709551616) (_hl : n ≤ 1000000) (h : w.ownsRow base 30 1 v n (u64s l)) (_hb0 : base ≤ w.heap.size) (hno : b = 0 ∨ c = 0 ∨ rfresh size boot top l b c = false) :
    Calls Try.prog 12 #[.agg #[.int .i64 size, .int .u64 boot, .int .u64 top, v], .int .u64 b, .int .u64 c] w fun e w' => ∃ v', e = .returned (.tuple #[.int .i64 (rtake size boot top l b c).1, .agg #[.int .i64 size, .int .u64 (rtake size boot top l b c).2.1, .int .u64 (rtake size boot top l b c).2.2.1, v']]) ∧
      w'.ownsRow base 30 1 v' (rtake size boot top l b c).2.2.2.length (u64s (rtake size boot top l b c).2.2.2) ∧ Fr [] w w' := by
  have cF := fun w' (f : Fr [] w w') => ref02_Fresh size boot top b c v n base l w' s0 s1 t0 t1 c0 c1 (own_fr f h)
  obtain ⟨hn, x, cap, g, rfl, hcap, hmax, hx, hcell⟩ := own_open h
  have hmax' : cap ≤ 9223372036854775807 := by simpa [maxLen] using hmax
  clear hmax
  have H := Fp.hid h
  clear h
  refine calls_cps fun R hR => ?_
  by_cases hb : b = 0
  · subst hb
    simp only [rtake, true_or, if_true] at hR
    clear cF
    go_enter Try.func12, Try.ntmps12
    go_wp2_with (first
    | (refine wp_region_text (id := 2) [1, 0] Any Try.mixed (by kernel_rfl) trivial ?_)
    | (refine wp_region_text (id := 4) [1, 0] Any Try.mixed (by kernel_rfl) trivial ?_)
    | (refine wp_region_text (id := 6) [0, 1, 0, 0, 0, 2, 0, 0] Any Try.mixed (by kernel_rfl) trivial ?_)
    | (refine wp_region_text (id := 15) [1, 0] Any Try.mixed (by kernel_rfl) trivial ?_)
    | (refine wpT_0 (fun K hK => ?_); go_simp; refine hK _ ?_; clear hK K)
    | (refine wpT_1 (fun K hK => ?_); go_simp; refine hK _ ?_; clear hK K)
    | (refine wpT_tail (by rfl) ?_)
    | (refine wpT_2A (fun _ _ => ?_); rw [if_pos (by rfl)])
    | (refine wpT_nil ?_))
    have f9 : Fr [] w (((w.alloc (.cells #[.int .i64 size, .int .u64 boot, .int .u64 top, .slice x n cap] 38)).alloc (.cells #[.int .i64 size, .int .u64 boot, .int .u64 top, .slice x n cap] 38)).drew) := by repeat (first | exact Fr.refl _ _ | apply Fr.drew | apply Fr.alloc)
    refine bodyPost_ret ?_ rfl (hR.out _ _ ⟨.slice x n cap, rfl, by rw [hn]; exact own_fr f9 H.out, f9⟩)
    simp [results, Try.results12, go_sem]
  by_cases hcc : c = 0
  · subst hcc
    simp only [rtake, or_true, if_true] at hR
    clear cF
    have hb1 : (b == 0) = false := by simpa using hb
    go_enter Try.func12, Try.ntmps12
    go_wp2_with (first
    | (refine wp_region_text (id := 2) [1, 0] Any Try.mixed (by kernel_rfl) trivial ?_)
    | (refine wp_region_text (id := 4) [1, 0] Any Try.mixed (by kernel_rfl) trivial ?_)
    | (refine wp_region_text (id := 6) [0, 1, 0, 0, 0, 2, 0, 0] Any Try.mixed (by kernel_rfl) trivial ?_)
    | (refine wp_region_text (id := 15) [1, 0] Any Try.mixed (by kernel_rfl) trivial ?_)
    | (refine wpT_0 (fun K hK => ?_); go_simp; refine hK _ ?_; clear hK K)
    | (refine wpT_1 (fun K hK => ?_); go_simp; refine hK _ ?_; clear hK K)
    | (refine wpT_tail (by rfl) ?_)
    | (refine wpT_2A (fun _ _ => ?_); rw [if_pos (by rfl)])
    | (refine wpT_nil ?_))
    have f9 : Fr [] w (((w.alloc (.cells #[.int .i64 size, .int .u64 boot, .int .u64 top, .slice x n cap] 38)).alloc (.cells #[.int .i64 size, .int .u64 boot, .int .u64 top, .slice x n cap] 38)).drew) := by repeat (first | exact Fr.refl _ _ | apply Fr.drew | apply Fr.alloc)
    refine bodyPost_ret ?_ rfl (hR.out _ _ ⟨.slice x n cap, rfl, by rw [hn]; exact own_fr f9 H.out, f9⟩)
    simp [results, Try.results12, go_sem]
  simp only [rtake, hb, hcc, or_self, if_false] at hR
  have hb1 : (b == 0) = false := by simpa using hb
  have hc1 : (c == 0) = false := by simpa using hcc
  have hf : rfresh size boot top l b c = false := by rcases hno with h | h | h; exact absurd h hb; exact absurd h hcc; exact h
  clear hb hcc
  · rw [hf] at cF hR
    simp only [if_true] at hR
    go_enter Try.func12, Try.ntmps12
    go_wp2_with (first
    | (refine wp_region_text (id := 2) [1, 0] Any Try.mixed (by kernel_rfl) trivial ?_)
    | (refine wp_region_text (id := 4) [1, 0] Any Try.mixed (by kernel_rfl) trivial ?_)
    | (refine wp_region_text (id := 6) [0, 1, 0, 0, 0, 2, 0, 0] Any Try.mixed (by kernel_rfl) trivial ?_)
    | (refine wp_region_text (id := 15) [1, 0] Any Try.mixed (by kernel_rfl) trivial ?_)
    | (refine wpT_0 (fun K hK => ?_); go_simp; refine hK _ ?_; clear hK K)
    | (refine wpT_1 (fun K hK => ?_); go_simp; refine hK _ ?_; clear hK K)
    | (refine wpT_tail (by rfl) ?_)
    | (refine wpT_2A (fun _ _ => ?_); rw [if_pos (by rfl)])
    | (refine wpT_nil ?_)
    | (go_at_call 11; refine (cF _ (((Fr.refl _ _).alloc _).alloc _)).mono ?_; rintro e w3 ⟨rfl, fq⟩; have q0 := (fq.has0 ((Has.new w _ _).alloc _)).cell; have q1 := (fq.has0 (Has.new1 w _ _ _)).cell; have p1 := (fq.has0 (Has.new1 w _ _ _)).froz; skip))
    have f9 := ((((((((Fr.refl [] w).alloc _).alloc _).trans fq).set (p := ⟨w.heap.size + 1, 0, none⟩) (.inr (by simp)) (.int .i64 size)).set (p := ⟨w.heap.size + 1, 1, none⟩) (.inr (by simp)) (.int .u64 boot)).set (p := ⟨w.heap.size + 1, 2, none⟩) (.inr (by simp)) (.int .u64 top)).set (p := ⟨w.heap.size + 1, 3, none⟩) (.inr (by simp)) (.slice x n cap)).drew
    refine bodyPost_ret ?_ rfl (hR.out _ _ ⟨.slice x n cap, rfl, by rw [hn]; exact own_fr f9 H.out, f9⟩)
    simp [results, Try.results12, go_sem, q1]

set_option maxHeartbeats 1000000 in
theorem ref02_Take_boot (size boot top b c : Int) (v : Value) (n base : Nat) (l : List Int) (w : World) (s0 : 1 ≤ size) (s1 : size ≤ 64) (t0 : 0 ≤ top) (t1 : top < 18446744073709551616) (c0 : 0 ≤ c) (c1 : c < 18446744073709551616) (_hl : n ≤ 1000000) (h : w.ownsRow base 30 1 v n (u64s l)) (hb0 : base ≤ w.heap.size) (hb : ¬ b = 0) (hc : ¬ c = 0) (hf : rfresh size boot top l b c = true) (hbb : boot < b) :
    Calls Try.prog 12 #[.agg #[.int .i64 size, .int .u64 boot, .int .u64 top, v], .int .u64 b, .int .u64 c] w fun e w' => ∃ v', e = .returned (.tuple #[.int .i64 (rtake size boot top l b c).1, .agg #[.int .i64 size, .int .u64 (rtake size boot top l b c).2.1, .int .u64 (rtake size boot top l b c).2.2.1, v']]) ∧
      w'.ownsRow base 30 1 v' (rtake size boot top l b c).2.2.2.length (u64s (rtake size boot top l b c).2.2.2) ∧ Fr [] w w' := by
  have cF := fun w' (f : Fr [] w w') => ref02_Fresh size boot top b c v n base l w' s0 s1 t0 t1 c0 c1 (own_fr f h)
  obtain ⟨hn, x, cap, g, rfl, hcap, hmax, hx, hcell⟩ := own_open h
  have hmax' : cap ≤ 9223372036854775807 := by simpa [maxLen] using hmax
  clear hmax
  have H := Fp.hid h
  clear h
  refine calls_cps fun R hR => ?_
  simp only [rtake, hb, hc, hf, or_self, if_false, Bool.true_eq_false] at hR
  have hb1 : (b == 0) = false := by simpa using hb
  have hc1 : (c == 0) = false := by simpa using hc
  rw [hf] at cF
  clear hb hc
  simp only [hbb, if_true] at hR
  go_enter Try.func12, Try.ntmps12
  go_wp2_with (first
    | (refine wp_region_text (id := 2) [1, 0] Any Try.mixed (by kernel_rfl) trivial ?_)
    | (refine wp_region_text (id := 4) [1, 0] Any Try.mixed (by kernel_rfl) trivial ?_)
    | (refine wp_region_text (id := 6) [0, 0, 0, 0, 0, 2, 0, 0, 2] (Fr [w.heap.size + 1] _) Try.mixed (by kernel_rfl) (Fr.refl _ _) ?_)
    | (refine wp_region_text (id := 15) [1, 0] Any Try.mixed (by kernel_rfl) trivial ?_)
    | (refine wpT_0 (fun K hK => ?_); go_simp; refine hK _ ?_; clear hK K)
    | (refine wpT_1 (fun K hK => ?_); go_simp; refine hK _ ?_; clear hK K)
    | (refine wpT_tail (by rfl) ?_)
    | (refine wpT_2A (fun _ _ => ?_); rw [if_pos (by rfl)])
    | (refine wpT_nil ?_)
    | (refine wpT_2 (fun _ _ => ?_); rw [if_pos (by rfl)])
    | ((with_reducible refine And.intro (a := Fr _ _ _) ?_ ?_); focus (first | assumption | exact Fr.refl _ _ | exact Fr.trans (by assumption) (by assumption) | exact Fr.trans (Fr.trans (by assumption) (by assumption)) (by assumption) | exact Fr.trans (Fr.trans (Fr.trans (by assumption) (by assumption)) (by assumption)) (by assumption) | (repeat (first | exact Fr.refl _ _ | exact Fr.drew0 _ _ | apply Fr.drew | apply Fr.alloc | apply Fr.set _ (Or.inl (by simp))))))
    | (refine wpT_S (fun K hK => ?_); rw [if_pos (by rfl)]; refine ⟨.int .i64 size, ?_, hK _ ?_⟩; (focus (intro w' hS; have hc := ((hS.has (fq.has0 ((Has.new w _ _).alloc _)).drew (by simp)).cell); go_simp; done)); clear hK K)
    | (go_at_call 11; refine (cF _ (((Fr.refl _ _).alloc _).alloc _)).mono ?_; rintro e w3 ⟨rfl, fq⟩; have q0 := (fq.has0 ((Has.new w _ _).alloc _)).cell; have q1 := (fq.has0 (Has.new1 w _ _ _)).cell; have p1 := (fq.has0 (Has.new1 w _ _ _)).froz; have q2 := ((fq.has0 (Has.new1 w _ _ _)).alloc (.cells #[.int .u64 c] 30)).cell; have p2 := ((fq.has0 (Has.new1 w _ _ _)).alloc (.cells #[.int .u64 c] 30)).froz))
  have hsz : w.heap.size + 2 ≤ w3.heap.size := by have := fq.size; simp at this; omega
  have o1 := own_base (World.ownsRow_lit (base := w3.heap.size) (e := 30) (size := 1) w3 #[.int .u64 c] 1 (Nat.le_refl _) (by unfold maxLen; omega) rfl) (show base ≤ w3.heap.size by omega)
  have f8 := ((((Fr.refl [w.heap.size + 1] (w3.alloc (.cells #[.int .u64 c] 30))).set (p := ⟨w.heap.size + 1, 0, none⟩) (.inl (by simp)) (.int .i64 size)).set (p := ⟨w.heap.size + 1, 1, none⟩) (.inl (by simp)) (.int .u64 b)).set (p := ⟨w.heap.size + 1, 2, none⟩) (.inl (by simp)) (.int .u64 c)).set (p := ⟨w.heap.size + 1, 3, none⟩) (.inl (by simp)) (.slice (some ⟨w3.heap.size, 0, none⟩) 1 1) |>.drew
  have f9 := ((((Fr.refl [] w).alloc _).alloc _).trans fq).alloc (.cells #[.int .u64 c] 30)
  have f10 := f9.step f8 (fun g hg => by simp at hg; subst hg; exact .inr (by omega))
  have o2 := own_frS f8 o1 (fun k hk => by simp [Value.ownBlock] at hk; subst hk; simp; omega)
  refine bodyPost_ret ?_ rfl (hR.out _ _ ⟨.slice (some ⟨w3.heap.size, 0, none⟩) 1 1, rfl, o2, f10⟩)
  simp [results, Try.results12, go_sem, q2]

end Go.Proofs.Ytbjopppgiklfkaa
