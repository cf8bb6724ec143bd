/- PLAIN LAWS of updates: what doesn't look at where sums lie; how many entries bytes are. -/
import Derived.Test.YtfcmjlbfoindaaaGUp21
import Derived.Test.YtfcmjlbfoindaaaSs21
namespace Go.Proofs.Ytfcmjlbfoindaaa
open Go.RowKit Go.Fp
theorem good_nm (p : Option En) (e : En) : En.good (p.map En.nm) e.nm ↔ En.good p e := by
  unfold En.good
  have : (∀ q, p.map En.nm = some q → q.dest < e.nm.dest) ↔ (∀ q, p = some q → q.dest < e.dest) := by
    cases p with
    | none => simp
    | some a => simp [En.nm]
  rw [this]
  rfl
theorem ensGood_nm : ∀ (es : List En) (p : Option En), ensGood (p.map En.nm) (es.map En.nm) ↔ ensGood p es
  | [], _ => Iff.rfl
  | e :: es, p => by
    simp only [List.map_cons, ensGood]
    rw [good_nm]
    have := ensGood_nm es (some e)
    rw [Option.map_some] at this
    rw [this]
theorem putU_nm (full : Bool) (es : List En) : putU full (es.map En.nm) = putU full es := by
  unfold putU
  have h1 : ensGood none (es.map En.nm) ↔ ensGood none es := ensGood_nm es none
  have h2 : (es.map En.nm).flatMap En.enc = es.flatMap En.enc := by rw [List.flatMap_map]; rfl
  rw [List.length_map, h2]
  by_cases h8 : 8 < es.length
  · rw [if_pos h8, if_pos h8]
  · rw [if_neg h8, if_neg h8]
    by_cases hg : ensGood none es
    · rw [if_pos hg, if_pos (h1.2 hg)]
    · rw [if_neg hg, if_neg (fun h => hg (h1.1 h))]
theorem putU_eq (full : Bool) {es fs : List En} (h : fs.map En.nm = es.map En.nm) : putU full fs = putU full es := by rw [← putU_nm full fs, h, putU_nm]
theorem gL_small : ∀ (n : Nat) (last : Int) (s : List UInt8 × Int), (gL n last s).1.length ≤ n ∧ ∀ e, e ∈ (gL n last s).1 → e.way.length ≤ 255 ∧ e.path.length ≤ 255
  | 0, _, _ => ⟨Nat.le_refl _, fun e he => by cases he⟩
  | n + 1, last, s => by
    rw [gL]
    split
    · obtain ⟨h1, h2⟩ := gL_small n ((nm 1 s : Nat) : Int) (gs8 last s)
      refine ⟨by rw [List.length_cons]; exact Nat.succ_le_succ h1, fun e he => ?_⟩
      rcases List.mem_cons.1 he with rfl | he
      · exact ⟨(ss_rows 3 _).2, (ss_rows 6 _).2⟩
      · exact h2 e he
    · exact ⟨Nat.zero_le _, fun e he => by cases he⟩
/-- Entries that are, but for where they lie, those of some bytes. -/
theorem gR_small {bs : List UInt8} {fs : List En} (h : fs.map En.nm = if gErr bs = 0 then (gR bs).1 else []) : fs.length ≤ 255 ∧ ∀ f, f ∈ fs → f.way.length ≤ 255 ∧ f.path.length ≤ 255 := by
  have hb : (fs.map En.nm).length ≤ 255 ∧ ∀ e, e ∈ fs.map En.nm → e.way.length ≤ 255 ∧ e.path.length ≤ 255 := by
    rw [h]
    split
    · obtain ⟨h1, h2⟩ := gL_small (nm 1 (gH1 bs)) (-1) (gH2 bs)
      have := nm_lt 1 (gH1 bs)
      exact ⟨Nat.le_trans h1 (by omega), h2⟩
    · exact ⟨Nat.zero_le _, fun e he => by cases he⟩
  rw [List.length_map] at hb
  exact ⟨hb.1, fun f hf => hb.2 f.nm (List.mem_map.2 ⟨f, hf, rfl⟩)⟩
theorem ens_meqT {T : Nat} {S : List Nat} {w0 w : World} {l M0 os : List Ob} {x1 : Option Addr} {c1 : Nat} {fs : List En} (h : Tk S w0 w (Ob.own T 22 (.slice x1 fs.length c1) fs.length (fs.map En.cells).flatten :: Ob.all os :: l) M0)
    (hfo : ∀ f, f ∈ fs → f.Ok ∧ (∃ o, o ∈ os ∧ Ob.Ent o f.wob) ∧ (∃ o, o ∈ os ∧ Ob.Ent o f.pob)) : Tk S w0 w l (Ob.rd x1 fs.length 22 (fs.map En.cells).flatten :: (fs.map En.wob ++ (fs.map En.pob ++ M0))) := by
  refine ((h.swap.freezeAll).freeze).meq fun o ho => ?_
  rcases List.mem_cons.1 ho with rfl | ho
  · exact ⟨_, List.mem_cons_self .., Ent.own_rd _ _ _ _ _ _⟩
  · rcases List.mem_append.1 ho with ho | ho
    · obtain ⟨f, hf, rfl⟩ := List.mem_map.1 ho
      obtain ⟨_, ⟨o1, g1, g2⟩, _⟩ := hfo f hf
      exact ⟨o1, List.mem_cons_of_mem _ (List.mem_append_left _ g1), g2⟩
    · rcases List.mem_append.1 ho with ho | ho
      · obtain ⟨f, hf, rfl⟩ := List.mem_map.1 ho
        obtain ⟨_, _, ⟨o1, g1, g2⟩⟩ := hfo f hf
        exact ⟨o1, List.mem_cons_of_mem _ (List.mem_append_left _ g1), g2⟩
      · exact ⟨o, List.mem_cons_of_mem _ (List.mem_append_right _ ho), Ob.Ent.refl _⟩
/-- Entries of a list of read-only objects. -/
theorem ens_in {fs : List En} {M : List Ob} {r : Ob} (hk : ∀ f, f ∈ fs → f.Ok) : ∀ f, f ∈ fs → f.Ok ∧ f.wob ∈ r :: (fs.map En.wob ++ (fs.map En.pob ++ M)) ∧ f.pob ∈ r :: (fs.map En.wob ++ (fs.map En.pob ++ M)) := fun f hf =>
  ⟨hk f hf, List.mem_cons_of_mem _ (List.mem_append_left _ (List.mem_map.2 ⟨f, hf, rfl⟩)), List.mem_cons_of_mem _ (List.mem_append_right _ (List.mem_append_left _ (List.mem_map.2 ⟨f, hf, rfl⟩)))⟩
theorem ens_old {fs : List En} {M : List Ob} {r o : Ob} (h : o ∈ M) : o ∈ r :: (fs.map En.wob ++ (fs.map En.pob ++ M)) := List.mem_cons_of_mem _ (List.mem_append_right _ (List.mem_append_right _ h))
end Go.Proofs.Ytfcmjlbfoindaaa
