/- AN UPDATE THAT BYTES ARE, plainly. -/
import Derived.Test.YtfcmjlbfoindaaaPU21
import Derived.Test.YtfcmjlbfoindaaaIn03d
import Derived.Test.YtfcmjlbfoindaaaEn21
namespace Go.Proofs.Ytfcmjlbfoindaaa
open Go.RowKit Go.Fp
/-- What is left behind each field of an entry. -/
def gs1 (s : List UInt8 × Int) := nxt 1 s
def gs2 (s : List UInt8 × Int) := nxt 4 (gs1 s)
def gs3 (s : List UInt8 × Int) := nxt 1 (gs2 s)
def gs4 (s : List UInt8 × Int) := nxt 1 (gs3 s)
def gs5 (s : List UInt8 × Int) := nxt 16 (gs4 s)
def gs6 (s : List UInt8 × Int) := sst 3 (gs5 s)
def gs7 (s : List UInt8 × Int) := sst 6 (gs6 s)
/-- The entry that bytes are. -/
def gEn (s : List UInt8 × Int) : En := ⟨(nm 1 s : Nat), nm 4 (gs1 s), nm 1 (gs2 s), (nm 1 (gs3 s) : Nat), sm (gs4 s), none, 0, ss 3 (gs5 s), none, 0, ss 6 (gs6 s)⟩
def gBad (last : Int) (s : List UInt8 × Int) : Prop := ((nm 1 s : Nat) : Int) ≤ last ∨ 8 ≤ ((nm 1 s : Nat) : Int) ∨ ¬ kOk (nm 4 (gs1 s)) (nm 1 (gs2 s)) ((nm 1 (gs3 s) : Nat) : Int)
instance (last : Int) (s : List UInt8 × Int) : Decidable (gBad last s) := by unfold gBad; infer_instance
def gs8 (last : Int) (s : List UInt8 × Int) : List UInt8 × Int := if (gs7 s).2 = 0 ∧ gBad last s then fl 10 (gs7 s) else gs7 s
/-- Entries, while nothing is wrong. -/
def gL : Nat → Int → List UInt8 × Int → List En × (List UInt8 × Int)
  | 0, _, s => ([], s)
  | n + 1, last, s => if s.2 = 0 then (gEn s :: (gL n ((nm 1 s : Nat) : Int) (gs8 last s)).1, (gL n ((nm 1 s : Nat) : Int) (gs8 last s)).2) else ([], s)
def gH1 (bs : List UInt8) : List UInt8 × Int := if 1 < nm 1 (bs, 0) then fl 10 (nxt 1 (bs, 0)) else nxt 1 (bs, 0)
def gH2 (bs : List UInt8) : List UInt8 × Int := if 8 < nm 1 (gH1 bs) then fl 8 (nxt 1 (gH1 bs)) else nxt 1 (gH1 bs)
def gR (bs : List UInt8) : List En × (List UInt8 × Int) := gL (nm 1 (gH1 bs)) (-1) (gH2 bs)
def gErr (bs : List UInt8) : Int := if (gR bs).2.1 = [] ∨ ¬ (gR bs).2.2 = 0 then (gR bs).2.2 else 10
/-- The update that bytes are, or why there is none. -/
def getU (bs : List UInt8) : Bool × List En × Int := if gErr bs = 0 then (decide (nm 1 (bs, 0) = 1), (gR bs).1, 0) else (false, [], gErr bs)
end Go.Proofs.Ytfcmjlbfoindaaa
/- WHAT WAS LAID IS TAKEN: updates, plainly. -/
namespace Go.Proofs.Ytfcmjlbfoindaaa
open Go.RowKit Go.Fp
theorem beN_aux : ∀ (l : List UInt8) (a : Nat), l.foldl (fun a b => a * 256 + b.toNat) a = a * 256 ^ l.length + l.foldl (fun a b => a * 256 + b.toNat) 0
  | [], a => by simp
  | b :: l, a => by
    rw [List.foldl_cons, List.foldl_cons, beN_aux l (a * 256 + b.toNat), beN_aux l (0 * 256 + b.toNat), List.length_cons, Nat.pow_succ, Nat.add_mul, Nat.zero_mul, Nat.zero_add, Nat.mul_comm (256 ^ l.length) 256, Nat.mul_assoc, Nat.add_assoc]
theorem beN_append (a b : List UInt8) : beN (a ++ b) = beN a * 256 ^ b.length + beN b := by
  unfold beN
  rw [List.foldl_append, beN_aux b]
theorem beN_be : ∀ k n, n < 256 ^ k → beN (be k n) = n
  | 0, n, h => by simp at h; subst h; rfl
  | k + 1, n, h => by
    have e : be (k + 1) n = [UInt8.ofNat (n / 256 ^ k)] ++ be k (n % 256 ^ k) := by
      rw [be]
      congr 1
      have : ∀ j, j ≤ k → be j n = be j (n % 256 ^ k) := by
        intro j
        induction j with
        | zero => intro _; rfl
        | succ j ih =>
          intro hj
          rw [be, be, ih (by omega)]
          congr 1
          apply UInt8.toNat_inj.1
          simp only [UInt8.toNat_ofNat']
          have hp : 256 ^ k = 256 ^ j * (256 * 256 ^ (k - j - 1)) := by rw [← Nat.mul_assoc, ← Nat.pow_succ, ← Nat.pow_add]; congr 1; omega
          have h2 : n % 256 ^ k / 256 ^ j = n / 256 ^ j % (256 * 256 ^ (k - j - 1)) := by rw [hp, Nat.mod_mul_right_div_self]
          rw [h2, Nat.mod_mul_right_mod]
      exact this k (Nat.le_refl _)
    have hlt : n / 256 ^ k < 256 := by rw [Nat.div_lt_iff_lt_mul (Nat.pow_pos (by decide))]; rw [Nat.pow_succ] at h; omega
    rw [e, beN_append, be_length, beN_be k _ (Nat.mod_lt _ (Nat.pow_pos (by decide)))]
    have : beN [UInt8.ofNat (n / 256 ^ k)] = n / 256 ^ k := by simp [beN]; omega
    rw [this]
    exact Nat.div_add_mod' n (256 ^ k)
theorem nx_app {k : Nat} {a r : List UInt8} (h : a.length = k) : nx k (a ++ r, 0) = a ∧ nxt k (a ++ r, 0) = (r, 0) := by
  subst h
  unfold nx nxt
  constructor
  · rw [if_pos ⟨rfl, by simp⟩]; simp
  · simp
theorem nm_app {k n : Nat} {r : List UInt8} (h : n < 256 ^ k) : nm k (be k n ++ r, 0) = n ∧ nxt k (be k n ++ r, 0) = (r, 0) := by
  obtain ⟨h1, h2⟩ := nx_app (r := r) (be_length k n)
  exact ⟨by unfold nm; rw [h1, beN_be k n h], h2⟩
theorem sm_app {a r : List UInt8} (h : a.length = 16) : sm (a ++ r, 0) = a ∧ nxt 16 (a ++ r, 0) = (r, 0) := by
  refine ⟨?_, (nx_app h).2⟩
  unfold sm
  rw [if_pos ⟨rfl, by simp; omega⟩]
  simp [← h]
theorem smN_app : ∀ (ls : List (List UInt8)) (r : List UInt8), (∀ l, l ∈ ls → l.length = 16) → smN ls.length (ls.flatten ++ r, 0) = (ls, (r, 0))
  | [], r, _ => by simp [smN]
  | a :: ls, r, h => by
    obtain ⟨h1, h2⟩ := sm_app (r := ls.flatten ++ r) (h a (by simp))
    rw [List.length_cons, smN, if_pos rfl, List.flatten_cons, List.append_assoc, h1, h2, smN_app ls r (fun l hl => h l (List.mem_cons_of_mem _ hl))]
theorem ss_most {most : Int} {ls : List (List UInt8)} {r : List UInt8} (h : ∀ l, l ∈ ls → l.length = 16) (hl : (ls.length : Int) ≤ most) (hm : most ≤ 255) : ss most (be 1 ls.length ++ (ls.flatten ++ r), 0) = ls ∧ sst most (be 1 ls.length ++ (ls.flatten ++ r), 0) = (r, 0) := by
  obtain ⟨h1, h2⟩ := nm_app (k := 1) (n := ls.length) (r := ls.flatten ++ r) (by omega)
  have h3 : ss0 most (be 1 ls.length ++ (ls.flatten ++ r), 0) = (ls.flatten ++ r, 0) := by
    unfold ss0
    rw [h1, if_neg (by omega), h2]
  unfold ss sst
  rw [h3, h1, smN_app ls r h]
  exact ⟨if_pos rfl, rfl⟩
theorem enc_split (e : En) (r : List UInt8) : e.enc ++ r = be 1 e.dest.toNat ++ (be 4 e.ep ++ (be 1 e.sq ++ (be 1 e.me.toNat ++ (e.leaf ++ (be 1 e.way.length ++ (e.way.flatten ++ (be 1 e.path.length ++ (e.path.flatten ++ r)))))))) := by
  simp only [En.enc, List.append_assoc]
theorem gEn_enc {p : Option En} {e : En} (hk : e.Ok) (hg : En.good p e) (r : List UInt8) : gEn (e.enc ++ r, 0) = e.nm ∧ gs7 (e.enc ++ r, 0) = (r, 0) ∧ nm 1 (e.enc ++ r, 0) = e.dest.toNat ∧ nm 4 (gs1 (e.enc ++ r, 0)) = e.ep ∧ nm 1 (gs2 (e.enc ++ r, 0)) = e.sq ∧ nm 1 (gs3 (e.enc ++ r, 0)) = e.me.toNat := by
  obtain ⟨g1, g2, ⟨k1, k2, k3, k4⟩, _, g5, g6⟩ := hg
  rw [enc_split]
  obtain ⟨a1, b1⟩ := nm_app (k := 1) (n := e.dest.toNat) (r := be 4 e.ep ++ (be 1 e.sq ++ (be 1 e.me.toNat ++ (e.leaf ++ (be 1 e.way.length ++ (e.way.flatten ++ (be 1 e.path.length ++ (e.path.flatten ++ r)))))))) (by omega)
  obtain ⟨a2, b2⟩ := nm_app (k := 4) (n := e.ep) (r := be 1 e.sq ++ (be 1 e.me.toNat ++ (e.leaf ++ (be 1 e.way.length ++ (e.way.flatten ++ (be 1 e.path.length ++ (e.path.flatten ++ r))))))) (by omega)
  obtain ⟨a3, b3⟩ := nm_app (k := 1) (n := e.sq) (r := be 1 e.me.toNat ++ (e.leaf ++ (be 1 e.way.length ++ (e.way.flatten ++ (be 1 e.path.length ++ (e.path.flatten ++ r)))))) (by omega)
  obtain ⟨a4, b4⟩ := nm_app (k := 1) (n := e.me.toNat) (r := e.leaf ++ (be 1 e.way.length ++ (e.way.flatten ++ (be 1 e.path.length ++ (e.path.flatten ++ r))))) (by omega)
  obtain ⟨a5, b5⟩ := sm_app (a := e.leaf) (r := be 1 e.way.length ++ (e.way.flatten ++ (be 1 e.path.length ++ (e.path.flatten ++ r)))) hk.leaf
  obtain ⟨a6, b6⟩ := ss_most (most := 3) (ls := e.way) (r := be 1 e.path.length ++ (e.path.flatten ++ r)) hk.way (by omega) (by omega)
  obtain ⟨a7, b7⟩ := ss_most (most := 6) (ls := e.path) (r := r) hk.path (by omega) (by omega)
  generalize hs : (be 1 e.dest.toNat ++ (be 4 e.ep ++ (be 1 e.sq ++ (be 1 e.me.toNat ++ (e.leaf ++ (be 1 e.way.length ++ (e.way.flatten ++ (be 1 e.path.length ++ (e.path.flatten ++ r)))))))), (0 : Int)) = s at *
  have e1 : gs1 s = _ := b1
  have e2 : gs2 s = _ := (congrArg (nxt 4) e1).trans b2
  have e3 : gs3 s = _ := (congrArg (nxt 1) e2).trans b3
  have e4 : gs4 s = _ := (congrArg (nxt 1) e3).trans b4
  have e5 : gs5 s = _ := (congrArg (nxt 16) e4).trans b5
  have e6 : gs6 s = _ := (congrArg (sst 3) e5).trans b6
  have e7 : gs7 s = _ := (congrArg (sst 6) e6).trans b7
  refine ⟨?_, e7, a1, by rw [e1, a2], by rw [e2, a3], by rw [e3, a4]⟩
  unfold gEn En.nm
  rw [a1, e1, a2, e2, a3, e3, a4, e4, a5, e5, a6, e6, a7]
  have t1 : ((e.dest.toNat : Nat) : Int) = e.dest := by omega
  have t2 : ((e.me.toNat : Nat) : Int) = e.me := by omega
  rw [t1, t2]
theorem gL_enc : ∀ (es : List En) (p : Option En) (last : Int) (r : List UInt8), (∀ e, e ∈ es → e.Ok) → ensGood p es → (∀ e, es.head? = some e → last < e.dest) → gL es.length last (es.flatMap En.enc ++ r, 0) = (es.map En.nm, (r, 0))
  | [], _, _, r, _, _, _ => rfl
  | e :: es, p, last, r, hk, hg, hl => by
    have hke := hk e (by simp)
    have hd := hl e rfl
    obtain ⟨c1, c2, c3, c4, c5, c6⟩ := gEn_enc hke hg.1 (es.flatMap En.enc ++ r)
    obtain ⟨g1, g2, g3, _⟩ := hg.1
    have t1 : ((e.dest.toNat : Nat) : Int) = e.dest := by omega
    have t2 : ((e.me.toNat : Nat) : Int) = e.me := by have := g3.2.2.1; omega
    rw [List.flatMap_cons, List.append_assoc, List.length_cons]
    unfold gL
    rw [if_pos rfl]
    have h8 : gs8 last (e.enc ++ (es.flatMap En.enc ++ r), 0) = (es.flatMap En.enc ++ r, 0) := by
      have hb : ¬ ((gs7 (e.enc ++ (es.flatMap En.enc ++ r), 0)).2 = 0 ∧ gBad last (e.enc ++ (es.flatMap En.enc ++ r), 0)) := fun h => by
        have h2 := h.2
        unfold gBad at h2
        rw [c3, c4, c5, c6, t1, t2] at h2
        rcases h2 with h2 | h2 | h2
        · omega
        · omega
        · exact h2 g3
      unfold gs8
      rw [if_neg hb, c2]
    rw [h8, c1, c3, t1, gL_enc es (some e) e.dest r (fun x hx => hk x (List.mem_cons_of_mem _ hx)) hg.2 (fun x hx => by
      cases es with
      | nil => cases hx
      | cons y ys => simp at hx; subst hx; exact hg.2.1.2.2.2.1 e rfl)]
    rfl
/-- WHAT WAS LAID IS TAKEN. -/
theorem get_put {full : Bool} {es : List En} (hk : ∀ e, e ∈ es → e.Ok) (h : (putU full es).2 = 0) : gErr (putU full es).1 = 0 ∧ (gR (putU full es).1).1 = es.map En.nm ∧ nm 1 ((putU full es).1, 0) = (if full then 1 else 0) := by
  have h8 : ¬ 8 < es.length := fun h8 => by unfold putU at h; rw [if_pos h8] at h; cases h
  have hg : ensGood none es := by
    apply Classical.byContradiction; intro hg
    unfold putU at h; rw [if_neg h8, if_neg hg] at h; cases h
  rw [putU_ok h8 hg]
  dsimp only
  obtain ⟨a1, b1⟩ := nm_app (k := 1) (n := if full then 1 else 0) (r := be 1 es.length ++ es.flatMap En.enc) (by cases full <;> simp)
  obtain ⟨a2, b2⟩ := nm_app (k := 1) (n := es.length) (r := es.flatMap En.enc) (by omega)
  rw [List.append_assoc]
  have e1 : gH1 (be 1 (if full then 1 else 0) ++ (be 1 es.length ++ es.flatMap En.enc)) = (be 1 es.length ++ es.flatMap En.enc, 0) := by
    unfold gH1; rw [a1, if_neg (by cases full <;> simp), b1]
  have e2 : gH2 (be 1 (if full then 1 else 0) ++ (be 1 es.length ++ es.flatMap En.enc)) = (es.flatMap En.enc, 0) := by
    unfold gH2; rw [e1, a2, if_neg h8, b2]
  have e3 : gR (be 1 (if full then 1 else 0) ++ (be 1 es.length ++ es.flatMap En.enc)) = (es.map En.nm, ([], 0)) := by
    unfold gR
    rw [e1, a2, e2]
    have := gL_enc es none (-1) [] hk hg (fun e he => by
      cases es with
      | nil => cases he
      | cons y ys => simp at he; subst he; have := hg.1.1; omega)
    rw [List.append_nil] at this
    exact this
  refine ⟨?_, by rw [e3], a1⟩
  unfold gErr
  rw [e3, if_pos (.inl rfl)]
end Go.Proofs.Ytfcmjlbfoindaaa
