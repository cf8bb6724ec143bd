/- THE PLAIN LAW of frames: what is laid is taken, what is taken was laid. -/
import Derived.Test.YtfcmjlbfoindaaaHd12
namespace Go.Fp
open Go
theorem beN_aux : ∀ (l : List UInt8) (a : Nat), l.foldl (fun a b => a * 256 + b.toNat) a = a * 256 ^ l.length + l.foldl (fun a b => a * 256 + b.toNat) 0
  | [], a => by simp
  | b :: l, a => by
    rw [List.foldl_cons, List.foldl_cons, beN_aux l (a * 256 + b.toNat), beN_aux l (0 * 256 + b.toNat), List.length_cons, Nat.pow_succ, Nat.add_mul, Nat.zero_mul, Nat.zero_add, Nat.mul_comm (256 ^ l.length) 256, Nat.mul_assoc, Nat.add_assoc]
theorem beN_append (a b : List UInt8) : beN (a ++ b) = beN a * 256 ^ b.length + beN b := by
  unfold beN
  rw [List.foldl_append, beN_aux b]
theorem beN_be : ∀ k n, n < 256 ^ k → beN (be k n) = n
  | 0, n, h => by simp at h; subst h; rfl
  | k + 1, n, h => by
    have e : be (k + 1) n = [UInt8.ofNat (n / 256 ^ k)] ++ be k (n % 256 ^ k) := by
      rw [be]
      congr 1
      have : ∀ j, j ≤ k → be j n = be j (n % 256 ^ k) := by
        intro j
        induction j with
        | zero => intro _; rfl
        | succ j ih =>
          intro hj
          rw [be, be, ih (by omega)]
          congr 1
          apply UInt8.toNat_inj.1
          simp only [UInt8.toNat_ofNat']
          have hp : 256 ^ k = 256 ^ j * (256 * 256 ^ (k - j - 1)) := by rw [← Nat.mul_assoc, ← Nat.pow_succ, ← Nat.pow_add]; congr 1; omega
          have h2 : n % 256 ^ k / 256 ^ j = n / 256 ^ j % (256 * 256 ^ (k - j - 1)) := by rw [hp, Nat.mod_mul_right_div_self]
          rw [h2, Nat.mod_mul_right_mod]
      exact this k (Nat.le_refl _)
    have hlt : n / 256 ^ k < 256 := by rw [Nat.div_lt_iff_lt_mul (Nat.pow_pos (by decide))]; rw [Nat.pow_succ] at h; omega
    rw [e, beN_append, be_length, beN_be k _ (Nat.mod_lt _ (Nat.pow_pos (by decide)))]
    have : beN [UInt8.ofNat (n / 256 ^ k)] = n / 256 ^ k := by simp [beN]; omega
    rw [this]
    exact Nat.div_add_mod' n (256 ^ k)
theorem be_mod (k n : Nat) : be (k + 1) n = UInt8.ofNat (n / 256 ^ k) :: be k (n % 256 ^ k) := by
  rw [be]
  congr 1
  have : ∀ j, j ≤ k → be j n = be j (n % 256 ^ k) := by
    intro j
    induction j with
    | zero => intro _; rfl
    | succ j ih =>
      intro hj
      rw [be, be, ih (by omega)]
      congr 1
      apply UInt8.toNat_inj.1
      rw [UInt8.toNat_ofNat', UInt8.toNat_ofNat']
      have e3 : 256 ^ k = 256 ^ j * (256 * 256 ^ (k - j - 1)) := by
        rw [← Nat.mul_assoc, Nat.mul_comm (256 ^ j) 256, ← Nat.pow_succ', ← Nat.pow_add]; congr 1; omega
      rw [e3, Nat.mod_mul_right_div_self, Nat.mod_mul_right_mod]
  exact this k (Nat.le_refl _)
theorem be_beN (l : List UInt8) : be l.length (beN l) = l := by
  induction l with
  | nil => rfl
  | cons a l ih =>
    have h1 : beN (a :: l) = a.toNat * 256 ^ l.length + beN l := by
      have := beN_append [a] l
      rw [show beN [a] = a.toNat by simp [beN]] at this
      exact this
    have hlt := beN_lt l
    rw [List.length_cons, be_mod, h1]
    have e1 : (a.toNat * 256 ^ l.length + beN l) / 256 ^ l.length = a.toNat := by
      rw [Nat.add_comm, Nat.add_mul_div_right _ _ (Nat.pow_pos (by decide)), Nat.div_eq_of_lt hlt, Nat.zero_add]
    have e2 : (a.toNat * 256 ^ l.length + beN l) % 256 ^ l.length = beN l := by
      rw [Nat.add_comm, Nat.add_mul_mod_self_right, Nat.mod_eq_of_lt hlt]
    rw [e1, e2, ih]
    congr 1
    exact UInt8.toNat_inj.1 (by rw [UInt8.toNat_ofNat']; have := a.toNat_lt; omega)
end Go.Fp
namespace Go.Proofs.Ytfcmjlbfoindaaa
open Go.RowKit Go.Fp
set_option maxHeartbeats 4000000
theorem nx_app {k : Nat} {a r : List UInt8} (h : a.length = k) : nx k (a ++ r, 0) = a ∧ nxt k (a ++ r, 0) = (r, 0) := by
  subst h
  unfold nx nxt
  constructor
  · rw [if_pos ⟨rfl, by simp⟩]; simp
  · simp
theorem nm_app {k n : Nat} {r : List UInt8} (h : n < 256 ^ k) : nm k (be k n ++ r, 0) = n ∧ nxt k (be k n ++ r, 0) = (r, 0) := by
  obtain ⟨h1, h2⟩ := nx_app (r := r) (be_length k n)
  exact ⟨by unfold nm; rw [h1, beN_be k n h], h2⟩
theorem bl_app {p r : List UInt8} (h : p.length ≤ 4096) : bl 4096 (be 2 p.length ++ p ++ r, 0) = p ∧ blt 4096 (be 2 p.length ++ p ++ r, 0) = (r, 0) := by
  rw [List.append_assoc]
  obtain ⟨h1, h2⟩ := nm_app (k := 2) (n := p.length) (r := p ++ r) (by omega)
  have h3 : bl0 4096 (be 2 p.length ++ (p ++ r), 0) = (p ++ r, 0) := by
    unfold bl0; rw [h1, h2, if_neg (by omega)]
  unfold bl blt
  rw [h1, h3]
  exact nx_app rfl
theorem nxt_ok {k : Nat} {s : List UInt8 × Int} (h : (nxt k s).2 = 0) : s.2 = 0 ∧ k ≤ s.1.length ∧ (nxt k s).1 = s.1.drop k := by
  unfold nxt at h ⊢
  split at h
  · rename_i h1
    split at h
    · rename_i h2
      exact ⟨h1, h2, by rw [if_pos h1, if_pos h2]⟩
    · cases h
  · exact absurd h (by assumption)
theorem nx_ok {k : Nat} {s : List UInt8 × Int} (h : (nxt k s).2 = 0) : s.1 = nx k s ++ (nxt k s).1 ∧ (nx k s).length = k := by
  obtain ⟨h1, h2, h3⟩ := nxt_ok h
  have e : nx k s = s.1.take k := if_pos ⟨h1, h2⟩
  rw [e, h3, List.take_append_drop, List.length_take]
  exact ⟨rfl, by omega⟩
theorem inv_nm {k : Nat} {s : List UInt8 × Int} (h : (nxt k s).2 = 0) : s.2 = 0 ∧ s.1 = be k (nm k s) ++ (nxt k s).1 := by
  obtain ⟨h1, h2⟩ := nx_ok h
  refine ⟨(nxt_ok h).1, ?_⟩
  have e : be k (nm k s) = nx k s := by
    unfold nm
    have := be_beN (nx k s)
    rw [h2] at this
    exact this
  rw [e]; exact h1
theorem fl_bad {z : Int} (hz : ¬ z = 0) (s : List UInt8 × Int) : ¬ (fl z s).2 = 0 := by
  unfold fl; dsimp only; split
  · exact hz
  · rename_i h; exact fun h2 => h ⟨h2, hz⟩
theorem inv_bl {s : List UInt8 × Int} (h : (blt 4096 s).2 = 0) : s.2 = 0 ∧ s.1 = be 2 (bl 4096 s).length ++ (bl 4096 s ++ (blt 4096 s).1) ∧ (bl 4096 s).length ≤ 4096 := by
  unfold blt at h ⊢
  unfold bl
  obtain ⟨h1, h2⟩ := nx_ok h
  have h0 := (nxt_ok h).1
  have hb : ¬ max (min (4096 : Int) 4096) 0 < (nm 2 s : Int) := by
    intro hm
    rw [show bl0 4096 s = fl 8 (nxt 2 s) from if_pos hm] at h0
    exact fl_bad (by decide) _ h0
  rw [show bl0 4096 s = nxt 2 s from if_neg hb] at *
  obtain ⟨h3, h4⟩ := inv_nm h0
  refine ⟨h3, ?_, by omega⟩
  rw [h2, ← h1]; exact h4
theorem hd_inv {bs : List UInt8} (h : hdE bs = 0) : bs = (hdF bs).bytes ++ (hd7 bs).1 ∧ (hd7 bs).1.length = 16 := by
  have h8 : (hd8 bs).1 = [] ∧ (hd8 bs).2 = 0 := by
    unfold hdE at h
    split at h
    · rename_i h1; exact ⟨by rcases h1 with h1 | h1; exact h1; exact absurd h h1, h⟩
    · cases h
  obtain ⟨h81, h82⟩ := h8
  unfold hd8 at h81 h82
  obtain ⟨t1, t2⟩ := nx_ok h82
  rw [h81, List.append_nil] at t1
  have h7 := (nxt_ok h82).1
  unfold hd7 at h7
  obtain ⟨h6, e6, l6⟩ := inv_bl h7
  unfold hd6 at h6
  obtain ⟨h5, e5⟩ := inv_nm h6
  unfold hd5 at h5
  obtain ⟨h4, e4⟩ := inv_nm h5
  unfold hd4 at h4
  obtain ⟨h3, e3⟩ := inv_nm h4
  unfold hd3 at h3
  obtain ⟨h2, e2⟩ := inv_nm h3
  unfold hd2 at h2
  obtain ⟨h1, e1⟩ := inv_nm h2
  have hv : ¬ ((hd0 bs).2 = 0 ∧ ¬ nm 1 (bs, 0) = 1) := by
    intro hv
    unfold hd1 at h1
    rw [if_pos hv] at h1
    exact fl_bad (by decide) _ h1
  have hh : hd1 bs = hd0 bs := if_neg hv
  have h0 : (hd0 bs).2 = 0 := by rw [← hh]; exact h1
  have hn : nm 1 (bs, 0) = 1 := Classical.byContradiction fun hn => hv ⟨h0, hn⟩
  obtain ⟨_, e0⟩ := inv_nm h0
  rw [hn] at e0
  refine ⟨?_, by rw [t1]; exact t2⟩
  have b1 : (hd1 bs).1 = (nxt 1 (bs, 0)).1 := by rw [hh]; rfl
  show bs = frB (hdF bs).fr.toNat (hdF bs).to.toNat (hdF bs).bt (hdF bs).ct (hdF bs).kd.toNat (hdF bs).body ++ (hd7 bs).1
  have f1 : (hdF bs).fr.toNat = nm 1 (hd1 bs) := Int.toNat_natCast _
  have f2 : (hdF bs).to.toNat = nm 1 (hd2 bs) := Int.toNat_natCast _
  have f5 : (hdF bs).kd.toNat = nm 1 (hd5 bs) := Int.toNat_natCast _
  have c0 : bs = be 1 1 ++ (hd1 bs).1 := by rw [b1]; exact e0
  have c1 : (hd1 bs).1 = be 1 (nm 1 (hd1 bs)) ++ (hd2 bs).1 := e1
  have c2 : (hd2 bs).1 = be 1 (nm 1 (hd2 bs)) ++ (hd3 bs).1 := e2
  have c3 : (hd3 bs).1 = be 8 (nm 8 (hd3 bs)) ++ (hd4 bs).1 := e3
  have c4 : (hd4 bs).1 = be 8 (nm 8 (hd4 bs)) ++ (hd5 bs).1 := e4
  have c5 : (hd5 bs).1 = be 1 (nm 1 (hd5 bs)) ++ (hd6 bs).1 := e5
  have c6 : (hd6 bs).1 = be 2 (bl 4096 (hd6 bs)).length ++ (bl 4096 (hd6 bs) ++ (hd7 bs).1) := e6
  rw [f1, f2, f5]
  show bs = frB (nm 1 (hd1 bs)) (nm 1 (hd2 bs)) (nm 8 (hd3 bs)) (nm 8 (hd4 bs)) (nm 1 (hd5 bs)) (bl 4096 (hd6 bs)) ++ (hd7 bs).1
  unfold frB
  rw [c6] at c5; rw [c5] at c4; rw [c4] at c3; rw [c3] at c2; rw [c2] at c1; rw [c1] at c0
  generalize (hd7 bs).1 = T7 at *
  generalize bl 4096 (hd6 bs) = BL at *
  generalize nm 1 (hd1 bs) = N1 at *
  generalize nm 1 (hd2 bs) = N2 at *
  generalize nm 8 (hd3 bs) = N3 at *
  generalize nm 8 (hd4 bs) = N4 at *
  generalize nm 1 (hd5 bs) = N5 at *
  rw [c0]
  simp only [List.append_assoc]
theorem hd_fwd {r : Fm} (hr : r.ok) (hw : r.wf) {t : List UInt8} (ht : t.length = 16) : hdE (r.bytes ++ t) = 0 ∧ hdF (r.bytes ++ t) = r ∧ (hd7 (r.bytes ++ t)).1 = t := by
  obtain ⟨a, b, bt, ct, kd, body⟩ := r
  unfold Fm.ok at hr
  unfold Fm.wf at hw
  dsimp only at hr hw
  obtain ⟨a, rfl⟩ : ∃ n : Nat, a = n := ⟨a.toNat, by omega⟩
  obtain ⟨b, rfl⟩ : ∃ n : Nat, b = n := ⟨b.toNat, by omega⟩
  obtain ⟨kd, rfl⟩ : ∃ n : Nat, kd = n := ⟨kd.toNat, by omega⟩
  have hB : (Fm.bytes ⟨a, b, bt, ct, kd, body⟩) ++ t = be 1 1 ++ (be 1 a ++ (be 1 b ++ (be 8 bt ++ (be 8 ct ++ (be 1 kd ++ (be 2 body.length ++ body ++ t)))))) := by
    show frB ((a : Int).toNat) ((b : Int).toNat) bt ct ((kd : Int).toNat) body ++ t = _
    rw [Int.toNat_natCast, Int.toNat_natCast, Int.toNat_natCast]
    unfold frB
    simp only [List.append_assoc]
  rw [hB]
  generalize hbs : be 1 1 ++ (be 1 a ++ (be 1 b ++ (be 8 bt ++ (be 8 ct ++ (be 1 kd ++ (be 2 body.length ++ body ++ t)))))) = bs
  obtain ⟨v0, s0⟩ := nm_app (k := 1) (n := 1) (r := be 1 a ++ (be 1 b ++ (be 8 bt ++ (be 8 ct ++ (be 1 kd ++ (be 2 body.length ++ body ++ t)))))) (by decide)
  obtain ⟨v1, s1⟩ := nm_app (k := 1) (n := a) (r := be 1 b ++ (be 8 bt ++ (be 8 ct ++ (be 1 kd ++ (be 2 body.length ++ body ++ t))))) (by omega)
  obtain ⟨v2, s2⟩ := nm_app (k := 1) (n := b) (r := be 8 bt ++ (be 8 ct ++ (be 1 kd ++ (be 2 body.length ++ body ++ t)))) (by omega)
  obtain ⟨v3, s3⟩ := nm_app (k := 8) (n := bt) (r := be 8 ct ++ (be 1 kd ++ (be 2 body.length ++ body ++ t))) (by omega)
  obtain ⟨v4, s4⟩ := nm_app (k := 8) (n := ct) (r := be 1 kd ++ (be 2 body.length ++ body ++ t)) (by omega)
  obtain ⟨v5, s5⟩ := nm_app (k := 1) (n := kd) (r := be 2 body.length ++ body ++ t) (by omega)
  obtain ⟨v6, s6⟩ := bl_app (p := body) (r := t) (by omega)
  rw [hbs] at v0 s0
  have d0 : hd0 bs = (be 1 a ++ (be 1 b ++ (be 8 bt ++ (be 8 ct ++ (be 1 kd ++ (be 2 body.length ++ body ++ t))))), 0) := s0
  have d1 : hd1 bs = (be 1 a ++ (be 1 b ++ (be 8 bt ++ (be 8 ct ++ (be 1 kd ++ (be 2 body.length ++ body ++ t))))), 0) := by
    unfold hd1; rw [v0, if_neg (fun h => h.2 rfl), d0]
  have d2 : hd2 bs = (be 1 b ++ (be 8 bt ++ (be 8 ct ++ (be 1 kd ++ (be 2 body.length ++ body ++ t)))), 0) := by unfold hd2; rw [d1, s1]
  have d3 : hd3 bs = (be 8 bt ++ (be 8 ct ++ (be 1 kd ++ (be 2 body.length ++ body ++ t))), 0) := by unfold hd3; rw [d2, s2]
  have d4 : hd4 bs = (be 8 ct ++ (be 1 kd ++ (be 2 body.length ++ body ++ t)), 0) := by unfold hd4; rw [d3, s3]
  have d5 : hd5 bs = (be 1 kd ++ (be 2 body.length ++ body ++ t), 0) := by unfold hd5; rw [d4, s4]
  have d6 : hd6 bs = (be 2 body.length ++ body ++ t, 0) := by unfold hd6; rw [d5, s5]
  have d7 : hd7 bs = (t, 0) := by unfold hd7; rw [d6, s6]
  have d8 : hd8 bs = ([], 0) := by
    unfold hd8; rw [d7]
    have := (nx_app (k := 16) (a := t) (r := []) ht).2
    rw [List.append_nil] at this; exact this
  refine ⟨?_, ?_, by rw [d7]⟩
  · unfold hdE; rw [d8]; rfl
  · unfold hdF; rw [d1, d2, d3, d4, d5, d6, v1, v2, v3, v4, v5, v6]
/-- A frame, if its tag is right. -/
def opP (k bs : List UInt8) : Fm × Int := if ¬ (hdP bs).2.2 = 0 then (noF, (hdP bs).2.2) else if tagP k (bs.take (hdP bs).2.1) = bs.drop (hdP bs).2.1 then ((hdP bs).1, 0) else (noF, 24)
theorem op_seal (k : List UInt8) {r : Fm} (hr : r.ok) (hw : r.wf) : opP k (r.seal k) = (r, 0) := by
  obtain ⟨h1, h2, h3⟩ := hd_fwd hr hw (tagP_len k r.bytes)
  have hs : r.seal k = r.bytes ++ tagP k r.bytes := rfl
  have hh : hdP (r.seal k) = (r, r.bytes.length, 0) := by
    unfold hdP
    rw [hs, h1, h2, if_neg (fun h => h rfl), if_pos hr, h3, List.length_append, Nat.add_sub_cancel]
  unfold opP
  rw [hh, if_neg (fun h => h rfl)]
  dsimp only
  rw [hs, List.take_left, List.drop_left, if_pos rfl]
theorem seal_op {k bs : List UInt8} {g : Fm} (h : opP k bs = (g, 0)) : g.ok ∧ g.seal k = bs := by
  unfold opP at h
  split at h
  · rename_i h1
    exact absurd (congrArg Prod.snd h) h1
  · rename_i h1
    have h1 := Classical.not_not.1 h1
    have hE : hdE bs = 0 := by
      apply Classical.byContradiction; intro hE
      unfold hdP at h1
      rw [if_pos hE] at h1
      exact hE h1
    have hok : (hdF bs).ok := by
      apply Classical.byContradiction; intro hok
      unfold hdP at h1
      rw [if_neg (fun h => h hE), if_neg hok] at h1
      cases h1
    have hp : hdP bs = (hdF bs, bs.length - (hd7 bs).1.length, 0) := by
      unfold hdP; rw [if_neg (fun h => h hE), if_pos hok]
    rw [hp] at h
    dsimp only at h
    split at h
    · rename_i h2
      have hg : hdF bs = g := congrArg Prod.fst h
      subst hg
      refine ⟨hok, ?_⟩
      obtain ⟨i1, i2⟩ := hd_inv hE
      have hl : bs.length - (hd7 bs).1.length = (hdF bs).bytes.length := by
        have := congrArg List.length i1
        rw [List.length_append] at this; omega
      rw [hl] at h2
      have key : ∀ A T : List UInt8, bs = A ++ T → bs.take A.length = A ∧ bs.drop A.length = T := by
        intro A T hh
        rw [hh]
        exact ⟨List.take_left, List.drop_left⟩
      obtain ⟨t1, t2⟩ := key _ _ i1
      rw [t1, t2] at h2
      unfold Fm.seal
      rw [h2]; exact i1.symm
    · cases h
end Go.Proofs.Ytfcmjlbfoindaaa
