/- Part 4 of the proof: P2 .. P7. -/
import Derived.Test.YteciehfkhmbfeaaGreatSc
import Derived.Test.YteciehfkhmbfeaaGreatSb
namespace Go.Am.X
def Sz (k : Nat) (q : Rat) : Prop := (q.num.natAbs : Int) < 4294967296 ^ k ∧ (q.den : Int) < 4294967296 ^ k
theorem qmF {i j : Nat} (h : i ≤ j) {q : Rat} (hq : Sz i q) : Sz j q := by
  have := qw9 h
  exact ⟨by have := hq.1; omega, by have := hq.2; omega⟩
theorem zgC {k : Nat} {n : Int} {d : Nat} (hd0 : d ≠ 0) (hn : (n.natAbs : Int) < 4294967296 ^ k) (hd : (d : Int) < 4294967296 ^ k) : Sz k (mkRat n d) := by
  have h1 := Rat.num_mkRat n d
  have h2 := Rat.den_mkRat n d
  rw [if_neg hd0] at h1 h2
  refine ⟨?_, ?_⟩
  · rw [h1]
    have : (n / ((d.gcd n.natAbs : Nat) : Int)).natAbs ≤ n.natAbs := by
      have hdv : ((d.gcd n.natAbs : Nat) : Int) ∣ n := zaI _ _ (Nat.gcd_dvd_right _ _)
      obtain ⟨c, hc⟩ := hdv
      have hg : 0 < d.gcd n.natAbs := Nat.gcd_pos_of_pos_left _ (by omega)
      generalize d.gcd n.natAbs = g at *
      rw [hc, Int.mul_ediv_cancel_left _ (by omega), Int.natAbs_mul, Int.natAbs_natCast]
      exact Nat.le_mul_of_pos_left _ hg
    omega
  · rw [h2]
    have := Nat.div_le_self d (d.gcd n.natAbs)
    omega
theorem q0E (q : Rat) : (0 : Int) < q.den := by have := q.den_nz; omega
theorem q5I {k : Nat} {q : Rat} (h : Sz k q) (hk : k ≤ 17179869000) : Sm (mkI q.num) := qyJ hk (by have := h.1; omega) (by have := h.1; omega)
theorem q6V {k : Nat} {q : Rat} (h : Sz k q) (hk : k ≤ 17179869000) : SmN (digs (q.den : Int)) := ⟨qdW _, Nat.le_trans (qk3 h.2) hk⟩
theorem zqT {k : Nat} {q : Rat} (h : Sz k q) (hk : k ≤ 17179869000) : Sm (mkI (q.den : Int)) := qyJ hk (by have := q0E q; have := qfV k; omega) h.2
theorem qkH {k : Nat} {q : Rat} (h : Sz k q) (hk : k ≤ 17179869000) : Ev (fun K => qi5 K (mkQ q)) (mkI q.num, mkI (q.den : Int)) := by
  refine qaW ?_
  simp only [qi5, qkG, mkQ]
  have hd := q6V h hk
  have hp := q0E q
  refine qaR (qkN hd.1 (by have := hd.2; omega)) (ev_f ?_ (qe4 (qa6 _) ?_))
  · rw [qdP (by omega)]; simp; omega
  · rw [qtR (show 0 ≤ (q.den : Int) by omega)]
theorem qlP {i j : Nat} {x y : Int} (hx : (x.natAbs : Int) < 4294967296 ^ i) (hy : (y.natAbs : Int) < 4294967296 ^ j) : ((x * y).natAbs : Int) < 4294967296 ^ (i + j) := by
  rw [Int.natAbs_mul, Int.natCast_mul, Int.pow_add]
  have h1 := qfV i
  rcases Nat.eq_zero_or_pos y.natAbs with e | e
  · rw [e]; simp; have := qfV j; exact Int.mul_pos h1 this
  · calc (x.natAbs : Int) * y.natAbs < 4294967296 ^ i * y.natAbs := Int.mul_lt_mul_of_pos_right hx (by omega)
      _ ≤ 4294967296 ^ i * 4294967296 ^ j := Int.mul_le_mul_of_nonneg_left (by omega) (by omega)
theorem qxE {i j : Nat} {a b : Rat} (ha : Sz i a) (hb : Sz j b) : Sz (i + j) (a * b) := by
  have e : a * b = mkRat (a.num * b.num) (a.den * b.den) := by
    rw [← Rat.mkRat_mul_mkRat, Rat.mkRat_self, Rat.mkRat_self]
  rw [e]
  refine zgC (Nat.mul_ne_zero a.den_nz b.den_nz) (qlP ha.1 hb.1) ?_
  have := qlP (i := i) (j := j) (x := a.den) (y := b.den) (by simpa using ha.2) (by simpa using hb.2)
  rw [Int.natAbs_mul] at this
  simpa using this
theorem q75 {i j : Nat} {a b : Rat} (ha : Sz i a) (hb : Sz j b) : Sz (i + j + 1) (a + b) := by
  have e : a + b = mkRat (a.num * b.den + b.num * a.den) (a.den * b.den) := by
    rw [← Rat.mkRat_add_mkRat _ _ a.den_nz b.den_nz, Rat.mkRat_self, Rat.mkRat_self]
  rw [e]
  have h1 := qlP (i := i) (j := j) (x := a.num) (y := b.den) ha.1 (by simpa using hb.2)
  have h2 := qlP (i := j) (j := i) (x := b.num) (y := a.den) hb.1 (by simpa using ha.2)
  rw [Nat.add_comm j i] at h2
  have h3 := qfV (i + j)
  have h4 : (4294967296 : Int) ^ (i + j + 1) = 4294967296 ^ (i + j) * 4294967296 := Int.pow_succ _ _
  refine zgC (Nat.mul_ne_zero a.den_nz b.den_nz) (by omega) ?_
  have := qlP (i := i) (j := j) (x := a.den) (y := b.den) (by simpa using ha.2) (by simpa using hb.2)
  rw [Int.natAbs_mul] at this
  simp only [Int.natAbs_natCast] at this
  rw [Int.natCast_mul] at this ⊢
  omega
theorem qeS {i j : Nat} {a b : Rat} (ha : Sz i a) (hb : Sz j b) (h : i + j ≤ 1000000000) : Ev (fun K => qc8 K (mkQ a) (mkQ b)) (mkQ (a * b)) := by
  refine qaW ?_
  simp only [qc8, qmP]
  have sa := q5I ha (by omega)
  have sb := q5I hb (by omega)
  have da := q6V ha (by omega)
  have db := q6V hb (by omega)
  have pa := q0E a
  have pb := q0E b
  have hA : (mkI (a.den : Int)).Abs = digs (a.den : Int) := by rw [qtR (by omega)]
  have hB : (mkI (b.den : Int)).Abs = digs (b.den : Int) := by rw [qtR (by omega)]
  refine qaR (qkH ha (by omega)) (qaR (qkH hb (by omega)) ?_)
  have m1 := qn5 sa.1 sb.1 (by have := sa.2; have := sb.2; omega)
  rw [qdQ, qdQ] at m1
  have m2 := qx8 da.1 db.1 (by have := da.2; have := db.2; omega)
  rw [qdP (by omega), qdP (by omega)] at m2
  have hnum := qlP ha.1 hb.1
  have hden := qlP (i := i) (j := j) (x := a.den) (y := b.den) (by simpa using ha.2) (by simpa using hb.2)
  have hpos : (0 : Int) < a.den * b.den := Int.mul_pos pa pb
  have m3 := qlK (n := mkI (a.num * b.num)) (d := digs ((a.den : Int) * b.den)) (qyJ (n := i + j) (by omega) (by omega) (by omega)) ⟨qdW _, Nat.le_trans (qk3 (n := i + j) (by omega)) (by omega)⟩
  rw [qdQ, qdP (by omega)] at m3
  refine qaR m1 ?_
  simp only [hA, hB]
  refine qaR m2 (qaR m3 (qe4 (qa6 _) ?_))
  have e : a * b = mkRat (a.num * b.num) (a.den * b.den) := by
    rw [← Rat.mkRat_mul_mkRat, Rat.mkRat_self, Rat.mkRat_self]
  rw [e, ← Int.natCast_mul, Int.toNat_natCast]
theorem qmT {i j : Nat} {a b : Rat} (ha : Sz i a) (hb : Sz j b) (h : i + j ≤ 1000000000) : Ev (fun K => qfC K (mkQ a) (mkQ b)) (mkQ (a + b)) := by
  refine qaW ?_
  simp only [qfC, qmS]
  have sa := q5I ha (by omega)
  have sb := q5I hb (by omega)
  have da := q6V ha (by omega)
  have db := q6V hb (by omega)
  have ea := zqT ha (by omega)
  have eb := zqT hb (by omega)
  have pa := q0E a
  have pb := q0E b
  have hA : (mkI (a.den : Int)).Abs = digs (a.den : Int) := by rw [qtR (by omega)]
  have hB : (mkI (b.den : Int)).Abs = digs (b.den : Int) := by rw [qtR (by omega)]
  refine qaR (qkH ha (by omega)) (qaR (qkH hb (by omega)) ?_)
  have m1 := qn5 sa.1 eb.1 (by have := sa.2; have := eb.2; omega)
  have m2 := qn5 sb.1 ea.1 (by have := sb.2; have := ea.2; omega)
  rw [qdQ, qdQ] at m1 m2
  have h1 := qlP (i := i) (j := j) (x := a.num) (y := b.den) ha.1 (by simpa using hb.2)
  have h2 := qlP (i := j) (j := i) (x := b.num) (y := a.den) hb.1 (by simpa using ha.2)
  rw [Nat.add_comm j i] at h2
  have s1 : Sm (mkI (a.num * b.den)) := qyJ (n := i + j) (by omega) (by omega) (by omega)
  have s2 : Sm (mkI (b.num * a.den)) := qyJ (n := i + j) (by omega) (by omega) (by omega)
  have m3 := quA s1.1 s2.1 (by have := s1.2; omega) (by have := s2.2; omega)
  rw [qdQ, qdQ] at m3
  have m4 := qx8 da.1 db.1 (by have := da.2; have := db.2; omega)
  rw [qdP (by omega), qdP (by omega)] at m4
  have hden := qlP (i := i) (j := j) (x := a.den) (y := b.den) (by simpa using ha.2) (by simpa using hb.2)
  have hpos : (0 : Int) < a.den * b.den := Int.mul_pos pa pb
  have h3 := qfV (i + j)
  have h4 : (4294967296 : Int) ^ (i + j + 1) = 4294967296 ^ (i + j) * 4294967296 := Int.pow_succ _ _
  have m5 := qlK (n := mkI (a.num * b.den + b.num * a.den)) (d := digs ((a.den : Int) * b.den)) (qyJ (n := i + j + 1) (by omega) (by omega) (by omega)) ⟨qdW _, Nat.le_trans (qk3 (n := i + j) (by omega)) (by omega)⟩
  rw [qdQ, qdP (by omega)] at m5
  refine qaR m1 (qaR m2 (qaR m3 ?_))
  simp only [hA, hB]
  refine qaR m4 (qaR m5 (qe4 (qa6 _) ?_))
  have e : a + b = mkRat (a.num * b.den + b.num * a.den) (a.den * b.den) := by
    rw [← Rat.mkRat_add_mkRat _ _ a.den_nz b.den_nz, Rat.mkRat_self, Rat.mkRat_self]
  rw [e, ← Int.natCast_mul, Int.toNat_natCast]
theorem qlW {k : Nat} {q : Rat} (h : Sz k q) (hk : k ≤ 1000000000) : Ev (fun K => qhK K (mkQ q)) (mkQ q) := by
  refine qaW ?_
  simp only [qhK, qjJ]
  have := qlK (q5I h (by omega)) (q6V h (by omega))
  have hp := q0E q
  rw [qdQ, qdP (by omega), Int.toNat_natCast, Rat.mkRat_self] at this
  exact qaR this (qa6 _)
theorem ztF (z : Int) : mkQ (z : Rat) = ⟨mkI z, digs 1⟩ := rfl
theorem zl1 {k : Nat} {z : Int} (h : (z.natAbs : Int) < 4294967296 ^ (k + 1)) : Sz (k + 1) (z : Rat) := by
  refine ⟨h, ?_⟩
  show (1 : Int) < _
  have := qw9 (show 1 ≤ k + 1 by omega)
  have : (4294967296 : Int) ^ 1 = 4294967296 := rfl
  omega
theorem q02 {z : Int} (h : Sm (mkI z)) : Ev (fun K => qsH K (mkI z)) (mkQ (z : Rat)) := by
  refine qaW ?_
  simp only [qsH, qlL]
  have := qkU h.1 (by have := h.2; omega)
  rw [qdQ] at this
  exact qaR this (qaR qsF (qe4 (qa6 _) (ztF z).symm))
theorem qqN {z : Int} (h : -9223372036854775808 ≤ z ∧ z < 9223372036854775808) : Ev (fun K => qjX K z) (mkQ (z : Rat)) := by
  refine qaW ?_
  simp only [qjX, qn2]
  exact qaR (qnR h) (qaR qsF (qe4 (qa6 _) (ztF z).symm))
def cmpQ (a b : Rat) : Int := if a < b then -1 else if b < a then 1 else 0
theorem qsI {i j : Nat} {a b : Rat} (ha : Sz i a) (hb : Sz j b) (h : i + j ≤ 1000000000) : Ev (fun K => qo6 K (mkQ a) (mkQ b)) (cmpQ a b) := by
  refine qaW ?_
  simp only [qo6, qmR]
  have sa := q5I ha (by omega)
  have sb := q5I hb (by omega)
  have ea := zqT ha (by omega)
  have eb := zqT hb (by omega)
  have pa := q0E a
  have pb := q0E b
  refine qaR (qkH ha (by omega)) (qaR (qkH hb (by omega)) ?_)
  have g1 := qhQ sa.1 (by have := sa.2; omega)
  have g2 := qhQ sb.1 (by have := sb.2; omega)
  rw [qdQ] at g1 g2
  refine qaR g1 (qaR g2 ?_)
  have hlt : ∀ x y : Rat, x < y ↔ x.num * y.den < y.num * x.den := fun x y => Rat.lt_iff x y
  by_cases e : cmpI a.num 0 = cmpI b.num 0
  · refine ev_f (by simpa using e) ?_
    have m1 := qn5 sa.1 eb.1 (by have := sa.2; have := eb.2; omega)
    have m2 := qn5 sb.1 ea.1 (by have := sb.2; have := ea.2; omega)
    rw [qdQ, qdQ] at m1 m2
    have h1 := qlP (i := i) (j := j) (x := a.num) (y := b.den) ha.1 (by simpa using hb.2)
    have h2 := qlP (i := j) (j := i) (x := b.num) (y := a.den) hb.1 (by simpa using ha.2)
    rw [Nat.add_comm j i] at h2
    have s1 : Sm (mkI (a.num * b.den)) := qyJ (n := i + j) (by omega) (by omega) (by omega)
    have s2 : Sm (mkI (b.num * a.den)) := qyJ (n := i + j) (by omega) (by omega) (by omega)
    have m3 := zlH s1.1 s2.1 (by have := s1.2; omega) (by have := s2.2; omega)
    rw [qdQ, qdQ] at m3
    refine qaR m1 (qaR m2 (qaR m3 (qe4 (qa6 _) ?_)))
    unfold cmpI cmpQ
    simp only [hlt]
  · refine ev_t (by simpa using e) ?_
    have neg : ∀ {x y : Int} {d e : Nat}, (0 : Int) < d → (0 : Int) < e → cmpI y 0 < cmpI x 0 → y * d < x * e := by
      intro x y d e hd he hc
      unfold cmpI at hc
      by_cases hx : 0 < x
      · have h1 := Int.mul_pos hx he
        have h2 : y * d ≤ 0 := Int.mul_nonpos_of_nonpos_of_nonneg (by split at hc <;> split at hc <;> (try split at hc) <;> (try split at hc) <;> omega) (by omega)
        omega
      · have h1 : y < 0 := by split at hc <;> split at hc <;> (try split at hc) <;> (try split at hc) <;> omega
        have h2 : x = 0 := by split at hc <;> split at hc <;> (try split at hc) <;> (try split at hc) <;> omega
        subst h2
        have := Int.mul_neg_of_neg_of_pos h1 hd
        omega
    by_cases h1 : cmpI b.num 0 < cmpI a.num 0
    · refine ev_t (by simpa using h1) (qe4 (qa6 _) ?_)
      have := neg pa pb h1
      unfold cmpQ
      rw [if_neg (by rw [hlt]; omega), if_pos (by rw [hlt]; exact this)]
    · refine ev_f (by simpa using h1) (qe4 (qa6 _) ?_)
      have := neg pb pa (show cmpI a.num 0 < cmpI b.num 0 by omega)
      unfold cmpQ
      rw [if_pos (by rw [hlt]; exact this)]
open Go.Proofs.Tryz (prog)
inductive ql0 where
 | c0 (a : qaJ) (b : qaJ)
def qhT : Nat → ql0 → Option qaJ
 | 0, _ => none
 | K + 1, .c0 a b =>
  (qo6 K a b).bind fun x1 =>
  bif (decide (x1 < (0 : Int))) then
   some b
  else
   some a
def qg2 (K : Nat) (a : qaJ) (b : qaJ) : Option qaJ := qhT K (.c0 a b)
noncomputable def q15 : Code := qcS prog 51
noncomputable def q3R : ql0 → List Fr
 | .c0 .. => [.code q15]
def q43 : ql0 → St
 | .c0 a b => St.init [(TV.agg (qaB a)), (TV.agg (qaB b))]
def qwW (cx : Cx) (c : ql0) (r : qaJ) : Prop := Wk prog cx (qd8 prog 51 [[0,1,1]] (TV.agg (qaB r))) (q3R c) .normal (q43 c)
abbrev qwX (K : Nat) : Prop := ∀ c r, qhT K c = some r → ∀ cx : Cx, cx.n = 11 → qwW cx c r
theorem q44 {K} (_ : qwX K) {cx} (hn : cx.n = 11) {a b} {r} (h : qhT (K + 1) (.c0 a b) = some r) : qwW cx (.c0 a b) r := by
 rw [qhT] at h
 obtain ⟨x1, h2, h⟩ := qaU h
 rcases qa0 h with ⟨h3, h⟩ | ⟨h3, h⟩
 ·have h := oinj h; subst h
  exact wkR [rg3, rgG [oo, oo, opI (.call [[0,1,1], [0,1,1]] [(TV.agg (qaB a)), (TV.agg (qaB b))] (ti .i64 x1)), oo], bTr, rg2] hn (aC (qhL h2) <| aC h3 <| aN)
 ·have h := oinj h; subst h
  exact wkR [rg3, rgG [oo, oo, opI (.call [[0,1,1], [0,1,1]] [(TV.agg (qaB a)), (TV.agg (qaB b))] (ti .i64 x1)), oo], bFa, rg2] hn (aC (qhL h2) <| aC h3 <| aN)
theorem quM : ∀ K : Nat, qwX K
 | 0, c, r, h => by rw [qhT] at h; cases h
 | K + 1, .c0 .., r, h => fun cx hn => q44 (quM K) hn h
theorem qhN {K : Nat} {a : qaJ} {b : qaJ} {r : qaJ} (h : qg2 K a b = some r) : qc7 prog 51 [(TV.agg (qaB a)), (TV.agg (qaB b))] (TV.agg (qaB r)) :=
 qbL [[0,1,1]] (by kernel_rfl) (by simp) fun cx hn => quM K (.c0 a b) r h cx hn
open Go.Proofs.Tryz (prog)
inductive qoU where
 | c0 (a : qaJ) (b : qaJ)
def qkQ : Nat → qoU → Option qaJ
 | 0, _ => none
 | K + 1, .c0 a b =>
  (qo6 K a b).bind fun x1 =>
  bif (decide ((0 : Int) < x1)) then
   some b
  else
   some a
def qkA (K : Nat) (a : qaJ) (b : qaJ) : Option qaJ := qkQ K (.c0 a b)
noncomputable def q7L : Code := qcS prog 50
noncomputable def q9U : qoU → List Fr
 | .c0 .. => [.code q7L]
def zcO : qoU → St
 | .c0 a b => St.init [(TV.agg (qaB a)), (TV.agg (qaB b))]
def q1G (cx : Cx) (c : qoU) (r : qaJ) : Prop := Wk prog cx (qd8 prog 50 [[0,1,1]] (TV.agg (qaB r))) (q9U c) .normal (zcO c)
abbrev q1H (K : Nat) : Prop := ∀ c r, qkQ K c = some r → ∀ cx : Cx, cx.n = 11 → q1G cx c r
theorem zcP {K} (_ : q1H K) {cx} (hn : cx.n = 11) {a b} {r} (h : qkQ (K + 1) (.c0 a b) = some r) : q1G cx (.c0 a b) r := by
 rw [qkQ] at h
 obtain ⟨x1, h2, h⟩ := qaU h
 rcases qa0 h with ⟨h3, h⟩ | ⟨h3, h⟩
 ·have h := oinj h; subst h
  exact wkR [rg3, rgG [oo, oo, opI (.call [[0,1,1], [0,1,1]] [(TV.agg (qaB a)), (TV.agg (qaB b))] (ti .i64 x1)), oo], bTr, rg2] hn (aC (qhL h2) <| aC h3 <| aN)
 ·have h := oinj h; subst h
  exact wkR [rg3, rgG [oo, oo, opI (.call [[0,1,1], [0,1,1]] [(TV.agg (qaB a)), (TV.agg (qaB b))] (ti .i64 x1)), oo], bFa, rg2] hn (aC (qhL h2) <| aC h3 <| aN)
theorem qxT : ∀ K : Nat, q1H K
 | 0, c, r, h => by rw [qkQ] at h; cases h
 | K + 1, .c0 .., r, h => fun cx hn => zcP (qxT K) hn h
theorem qhS {K : Nat} {a : qaJ} {b : qaJ} {r : qaJ} (h : qkA K a b = some r) : qc7 prog 50 [(TV.agg (qaB a)), (TV.agg (qaB b))] (TV.agg (qaB r)) :=
 qbL [[0,1,1]] (by kernel_rfl) (by simp) fun cx hn => qxT K (.c0 a b) r h cx hn
open Go.Proofs.Tryz (prog)
inductive qnQ where
 | c0 (i : qaI)
def qjR : Nat → qnQ → Option qaI
 | 0, _ => none
 | K + 1, .c0 i =>
  (qkA K i.Lo i.Hi).bind fun x1 =>
  (qhK K x1).bind fun x3 =>
  (qg2 K i.Lo i.Hi).bind fun x5 =>
  (qhK K x5).bind fun x7 =>
  some (qaI.mk x3 x7)
def qd9 (K : Nat) (i : qaI) : Option qaI := qjR K (.c0 i)
noncomputable def q47 : Code := qcS prog 10
noncomputable def q7P : qnQ → List Fr
 | .c0 .. => [.code q47]
def q90 : qnQ → St
 | .c0 i => St.init [(TV.agg (qaN i))]
def qzF (cx : Cx) (c : qnQ) (r : qaI) : Prop := Wk prog cx (qd8 prog 10 [[0,1,1,0,1,1]] (TV.agg (qaN r))) (q7P c) .normal (q90 c)
abbrev qzG (K : Nat) : Prop := ∀ c r, qjR K c = some r → ∀ cx : Cx, cx.n = 16 → qzF cx c r
theorem q91 {K} (_ : qzG K) {cx} (hn : cx.n = 16) {i} {r} (h : qjR (K + 1) (.c0 i) = some r) : qzF cx (.c0 i) r := by
 rw [qjR] at h
 obtain ⟨x1, h2, h⟩ := qaU h
 obtain ⟨x3, h4, h⟩ := qaU h
 obtain ⟨x5, h6, h⟩ := qaU h
 obtain ⟨x7, h8, h⟩ := qaU h
 have h := oinj h; subst h
 exact wkR [rg2, .draw [.p, .p, .p, .p, (.call [[0,1,1], [0,1,1]] [(TV.agg (qaB i.Lo)), (TV.agg (qaB i.Hi))] (TV.agg (qaB x1))), (.call [[0,1,1]] [(TV.agg (qaB x1))] (TV.agg (qaB x3))), .p, .p, .p, .p] [opI (.call [[0,1,1], [0,1,1]] [(TV.agg (qaB i.Lo)), (TV.agg (qaB i.Hi))] (TV.agg (qaB x5))), opI (.call [[0,1,1]] [(TV.agg (qaB x5))] (TV.agg (qaB x7))), .op .p, .op .p]] hn (aC (qhS h2) <| aC (qg0 h4) <| aC (qhN h6) <| aC (qg0 h8) <| aN)
theorem qwZ : ∀ K : Nat, qzG K
 | 0, c, r, h => by rw [qjR] at h; cases h
 | K + 1, .c0 .., r, h => fun cx hn => q91 (qwZ K) hn h
theorem qdM {K : Nat} {i : qaI} {r : qaI} (h : qd9 K i = some r) : qc7 prog 10 [(TV.agg (qaN i))] (TV.agg (qaN r)) :=
 qbL [[0,1,1,0,1,1]] (by kernel_rfl) (by simp) fun cx hn => qwZ K (.c0 i) r h cx hn
open Go.Proofs.Tryz (prog)
inductive qrC where
 | c0 (i : qaI) (j : qaI)
 | c1 (b4 : qaI) (out : qaI) (t32 : qxB) (t33 : Int)
def qeK : Nat → qrC → Option qaI
 | 0, _ => none
 | K + 1, .c0 i j =>
  (qc8 K i.Lo j.Lo).bind fun x1 =>
  (qc8 K i.Lo j.Hi).bind fun x3 =>
  (qc8 K i.Hi j.Lo).bind fun x5 =>
  (qc8 K i.Hi j.Hi).bind fun x7 =>
  qeK K (.c1 (qaI.mk (qaJ.mk (qaE.mk false []) []) (qaJ.mk (qaE.mk false []) [])) (qaI.mk x1 x1) (qxB.mk x3 x5 x7) (0 : Int))
 | K + 1, .c1 b4 out t32 t33 =>
  bif (decide (t33 < (3 : Int))) then
   bif (decide (t33 = 0)) then
    (qkA K out.Lo t32.e0).bind fun x3 =>
    (qg2 K out.Hi t32.e0).bind fun x5 =>
    qeK K (.c1 (qaI.mk b4.Lo b4.Hi) (qaI.mk x3 x5) t32 (wI6 (t33 + (1 : Int))))
   else
    bif (decide (t33 = 1)) then
     (qkA K out.Lo t32.e1).bind fun x4 =>
     (qg2 K out.Hi t32.e1).bind fun x6 =>
     qeK K (.c1 (qaI.mk b4.Lo b4.Hi) (qaI.mk x4 x6) t32 (wI6 (t33 + (1 : Int))))
    else
     bif (decide (t33 = 2)) then
      (qkA K out.Lo t32.e2).bind fun x5 =>
      (qg2 K out.Hi t32.e2).bind fun x7 =>
      qeK K (.c1 (qaI.mk b4.Lo b4.Hi) (qaI.mk x5 x7) t32 (wI6 (t33 + (1 : Int))))
     else
      none
  else
   (qd9 K (qaI.mk out.Lo out.Hi)).bind fun x2 =>
   some (qaI.mk x2.Lo x2.Hi)
def quN (K : Nat) (i : qaI) (j : qaI) : Option qaI := qeK K (.c0 i j)
noncomputable def qtU : Code := qcS prog 118
noncomputable def zfL : qrC → List Fr
 | .c0 .. => [.code qtU]
 | .c1 .. => [.code (.loop (atC qtU [1,1,1,0,1,0,0])), .blk 0, .code (atC qtU [1,1,1,1])]
def ziN : qrC → St
 | .c0 i j => St.init [(TV.agg (qaN i)), (TV.agg (qaN j))]
 | .c1 b4 out t32 t33 => ⟨[(4, .c (C.ptr 4 0)), (6, .c (C.ptr 6 0)), (32, .agg ((zaP t32).map C.t)), (33, vi .i64 t33)], [(4, .var ((qaN (qaI.mk b4.Lo b4.Hi)).map C.t)), (6, .var ((qaN (qaI.mk out.Lo out.Hi)).map C.t))], []⟩
def qyA (cx : Cx) (c : qrC) (r : qaI) : Prop := Wk prog cx (qd8 prog 118 [[0,1,1,0,1,1]] (TV.agg (qaN r))) (zfL c) .normal (ziN c)
abbrev qyB (K : Nat) : Prop := ∀ c r, qeK K c = some r → ∀ cx : Cx, cx.n = 49 → qyA cx c r
theorem ziQ {K} (ih : qyB K) {cx} (hn : cx.n = 49) {i j} {r} (h : qeK (K + 1) (.c0 i j) = some r) : qyA cx (.c0 i j) r := by
 rw [qeK] at h
 obtain ⟨x1, h2, h⟩ := qaU h
 obtain ⟨x3, h4, h⟩ := qaU h
 obtain ⟨x5, h6, h⟩ := qaU h
 obtain ⟨x7, h8, h⟩ := qaU h
 exact wkG [rg3, rgG [oo, oo, oo, oo, opI (.call [[0,1,1], [0,1,1]] [(TV.agg (qaB i.Lo)), (TV.agg (qaB j.Lo))] (TV.agg (qaB x1))), oo, oo], rg5, .draw [.p, .p, .p, .p, (.call [[0,1,1], [0,1,1]] [(TV.agg (qaB i.Lo)), (TV.agg (qaB j.Hi))] (TV.agg (qaB x3))), .p, .p, .p, .p, (.call [[0,1,1], [0,1,1]] [(TV.agg (qaB i.Hi)), (TV.agg (qaB j.Lo))] (TV.agg (qaB x5))), .p, .p, .p, .p, (.call [[0,1,1], [0,1,1]] [(TV.agg (qaB i.Hi)), (TV.agg (qaB j.Hi))] (TV.agg (qaB x7))), .p, .p] [], .pre [.tellB 4 [0,1,1,0,1,1], .keep [4,6,32,33] [4,6]]] hn (aC (qbY h2) <| aC (qbY h4) <| aC (qbY h6) <| aC (qbY h8) <| aN) (ih _ _ h cx hn)
theorem ziP {K} (ih : qyB K) {cx} (hn : cx.n = 49) {b4 out t32 t33} {r} (h : qeK (K + 1) (.c1 b4 out t32 t33) = some r) : qyA cx (.c1 b4 out t32 t33) r := by
 rw [qeK] at h
 rcases qa0 h with ⟨h1, h⟩ | ⟨h1, h⟩
 ·rcases qa0 h with ⟨h2, h⟩ | ⟨h2, h⟩
  ·obtain ⟨x3, h4, h⟩ := qaU h
   obtain ⟨x5, h6, h⟩ := qaU h
   exact wkG [.go, rg1, bTr, rgG [opI (.iv 0), oo, oo], .draw [.p, .p, .p, (.call [[0,1,1], [0,1,1]] [(TV.agg (qaB out.Lo)), (TV.agg (qaB t32.e0))] (TV.agg (qaB x3))), .p, .p, .p, (.call [[0,1,1], [0,1,1]] [(TV.agg (qaB out.Hi)), (TV.agg (qaB t32.e0))] (TV.agg (qaB x5))), .p] [.op .p, .op .p, .op .p], rg2, .pre [.keep [4,6,32,33] [4,6]]] hn (aC h1 <| aC (of_decide_eq_true h2 : t33 = ((0 : Nat) : Int)) <| aC (qhS h4) <| aC (qhN h6) <| aN) (ih _ _ h cx hn)
  ·rcases qa0 h with ⟨h3, h⟩ | ⟨h3, h⟩
   ·obtain ⟨x4, h5, h⟩ := qaU h
    obtain ⟨x6, h7, h⟩ := qaU h
    exact wkG [.go, rg1, bTr, rgG [opI (.iv 1), oo, oo], .draw [.p, .p, .p, (.call [[0,1,1], [0,1,1]] [(TV.agg (qaB out.Lo)), (TV.agg (qaB t32.e1))] (TV.agg (qaB x4))), .p, .p, .p, (.call [[0,1,1], [0,1,1]] [(TV.agg (qaB out.Hi)), (TV.agg (qaB t32.e1))] (TV.agg (qaB x6))), .p] [.op .p, .op .p, .op .p], rg2, .pre [.keep [4,6,32,33] [4,6]]] hn (aC h1 <| aC (of_decide_eq_true h3 : t33 = ((1 : Nat) : Int)) <| aC (qhS h5) <| aC (qhN h7) <| aN) (ih _ _ h cx hn)
   ·rcases qa0 h with ⟨h4, h⟩ | ⟨h4, h⟩
    ·obtain ⟨x5, h6, h⟩ := qaU h
     obtain ⟨x7, h8, h⟩ := qaU h
     exact wkG [.go, rg1, bTr, rgG [opI (.iv 2), oo, oo], .draw [.p, .p, .p, (.call [[0,1,1], [0,1,1]] [(TV.agg (qaB out.Lo)), (TV.agg (qaB t32.e2))] (TV.agg (qaB x5))), .p, .p, .p, (.call [[0,1,1], [0,1,1]] [(TV.agg (qaB out.Hi)), (TV.agg (qaB t32.e2))] (TV.agg (qaB x7))), .p] [.op .p, .op .p, .op .p], rg2, .pre [.keep [4,6,32,33] [4,6]]] hn (aC h1 <| aC (of_decide_eq_true h4 : t33 = ((2 : Nat) : Int)) <| aC (qhS h6) <| aC (qhN h8) <| aN) (ih _ _ h cx hn)
    ·cases h
 ·obtain ⟨x2, h3, h⟩ := qaU h
  have h := oinj h; subst h
  exact wkR [.go, rg1, bFa, rgG [oo, opI (.call [[0,1,1,0,1,1]] [(TV.agg (qaN (qaI.mk out.Lo out.Hi)))] (TV.agg (qaN x2))), oo]] hn (aC h1 <| aC (qdM h3) <| aN)
theorem qu8 : ∀ K : Nat, qyB K
 | 0, c, r, h => by rw [qeK] at h; cases h
 | K + 1, .c0 .., r, h => fun cx hn => ziQ (qu8 K) hn h
 | K + 1, .c1 .., r, h => fun cx hn => ziP (qu8 K) hn h
theorem q92 {K : Nat} {i : qaI} {j : qaI} {r : qaI} (h : quN K i j = some r) : qc7 prog 118 [(TV.agg (qaN i)), (TV.agg (qaN j))] (TV.agg (qaN r)) :=
 qbL [[0,1,1,0,1,1]] (by kernel_rfl) (by simp) fun cx hn => qu8 K (.c0 i j) r h cx hn
open Go.Proofs.Tryz (prog)
inductive qrD where
 | c0 (i : qaI) (j : qaI)
def qmW : Nat → qrD → Option qaI
 | 0, _ => none
 | K + 1, .c0 i j =>
  (qd9 K (qaI.mk i.Lo i.Hi)).bind fun x1 =>
  (qd9 K (qaI.mk j.Lo j.Hi)).bind fun x3 =>
  (qfC K x1.Lo x3.Lo).bind fun x5 =>
  (qfC K x1.Hi x3.Hi).bind fun x7 =>
  some (qaI.mk x5 x7)
def quP (K : Nat) (i : qaI) (j : qaI) : Option qaI := qmW K (.c0 i j)
noncomputable def zcW : Code := qcS prog 117
noncomputable def zfM : qrD → List Fr
 | .c0 .. => [.code zcW]
def ziR : qrD → St
 | .c0 i j => St.init [(TV.agg (qaN i)), (TV.agg (qaN j))]
def q6D (cx : Cx) (c : qrD) (r : qaI) : Prop := Wk prog cx (qd8 prog 117 [[0,1,1,0,1,1]] (TV.agg (qaN r))) (zfM c) .normal (ziR c)
abbrev q6E (K : Nat) : Prop := ∀ c r, qmW K c = some r → ∀ cx : Cx, cx.n = 20 → q6D cx c r
theorem ziT {K} (_ : q6E K) {cx} (hn : cx.n = 20) {i j} {r} (h : qmW (K + 1) (.c0 i j) = some r) : q6D cx (.c0 i j) r := by
 rw [qmW] at h
 obtain ⟨x1, h2, h⟩ := qaU h
 obtain ⟨x3, h4, h⟩ := qaU h
 obtain ⟨x5, h6, h⟩ := qaU h
 obtain ⟨x7, h8, h⟩ := qaU h
 have h := oinj h; subst h
 exact wkR [rg3, .draw [.p, (.call [[0,1,1,0,1,1]] [(TV.agg (qaN (qaI.mk i.Lo i.Hi)))] (TV.agg (qaN x1))), .p] [opI (.call [[0,1,1,0,1,1]] [(TV.agg (qaN (qaI.mk j.Lo j.Hi)))] (TV.agg (qaN x3))), .op .p, .op .p], .draw [.p, .p, .p, .p, (.call [[0,1,1], [0,1,1]] [(TV.agg (qaB x1.Lo)), (TV.agg (qaB x3.Lo))] (TV.agg (qaB x5))), .p, .p, .p, .p] [opI (.call [[0,1,1], [0,1,1]] [(TV.agg (qaB x1.Hi)), (TV.agg (qaB x3.Hi))] (TV.agg (qaB x7))), .op .p, .op .p]] hn (aC (qdM h2) <| aC (qdM h4) <| aC (qeC h6) <| aC (qeC h8) <| aN)
theorem q1M : ∀ K : Nat, q6E K
 | 0, c, r, h => by rw [qmW] at h; cases h
 | K + 1, .c0 .., r, h => fun cx hn => ziT (q1M K) hn h
theorem q93 {K : Nat} {i : qaI} {j : qaI} {r : qaI} (h : quP K i j = some r) : qc7 prog 117 [(TV.agg (qaN i)), (TV.agg (qaN j))] (TV.agg (qaN r)) :=
 qbL [[0,1,1,0,1,1]] (by kernel_rfl) (by simp) fun cx hn => q1M K (.c0 i j) r h cx hn
open Go.Proofs.Tryz (prog)
inductive qoW where
 | c0 (a : qaJ)
def qkS : Nat → qoW → Option qaI
 | 0, _ => none
 | K + 1, .c0 a =>
  (qhK K a).bind fun x1 =>
  (qhK K a).bind fun x3 =>
  some (qaI.mk x1 x3)
def qt8 (K : Nat) (a : qaJ) : Option qaI := qkS K (.c0 a)
noncomputable def q7O : Code := qcS prog 115
noncomputable def q9Z : qoW → List Fr
 | .c0 .. => [.code q7O]
def zcT : qoW → St
 | .c0 a => St.init [(TV.agg (qaB a))]
def q1K (cx : Cx) (c : qoW) (r : qaI) : Prop := Wk prog cx (qd8 prog 115 [[0,1,1,0,1,1]] (TV.agg (qaN r))) (q9Z c) .normal (zcT c)
abbrev q1L (K : Nat) : Prop := ∀ c r, qkS K c = some r → ∀ cx : Cx, cx.n = 8 → q1K cx c r
theorem zcV {K} (_ : q1L K) {cx} (hn : cx.n = 8) {a} {r} (h : qkS (K + 1) (.c0 a) = some r) : q1K cx (.c0 a) r := by
 rw [qkS] at h
 obtain ⟨x1, h2, h⟩ := qaU h
 obtain ⟨x3, h4, h⟩ := qaU h
 have h := oinj h; subst h
 exact wkR [rg2, .draw [.p, (.call [[0,1,1]] [(TV.agg (qaB a))] (TV.agg (qaB x1))), .p] [opI (.call [[0,1,1]] [(TV.agg (qaB a))] (TV.agg (qaB x3))), .op .p, .op .p]] hn (aC (qg0 h2) <| aC (qg0 h4) <| aN)
theorem qxV : ∀ K : Nat, q1L K
 | 0, c, r, h => by rw [qkS] at h; cases h
 | K + 1, .c0 .., r, h => fun cx hn => zcV (qxV K) hn h
theorem q46 {K : Nat} {a : qaJ} {r : qaI} (h : qt8 K a = some r) : qc7 prog 115 [(TV.agg (qaB a))] (TV.agg (qaN r)) :=
 qbL [[0,1,1,0,1,1]] (by kernel_rfl) (by simp) fun cx hn => qxV K (.c0 a) r h cx hn
open Go.Proofs.Tryz (prog)
inductive qqV where
 | c0 (x : qaJ) (e_v : Int)
 | c1 (x : qaJ) (b4 : qaJ) (out : qaJ) (e_v : Int)
 | c2 (x : qaJ) (b4 : qaJ) (out : qaJ) (e_v : Int)
def qbT : Nat → qqV → Option qaJ
 | 0, _ => none
 | K + 1, .c0 x e_v =>
  (qjX K (1 : Int)).bind fun x1 =>
  qbT K (.c1 x (qaJ.mk (qaE.mk false []) []) x1 e_v)
 | K + 1, .c1 x b4 out e_v =>
  bif (decide ((0 : Int) < e_v)) then
   bif (decide ((bits .and .i64 e_v (1 : Int)) = (1 : Int))) then
    (qc8 K out x).bind fun x3 =>
    bif (decide ((1 : Int) < e_v)) then
     (qc8 K x x).bind fun x6 =>
     qbT K (.c2 x6 b4 x3 e_v)
    else
     qbT K (.c2 x b4 x3 e_v)
   else
    bif (decide ((1 : Int) < e_v)) then
     (qc8 K x x).bind fun x4 =>
     qbT K (.c2 x4 b4 out e_v)
    else
     qbT K (.c2 x b4 out e_v)
  else
   some out
 | K + 1, .c2 x b4 out e_v =>
  qbT K (.c1 x b4 out (qdG .i64 e_v (1 : Int)))
def qh1 (K : Nat) (x : qaJ) (e_v : Int) : Option qaJ := qbT K (.c0 x e_v)
noncomputable def qkD : Code := qcS prog 121
noncomputable def zd3 : qqV → List Fr
 | .c0 .. => [.code qkD]
 | .c1 .. => [.code (.loop (atC qkD [1,1,0,0,0])), .blk 0, .code (atC qkD [1,1,1])]
 | .c2 .. => [.code (atC qkD [1,1,0,0,0,1,1]), .lp (atC qkD [1,1,0,0,0]), .blk 0, .code (atC qkD [1,1,1])]
def zgU : qqV → St
 | .c0 x e_v => St.init [(TV.agg (qaB x)), (ti .i64 e_v)]
 | .c1 x b4 out e_v => ⟨[(1, vi .i64 e_v), (2, .c (C.ptr 2 0)), (4, .c (C.ptr 4 0)), (5, .c (C.ptr 5 0))], [(2, .var ((qaB x).map C.t)), (4, .var ((qaB b4).map C.t)), (5, .var ((qaB out).map C.t))], []⟩
 | .c2 x b4 out e_v => ⟨[(1, vi .i64 e_v), (2, .c (C.ptr 2 0)), (4, .c (C.ptr 4 0)), (5, .c (C.ptr 5 0))], [(2, .var ((qaB x).map C.t)), (4, .var ((qaB b4).map C.t)), (5, .var ((qaB out).map C.t))], []⟩
def qtW (cx : Cx) (c : qqV) (r : qaJ) : Prop := Wk prog cx (qd8 prog 121 [[0,1,1]] (TV.agg (qaB r))) (zd3 c) .normal (zgU c)
abbrev qtX (K : Nat) : Prop := ∀ c r, qbT K c = some r → ∀ cx : Cx, cx.n = 23 → qtW cx c r
theorem zgY {K} (ih : qtX K) {cx} (hn : cx.n = 23) {x e_v} {r} (h : qbT (K + 1) (.c0 x e_v) = some r) : qtW cx (.c0 x e_v) r := by
 rw [qbT] at h
 obtain ⟨x1, h2, h⟩ := qaU h
 exact wkG [rg2, rgG [opI (.call [[0]] [(TV.c (T.int .i64 (1 : Int)))] (TV.agg (qaB x1))), oo, oo], .pre [.tellB 4 [0,1,1], .keep [1,2,4,5] [2,4,5]]] hn (aC (qeX h2) <| aN) (ih _ _ h cx hn)
theorem zgX {K} (ih : qtX K) {cx} (hn : cx.n = 23) {x b4 out e_v} {r} (h : qbT (K + 1) (.c1 x b4 out e_v) = some r) : qtW cx (.c1 x b4 out e_v) r := by
 rw [qbT] at h
 rcases qa0 h with ⟨h1, h⟩ | ⟨h1, h⟩
 ·rcases qa0 h with ⟨h2, h⟩ | ⟨h2, h⟩
  ·obtain ⟨x3, h4, h⟩ := qaU h
   rcases qa0 h with ⟨h5, h⟩ | ⟨h5, h⟩
   ·obtain ⟨x6, h7, h⟩ := qaU h
    exact wkG [.go, rg2, bTr, rg3, bTr, rgG [oo, oo, opI (.call [[0,1,1], [0,1,1]] [(TV.agg (qaB out)), (TV.agg (qaB x))] (TV.agg (qaB x3))), oo], rg2, bTr, rgG [oo, oo, opI (.call [[0,1,1], [0,1,1]] [(TV.agg (qaB x)), (TV.agg (qaB x))] (TV.agg (qaB x6))), oo], .pre [.keep [1,2,4,5] [2,4,5]]] hn (aC h1 <| aC h2 <| aC (qbY h4) <| aC h5 <| aC (qbY h7) <| aN) (ih _ _ h cx hn)
   ·exact wkG [.go, rg2, bTr, rg3, bTr, rgG [oo, oo, opI (.call [[0,1,1], [0,1,1]] [(TV.agg (qaB out)), (TV.agg (qaB x))] (TV.agg (qaB x3))), oo], rg2, bFa, .pre [.keep [1,2,4,5] [2,4,5]]] hn (aC h1 <| aC h2 <| aC (qbY h4) <| aC h5 <| aN) (ih _ _ h cx hn)
  ·rcases qa0 h with ⟨h3, h⟩ | ⟨h3, h⟩
   ·obtain ⟨x4, h5, h⟩ := qaU h
    exact wkG [.go, rg2, bTr, rg3, bFa, rg2, bTr, rgG [oo, oo, opI (.call [[0,1,1], [0,1,1]] [(TV.agg (qaB x)), (TV.agg (qaB x))] (TV.agg (qaB x4))), oo], .pre [.keep [1,2,4,5] [2,4,5]]] hn (aC h1 <| aC h2 <| aC h3 <| aC (qbY h5) <| aN) (ih _ _ h cx hn)
   ·exact wkG [.go, rg2, bTr, rg3, bFa, rg2, bFa, .pre [.keep [1,2,4,5] [2,4,5]]] hn (aC h1 <| aC h2 <| aC h3 <| aN) (ih _ _ h cx hn)
 ·have h := oinj h; subst h
  exact wkR [.go, rg2, bFa, rg2] hn (aC h1 <| aN)
theorem zgW {K} (ih : qtX K) {cx} (hn : cx.n = 23) {x b4 out e_v} {r} (h : qbT (K + 1) (.c2 x b4 out e_v) = some r) : qtW cx (.c2 x b4 out e_v) r := by
 rw [qbT] at h
 exact q2E (fuel := 44) [rg3, .pre [.keep [1,2,4,5] [2,4,5]]] _ hn (by kernel_rfl) aN (ih _ _ h cx hn)
theorem qqU : ∀ K : Nat, qtX K
 | 0, c, r, h => by rw [qbT] at h; cases h
 | K + 1, .c0 .., r, h => fun cx hn => zgY (qqU K) hn h
 | K + 1, .c1 .., r, h => fun cx hn => zgX (qqU K) hn h
 | K + 1, .c2 .., r, h => fun cx hn => zgW (qqU K) hn h
theorem qgE {K : Nat} {x : qaJ} {e_v : Int} {r : qaJ} (h : qh1 K x e_v = some r) : qc7 prog 121 [(TV.agg (qaB x)), (ti .i64 e_v)] (TV.agg (qaB r)) :=
 qbL [[0,1,1]] (by kernel_rfl) (by simp) fun cx hn => qqU K (.c0 x e_v) r h cx hn
open Go.Proofs.Tryz (prog)
inductive qlA where
 | c0 (q : zdG)
def qfE : Nat → qlA → Option (Int × Int)
 | 0, _ => none
 | _ + 1, .c0 q =>
  bif (decide ((wI6 q.e1) = (0 : Int))) then
   some ((wI6 q.e0), (1 : Int))
  else
   bif (decide ((wI6 q.e1) < (0 : Int))) then
    some ((wI6 (0 - (wI6 q.e0))), (wI6 (0 - (wI6 q.e1))))
   else
    some ((wI6 q.e0), (wI6 q.e1))
def qjU (K : Nat) (q : zdG) : Option (Int × Int) := qfE K (.c0 q)
noncomputable def q0L : Code := qcS prog 52
noncomputable def q19 : qlA → List Fr
 | .c0 .. => [.code q0L]
def q35 : qlA → St
 | .c0 q => St.init [(TV.agg (qiF q))]
def qvG (cx : Cx) (c : qlA) (r : (Int × Int)) : Prop := Wk prog cx (qd8 prog 52 [[0], [0]] (TV.tup [(false, [(T.int .i64 r.1)]), (false, [(T.int .i64 r.2)])])) (q19 c) .normal (q35 c)
abbrev qvH (K : Nat) : Prop := ∀ c r, qfE K c = some r → ∀ cx : Cx, cx.n = 23 → qvG cx c r
theorem q36 {K} (_ : qvH K) {cx} (hn : cx.n = 23) {q} {r} (h : qfE (K + 1) (.c0 q) = some r) : qvG cx (.c0 q) r := by
 rw [qfE] at h
 rcases qa0 h with ⟨h1, h⟩ | ⟨h1, h⟩
 ·have h := oinj h; subst h
  exact wkR [rg3, .draw [.p, .p, .p, .p, .p, .p, .p] [.op .p], rg2, bTr, rg3] hn (aC h1 <| aN)
 ·rcases qa0 h with ⟨h2, h⟩ | ⟨h2, h⟩
  ·have h := oinj h; subst h
   exact wkR [rg3, .draw [.p, .p, .p, .p, .p, .p, .p] [.op .p], rg2, bFa, rg2, bTr, rg6] hn (aC h1 <| aC h2 <| aN)
  ·have h := oinj h; subst h
   exact wkR [rg3, .draw [.p, .p, .p, .p, .p, .p, .p] [.op .p], rg2, bFa, rg2, bFa, rg4] hn (aC h1 <| aC h2 <| aN)
theorem qtJ : ∀ K : Nat, qvH K
 | 0, c, r, h => by rw [qfE] at h; cases h
 | K + 1, .c0 .., r, h => fun cx hn => q36 (qtJ K) hn h
theorem qzN {K : Nat} {q : zdG} {r : (Int × Int)} (h : qjU K q = some r) : qc7 prog 52 [(TV.agg (qiF q))] (TV.tup [(false, [(T.int .i64 r.1)]), (false, [(T.int .i64 r.2)])]) :=
 qbL [[0], [0]] (by kernel_rfl) (by simp) fun cx hn => qtJ K (.c0 q) r h cx hn
open Go.Proofs.Tryz (prog)
inductive qpT where
 | c0 (num : qaE) (den : qaE)
def qjY : Nat → qpT → Option (qaJ × Int)
 | 0, _ => none
 | K + 1, .c0 num den =>
  (qi6 K den.Abs).bind fun x1 =>
  bif x1 then
   some ((qaJ.mk (qaE.mk false []) []), (2 : Int))
  else
   bif den.Neg then
    (qw2 K num).bind fun x5 =>
    (qj5 K x5 den.Abs).bind fun x7 =>
    some (x7, (0 : Int))
   else
    (qj5 K num den.Abs).bind fun x5 =>
    some (x5, (0 : Int))
def qpU (K : Nat) (num : qaE) (den : qaE) : Option (qaJ × Int) := qjY K (.c0 num den)
noncomputable def q8W : Code := qcS prog 8
noncomputable def zbY : qpT → List Fr
 | .c0 .. => [.code q8W]
def ze8 : qpT → St
 | .c0 num den => St.init [(TV.agg (qaK num)), (TV.agg (qaK den))]
def q25 (cx : Cx) (c : qpT) (r : (qaJ × Int)) : Prop := Wk prog cx (qd8 prog 8 [[0,1,1], [0]] (TV.tup [(true, qaB r.1), (false, [(T.int .i64 r.2)])])) (zbY c) .normal (ze8 c)
abbrev q26 (K : Nat) : Prop := ∀ c r, qjY K c = some r → ∀ cx : Cx, cx.n = 18 → q25 cx c r
theorem ze9 {K} (_ : q26 K) {cx} (hn : cx.n = 18) {num den} {r} (h : qjY (K + 1) (.c0 num den) = some r) : q25 cx (.c0 num den) r := by
 rw [qjY] at h
 obtain ⟨x1, h2, h⟩ := qaU h
 rcases qa0 h with ⟨h3, h⟩ | ⟨h3, h⟩
 ·have h := oinj h; subst h
  exact wkR [rg4, rgG [oo, oo, opI (.call [[1]] [(TV.c (T.sl 1 (den.Abs.map qaF)))] (TV.c (T.bool x1)))], bTr, rg3] hn (aC (qdV h2) <| aC h3 <| aN)
 ·rcases qa0 h with ⟨h4, h⟩ | ⟨h4, h⟩
  ·obtain ⟨x5, h6, h⟩ := qaU h
   obtain ⟨x7, h8, h⟩ := qaU h
   have h := oinj h; subst h
   exact wkR [rg4, rgG [oo, oo, opI (.call [[1]] [(TV.c (T.sl 1 (den.Abs.map qaF)))] (TV.c (T.bool x1)))], bFa, rg2, bTr, rgG [oo, opI (.call [[0,1]] [(TV.agg (qaK num))] (TV.agg (qaK x5))), oo], rgG [oo, oo, oo, opI (.call [[0,1], [1]] [(TV.agg (qaK x5)), (TV.c (T.sl 1 (den.Abs.map qaF)))] (TV.agg (qaB x7))), oo, oo]] hn (aC (qdV h2) <| aC h3 <| aC h4 <| aC (qzH h6) <| aC (qiR h8) <| aN)
  ·obtain ⟨x5, h6, h⟩ := qaU h
   have h := oinj h; subst h
   exact wkR [rg4, rgG [oo, oo, opI (.call [[1]] [(TV.c (T.sl 1 (den.Abs.map qaF)))] (TV.c (T.bool x1)))], bFa, rg2, bFa, rgG [oo, oo, oo, opI (.call [[0,1], [1]] [(TV.agg (qaK num)), (TV.c (T.sl 1 (den.Abs.map qaF)))] (TV.agg (qaB x5))), oo, oo]] hn (aC (qdV h2) <| aC h3 <| aC h4 <| aC (qiR h6) <| aN)
theorem qyT : ∀ K : Nat, q26 K
 | 0, c, r, h => by rw [qjY] at h; cases h
 | K + 1, .c0 .., r, h => fun cx hn => ze9 (qyT K) hn h
theorem qv8 {K : Nat} {num : qaE} {den : qaE} {r : (qaJ × Int)} (h : qpU K num den = some r) : qc7 prog 8 [(TV.agg (qaK num)), (TV.agg (qaK den))] (TV.tup [(true, qaB r.1), (false, [(T.int .i64 r.2)])]) :=
 qbL [[0,1,1], [0]] (by kernel_rfl) (by simp) fun cx hn => qyT K (.c0 num den) r h cx hn
open Go.Proofs.Tryz (prog)
inductive ql7 where
 | c0 (q : zdG)
def qhW : Nat → ql7 → Option qaJ
 | 0, _ => none
 | K + 1, .c0 q =>
  (qjU K q).bind fun x1 =>
  (qlQ K x1.1).bind fun x3 =>
  (qlQ K x1.2).bind fun x5 =>
  (qpU K x3 x5).bind fun x7 =>
  some x7.1
def qcQ (K : Nat) (q : zdG) : Option qaJ := qhW K (.c0 q)
noncomputable def q2D : Code := qcS prog 11
noncomputable def q39 : ql7 → List Fr
 | .c0 .. => [.code q2D]
def q5G : ql7 → St
 | .c0 q => St.init [(TV.agg (qiF q))]
def qw6 (cx : Cx) (c : ql7) (r : qaJ) : Prop := Wk prog cx (qd8 prog 11 [[0,1,1]] (TV.agg (qaB r))) (q39 c) .normal (q5G c)
abbrev qw7 (K : Nat) : Prop := ∀ c r, qhW K c = some r → ∀ cx : Cx, cx.n = 21 → qw6 cx c r
theorem q5H {K} (_ : qw7 K) {cx} (hn : cx.n = 21) {q} {r} (h : qhW (K + 1) (.c0 q) = some r) : qw6 cx (.c0 q) r := by
 rw [qhW] at h
 obtain ⟨x1, h2, h⟩ := qaU h
 obtain ⟨x3, h4, h⟩ := qaU h
 obtain ⟨x5, h6, h⟩ := qaU h
 obtain ⟨x7, h8, h⟩ := qaU h
 have h := oinj h; subst h
 exact wkR [rg2, rgG [oo, opI (.call [[0,0]] [(TV.agg (qiF q))] (TV.tup [(false, [(T.int .i64 x1.1)]), (false, [(T.int .i64 x1.2)])])), oo, oo, oo, oo, oo], rgG [oo, opI (.call [[0]] [(ti .i64 x1.1)] (TV.agg (qaK x3))), oo, opI (.call [[0]] [(ti .i64 x1.2)] (TV.agg (qaK x5))), opI (.call [[0,1], [0,1]] [(TV.agg (qaK x3)), (TV.agg (qaK x5))] (TV.tup [(true, qaB x7.1), (false, [(T.int .i64 x7.2)])])), oo, oo, oo, oo, oo, oo], rg2] hn (aC (qzN h2) <| aC (qgR h4) <| aC (qgR h6) <| aC (qv8 h8) <| aN)
theorem quU : ∀ K : Nat, qw7 K
 | 0, c, r, h => by rw [qhW] at h; cases h
 | K + 1, .c0 .., r, h => fun cx hn => q5H (quU K) hn h
theorem qcI {K : Nat} {q : zdG} {r : qaJ} (h : qcQ K q = some r) : qc7 prog 11 [(TV.agg (qiF q))] (TV.agg (qaB r)) :=
 qbL [[0,1,1]] (by kernel_rfl) (by simp) fun cx hn => quU K (.c0 q) r h cx hn
def lsQ (a b : Rat) : Rat := if b < a then b else a
def gtQ (a b : Rat) : Rat := if a < b then b else a
def iv (a b : Rat) : qaI := ⟨mkQ a, mkQ b⟩
theorem q1X {k : Nat} {a b : Rat} (ha : Sz k a) (hb : Sz k b) : Sz k (lsQ a b) := by unfold lsQ; split <;> assumption
theorem q1Y {k : Nat} {a b : Rat} (ha : Sz k a) (hb : Sz k b) : Sz k (gtQ a b) := by unfold gtQ; split <;> assumption
theorem zv0 (a b : Rat) : decide ((0 : Int) < cmpQ a b) = decide (b < a) := by
  unfold cmpQ
  by_cases h : a < b
  · rw [if_pos h]
    have : ¬ b < a := Rat.not_lt.2 (Rat.le_of_lt h)
    simp [this]
  · rw [if_neg h]
    by_cases h2 : b < a
    · rw [if_pos h2]; simp [h2]
    · rw [if_neg h2]; simp [h2]
theorem zv1 (a b : Rat) : decide (cmpQ a b < (0 : Int)) = decide (a < b) := by
  unfold cmpQ
  by_cases h : a < b
  · rw [if_pos h]; simp [h]
  · rw [if_neg h]
    by_cases h2 : b < a
    · rw [if_pos h2]; simp [h]
    · rw [if_neg h2]; simp [h]
theorem qmV {i j : Nat} {a b : Rat} (ha : Sz i a) (hb : Sz j b) (h : i + j ≤ 1000000000) : Ev (fun K => qkA K (mkQ a) (mkQ b)) (mkQ (lsQ a b)) := by
  refine qaW ?_
  simp only [qkA, qkQ]
  refine qaR (qsI ha hb h) ?_
  rw [zv0]
  unfold lsQ
  by_cases e : b < a
  · rw [if_pos e]; exact ev_t (by simpa using e) (qa6 _)
  · rw [if_neg e]; exact ev_f (by simpa using e) (qa6 _)
theorem qj2 {i j : Nat} {a b : Rat} (ha : Sz i a) (hb : Sz j b) (h : i + j ≤ 1000000000) : Ev (fun K => qg2 K (mkQ a) (mkQ b)) (mkQ (gtQ a b)) := by
  refine qaW ?_
  simp only [qg2, qhT]
  refine qaR (qsI ha hb h) ?_
  rw [zv1]
  unfold gtQ
  by_cases e : a < b
  · rw [if_pos e]; exact ev_t (by simpa using e) (qa6 _)
  · rw [if_neg e]; exact ev_f (by simpa using e) (qa6 _)
theorem qjS {k : Nat} {a b : Rat} (ha : Sz k a) (hb : Sz k b) (h : k ≤ 500000000) : Ev (fun K => qd9 K (iv a b)) (iv (lsQ a b) (gtQ a b)) := by
  refine qaW ?_
  simp only [qd9, qjR, iv]
  exact qaR (qmV ha hb (by omega)) (qaR (qlW (q1X ha hb) (by omega)) (qaR (qj2 ha hb (by omega)) (qaR (qlW (q1Y ha hb) (by omega)) (qa6 _))))
theorem zcU {k : Nat} {a : Rat} (ha : Sz k a) (h : k ≤ 500000000) : Ev (fun K => qt8 K (mkQ a)) (iv a a) := by
  refine qaW ?_
  simp only [qt8, qkS]
  exact qaR (qlW ha (by omega)) (qaR (qlW ha (by omega)) (qa6 _))
theorem ziS {i j : Nat} {a b c d : Rat} (ha : Sz i a) (hb : Sz i b) (hc : Sz j c) (hd : Sz j d) (h : i + j ≤ 500000000) :
    Ev (fun K => quP K (iv a b) (iv c d)) (iv (lsQ a b + lsQ c d) (gtQ a b + gtQ c d)) := by
  refine qaW ?_
  simp only [quP, qmW]
  refine qaR (qjS ha hb (by omega)) (qaR (qjS hc hd (by omega)) ?_)
  exact qaR (qmT (q1X ha hb) (q1X hc hd) (by omega)) (qaR (qmT (q1Y ha hb) (q1Y hc hd) (by omega)) (qa6 _))
def mlo (a b c d : Rat) : Rat := lsQ (lsQ (lsQ (a * c) (a * d)) (b * c)) (b * d)
def mhi (a b c d : Rat) : Rat := gtQ (gtQ (gtQ (a * c) (a * d)) (b * c)) (b * d)
theorem ziO {i j : Nat} {a b c d : Rat} (ha : Sz i a) (hb : Sz i b) (hc : Sz j c) (hd : Sz j d) (h : i + j ≤ 500000000) :
    Ev (fun K => quN K (iv a b) (iv c d)) (iv (lsQ (mlo a b c d) (mhi a b c d)) (gtQ (mlo a b c d) (mhi a b c d))) := by
  have p0 := qxE ha hc
  have p1 := qxE ha hd
  have p2 := qxE hb hc
  have p3 := qxE hb hd
  refine qaW ?_
  simp only [quN, qeK]
  refine qaR (qeS ha hc (by omega)) (qaR (qeS ha hd (by omega)) (qaR (qeS hb hc (by omega)) (qaR (qeS hb hd (by omega)) ?_)))
  refine qaW ?_
  simp only [qeK]
  refine ev_t rfl (ev_t rfl (qaR (qmV p0 p1 (by omega)) (qaR (qj2 p0 p1 (by omega)) ?_)))
  refine qaW ?_
  simp only [qeK]
  refine ev_t rfl (ev_f rfl (ev_t rfl (qaR (qmV (q1X p0 p1) p2 (by omega)) (qaR (qj2 (q1Y p0 p1) p2 (by omega)) ?_))))
  refine qaW ?_
  simp only [qeK]
  refine ev_t rfl (ev_f rfl (ev_f rfl (ev_t rfl (qaR (qmV (q1X (q1X p0 p1) p2) p3 (by omega)) (qaR (qj2 (q1Y (q1Y p0 p1) p2) p3 (by omega)) ?_)))))
  refine qaW ?_
  simp only [qeK]
  exact ev_f rfl (qaR (qjS (q1X (q1X (q1X p0 p1) p2) p3) (q1Y (q1Y (q1Y p0 p1) p2) p3) (by omega)) (qa6 _))
theorem zqO : Sz 1 (1 : Rat) := by refine ⟨?_, ?_⟩ <;> decide
theorem zwQ {k : Nat} {x : Rat} (hx : Sz k x) : ∀ n : Nat, Sz (k * n + 1) (x ^ n)
  | 0 => by rw [Rat.pow_zero]; exact qmF (by omega) zqO
  | n + 1 => by rw [Rat.pow_succ]; exact qmF (by rw [Nat.mul_succ]; omega) (qxE (zwQ hx n) hx)
theorem zgV {k : Nat} {x : Rat} (hx : Sz k x) (hk : k ≤ 10000) {e : Nat} (he : 1 ≤ e ∧ e ≤ 4) : Ev (fun K => qh1 K (mkQ x) (e : Int)) (mkQ (x ^ e)) := by
  have x2 := qxE hx hx
  have one : Ev (fun K => qjX K (1 : Int)) (mkQ (1 : Rat)) := qqN (z := 1) (by omega)
  have m1 : Ev (fun K => qc8 K (mkQ (1 : Rat)) (mkQ x)) (mkQ x) := by
    have := qeS zqO hx (by omega)
    rwa [Rat.one_mul] at this
  refine qaW ?_
  simp only [qh1, qbT]
  refine qaR one ?_
  obtain rfl | rfl | rfl | rfl : e = 1 ∨ e = 2 ∨ e = 3 ∨ e = 4 := by omega
  · refine qaW ?_
    simp only [qbT]
    refine ev_t (by decide) (ev_t (by decide) (qaR m1 (ev_f (by decide) ?_)))
    refine qaW ?_
    simp only [qbT]
    refine qaW ?_
    simp only [qbT]
    exact ev_f (by decide) (qe4 (qa6 _) (by rw [Rat.pow_succ, Rat.pow_zero, Rat.one_mul]))
  · refine qaW ?_
    simp only [qbT]
    refine ev_t (by decide) (ev_f (by decide) (ev_t (by decide) (qaR (qeS hx hx (by omega)) ?_)))
    refine qaW ?_
    simp only [qbT]
    refine qaW ?_
    simp only [qbT]
    have := qeS zqO x2 (by omega)
    rw [Rat.one_mul] at this
    refine ev_t (by decide) (ev_t (by decide) (qaR this (ev_f (by decide) ?_)))
    refine qaW ?_
    simp only [qbT]
    refine qaW ?_
    simp only [qbT]
    exact ev_f (by decide) (qe4 (qa6 _) (by rw [Rat.pow_succ, Rat.pow_succ, Rat.pow_zero, Rat.one_mul]))
  · refine qaW ?_
    simp only [qbT]
    refine ev_t (by decide) (ev_t (by decide) (qaR m1 (ev_t (by decide) (qaR (qeS hx hx (by omega)) ?_))))
    refine qaW ?_
    simp only [qbT]
    refine qaW ?_
    simp only [qbT]
    refine ev_t (by decide) (ev_t (by decide) (qaR (qeS hx x2 (by omega)) (ev_f (by decide) ?_)))
    refine qaW ?_
    simp only [qbT]
    refine qaW ?_
    simp only [qbT]
    exact ev_f (by decide) (qe4 (qa6 _) (by rw [Rat.pow_succ, Rat.pow_succ, Rat.pow_succ, Rat.pow_zero, Rat.one_mul, Rat.mul_assoc]))
  · refine qaW ?_
    simp only [qbT]
    refine ev_t (by decide) (ev_f (by decide) (ev_t (by decide) (qaR (qeS hx hx (by omega)) ?_)))
    refine qaW ?_
    simp only [qbT]
    refine qaW ?_
    simp only [qbT]
    refine ev_t (by decide) (ev_f (by decide) (ev_t (by decide) (qaR (qeS x2 x2 (by omega)) ?_)))
    refine qaW ?_
    simp only [qbT]
    refine qaW ?_
    simp only [qbT]
    have := qeS zqO (qxE x2 x2) (by omega)
    rw [Rat.one_mul] at this
    refine ev_t (by decide) (ev_t (by decide) (qaR this (ev_f (by decide) ?_)))
    refine qaW ?_
    simp only [qbT]
    refine qaW ?_
    simp only [qbT]
    exact ev_f (by decide) (qe4 (qa6 _) (by rw [Rat.pow_succ, Rat.pow_succ, Rat.pow_succ, Rat.pow_succ, Rat.pow_zero, Rat.one_mul, ← Rat.mul_assoc]))
theorem qvK {q : zdG} (h0 : -128 ≤ q.e0 ∧ q.e0 < 128) (h1 : -128 ≤ q.e1 ∧ q.e1 < 128) : ∃ x : Rat, Ev (fun K => qcQ K q) (mkQ x) ∧ Sz 1 x := by
  have key : ∀ (n : Int) (d : Nat), -128 ≤ n → n ≤ 128 → 1 ≤ d → d ≤ 128 → Ev (fun K => qjU K q) (n, (d : Int)) → ∃ x : Rat, Ev (fun K => qcQ K q) (mkQ x) ∧ Sz 1 x := by
    intro n d hn1 hn2 hd1 hd2 hf
    have e1 : (4294967296 : Int) ^ 1 = 4294967296 := rfl
    refine ⟨mkRat n d, ?_, zgC (by omega) (by omega) (by omega)⟩
    refine qaW ?_
    simp only [qcQ, qhW]
    have sd : Sm (mkI (d : Int)) := qyJ (n := 1) (by omega) (by omega) (by omega)
    have sn : Sm (mkI n) := qyJ (n := 1) (by omega) (by omega) (by omega)
    have habs : (mkI (d : Int)).Abs = digs (d : Int) := by rw [qtR (by omega)]
    refine qaR hf (qaR (qnR (by omega)) (qaR (qnR (by omega)) (qaR (x := (mkQ (mkRat n d), 0)) ?_ (qa6 _))))
    refine qaW ?_
    simp only [qpU, qjY]
    have hz := qkN sd.1 (by have := sd.2; omega)
    have hv : val (mkI (d : Int)).Abs = d := by rw [habs, qdP (by omega)]
    rw [hv] at hz
    refine qaR hz (ev_f (by simp; omega) (ev_f (by simp [mkI]) ?_))
    rw [habs]
    have := qlK sn (d := digs (d : Int)) ⟨qdW _, by have := sd.2; rwa [habs] at this⟩
    rw [qdQ, qdP (by omega), Int.toNat_natCast] at this
    exact qaR this (qa6 _)
  have w0 : wI6 q.e0 = q.e0 := qdF (by omega)
  have w1 : wI6 q.e1 = q.e1 := qdF (by omega)
  have w2 : wI6 (0 - q.e0) = -q.e0 := by rw [qdF (by omega)]; omega
  have w3 : wI6 (0 - q.e1) = -q.e1 := by rw [qdF (by omega)]; omega
  by_cases e : q.e1 = 0
  · refine key q.e0 1 (by omega) (by omega) (by omega) (by omega) (qaW ?_)
    simp only [qjU, qfE, w0, w1]
    exact ev_t (by simpa using e) (qa6 _)
  · by_cases e2 : q.e1 < 0
    · refine key (-q.e0) (-q.e1).toNat (by omega) (by omega) (by omega) (by omega) (qaW ?_)
      simp only [qjU, qfE, w0, w1, w2, w3]
      exact ev_f (by simpa using e) (ev_t (by simpa using e2) (qe4 (qa6 _) (by rw [Int.toNat_of_nonneg (by omega)])))
    · refine key q.e0 q.e1.toNat (by omega) (by omega) (by omega) (by omega) (qaW ?_)
      simp only [qjU, qfE, w0, w1]
      exact ev_f (by simpa using e) (ev_f (by simpa using e2) (qe4 (qa6 _) (by rw [Int.toNat_of_nonneg (by omega)])))
open Go.Proofs.Tryz (prog)
inductive qpP where
 | c0 (p : qaD) (level : Int)
def qlI : Nat → qpP → Option (List (List T))
 | 0, _ => none
 | _ + 1, .c0 p level =>
  bif (decide (p.Level = level)) then
   bif (decide ((0 : Int) < level)) then
    gd (p.Coefs.length * 64 ≤ 140737488355328) <|
    some p.Coefs
   else
    some ([(qaC p)] : List (List T))
  else
   some ([(qaC p)] : List (List T))
def qr7 (K : Nat) (p : qaD) (level : Int) : Option (List (List T)) := qlI K (.c0 p level)
noncomputable def q8K : Code := qcS prog 151
noncomputable def zbG : qpP → List Fr
 | .c0 .. => [.code q8K]
def zeP : qpP → St
 | .c0 p level => St.init [(TV.agg (qaC p)), (ti .i64 level)]
def q2U (cx : Cx) (c : qpP) (r : (List (List T))) : Prop := Wk prog cx (qd8 prog 151 [[4]] (tl 4 r rid)) (zbG c) .normal (zeP c)
abbrev q2V (K : Nat) : Prop := ∀ c r, qlI K c = some r → ∀ cx : Cx, cx.n = 21 → q2U cx c r
theorem zeQ {K} (_ : q2V K) {cx} (hn : cx.n = 21) {p level} {r} (h : qlI (K + 1) (.c0 p level) = some r) : q2U cx (.c0 p level) r := by
 rw [qlI] at h
 rcases qa0 h with ⟨h1, h⟩ | ⟨h1, h⟩
 ·rcases qa0 h with ⟨h2, h⟩ | ⟨h2, h⟩
  ·obtain ⟨h3, h⟩ := qbV h
   have h := oinj h; subst h
   exact wkR [rg2, rgG [oo, oo, oo, oo, oo, .sb 9 true, oo, oo, oo], bTr, .draw [.p, .p, .sl0, .p, .p] [.appT (p.Coefs.map rid), .op .p]] hn (aC h1 <| aC h2 <| aC (rfl : p.Coefs.map rid = p.Coefs.map rid) <| aC ((qcZ _ _).symm ▸ h3 : (p.Coefs.map rid).length * 64 ≤ 140737488355328) <| aC ((qcZ _ _).symm ▸ room (by decide) h3 : (p.Coefs.map rid).length ≤ maxLen) <| aN)
  ·have h := oinj h; subst h
   exact wkR [rg2, rgG [oo, oo, oo, oo, oo, .sb 9 true, oo, oo, oo], bFa, rgG [oo, opI (.lit (([(qaC p)] : List (List T)).map rid)), oo, .snap 4 (max 0 (0 + 1)) (([(qaC p)] : List (List T)).map rid)]] hn (aC h1 <| aC h2 <| aC (by kernel_rfl : [(T.int .i64 p.Level), (T.bool p.Const.Neg), (T.sl 1 (p.Const.Abs.map qaF)), (T.sl 4 (p.Coefs.map rid))] = (([(qaC p)] : List (List T)).map rid).flatten) <| aC (qeH _ _ _ (by simp) : ((([(qaC p)] : List (List T)).map rid).drop 0).take 1 = ([(qaC p)] : List (List T)).map rid) <| aC (rfl : (max 0 (0 + 1)) = (max 0 (0 + 1))) <| aN)
 ·have h := oinj h; subst h
  exact wkR [rg2, rgG [oo, oo, oo, oo, oo, .sb 9 false, oo, oo, oo], bFa, rgG [oo, opI (.lit (([(qaC p)] : List (List T)).map rid)), oo, .snap 4 (max 0 (0 + 1)) (([(qaC p)] : List (List T)).map rid)]] hn (aC h1 <| aC rf <| aC (by kernel_rfl : [(T.int .i64 p.Level), (T.bool p.Const.Neg), (T.sl 1 (p.Const.Abs.map qaF)), (T.sl 4 (p.Coefs.map rid))] = (([(qaC p)] : List (List T)).map rid).flatten) <| aC (qeH _ _ _ (by simp) : ((([(qaC p)] : List (List T)).map rid).drop 0).take 1 = ([(qaC p)] : List (List T)).map rid) <| aC (rfl : (max 0 (0 + 1)) = (max 0 (0 + 1))) <| aN)
theorem qyN : ∀ K : Nat, q2V K
 | 0, c, r, h => by rw [qlI] at h; cases h
 | K + 1, .c0 .., r, h => fun cx hn => zeQ (qyN K) hn h
theorem qv6 {K : Nat} {p : qaD} {level : Int} {r : (List (List T))} (h : qr7 K p level = some r) : qc7 prog 151 [(TV.agg (qaC p)), (ti .i64 level)] (tl 4 r rid) :=
 qbL [[4]] (by kernel_rfl) (by simp) fun cx hn => qyN K (.c0 p level) r h cx hn
open Go.Proofs.Tryz (prog)
inductive qqY where
 | c0 (p : qaD)
def qmI : Nat → qqY → Option Bool
 | 0, _ => none
 | K + 1, .c0 p =>
  bif (decide (p.Level = (0 : Int))) then
   (qh4 K p.Const).bind fun x2 =>
   some (decide (x2 = (0 : Int)))
  else
   some false
def qrU (K : Nat) (p : qaD) : Option Bool := qmI K (.c0 p)
noncomputable def zbA : Code := qcS prog 124
noncomputable def zeF : qqY → List Fr
 | .c0 .. => [.code zbA]
def zg2 : qqY → St
 | .c0 p => St.init [(TV.agg (qaC p))]
def q5K (cx : Cx) (c : qqY) (r : Bool) : Prop := Wk prog cx (qd8 prog 124 [[0]] (TV.c (T.bool r))) (zeF c) .normal (zg2 c)
abbrev q5L (K : Nat) : Prop := ∀ c r, qmI K c = some r → ∀ cx : Cx, cx.n = 12 → q5K cx c r
theorem zg3 {K} (_ : q5L K) {cx} (hn : cx.n = 12) {p} {r} (h : qmI (K + 1) (.c0 p) = some r) : q5K cx (.c0 p) r := by
 rw [qmI] at h
 rcases qa0 h with ⟨h1, h⟩ | ⟨h1, h⟩
 ·obtain ⟨x2, h3, h⟩ := qaU h
  have h := oinj h; subst h
  exact wkR [rg2, rgG [oo, oo, oo, oo, .sb 6 true, oo, oo, opI (.call [[0,1]] [(TV.agg (qaK p.Const))] (ti .i64 x2)), oo, oo, oo]] hn (aC h1 <| aC (qcF h3) <| aN)
 ·have h := oinj h; subst h
  exact wkR [rg2, rgG [oo, oo, oo, oo, .sb 6 false, oo, oo, oo, oo, oo, oo]] hn (aC h1 <| aN)
theorem q0P : ∀ K : Nat, q5L K
 | 0, c, r, h => by rw [qmI] at h; cases h
 | K + 1, .c0 .., r, h => fun cx hn => zg3 (q0P K) hn h
theorem qr1 {K : Nat} {p : qaD} {r : Bool} (h : qrU K p = some r) : qc7 prog 124 [(TV.agg (qaC p))] (TV.c (T.bool r)) :=
 qbL [[0]] (by kernel_rfl) (by simp) fun cx hn => q0P K (.c0 p) r h cx hn
open Go.Proofs.Tryz (prog)
inductive qq0 where
 | c0 (level : Int) (list : (List (List T)))
 | c1 (b4 : qaD) (level : Int) (list : (List (List T))) (n : Int)
 | c2 (b4 : qaD) (level : Int) (list : (List (List T))) (n : Int)
def qdT : Nat → qq0 → Option qaD
 | 0, _ => none
 | K + 1, .c0 level list =>
  qdT K (.c1 (qaD.mk (0 : Int) (qaE.mk false []) []) level list (list.length : Int))
 | K + 1, .c1 b4 level list n =>
  bif (decide ((0 : Int) < n)) then
   (gid qcC list (wI6 (n - (1 : Int)))).bind fun x2 =>
   (qrU K x2).bind fun x4 =>
   bif x4 then
    qdT K (.c1 b4 level list (wI6 (n - (1 : Int))))
   else
    qdT K (.c2 b4 level list n)
  else
   qdT K (.c2 b4 level list n)
 | _ + 1, .c2 _ level list n =>
  bif (decide (n = (0 : Int))) then
   some (qaD.mk (0 : Int) (qaE.mk false []) [])
  else
   bif (decide (n = (1 : Int))) then
    (gid qcC list (0 : Int)).bind fun x3 =>
    some x3
   else
    gd (0 ≤ n ∧ 0 ≤ n ∧ n.toNat ≤ n.toNat ∧ n.toNat ≤ list.length) <|
    some (qaD.mk level (qaE.mk false []) (list.take n.toNat))
def qrV (K : Nat) (level : Int) (list : (List (List T))) : Option qaD := qdT K (.c0 level list)
noncomputable def qkE : Code := qcS prog 149
noncomputable def zeO : qq0 → List Fr
 | .c0 .. => [.code qkE]
 | .c1 .. => [.code (.loop (atC qkE [1,1,0,0,0])), .blk 0, .code (atC qkE [1,1,1])]
 | .c2 .. => [.code (atC qkE [1,1,1,0,0]), .code (atC qkE [1,1,1,0,1]), .code (atC qkE [1,1,1,1])]
def zg5 : qq0 → St
 | .c0 level list => St.init [(ti .i64 level), (tl 4 list rid)]
 | .c1 b4 level list n => ⟨[(0, vi .i64 level), (1, vl 4 list rid), (4, .c (C.ptr 4 0)), (5, vi .i64 n)], [(4, .var ((qaC b4).map C.t))], []⟩
 | .c2 b4 level list n => ⟨[(0, vi .i64 level), (1, vl 4 list rid), (4, .c (C.ptr 4 0)), (5, vi .i64 n)], [(4, .var ((qaC b4).map C.t))], []⟩
def qtZ (cx : Cx) (c : qq0) (r : qaD) : Prop := Wk prog cx (qd8 prog 149 [[0,0,1,4]] (TV.agg (qaC r))) (zeO c) .normal (zg5 c)
abbrev qt0 (K : Nat) : Prop := ∀ c r, qdT K c = some r → ∀ cx : Cx, cx.n = 34 → qtZ cx c r
theorem zg8 {K} (ih : qt0 K) {cx} (hn : cx.n = 34) {level list} {r} (h : qdT (K + 1) (.c0 level list) = some r) : qtZ cx (.c0 level list) r := by
 rw [qdT] at h
 exact wkG [rg1, rgG [oo, opI (.ln (list.length : Int)), oo], .pre [.tellB 4 [0,0,1,4], .keep [0,1,4,5] [4]]] hn (aC (qdI list rid) <| aN) (ih _ _ h cx hn)
theorem zg7 {K} (ih : qt0 K) {cx} (hn : cx.n = 34) {b4 level list n} {r} (h : qdT (K + 1) (.c1 b4 level list n) = some r) : qtZ cx (.c1 b4 level list n) r := by
 rw [qdT] at h
 rcases qa0 h with ⟨h1, h⟩ | ⟨h1, h⟩
 ·obtain ⟨x2, h3, h⟩ := qaU h
  obtain ⟨x4, h5, h⟩ := qaU h
  rcases qa0 h with ⟨h6, h⟩ | ⟨h6, h⟩
  ·exact wkG [.go, rgG [oo, oo, oo, .sb 10 true, oo, oo, oo, opI (.ix (qaC x2)), oo, opI (.call [[0,0,1,4]] [(TV.agg (qaC x2))] (TV.c (T.bool x4))), oo], bTr, rg3, .pre [.keep [0,1,4,5] [4]]] hn (aC h1 <| aC (qk2 h3 : 0 ≤ (wI6 (n - (1 : Int)))) <| aC (qn0 @qbC h3 : (list.map rid)[(wI6 (n - (1 : Int))).toNat]? = some (qaC x2)) <| aC (qr1 h5) <| aC h6 <| aN) (ih _ _ h cx hn)
  ·exact wkG [.go, rgG [oo, oo, oo, .sb 10 true, oo, oo, oo, opI (.ix (qaC x2)), oo, opI (.call [[0,0,1,4]] [(TV.agg (qaC x2))] (TV.c (T.bool x4))), oo], bFa, .pre [.keep [0,1,4,5] [4]]] hn (aC h1 <| aC (qk2 h3 : 0 ≤ (wI6 (n - (1 : Int)))) <| aC (qn0 @qbC h3 : (list.map rid)[(wI6 (n - (1 : Int))).toNat]? = some (qaC x2)) <| aC (qr1 h5) <| aC h6 <| aN) (ih _ _ h cx hn)
 ·exact wkG [.go, rgG [oo, oo, oo, .sb 10 false, oo, oo, oo, oo, oo, oo, oo], bFa, .pre [.keep [0,1,4,5] [4]]] hn (aC h1 <| aC rf <| aN) (ih _ _ h cx hn)
theorem zg6 {K} (_ : qt0 K) {cx} (hn : cx.n = 34) {b4 level list n} {r} (h : qdT (K + 1) (.c2 b4 level list n) = some r) : qtZ cx (.c2 b4 level list n) r := by
 rw [qdT] at h
 rcases qa0 h with ⟨h1, h⟩ | ⟨h1, h⟩
 ·have h := oinj h; subst h
  exact wkR [rg2, bTr, rg2] hn (aC h1 <| aN)
 ·rcases qa0 h with ⟨h2, h⟩ | ⟨h2, h⟩
  ·obtain ⟨x3, h4, h⟩ := qaU h
   have h := oinj h; subst h
   exact wkR [rg2, bFa, rg2, bTr, rgG [oo, opI (.ix (qaC x3)), oo, oo]] hn (aC h1 <| aC h2 <| aC (qk2 h4 : 0 ≤ (0 : Int)) <| aC (qn0 @qbC h4 : (list.map rid)[(0 : Int).toNat]? = some (qaC x3)) <| aN)
  ·obtain ⟨h3, h⟩ := qbV h
   have h := oinj h; subst h
   exact wkR [rg2, bFa, rg2, bFa, rgG [oo, oo, oo, oo, opI (.slM 0 n.toNat n.toNat ((list.take n.toNat).map rid)), oo, oo]] hn (aC h1 <| aC h2 <| aC r0 <| aC (⟨h3.1, rfl⟩ : 0 ≤ n ∧ n.toNat = n.toNat) <| aC (⟨h3.2.1, rfl⟩ : 0 ≤ n ∧ n.toNat = n.toNat) <| aC (Nat.zero_le _ : 0 ≤ n.toNat) <| aC h3.2.2.1 <| aC (zm8 _ h3.2.2.2 : n.toNat ≤ (list.map rid).length) <| aC (zgP _ _ _ : ((list.map rid).take n.toNat).drop 0 = (list.take n.toNat).map rid) <| aN)
theorem qqZ : ∀ K : Nat, qt0 K
 | 0, c, r, h => by rw [qdT] at h; cases h
 | K + 1, .c0 .., r, h => fun cx hn => zg8 (qqZ K) hn h
 | K + 1, .c1 .., r, h => fun cx hn => zg7 (qqZ K) hn h
 | K + 1, .c2 .., r, h => fun cx hn => zg6 (qqZ K) hn h
theorem qxG {K : Nat} {level : Int} {list : (List (List T))} {r : qaD} (h : qrV K level list = some r) : qc7 prog 149 [(ti .i64 level), (tl 4 list rid)] (TV.agg (qaC r)) :=
 qbL [[0,0,1,4]] (by kernel_rfl) (by simp) fun cx hn => qqZ K (.c0 level list) r h cx hn
open Go.Proofs.Tryz (prog)
inductive qr3 where
 | c0 (lists : (List (List (List T))))
 | c1 (t8 : (List (List (List T)))) (t9 : Int) (t10 : Int)
 | c2 (t8 : (List (List (List T)))) (t9 : Int) (t10 : Int) (t14 : (List (List T))) (t15 : Int) (t16 : Int)
 | c3 (r37 : (List (List T))) (t8 : (List (List (List T)))) (t9 : Int) (t10 : Int) (t14 : (List (List T))) (t15 : Int) (t16 : Int)
 | c4 (r37 : (List (List T))) (t8 : (List (List (List T)))) (t9 : Int) (t10 : Int) (t14 : (List (List T))) (t15 : Int) (t16 : Int)
 | c5 (r37 : (List (List T))) (t8 : (List (List (List T)))) (t9 : Int) (t10 : Int)
def qbQ (A : qaD → qaD → Option qaD) : Nat → qr3 → Option (List (List T))
 | 0, _ => none
 | K + 1, .c0 lists =>
  qbQ A K (.c1 lists (lists.length : Int) (0 : Int))
 | K + 1, .c1 t8 t9 t10 =>
  bif (decide (t10 < t9)) then
   (gi t8 t10).bind fun x2 =>
   qbQ A K (.c2 t8 t9 t10 x2 (x2.length : Int) (0 : Int))
  else
   some []
 | K + 1, .c2 t8 t9 t10 t14 t15 t16 =>
  bif (decide (t16 < t15)) then
   (gid qcC t14 t16).bind fun x2 =>
   bif (decide (t16 < (0 : Int))) then
    none
   else
    qbQ A K (.c3 ([(qaC x2)] : List (List T)) t8 t9 t10 t14 t15 t16)
  else
   qbQ A K (.c1 t8 t9 (wI6 (t10 + (1 : Int))))
 | K + 1, .c3 r37 t8 t9 t10 t14 t15 t16 =>
  qbQ A K (.c4 r37 t8 t9 t10 t14 t15 (wI6 (t16 + (1 : Int))))
 | K + 1, .c4 r37 t8 t9 t10 t14 t15 t16 =>
  bif (decide (t16 < t15)) then
   (gid qcC t14 t16).bind fun x2 =>
   bif (decide (t16 < ((r37.length : Nat) : Int))) then
    (gid qcC r37 t16).bind fun x5 =>
    (A x5 x2).bind fun x7 =>
    (gid qcC r37 t16).bind fun _ =>
    qbQ A K (.c3 (r37.set (t16.toNat) (qaC x7)) t8 t9 t10 t14 t15 t16)
   else
    gd ((r37 ++ ([(qaC x2)] : List (List T))).length * 64 ≤ 140737488355328) <|
    qbQ A K (.c3 (r37 ++ ([(qaC x2)] : List (List T))) t8 t9 t10 t14 t15 t16)
  else
   qbQ A K (.c5 r37 t8 t9 (wI6 (t10 + (1 : Int))))
 | K + 1, .c5 r37 t8 t9 t10 =>
  bif (decide (t10 < t9)) then
   (gi t8 t10).bind fun x2 =>
   qbQ A K (.c4 r37 t8 t9 t10 x2 (x2.length : Int) (0 : Int))
  else
   some r37
def qzX (K : Nat) (A : qaD → qaD → Option qaD) (lists : (List (List (List T)))) : Option (List (List T)) := qbQ A K (.c0 lists)
noncomputable def qdO : Code := qcS prog 150
noncomputable def zg4 : qr3 → List Fr
 | .c0 .. => [.code qdO]
 | .c1 .. => [.code (.loop (atC qdO [1,1,0,1,0,0])), .blk 0, .code (atC qdO [1,1,1])]
 | .c2 .. => [.code (.loop (atC qdO [1,1,0,1,0,0,1,1,0,0,1,1,0,0])), .blk 2, .blk 1, .code (atC qdO [1,1,0,1,0,0,1,1,1]), .lp (atC qdO [1,1,0,1,0,0]), .blk 0, .code (atC qdO [1,1,1])]
 | .c3 .. => [.code (atC qdO [1,1,0,1,0,0,1,1,0,0,1,1,0,0,1,1,1]), .lp (atC qdO [1,1,0,1,0,0,1,1,0,0,1,1,0,0]), .blk 2, .blk 1, .code (atC qdO [1,1,0,1,0,0,1,1,1]), .lp (atC qdO [1,1,0,1,0,0]), .blk 0, .code (atC qdO [1,1,1])]
 | .c4 .. => [.code (.loop (atC qdO [1,1,0,1,0,0,1,1,0,0,1,1,0,0])), .blk 2, .blk 1, .code (atC qdO [1,1,0,1,0,0,1,1,1]), .lp (atC qdO [1,1,0,1,0,0]), .blk 0, .code (atC qdO [1,1,1])]
 | .c5 .. => [.code (.loop (atC qdO [1,1,0,1,0,0])), .blk 0, .code (atC qdO [1,1,1])]
def zjZ : qr3 → St
 | .c0 lists => St.init [(tl 1 lists qdX)]
 | .c1 t8 t9 t10 => ⟨[(3, .c (C.nil)), (8, vl 1 t8 qdX), (9, vi .i64 t9), (10, vi .i64 t10)], [], []⟩
 | .c2 t8 t9 t10 t14 t15 t16 => ⟨[(3, .c (C.nil)), (8, vl 1 t8 qdX), (9, vi .i64 t9), (10, vi .i64 t10), (14, vl 4 t14 rid), (15, vi .i64 t15), (16, vi .i64 t16)], [], []⟩
 | .c3 r37 t8 t9 t10 t14 t15 t16 => ⟨[(3, .c (C.row 37 0 r37.length)), (8, vl 1 t8 qdX), (9, vi .i64 t9), (10, vi .i64 t10), (14, vl 4 t14 rid), (15, vi .i64 t15), (16, vi .i64 t16)], [(37, .row 50 4 (r37.map rid) 0)], []⟩
 | .c4 r37 t8 t9 t10 t14 t15 t16 => ⟨[(3, .c (C.row 37 0 r37.length)), (8, vl 1 t8 qdX), (9, vi .i64 t9), (10, vi .i64 t10), (14, vl 4 t14 rid), (15, vi .i64 t15), (16, vi .i64 t16)], [(37, .row 50 4 (r37.map rid) 0)], []⟩
 | .c5 r37 t8 t9 t10 => ⟨[(3, .c (C.row 37 0 r37.length)), (8, vl 1 t8 qdX), (9, vi .i64 t9), (10, vi .i64 t10)], [(37, .row 50 4 (r37.map rid) 0)], []⟩
def qnC (cx : Cx) (c : qr3) (r : (List (List T))) : Prop := Wk prog cx (qd8 prog 150 [[4]] (tl 4 r rid)) (zg4 c) .normal (zjZ c)
abbrev qnD (A : qaD → qaD → Option qaD) (K : Nat) : Prop := ∀ c r, qbQ A K c = some r → ∀ cx : Cx, cx.n = 41 → qnC cx c r
theorem zj6 {A : qaD → qaD → Option qaD} (_hA : ∀ y0 y1 r, A y0 y1 = some r → qc7 prog 90 [(TV.agg (qaC y0)), (TV.agg (qaC y1))] (TV.agg (qaC r))) {K} (ih : qnD A K) {cx} (hn : cx.n = 41) {lists} {r} (h : qbQ A (K + 1) (.c0 lists) = some r) : qnC cx (.c0 lists) r := by
 rw [qbQ] at h
 exact wkG [rg1, rg1, rgG [oo, opI (.ln (lists.length : Int)), oo], .pre [.keep [3,8,9,10] []]] hn (aC (qdI lists qdX) <| aN) (ih _ _ h cx hn)
theorem zj5 {A : qaD → qaD → Option qaD} (_hA : ∀ y0 y1 r, A y0 y1 = some r → qc7 prog 90 [(TV.agg (qaC y0)), (TV.agg (qaC y1))] (TV.agg (qaC r))) {K} (ih : qnD A K) {cx} (hn : cx.n = 41) {t8 t9 t10} {r} (h : qbQ A (K + 1) (.c1 t8 t9 t10) = some r) : qnC cx (.c1 t8 t9 t10) r := by
 rw [qbQ] at h
 rcases qa0 h with ⟨h1, h⟩ | ⟨h1, h⟩
 ·obtain ⟨x2, h3, h⟩ := qaU h
  exact wkG [.go, rg1, bTr, rgG [opI (.ix (qdX x2)), oo, oo], rgG [oo, opI (.ln (x2.length : Int)), oo], .pre [.keep [3,8,9,10,14,15,16] []]] hn (aC h1 <| aC (qb5 h3) <| aC (qfP qdX h3) <| aC (qdI x2 rid) <| aN) (ih _ _ h cx hn)
 ·have h := oinj h; subst h
  exact wkR [.go, rg1, bFa, rg2] hn (aC h1 <| aN)
theorem zj4 {A : qaD → qaD → Option qaD} (_hA : ∀ y0 y1 r, A y0 y1 = some r → qc7 prog 90 [(TV.agg (qaC y0)), (TV.agg (qaC y1))] (TV.agg (qaC r))) {K} (ih : qnD A K) {cx} (hn : cx.n = 41) {t8 t9 t10 t14 t15 t16} {r} (h : qbQ A (K + 1) (.c2 t8 t9 t10 t14 t15 t16) = some r) : qnC cx (.c2 t8 t9 t10 t14 t15 t16) r := by
 rw [qbQ] at h
 rcases qa0 h with ⟨h1, h⟩ | ⟨h1, h⟩
 ·obtain ⟨x2, h3, h⟩ := qaU h
  rcases qa0 h with ⟨h4, h⟩ | ⟨h4, h⟩
  ·cases h
  ·exact wkG [.go, rg1, bTr, rgG [oo, opI (.ix (qaC x2)), oo, oo, oo, oo], rg4, bFa, rgG [oo, oo, opI (.lit (([(qaC x2)] : List (List T)).map rid)), opI (.appN (([(qaC x2)] : List (List T)).map rid)), oo], .pre [.rl 3 0 ([(qaC x2)] : List (List T)).length, .keep [3,8,9,10,14,15,16] [37]]] hn (aC h1 <| aC (qk2 h3 : 0 ≤ t16) <| aC (qn0 @qbC h3 : (t14.map rid)[t16.toNat]? = some (qaC x2)) <| aC h4 <| aC (by kernel_rfl : [(T.int .i64 x2.Level), (T.bool x2.Const.Neg), (T.sl 1 (x2.Const.Abs.map qaF)), (T.sl 4 (x2.Coefs.map rid))] = (([(qaC x2)] : List (List T)).map rid).flatten) <| aC (qeH _ _ _ (by simp) : ((([(qaC x2)] : List (List T)).map rid).drop 0).take 1 = ([(qaC x2)] : List (List T)).map rid) <| aC (by simp : 0 < (([(qaC x2)] : List (List T)).map rid).length) <| aC (by simp : (([(qaC x2)] : List (List T)).map rid).length * 64 ≤ 140737488355328) <| aC (by simp [maxLen] : (([(qaC x2)] : List (List T)).map rid).length ≤ maxLen) <| aC r0 <| aC (by simp : (([(qaC x2)] : List (List T)).map rid).length = ([(qaC x2)] : List (List T)).length) <| aN) (ih _ _ h cx hn)
 ·exact wkG [.go, rg1, bFa, rg2, .pre [.keep [3,8,9,10] []]] hn (aC h1 <| aN) (ih _ _ h cx hn)
theorem zj3 {A : qaD → qaD → Option qaD} (_hA : ∀ y0 y1 r, A y0 y1 = some r → qc7 prog 90 [(TV.agg (qaC y0)), (TV.agg (qaC y1))] (TV.agg (qaC r))) {K} (ih : qnD A K) {cx} (hn : cx.n = 41) {r37 t8 t9 t10 t14 t15 t16} {r} (h : qbQ A (K + 1) (.c3 r37 t8 t9 t10 t14 t15 t16) = some r) : qnC cx (.c3 r37 t8 t9 t10 t14 t15 t16) r := by
 rw [qbQ] at h
 exact wkG [rg2, .pre [.rl 3 0 r37.length, .keep [3,8,9,10,14,15,16] [37]]] hn (aC r0 <| aC (lq r37) <| aN) (ih _ _ h cx hn)
theorem zj2 {A : qaD → qaD → Option qaD} (hA : ∀ y0 y1 r, A y0 y1 = some r → qc7 prog 90 [(TV.agg (qaC y0)), (TV.agg (qaC y1))] (TV.agg (qaC r))) {K} (ih : qnD A K) {cx} (hn : cx.n = 41) {r37 t8 t9 t10 t14 t15 t16} {r} (h : qbQ A (K + 1) (.c4 r37 t8 t9 t10 t14 t15 t16) = some r) : qnC cx (.c4 r37 t8 t9 t10 t14 t15 t16) r := by
 rw [qbQ] at h
 rcases qa0 h with ⟨h1, h⟩ | ⟨h1, h⟩
 ·obtain ⟨x2, h3, h⟩ := qaU h
  rcases qa0 h with ⟨h4, h⟩ | ⟨h4, h⟩
  ·obtain ⟨x5, h6, h⟩ := qaU h
   obtain ⟨x7, h8, h⟩ := qaU h
   obtain ⟨x9, h10, h⟩ := qaU h
   exact wkG [.go, rg1, bTr, rgG [oo, opI (.ix (qaC x2)), oo, oo, oo, oo], rg4, bTr, .draw [.mv, .p, .mv, .p, .ir, (.ld (qaC x5)), .p, (.call [[0,0,1,4], [0,0,1,4]] [(TV.agg (qaC x5)), (TV.agg (qaC x2))] (TV.agg (qaC x7)))] [.op .ir, opI (.st (qaC x9) ((r37.set (t16.toNat) (qaC x7)).map rid))], .pre [.rl 3 0 (r37.set (t16.toNat) (qaC x7)).length, .keep [3,8,9,10,14,15,16] [37]]] hn (aC h1 <| aC (qk2 h3 : 0 ≤ t16) <| aC (qn0 @qbC h3 : (t14.map rid)[t16.toNat]? = some (qaC x2)) <| aC h4 <| aC (qk2 h6 : 0 ≤ t16) <| aC (q7T h6 (by simp) : t16 < ((r37.length : Nat) : Int)) <| aC (q7S @qbC h6 : (r37.map rid)[(0 + t16.toNat)]? = some (qaC x5)) <| aC (hA _ _ _ h8 : qc7 prog 90 [(TV.agg (qaC x5)), (TV.agg (qaC x2))] (TV.agg (qaC x7))) <| aC (qk2 h10 : 0 ≤ t16) <| aC (q7T h10 (by simp) : t16 < ((r37.length : Nat) : Int)) <| aC (q7S @qbC h10 : (r37.map rid)[(0 + t16.toNat)]? = some (qaC x9)) <| aC (qe8 _ _ (qaC x7) _ : (r37.map rid).set (0 + t16.toNat) (qdH (qaC x9) 0 [(T.int .i64 x7.Level), (T.bool x7.Const.Neg), (T.sl 1 (x7.Const.Abs.map qaF)), (T.sl 4 (x7.Coefs.map rid))]) = (r37.set (t16.toNat) (qaC x7)).map rid) <| aC (Nat.zero_le _ : 0 ≤ (0 + t16.toNat)) <| aC r0 <| aC (by simp : r37.length = (r37.set (t16.toNat) (qaC x7)).length) <| aN) (ih _ _ h cx hn)
  ·obtain ⟨h5, h⟩ := qbV h
   exact wkG [.go, rg1, bTr, rgG [oo, opI (.ix (qaC x2)), oo, oo, oo, oo], rg4, bFa, .pre [.keep [3,7,8,9,10,14,15,16] [7,37]], rgG [oo, oo, opI (.lit (([(qaC x2)] : List (List T)).map rid)), .appR (([(qaC x2)] : List (List T)).map rid) ((r37 ++ ([(qaC x2)] : List (List T))).map rid), oo], .pre [.rl 3 0 (r37 ++ ([(qaC x2)] : List (List T))).length, .keep [3,8,9,10,14,15,16] [37]]] hn (aC h1 <| aC (qk2 h3 : 0 ≤ t16) <| aC (qn0 @qbC h3 : (t14.map rid)[t16.toNat]? = some (qaC x2)) <| aC h4 <| aC (by kernel_rfl : [(T.int .i64 x2.Level), (T.bool x2.Const.Neg), (T.sl 1 (x2.Const.Abs.map qaF)), (T.sl 4 (x2.Coefs.map rid))] = (([(qaC x2)] : List (List T)).map rid).flatten) <| aC (by simp : r37.length = (r37.map rid).length) <| aC (qeH _ _ _ (by simp) : ((([(qaC x2)] : List (List T)).map rid).drop 0).take 1 = ([(qaC x2)] : List (List T)).map rid) <| aC (qk5 _ _ _ : r37.map rid ++ ([(qaC x2)] : List (List T)).map rid = (r37 ++ ([(qaC x2)] : List (List T))).map rid) <| aC ((qcZ _ _).symm ▸ h5 : ((r37 ++ ([(qaC x2)] : List (List T))).map rid).length * 64 ≤ 140737488355328) <| aC ((qcZ _ _).symm ▸ room (by decide) h5 : ((r37 ++ ([(qaC x2)] : List (List T))).map rid).length ≤ maxLen) <| aC r0 <| aC (by simp : ((r37 ++ ([(qaC x2)] : List (List T))).map rid).length = (r37 ++ ([(qaC x2)] : List (List T))).length) <| aN) (ih _ _ h cx hn)
 ·exact wkG [.go, rg1, bFa, rg2, .pre [.rl 3 0 r37.length, .keep [3,8,9,10] [37]]] hn (aC h1 <| aC r0 <| aC (lq r37) <| aN) (ih _ _ h cx hn)
theorem zj1 {A : qaD → qaD → Option qaD} (_hA : ∀ y0 y1 r, A y0 y1 = some r → qc7 prog 90 [(TV.agg (qaC y0)), (TV.agg (qaC y1))] (TV.agg (qaC r))) {K} (ih : qnD A K) {cx} (hn : cx.n = 41) {r37 t8 t9 t10} {r} (h : qbQ A (K + 1) (.c5 r37 t8 t9 t10) = some r) : qnC cx (.c5 r37 t8 t9 t10) r := by
 rw [qbQ] at h
 rcases qa0 h with ⟨h1, h⟩ | ⟨h1, h⟩
 ·obtain ⟨x2, h3, h⟩ := qaU h
  exact wkG [.go, rg1, bTr, rgG [opI (.ix (qdX x2)), oo, oo], rgG [oo, opI (.ln (x2.length : Int)), oo], .pre [.rl 3 0 r37.length, .keep [3,8,9,10,14,15,16] [37]]] hn (aC h1 <| aC (qb5 h3) <| aC (qfP qdX h3) <| aC (qdI x2 rid) <| aC r0 <| aC (lq r37) <| aN) (ih _ _ h cx hn)
 ·have h := oinj h; subst h
  exact wkR [.go, rg1, bFa, rgG [oo, oo, .snap 2 (max 0 (0 + r37.length)) (r37.map rid)]] hn (aC h1 <| aC (qeH _ _ _ (by simp) : ((r37.map rid).drop 0).take r37.length = r37.map rid) <| aC (rfl : (max 0 (0 + r37.length)) = (max 0 (0 + r37.length))) <| aN)
theorem qkY {A : qaD → qaD → Option qaD} (hA : ∀ y0 y1 r, A y0 y1 = some r → qc7 prog 90 [(TV.agg (qaC y0)), (TV.agg (qaC y1))] (TV.agg (qaC r))) : ∀ K : Nat, qnD A K
 | 0, c, r, h => by rw [qbQ] at h; cases h
 | K + 1, .c0 .., r, h => fun cx hn => zj6 hA (qkY hA K) hn h
 | K + 1, .c1 .., r, h => fun cx hn => zj5 hA (qkY hA K) hn h
 | K + 1, .c2 .., r, h => fun cx hn => zj4 hA (qkY hA K) hn h
 | K + 1, .c3 .., r, h => fun cx hn => zj3 hA (qkY hA K) hn h
 | K + 1, .c4 .., r, h => fun cx hn => zj2 hA (qkY hA K) hn h
 | K + 1, .c5 .., r, h => fun cx hn => zj1 hA (qkY hA K) hn h
theorem zbC {K : Nat} {A : qaD → qaD → Option qaD} (hA : ∀ y0 y1 r, A y0 y1 = some r → qc7 prog 90 [(TV.agg (qaC y0)), (TV.agg (qaC y1))] (TV.agg (qaC r))) {lists : (List (List (List T)))} {r : (List (List T))} (h : qzX K A lists = some r) : qc7 prog 150 [(tl 1 lists qdX)] (tl 4 r rid) :=
 qbL [[4]] (by kernel_rfl) (by simp) fun cx hn => qkY hA K (.c0 lists) r h cx hn
open Go.Proofs.Tryz (prog)
inductive qr9 where
 | c0 (p : qaD) (q : qaD)
def qgM : Nat → qr9 → Option qaD
 | 0, _ => none
 | K + 1, .c0 p q =>
  bif (decide ((max p.Level q.Level) = (0 : Int))) then
   (qrS K p.Const q.Const).bind fun x2 =>
   some (qaD.mk (0 : Int) x2 [])
  else
   (qr7 K p (max p.Level q.Level)).bind fun x2 =>
   (qr7 K q (max p.Level q.Level)).bind fun x4 =>
   (qzX K (fun y0 y1 => qgM K (.c0 y0 y1)) ([x2, x4] : List (List (List T)))).bind fun x6 =>
   (qrV K (max p.Level q.Level) x6).bind fun x8 =>
   some x8
def qrO (K : Nat) (p : qaD) (q : qaD) : Option qaD := qgM K (.c0 p q)
noncomputable def zeS : Code := qcS prog 90
noncomputable def zg9 : qr9 → List Fr
 | .c0 .. => [.code zeS]
def zj7 : qr9 → St
 | .c0 p q => St.init [(TV.agg (qaC p)), (TV.agg (qaC q))]
def q8L (cx : Cx) (c : qr9) (r : qaD) : Prop := Wk prog cx (qd8 prog 90 [[0,0,1,4]] (TV.agg (qaC r))) (zg9 c) .normal (zj7 c)
abbrev qzY (K : Nat) : Prop := ∀ c r, qgM K c = some r → ∀ cx : Cx, cx.n = 29 → q8L cx c r
theorem zeR (K : Nat) (ih : qzY K) {p : qaD} {q : qaD} {r : qaD} (h : qgM K (.c0 p q) = some r) : qc7 prog 90 [(TV.agg (qaC p)), (TV.agg (qaC q))] (TV.agg (qaC r)) :=
 qbL [[0,0,1,4]] (by kernel_rfl) (by simp) fun cx hn => ih (.c0 p q) r h cx hn
theorem zj9 {K} (ih : qzY K) {cx} (hn : cx.n = 29) {p q} {r} (h : qgM (K + 1) (.c0 p q) = some r) : q8L cx (.c0 p q) r := by
 rw [qgM] at h
 rcases qa0 h with ⟨h1, h⟩ | ⟨h1, h⟩
 ·obtain ⟨x2, h3, h⟩ := qaU h
  have h := oinj h; subst h
  exact wkR [rg3, rg6, rg2, bTr, rgG [oo, oo, oo, oo, opI (.call [[0,1], [0,1]] [(TV.agg (qaK p.Const)), (TV.agg (qaK q.Const))] (TV.agg (qaK x2))), oo, oo]] hn (aC h1 <| aC (qp3 h3) <| aN)
 ·obtain ⟨x2, h3, h⟩ := qaU h
  obtain ⟨x4, h5, h⟩ := qaU h
  obtain ⟨x6, h7, h⟩ := qaU h
  obtain ⟨x8, h9, h⟩ := qaU h
  have h := oinj h; subst h
  exact wkR [rg3, rg6, rg2, bFa, .draw [.p, .p, .p, (.call [[0,0,1,4], [0]] [(TV.agg (qaC p)), (TV.c (T.int .i64 (max p.Level q.Level)))] (tl 4 x2 rid)), .p, .p, (.call [[0,0,1,4], [0]] [(TV.agg (qaC q)), (TV.c (T.int .i64 (max p.Level q.Level)))] (tl 4 x4 rid)), (.litT (([x2, x4] : List (List (List T))).map qdX)), (.call [[1]] [(TV.c (T.sl 1 (([x2, x4] : List (List (List T))).map qdX)))] (tl 4 x6 rid))] [opI (.call [[0], [4]] [(TV.c (T.int .i64 (max p.Level q.Level))), (tl 4 x6 rid)] (TV.agg (qaC x8))), .op .p]] hn (aC h1 <| aC (qv6 h3) <| aC (qv6 h5) <| aC (by kernel_rfl : [(T.sl 4 (x2.map rid)), (T.sl 4 (x4.map rid))] = (([x2, x4] : List (List (List T))).map qdX).flatten) <| aC (zbC (fun _ _ _ h => zeR K ih h) h7 : qc7 prog 150 [(TV.c (T.sl 1 (([x2, x4] : List (List (List T))).map qdX)))] (tl 4 x6 rid)) <| aC (qxG h9) <| aN)
theorem q2X : ∀ K : Nat, qzY K
 | 0, c, r, h => by rw [qgM] at h; cases h
 | K + 1, .c0 .., r, h => fun cx hn => zj9 (q2X K) hn h
theorem zbH {K : Nat} {p : qaD} {q : qaD} {r : qaD} (h : qrO K p q = some r) : qc7 prog 90 [(TV.agg (qaC p)), (TV.agg (qaC q))] (TV.agg (qaC r)) :=
 qbL [[0,0,1,4]] (by kernel_rfl) (by simp) fun cx hn => q2X K (.c0 p q) r h cx hn
inductive P where
  | k (c : Int)
  | p (lv : Nat) (cs : List P)
mutual
def P.enc : P → qaD
  | .k c => ⟨0, mkI c, []⟩
  | .p lv cs => ⟨(lv : Int), ⟨false, []⟩, P.raws cs⟩
def P.raws : List P → List (List T)
  | [] => []
  | c :: cs => qaC c.enc :: P.raws cs
end
mutual
def P.ev (ρ : Nat → Rat) : P → Rat
  | .k c => (c : Rat)
  | .p lv cs => P.evs ρ (ρ lv) cs
def P.evs (ρ : Nat → Rat) (x : Rat) : List P → Rat
  | [] => 0
  | c :: cs => c.ev ρ + x * P.evs ρ x cs
end
def P.isZ : P → Bool
  | .k c => decide (c = 0)
  | .p _ _ => false
mutual
def P.C : Nat → P → Prop
  | _, .k _ => True
  | L, .p lv cs => 1 ≤ lv ∧ lv ≤ L ∧ 2 ≤ cs.length ∧ P.Cs (lv - 1) cs ∧ ∀ z, cs.getLast? = some z → z.isZ = false
def P.Cs : Nat → List P → Prop
  | _, [] => True
  | L, c :: cs => P.C L c ∧ P.Cs L cs
end
mutual
def P.W (n m : Nat) : P → Prop
  | .k c => (c.natAbs : Int) < 4294967296 ^ n
  | .p _ cs => cs.length ≤ m ∧ P.Ws n m cs
def P.Ws (n m : Nat) : List P → Prop
  | [] => True
  | c :: cs => P.W n m c ∧ P.Ws n m cs
end
theorem qzZ : ∀ cs : List P, P.raws cs = cs.map fun c => qaC c.enc
  | [] => rfl
  | c :: cs => by rw [P.raws, List.map_cons, qzZ cs]
theorem qe3 (cs : List P) : (P.raws cs).length = cs.length := by rw [qzZ, List.length_map]
theorem zhG (a b : List P) : P.raws (a ++ b) = P.raws a ++ P.raws b := by simp only [qzZ, List.map_append]
theorem zs7 (a : List P) (n : Nat) : (P.raws a).take n = P.raws (a.take n) := by simp only [qzZ, List.map_take]
theorem zmV (a : List P) (n : Nat) (x : P) : (P.raws a).set n (qaC x.enc) = P.raws (a.set n x) := by simp only [qzZ, List.map_set]
theorem qj7 {cs : List P} {i : Nat} {c : P} (h : cs[i]? = some c) : gid qcC (P.raws cs) (i : Int) = some c.enc := by
  unfold gid gi
  rw [if_pos (by omega), Int.toNat_natCast, qzZ, List.getElem?_map, h]
  exact q7Z c.enc
theorem qtF {L : Nat} : ∀ {cs : List P}, P.Cs L cs → ∀ c ∈ cs, P.C L c
  | [], _, c, h => by cases h
  | x :: cs, hc, c, h => by
    rw [P.Cs] at hc
    rcases List.mem_cons.1 h with rfl | h
    · exact hc.1
    · exact qtF hc.2 c h
theorem zwF {L : Nat} : ∀ {cs : List P}, (∀ c ∈ cs, P.C L c) → P.Cs L cs
  | [], _ => by rw [P.Cs]; trivial
  | x :: cs, h => by rw [P.Cs]; exact ⟨h x (by simp), zwF fun c hc => h c (by simp [hc])⟩
theorem qxA {n m : Nat} : ∀ {cs : List P}, P.Ws n m cs → ∀ c ∈ cs, P.W n m c
  | [], _, c, h => by cases h
  | x :: cs, hc, c, h => by
    rw [P.Ws] at hc
    rcases List.mem_cons.1 h with rfl | h
    · exact hc.1
    · exact qxA hc.2 c h
theorem zwA {n m : Nat} : ∀ {cs : List P}, (∀ c ∈ cs, P.W n m c) → P.Ws n m cs
  | [], _ => by rw [P.Ws]; trivial
  | x :: cs, h => by rw [P.Ws]; exact ⟨h x (by simp), zwA fun c hc => h c (by simp [hc])⟩
theorem zuJ {L L' : Nat} (h : L ≤ L') : ∀ {p : P}, P.C L p → P.C L' p
  | .k _, _ => by rw [P.C]; trivial
  | .p lv cs, hp => by
    rw [P.C] at hp ⊢
    exact ⟨hp.1, by omega, hp.2.2⟩
mutual
theorem zpB {n n' m : Nat} (h : n ≤ n') : ∀ {p : P}, P.W n m p → P.W n' m p
  | .k c, hp => by rw [P.W] at hp ⊢; have := qw9 h; omega
  | .p lv cs, hp => by rw [P.W] at hp ⊢; exact ⟨hp.1, zuG h hp.2⟩
theorem zuG {n n' m : Nat} (h : n ≤ n') : ∀ {cs : List P}, P.Ws n m cs → P.Ws n' m cs
  | [], _ => by rw [P.Ws]; trivial
  | c :: cs, hp => by rw [P.Ws] at hp ⊢; exact ⟨zpB h hp.1, zuG h hp.2⟩
end
def P.lev : P → Nat
  | .k _ => 0
  | .p lv _ => lv
theorem zo1 (p : P) : p.enc.Level = (p.lev : Int) := by cases p <;> rfl
theorem zuK {L : Nat} {p : P} (h : P.C L p) : p.lev ≤ L := by
  cases p with
  | k c => exact Nat.zero_le _
  | p lv cs => rw [P.C] at h; exact h.2.1
theorem qrL {n : Nat} {c : Int} (h : (c.natAbs : Int) < 4294967296 ^ n) (hn : n ≤ 1000000) : Sm (mkI c) := qyJ (n := n) (by omega) (by omega) (by omega)
theorem q2Q {L n m : Nat} {p : P} (hC : P.C L p) (hW : P.W n m p) (hn : n ≤ 1000000) : Ev (fun K => qrU K p.enc) p.isZ := by
  refine qaW ?_
  simp only [qrU, qmI]
  cases p with
  | k c =>
    rw [P.W] at hW
    have hs := qrL hW hn
    have := qhQ hs.1 (by have := hs.2; omega)
    rw [qdQ] at this
    refine ev_t rfl (qaR this (qe4 (qa6 _) ?_))
    show decide (cmpI c 0 = 0) = decide (c = 0)
    have := qm3 c 0
    congr 1
    apply propext
    omega
  | p lv cs =>
    rw [P.C] at hC
    refine ev_f ?_ (qa6 _)
    show decide ((lv : Int) = 0) = false
    simp; omega
def quW : List P → List P
  | [] => []
  | c :: cs => match quW cs with
    | [] => if c.isZ then [] else [c]
    | l => c :: l
theorem zdI : ∀ (l : List P) (z : P), z.isZ = true → quW (l ++ [z]) = quW l
  | [], z, h => by simp [quW, h]
  | c :: l, z, h => by simp only [List.cons_append, quW, zdI l z h]
theorem q2G : ∀ (l : List P) (z : P), z.isZ = false → quW (l ++ [z]) = l ++ [z]
  | [], z, h => by simp [quW, h]
  | c :: l, z, h => by
    simp only [List.cons_append, quW, q2G l z h]
    cases hl : l ++ [z] with
    | nil => simp at hl
    | cons a b => rfl
theorem ev_isZ {z : P} (h : z.isZ = true) (ρ : Nat → Rat) : z.ev ρ = 0 := by
  cases z with
  | k c => rw [P.ev]; have : c = 0 := by simpa [P.isZ] using h
           subst this; rfl
  | p lv cs => simp [P.isZ] at h
theorem zqK (ρ : Nat → Rat) (x : Rat) : ∀ l : List P, P.evs ρ x (quW l) = P.evs ρ x l
  | [] => rfl
  | c :: l => by
    have ih := zqK ρ x l
    rw [quW]
    split
    · rename_i h
      rw [h, P.evs] at ih
      split
      · rename_i hz
        rw [P.evs, P.evs, ← ih, ev_isZ hz]; grind
      · rw [P.evs, P.evs, P.evs, ← ih]
    · rw [P.evs, P.evs, ih]
theorem q2H : ∀ {l : List P} {c : P}, c ∈ quW l → c ∈ l
  | [], c, h => by simp [quW] at h
  | a :: l, c, h => by
    rw [quW] at h
    split at h
    · split at h
      · cases h
      · simpa using Or.inl (List.mem_singleton.1 h)
    · rcases List.mem_cons.1 h with rfl | h
      · simp
      · exact List.mem_cons_of_mem _ (q2H h)
theorem znW : ∀ l : List P, (quW l).length ≤ l.length
  | [] => Nat.le_refl _
  | a :: l => by
    have := znW l
    rw [quW]
    split
    · split <;> simp
    · simp only [List.length_cons]; omega
theorem zlY : ∀ {l : List P} {z : P}, (quW l).getLast? = some z → z.isZ = false
  | [], z, h => by simp [quW] at h
  | a :: l, z, h => by
    rw [quW] at h
    split at h
    · split at h
      · simp at h
      · rename_i hz
        simp at h; subst h; simpa using hz
    · rename_i hne
      cases hl : quW l with
      | nil => exact absurd hl hne
      | cons b m =>
        rw [hl] at h
        exact zlY (l := l) (by rw [hl]; simpa using h)
def zcN (lv : Nat) (cs : List P) : P := match quW cs with
  | [] => .k 0
  | [c] => c
  | l => .p lv l
theorem zvJ (ρ : Nat → Rat) (lv : Nat) (cs : List P) : (zcN lv cs).ev ρ = P.evs ρ (ρ lv) cs := by
  rw [← zqK]
  unfold zcN
  split
  · rename_i h; rw [h, P.evs, P.ev]; rfl
  · rename_i c h; rw [h, P.evs, P.evs]; grind
  · rw [P.ev]
theorem zyU {lv : Nat} {cs : List P} (h1 : 1 ≤ lv) (h : P.Cs (lv - 1) cs) : P.C lv (zcN lv cs) := by
  unfold zcN
  split
  · rw [P.C]; trivial
  · rename_i c hc
    exact zuJ (by omega) (qtF h c (q2H (by rw [hc]; simp)))
  · rename_i h2 h3
    rw [P.C]
    refine ⟨h1, Nat.le_refl _, ?_, zwF fun c hc => qtF h c (q2H hc), fun z hz => zlY hz⟩
    cases hl : quW cs with
    | nil => exact absurd hl h2
    | cons a l => cases l with
      | nil => exact absurd hl (h3 a)
      | cons b l => simp
theorem zyT {n m lv : Nat} {cs : List P} (h : P.Ws n m cs) (hm : cs.length ≤ m) : P.W n m (zcN lv cs) := by
  unfold zcN
  split
  · rw [P.W]; have := qfV n; simpa using this
  · rename_i c hc
    exact qxA h c (q2H (by rw [hc]; simp))
  · rw [P.W]
    exact ⟨Nat.le_trans (znW cs) hm, zwA fun c hc => qxA h c (q2H hc)⟩
theorem q2R (b4 : qaD) {lv : Nat} {cs : List P} {n : Nat} (hn : n ≤ cs.length) (ht : quW cs = cs.take n) : Ev (fun K => qdT K (.c2 b4 (lv : Int) (P.raws cs) (n : Int))) (zcN lv cs).enc := by
  refine qaW ?_
  simp only [qdT]
  unfold zcN
  rw [ht]
  cases n with
  | zero => exact ev_t rfl (qe4 (qa6 _) (by rw [List.take_zero]; simp only [P.enc, q3I]))
  | succ n =>
    cases n with
    | zero =>
      refine ev_f (by simp) (ev_t rfl ?_)
      obtain ⟨c, hc⟩ : ∃ c, cs[0]? = some c := ⟨_, List.getElem?_eq_getElem (by omega)⟩
      refine qb8 (qj7 (i := 0) hc) (qe4 (qa6 _) ?_)
      cases cs with
      | nil => simp at hc
      | cons a l => simp at hc; subst hc; rfl
    | succ n =>
      refine ev_f (by simp; omega) (ev_f (by simp; omega) (qgA (by rw [qe3]; omega) (qe4 (qa6 _) ?_)))
      rw [Int.toNat_natCast, zs7]
      cases cs with
      | nil => simp at hn
      | cons a l => cases l with
        | nil => simp at hn
        | cons b l => rfl
theorem q2S (b4 : qaD) {lv L N m : Nat} {cs : List P} (hC : P.Cs L cs) (hW : P.Ws N m cs) (hN : N ≤ 1000000) (hl : cs.length < 1000000000) : ∀ n : Nat, n ≤ cs.length → quW cs = quW (cs.take n) →
    Ev (fun K => qdT K (.c1 b4 (lv : Int) (P.raws cs) (n : Int))) (zcN lv cs).enc
  | 0, _, ht => by
    refine qaW ?_
    simp only [qdT]
    exact ev_f rfl (q2R b4 (by omega) (by rw [ht]; rfl))
  | n + 1, hn, ht => by
    obtain ⟨c, hc⟩ : ∃ c, cs[n]? = some c := ⟨_, List.getElem?_eq_getElem (by omega)⟩
    have hmem : c ∈ cs := List.mem_of_getElem? hc
    have htk : cs.take (n + 1) = cs.take n ++ [c] := by rw [List.take_add_one, hc]; rfl
    have hw : wI6 (((n + 1 : Nat) : Int) - 1) = (n : Int) := by rw [qdF (by omega)]; omega
    refine qaW ?_
    simp only [qdT, hw]
    refine ev_t (decide_eq_true (by omega)) (qb8 (qj7 hc) (qaR (q2Q (qtF hC c hmem) (qxA hW c hmem) hN) ?_))
    cases hz : c.isZ with
    | true => exact ev_t rfl (q2S b4 hC hW hN hl n (by omega) (by rw [ht, htk, zdI _ _ hz]))
    | false => exact ev_f rfl (q2R b4 hn (by rw [ht, htk, q2G _ _ hz]))
theorem q2T {lv L N m : Nat} {cs : List P} (hC : P.Cs L cs) (hW : P.Ws N m cs) (hN : N ≤ 1000000) (hl : cs.length < 1000000000) : Ev (fun K => qrV K (lv : Int) (P.raws cs)) (zcN lv cs).enc := by
  refine qaW ?_
  simp only [qrV, qdT]
  have := q2S ⟨0, ⟨false, []⟩, []⟩ (lv := lv) hC hW hN hl cs.length (Nat.le_refl _) (by rw [List.take_length])
  simp only [qe3]
  exact this
def qh5 (p : P) (lv : Nat) : List P := match p with
  | .k c => [.k c]
  | .p l cs => if l = lv then cs else [.p l cs]
theorem q0S {L n m : Nat} {p : P} {lv : Nat} (hC : P.C L p) (hW : P.W n m p) (hm : m ≤ 1000000) (h1 : 1 ≤ lv) : Ev (fun K => qr7 K p.enc (lv : Int)) (P.raws (qh5 p lv)) := by
  refine qaW ?_
  simp only [qr7, qlI]
  cases p with
  | k c => exact ev_f (decide_eq_false (by show ¬ ((0 : Int) = (lv : Int)); omega)) (qa6 _)
  | p l cs =>
    rw [P.W] at hW
    by_cases e : l = lv
    · subst e
      refine ev_t (by simp [P.enc]) (ev_t (by simp; omega) (qgA ?_ (qe4 (qa6 _) ?_)))
      · show (P.raws cs).length * 64 ≤ _
        rw [qe3]; omega
      · simp [qh5, P.enc]
    · refine ev_f (decide_eq_false (by show ¬ ((l : Int) = (lv : Int)); omega)) (qe4 (qa6 _) ?_)
      simp [qh5, e, P.raws]
theorem zrF {p : P} {lv : Nat} (hC : P.C lv p) (h1 : 1 ≤ lv) : P.Cs (lv - 1) (qh5 p lv) := by
  cases p with
  | k c => rw [qh5, P.Cs, P.Cs, P.C]; exact ⟨trivial, trivial⟩
  | p l cs =>
    rw [P.C] at hC
    rw [qh5]
    split
    · rename_i e; subst e; exact hC.2.2.2.1
    · rw [P.Cs, P.Cs, P.C]
      exact ⟨⟨hC.1, by omega, hC.2.2⟩, trivial⟩
theorem zrE {n m : Nat} {p : P} {lv : Nat} (hW : P.W n m p) (hm : 1 ≤ m) : P.Ws n m (qh5 p lv) ∧ (qh5 p lv).length ≤ m := by
  cases p with
  | k c => rw [qh5, P.Ws, P.Ws]; exact ⟨⟨hW, trivial⟩, hm⟩
  | p l cs =>
    rw [qh5]
    split
    · rw [P.W] at hW; exact ⟨hW.2, hW.1⟩
    · rw [P.Ws, P.Ws]; exact ⟨⟨hW, trivial⟩, hm⟩
theorem zo4 (ρ : Nat → Rat) {p : P} {lv : Nat} : P.evs ρ (ρ lv) (qh5 p lv) = p.ev ρ := by
  cases p with
  | k c => rw [qh5, P.evs, P.evs]; grind
  | p l cs =>
    rw [qh5]
    split
    · rename_i e; subst e; rw [P.ev]
    · rw [P.evs, P.evs]; grind
theorem zt2 (p : P) (lv : Nat) {L : Nat} (hC : P.C L p) : qh5 p lv ≠ [] := by
  cases p with
  | k c => simp [qh5]
  | p l cs =>
    rw [P.C] at hC
    rw [qh5]
    split
    · intro e; rw [e] at hC; have := hC.2.2.1; simp at this
    · simp
abbrev PA := qaD → qaD → Option qaD
def EvH {β : Type} (H : PA → Prop) (f : PA → Nat → Option β) (r : β) : Prop := ∃ K0, ∀ K, K0 ≤ K → ∀ A, H A → f A K = some r
section
variable {β γ : Type} {H : PA → Prop}
theorem zvP (r : β) : EvH H (fun _ _ => some r) r := ⟨0, fun _ _ _ _ => rfl⟩
theorem qp4 {f : PA → Nat → Option β} {r : β} (h : EvH H (fun A K => f A (K + 1)) r) : EvH H f r := by
  obtain ⟨K0, h⟩ := h
  refine ⟨K0 + 1, fun K hK A hA => ?_⟩
  obtain ⟨k, rfl⟩ : ∃ k, K = k + 1 := ⟨K - 1, by omega⟩
  exact h k (by omega) A hA
theorem q7U {f : Option γ} {g : PA → Nat → γ → Option β} {x : γ} {r : β} (hf : f = some x) (hg : EvH H (fun A K => g A K x) r) : EvH H (fun A K => f.bind (g A K)) r := by subst hf; exact hg
theorem zvQ {f : PA → Option γ} {g : PA → Nat → γ → Option β} {x : γ} {r : β} (hf : ∀ A, H A → f A = some x) (hg : EvH H (fun A K => g A K x) r) : EvH H (fun A K => (f A).bind (g A K)) r := by
  obtain ⟨K0, h⟩ := hg
  refine ⟨K0, fun K hK A hA => ?_⟩
  show (f A).bind (g A K) = some r
  rw [hf A hA]
  exact h K hK A hA
theorem zrZ {b : Bool} {f g : PA → Nat → Option β} {r : β} (hb : b = true) (h : EvH H f r) : EvH H (fun A K => bif b then f A K else g A K) r := by subst hb; exact h
theorem zr0 {b : Bool} {f g : PA → Nat → Option β} {r : β} (hb : b = false) (h : EvH H g r) : EvH H (fun A K => bif b then f A K else g A K) r := by subst hb; exact h
theorem zxF {p : Prop} [Decidable p] {f : PA → Nat → Option β} {r : β} (hp : p) (h : EvH H f r) : EvH H (fun A K => gd p (f A K)) r := by
  obtain ⟨K0, h⟩ := h
  exact ⟨K0, fun K hK A hA => by show gd p (f A K) = some r; unfold gd; rw [if_pos hp]; exact h K hK A hA⟩
theorem ztX {f : PA → Nat → Option β} {r : β} {A : Nat → PA} (h : EvH H f r) (hA : ∃ K1, ∀ K, K1 ≤ K → H (A K)) : Ev (fun K => f (A K) K) r := by
  obtain ⟨K0, h⟩ := h
  obtain ⟨K1, hA⟩ := hA
  exact ⟨max K0 K1, fun K hK => h K (by omega) (A K) (hA K (by omega))⟩
end
def zipP : List P → List P → (Nat → P) → List P
  | [], ys, _ => ys
  | x :: xs, [], _ => x :: xs
  | _ :: xs, _ :: ys, g => g 0 :: zipP xs ys fun i => g (i + 1)
theorem zgB : ∀ (xs ys : List P) (g : Nat → P) (i : Nat), (zipP xs ys g)[i]? = match xs[i]?, ys[i]? with
    | some _, some _ => some (g i)
    | some x, none => some x
    | none, y => y
  | [], ys, g, i => by simp [zipP]
  | x :: xs, [], g, i => by
    simp only [zipP, List.getElem?_nil]
    cases (x :: xs)[i]? <;> rfl
  | x :: xs, y :: ys, g, 0 => by simp [zipP]
  | x :: xs, y :: ys, g, i + 1 => by simp only [zipP, List.getElem?_cons_succ, zgB xs ys]
theorem zgA : ∀ (xs ys : List P) (g : Nat → P), (zipP xs ys g).length = max xs.length ys.length
  | [], ys, g => by simp [zipP]
  | x :: xs, [], g => by simp [zipP]
  | x :: xs, y :: ys, g => by simp only [zipP, List.length_cons, zgA xs ys]; omega
theorem zsA (ρ : Nat → Rat) (v : Rat) : ∀ (xs ys : List P) (g : Nat → P), (∀ (i : Nat) x y, xs[i]? = some x → ys[i]? = some y → (g i).ev ρ = x.ev ρ + y.ev ρ) → P.evs ρ v (zipP xs ys g) = P.evs ρ v xs + P.evs ρ v ys
  | [], ys, g, _ => by rw [zipP, P.evs]; grind
  | x :: xs, [], g, _ => by rw [zipP]; simp only [P.evs]; grind
  | x :: xs, y :: ys, g, h => by
    have h0 := h 0 x y rfl rfl
    have ih := zsA ρ v xs ys (fun i => g (i + 1)) fun i a b ha hb => h (i + 1) a b (by simpa using ha) (by simpa using hb)
    simp only [zipP, P.evs, h0, ih]
    grind
theorem zl2 {H : PA → Prop} (t8 : List (List (List T))) (t9 t10 : Int) (cp : List P) (hl : cp.length ≤ 1000000) {r : List (List T)} (hnext : EvH H (fun A K => qbQ A K (.c5 (P.raws cp) t8 t9 (wI6 (t10 + 1)))) r) :
    ∀ (m i : Nat), i + m = cp.length → EvH H (fun A K => qbQ A K (.c4 (P.raws (cp.take i)) t8 t9 t10 (P.raws cp) (cp.length : Int) (i : Int))) r
  | 0, i, hi => by
    refine qp4 ?_
    simp only [qbQ]
    rw [List.take_of_length_le (by omega)]
    exact zr0 (by simp; omega) hnext
  | m + 1, i, hi => by
    obtain ⟨c, hc⟩ : ∃ c, cp[i]? = some c := ⟨_, List.getElem?_eq_getElem (by omega)⟩
    have hw : wI6 ((i : Int) + 1) = ((i + 1 : Nat) : Int) := by rw [qdF (by omega)]; omega
    have htk : P.raws (cp.take i) ++ [qaC c.enc] = P.raws (cp.take (i + 1)) := by
      rw [List.take_add_one, hc, zhG]; rfl
    have hlen : (P.raws (cp.take i)).length = i := by rw [qe3, List.length_take]; omega
    refine qp4 ?_
    simp only [qbQ]
    refine zrZ (by simp; omega) (q7U (qj7 hc) (zr0 (by rw [hlen]; simp) ?_))
    refine zxF (by rw [htk, qe3, List.length_take]; omega) ?_
    rw [htk]
    refine qp4 ?_
    simp only [qbQ, hw]
    exact zl2 t8 t9 t10 cp hl hnext m (i + 1) (by omega)
theorem zpI {H : PA → Prop} (t8 : List (List (List T))) (t9 t10 : Int) (cp cq : List P) (g : Nat → P) (hp : cp.length ≤ 1000000) (hq : cq.length ≤ 1000000) (hA : ∀ A, H A → ∀ (i : Nat) x y, cp[i]? = some x → cq[i]? = some y → A x.enc y.enc = some (g i).enc)
    {r : List (List T)} (hnext : EvH H (fun A K => qbQ A K (.c5 (P.raws (zipP cp cq g)) t8 t9 (wI6 (t10 + 1)))) r) :
    ∀ (m i : Nat), i + m = cq.length → EvH H (fun A K => qbQ A K (.c4 (P.raws ((zipP cp cq g).take i ++ cp.drop i)) t8 t9 t10 (P.raws cq) (cq.length : Int) (i : Int))) r
  | 0, i, hi => by
    refine qp4 ?_
    simp only [qbQ]
    have e : (zipP cp cq g).take i ++ cp.drop i = zipP cp cq g := by
      apply List.ext_getElem?
      intro q
      have hlz := zgA cp cq g
      rw [List.getElem?_append, List.length_take]
      by_cases hq : q < min i (zipP cp cq g).length
      · rw [if_pos hq, List.getElem?_take, if_pos (by omega)]
      · rw [if_neg hq, zgB]
        by_cases h2 : cp.length ≤ i
        · have h3 : cp[q]? = none := by rw [List.getElem?_eq_none]; omega
          have h4 : cq[q]? = none := by rw [List.getElem?_eq_none]; omega
          rw [h3, h4, List.getElem?_eq_none (by simp; omega)]
        · have h4 : cq[q]? = none := by rw [List.getElem?_eq_none]; omega
          rw [h4, List.getElem?_drop, show i + (q - min i (zipP cp cq g).length) = q by omega]
          cases cp[q]? <;> rfl
    rw [e]
    exact zr0 (by simp; omega) hnext
  | m + 1, i, hi => by
    obtain ⟨y, hy⟩ : ∃ c, cq[i]? = some c := ⟨_, List.getElem?_eq_getElem (by omega)⟩
    have hw : wI6 ((i : Int) + 1) = ((i + 1 : Nat) : Int) := by rw [qdF (by omega)]; omega
    have hlz := zgA cp cq g
    have hacc : ((zipP cp cq g).take i ++ cp.drop i).length = max i cp.length := by simp; omega
    have hget := zgB cp cq g i
    refine qp4 ?_
    simp only [qbQ]
    refine zrZ (by simp; omega) (q7U (qj7 hy) ?_)
    by_cases hlt : i < cp.length
    · obtain ⟨x, hx⟩ : ∃ c, cp[i]? = some c := ⟨_, List.getElem?_eq_getElem hlt⟩
      have hai : ((zipP cp cq g).take i ++ cp.drop i)[i]? = some x := by
        rw [List.getElem?_append_right (by simp; omega), List.length_take, List.getElem?_drop, show i + (i - min i (zipP cp cq g).length) = i by omega, hx]
      rw [hx, hy] at hget
      refine zrZ (by rw [qe3, hacc]; simp; omega) (q7U (qj7 hai) (zvQ (x := (g i).enc) (fun A h => hA A h i x y hx hy) (q7U (qj7 hai) ?_)))
      rw [Int.toNat_natCast, zmV]
      have e : ((zipP cp cq g).take i ++ cp.drop i).set i (g i) = (zipP cp cq g).take (i + 1) ++ cp.drop (i + 1) := by
        rw [List.set_append_right _ _ (by simp; omega), List.length_take, show i - min i (zipP cp cq g).length = 0 by omega, List.take_add_one, hget]
        have hd : (cp.drop i).set 0 (g i) = g i :: cp.drop (i + 1) := by rw [List.drop_eq_getElem_cons hlt]; rfl
        rw [hd]; simp
      rw [e]
      refine qp4 ?_
      simp only [qbQ, hw]
      exact zpI t8 t9 t10 cp cq g hp hq hA hnext m (i + 1) (by omega)
    · have hx : cp[i]? = none := by rw [List.getElem?_eq_none]; omega
      rw [hx, hy] at hget
      refine zr0 (by rw [qe3, hacc]; simp; omega) ?_
      have e : P.raws ((zipP cp cq g).take i ++ cp.drop i) ++ [qaC y.enc] = P.raws ((zipP cp cq g).take (i + 1) ++ cp.drop (i + 1)) := by
        rw [List.drop_eq_nil_of_le (by omega), List.drop_eq_nil_of_le (by omega), List.append_nil, List.append_nil, List.take_add_one, hget, zhG]
        rfl
      rw [e]
      refine zxF (by rw [qe3]; simp; omega) ?_
      refine qp4 ?_
      simp only [qbQ, hw]
      exact zpI t8 t9 t10 cp cq g hp hq hA hnext m (i + 1) (by omega)
theorem zj0 {H : PA → Prop} (cp cq : List P) (g : Nat → P) (hne : cp ≠ []) (hp : cp.length ≤ 1000000) (hq : cq.length ≤ 1000000) (hA : ∀ A, H A → ∀ (i : Nat) x y, cp[i]? = some x → cq[i]? = some y → A x.enc y.enc = some (g i).enc) :
    EvH H (fun A K => qzX K A [P.raws cp, P.raws cq]) (P.raws (zipP cp cq g)) := by
  refine qp4 ?_
  simp only [qzX, qbQ]
  refine qp4 ?_
  simp only [qbQ]
  refine zrZ rfl (q7U (x := P.raws cp) rfl ?_)
  obtain ⟨x, hx⟩ : ∃ c, cp[0]? = some c := ⟨_, List.getElem?_eq_getElem (List.length_pos_iff.2 hne)⟩
  have hl := List.length_pos_iff.2 hne
  refine qp4 ?_
  simp only [qbQ]
  refine zrZ (by rw [qe3]; simp; omega) (q7U (qj7 (i := 0) hx) (zr0 rfl ?_))
  have e1 : [qaC x.enc] = P.raws (cp.take 1) := by
    cases cp with
    | nil => simp at hx
    | cons a l => simp at hx; subst hx; rfl
  rw [e1]
  refine qp4 ?_
  simp only [qbQ]
  have w1 : wI6 ((0 : Int) + 1) = ((1 : Nat) : Int) := by decide
  rw [w1, qe3]
  refine zl2 _ _ 0 cp hp ?_ (cp.length - 1) 1 (by omega)
  have w2 : wI6 ((0 : Int) + 1) = 1 := by decide
  rw [w2]
  refine qp4 ?_
  simp only [qbQ]
  refine zrZ rfl (q7U (x := P.raws cq) rfl ?_)
  rw [qe3]
  have := zpI (H := H) [P.raws cp, P.raws cq] (([P.raws cp, P.raws cq] : List (List (List T))).length : Int) 1 cp cq g hp hq hA (r := P.raws (zipP cp cq g)) ?_ cq.length 0 (by omega)
  · rw [List.take_zero, List.drop_zero, List.nil_append] at this
    exact this
  · have w3 : wI6 ((1 : Int) + 1) = 2 := by decide
    rw [w3]
    refine qp4 ?_
    simp only [qbQ]
    exact zr0 rfl (zvP _)
theorem uni {Q : Nat → Nat → Prop} : ∀ n : Nat, (∀ i, i < n → ∃ K0, ∀ K, K0 ≤ K → Q i K) → ∃ K1, ∀ K, K1 ≤ K → ∀ i, i < n → Q i K
  | 0, _ => ⟨0, fun _ _ i h => by omega⟩
  | n + 1, h => by
    obtain ⟨K1, h1⟩ := uni n fun i hi => h i (by omega)
    obtain ⟨K2, h2⟩ := h n (by omega)
    refine ⟨max K1 K2, fun K hK i hi => ?_⟩
    by_cases e : i = n
    · subst e; exact h2 K (by omega)
    · exact h1 K (by omega) i (by omega)
theorem zj8 {n m : Nat} (hn : n + 1 ≤ 1000000) (hm1 : 1 ≤ m) (hm : m ≤ 1000000) : ∀ (L : Nat) (p q : P), P.C L p → P.C L q → P.W n m p → P.W n m q →
    ∃ r, P.C L r ∧ P.W (n + 1) m r ∧ Ev (fun K => qrO K p.enc q.enc) r.enc ∧ ∀ ρ, r.ev ρ = p.ev ρ + q.ev ρ := by
  intro L
  induction L using Nat.strongRecOn with
  | _ L ih =>
    intro p q hp hq wp wq
    by_cases h0 : max p.lev q.lev = 0
    · -- whole numbers
      cases p with
      | p lv cs => rw [P.C] at hp; simp only [P.lev] at h0; omega
      | k a =>
        cases q with
        | p lv cs => rw [P.C] at hq; simp only [P.lev] at h0; omega
        | k b =>
          rw [P.W] at wp wq
          have sa := qrL wp (by omega)
          have sb := qrL wq (by omega)
          have h1 := quA sa.1 sb.1 (by have := sa.2; omega) (by have := sb.2; omega)
          rw [qdQ, qdQ] at h1
          refine ⟨.k (a + b), by rw [P.C]; trivial, ?_, ?_, fun ρ => ?_⟩
          · rw [P.W, Int.pow_succ]
            have := qfV n
            omega
          · refine qaW ?_
            simp only [qrO, qgM]
            exact ev_t rfl (qaR h1 (qa6 _))
          · simp only [P.ev]
            exact Rat.intCast_add a b
    · let lv := max p.lev q.lev
      have hlv : 1 ≤ lv := by show 1 ≤ max p.lev q.lev; omega
      have hpl := zuK hp
      have hql := zuK hq
      have hlL : lv ≤ L := by show max p.lev q.lev ≤ L; omega
      have cl : ∀ x : P, P.C L x → x.lev ≤ lv → P.C lv x := fun x hx hl => by
        cases x with
        | k c => rw [P.C]; trivial
        | p l cs => rw [P.C] at hx ⊢; exact ⟨hx.1, hl, hx.2.2⟩
      have hp' := cl p hp (Nat.le_max_left _ _)
      have hq' := cl q hq (Nat.le_max_right _ _)
      have cp := zrF hp' hlv
      have cq := zrF hq' hlv
      obtain ⟨vp, lp⟩ := zrE (lv := lv) wp hm1
      obtain ⟨vq, lq⟩ := zrE (lv := lv) wq hm1
      have step : ∀ i : Nat, ∃ z : P, ∀ x y : P, (qh5 p lv)[i]? = some x → (qh5 q lv)[i]? = some y → P.C (lv - 1) z ∧ P.W (n + 1) m z ∧ Ev (fun K => qrO K x.enc y.enc) z.enc ∧ ∀ ρ, z.ev ρ = x.ev ρ + y.ev ρ := by
        intro i
        cases hx : (qh5 p lv)[i]? with
        | none => exact ⟨.k 0, fun x y h => by cases h⟩
        | some x =>
          cases hy : (qh5 q lv)[i]? with
          | none => exact ⟨.k 0, fun x y _ h => by cases h⟩
          | some y =>
            have mx := List.mem_of_getElem? hx
            have my := List.mem_of_getElem? hy
            obtain ⟨z, hz⟩ := ih (lv - 1) (by omega) x y (qtF cp x mx) (qtF cq y my) (qxA vp x mx) (qxA vq y my)
            exact ⟨z, fun a b ha hb => by cases ha; cases hb; exact hz⟩
      let g : Nat → P := fun i => (step i).choose
      have hg : ∀ (i : Nat) (x y : P), (qh5 p lv)[i]? = some x → (qh5 q lv)[i]? = some y → P.C (lv - 1) (g i) ∧ P.W (n + 1) m (g i) ∧ Ev (fun K => qrO K x.enc y.enc) (g i).enc ∧ ∀ ρ, (g i).ev ρ = x.ev ρ + y.ev ρ := fun i => (step i).choose_spec
      let zs := zipP (qh5 p lv) (qh5 q lv) g
      have hzl : zs.length ≤ m := by show (zipP _ _ g).length ≤ m; rw [zgA]; omega
      have hmem : ∀ z ∈ zs, P.C (lv - 1) z ∧ P.W (n + 1) m z := by
        intro z hz
        obtain ⟨i, hi⟩ := List.mem_iff_getElem?.1 hz
        have hi : (zipP (qh5 p lv) (qh5 q lv) g)[i]? = some z := hi
        rw [zgB] at hi
        cases hx : (qh5 p lv)[i]? with
        | none =>
          rw [hx] at hi
          have my := List.mem_of_getElem? (show (qh5 q lv)[i]? = some z from hi)
          exact ⟨qtF cq z my, zpB (by omega) (qxA vq z my)⟩
        | some x =>
          cases hy : (qh5 q lv)[i]? with
          | none =>
            rw [hx, hy] at hi
            cases hi
            have mx := List.mem_of_getElem? hx
            exact ⟨qtF cp _ mx, zpB (by omega) (qxA vp _ mx)⟩
          | some y =>
            rw [hx, hy] at hi
            cases hi
            have := hg i x y hx hy
            exact ⟨this.1, this.2.1⟩
      have zC : P.Cs (lv - 1) zs := zwF fun z hz => (hmem z hz).1
      have zW : P.Ws (n + 1) m zs := zwA fun z hz => (hmem z hz).2
      refine ⟨zcN lv zs, zuJ hlL (zyU hlv zC), zyT zW hzl, ?_, fun ρ => ?_⟩
      · refine qaW ?_
        simp only [qrO, qgM, zo1]
        have hmx : max (p.lev : Int) (q.lev : Int) = (lv : Int) := by
          show max (p.lev : Int) (q.lev : Int) = ((max p.lev q.lev : Nat) : Int)
          omega
        rw [hmx]
        refine ev_f (by simp; omega) ?_
        refine qaR (q0S hp' wp hm hlv) (qaR (q0S hq' wq hm hlv) ?_)
        let HH : PA → Prop := fun A => ∀ i, i < (qh5 p lv).length → ∀ x y : P, (qh5 p lv)[i]? = some x → (qh5 q lv)[i]? = some y → A x.enc y.enc = some (g i).enc
        have hs := zj0 (H := HH) (qh5 p lv) (qh5 q lv) g (zt2 p lv hp) (by omega) (by omega) fun A hA i x y hx hy => hA i (List.getElem?_eq_some_iff.1 hx).1 x y hx hy
        have hK : ∃ K1, ∀ K, K1 ≤ K → HH (fun y0 y1 => qgM K (.c0 y0 y1)) := by
          refine uni (Q := fun i K => ∀ x y : P, (qh5 p lv)[i]? = some x → (qh5 q lv)[i]? = some y → qgM K (.c0 x.enc y.enc) = some (g i).enc) _ fun i hi => ?_
          obtain ⟨x, hx⟩ : ∃ c, (qh5 p lv)[i]? = some c := ⟨_, List.getElem?_eq_getElem hi⟩
          cases hy : (qh5 q lv)[i]? with
          | none => exact ⟨0, fun K _ x y _ h => by cases h⟩
          | some y =>
            obtain ⟨K0, h⟩ := (hg i x y hx hy).2.2.1
            refine ⟨K0, fun K hK a b ha hb => ?_⟩
            rw [hx] at ha
            cases ha; cases hb
            exact h K hK
        refine qaR (ztX hs hK) (qaR (q2T zC zW (by omega) (Nat.lt_of_le_of_lt hzl (by omega))) (qa6 _))
      · rw [zvJ]
        show P.evs ρ (ρ lv) (zipP _ _ g) = _
        rw [zsA ρ (ρ lv) _ _ g fun i x y hx hy => (hg i x y hx hy).2.2.2 ρ, zo4, zo4]
open Go.Proofs.Tryz (prog)
inductive qsA where
 | c0 (level : Int)
def qqK : Nat → qsA → Option qaD
 | 0, _ => none
 | K + 1, .c0 level =>
  bif (decide (level < (1 : Int))) then
   some (qaD.mk (0 : Int) (qaE.mk false []) [])
  else
   bif (decide ((4 : Int) < level)) then
    some (qaD.mk (0 : Int) (qaE.mk false []) [])
   else
    (qlQ K (1 : Int)).bind fun x3 =>
    some (qaD.mk level (qaE.mk false []) ([(qaC (qaD.mk (0 : Int) (qaE.mk false []) [])), (qaC (qaD.mk (0 : Int) x3 []))] : List (List T)))
def zhB (K : Nat) (level : Int) : Option qaD := qqK K (.c0 level)
noncomputable def zeT : Code := qcS prog 64
noncomputable def zhA : qsA → List Fr
 | .c0 .. => [.code zeT]
def zkA : qsA → St
 | .c0 level => St.init [(ti .i64 level)]
def q8M (cx : Cx) (c : qsA) (r : qaD) : Prop := Wk prog cx (qd8 prog 64 [[0,0,1,4]] (TV.agg (qaC r))) (zhA c) .normal (zkA c)
abbrev q8N (K : Nat) : Prop := ∀ c r, qqK K c = some r → ∀ cx : Cx, cx.n = 16 → q8M cx c r
theorem zkB {K} (_ : q8N K) {cx} (hn : cx.n = 16) {level} {r} (h : qqK (K + 1) (.c0 level) = some r) : q8M cx (.c0 level) r := by
 rw [qqK] at h
 rcases qa0 h with ⟨h1, h⟩ | ⟨h1, h⟩
 ·have h := oinj h; subst h
  exact wkR [rg1, rgG [oo, oo, oo, .sb 5 true, oo, oo, oo], bTr, rg2] hn (aC h1 <| aC rt <| aN)
 ·rcases qa0 h with ⟨h2, h⟩ | ⟨h2, h⟩
  ·have h := oinj h; subst h
   exact wkR [rg1, rgG [oo, oo, oo, .sb 5 false, oo, oo, oo], bTr, rg2] hn (aC h1 <| aC h2 <| aN)
  ·obtain ⟨x3, h4, h⟩ := qaU h
   have h := oinj h; subst h
   exact wkR [rg1, rgG [oo, oo, oo, .sb 5 false, oo, oo, oo], bFa, rgG [oo, oo, opI (.call [[0]] [(TV.c (T.int .i64 (1 : Int)))] (TV.agg (qaK x3))), oo, opI (.lit (([(qaC (qaD.mk (0 : Int) (qaE.mk false []) [])), (qaC (qaD.mk (0 : Int) x3 []))] : List (List T)).map rid)), .snap 14 (max 0 (0 + 2)) (([(qaC (qaD.mk (0 : Int) (qaE.mk false []) [])), (qaC (qaD.mk (0 : Int) x3 []))] : List (List T)).map rid), oo, oo]] hn (aC h1 <| aC h2 <| aC (qgR h4) <| aC (by kernel_rfl : [(T.int .i64 (0 : Int)), (T.bool false), (T.sl 1 []), (T.sl 4 []), (T.int .i64 (0 : Int)), (T.bool x3.Neg), (T.sl 1 (x3.Abs.map qaF)), (T.sl 4 [])] = (([(qaC (qaD.mk (0 : Int) (qaE.mk false []) [])), (qaC (qaD.mk (0 : Int) x3 []))] : List (List T)).map rid).flatten) <| aC (qeH _ _ _ (by simp) : ((([(qaC (qaD.mk (0 : Int) (qaE.mk false []) [])), (qaC (qaD.mk (0 : Int) x3 []))] : List (List T)).map rid).drop 0).take 2 = ([(qaC (qaD.mk (0 : Int) (qaE.mk false []) [])), (qaC (qaD.mk (0 : Int) x3 []))] : List (List T)).map rid) <| aC (rfl : (max 0 (0 + 2)) = (max 0 (0 + 2))) <| aN)
theorem q2Y : ∀ K : Nat, q8N K
 | 0, c, r, h => by rw [qqK] at h; cases h
 | K + 1, .c0 .., r, h => fun cx hn => zkB (q2Y K) hn h
theorem zbI {K : Nat} {level : Int} {r : qaD} (h : zhB K level = some r) : qc7 prog 64 [(ti .i64 level)] (TV.agg (qaC r)) :=
 qbL [[0,0,1,4]] (by kernel_rfl) (by simp) fun cx hn => q2Y K (.c0 level) r h cx hn
open Go.Proofs.Tryz (prog)
inductive qlV where
 | c0 (p : qaD) (below : Int)
 | c1 (p : qaD) (t48 : (List (List T))) (t49 : Int) (t50 : Int)
def qdC : Nat → qlV → Option Bool
 | 0, _ => none
 | K + 1, .c0 p below =>
  bif (decide (p.Level = (0 : Int))) then
   bif (decide ((p.Coefs.length : Int) = (0 : Int))) then
    bif (!p.Const.Neg) then
     some true
    else
     (qh4 K p.Const).bind fun x4 =>
     some (!decide (x4 = (0 : Int)))
   else
    some false
  else
   bif (decide (p.Level < (0 : Int))) then
    some false
   else
    bif (decide (below ≤ p.Level)) then
     some false
    else
     bif (decide ((p.Coefs.length : Int) < (2 : Int))) then
      some false
     else
      (qh4 K p.Const).bind fun x5 =>
      bif (!decide (x5 = (0 : Int))) then
       some false
      else
       qdC K (.c1 p p.Coefs (p.Coefs.length : Int) (0 : Int))
 | K + 1, .c1 p t48 t49 t50 =>
  bif (decide (t50 < t49)) then
   (gid qcC t48 t50).bind fun x2 =>
   (qdC K (.c0 x2 p.Level)).bind fun x4 =>
   bif (!x4) then
    some false
   else
    qdC K (.c1 p t48 t49 (wI6 (t50 + (1 : Int))))
  else
   (gid qcC p.Coefs (wI6 ((p.Coefs.length : Int) - (1 : Int)))).bind fun x2 =>
   (qrU K x2).bind fun x4 =>
   some (!x4)
def qmJ (K : Nat) (p : qaD) (below : Int) : Option Bool := qdC K (.c0 p below)
noncomputable def qoC : Code := qcS prog 88
noncomputable def q2W : qlV → List Fr
 | .c0 .. => [.code qoC]
 | .c1 .. => [.code (.loop (atC qoC [1,1,1,0,1,0,0])), .blk 0, .code (atC qoC [1,1,1,1])]
def q4Q : qlV → St
 | .c0 p below => St.init [(TV.agg (qaC p)), (ti .i64 below)]
 | .c1 p t48 t49 t50 => ⟨[(2, .c (C.ptr 2 0)), (48, vl 4 t48 rid), (49, vi .i64 t49), (50, vi .i64 t50)], [(2, .var ((qaC p).map C.t))], []⟩
def qrN (cx : Cx) (c : qlV) (r : Bool) : Prop := Wk prog cx (qd8 prog 88 [[0]] (TV.c (T.bool r))) (q2W c) .normal (q4Q c)
abbrev qnE (K : Nat) : Prop := ∀ c r, qdC K c = some r → ∀ cx : Cx, cx.n = 70 → qrN cx c r
theorem qtI (K : Nat) (ih : qnE K) {p : qaD} {below : Int} {r : Bool} (h : qdC K (.c0 p below) = some r) : qc7 prog 88 [(TV.agg (qaC p)), (ti .i64 below)] (TV.c (T.bool r)) :=
 qbL [[0]] (by kernel_rfl) (by simp) fun cx hn => ih (.c0 p below) r h cx hn
theorem q4T {K} (ih : qnE K) {cx} (hn : cx.n = 70) {p below} {r} (h : qdC (K + 1) (.c0 p below) = some r) : qrN cx (.c0 p below) r := by
 rw [qdC] at h
 rcases qa0 h with ⟨h1, h⟩ | ⟨h1, h⟩
 ·rcases qa0 h with ⟨h2, h⟩ | ⟨h2, h⟩
  ·rcases qa0 h with ⟨h3, h⟩ | ⟨h3, h⟩
   ·have h := oinj h; subst h
    exact wkR [rg2, rg3, bTr, rgG [oo, oo, opI (.ln (p.Coefs.length : Int)), oo, oo, .sb 14 true, oo, oo, oo, oo, oo, .sb 19 true, oo, oo, oo, oo, oo, oo, oo]] hn (aC h1 <| aC (qdI p.Coefs rid) <| aC h2 <| aC h3 <| aN)
   ·obtain ⟨x4, h5, h⟩ := qaU h
    have h := oinj h; subst h
    exact wkR [rg2, rg3, bTr, rgG [oo, oo, opI (.ln (p.Coefs.length : Int)), oo, oo, .sb 14 true, oo, oo, oo, oo, oo, .sb 19 false, oo, oo, opI (.call [[0,1]] [(TV.agg (qaK p.Const))] (ti .i64 x4)), oo, oo, oo, oo]] hn (aC h1 <| aC (qdI p.Coefs rid) <| aC h2 <| aC h3 <| aC (qcF h5) <| aN)
  ·have h := oinj h; subst h
   exact wkR [rg2, rg3, bTr, rgG [oo, oo, opI (.ln (p.Coefs.length : Int)), oo, oo, .sb 14 false, oo, oo, oo, oo, oo, oo, oo, oo, oo, oo, oo, oo]] hn (aC h1 <| aC (qdI p.Coefs rid) <| aC h2 <| aN)
 ·rcases qa0 h with ⟨h2, h⟩ | ⟨h2, h⟩
  ·have h := oinj h; subst h
   exact wkR [rg2, rg3, bFa, rgG [oo, oo, oo, oo, .sb 29 true, oo, oo, oo, oo, oo, oo, oo, oo, oo, oo, oo, oo, oo, oo, oo, oo, oo], bTr, rg1] hn (aC h1 <| aC h2 <| aC rt <| aN)
  ·rcases qa0 h with ⟨h3, h⟩ | ⟨h3, h⟩
   ·have h := oinj h; subst h
    exact wkR [rg2, rg3, bFa, rgG [oo, oo, oo, oo, .sb 29 false, oo, oo, oo, oo, oo, oo, .sb 35 true, oo, oo, oo, oo, oo, oo, oo, oo, oo, oo, oo], bTr, rg1] hn (aC h1 <| aC h2 <| aC h3 <| aC rt <| aN)
   ·rcases qa0 h with ⟨h4, h⟩ | ⟨h4, h⟩
    ·have h := oinj h; subst h
     exact wkR [rg2, rg3, bFa, rgG [oo, oo, oo, oo, .sb 29 false, oo, oo, oo, oo, oo, oo, .sb 35 false, oo, oo, opI (.ln (p.Coefs.length : Int)), oo, oo, oo, .sb 41 true, oo, oo, oo, oo, oo], bTr, rg1] hn (aC h1 <| aC h2 <| aC h3 <| aC (qdI p.Coefs rid) <| aC h4 <| aC rt <| aN)
    ·obtain ⟨x5, h6, h⟩ := qaU h
     rcases qa0 h with ⟨h7, h⟩ | ⟨h7, h⟩
     ·have h := oinj h; subst h
      exact wkR [rg2, rg3, bFa, rgG [oo, oo, oo, oo, .sb 29 false, oo, oo, oo, oo, oo, oo, .sb 35 false, oo, oo, opI (.ln (p.Coefs.length : Int)), oo, oo, oo, .sb 41 false, oo, oo, opI (.call [[0,1]] [(TV.agg (qaK p.Const))] (ti .i64 x5)), oo, oo], bTr, rg1] hn (aC h1 <| aC h2 <| aC h3 <| aC (qdI p.Coefs rid) <| aC h4 <| aC (qcF h6) <| aC h7 <| aN)
     ·exact wkG [rg2, rg3, bFa, rgG [oo, oo, oo, oo, .sb 29 false, oo, oo, oo, oo, oo, oo, .sb 35 false, oo, oo, opI (.ln (p.Coefs.length : Int)), oo, oo, oo, .sb 41 false, oo, oo, opI (.call [[0,1]] [(TV.agg (qaK p.Const))] (ti .i64 x5)), oo, oo], bFa, rgG [oo, oo, opI (.ln (p.Coefs.length : Int)), oo], .pre [.keep [2,48,49,50] [2]]] hn (aC h1 <| aC h2 <| aC h3 <| aC (qdI p.Coefs rid) <| aC h4 <| aC (qcF h6) <| aC h7 <| aC (qdI p.Coefs rid) <| aN) (ih _ _ h cx hn)
theorem q4S {K} (ih : qnE K) {cx} (hn : cx.n = 70) {p t48 t49 t50} {r} (h : qdC (K + 1) (.c1 p t48 t49 t50) = some r) : qrN cx (.c1 p t48 t49 t50) r := by
 rw [qdC] at h
 rcases qa0 h with ⟨h1, h⟩ | ⟨h1, h⟩
 ·obtain ⟨x2, h3, h⟩ := qaU h
  obtain ⟨x4, h5, h⟩ := qaU h
  rcases qa0 h with ⟨h6, h⟩ | ⟨h6, h⟩
  ·have h := oinj h; subst h
   exact wkR [.go, rg1, bTr, rgG [opI (.ix (qaC x2)), oo, oo, oo], rgG [oo, oo, oo, opI (.call [[0,0,1,4], [0]] [(TV.agg (qaC x2)), (ti .i64 p.Level)] (TV.c (T.bool x4))), oo], bTr, rg1] hn (aC h1 <| aC (qk2 h3 : 0 ≤ t50) <| aC (qn0 @qbC h3 : (t48.map rid)[t50.toNat]? = some (qaC x2)) <| aC (qtI K ih h5 : qc7 prog 88 [(TV.agg (qaC x2)), (ti .i64 p.Level)] (TV.c (T.bool x4))) <| aC h6 <| aN)
  ·exact wkG [.go, rg1, bTr, rgG [opI (.ix (qaC x2)), oo, oo, oo], rgG [oo, oo, oo, opI (.call [[0,0,1,4], [0]] [(TV.agg (qaC x2)), (ti .i64 p.Level)] (TV.c (T.bool x4))), oo], bFa, rg2, .pre [.keep [2,48,49,50] [2]]] hn (aC h1 <| aC (qk2 h3 : 0 ≤ t50) <| aC (qn0 @qbC h3 : (t48.map rid)[t50.toNat]? = some (qaC x2)) <| aC (qtI K ih h5 : qc7 prog 88 [(TV.agg (qaC x2)), (ti .i64 p.Level)] (TV.c (T.bool x4))) <| aC h6 <| aN) (ih _ _ h cx hn)
 ·obtain ⟨x2, h3, h⟩ := qaU h
  obtain ⟨x4, h5, h⟩ := qaU h
  have h := oinj h; subst h
  exact wkR [.go, rg1, bFa, rgG [oo, oo, oo, oo, opI (.ln (p.Coefs.length : Int)), oo, opI (.ix (qaC x2)), oo, opI (.call [[0,0,1,4]] [(TV.agg (qaC x2))] (TV.c (T.bool x4))), oo, oo]] hn (aC h1 <| aC (qdI p.Coefs rid) <| aC (qk2 h3 : 0 ≤ (wI6 ((p.Coefs.length : Int) - (1 : Int)))) <| aC (qn0 @qbC h3 : (p.Coefs.map rid)[(wI6 ((p.Coefs.length : Int) - (1 : Int))).toNat]? = some (qaC x2)) <| aC (qr1 h5) <| aN)
theorem qo4 : ∀ K : Nat, qnE K
 | 0, c, r, h => by rw [qdC] at h; cases h
 | K + 1, .c0 .., r, h => fun cx hn => q4T (qo4 K) hn h
 | K + 1, .c1 .., r, h => fun cx hn => q4S (qo4 K) hn h
theorem qr8 {K : Nat} {p : qaD} {below : Int} {r : Bool} (h : qmJ K p below = some r) : qc7 prog 88 [(TV.agg (qaC p)), (ti .i64 below)] (TV.c (T.bool r)) :=
 qbL [[0]] (by kernel_rfl) (by simp) fun cx hn => qo4 K (.c0 p below) r h cx hn
open Go.Proofs.Tryz (prog)
inductive qpO where
 | c0 (p : qaD) (c : qaE)
 | c1 (p : qaD) (c : qaE) (b4 : qaD) (r19 : (List (List T))) (t21 : (List (List T))) (t22 : Int) (t23 : Int)
def qeF : Nat → qpO → Option qaD
 | 0, _ => none
 | K + 1, .c0 p c =>
  bif (decide (p.Level = (0 : Int))) then
   (qnS K p.Const c).bind fun x2 =>
   some (qaD.mk (0 : Int) x2 [])
  else
   gd (0 ≤ (p.Coefs.length : Int) ∧ (p.Coefs.length : Int) ≤ (p.Coefs.length : Int) ∧ (64 : Int) * (p.Coefs.length : Int) ≤ 140737488355328) <|
   qeF K (.c1 p c (qaD.mk (0 : Int) (qaE.mk false []) []) (List.replicate (p.Coefs.length : Int).toNat ((qaC (qaD.mk (0 : Int) (qaE.mk false []) [])) : (List T))) p.Coefs (p.Coefs.length : Int) (0 : Int))
 | K + 1, .c1 p c b4 r19 t21 t22 t23 =>
  bif (decide (t23 < t22)) then
   (gid qcC t21 t23).bind fun x2 =>
   (qeF K (.c0 x2 c)).bind fun x4 =>
   (gid qcC r19 t23).bind fun _ =>
   qeF K (.c1 p c b4 (r19.set (t23.toNat) (qaC x4)) t21 t22 (wI6 (t23 + (1 : Int))))
  else
   (qrV K p.Level r19).bind fun x2 =>
   some x2
def qr6 (K : Nat) (p : qaD) (c : qaE) : Option qaD := qeF K (.c0 p c)
noncomputable def qr4 : Code := qcS prog 126
noncomputable def zbD : qpO → List Fr
 | .c0 .. => [.code qr4]
 | .c1 .. => [.code (.loop (atC qr4 [1,1,1,0,1,0,0])), .blk 0, .code (atC qr4 [1,1,1,1])]
def zeK : qpO → St
 | .c0 p c => St.init [(TV.agg (qaC p)), (TV.agg (qaK c))]
 | .c1 p c b4 r19 t21 t22 t23 => ⟨[(2, .c (C.ptr 2 0)), (3, .c (C.ptr 3 0)), (4, .c (C.ptr 4 0)), (5, .c (C.row 19 0 r19.length)), (21, vl 4 t21 rid), (22, vi .i64 t22), (23, vi .i64 t23)], [(2, .var ((qaC p).map C.t)), (3, .var ((qaK c).map C.t)), (4, .var ((qaC b4).map C.t)), (19, .row 50 4 (r19.map rid) 0)], []⟩
def qv5 (cx : Cx) (c : qpO) (r : qaD) : Prop := Wk prog cx (qd8 prog 126 [[0,0,1,4]] (TV.agg (qaC r))) (zbD c) .normal (zeK c)
abbrev qr5 (K : Nat) : Prop := ∀ c r, qeF K c = some r → ∀ cx : Cx, cx.n = 39 → qv5 cx c r
theorem q8I (K : Nat) (ih : qr5 K) {p : qaD} {c : qaE} {r : qaD} (h : qeF K (.c0 p c) = some r) : qc7 prog 126 [(TV.agg (qaC p)), (TV.agg (qaK c))] (TV.agg (qaC r)) :=
 qbL [[0,0,1,4]] (by kernel_rfl) (by simp) fun cx hn => ih (.c0 p c) r h cx hn
theorem zeN {K} (ih : qr5 K) {cx} (hn : cx.n = 39) {p c} {r} (h : qeF (K + 1) (.c0 p c) = some r) : qv5 cx (.c0 p c) r := by
 rw [qeF] at h
 rcases qa0 h with ⟨h1, h⟩ | ⟨h1, h⟩
 ·obtain ⟨x2, h3, h⟩ := qaU h
  have h := oinj h; subst h
  exact wkR [rg3, rg3, bTr, rgG [oo, oo, oo, opI (.call [[0,1], [0,1]] [(TV.agg (qaK p.Const)), (TV.agg (qaK c))] (TV.agg (qaK x2))), oo, oo]] hn (aC h1 <| aC (qkV h3) <| aN)
 ·obtain ⟨h2, h⟩ := qbV h
  exact wkG [rg3, rg3, bFa, rgG [oo, oo, opI (.ln (p.Coefs.length : Int)), opI (.mk (qaC (qaD.mk (0 : Int) (qaE.mk false []) [])) ((List.replicate (p.Coefs.length : Int).toNat ((qaC (qaD.mk (0 : Int) (qaE.mk false []) [])) : (List T))).map rid)), oo], rgG [oo, oo, opI (.ln (p.Coefs.length : Int)), oo], .pre [.tellB 4 [0,0,1,4], .rl 5 0 (List.replicate (p.Coefs.length : Int).toNat ((qaC (qaD.mk (0 : Int) (qaE.mk false []) [])) : (List T))).length, .keep [2,3,4,5,21,22,23] [2,3,4,19]]] hn (aC h1 <| aC (qdI p.Coefs rid) <| aC h2.1 <| aC h2.2.1 <| aC h2.2.2 <| aC (q8F _ _ : List.replicate (p.Coefs.length : Int).toNat (qaC (qaD.mk (0 : Int) (qaE.mk false []) [])) = (List.replicate (p.Coefs.length : Int).toNat ((qaC (qaD.mk (0 : Int) (qaE.mk false []) [])) : (List T))).map rid) <| aC (qdI p.Coefs rid) <| aC r0 <| aC (by simp : (p.Coefs.length : Int).toNat = (List.replicate (p.Coefs.length : Int).toNat ((qaC (qaD.mk (0 : Int) (qaE.mk false []) [])) : (List T))).length) <| aN) (ih _ _ h cx hn)
theorem zeM {K} (ih : qr5 K) {cx} (hn : cx.n = 39) {p c b4 r19 t21 t22 t23} {r} (h : qeF (K + 1) (.c1 p c b4 r19 t21 t22 t23) = some r) : qv5 cx (.c1 p c b4 r19 t21 t22 t23) r := by
 rw [qeF] at h
 rcases qa0 h with ⟨h1, h⟩ | ⟨h1, h⟩
 ·obtain ⟨x2, h3, h⟩ := qaU h
  obtain ⟨x4, h5, h⟩ := qaU h
  obtain ⟨x6, h7, h⟩ := qaU h
  exact wkG [.go, rg1, bTr, rgG [oo, opI (.ix (qaC x2)), oo, oo, oo, oo], rgG [oo, oo, oo, oo, opI (.call [[0,0,1,4], [0,1]] [(TV.agg (qaC x2)), (TV.agg (qaK c))] (TV.agg (qaC x4))), .op .ir, opI (.st (qaC x6) ((r19.set (t23.toNat) (qaC x4)).map rid))], rg2, .pre [.rl 5 0 (r19.set (t23.toNat) (qaC x4)).length, .keep [2,3,4,5,21,22,23] [2,3,4,19]]] hn (aC h1 <| aC (qk2 h3 : 0 ≤ t23) <| aC (qn0 @qbC h3 : (t21.map rid)[t23.toNat]? = some (qaC x2)) <| aC (q8I K ih h5 : qc7 prog 126 [(TV.agg (qaC x2)), (TV.agg (qaK c))] (TV.agg (qaC x4))) <| aC (qk2 h7 : 0 ≤ t23) <| aC (q7T h7 (by simp) : t23 < ((r19.length : Nat) : Int)) <| aC (q7S @qbC h7 : (r19.map rid)[(0 + t23.toNat)]? = some (qaC x6)) <| aC (qe8 _ _ (qaC x4) _ : (r19.map rid).set (0 + t23.toNat) (qdH (qaC x6) 0 [(T.int .i64 x4.Level), (T.bool x4.Const.Neg), (T.sl 1 (x4.Const.Abs.map qaF)), (T.sl 4 (x4.Coefs.map rid))]) = (r19.set (t23.toNat) (qaC x4)).map rid) <| aC (Nat.zero_le _ : 0 ≤ (0 + t23.toNat)) <| aC r0 <| aC (by simp : r19.length = (r19.set (t23.toNat) (qaC x4)).length) <| aN) (ih _ _ h cx hn)
 ·obtain ⟨x2, h3, h⟩ := qaU h
  have h := oinj h; subst h
  exact wkR [.go, rg1, bFa, rgG [oo, oo, oo, .snap 37 (max 0 (0 + r19.length)) (r19.map rid), opI (.call [[0], [4]] [(ti .i64 p.Level), (tl 4 r19 rid)] (TV.agg (qaC x2))), oo]] hn (aC h1 <| aC (qeH _ _ _ (by simp) : ((r19.map rid).drop 0).take r19.length = r19.map rid) <| aC (rfl : (max 0 (0 + r19.length)) = (max 0 (0 + r19.length))) <| aC (qxG h3) <| aN)
theorem qtM : ∀ K : Nat, qr5 K
 | 0, c, r, h => by rw [qeF] at h; cases h
 | K + 1, .c0 .., r, h => fun cx hn => zeN (qtM K) hn h
 | K + 1, .c1 .., r, h => fun cx hn => zeM (qtM K) hn h
theorem q60 {K : Nat} {p : qaD} {c : qaE} {r : qaD} (h : qr6 K p c = some r) : qc7 prog 126 [(TV.agg (qaC p)), (TV.agg (qaK c))] (TV.agg (qaC r)) :=
 qbL [[0,0,1,4]] (by kernel_rfl) (by simp) fun cx hn => qtM K (.c0 p c) r h cx hn
open Go.Proofs.Tryz (prog)
inductive qoI where
 | c0 (p : qaD)
def qkF : Nat → qoI → Option qaD
 | 0, _ => none
 | K + 1, .c0 p =>
  (qlQ K (1 : Int)).bind fun x1 =>
  (qr6 K p x1).bind fun x3 =>
  some x3
def qx6 (K : Nat) (p : qaD) : Option qaD := qkF K (.c0 p)
noncomputable def q61 : Code := qcS prog 89
noncomputable def q8J : qoI → List Fr
 | .c0 .. => [.code q61]
def zbE : qoI → St
 | .c0 p => St.init [(TV.agg (qaC p))]
def q0Q (cx : Cx) (c : qoI) (r : qaD) : Prop := Wk prog cx (qd8 prog 89 [[0,0,1,4]] (TV.agg (qaC r))) (q8J c) .normal (zbE c)
abbrev q0R (K : Nat) : Prop := ∀ c r, qkF K c = some r → ∀ cx : Cx, cx.n = 6 → q0Q cx c r
theorem zbF {K} (_ : q0R K) {cx} (hn : cx.n = 6) {p} {r} (h : qkF (K + 1) (.c0 p) = some r) : q0Q cx (.c0 p) r := by
 rw [qkF] at h
 obtain ⟨x1, h2, h⟩ := qaU h
 obtain ⟨x3, h4, h⟩ := qaU h
 have h := oinj h; subst h
 exact wkR [rg2, .draw [.p, (.call [[0]] [(TV.c (T.int .i64 (1 : Int)))] (TV.agg (qaK x1)))] [opI (.call [[0,0,1,4], [0,1]] [(TV.agg (qaC p)), (TV.agg (qaK x1))] (TV.agg (qaC x3))), .op .p]] hn (aC (qgR h2) <| aC (q60 h4) <| aN)
theorem qxH : ∀ K : Nat, q0R K
 | 0, c, r, h => by rw [qkF] at h; cases h
 | K + 1, .c0 .., r, h => fun cx hn => zbF (qxH K) hn h
theorem q4P {K : Nat} {p : qaD} {r : qaD} (h : qx6 K p = some r) : qc7 prog 89 [(TV.agg (qaC p))] (TV.agg (qaC r)) :=
 qbL [[0,0,1,4]] (by kernel_rfl) (by simp) fun cx hn => qxH K (.c0 p) r h cx hn
open Go.Proofs.Tryz (prog)
inductive qoJ where
 | c0 (p : qaD)
 | c1 (p : qaD) (b2 : qaD) (out : qaD) (x : qaD) (i : Int)
def qf6 : Nat → qoJ → Option qaD
 | 0, _ => none
 | K + 1, .c0 p =>
  bif (decide (p.Level ≤ (0 : Int))) then
   (qi7 K p.Const).bind fun x2 =>
   some (qaD.mk (0 : Int) x2 [])
  else
   bif (decide ((4 : Int) < p.Level)) then
    some (qaD.mk (0 : Int) (qaE.mk false []) [])
   else
    (qmJ K p (5 : Int)).bind fun x3 =>
    bif x3 then
     (qx6 K p).bind fun x6 =>
     some x6
    else
     (zhB K p.Level).bind fun x6 =>
     qf6 K (.c1 p (qaD.mk (0 : Int) (qaE.mk false []) []) (qaD.mk (0 : Int) (qaE.mk false []) []) x6 (wI6 ((p.Coefs.length : Int) - (1 : Int))))
 | _ + 1, .c1 _ _ out _ i =>
  bif (decide ((0 : Int) ≤ i)) then
   none
  else
   some out
def qqL (K : Nat) (p : qaD) : Option qaD := qf6 K (.c0 p)
noncomputable def qrP : Code := qcS prog 29
noncomputable def q8O : qoJ → List Fr
 | .c0 .. => [.code qrP]
 | .c1 .. => [.code (.loop (atC qrP [1,1,1,1,1,0,1,0,0])), .blk 0, .code (atC qrP [1,1,1,1,1,1])]
def zbL : qoJ → St
 | .c0 p => St.init [(TV.agg (qaC p))]
 | .c1 p b2 out x i => ⟨[(1, .c (C.ptr 1 0)), (2, .c (C.ptr 2 0)), (3, .c (C.ptr 3 0)), (4, .c (C.ptr 4 0)), (5, vi .i64 i)], [(1, .var ((qaC p).map C.t)), (2, .var ((qaC b2).map C.t)), (3, .var ((qaC out).map C.t)), (4, .var ((qaC x).map C.t))], []⟩
def qu0 (cx : Cx) (c : qoJ) (r : qaD) : Prop := Wk prog cx (qd8 prog 29 [[0,0,1,4]] (TV.agg (qaC r))) (q8O c) .normal (zbL c)
abbrev qu1 (K : Nat) : Prop := ∀ c r, qf6 K c = some r → ∀ cx : Cx, cx.n = 44 → qu0 cx c r
theorem zbN {K} (ih : qu1 K) {cx} (hn : cx.n = 44) {p} {r} (h : qf6 (K + 1) (.c0 p) = some r) : qu0 cx (.c0 p) r := by
 rw [qf6] at h
 rcases qa0 h with ⟨h1, h⟩ | ⟨h1, h⟩
 ·obtain ⟨x2, h3, h⟩ := qaU h
  have h := oinj h; subst h
  exact wkR [rg2, rg3, bTr, rgG [oo, oo, opI (.call [[0,1]] [(TV.agg (qaK p.Const))] (TV.agg (qaK x2))), oo, oo]] hn (aC h1 <| aC (qj3 h3) <| aN)
 ·rcases qa0 h with ⟨h2, h⟩ | ⟨h2, h⟩
  ·have h := oinj h; subst h
   exact wkR [rg2, rg3, bFa, rg3, bTr, rg2] hn (aC h1 <| aC h2 <| aN)
  ·obtain ⟨x3, h4, h⟩ := qaU h
   rcases qa0 h with ⟨h5, h⟩ | ⟨h5, h⟩
   ·obtain ⟨x6, h7, h⟩ := qaU h
    have h := oinj h; subst h
    exact wkR [rg2, rg3, bFa, rg3, bFa, rgG [oo, opI (.call [[0,0,1,4], [0]] [(TV.agg (qaC p)), (TV.c (T.int .i64 (5 : Int)))] (TV.c (T.bool x3)))], bTr, rgG [oo, opI (.call [[0,0,1,4]] [(TV.agg (qaC p))] (TV.agg (qaC x6))), oo]] hn (aC h1 <| aC h2 <| aC (qr8 h4) <| aC h5 <| aC (q4P h7) <| aN)
   ·obtain ⟨x6, h7, h⟩ := qaU h
    exact wkG [rg2, rg3, bFa, rg3, bFa, rgG [oo, opI (.call [[0,0,1,4], [0]] [(TV.agg (qaC p)), (TV.c (T.int .i64 (5 : Int)))] (TV.c (T.bool x3)))], bFa, rgG [oo, oo, oo, opI (.call [[0]] [(ti .i64 p.Level)] (TV.agg (qaC x6))), oo, oo, oo, oo], rgG [oo, oo, opI (.ln (p.Coefs.length : Int)), oo, oo], .pre [.tellB 2 [0,0,1,4], .tellB 3 [0,0,1,4], .keep [1,2,3,4,5] [1,2,3,4]]] hn (aC h1 <| aC h2 <| aC (qr8 h4) <| aC h5 <| aC (zbI h7) <| aC (qdI p.Coefs rid) <| aN) (ih _ _ h cx hn)
theorem zbM {K} (_ : qu1 K) {cx} (hn : cx.n = 44) {p b2 out x i} {r} (h : qf6 (K + 1) (.c1 p b2 out x i) = some r) : qu0 cx (.c1 p b2 out x i) r := by
 rw [qf6] at h
 rcases qa0 h with ⟨h1, h⟩ | ⟨h1, h⟩
 ·cases h
 ·have h := oinj h; subst h
  exact wkR [.go, rg2, bFa, rg2] hn (aC h1 <| aN)
theorem qsE : ∀ K : Nat, qu1 K
 | 0, c, r, h => by rw [qf6] at h; cases h
 | K + 1, .c0 .., r, h => fun cx hn => zbN (qsE K) hn h
 | K + 1, .c1 .., r, h => fun cx hn => zbM (qsE K) hn h
theorem qqF {K : Nat} {p : qaD} {r : qaD} (h : qqL K p = some r) : qc7 prog 29 [(TV.agg (qaC p))] (TV.agg (qaC r)) :=
 qbL [[0,0,1,4]] (by kernel_rfl) (by simp) fun cx hn => qsE K (.c0 p) r h cx hn
theorem zuU {cs : List P} (h : ∀ z, cs.getLast? = some z → z.isZ = false) : quW cs = cs := by
  rcases List.eq_nil_or_concat cs with rfl | ⟨l, z, e⟩
  · rfl
  · rw [List.concat_eq_append] at e
    subst e
    exact q2G l z (h z (by simp))
theorem zvI {lv : Nat} {cs : List P} (h2 : 2 ≤ cs.length) (h : ∀ z, cs.getLast? = some z → z.isZ = false) : zcN lv cs = .p lv cs := by
  unfold zcN
  rw [zuU h]
  cases cs with
  | nil => simp at h2
  | cons a l => cases l with
    | nil => simp at h2
    | cons b l => rfl
theorem zmW (n : Nat) : List.replicate n (qaC (qaD.mk (0 : Int) (qaE.mk false []) [])) = P.raws (List.replicate n (.k 0)) := by
  rw [qzZ, List.map_replicate]
  rw [show (P.k 0).enc = ⟨0, ⟨false, []⟩, []⟩ by rw [P.enc, q3I]]
theorem zl5 {b4 : qaD} {p : qaD} {c : qaE} {cs : List P} {r : qaD} (hl : cs.length ≤ 1000000)
    (hs : ∀ x ∈ cs, Ev (fun K => qr6 K x.enc c) x.enc) (hend : Ev (fun K => (qrV K p.Level (P.raws cs)).bind fun x2 => some x2) r) :
    ∀ (m i : Nat), i + m = cs.length → Ev (fun K => qeF K (.c1 p c b4 (P.raws (cs.take i ++ List.replicate m (.k 0))) (P.raws cs) (cs.length : Int) (i : Int))) r
  | 0, i, hi => by
    refine qaW ?_
    simp only [qeF]
    rw [List.take_of_length_le (by omega), List.replicate_zero, List.append_nil]
    exact ev_f (by simp; omega) hend
  | m + 1, i, hi => by
    obtain ⟨x, hx⟩ : ∃ c, cs[i]? = some c := ⟨_, List.getElem?_eq_getElem (by omega)⟩
    have hw : wI6 ((i : Int) + 1) = ((i + 1 : Nat) : Int) := by rw [qdF (by omega)]; omega
    have hai : (cs.take i ++ List.replicate (m + 1) (P.k 0))[i]? = some (.k 0) := by
      rw [List.getElem?_append_right (by simp; omega), List.length_take, show i - min i cs.length = 0 by omega]; rfl
    refine qaW ?_
    simp only [qeF, hw]
    refine ev_t (by simp; omega) (qb8 (qj7 hx) (qaR (hs x (List.mem_of_getElem? hx)) (qb8 (qj7 hai) ?_)))
    rw [Int.toNat_natCast, zmV]
    have e : (cs.take i ++ List.replicate (m + 1) (P.k 0)).set i x = cs.take (i + 1) ++ List.replicate m (.k 0) := by
      rw [List.set_append_right _ _ (by simp; omega), List.length_take, show i - min i cs.length = 0 by omega, List.take_add_one, hx, List.replicate_succ, List.set_cons_zero]
      simp
    rw [e]
    exact zl5 hl hs hend m (i + 1) (by omega)
theorem zsW : Sm (mkI 1) := qyJ (n := 1) (by omega) (by decide) (by decide)
theorem zeL {n m : Nat} (hn : n ≤ 1000000) (hm : m ≤ 1000000) : ∀ (L : Nat) (p : P), P.C L p → P.W n m p → Ev (fun K => qr6 K p.enc (mkI 1)) p.enc := by
  intro L
  induction L using Nat.strongRecOn with
  | _ L ih =>
    intro p hC hW
    refine qaW ?_
    simp only [qr6, qeF]
    cases p with
    | k c =>
      rw [P.W] at hW
      have sa := qrL hW hn
      have h1 := qn5 sa.1 zsW.1 (by have := sa.2; have := zsW.2; omega)
      rw [qdQ, qdQ, Int.mul_one] at h1
      exact ev_t rfl (qaR h1 (qa6 _))
    | p lv cs =>
      rw [P.C] at hC
      rw [P.W] at hW
      refine ev_f (by simp [P.enc]; omega) (qgA ?_ ?_)
      · simp only [P.enc, qe3]; omega
      · simp only [P.enc, qe3, Int.toNat_natCast]
        rw [zmW]
        have hj := q2T (lv := lv) hC.2.2.2.1 hW.2 hn (by omega)
        rw [zvI hC.2.2.1 hC.2.2.2.2] at hj
        have := zl5 (b4 := ⟨0, ⟨false, []⟩, []⟩) (p := (P.p lv cs).enc) (c := mkI 1) (cs := cs) (r := (P.p lv cs).enc) (by omega)
          (fun x hx => ih (lv - 1) (by omega) x (qtF hC.2.2.2.1 x hx) (qxA hW.2 x hx)) (qaR hj (qa6 _)) cs.length 0 (by omega)
        rw [List.take_zero, List.nil_append] at this
        exact this
theorem q6O {p : qaD} {cs : List P} (hp : p.Coefs = P.raws cs) (hl : cs.length ≤ 1000000) (hne : 1 ≤ cs.length)
    (hs : ∀ x ∈ cs, Ev (fun K => qmJ K x.enc p.Level) true) (hz : ∀ z, cs.getLast? = some z → Ev (fun K => qrU K z.enc) false) :
    ∀ (m i : Nat), i + m = cs.length → Ev (fun K => qdC K (.c1 p (P.raws cs) (cs.length : Int) (i : Int))) true
  | 0, i, hi => by
    refine qaW ?_
    have hw : wI6 ((cs.length : Int) - 1) = ((cs.length - 1 : Nat) : Int) := by rw [qdF (by omega)]; omega
    simp only [qdC, hp, qe3, hw]
    obtain ⟨z, hx⟩ : ∃ c, cs[cs.length - 1]? = some c := ⟨_, List.getElem?_eq_getElem (by omega)⟩
    refine ev_f (by simp; omega) (qb8 (qj7 hx) (qaR (hz z ?_) (qa6 _)))
    rw [List.getLast?_eq_getElem?, hx]
  | m + 1, i, hi => by
    obtain ⟨x, hx⟩ : ∃ c, cs[i]? = some c := ⟨_, List.getElem?_eq_getElem (by omega)⟩
    have hw : wI6 ((i : Int) + 1) = ((i + 1 : Nat) : Int) := by rw [qdF (by omega)]; omega
    refine qaW ?_
    simp only [qdC, hw]
    refine ev_t (by simp; omega) (qb8 (qj7 hx) (qaR (hs x (List.mem_of_getElem? hx)) (ev_f rfl ?_)))
    exact q6O hp hl hne hs hz m (i + 1) (by omega)
theorem q4R {n m : Nat} (hn : n ≤ 1000000) (hm : m ≤ 1000000) : ∀ (L : Nat) (p : P), P.C L p → P.W n m p → ∀ below : Int, (L : Int) < below → Ev (fun K => qmJ K p.enc below) true := by
  intro L
  induction L using Nat.strongRecOn with
  | _ L ih =>
    intro p hC hW below hb
    refine qaW ?_
    simp only [qmJ, qdC]
    cases p with
    | k c =>
      rw [P.W] at hW
      have sa := qrL hW hn
      have h1 := qhQ sa.1 (by have := sa.2; omega)
      rw [qdQ] at h1
      refine ev_t rfl (ev_t rfl (znJ (fun _ => qa6 _) fun h => qaR h1 (qe4 (qa6 _) ?_)))
      have hc : c < 0 := by simpa [P.enc, mkI] using h
      have := qm3 c 0
      have e : cmpI c 0 = -1 := by omega
      rw [e]; rfl
    | p lv cs =>
      have hC0 := hC
      rw [P.C] at hC
      rw [P.W] at hW
      have h0 := qhQ (a := ⟨false, []⟩) q32 (by decide)
      refine ev_f (decide_eq_false (by show ¬ ((lv : Int) = 0); omega)) (ev_f (decide_eq_false (by show ¬ ((lv : Int) < 0); omega)) (ev_f (decide_eq_false (by show ¬ (below ≤ (lv : Int)); omega)) (ev_f (by simp [P.enc, qe3]; omega) (qaR h0 (ev_f (by decide) ?_)))))
      have hh := q6O (p := (P.p lv cs).enc) (cs := cs) rfl (by omega) (by omega)
        (fun x hx => ih (lv - 1) (by omega) x (qtF hC.2.2.2.1 x hx) (qxA hW.2 x hx) _ (by show ((lv - 1 : Nat) : Int) < (lv : Int); omega))
        (fun z hz => by
          have hm := List.mem_of_getLast? hz
          have := q2Q (qtF hC.2.2.2.1 z hm) (qxA hW.2 z hm) hn
          rw [hC.2.2.2.2 z hz] at this
          exact this) cs.length 0 (by omega)
      simp only [P.enc, qe3] at hh ⊢
      exact hh
theorem qyO {n m : Nat} {p : P} (hC : P.C 4 p) (hW : P.W n m p) (hn : n ≤ 1000000) (hm : m ≤ 1000000) : Ev (fun K => qqL K p.enc) p.enc := by
  refine qaW ?_
  simp only [qqL, qf6]
  cases p with
  | k c =>
    rw [P.W] at hW
    have sa := qrL hW hn
    have h1 := qkU sa.1 (by have := sa.2; omega)
    rw [qdQ] at h1
    exact ev_t rfl (qaR h1 (qa6 _))
  | p lv cs =>
    have h1 := q4R hn hm 4 _ hC hW 5 (by decide)
    have h2 := zeL hn hm 4 _ hC hW
    rw [P.C] at hC
    refine ev_f (decide_eq_false (by show ¬ ((lv : Int) ≤ 0); omega)) (ev_f (decide_eq_false (by show ¬ (4 < (lv : Int)); omega)) (qaR h1 (ev_t rfl (qaR (x := (P.p lv cs).enc) ?_ (qa6 _)))))
    refine qaW ?_
    simp only [qx6, qkF]
    exact qaR (qnR (by omega)) (qaR h2 (qa6 _))
open Go.Proofs.Tryz (prog)
inductive qeV where
 | c0 (s : (List qaM))
def qdL : Nat → qeV → Option (List qaM)
 | 0, _ => none
 | _ + 1, .c0 s =>
  gd (0 ≤ (s.length : Int) ∧ 0 ≤ (s.length : Int) ∧ (s.length : Int).toNat ≤ (s.length : Int).toNat ∧ (s.length : Int).toNat ≤ s.length) <|
  some (s.take ((s.length : Int).toNat))
def qd1 (K : Nat) (s : (List qaM)) : Option (List qaM) := qdL K (.c0 s)
noncomputable def qoB : Code := qcS prog 180
noncomputable def qoZ : qeV → List Fr
 | .c0 .. => [.code qoB]
def qo1 : qeV → St
 | .c0 s => St.init [(tl 6 s qaA)]
def qjH (cx : Cx) (c : qeV) (r : (List qaM)) : Prop := Wk prog cx (qd8 prog 180 [[6]] (tl 6 r qaA)) (qoZ c) .normal (qo1 c)
abbrev qjI (K : Nat) : Prop := ∀ c r, qdL K c = some r → ∀ cx : Cx, cx.n = 9 → qjH cx c r
theorem qo2 {K} (_ : qjI K) {cx} (hn : cx.n = 9) {s} {r} (h : qdL (K + 1) (.c0 s) = some r) : qjH cx (.c0 s) r := by
 rw [qdL] at h
 obtain ⟨h1, h⟩ := qbV h
 have h := oinj h; subst h
 exact wkR [rg1, rgG [oo, oo, opI (.ln (s.length : Int)), oo, opI (.ln (s.length : Int)), opI (.slM 0 ((s.length : Int).toNat) ((s.length : Int).toNat) ((s.take ((s.length : Int).toNat)).map qaA)), oo]] hn (aC (qdI s qaA) <| aC (qdI s qaA) <| aC r0 <| aC (⟨h1.1, rfl⟩ : 0 ≤ (s.length : Int) ∧ (s.length : Int).toNat = (s.length : Int).toNat) <| aC (⟨h1.2.1, rfl⟩ : 0 ≤ (s.length : Int) ∧ (s.length : Int).toNat = (s.length : Int).toNat) <| aC (Nat.zero_le _ : 0 ≤ (s.length : Int).toNat) <| aC h1.2.2.1 <| aC (zm8 _ h1.2.2.2 : (s.length : Int).toNat ≤ (s.map qaA).length) <| aC (zgP _ _ _ : ((s.map qaA).take ((s.length : Int).toNat)).drop 0 = (s.take ((s.length : Int).toNat)).map qaA) <| aN)
theorem qiW : ∀ K : Nat, qjI K
 | 0, c, r, h => by rw [qdL] at h; cases h
 | K + 1, .c0 .., r, h => fun cx hn => qo2 (qiW K) hn h
theorem qfF {K : Nat} {s : (List qaM)} {r : (List qaM)} (h : qd1 K s = some r) : qc7 prog 180 [(tl 6 s qaA)] (tl 6 r qaA) :=
 qbL [[6]] (by kernel_rfl) (by simp) fun cx hn => qiW K (.c0 s) r h cx hn
open Go.Proofs.Tryz (prog)
inductive qi2 where
 | c0 (x : (List Int))
 | c1 (x : (List Int)) (m : Int) (i : Int)
def qcU : Nat → qi2 → Option Int
 | 0, _ => none
 | K + 1, .c0 x =>
  bif (decide ((x.length : Int) < (1 : Int))) then
   none
  else
   (gi x (0 : Int)).bind fun x2 =>
   qcU K (.c1 x x2 (1 : Int))
 | K + 1, .c1 x m i =>
  bif (decide (i < (x.length : Int))) then
   (gi x i).bind fun x2 =>
   qcU K (.c1 x (min m x2) (wI6 (i + (1 : Int))))
  else
   some m
def qi9 (K : Nat) (x : (List Int)) : Option Int := qcU K (.c0 x)
noncomputable def qlD : Code := qcS prog 176
noncomputable def qx5 : qi2 → List Fr
 | .c0 .. => [.code qlD]
 | .c1 .. => [.code (.loop (atC qlD [1,1,1,0,1,0,0])), .blk 0, .code (atC qlD [1,1,1,1])]
def qyK : qi2 → St
 | .c0 x => St.init [(tl 1 x q4A)]
 | .c1 x m i => ⟨[(0, vl 1 x q4A), (3, vi .i64 m), (4, vi .i64 i)], [], []⟩
def qnA (cx : Cx) (c : qi2) (r : Int) : Prop := Wk prog cx (qd8 prog 176 [[0]] (ti .i64 r)) (qx5 c) .normal (qyK c)
abbrev qnB (K : Nat) : Prop := ∀ c r, qcU K c = some r → ∀ cx : Cx, cx.n = 25 → qnA cx c r
theorem qyM {K} (ih : qnB K) {cx} (hn : cx.n = 25) {x} {r} (h : qcU (K + 1) (.c0 x) = some r) : qnA cx (.c0 x) r := by
 rw [qcU] at h
 rcases qa0 h with ⟨h1, h⟩ | ⟨h1, h⟩
 ·cases h
 ·obtain ⟨x2, h3, h⟩ := qaU h
  exact wkG [rg1, rgG [oo, opI (.ln (x.length : Int)), oo], bFa, rgG [oo, opI (.ix (q4A x2)), oo, oo], rg1, .pre [.keep [0,3,4] []]] hn (aC (qdI x q4A) <| aC h1 <| aC (qb5 h3) <| aC (qfP q4A h3) <| aN) (ih _ _ h cx hn)
theorem qyL {K} (ih : qnB K) {cx} (hn : cx.n = 25) {x m i} {r} (h : qcU (K + 1) (.c1 x m i) = some r) : qnA cx (.c1 x m i) r := by
 rw [qcU] at h
 rcases qa0 h with ⟨h1, h⟩ | ⟨h1, h⟩
 ·obtain ⟨x2, h3, h⟩ := qaU h
  exact wkG [.go, rgG [oo, oo, opI (.ln (x.length : Int)), oo], bTr, rgG [oo, oo, oo, opI (.ix (q4A x2)), oo, oo, oo], rg3, .pre [.keep [0,3,4] []]] hn (aC (qdI x q4A) <| aC h1 <| aC (qb5 h3) <| aC (qfP q4A h3) <| aN) (ih _ _ h cx hn)
 ·have h := oinj h; subst h
  exact wkR [.go, rgG [oo, oo, opI (.ln (x.length : Int)), oo], bFa, rg2] hn (aC (qdI x q4A) <| aC h1 <| aN)
theorem ql8 : ∀ K : Nat, qnB K
 | 0, c, r, h => by rw [qcU] at h; cases h
 | K + 1, .c0 .., r, h => fun cx hn => qyM (ql8 K) hn h
 | K + 1, .c1 .., r, h => fun cx hn => qyL (ql8 K) hn h
theorem qhJ {K : Nat} {x : (List Int)} {r : Int} (h : qi9 K x = some r) : qc7 prog 176 [(tl 1 x q4A)] (ti .i64 r) :=
 qbL [[0]] (by kernel_rfl) (by simp) fun cx hn => ql8 K (.c0 x) r h cx hn
open Go.Proofs.Tryz (prog)
inductive qcT where
 | c0 (a : Int) (b : Int)
 | c1 (a : Int) (b : Int) (i : Int)
 | c2 (a : Int) (b : Int) (i : Int) (j : Int)
 | c3 (a : Int) (b : Int) (i : Int)
def qaT : Nat → qcT → Option Unit
 | 0, _ => none
 | K + 1, .c0 a b =>
  qaT K (.c1 a b (wI6 (a + (1 : Int))))
 | K + 1, .c1 a b i =>
  bif (decide (i < b)) then
   qaT K (.c2 a b i i)
  else
   some ()
 | K + 1, .c2 a b i j =>
  bif (decide (a < j)) then
   none
  else
   qaT K (.c3 a b i)
 | K + 1, .c3 a b i =>
  qaT K (.c1 a b (wI6 (i + (1 : Int))))
def qcA (K : Nat) (a : Int) (b : Int) : Option Unit := qaT K (.c0 a b)
noncomputable def qbJ : Code := qcS prog 230
noncomputable def qgY : qcT → List Fr
 | .c0 .. => [.code qbJ]
 | .c1 .. => [.code (.loop (atC qbJ [1,0,0])), .blk 0]
 | .c2 .. => [.code (.loop (atC qbJ [1,0,0,1,0,0,1,0,0])), .blk 2, .blk 1, .code (atC qbJ [1,0,0,1,1]), .lp (atC qbJ [1,0,0]), .blk 0]
 | .c3 .. => [.code (atC qbJ [1,0,0,1,1]), .lp (atC qbJ [1,0,0]), .blk 0]
def qg9 : qcT → St
 | .c0 a b => St.init [(TV.c (T.sl 6 [])), (ti .i64 a), (ti .i64 b), (TV.c (T.fn 178))]
 | .c1 a b i => ⟨[(0, .c (C.t (T.sl 6 (([] : List qaM).map qaA)))), (1, vi .i64 a), (2, vi .i64 b), (3, .c (C.t (T.fn 178))), (8, vi .i64 i)], [], []⟩
 | .c2 a b i j => ⟨[(0, .c (C.t (T.sl 6 (([] : List qaM).map qaA)))), (1, vi .i64 a), (2, vi .i64 b), (3, .c (C.t (T.fn 178))), (8, vi .i64 i), (9, vi .i64 j)], [], []⟩
 | .c3 a b i => ⟨[(0, .c (C.t (T.sl 6 (([] : List qaM).map qaA)))), (1, vi .i64 a), (2, vi .i64 b), (3, .c (C.t (T.fn 178))), (8, vi .i64 i)], [], []⟩
def qb6 (cx : Cx) (c : qcT) (_ : Unit) : Prop := Wk prog cx (qd8 prog 230 [] (TV.tup [])) (qgY c) .normal (qg9 c)
abbrev qb7 (K : Nat) : Prop := ∀ c r, qaT K c = some r → ∀ cx : Cx, cx.n = 53 → qb6 cx c r
theorem qhD {K} (ih : qb7 K) {cx} (hn : cx.n = 53) {a b} {r} (h : qaT (K + 1) (.c0 a b) = some r) : qb6 cx (.c0 a b) r := by
 rw [qaT] at h
 exact q2E (fuel := 46) [rg3, .pre [.keep [0,1,2,3,8] []]] _ hn (by kernel_rfl) aN (ih _ _ h cx hn)
theorem qhC {K} (ih : qb7 K) {cx} (hn : cx.n = 53) {a b i} {r} (h : qaT (K + 1) (.c1 a b i) = some r) : qb6 cx (.c1 a b i) r := by
 rw [qaT] at h
 rcases qa0 h with ⟨h1, h⟩ | ⟨h1, h⟩
 ·exact wkG [.go, rg3, bTr, rg2, .pre [.keep [0,1,2,3,8,9] []]] hn (aC h1 <| aN) (ih _ _ h cx hn)
 ·have h := oinj h; subst h
  exact wkR [.go, rg3, bFa] hn (aC h1 <| aN)
theorem qhB {K} (ih : qb7 K) {cx} (hn : cx.n = 53) {a b i j} {r} (h : qaT (K + 1) (.c2 a b i j) = some r) : qb6 cx (.c2 a b i j) r := by
 rw [qaT] at h
 rcases qa0 h with ⟨h1, h⟩ | ⟨h1, h⟩
 ·cases h
 ·exact wkG [.go, .draw [.p, .p, .p, .p, (.ga false .p), (.ga false .p), (.ga false .p), (.ga false .p), (.ga false .p), (.ga false .p), (.ga false .p), (.ga false .p), (.ga false .p), (.ga false .p), (.ga false .p), (.ga false .p), (.pk false)] [], bFa, .pre [.keep [0,1,2,3,8] []]] hn (aC h1 <| aC h1 <| aC h1 <| aC h1 <| aC h1 <| aC h1 <| aC h1 <| aC h1 <| aC h1 <| aC h1 <| aC h1 <| aC h1 <| aC h1 <| aC rf <| aN) (ih _ _ h cx hn)
theorem qhA {K} (ih : qb7 K) {cx} (hn : cx.n = 53) {a b i} {r} (h : qaT (K + 1) (.c3 a b i) = some r) : qb6 cx (.c3 a b i) r := by
 rw [qaT] at h
 exact q2E (fuel := 44) [rg3, .pre [.keep [0,1,2,3,8] []]] _ hn (by kernel_rfl) aN (ih _ _ h cx hn)
theorem qb2 : ∀ K : Nat, qb7 K
 | 0, c, r, h => by rw [qaT] at h; cases h
 | K + 1, .c0 .., r, h => fun cx hn => qhD (qb2 K) hn h
 | K + 1, .c1 .., r, h => fun cx hn => qhC (qb2 K) hn h
 | K + 1, .c2 .., r, h => fun cx hn => qhB (qb2 K) hn h
 | K + 1, .c3 .., r, h => fun cx hn => qhA (qb2 K) hn h
theorem qeQ {K : Nat} {a : Int} {b : Int} {r : Unit} (h : qcA K a b = some r) : qc7 prog 230 [(TV.c (T.sl 6 [])), (ti .i64 a), (ti .i64 b), (TV.c (T.fn 178))] (TV.tup []) :=
 qbL [] (by kernel_rfl) (by simp) fun cx hn => qb2 K (.c0 a b) r h cx hn
open Go.Proofs.Tryz (prog)
inductive qc6 where
 | c0 (n : Int)
 | c1 (n : Int) (blockSize : Int) (a : Int) (b : Int)
 | c2 (n : Int) (blockSize : Int)
 | c3 (n : Int) (blockSize : Int) (a : Int) (b : Int)
def qaV : Nat → qc6 → Option Unit
 | 0, _ => none
 | K + 1, .c0 n =>
  qaV K (.c1 n (20 : Int) (0 : Int) (20 : Int))
 | K + 1, .c1 n blockSize a b =>
  bif (decide (b ≤ n)) then
   (qcA K a b).bind fun _ =>
   qaV K (.c1 n blockSize b (wI6 (b + blockSize)))
  else
   (qcA K a n).bind fun _ =>
   qaV K (.c2 n blockSize)
 | K + 1, .c2 n blockSize =>
  bif (decide (blockSize < n)) then
   qaV K (.c3 n blockSize (0 : Int) (wI6 ((2 : Int) * blockSize)))
  else
   some ()
 | K + 1, .c3 n blockSize a b =>
  bif (decide (b ≤ n)) then
   none
  else
   bif (decide ((wI6 (a + blockSize)) < n)) then
    none
   else
    qaV K (.c2 n (wI6 (blockSize * (2 : Int))))
def qeE (K : Nat) (n : Int) : Option Unit := qaV K (.c0 n)
noncomputable def qbS : Code := qcS prog 214
noncomputable def qiN : qc6 → List Fr
 | .c0 .. => [.code qbS]
 | .c1 .. => [.code (.loop (atC qbS [1,1,0,0,0])), .blk 0, .code (atC qbS [1,1,1])]
 | .c2 .. => [.code (.loop (atC qbS [1,1,1,1,0,0])), .blk 2]
 | .c3 .. => [.code (.loop (atC qbS [1,1,1,1,0,0,1,0,1,0,0,0])), .blk 4, .code (atC qbS [1,1,1,1,0,0,1,0,1,1]), .blk 3, .lp (atC qbS [1,1,1,1,0,0]), .blk 2]
def qiX : qc6 → St
 | .c0 n => St.init [(TV.c (T.sl 6 [])), (ti .i64 n), (TV.c (T.fn 178))]
 | .c1 n blockSize a b => ⟨[(0, .c (C.t (T.sl 6 (([] : List qaM).map qaA)))), (1, vi .i64 n), (2, .c (C.t (T.fn 178))), (6, vi .i64 blockSize), (7, vi .i64 a), (8, vi .i64 b)], [], []⟩
 | .c2 n blockSize => ⟨[(0, .c (C.t (T.sl 6 (([] : List qaM).map qaA)))), (1, vi .i64 n), (2, .c (C.t (T.fn 178))), (6, vi .i64 blockSize)], [], []⟩
 | .c3 n blockSize a b => ⟨[(0, .c (C.t (T.sl 6 (([] : List qaM).map qaA)))), (1, vi .i64 n), (2, .c (C.t (T.fn 178))), (6, vi .i64 blockSize), (7, vi .i64 a), (8, vi .i64 b)], [], []⟩
def qcO (cx : Cx) (c : qc6) (_ : Unit) : Prop := Wk prog cx (qd8 prog 214 [] (TV.tup [])) (qiN c) .normal (qiX c)
abbrev qcP (K : Nat) : Prop := ∀ c r, qaV K c = some r → ∀ cx : Cx, cx.n = 63 → qcO cx c r
theorem qi1 {K} (ih : qcP K) {cx} (hn : cx.n = 63) {n} {r} (h : qaV (K + 1) (.c0 n) = some r) : qcO cx (.c0 n) r := by
 rw [qaV] at h
 exact q2E (fuel := 56) [rg1, rg3, .pre [.keep [0,1,2,6,7,8] []]] _ hn (by kernel_rfl) aN (ih _ _ h cx hn)
theorem qi0 {K} (ih : qcP K) {cx} (hn : cx.n = 63) {n blockSize a b} {r} (h : qaV (K + 1) (.c1 n blockSize a b) = some r) : qcO cx (.c1 n blockSize a b) r := by
 rw [qaV] at h
 rcases qa0 h with ⟨h1, h⟩ | ⟨h1, h⟩
 ·obtain ⟨x2, h3, h⟩ := qaU h
  exact wkG [.go, rg3, bTr, rgG [oo, oo, oo, oo, opI (.call [[6], [0], [0], [0]] [(TV.c (T.sl 6 [])), (ti .i64 a), (ti .i64 b), (TV.c (T.fn 178))] (TV.tup []))], rg2, rg4, .pre [.keep [0,1,2,6,7,8] []]] hn (aC h1 <| aC (qeQ h3) <| aN) (ih _ _ h cx hn)
 ·obtain ⟨x2, h3, h⟩ := qaU h
  exact wkG [.go, rg3, bFa, rgG [oo, oo, oo, oo, opI (.call [[6], [0], [0], [0]] [(TV.c (T.sl 6 [])), (ti .i64 a), (ti .i64 n), (TV.c (T.fn 178))] (TV.tup []))], .pre [.keep [0,1,2,6] []]] hn (aC h1 <| aC (qeQ h3) <| aN) (ih _ _ h cx hn)
theorem qiZ {K} (ih : qcP K) {cx} (hn : cx.n = 63) {n blockSize} {r} (h : qaV (K + 1) (.c2 n blockSize) = some r) : qcO cx (.c2 n blockSize) r := by
 rw [qaV] at h
 rcases qa0 h with ⟨h1, h⟩ | ⟨h1, h⟩
 ·exact wkG [.go, rg3, bTr, rg4, .pre [.keep [0,1,2,6,7,8] []]] hn (aC h1 <| aN) (ih _ _ h cx hn)
 ·have h := oinj h; subst h
  exact wkR [.go, rg3, bFa] hn (aC h1 <| aN)
theorem qiY {K} (ih : qcP K) {cx} (hn : cx.n = 63) {n blockSize a b} {r} (h : qaV (K + 1) (.c3 n blockSize a b) = some r) : qcO cx (.c3 n blockSize a b) r := by
 rw [qaV] at h
 rcases qa0 h with ⟨h1, h⟩ | ⟨h1, h⟩
 ·cases h
 ·rcases qa0 h with ⟨h2, h⟩ | ⟨h2, h⟩
  ·cases h
  ·exact wkG [.go, rg3, bFa, rg4, rg3, bFa, rg3, .pre [.keep [0,1,2,6] []]] hn (aC h1 <| aC h2 <| aN) (ih _ _ h cx hn)
theorem qcJ : ∀ K : Nat, qcP K
 | 0, c, r, h => by rw [qaV] at h; cases h
 | K + 1, .c0 .., r, h => fun cx hn => qi1 (qcJ K) hn h
 | K + 1, .c1 .., r, h => fun cx hn => qi0 (qcJ K) hn h
 | K + 1, .c2 .., r, h => fun cx hn => qiZ (qcJ K) hn h
 | K + 1, .c3 .., r, h => fun cx hn => qiY (qcJ K) hn h
theorem qiD {K : Nat} {n : Int} {r : Unit} (h : qeE K n = some r) : qc7 prog 214 [(TV.c (T.sl 6 [])), (ti .i64 n), (TV.c (T.fn 178))] (TV.tup []) :=
 qbL [] (by kernel_rfl) (by simp) fun cx hn => qcJ K (.c0 n) r h cx hn
open Go.Proofs.Tryz (prog)
inductive qcE where
 | c0 
def qbN : Nat → qcE → Option Unit
 | 0, _ => none
 | K + 1, .c0  =>
  (qeE K (([] : List qaM).length : Int)).bind fun _ =>
  some ()
def qcN (K : Nat)  : Option Unit := qbN K .c0
noncomputable def qf5 : Code := qcS prog 177
noncomputable def qf9 : qcE → List Fr
 | .c0  => [.code qf5]
def qgC : qcE → St
 | .c0  => St.init [(TV.c (T.sl 6 [])), (TV.c (T.fn 178))]
def qeM (cx : Cx) (c : qcE) (_ : Unit) : Prop := Wk prog cx (qd8 prog 177 [] (TV.tup [])) (qf9 c) .normal (qgC c)
abbrev qeN (K : Nat) : Prop := ∀ c r, qbN K c = some r → ∀ cx : Cx, cx.n = 9 → qeM cx c r
theorem qgD {K} (_ : qeN K) {cx} (hn : cx.n = 9)  {r} (h : qbN (K + 1) .c0 = some r) : qeM cx .c0 r := by
 rw [qbN] at h
 obtain ⟨x1, h2, h⟩ := qaU h
 have h := oinj h; subst h
 exact wkR [rgG [oo, oo, opI (.ln (([] : List qaM).length : Int)), oo, opI (.call [[6], [0], [0]] [(TV.c (T.sl 6 [])), (TV.c (T.int .i64 (([] : List qaM).length : Int))), (TV.c (T.fn 178))] (TV.tup []))]] hn (aC (qdI ([] : List qaM) qaA) <| aC (qiD h2) <| aN)
theorem qeG : ∀ K : Nat, qeN K
 | 0, c, r, h => by rw [qbN] at h; cases h
 | K + 1, .c0, r, h => fun cx hn => qgD (qeG K) hn h
theorem qf3 {K : Nat}  {r : Unit} (h : qcN K  = some r) : qc7 prog 177 [(TV.c (T.sl 6 [])), (TV.c (T.fn 178))] (TV.tup []) :=
 qbL [] (by kernel_rfl) (by simp) fun cx hn => qeG K .c0 r h cx hn
open Go.Proofs.Tryz (prog)
inductive qk8 where
 | c0 (a : qa7) (b : qa7)
 | c1 (a : qa7) (b : qa7) (i : Int)
def qcG : Nat → qk8 → Option Int
 | 0, _ => none
 | K + 1, .c0 a b =>
  qcG K (.c1 a b (3 : Int))
 | K + 1, .c1 a b i =>
  bif (decide ((0 : Int) ≤ i)) then
   bif (decide (i = 0)) then
    bif (decide (a.e0 < b.e0)) then
     some (-1 : Int)
    else
     bif (decide (b.e0 < a.e0)) then
      some (1 : Int)
     else
      qcG K (.c1 a b (wI6 (i - (1 : Int))))
   else
    bif (decide (i = 1)) then
     bif (decide (a.e1 < b.e1)) then
      some (-1 : Int)
     else
      bif (decide (b.e1 < a.e1)) then
       some (1 : Int)
      else
       qcG K (.c1 a b (wI6 (i - (1 : Int))))
    else
     bif (decide (i = 2)) then
      bif (decide (a.e2 < b.e2)) then
       some (-1 : Int)
      else
       bif (decide (b.e2 < a.e2)) then
        some (1 : Int)
       else
        qcG K (.c1 a b (wI6 (i - (1 : Int))))
     else
      bif (decide (i = 3)) then
       bif (decide (a.e3 < b.e3)) then
        some (-1 : Int)
       else
        bif (decide (b.e3 < a.e3)) then
         some (1 : Int)
        else
         qcG K (.c1 a b (wI6 (i - (1 : Int))))
      else
       none
  else
   some (0 : Int)
def qoG (K : Nat) (a : qa7) (b : qa7) : Option Int := qcG K (.c0 a b)
noncomputable def qm9 : Code := qcS prog 179
noncomputable def q1Z : qk8 → List Fr
 | .c0 .. => [.code qm9]
 | .c1 .. => [.code (.loop (atC qm9 [1,0,1,0,0])), .blk 0, .code (atC qm9 [1,1])]
def q2J : qk8 → St
 | .c0 a b => St.init [(TV.agg (qbE a)), (TV.agg (qbE b))]
 | .c1 a b i => ⟨[(2, .c (C.ptr 2 0)), (3, .c (C.ptr 3 0)), (5, vi .i64 i)], [(2, .var ((qbE a).map C.t)), (3, .var ((qbE b).map C.t))], []⟩
def qqD (cx : Cx) (c : qk8) (r : Int) : Prop := Wk prog cx (qd8 prog 179 [[0]] (ti .i64 r)) (q1Z c) .normal (q2J c)
abbrev qqE (K : Nat) : Prop := ∀ c r, qcG K c = some r → ∀ cx : Cx, cx.n = 24 → qqD cx c r
theorem q2M {K} (ih : qqE K) {cx} (hn : cx.n = 24) {a b} {r} (h : qcG (K + 1) (.c0 a b) = some r) : qqD cx (.c0 a b) r := by
 rw [qcG] at h
 exact q2E (fuel := 56) [rg3, rg1, .pre [.keep [2,3,5] [2,3]]] _ hn (by kernel_rfl) aN (ih _ _ h cx hn)
theorem q2L {K} (ih : qqE K) {cx} (hn : cx.n = 24) {a b i} {r} (h : qcG (K + 1) (.c1 a b i) = some r) : qqD cx (.c1 a b i) r := by
 rw [qcG] at h
 rcases qa0 h with ⟨h1, h⟩ | ⟨h1, h⟩
 ·rcases qa0 h with ⟨h2, h⟩ | ⟨h2, h⟩
  ·rcases qa0 h with ⟨h3, h⟩ | ⟨h3, h⟩
   ·have h := oinj h; subst h
    exact wkR [.go, rg2, bTr, .draw [.p, (.ia 0), .p, .p, (.ia 0), .p] [.op .p], bTr, rg1] hn (aC h1 <| aC (of_decide_eq_true h2 : i = ((0 : Nat) : Int)) <| aC (of_decide_eq_true h2 : i = ((0 : Nat) : Int)) <| aC h3 <| aN)
   ·rcases qa0 h with ⟨h4, h⟩ | ⟨h4, h⟩
    ·have h := oinj h; subst h
     exact wkR [.go, rg2, bTr, .draw [.p, (.ia 0), .p, .p, (.ia 0), .p] [.op .p], bFa, .draw [.p, (.ia 0), .p, .p, (.ia 0), .p] [.op .p], bTr, rg1] hn (aC h1 <| aC (of_decide_eq_true h2 : i = ((0 : Nat) : Int)) <| aC (of_decide_eq_true h2 : i = ((0 : Nat) : Int)) <| aC h3 <| aC (of_decide_eq_true h2 : i = ((0 : Nat) : Int)) <| aC (of_decide_eq_true h2 : i = ((0 : Nat) : Int)) <| aC h4 <| aN)
    ·exact wkG [.go, rg2, bTr, .draw [.p, (.ia 0), .p, .p, (.ia 0), .p] [.op .p], bFa, .draw [.p, (.ia 0), .p, .p, (.ia 0), .p] [.op .p], bFa, rg3, .pre [.keep [2,3,5] [2,3]]] hn (aC h1 <| aC (of_decide_eq_true h2 : i = ((0 : Nat) : Int)) <| aC (of_decide_eq_true h2 : i = ((0 : Nat) : Int)) <| aC h3 <| aC (of_decide_eq_true h2 : i = ((0 : Nat) : Int)) <| aC (of_decide_eq_true h2 : i = ((0 : Nat) : Int)) <| aC h4 <| aN) (ih _ _ h cx hn)
  ·rcases qa0 h with ⟨h3, h⟩ | ⟨h3, h⟩
   ·rcases qa0 h with ⟨h4, h⟩ | ⟨h4, h⟩
    ·have h := oinj h; subst h
     exact wkR [.go, rg2, bTr, .draw [.p, (.ia 1), .p, .p, (.ia 1), .p] [.op .p], bTr, rg1] hn (aC h1 <| aC (of_decide_eq_true h3 : i = ((1 : Nat) : Int)) <| aC (of_decide_eq_true h3 : i = ((1 : Nat) : Int)) <| aC h4 <| aN)
    ·rcases qa0 h with ⟨h5, h⟩ | ⟨h5, h⟩
     ·have h := oinj h; subst h
      exact wkR [.go, rg2, bTr, .draw [.p, (.ia 1), .p, .p, (.ia 1), .p] [.op .p], bFa, .draw [.p, (.ia 1), .p, .p, (.ia 1), .p] [.op .p], bTr, rg1] hn (aC h1 <| aC (of_decide_eq_true h3 : i = ((1 : Nat) : Int)) <| aC (of_decide_eq_true h3 : i = ((1 : Nat) : Int)) <| aC h4 <| aC (of_decide_eq_true h3 : i = ((1 : Nat) : Int)) <| aC (of_decide_eq_true h3 : i = ((1 : Nat) : Int)) <| aC h5 <| aN)
     ·exact wkG [.go, rg2, bTr, .draw [.p, (.ia 1), .p, .p, (.ia 1), .p] [.op .p], bFa, .draw [.p, (.ia 1), .p, .p, (.ia 1), .p] [.op .p], bFa, rg3, .pre [.keep [2,3,5] [2,3]]] hn (aC h1 <| aC (of_decide_eq_true h3 : i = ((1 : Nat) : Int)) <| aC (of_decide_eq_true h3 : i = ((1 : Nat) : Int)) <| aC h4 <| aC (of_decide_eq_true h3 : i = ((1 : Nat) : Int)) <| aC (of_decide_eq_true h3 : i = ((1 : Nat) : Int)) <| aC h5 <| aN) (ih _ _ h cx hn)
   ·rcases qa0 h with ⟨h4, h⟩ | ⟨h4, h⟩
    ·rcases qa0 h with ⟨h5, h⟩ | ⟨h5, h⟩
     ·have h := oinj h; subst h
      exact wkR [.go, rg2, bTr, .draw [.p, (.ia 2), .p, .p, (.ia 2), .p] [.op .p], bTr, rg1] hn (aC h1 <| aC (of_decide_eq_true h4 : i = ((2 : Nat) : Int)) <| aC (of_decide_eq_true h4 : i = ((2 : Nat) : Int)) <| aC h5 <| aN)
     ·rcases qa0 h with ⟨h6, h⟩ | ⟨h6, h⟩
      ·have h := oinj h; subst h
       exact wkR [.go, rg2, bTr, .draw [.p, (.ia 2), .p, .p, (.ia 2), .p] [.op .p], bFa, .draw [.p, (.ia 2), .p, .p, (.ia 2), .p] [.op .p], bTr, rg1] hn (aC h1 <| aC (of_decide_eq_true h4 : i = ((2 : Nat) : Int)) <| aC (of_decide_eq_true h4 : i = ((2 : Nat) : Int)) <| aC h5 <| aC (of_decide_eq_true h4 : i = ((2 : Nat) : Int)) <| aC (of_decide_eq_true h4 : i = ((2 : Nat) : Int)) <| aC h6 <| aN)
      ·exact wkG [.go, rg2, bTr, .draw [.p, (.ia 2), .p, .p, (.ia 2), .p] [.op .p], bFa, .draw [.p, (.ia 2), .p, .p, (.ia 2), .p] [.op .p], bFa, rg3, .pre [.keep [2,3,5] [2,3]]] hn (aC h1 <| aC (of_decide_eq_true h4 : i = ((2 : Nat) : Int)) <| aC (of_decide_eq_true h4 : i = ((2 : Nat) : Int)) <| aC h5 <| aC (of_decide_eq_true h4 : i = ((2 : Nat) : Int)) <| aC (of_decide_eq_true h4 : i = ((2 : Nat) : Int)) <| aC h6 <| aN) (ih _ _ h cx hn)
    ·rcases qa0 h with ⟨h5, h⟩ | ⟨h5, h⟩
     ·rcases qa0 h with ⟨h6, h⟩ | ⟨h6, h⟩
      ·have h := oinj h; subst h
       exact wkR [.go, rg2, bTr, .draw [.p, (.ia 3), .p, .p, (.ia 3), .p] [.op .p], bTr, rg1] hn (aC h1 <| aC (of_decide_eq_true h5 : i = ((3 : Nat) : Int)) <| aC (of_decide_eq_true h5 : i = ((3 : Nat) : Int)) <| aC h6 <| aN)
      ·rcases qa0 h with ⟨h7, h⟩ | ⟨h7, h⟩
       ·have h := oinj h; subst h
        exact wkR [.go, rg2, bTr, .draw [.p, (.ia 3), .p, .p, (.ia 3), .p] [.op .p], bFa, .draw [.p, (.ia 3), .p, .p, (.ia 3), .p] [.op .p], bTr, rg1] hn (aC h1 <| aC (of_decide_eq_true h5 : i = ((3 : Nat) : Int)) <| aC (of_decide_eq_true h5 : i = ((3 : Nat) : Int)) <| aC h6 <| aC (of_decide_eq_true h5 : i = ((3 : Nat) : Int)) <| aC (of_decide_eq_true h5 : i = ((3 : Nat) : Int)) <| aC h7 <| aN)
       ·exact wkG [.go, rg2, bTr, .draw [.p, (.ia 3), .p, .p, (.ia 3), .p] [.op .p], bFa, .draw [.p, (.ia 3), .p, .p, (.ia 3), .p] [.op .p], bFa, rg3, .pre [.keep [2,3,5] [2,3]]] hn (aC h1 <| aC (of_decide_eq_true h5 : i = ((3 : Nat) : Int)) <| aC (of_decide_eq_true h5 : i = ((3 : Nat) : Int)) <| aC h6 <| aC (of_decide_eq_true h5 : i = ((3 : Nat) : Int)) <| aC (of_decide_eq_true h5 : i = ((3 : Nat) : Int)) <| aC h7 <| aN) (ih _ _ h cx hn)
     ·cases h
 ·have h := oinj h; subst h
  exact wkR [.go, rg2, bFa, rg1] hn (aC h1 <| aN)
theorem qoA : ∀ K : Nat, qqE K
 | 0, c, r, h => by rw [qcG] at h; cases h
 | K + 1, .c0 .., r, h => fun cx hn => q2M (qoA K) hn h
 | K + 1, .c1 .., r, h => fun cx hn => q2L (qoA K) hn h
theorem qyI {K : Nat} {a : qa7} {b : qa7} {r : Int} (h : qoG K a b = some r) : qc7 prog 179 [(TV.agg (qbE a)), (TV.agg (qbE b))] (ti .i64 r) :=
 qbL [[0]] (by kernel_rfl) (by simp) fun cx hn => qoA K (.c0 a b) r h cx hn
open Go.Proofs.Tryz (prog)
inductive qm8 where
 | c0 (a : qaM) (b : qaM)
def qjG : Nat → qm8 → Option Int
 | 0, _ => none
 | K + 1, .c0 a b =>
  (qoG K b.Exp a.Exp).bind fun x1 =>
  some x1
def qkX (K : Nat) (a : qaM) (b : qaM) : Option Int := qjG K (.c0 a b)
noncomputable def q4O : Code := qcS prog 178
noncomputable def q6T : qm8 → List Fr
 | .c0 .. => [.code q4O]
def q79 : qm8 → St
 | .c0 a b => St.init [(TV.agg (qaA a)), (TV.agg (qaA b))]
def qyG (cx : Cx) (c : qm8) (r : Int) : Prop := Wk prog cx (qd8 prog 178 [[0]] (ti .i64 r)) (q6T c) .normal (q79 c)
abbrev qyH (K : Nat) : Prop := ∀ c r, qjG K c = some r → ∀ cx : Cx, cx.n = 10 → qyG cx c r
theorem q8A {K} (_ : qyH K) {cx} (hn : cx.n = 10) {a b} {r} (h : qjG (K + 1) (.c0 a b) = some r) : qyG cx (.c0 a b) r := by
 rw [qjG] at h
 obtain ⟨x1, h2, h⟩ := qaU h
 have h := oinj h; subst h
 exact wkR [rg3, rgG [oo, oo, oo, oo, opI (.call [[0,0,0,0], [0,0,0,0]] [(TV.agg (qbE b.Exp)), (TV.agg (qbE a.Exp))] (ti .i64 x1)), oo]] hn (aC (qyI h2) <| aN)
theorem qv2 : ∀ K : Nat, qyH K
 | 0, c, r, h => by rw [qjG] at h; cases h
 | K + 1, .c0 .., r, h => fun cx hn => q8A (qv2 K) hn h
theorem qfB {K : Nat} {a : qaM} {b : qaM} {r : Int} (h : qkX K a b = some r) : qc7 prog 178 [(TV.agg (qaA a)), (TV.agg (qaA b))] (ti .i64 r) :=
 qbL [[0]] (by kernel_rfl) (by simp) fun cx hn => qv2 K (.c0 a b) r h cx hn
open Go.Proofs.Tryz (prog)
inductive qcR where
 | c0 (row : (List qaM)) (a : Int) (b : Int)
 | c1 (r22 : (List qaM)) (a : Int) (b : Int) (i : Int)
 | c2 (r22 : (List qaM)) (a : Int) (b : Int) (i : Int) (j : Int)
 | c3 (r22 : (List qaM)) (a : Int) (b : Int) (i : Int)
def qaO : Nat → qcR → Option (List qaM)
 | 0, _ => none
 | K + 1, .c0 row a b =>
  qaO K (.c1 row a b (wI6 (a + (1 : Int))))
 | K + 1, .c1 r22 a b i =>
  bif (decide (i < b)) then
   qaO K (.c2 r22 a b i i)
  else
   some r22
 | K + 1, .c2 r22 a b i j =>
  bif (decide (a < j)) then
   (gi r22 j).bind fun x2 =>
   (gi r22 (wI6 (j - (1 : Int)))).bind fun x4 =>
   (qkX K x2 x4).bind fun x6 =>
   bif (decide (x6 < (0 : Int))) then
    (gi r22 (wI6 (j - (1 : Int)))).bind fun x9 =>
    (gi r22 j).bind fun x11 =>
    (gi r22 j).bind fun _ =>
    (gi (r22.set (j.toNat) x9) (wI6 (j - (1 : Int)))).bind fun _ =>
    qaO K (.c2 ((r22.set (j.toNat) x9).set ((wI6 (j - (1 : Int))).toNat) x11) a b i (wI6 (j - (1 : Int))))
   else
    qaO K (.c3 r22 a b i)
  else
   qaO K (.c3 r22 a b i)
 | K + 1, .c3 r22 a b i =>
  qaO K (.c1 r22 a b (wI6 (i + (1 : Int))))
def qb9 (K : Nat) (row : (List qaM)) (a : Int) (b : Int) : Option (List qaM) := qaO K (.c0 row a b)
noncomputable def qbH : Code := qm5 prog 230
noncomputable def qgS : qcR → List Fr
 | .c0 .. => [.code qbH]
 | .c1 .. => [.code (.loop (atC qbH [1,0,0])), .blk 0]
 | .c2 .. => [.code (.loop (atC qbH [1,0,0,1,0,0,1,0,0])), .blk 2, .blk 1, .code (atC qbH [1,0,0,1,1]), .lp (atC qbH [1,0,0]), .blk 0]
 | .c3 .. => [.code (atC qbH [1,0,0,1,1]), .lp (atC qbH [1,0,0]), .blk 0]
def qgT (H : List (Nat × Blk)) (exs : List V) : qcR → St
 | .c0 row a b => ⟨idxV 0 [.c (C.row 22 0 row.length), vi .i64 a, vi .i64 b, .c (C.t (T.fn 178))], [(22, .row 173 6 (row.map qaA) 0)] ++ H, exs⟩
 | .c1 r22 a b i => ⟨[(0, .c (C.row 22 0 r22.length)), (1, vi .i64 a), (2, vi .i64 b), (3, .c (C.t (T.fn 178))), (8, vi .i64 i)], [(22, .row 173 6 (r22.map qaA) 0)] ++ H, exs⟩
 | .c2 r22 a b i j => ⟨[(0, .c (C.row 22 0 r22.length)), (1, vi .i64 a), (2, vi .i64 b), (3, .c (C.t (T.fn 178))), (8, vi .i64 i), (9, vi .i64 j)], [(22, .row 173 6 (r22.map qaA) 0)] ++ H, exs⟩
 | .c3 r22 a b i => ⟨[(0, .c (C.row 22 0 r22.length)), (1, vi .i64 a), (2, vi .i64 b), (3, .c (C.t (T.fn 178))), (8, vi .i64 i)], [(22, .row 173 6 (r22.map qaA) 0)] ++ H, exs⟩
def qb3 (cx : Cx) (H : List (Nat × Blk)) (exs : List V) (c : qcR) (r : (List qaM)) : Prop := Wk prog cx (zlP prog 230 ([(22, .row 173 6 (r.map qaA) 0)] ++ H) exs (.tup [])) (qgS c) .normal (qgT H exs c)
abbrev qb4 (K : Nat) : Prop := ∀ c r, qaO K c = some r → ∀ cx : Cx, cx.n = 53 → ∀ H exs, qb3 cx H exs c r
theorem qgX {K} (ih : qb4 K) {cx} (hn : cx.n = 53) (H : List (Nat × Blk)) (exs : List V) {row a b} {r} (h : qaO (K + 1) (.c0 row a b) = some r) : qb3 cx H exs (.c0 row a b) r := by
 rw [qaO] at h
 exact wkG [rg3, .pre [.rl 0 0 row.length, .keepT [0,1,2,3,8]]] hn (aC r0 <| aC (lq row) <| aN) (ih _ _ h cx hn H exs)
theorem qgW {K} (ih : qb4 K) {cx} (hn : cx.n = 53) (H : List (Nat × Blk)) (exs : List V) {r22 a b i} {r} (h : qaO (K + 1) (.c1 r22 a b i) = some r) : qb3 cx H exs (.c1 r22 a b i) r := by
 rw [qaO] at h
 rcases qa0 h with ⟨h1, h⟩ | ⟨h1, h⟩
 ·exact wkG [.go, rg3, bTr, rg2, .pre [.rl 0 0 r22.length, .keepT [0,1,2,3,8,9]]] hn (aC h1 <| aC r0 <| aC (lq r22) <| aN) (ih _ _ h cx hn H exs)
 ·have h := oinj h; subst h
  exact qfK (fuel := 68) [.go, rg3, bFa]
   _
   ((22, .row 173 6 (r22.map qaA) 0) :: H) hn (by kernel_rfl) (aC h1 <| aN) (fun _ => rfl)
theorem qgV {K} (ih : qb4 K) {cx} (hn : cx.n = 53) (H : List (Nat × Blk)) (exs : List V) {r22 a b i j} {r} (h : qaO (K + 1) (.c2 r22 a b i j) = some r) : qb3 cx H exs (.c2 r22 a b i j) r := by
 rw [qaO] at h
 rcases qa0 h with ⟨h1, h⟩ | ⟨h1, h⟩
 ·obtain ⟨x2, h3, h⟩ := qaU h
  obtain ⟨x4, h5, h⟩ := qaU h
  obtain ⟨x6, h7, h⟩ := qaU h
  rcases qa0 h with ⟨h8, h⟩ | ⟨h8, h⟩
  ·obtain ⟨x9, h10, h⟩ := qaU h
   obtain ⟨x11, h12, h⟩ := qaU h
   obtain ⟨x13, h14, h⟩ := qaU h
   obtain ⟨x15, h16, h⟩ := qaU h
   exact wkG [.go, .draw [.p, .p, .p, .p, (.ga true .p), (.ga true .mv), (.ga true .p), (.ga true .ir), (.ga true (.ld (qaA x2))), (.ga true .mv), (.ga true .p), (.ga true .p), (.ga true .ir), (.ga true (.ld (qaA x4))), (.ga true (.call [[0,1,0,0,0,0], [0,1,0,0,0,0]] [(TV.agg (qaA x2)), (TV.agg (qaA x4))] (ti .i64 x6))), (.ga true .p), (.pk true)] [], bTr, .draw [.mv, .p, .mv, .p, .p, .mv, .p, .p, .ir, (.ld (qaA x9)), .mv, .p, .ir, (.ld (qaA x11)), .ir, (.st (qaA x13) ((r22.set (j.toNat) x9).map qaA))] [.op .ir, opI (.st (qaA x15) (((r22.set (j.toNat) x9).set ((wI6 (j - (1 : Int))).toNat) x11).map qaA))], rg3, .pre [.rl 0 0 ((r22.set (j.toNat) x9).set ((wI6 (j - (1 : Int))).toNat) x11).length, .nrm 2, .keepT [0,1,2,3,8,9]]] hn (aC h1 <| aC h1 <| aC h1 <| aC h1 <| aC (qb5 h3) <| aC (qc1 h3 (by simp) : j < ((r22.length : Nat) : Int)) <| aC h1 <| aC (qc2 qaA h3 : (r22.map qaA)[(0 + j.toNat)]? = some (qaA x2)) <| aC h1 <| aC h1 <| aC h1 <| aC h1 <| aC (qb5 h5) <| aC (qc1 h5 (by simp) : (wI6 (j - (1 : Int))) < ((r22.length : Nat) : Int)) <| aC h1 <| aC (qc2 qaA h5 : (r22.map qaA)[(0 + (wI6 (j - (1 : Int))).toNat)]? = some (qaA x4)) <| aC h1 <| aC (qfB h7) <| aC h1 <| aC h1 <| aC h8 <| aC (qb5 h10) <| aC (qc1 h10 (by simp) : (wI6 (j - (1 : Int))) < ((r22.length : Nat) : Int)) <| aC (qc2 qaA h10 : (r22.map qaA)[(0 + (wI6 (j - (1 : Int))).toNat)]? = some (qaA x9)) <| aC (qb5 h12) <| aC (qc1 h12 (by simp) : j < ((r22.length : Nat) : Int)) <| aC (qc2 qaA h12 : (r22.map qaA)[(0 + j.toNat)]? = some (qaA x11)) <| aC (qb5 h14) <| aC (qc1 h14 (by simp) : j < ((r22.length : Nat) : Int)) <| aC (qc2 qaA h14 : (r22.map qaA)[(0 + j.toNat)]? = some (qaA x13)) <| aC (qe8 _ _ x9 _ : (r22.map qaA).set (0 + j.toNat) (qdH (qaA x13) 0 [(T.bool x9.Coef.Neg), (T.sl 1 (x9.Coef.Abs.map qaF)), (T.int .i64 x9.Exp.e0), (T.int .i64 x9.Exp.e1), (T.int .i64 x9.Exp.e2), (T.int .i64 x9.Exp.e3)]) = (r22.set (j.toNat) x9).map qaA) <| aC (Nat.zero_le _ : 0 ≤ (0 + j.toNat)) <| aC (qb5 h16) <| aC (qc1 h16 (by simp) : (wI6 (j - (1 : Int))) < ((r22.length : Nat) : Int)) <| aC (qc2 qaA h16 : ((r22.set (j.toNat) x9).map qaA)[(0 + (wI6 (j - (1 : Int))).toNat)]? = some (qaA x15)) <| aC (qe8 _ _ x11 _ : ((r22.set (j.toNat) x9).map qaA).set (0 + (wI6 (j - (1 : Int))).toNat) (qdH (qaA x15) 0 [(T.bool x11.Coef.Neg), (T.sl 1 (x11.Coef.Abs.map qaF)), (T.int .i64 x11.Exp.e0), (T.int .i64 x11.Exp.e1), (T.int .i64 x11.Exp.e2), (T.int .i64 x11.Exp.e3)]) = ((r22.set (j.toNat) x9).set ((wI6 (j - (1 : Int))).toNat) x11).map qaA) <| aC (Nat.zero_le _ : 0 ≤ (0 + (wI6 (j - (1 : Int))).toNat)) <| aC r0 <| aC (by simp : r22.length = ((r22.set (j.toNat) x9).set ((wI6 (j - (1 : Int))).toNat) x11).length) <| aN) (ih _ _ h cx hn H exs)
  ·exact wkG [.go, .draw [.p, .p, .p, .p, (.ga true .p), (.ga true .mv), (.ga true .p), (.ga true .ir), (.ga true (.ld (qaA x2))), (.ga true .mv), (.ga true .p), (.ga true .p), (.ga true .ir), (.ga true (.ld (qaA x4))), (.ga true (.call [[0,1,0,0,0,0], [0,1,0,0,0,0]] [(TV.agg (qaA x2)), (TV.agg (qaA x4))] (ti .i64 x6))), (.ga true .p), (.pk true)] [], bFa, .pre [.rl 0 0 r22.length, .keepT [0,1,2,3,8]]] hn (aC h1 <| aC h1 <| aC h1 <| aC h1 <| aC (qb5 h3) <| aC (qc1 h3 (by simp) : j < ((r22.length : Nat) : Int)) <| aC h1 <| aC (qc2 qaA h3 : (r22.map qaA)[(0 + j.toNat)]? = some (qaA x2)) <| aC h1 <| aC h1 <| aC h1 <| aC h1 <| aC (qb5 h5) <| aC (qc1 h5 (by simp) : (wI6 (j - (1 : Int))) < ((r22.length : Nat) : Int)) <| aC h1 <| aC (qc2 qaA h5 : (r22.map qaA)[(0 + (wI6 (j - (1 : Int))).toNat)]? = some (qaA x4)) <| aC h1 <| aC (qfB h7) <| aC h1 <| aC h1 <| aC h8 <| aC r0 <| aC (lq r22) <| aN) (ih _ _ h cx hn H exs)
 ·exact wkG [.go, .draw [.p, .p, .p, .p, (.ga false .p), (.ga false .p), (.ga false .p), (.ga false .p), (.ga false .p), (.ga false .p), (.ga false .p), (.ga false .p), (.ga false .p), (.ga false .p), (.ga false .p), (.ga false .p), (.pk false)] [], bFa, .pre [.rl 0 0 r22.length, .keepT [0,1,2,3,8]]] hn (aC h1 <| aC h1 <| aC h1 <| aC h1 <| aC h1 <| aC h1 <| aC h1 <| aC h1 <| aC h1 <| aC h1 <| aC h1 <| aC h1 <| aC h1 <| aC rf <| aC r0 <| aC (lq r22) <| aN) (ih _ _ h cx hn H exs)
theorem qgU {K} (ih : qb4 K) {cx} (hn : cx.n = 53) (H : List (Nat × Blk)) (exs : List V) {r22 a b i} {r} (h : qaO (K + 1) (.c3 r22 a b i) = some r) : qb3 cx H exs (.c3 r22 a b i) r := by
 rw [qaO] at h
 exact wkG [rg3, .pre [.rl 0 0 r22.length, .keepT [0,1,2,3,8]]] hn (aC r0 <| aC (lq r22) <| aN) (ih _ _ h cx hn H exs)
theorem qbZ : ∀ K : Nat, qb4 K
 | 0, c, r, h => by rw [qaO] at h; cases h
 | K + 1, .c0 .., r, h => fun cx hn H exs => qgX (qbZ K) hn H exs h
 | K + 1, .c1 .., r, h => fun cx hn H exs => qgW (qbZ K) hn H exs h
 | K + 1, .c2 .., r, h => fun cx hn H exs => qgV (qbZ K) hn H exs h
 | K + 1, .c3 .., r, h => fun cx hn H exs => qgU (qbZ K) hn H exs h
theorem qeL {K : Nat} {row : (List qaM)} {a : Int} {b : Int} {r : (List qaM)} (h : qb9 K row a b = some r) : qk6 prog 230 [.c (C.row 22 0 row.length), vi .i64 a, vi .i64 b, .c (C.t (T.fn 178))] [(22, .row 173 6 (row.map qaA) 0)] [(22, .row 173 6 (r.map qaA) 0)] (.tup []) :=
 qs8 (n := 53) (by kernel_rfl) (by simp) fun cx hn H exs => qbZ K (.c0 row a b) r h cx hn H exs
open Go.Proofs.Tryz (prog)
inductive qcY where
 | c0 (row : (List qaM)) (a : Int) (b : Int) (n : Int)
 | c1 (r22 : (List qaM)) (a : Int) (b : Int) (n : Int) (i : Int)
def qa2 : Nat → qcY → Option (List qaM)
 | 0, _ => none
 | K + 1, .c0 row a b n =>
  qa2 K (.c1 row a b n (0 : Int))
 | K + 1, .c1 r22 a b n i =>
  bif (decide (i < n)) then
   (gi r22 (wI6 (b + i))).bind fun x2 =>
   (gi r22 (wI6 (a + i))).bind fun x4 =>
   (gi r22 (wI6 (a + i))).bind fun _ =>
   (gi (r22.set ((wI6 (a + i)).toNat) x2) (wI6 (b + i))).bind fun _ =>
   qa2 K (.c1 ((r22.set ((wI6 (a + i)).toNat) x2).set ((wI6 (b + i)).toNat) x4) a b n (wI6 (i + (1 : Int))))
  else
   some r22
def qbX (K : Nat) (row : (List qaM)) (a : Int) (b : Int) (n : Int) : Option (List qaM) := qa2 K (.c0 row a b n)
noncomputable def qeW : Code := qm5 prog 237
noncomputable def qhH : qcY → List Fr
 | .c0 .. => [.code qeW]
 | .c1 .. => [.code (.loop (atC qeW [1,0,0])), .blk 0]
def qhY (H : List (Nat × Blk)) (exs : List V) : qcY → St
 | .c0 row a b n => ⟨idxV 0 [.c (C.row 22 0 row.length), vi .i64 a, vi .i64 b, vi .i64 n, .c (C.t (T.fn 178))], [(22, .row 173 6 (row.map qaA) 0)] ++ H, exs⟩
 | .c1 r22 a b n i => ⟨[(0, .c (C.row 22 0 r22.length)), (1, vi .i64 a), (2, vi .i64 b), (3, vi .i64 n), (10, vi .i64 i)], [(22, .row 173 6 (r22.map qaA) 0)] ++ H, exs⟩
def qdY (cx : Cx) (H : List (Nat × Blk)) (exs : List V) (c : qcY) (r : (List qaM)) : Prop := Wk prog cx (zlP prog 237 ([(22, .row 173 6 (r.map qaA) 0)] ++ H) exs (.tup [])) (qhH c) .normal (qhY H exs c)
abbrev qdZ (K : Nat) : Prop := ∀ c r, qa2 K c = some r → ∀ cx : Cx, cx.n = 38 → ∀ H exs, qdY cx H exs c r
theorem qh0 {K} (ih : qdZ K) {cx} (hn : cx.n = 38) (H : List (Nat × Blk)) (exs : List V) {row a b n} {r} (h : qa2 (K + 1) (.c0 row a b n) = some r) : qdY cx H exs (.c0 row a b n) r := by
 rw [qa2] at h
 exact wkG [rg1, .pre [.rl 0 0 row.length, .keepT [0,1,2,3,10]]] hn (aC r0 <| aC (lq row) <| aN) (ih _ _ h cx hn H exs)
theorem qhZ {K} (ih : qdZ K) {cx} (hn : cx.n = 38) (H : List (Nat × Blk)) (exs : List V) {r22 a b n i} {r} (h : qa2 (K + 1) (.c1 r22 a b n i) = some r) : qdY cx H exs (.c1 r22 a b n i) r := by
 rw [qa2] at h
 rcases qa0 h with ⟨h1, h⟩ | ⟨h1, h⟩
 ·obtain ⟨x2, h3, h⟩ := qaU h
  obtain ⟨x4, h5, h⟩ := qaU h
  obtain ⟨x6, h7, h⟩ := qaU h
  obtain ⟨x8, h9, h⟩ := qaU h
  exact wkG [.go, rg3, bTr, .draw [.mv, .p, .p, .p, .mv, .p, .p, .p, .mv, .p, .p, .p, .ir, (.ld (qaA x2)), .mv, .p, .p, .p, .ir, (.ld (qaA x4)), .ir, (.st (qaA x6) ((r22.set ((wI6 (a + i)).toNat) x2).map qaA))] [.op .ir, opI (.st (qaA x8) (((r22.set ((wI6 (a + i)).toNat) x2).set ((wI6 (b + i)).toNat) x4).map qaA))], rg3, .pre [.rl 0 0 ((r22.set ((wI6 (a + i)).toNat) x2).set ((wI6 (b + i)).toNat) x4).length, .nrm 2, .keepT [0,1,2,3,10]]] hn (aC h1 <| aC (qb5 h3) <| aC (qc1 h3 (by simp) : (wI6 (b + i)) < ((r22.length : Nat) : Int)) <| aC (qc2 qaA h3 : (r22.map qaA)[(0 + (wI6 (b + i)).toNat)]? = some (qaA x2)) <| aC (qb5 h5) <| aC (qc1 h5 (by simp) : (wI6 (a + i)) < ((r22.length : Nat) : Int)) <| aC (qc2 qaA h5 : (r22.map qaA)[(0 + (wI6 (a + i)).toNat)]? = some (qaA x4)) <| aC (qb5 h7) <| aC (qc1 h7 (by simp) : (wI6 (a + i)) < ((r22.length : Nat) : Int)) <| aC (qc2 qaA h7 : (r22.map qaA)[(0 + (wI6 (a + i)).toNat)]? = some (qaA x6)) <| aC (qe8 _ _ x2 _ : (r22.map qaA).set (0 + (wI6 (a + i)).toNat) (qdH (qaA x6) 0 [(T.bool x2.Coef.Neg), (T.sl 1 (x2.Coef.Abs.map qaF)), (T.int .i64 x2.Exp.e0), (T.int .i64 x2.Exp.e1), (T.int .i64 x2.Exp.e2), (T.int .i64 x2.Exp.e3)]) = (r22.set ((wI6 (a + i)).toNat) x2).map qaA) <| aC (Nat.zero_le _ : 0 ≤ (0 + (wI6 (a + i)).toNat)) <| aC (qb5 h9) <| aC (qc1 h9 (by simp) : (wI6 (b + i)) < ((r22.length : Nat) : Int)) <| aC (qc2 qaA h9 : ((r22.set ((wI6 (a + i)).toNat) x2).map qaA)[(0 + (wI6 (b + i)).toNat)]? = some (qaA x8)) <| aC (qe8 _ _ x4 _ : ((r22.set ((wI6 (a + i)).toNat) x2).map qaA).set (0 + (wI6 (b + i)).toNat) (qdH (qaA x8) 0 [(T.bool x4.Coef.Neg), (T.sl 1 (x4.Coef.Abs.map qaF)), (T.int .i64 x4.Exp.e0), (T.int .i64 x4.Exp.e1), (T.int .i64 x4.Exp.e2), (T.int .i64 x4.Exp.e3)]) = ((r22.set ((wI6 (a + i)).toNat) x2).set ((wI6 (b + i)).toNat) x4).map qaA) <| aC (Nat.zero_le _ : 0 ≤ (0 + (wI6 (b + i)).toNat)) <| aC r0 <| aC (by simp : r22.length = ((r22.set ((wI6 (a + i)).toNat) x2).set ((wI6 (b + i)).toNat) x4).length) <| aN) (ih _ _ h cx hn H exs)
 ·have h := oinj h; subst h
  exact qfK (fuel := 68) [.go, rg3, bFa]
   _
   ((22, .row 173 6 (r22.map qaA) 0) :: H) hn (by kernel_rfl) (aC h1 <| aN) (fun _ => rfl)
theorem qdS : ∀ K : Nat, qdZ K
 | 0, c, r, h => by rw [qa2] at h; cases h
 | K + 1, .c0 .., r, h => fun cx hn H exs => qh0 (qdS K) hn H exs h
 | K + 1, .c1 .., r, h => fun cx hn H exs => qhZ (qdS K) hn H exs h
theorem qdK {K : Nat} {row : (List qaM)} {a : Int} {b : Int} {n : Int} {r : (List qaM)} (h : qbX K row a b n = some r) : qk6 prog 237 [.c (C.row 22 0 row.length), vi .i64 a, vi .i64 b, vi .i64 n, .c (C.t (T.fn 178))] [(22, .row 173 6 (row.map qaA) 0)] [(22, .row 173 6 (r.map qaA) 0)] (.tup []) :=
 qs8 (n := 38) (by kernel_rfl) (by simp) fun cx hn H exs => qdS K (.c0 row a b n) r h cx hn H exs
open Go.Proofs.Tryz (prog)
inductive qc5 where
 | c0 (row : (List qaM)) (a : Int) (m : Int) (b : Int)
 | c1 (r22 : (List qaM)) (m : Int) (i : Int) (j : Int)
def qa3 : Nat → qc5 → Option (List qaM)
 | 0, _ => none
 | K + 1, .c0 row a m b =>
  qa3 K (.c1 row m (wI6 (m - a)) (wI6 (b - m)))
 | K + 1, .c1 r22 m i j =>
  bif (!decide (i = j)) then
   bif (decide (j < i)) then
    (qbX K r22 (wI6 (m - i)) m j).bind fun x4 =>
    gd (x4.length = r22.length) <|
    qa3 K (.c1 x4 m (wI6 (i - j)) j)
   else
    (qbX K r22 (wI6 (m - i)) (wI6 ((wI6 (m + j)) - i)) i).bind fun x4 =>
    gd (x4.length = r22.length) <|
    qa3 K (.c1 x4 m i (wI6 (j - i)))
  else
   (qbX K r22 (wI6 (m - i)) m i).bind fun x3 =>
   gd (x3.length = r22.length) <|
   some x3
def qdE (K : Nat) (row : (List qaM)) (a : Int) (m : Int) (b : Int) : Option (List qaM) := qa3 K (.c0 row a m b)
noncomputable def qd0 : Code := qm5 prog 236
noncomputable def qiH : qc5 → List Fr
 | .c0 .. => [.code qd0]
 | .c1 .. => [.code (.loop (atC qd0 [1,1,0,0,0])), .blk 0, .code (atC qd0 [1,1,1])]
def qiO (H : List (Nat × Blk)) (exs : List V) : qc5 → St
 | .c0 row a m b => ⟨idxV 0 [.c (C.row 22 0 row.length), vi .i64 a, vi .i64 m, vi .i64 b, .c (C.t (T.fn 178))], [(22, .row 173 6 (row.map qaA) 0)] ++ H, exs⟩
 | .c1 r22 m i j => ⟨[(0, .c (C.row 22 0 r22.length)), (2, vi .i64 m), (4, .c (C.t (T.fn 178))), (10, vi .i64 i), (11, vi .i64 j)], [(22, .row 173 6 (r22.map qaA) 0)] ++ H, exs⟩
def qd5 (cx : Cx) (H : List (Nat × Blk)) (exs : List V) (c : qc5) (r : (List qaM)) : Prop := Wk prog cx (zlP prog 236 ([(22, .row 173 6 (r.map qaA) 0)] ++ H) exs (.tup [])) (qiH c) .normal (qiO H exs c)
abbrev qd6 (K : Nat) : Prop := ∀ c r, qa3 K c = some r → ∀ cx : Cx, cx.n = 58 → ∀ H exs, qd5 cx H exs c r
theorem qiQ {K} (ih : qd6 K) {cx} (hn : cx.n = 58) (H : List (Nat × Blk)) (exs : List V) {row a m b} {r} (h : qa3 (K + 1) (.c0 row a m b) = some r) : qd5 cx H exs (.c0 row a m b) r := by
 rw [qa3] at h
 exact wkG [rg4, rg4, .pre [.rl 0 0 row.length, .keepT [0,2,4,10,11]]] hn (aC r0 <| aC (lq row) <| aN) (ih _ _ h cx hn H exs)
theorem qiP {K} (ih : qd6 K) {cx} (hn : cx.n = 58) (H : List (Nat × Blk)) (exs : List V) {r22 m i j} {r} (h : qa3 (K + 1) (.c1 r22 m i j) = some r) : qd5 cx H exs (.c1 r22 m i j) r := by
 rw [qa3] at h
 rcases qa0 h with ⟨h1, h⟩ | ⟨h1, h⟩
 ·rcases qa0 h with ⟨h2, h⟩ | ⟨h2, h⟩
  ·obtain ⟨x4, h3, h⟩ := qaU h
   obtain ⟨h5, h⟩ := qbV h
   exact wkG [.go, rg3, bTr, rg3, bTr, rgG [oo, oo, oo, oo, oo, oo, oo, .rl 24 0 r22.length, .callR [22] [(22, .row 173 6 (x4.map qaA) 0)] (.tup []), .rl 0 0 x4.length, .rl 24 0 x4.length], rg4, .pre [.rl 0 0 x4.length, .nrm 1, .keepT [0,2,4,10,11]]] hn (aC h1 <| aC h2 <| aC r0 <| aC (lq r22) <| aC (qdK h3) <| aC r0 <| aC (h5.symm : r22.length = x4.length) <| aC r0 <| aC (h5.symm : r22.length = x4.length) <| aC r0 <| aC (lq x4) <| aN) (ih _ _ h cx hn H exs)
  ·obtain ⟨x4, h3, h⟩ := qaU h
   obtain ⟨h5, h⟩ := qbV h
   exact wkG [.go, rg3, bTr, rg3, bFa, rgG [oo, oo, oo, oo, oo, oo, oo, oo, oo, oo, oo, .rl 35 0 r22.length, .callR [22] [(22, .row 173 6 (x4.map qaA) 0)] (.tup []), .rl 0 0 x4.length, .rl 35 0 x4.length], rg4, .pre [.rl 0 0 x4.length, .nrm 1, .keepT [0,2,4,10,11]]] hn (aC h1 <| aC h2 <| aC r0 <| aC (lq r22) <| aC (qdK h3) <| aC r0 <| aC (h5.symm : r22.length = x4.length) <| aC r0 <| aC (h5.symm : r22.length = x4.length) <| aC r0 <| aC (lq x4) <| aN) (ih _ _ h cx hn H exs)
 ·obtain ⟨x3, h2, h⟩ := qaU h
  obtain ⟨h4, h⟩ := qbV h
  have h := oinj h; subst h
  exact qfK (fuel := 74) [.go, rg3, bFa, rgG [oo, oo, oo, oo, oo, oo, oo, .rl 50 0 r22.length, .callR [22] [(22, .row 173 6 (x3.map qaA) 0)] (.tup []), .rl 0 0 x3.length, .rl 50 0 x3.length, .nrm 1]]
   _
   ((22, .row 173 6 (x3.map qaA) 0) :: H) hn (by kernel_rfl) (aC h1 <| aC r0 <| aC (lq r22) <| aC (qdK h2) <| aC r0 <| aC (h4.symm : r22.length = x3.length) <| aC r0 <| aC (h4.symm : r22.length = x3.length) <| aN) (fun _ => rfl)
theorem qd3 : ∀ K : Nat, qd6 K
 | 0, c, r, h => by rw [qa3] at h; cases h
 | K + 1, .c0 .., r, h => fun cx hn H exs => qiQ (qd3 K) hn H exs h
 | K + 1, .c1 .., r, h => fun cx hn H exs => qiP (qd3 K) hn H exs h
theorem qbA {K : Nat} {row : (List qaM)} {a : Int} {m : Int} {b : Int} {r : (List qaM)} (h : qdE K row a m b = some r) : qk6 prog 236 [.c (C.row 22 0 row.length), vi .i64 a, vi .i64 m, vi .i64 b, .c (C.t (T.fn 178))] [(22, .row 173 6 (row.map qaA) 0)] [(22, .row 173 6 (r.map qaA) 0)] (.tup []) :=
 qs8 (n := 58) (by kernel_rfl) (by simp) fun cx hn H exs => qd3 K (.c0 row a m b) r h cx hn H exs
open Go.Proofs.Tryz (prog)
inductive qc0 where
 | c0 (row : (List qaM)) (a : Int) (m : Int) (b : Int)
 | c1 (r22 : (List qaM)) (a : Int) (i : Int) (j : Int)
 | c2 (r22 : (List qaM)) (m : Int) (i : Int) (j : Int)
 | c3 (r22 : (List qaM)) (a : Int) (m : Int) (b : Int) (mid : Int) (n : Int) (start : Int) (r_v : Int) (p : Int)
 | c4 (r22 : (List qaM)) (i : Int) (k : Int)
 | c5 (r22 : (List qaM)) (i : Int) (k : Int)
def qaH : Nat → qc0 → Option (List qaM)
 | 0, _ => none
 | K + 1, .c0 row a m b =>
  bif (decide ((wI6 (m - a)) = (1 : Int))) then
   qaH K (.c1 row a m b)
  else
   bif (decide ((wI6 (b - m)) = (1 : Int))) then
    qaH K (.c2 row m a m)
   else
    bif (decide ((wI6 (qdG .u64 (wU6 (wI6 (a + b))) (1 : Int))) < m)) then
     qaH K (.c3 row a m b (wI6 (qdG .u64 (wU6 (wI6 (a + b))) (1 : Int))) (wI6 ((wI6 (qdG .u64 (wU6 (wI6 (a + b))) (1 : Int))) + m)) (wI6 ((wI6 ((wI6 (qdG .u64 (wU6 (wI6 (a + b))) (1 : Int))) + m)) - b)) (wI6 (qdG .u64 (wU6 (wI6 (a + b))) (1 : Int))) (wI6 ((wI6 ((wI6 (qdG .u64 (wU6 (wI6 (a + b))) (1 : Int))) + m)) - (1 : Int))))
    else
     qaH K (.c3 row a m b (wI6 (qdG .u64 (wU6 (wI6 (a + b))) (1 : Int))) (wI6 ((wI6 (qdG .u64 (wU6 (wI6 (a + b))) (1 : Int))) + m)) a m (wI6 ((wI6 ((wI6 (qdG .u64 (wU6 (wI6 (a + b))) (1 : Int))) + m)) - (1 : Int))))
 | K + 1, .c1 r22 a i j =>
  bif (decide (i < j)) then
   (gi r22 (wI6 (qdG .u64 (wU6 (wI6 (i + j))) (1 : Int)))).bind fun x2 =>
   (gi r22 a).bind fun x4 =>
   (qkX K x2 x4).bind fun x6 =>
   bif (decide (x6 < (0 : Int))) then
    qaH K (.c1 r22 a (wI6 ((wI6 (qdG .u64 (wU6 (wI6 (i + j))) (1 : Int))) + (1 : Int))) j)
   else
    qaH K (.c1 r22 a i (wI6 (qdG .u64 (wU6 (wI6 (i + j))) (1 : Int))))
  else
   qaH K (.c4 r22 i a)
 | K + 1, .c2 r22 m i j =>
  bif (decide (i < j)) then
   (gi r22 m).bind fun x2 =>
   (gi r22 (wI6 (qdG .u64 (wU6 (wI6 (i + j))) (1 : Int)))).bind fun x4 =>
   (qkX K x2 x4).bind fun x6 =>
   bif (!(decide (x6 < (0 : Int)))) then
    qaH K (.c2 r22 m (wI6 ((wI6 (qdG .u64 (wU6 (wI6 (i + j))) (1 : Int))) + (1 : Int))) j)
   else
    qaH K (.c2 r22 m i (wI6 (qdG .u64 (wU6 (wI6 (i + j))) (1 : Int))))
  else
   qaH K (.c5 r22 i m)
 | K + 1, .c3 r22 a m b mid n start r_v p =>
  bif (decide (start < r_v)) then
   (gi r22 (wI6 (p - (wI6 (qdG .u64 (wU6 (wI6 (start + r_v))) (1 : Int)))))).bind fun x2 =>
   (gi r22 (wI6 (qdG .u64 (wU6 (wI6 (start + r_v))) (1 : Int)))).bind fun x4 =>
   (qkX K x2 x4).bind fun x6 =>
   bif (!(decide (x6 < (0 : Int)))) then
    qaH K (.c3 r22 a m b mid n (wI6 ((wI6 (qdG .u64 (wU6 (wI6 (start + r_v))) (1 : Int))) + (1 : Int))) r_v p)
   else
    qaH K (.c3 r22 a m b mid n start (wI6 (qdG .u64 (wU6 (wI6 (start + r_v))) (1 : Int))) p)
  else
   bif (decide (start < m)) then
    bif (decide (m < (wI6 (n - start)))) then
     (qdE K r22 start m (wI6 (n - start))).bind fun x5 =>
     gd (x5.length = r22.length) <|
     bif (decide (a < start)) then
      bif (decide (start < mid)) then
       (qaH K (.c0 x5 a start mid)).bind fun x10 =>
       gd (x10.length = x5.length) <|
       bif (decide (mid < (wI6 (n - start)))) then
        bif (decide ((wI6 (n - start)) < b)) then
         (qaH K (.c0 x10 mid (wI6 (n - start)) b)).bind fun x15 =>
         gd (x15.length = x10.length) <|
         some x15
        else
         some x10
       else
        some x10
      else
       bif (decide (mid < (wI6 (n - start)))) then
        bif (decide ((wI6 (n - start)) < b)) then
         (qaH K (.c0 x5 mid (wI6 (n - start)) b)).bind fun x12 =>
         gd (x12.length = x5.length) <|
         some x12
        else
         some x5
       else
        some x5
     else
      bif (decide (mid < (wI6 (n - start)))) then
       bif (decide ((wI6 (n - start)) < b)) then
        (qaH K (.c0 x5 mid (wI6 (n - start)) b)).bind fun x11 =>
        gd (x11.length = x5.length) <|
        some x11
       else
        some x5
      else
       some x5
    else
     bif (decide (a < start)) then
      bif (decide (start < mid)) then
       (qaH K (.c0 r22 a start mid)).bind fun x7 =>
       gd (x7.length = r22.length) <|
       bif (decide (mid < (wI6 (n - start)))) then
        bif (decide ((wI6 (n - start)) < b)) then
         (qaH K (.c0 x7 mid (wI6 (n - start)) b)).bind fun x12 =>
         gd (x12.length = x7.length) <|
         some x12
        else
         some x7
       else
        some x7
      else
       bif (decide (mid < (wI6 (n - start)))) then
        bif (decide ((wI6 (n - start)) < b)) then
         (qaH K (.c0 r22 mid (wI6 (n - start)) b)).bind fun x9 =>
         gd (x9.length = r22.length) <|
         some x9
        else
         some r22
       else
        some r22
     else
      bif (decide (mid < (wI6 (n - start)))) then
       bif (decide ((wI6 (n - start)) < b)) then
        (qaH K (.c0 r22 mid (wI6 (n - start)) b)).bind fun x8 =>
        gd (x8.length = r22.length) <|
        some x8
       else
        some r22
      else
       some r22
   else
    bif (decide (a < start)) then
     bif (decide (start < mid)) then
      (qaH K (.c0 r22 a start mid)).bind fun x6 =>
      gd (x6.length = r22.length) <|
      bif (decide (mid < (wI6 (n - start)))) then
       bif (decide ((wI6 (n - start)) < b)) then
        (qaH K (.c0 x6 mid (wI6 (n - start)) b)).bind fun x11 =>
        gd (x11.length = x6.length) <|
        some x11
       else
        some x6
      else
       some x6
     else
      bif (decide (mid < (wI6 (n - start)))) then
       bif (decide ((wI6 (n - start)) < b)) then
        (qaH K (.c0 r22 mid (wI6 (n - start)) b)).bind fun x8 =>
        gd (x8.length = r22.length) <|
        some x8
       else
        some r22
      else
       some r22
    else
     bif (decide (mid < (wI6 (n - start)))) then
      bif (decide ((wI6 (n - start)) < b)) then
       (qaH K (.c0 r22 mid (wI6 (n - start)) b)).bind fun x7 =>
       gd (x7.length = r22.length) <|
       some x7
      else
       some r22
     else
      some r22
 | K + 1, .c4 r22 i k =>
  bif (decide (k < (wI6 (i - (1 : Int))))) then
   (gi r22 (wI6 (k + (1 : Int)))).bind fun x2 =>
   (gi r22 k).bind fun x4 =>
   (gi r22 k).bind fun _ =>
   (gi (r22.set (k.toNat) x2) (wI6 (k + (1 : Int)))).bind fun _ =>
   qaH K (.c4 ((r22.set (k.toNat) x2).set ((wI6 (k + (1 : Int))).toNat) x4) i (wI6 (k + (1 : Int))))
  else
   some r22
 | K + 1, .c5 r22 i k =>
  bif (decide (i < k)) then
   (gi r22 (wI6 (k - (1 : Int)))).bind fun x2 =>
   (gi r22 k).bind fun x4 =>
   (gi r22 k).bind fun _ =>
   (gi (r22.set (k.toNat) x2) (wI6 (k - (1 : Int)))).bind fun _ =>
   qaH K (.c5 ((r22.set (k.toNat) x2).set ((wI6 (k - (1 : Int))).toNat) x4) i (wI6 (k - (1 : Int))))
  else
   some r22
def qdA (K : Nat) (row : (List qaM)) (a : Int) (m : Int) (b : Int) : Option (List qaM) := qaH K (.c0 row a m b)
noncomputable def qaZ : Code := qm5 prog 231
noncomputable def qhX : qc0 → List Fr
 | .c0 .. => [.code qaZ]
 | .c1 .. => [.code (.loop (atC qaZ [0,1,0,1,1,0,0,0])), .blk 0, .code (atC qaZ [0,1,0,1,1,1]), .code (atC qaZ [1])]
 | .c2 .. => [.code (.loop (atC qaZ [1,0,1,0,1,1,0,0,0])), .blk 4, .code (atC qaZ [1,0,1,0,1,1,1]), .code (atC qaZ [1,1])]
 | .c3 .. => [.code (.loop (atC qaZ [1,1,1,1,1,1,1,0,0,0])), .blk 8, .code (atC qaZ [1,1,1,1,1,1,1,1])]
 | .c4 .. => [.code (.loop (atC qaZ [0,1,0,1,1,1,0,1,0,0])), .blk 2, .code (atC qaZ [0,1,0,1,1,1,1]), .code (atC qaZ [1])]
 | .c5 .. => [.code (.loop (atC qaZ [1,0,1,0,1,1,1,0,1,0,0])), .blk 6, .code (atC qaZ [1,0,1,0,1,1,1,1]), .code (atC qaZ [1,1])]
def qh6 (H : List (Nat × Blk)) (exs : List V) : qc0 → St
 | .c0 row a m b => ⟨idxV 0 [.c (C.row 22 0 row.length), vi .i64 a, vi .i64 m, vi .i64 b, .c (C.t (T.fn 178))], [(22, .row 173 6 (row.map qaA) 0)] ++ H, exs⟩
 | .c1 r22 a i j => ⟨[(0, .c (C.row 22 0 r22.length)), (1, vi .i64 a), (4, .c (C.t (T.fn 178))), (10, vi .i64 i), (11, vi .i64 j)], [(22, .row 173 6 (r22.map qaA) 0)] ++ H, exs⟩
 | .c2 r22 m i j => ⟨[(0, .c (C.row 22 0 r22.length)), (2, vi .i64 m), (4, .c (C.t (T.fn 178))), (14, vi .i64 i), (15, vi .i64 j)], [(22, .row 173 6 (r22.map qaA) 0)] ++ H, exs⟩
 | .c3 r22 a m b mid n start r_v p => ⟨[(0, .c (C.row 22 0 r22.length)), (1, vi .i64 a), (2, vi .i64 m), (3, vi .i64 b), (4, .c (C.t (T.fn 178))), (18, vi .i64 mid), (19, vi .i64 n), (20, vi .i64 start), (21, vi .i64 r_v), (22, vi .i64 p)], [(22, .row 173 6 (r22.map qaA) 0)] ++ H, exs⟩
 | .c4 r22 i k => ⟨[(0, .c (C.row 22 0 r22.length)), (10, vi .i64 i), (13, vi .i64 k)], [(22, .row 173 6 (r22.map qaA) 0)] ++ H, exs⟩
 | .c5 r22 i k => ⟨[(0, .c (C.row 22 0 r22.length)), (14, vi .i64 i), (17, vi .i64 k)], [(22, .row 173 6 (r22.map qaA) 0)] ++ H, exs⟩
def qbR (cx : Cx) (H : List (Nat × Blk)) (exs : List V) (c : qc0) (r : (List qaM)) : Prop := Wk prog cx (zlP prog 231 ([(22, .row 173 6 (r.map qaA) 0)] ++ H) exs (.tup [])) (qhX c) .normal (qh6 H exs c)
abbrev qbI (K : Nat) : Prop := ∀ c r, qaH K c = some r → ∀ cx : Cx, cx.n = 220 → ∀ H exs, qbR cx H exs c r
theorem qaS (K : Nat) (ih : qbI K) {row : (List qaM)} {a : Int} {m : Int} {b : Int} {r : (List qaM)} (h : qaH K (.c0 row a m b) = some r) : qk6 prog 231 [.c (C.row 22 0 row.length), vi .i64 a, vi .i64 m, vi .i64 b, .c (C.t (T.fn 178))] [(22, .row 173 6 (row.map qaA) 0)] [(22, .row 173 6 (r.map qaA) 0)] (.tup []) :=
 qs8 (n := 220) (by kernel_rfl) (by simp) fun cx hn H exs => ih (.c0 row a m b) r h cx hn H exs
theorem qiC {K} (ih : qbI K) {cx} (hn : cx.n = 220) (H : List (Nat × Blk)) (exs : List V) {row a m b} {r} (h : qaH (K + 1) (.c0 row a m b) = some r) : qbR cx H exs (.c0 row a m b) r := by
 rw [qaH] at h
 rcases qa0 h with ⟨h1, h⟩ | ⟨h1, h⟩
 ·exact wkG [rg4, bTr, rg2, rg2, .pre [.rl 0 0 row.length, .keepT [0,1,4,10,11]]] hn (aC h1 <| aC r0 <| aC (lq row) <| aN) (ih _ _ h cx hn H exs)
 ·rcases qa0 h with ⟨h2, h⟩ | ⟨h2, h⟩
  ·exact wkG [rg4, bFa, rg4, bTr, rg2, rg2, .pre [.rl 0 0 row.length, .keepT [0,2,4,14,15]]] hn (aC h1 <| aC h2 <| aC r0 <| aC (lq row) <| aN) (ih _ _ h cx hn H exs)
  ·rcases qa0 h with ⟨h3, h⟩ | ⟨h3, h⟩
   ·exact wkG [rg4, bFa, rg4, bFa, rgG [oo, oo, oo, oo, oo, oo, oo], rg4, rg2, rg3, bTr, rg4, rg2, rg3, .pre [.rl 0 0 row.length, .keepT [0,1,2,3,4,18,19,20,21,22]]] hn (aC h1 <| aC h2 <| aC h3 <| aC r0 <| aC (lq row) <| aN) (ih _ _ h cx hn H exs)
   ·exact wkG [rg4, bFa, rg4, bFa, rgG [oo, oo, oo, oo, oo, oo, oo], rg4, rg2, rg3, bFa, rg2, rg2, rg3, .pre [.rl 0 0 row.length, .keepT [0,1,2,3,4,18,19,20,21,22]]] hn (aC h1 <| aC h2 <| aC h3 <| aC r0 <| aC (lq row) <| aN) (ih _ _ h cx hn H exs)
theorem qiB {K} (ih : qbI K) {cx} (hn : cx.n = 220) (H : List (Nat × Blk)) (exs : List V) {r22 a i j} {r} (h : qaH (K + 1) (.c1 r22 a i j) = some r) : qbR cx H exs (.c1 r22 a i j) r := by
 rw [qaH] at h
 rcases qa0 h with ⟨h1, h⟩ | ⟨h1, h⟩
 ·obtain ⟨x2, h3, h⟩ := qaU h
  obtain ⟨x4, h5, h⟩ := qaU h
  obtain ⟨x6, h7, h⟩ := qaU h
  rcases qa0 h with ⟨h8, h⟩ | ⟨h8, h⟩
  ·exact wkG [.go, rg3, bTr, rgG [oo, oo, oo, oo, oo, oo, oo], .draw [.p, .mv, .p, .ir, (.ld (qaA x2)), .mv, .p, .ir, (.ld (qaA x4))] [opI (.call [[0,1,0,0,0,0], [0,1,0,0,0,0]] [(TV.agg (qaA x2)), (TV.agg (qaA x4))] (ti .i64 x6)), .op .p], bTr, rg3, .pre [.rl 0 0 r22.length, .keepT [0,1,4,10,11]]] hn (aC h1 <| aC (qb5 h3) <| aC (qc1 h3 (by simp) : (wI6 (qdG .u64 (wU6 (wI6 (i + j))) (1 : Int))) < ((r22.length : Nat) : Int)) <| aC (qc2 qaA h3 : (r22.map qaA)[(0 + (wI6 (qdG .u64 (wU6 (wI6 (i + j))) (1 : Int))).toNat)]? = some (qaA x2)) <| aC (qb5 h5) <| aC (qc1 h5 (by simp) : a < ((r22.length : Nat) : Int)) <| aC (qc2 qaA h5 : (r22.map qaA)[(0 + a.toNat)]? = some (qaA x4)) <| aC (qfB h7) <| aC h8 <| aC r0 <| aC (lq r22) <| aN) (ih _ _ h cx hn H exs)
  ·exact wkG [.go, rg3, bTr, rgG [oo, oo, oo, oo, oo, oo, oo], .draw [.p, .mv, .p, .ir, (.ld (qaA x2)), .mv, .p, .ir, (.ld (qaA x4))] [opI (.call [[0,1,0,0,0,0], [0,1,0,0,0,0]] [(TV.agg (qaA x2)), (TV.agg (qaA x4))] (ti .i64 x6)), .op .p], bFa, rg2, .pre [.rl 0 0 r22.length, .keepT [0,1,4,10,11]]] hn (aC h1 <| aC (qb5 h3) <| aC (qc1 h3 (by simp) : (wI6 (qdG .u64 (wU6 (wI6 (i + j))) (1 : Int))) < ((r22.length : Nat) : Int)) <| aC (qc2 qaA h3 : (r22.map qaA)[(0 + (wI6 (qdG .u64 (wU6 (wI6 (i + j))) (1 : Int))).toNat)]? = some (qaA x2)) <| aC (qb5 h5) <| aC (qc1 h5 (by simp) : a < ((r22.length : Nat) : Int)) <| aC (qc2 qaA h5 : (r22.map qaA)[(0 + a.toNat)]? = some (qaA x4)) <| aC (qfB h7) <| aC h8 <| aC r0 <| aC (lq r22) <| aN) (ih _ _ h cx hn H exs)
 ·exact wkG [.go, rg3, bFa, rg2, .pre [.rl 0 0 r22.length, .keepT [0,10,13]]] hn (aC h1 <| aC r0 <| aC (lq r22) <| aN) (ih _ _ h cx hn H exs)
theorem qiA {K} (ih : qbI K) {cx} (hn : cx.n = 220) (H : List (Nat × Blk)) (exs : List V) {r22 m i j} {r} (h : qaH (K + 1) (.c2 r22 m i j) = some r) : qbR cx H exs (.c2 r22 m i j) r := by
 rw [qaH] at h
 rcases qa0 h with ⟨h1, h⟩ | ⟨h1, h⟩
 ·obtain ⟨x2, h3, h⟩ := qaU h
  obtain ⟨x4, h5, h⟩ := qaU h
  obtain ⟨x6, h7, h⟩ := qaU h
  rcases qa0 h with ⟨h8, h⟩ | ⟨h8, h⟩
  ·exact wkG [.go, rg3, bTr, rgG [oo, oo, oo, oo, oo, oo, oo], .draw [.p, .mv, .p, .ir, (.ld (qaA x2)), .mv, .p, .ir, (.ld (qaA x4))] [opI (.call [[0,1,0,0,0,0], [0,1,0,0,0,0]] [(TV.agg (qaA x2)), (TV.agg (qaA x4))] (ti .i64 x6)), .op .p, .op .p], bTr, rg3, .pre [.rl 0 0 r22.length, .keepT [0,2,4,14,15]]] hn (aC h1 <| aC (qb5 h3) <| aC (qc1 h3 (by simp) : m < ((r22.length : Nat) : Int)) <| aC (qc2 qaA h3 : (r22.map qaA)[(0 + m.toNat)]? = some (qaA x2)) <| aC (qb5 h5) <| aC (qc1 h5 (by simp) : (wI6 (qdG .u64 (wU6 (wI6 (i + j))) (1 : Int))) < ((r22.length : Nat) : Int)) <| aC (qc2 qaA h5 : (r22.map qaA)[(0 + (wI6 (qdG .u64 (wU6 (wI6 (i + j))) (1 : Int))).toNat)]? = some (qaA x4)) <| aC (qfB h7) <| aC h8 <| aC r0 <| aC (lq r22) <| aN) (ih _ _ h cx hn H exs)
  ·exact wkG [.go, rg3, bTr, rgG [oo, oo, oo, oo, oo, oo, oo], .draw [.p, .mv, .p, .ir, (.ld (qaA x2)), .mv, .p, .ir, (.ld (qaA x4))] [opI (.call [[0,1,0,0,0,0], [0,1,0,0,0,0]] [(TV.agg (qaA x2)), (TV.agg (qaA x4))] (ti .i64 x6)), .op .p, .op .p], bFa, rg2, .pre [.rl 0 0 r22.length, .keepT [0,2,4,14,15]]] hn (aC h1 <| aC (qb5 h3) <| aC (qc1 h3 (by simp) : m < ((r22.length : Nat) : Int)) <| aC (qc2 qaA h3 : (r22.map qaA)[(0 + m.toNat)]? = some (qaA x2)) <| aC (qb5 h5) <| aC (qc1 h5 (by simp) : (wI6 (qdG .u64 (wU6 (wI6 (i + j))) (1 : Int))) < ((r22.length : Nat) : Int)) <| aC (qc2 qaA h5 : (r22.map qaA)[(0 + (wI6 (qdG .u64 (wU6 (wI6 (i + j))) (1 : Int))).toNat)]? = some (qaA x4)) <| aC (qfB h7) <| aC h8 <| aC r0 <| aC (lq r22) <| aN) (ih _ _ h cx hn H exs)
 ·exact wkG [.go, rg3, bFa, rg2, .pre [.rl 0 0 r22.length, .keepT [0,14,17]]] hn (aC h1 <| aC r0 <| aC (lq r22) <| aN) (ih _ _ h cx hn H exs)
theorem qh9 {K} (ih : qbI K) {cx} (hn : cx.n = 220) (H : List (Nat × Blk)) (exs : List V) {r22 a m b mid n start r_v p} {r} (h : qaH (K + 1) (.c3 r22 a m b mid n start r_v p) = some r) : qbR cx H exs (.c3 r22 a m b mid n start r_v p) r := by
 rw [qaH] at h
 rcases qa0 h with ⟨h1, h⟩ | ⟨h1, h⟩
 ·obtain ⟨x2, h3, h⟩ := qaU h
  obtain ⟨x4, h5, h⟩ := qaU h
  obtain ⟨x6, h7, h⟩ := qaU h
  rcases qa0 h with ⟨h8, h⟩ | ⟨h8, h⟩
  ·exact wkG [.go, rg3, bTr, rgG [oo, oo, oo, oo, oo, oo, oo], .draw [.p, .mv, .p, .p, .p, .ir, (.ld (qaA x2)), .mv, .p, .ir, (.ld (qaA x4))] [opI (.call [[0,1,0,0,0,0], [0,1,0,0,0,0]] [(TV.agg (qaA x2)), (TV.agg (qaA x4))] (ti .i64 x6)), .op .p, .op .p], bTr, rg3, .pre [.rl 0 0 r22.length, .keepT [0,1,2,3,4,18,19,20,21,22]]] hn (aC h1 <| aC (qb5 h3) <| aC (qc1 h3 (by simp) : (wI6 (p - (wI6 (qdG .u64 (wU6 (wI6 (start + r_v))) (1 : Int))))) < ((r22.length : Nat) : Int)) <| aC (qc2 qaA h3 : (r22.map qaA)[(0 + (wI6 (p - (wI6 (qdG .u64 (wU6 (wI6 (start + r_v))) (1 : Int))))).toNat)]? = some (qaA x2)) <| aC (qb5 h5) <| aC (qc1 h5 (by simp) : (wI6 (qdG .u64 (wU6 (wI6 (start + r_v))) (1 : Int))) < ((r22.length : Nat) : Int)) <| aC (qc2 qaA h5 : (r22.map qaA)[(0 + (wI6 (qdG .u64 (wU6 (wI6 (start + r_v))) (1 : Int))).toNat)]? = some (qaA x4)) <| aC (qfB h7) <| aC h8 <| aC r0 <| aC (lq r22) <| aN) (ih _ _ h cx hn H exs)
  ·exact wkG [.go, rg3, bTr, rgG [oo, oo, oo, oo, oo, oo, oo], .draw [.p, .mv, .p, .p, .p, .ir, (.ld (qaA x2)), .mv, .p, .ir, (.ld (qaA x4))] [opI (.call [[0,1,0,0,0,0], [0,1,0,0,0,0]] [(TV.agg (qaA x2)), (TV.agg (qaA x4))] (ti .i64 x6)), .op .p, .op .p], bFa, rg2, .pre [.rl 0 0 r22.length, .keepT [0,1,2,3,4,18,19,20,21,22]]] hn (aC h1 <| aC (qb5 h3) <| aC (qc1 h3 (by simp) : (wI6 (p - (wI6 (qdG .u64 (wU6 (wI6 (start + r_v))) (1 : Int))))) < ((r22.length : Nat) : Int)) <| aC (qc2 qaA h3 : (r22.map qaA)[(0 + (wI6 (p - (wI6 (qdG .u64 (wU6 (wI6 (start + r_v))) (1 : Int))))).toNat)]? = some (qaA x2)) <| aC (qb5 h5) <| aC (qc1 h5 (by simp) : (wI6 (qdG .u64 (wU6 (wI6 (start + r_v))) (1 : Int))) < ((r22.length : Nat) : Int)) <| aC (qc2 qaA h5 : (r22.map qaA)[(0 + (wI6 (qdG .u64 (wU6 (wI6 (start + r_v))) (1 : Int))).toNat)]? = some (qaA x4)) <| aC (qfB h7) <| aC h8 <| aC r0 <| aC (lq r22) <| aN) (ih _ _ h cx hn H exs)
 ·rcases qa0 h with ⟨h2, h⟩ | ⟨h2, h⟩
  ·rcases qa0 h with ⟨h3, h⟩ | ⟨h3, h⟩
   ·obtain ⟨x5, h4, h⟩ := qaU h
    obtain ⟨h6, h⟩ := qbV h
    rcases qa0 h with ⟨h7, h⟩ | ⟨h7, h⟩
    ·rcases qa0 h with ⟨h8, h⟩ | ⟨h8, h⟩
     ·obtain ⟨x10, h9, h⟩ := qaU h
      obtain ⟨h11, h⟩ := qbV h
      rcases qa0 h with ⟨h12, h⟩ | ⟨h12, h⟩
      ·rcases qa0 h with ⟨h13, h⟩ | ⟨h13, h⟩
       ·obtain ⟨x15, h14, h⟩ := qaU h
        obtain ⟨h16, h⟩ := qbV h
        have h := oinj h; subst h
        exact qfK (fuel := 140) [.go, rg3, bFa, rg4, rgG [oo, oo, oo, oo, .sb 181 true, oo, oo, oo, oo], bTr, rgG [oo, oo, oo, oo, oo, .rl 186 0 r22.length, .callR [22] [(22, .row 173 6 (x5.map qaA) 0)] (.tup []), .rl 0 0 x5.length, .rl 186 0 x5.length], rgG [oo, oo, oo, oo, .sb 195 true, oo, oo, oo, oo], bTr, rgG [oo, oo, oo, oo, oo, .rl 200 0 x5.length, .callR [22] [(22, .row 173 6 (x10.map qaA) 0)] (.tup []), .rl 0 0 x10.length, .rl 186 0 x10.length, .rl 200 0 x10.length], rgG [oo, oo, oo, oo, .sb 209 true, oo, oo, oo, oo], bTr, rgG [oo, oo, oo, oo, oo, .rl 214 0 x10.length, .callR [22] [(22, .row 173 6 (x15.map qaA) 0)] (.tup []), .rl 0 0 x15.length, .rl 186 0 x15.length, .rl 200 0 x15.length, .rl 214 0 x15.length, .nrm 3]]
         _
         ((22, .row 173 6 (x15.map qaA) 0) :: H) hn (by kernel_rfl) (aC h1 <| aC h2 <| aC h3 <| aC r0 <| aC (lq r22) <| aC (qbA h4) <| aC r0 <| aC (h6.symm : r22.length = x5.length) <| aC r0 <| aC (h6.symm : r22.length = x5.length) <| aC h7 <| aC h8 <| aC r0 <| aC (lq x5) <| aC (qaS K ih h9 : qk6 prog 231 [.c (C.row 22 0 x5.length), vi .i64 a, vi .i64 start, vi .i64 mid, .c (C.t (T.fn 178))] [(22, .row 173 6 (x5.map qaA) 0)] [(22, .row 173 6 (x10.map qaA) 0)] (.tup [])) <| aC r0 <| aC (h11.symm : x5.length = x10.length) <| aC r0 <| aC (h11.symm : x5.length = x10.length) <| aC r0 <| aC (h11.symm : x5.length = x10.length) <| aC h12 <| aC h13 <| aC r0 <| aC (lq x10) <| aC (qaS K ih h14 : qk6 prog 231 [.c (C.row 22 0 x10.length), vi .i64 mid, .c (C.t (T.int .i64 (wI6 (n - start)))), vi .i64 b, .c (C.t (T.fn 178))] [(22, .row 173 6 (x10.map qaA) 0)] [(22, .row 173 6 (x15.map qaA) 0)] (.tup [])) <| aC r0 <| aC (h16.symm : x10.length = x15.length) <| aC r0 <| aC (h16.symm : x10.length = x15.length) <| aC r0 <| aC (h16.symm : x10.length = x15.length) <| aC r0 <| aC (h16.symm : x10.length = x15.length) <| aN) (fun _ => rfl)
       ·have h := oinj h; subst h
        exact qfK (fuel := 136) [.go, rg3, bFa, rg4, rgG [oo, oo, oo, oo, .sb 181 true, oo, oo, oo, oo], bTr, rgG [oo, oo, oo, oo, oo, .rl 186 0 r22.length, .callR [22] [(22, .row 173 6 (x5.map qaA) 0)] (.tup []), .rl 0 0 x5.length, .rl 186 0 x5.length], rgG [oo, oo, oo, oo, .sb 195 true, oo, oo, oo, oo], bTr, rgG [oo, oo, oo, oo, oo, .rl 200 0 x5.length, .callR [22] [(22, .row 173 6 (x10.map qaA) 0)] (.tup []), .rl 0 0 x10.length, .rl 186 0 x10.length, .rl 200 0 x10.length], rgG [oo, oo, oo, oo, .sb 209 true, oo, oo, oo, oo, .nrm 2], bFa]
         _
         ((22, .row 173 6 (x10.map qaA) 0) :: H) hn (by kernel_rfl) (aC h1 <| aC h2 <| aC h3 <| aC r0 <| aC (lq r22) <| aC (qbA h4) <| aC r0 <| aC (h6.symm : r22.length = x5.length) <| aC r0 <| aC (h6.symm : r22.length = x5.length) <| aC h7 <| aC h8 <| aC r0 <| aC (lq x5) <| aC (qaS K ih h9 : qk6 prog 231 [.c (C.row 22 0 x5.length), vi .i64 a, vi .i64 start, vi .i64 mid, .c (C.t (T.fn 178))] [(22, .row 173 6 (x5.map qaA) 0)] [(22, .row 173 6 (x10.map qaA) 0)] (.tup [])) <| aC r0 <| aC (h11.symm : x5.length = x10.length) <| aC r0 <| aC (h11.symm : x5.length = x10.length) <| aC r0 <| aC (h11.symm : x5.length = x10.length) <| aC h12 <| aC h13 <| aN) (fun _ => rfl)
      ·have h := oinj h; subst h
       exact qfK (fuel := 136) [.go, rg3, bFa, rg4, rgG [oo, oo, oo, oo, .sb 181 true, oo, oo, oo, oo], bTr, rgG [oo, oo, oo, oo, oo, .rl 186 0 r22.length, .callR [22] [(22, .row 173 6 (x5.map qaA) 0)] (.tup []), .rl 0 0 x5.length, .rl 186 0 x5.length], rgG [oo, oo, oo, oo, .sb 195 true, oo, oo, oo, oo], bTr, rgG [oo, oo, oo, oo, oo, .rl 200 0 x5.length, .callR [22] [(22, .row 173 6 (x10.map qaA) 0)] (.tup []), .rl 0 0 x10.length, .rl 186 0 x10.length, .rl 200 0 x10.length], rgG [oo, oo, oo, oo, .sb 209 false, oo, oo, oo, oo, .nrm 2], bFa]
        _
        ((22, .row 173 6 (x10.map qaA) 0) :: H) hn (by kernel_rfl) (aC h1 <| aC h2 <| aC h3 <| aC r0 <| aC (lq r22) <| aC (qbA h4) <| aC r0 <| aC (h6.symm : r22.length = x5.length) <| aC r0 <| aC (h6.symm : r22.length = x5.length) <| aC h7 <| aC h8 <| aC r0 <| aC (lq x5) <| aC (qaS K ih h9 : qk6 prog 231 [.c (C.row 22 0 x5.length), vi .i64 a, vi .i64 start, vi .i64 mid, .c (C.t (T.fn 178))] [(22, .row 173 6 (x5.map qaA) 0)] [(22, .row 173 6 (x10.map qaA) 0)] (.tup [])) <| aC r0 <| aC (h11.symm : x5.length = x10.length) <| aC r0 <| aC (h11.symm : x5.length = x10.length) <| aC r0 <| aC (h11.symm : x5.length = x10.length) <| aC h12 <| aC rf <| aN) (fun _ => rfl)
     ·rcases qa0 h with ⟨h9, h⟩ | ⟨h9, h⟩
      ·rcases qa0 h with ⟨h10, h⟩ | ⟨h10, h⟩
       ·obtain ⟨x12, h11, h⟩ := qaU h
        obtain ⟨h13, h⟩ := qbV h
        have h := oinj h; subst h
        exact qfK (fuel := 136) [.go, rg3, bFa, rg4, rgG [oo, oo, oo, oo, .sb 181 true, oo, oo, oo, oo], bTr, rgG [oo, oo, oo, oo, oo, .rl 186 0 r22.length, .callR [22] [(22, .row 173 6 (x5.map qaA) 0)] (.tup []), .rl 0 0 x5.length, .rl 186 0 x5.length], rgG [oo, oo, oo, oo, .sb 195 true, oo, oo, oo, oo], bFa, rgG [oo, oo, oo, oo, .sb 209 true, oo, oo, oo, oo], bTr, rgG [oo, oo, oo, oo, oo, .rl 214 0 x5.length, .callR [22] [(22, .row 173 6 (x12.map qaA) 0)] (.tup []), .rl 0 0 x12.length, .rl 186 0 x12.length, .rl 214 0 x12.length, .nrm 2]]
         _
         ((22, .row 173 6 (x12.map qaA) 0) :: H) hn (by kernel_rfl) (aC h1 <| aC h2 <| aC h3 <| aC r0 <| aC (lq r22) <| aC (qbA h4) <| aC r0 <| aC (h6.symm : r22.length = x5.length) <| aC r0 <| aC (h6.symm : r22.length = x5.length) <| aC h7 <| aC h8 <| aC h9 <| aC h10 <| aC r0 <| aC (lq x5) <| aC (qaS K ih h11 : qk6 prog 231 [.c (C.row 22 0 x5.length), vi .i64 mid, .c (C.t (T.int .i64 (wI6 (n - start)))), vi .i64 b, .c (C.t (T.fn 178))] [(22, .row 173 6 (x5.map qaA) 0)] [(22, .row 173 6 (x12.map qaA) 0)] (.tup [])) <| aC r0 <| aC (h13.symm : x5.length = x12.length) <| aC r0 <| aC (h13.symm : x5.length = x12.length) <| aC r0 <| aC (h13.symm : x5.length = x12.length) <| aN) (fun _ => rfl)
       ·have h := oinj h; subst h
        exact qfK (fuel := 132) [.go, rg3, bFa, rg4, rgG [oo, oo, oo, oo, .sb 181 true, oo, oo, oo, oo], bTr, rgG [oo, oo, oo, oo, oo, .rl 186 0 r22.length, .callR [22] [(22, .row 173 6 (x5.map qaA) 0)] (.tup []), .rl 0 0 x5.length, .rl 186 0 x5.length], rgG [oo, oo, oo, oo, .sb 195 true, oo, oo, oo, oo], bFa, rgG [oo, oo, oo, oo, .sb 209 true, oo, oo, oo, oo, .nrm 1], bFa]
         _
         ((22, .row 173 6 (x5.map qaA) 0) :: H) hn (by kernel_rfl) (aC h1 <| aC h2 <| aC h3 <| aC r0 <| aC (lq r22) <| aC (qbA h4) <| aC r0 <| aC (h6.symm : r22.length = x5.length) <| aC r0 <| aC (h6.symm : r22.length = x5.length) <| aC h7 <| aC h8 <| aC h9 <| aC h10 <| aN) (fun _ => rfl)
      ·have h := oinj h; subst h
       exact qfK (fuel := 132) [.go, rg3, bFa, rg4, rgG [oo, oo, oo, oo, .sb 181 true, oo, oo, oo, oo], bTr, rgG [oo, oo, oo, oo, oo, .rl 186 0 r22.length, .callR [22] [(22, .row 173 6 (x5.map qaA) 0)] (.tup []), .rl 0 0 x5.length, .rl 186 0 x5.length], rgG [oo, oo, oo, oo, .sb 195 true, oo, oo, oo, oo], bFa, rgG [oo, oo, oo, oo, .sb 209 false, oo, oo, oo, oo, .nrm 1], bFa]
        _
        ((22, .row 173 6 (x5.map qaA) 0) :: H) hn (by kernel_rfl) (aC h1 <| aC h2 <| aC h3 <| aC r0 <| aC (lq r22) <| aC (qbA h4) <| aC r0 <| aC (h6.symm : r22.length = x5.length) <| aC r0 <| aC (h6.symm : r22.length = x5.length) <| aC h7 <| aC h8 <| aC h9 <| aC rf <| aN) (fun _ => rfl)
    ·rcases qa0 h with ⟨h8, h⟩ | ⟨h8, h⟩
     ·rcases qa0 h with ⟨h9, h⟩ | ⟨h9, h⟩
      ·obtain ⟨x11, h10, h⟩ := qaU h
       obtain ⟨h12, h⟩ := qbV h
       have h := oinj h; subst h
       exact qfK (fuel := 136) [.go, rg3, bFa, rg4, rgG [oo, oo, oo, oo, .sb 181 true, oo, oo, oo, oo], bTr, rgG [oo, oo, oo, oo, oo, .rl 186 0 r22.length, .callR [22] [(22, .row 173 6 (x5.map qaA) 0)] (.tup []), .rl 0 0 x5.length, .rl 186 0 x5.length], rgG [oo, oo, oo, oo, .sb 195 false, oo, oo, oo, oo], bFa, rgG [oo, oo, oo, oo, .sb 209 true, oo, oo, oo, oo], bTr, rgG [oo, oo, oo, oo, oo, .rl 214 0 x5.length, .callR [22] [(22, .row 173 6 (x11.map qaA) 0)] (.tup []), .rl 0 0 x11.length, .rl 186 0 x11.length, .rl 214 0 x11.length, .nrm 2]]
        _
        ((22, .row 173 6 (x11.map qaA) 0) :: H) hn (by kernel_rfl) (aC h1 <| aC h2 <| aC h3 <| aC r0 <| aC (lq r22) <| aC (qbA h4) <| aC r0 <| aC (h6.symm : r22.length = x5.length) <| aC r0 <| aC (h6.symm : r22.length = x5.length) <| aC h7 <| aC rf <| aC h8 <| aC h9 <| aC r0 <| aC (lq x5) <| aC (qaS K ih h10 : qk6 prog 231 [.c (C.row 22 0 x5.length), vi .i64 mid, .c (C.t (T.int .i64 (wI6 (n - start)))), vi .i64 b, .c (C.t (T.fn 178))] [(22, .row 173 6 (x5.map qaA) 0)] [(22, .row 173 6 (x11.map qaA) 0)] (.tup [])) <| aC r0 <| aC (h12.symm : x5.length = x11.length) <| aC r0 <| aC (h12.symm : x5.length = x11.length) <| aC r0 <| aC (h12.symm : x5.length = x11.length) <| aN) (fun _ => rfl)
      ·have h := oinj h; subst h
       exact qfK (fuel := 132) [.go, rg3, bFa, rg4, rgG [oo, oo, oo, oo, .sb 181 true, oo, oo, oo, oo], bTr, rgG [oo, oo, oo, oo, oo, .rl 186 0 r22.length, .callR [22] [(22, .row 173 6 (x5.map qaA) 0)] (.tup []), .rl 0 0 x5.length, .rl 186 0 x5.length], rgG [oo, oo, oo, oo, .sb 195 false, oo, oo, oo, oo], bFa, rgG [oo, oo, oo, oo, .sb 209 true, oo, oo, oo, oo, .nrm 1], bFa]
        _
        ((22, .row 173 6 (x5.map qaA) 0) :: H) hn (by kernel_rfl) (aC h1 <| aC h2 <| aC h3 <| aC r0 <| aC (lq r22) <| aC (qbA h4) <| aC r0 <| aC (h6.symm : r22.length = x5.length) <| aC r0 <| aC (h6.symm : r22.length = x5.length) <| aC h7 <| aC rf <| aC h8 <| aC h9 <| aN) (fun _ => rfl)
     ·have h := oinj h; subst h
      exact qfK (fuel := 132) [.go, rg3, bFa, rg4, rgG [oo, oo, oo, oo, .sb 181 true, oo, oo, oo, oo], bTr, rgG [oo, oo, oo, oo, oo, .rl 186 0 r22.length, .callR [22] [(22, .row 173 6 (x5.map qaA) 0)] (.tup []), .rl 0 0 x5.length, .rl 186 0 x5.length], rgG [oo, oo, oo, oo, .sb 195 false, oo, oo, oo, oo], bFa, rgG [oo, oo, oo, oo, .sb 209 false, oo, oo, oo, oo, .nrm 1], bFa]
       _
       ((22, .row 173 6 (x5.map qaA) 0) :: H) hn (by kernel_rfl) (aC h1 <| aC h2 <| aC h3 <| aC r0 <| aC (lq r22) <| aC (qbA h4) <| aC r0 <| aC (h6.symm : r22.length = x5.length) <| aC r0 <| aC (h6.symm : r22.length = x5.length) <| aC h7 <| aC rf <| aC h8 <| aC rf <| aN) (fun _ => rfl)
   ·rcases qa0 h with ⟨h4, h⟩ | ⟨h4, h⟩
    ·rcases qa0 h with ⟨h5, h⟩ | ⟨h5, h⟩
     ·obtain ⟨x7, h6, h⟩ := qaU h
      obtain ⟨h8, h⟩ := qbV h
      rcases qa0 h with ⟨h9, h⟩ | ⟨h9, h⟩
      ·rcases qa0 h with ⟨h10, h⟩ | ⟨h10, h⟩
       ·obtain ⟨x12, h11, h⟩ := qaU h
        obtain ⟨h13, h⟩ := qbV h
        have h := oinj h; subst h
        exact qfK (fuel := 136) [.go, rg3, bFa, rg4, rgG [oo, oo, oo, oo, .sb 181 true, oo, oo, oo, oo], bFa, rgG [oo, oo, oo, oo, .sb 195 true, oo, oo, oo, oo], bTr, rgG [oo, oo, oo, oo, oo, .rl 200 0 r22.length, .callR [22] [(22, .row 173 6 (x7.map qaA) 0)] (.tup []), .rl 0 0 x7.length, .rl 200 0 x7.length], rgG [oo, oo, oo, oo, .sb 209 true, oo, oo, oo, oo], bTr, rgG [oo, oo, oo, oo, oo, .rl 214 0 x7.length, .callR [22] [(22, .row 173 6 (x12.map qaA) 0)] (.tup []), .rl 0 0 x12.length, .rl 200 0 x12.length, .rl 214 0 x12.length, .nrm 2]]
         _
         ((22, .row 173 6 (x12.map qaA) 0) :: H) hn (by kernel_rfl) (aC h1 <| aC h2 <| aC h3 <| aC h4 <| aC h5 <| aC r0 <| aC (lq r22) <| aC (qaS K ih h6 : qk6 prog 231 [.c (C.row 22 0 r22.length), vi .i64 a, vi .i64 start, vi .i64 mid, .c (C.t (T.fn 178))] [(22, .row 173 6 (r22.map qaA) 0)] [(22, .row 173 6 (x7.map qaA) 0)] (.tup [])) <| aC r0 <| aC (h8.symm : r22.length = x7.length) <| aC r0 <| aC (h8.symm : r22.length = x7.length) <| aC h9 <| aC h10 <| aC r0 <| aC (lq x7) <| aC (qaS K ih h11 : qk6 prog 231 [.c (C.row 22 0 x7.length), vi .i64 mid, .c (C.t (T.int .i64 (wI6 (n - start)))), vi .i64 b, .c (C.t (T.fn 178))] [(22, .row 173 6 (x7.map qaA) 0)] [(22, .row 173 6 (x12.map qaA) 0)] (.tup [])) <| aC r0 <| aC (h13.symm : x7.length = x12.length) <| aC r0 <| aC (h13.symm : x7.length = x12.length) <| aC r0 <| aC (h13.symm : x7.length = x12.length) <| aN) (fun _ => rfl)
       ·have h := oinj h; subst h
        exact qfK (fuel := 132) [.go, rg3, bFa, rg4, rgG [oo, oo, oo, oo, .sb 181 true, oo, oo, oo, oo], bFa, rgG [oo, oo, oo, oo, .sb 195 true, oo, oo, oo, oo], bTr, rgG [oo, oo, oo, oo, oo, .rl 200 0 r22.length, .callR [22] [(22, .row 173 6 (x7.map qaA) 0)] (.tup []), .rl 0 0 x7.length, .rl 200 0 x7.length], rgG [oo, oo, oo, oo, .sb 209 true, oo, oo, oo, oo, .nrm 1], bFa]
         _
         ((22, .row 173 6 (x7.map qaA) 0) :: H) hn (by kernel_rfl) (aC h1 <| aC h2 <| aC h3 <| aC h4 <| aC h5 <| aC r0 <| aC (lq r22) <| aC (qaS K ih h6 : qk6 prog 231 [.c (C.row 22 0 r22.length), vi .i64 a, vi .i64 start, vi .i64 mid, .c (C.t (T.fn 178))] [(22, .row 173 6 (r22.map qaA) 0)] [(22, .row 173 6 (x7.map qaA) 0)] (.tup [])) <| aC r0 <| aC (h8.symm : r22.length = x7.length) <| aC r0 <| aC (h8.symm : r22.length = x7.length) <| aC h9 <| aC h10 <| aN) (fun _ => rfl)
      ·have h := oinj h; subst h
       exact qfK (fuel := 132) [.go, rg3, bFa, rg4, rgG [oo, oo, oo, oo, .sb 181 true, oo, oo, oo, oo], bFa, rgG [oo, oo, oo, oo, .sb 195 true, oo, oo, oo, oo], bTr, rgG [oo, oo, oo, oo, oo, .rl 200 0 r22.length, .callR [22] [(22, .row 173 6 (x7.map qaA) 0)] (.tup []), .rl 0 0 x7.length, .rl 200 0 x7.length], rgG [oo, oo, oo, oo, .sb 209 false, oo, oo, oo, oo, .nrm 1], bFa]
        _
        ((22, .row 173 6 (x7.map qaA) 0) :: H) hn (by kernel_rfl) (aC h1 <| aC h2 <| aC h3 <| aC h4 <| aC h5 <| aC r0 <| aC (lq r22) <| aC (qaS K ih h6 : qk6 prog 231 [.c (C.row 22 0 r22.length), vi .i64 a, vi .i64 start, vi .i64 mid, .c (C.t (T.fn 178))] [(22, .row 173 6 (r22.map qaA) 0)] [(22, .row 173 6 (x7.map qaA) 0)] (.tup [])) <| aC r0 <| aC (h8.symm : r22.length = x7.length) <| aC r0 <| aC (h8.symm : r22.length = x7.length) <| aC h9 <| aC rf <| aN) (fun _ => rfl)
     ·rcases qa0 h with ⟨h6, h⟩ | ⟨h6, h⟩
      ·rcases qa0 h with ⟨h7, h⟩ | ⟨h7, h⟩
       ·obtain ⟨x9, h8, h⟩ := qaU h
        obtain ⟨h10, h⟩ := qbV h
        have h := oinj h; subst h
        exact qfK (fuel := 132) [.go, rg3, bFa, rg4, rgG [oo, oo, oo, oo, .sb 181 true, oo, oo, oo, oo], bFa, rgG [oo, oo, oo, oo, .sb 195 true, oo, oo, oo, oo], bFa, rgG [oo, oo, oo, oo, .sb 209 true, oo, oo, oo, oo], bTr, rgG [oo, oo, oo, oo, oo, .rl 214 0 r22.length, .callR [22] [(22, .row 173 6 (x9.map qaA) 0)] (.tup []), .rl 0 0 x9.length, .rl 214 0 x9.length, .nrm 1]]
         _
         ((22, .row 173 6 (x9.map qaA) 0) :: H) hn (by kernel_rfl) (aC h1 <| aC h2 <| aC h3 <| aC h4 <| aC h5 <| aC h6 <| aC h7 <| aC r0 <| aC (lq r22) <| aC (qaS K ih h8 : qk6 prog 231 [.c (C.row 22 0 r22.length), vi .i64 mid, .c (C.t (T.int .i64 (wI6 (n - start)))), vi .i64 b, .c (C.t (T.fn 178))] [(22, .row 173 6 (r22.map qaA) 0)] [(22, .row 173 6 (x9.map qaA) 0)] (.tup [])) <| aC r0 <| aC (h10.symm : r22.length = x9.length) <| aC r0 <| aC (h10.symm : r22.length = x9.length) <| aN) (fun _ => rfl)
       ·have h := oinj h; subst h
        exact qfK (fuel := 128) [.go, rg3, bFa, rg4, rgG [oo, oo, oo, oo, .sb 181 true, oo, oo, oo, oo], bFa, rgG [oo, oo, oo, oo, .sb 195 true, oo, oo, oo, oo], bFa, rgG [oo, oo, oo, oo, .sb 209 true, oo, oo, oo, oo], bFa]
         _
         ((22, .row 173 6 (r22.map qaA) 0) :: H) hn (by kernel_rfl) (aC h1 <| aC h2 <| aC h3 <| aC h4 <| aC h5 <| aC h6 <| aC h7 <| aN) (fun _ => rfl)
      ·have h := oinj h; subst h
       exact qfK (fuel := 128) [.go, rg3, bFa, rg4, rgG [oo, oo, oo, oo, .sb 181 true, oo, oo, oo, oo], bFa, rgG [oo, oo, oo, oo, .sb 195 true, oo, oo, oo, oo], bFa, rgG [oo, oo, oo, oo, .sb 209 false, oo, oo, oo, oo], bFa]
        _
        ((22, .row 173 6 (r22.map qaA) 0) :: H) hn (by kernel_rfl) (aC h1 <| aC h2 <| aC h3 <| aC h4 <| aC h5 <| aC h6 <| aC rf <| aN) (fun _ => rfl)
    ·rcases qa0 h with ⟨h5, h⟩ | ⟨h5, h⟩
     ·rcases qa0 h with ⟨h6, h⟩ | ⟨h6, h⟩
      ·obtain ⟨x8, h7, h⟩ := qaU h
       obtain ⟨h9, h⟩ := qbV h
       have h := oinj h; subst h
       exact qfK (fuel := 132) [.go, rg3, bFa, rg4, rgG [oo, oo, oo, oo, .sb 181 true, oo, oo, oo, oo], bFa, rgG [oo, oo, oo, oo, .sb 195 false, oo, oo, oo, oo], bFa, rgG [oo, oo, oo, oo, .sb 209 true, oo, oo, oo, oo], bTr, rgG [oo, oo, oo, oo, oo, .rl 214 0 r22.length, .callR [22] [(22, .row 173 6 (x8.map qaA) 0)] (.tup []), .rl 0 0 x8.length, .rl 214 0 x8.length, .nrm 1]]
        _
        ((22, .row 173 6 (x8.map qaA) 0) :: H) hn (by kernel_rfl) (aC h1 <| aC h2 <| aC h3 <| aC h4 <| aC rf <| aC h5 <| aC h6 <| aC r0 <| aC (lq r22) <| aC (qaS K ih h7 : qk6 prog 231 [.c (C.row 22 0 r22.length), vi .i64 mid, .c (C.t (T.int .i64 (wI6 (n - start)))), vi .i64 b, .c (C.t (T.fn 178))] [(22, .row 173 6 (r22.map qaA) 0)] [(22, .row 173 6 (x8.map qaA) 0)] (.tup [])) <| aC r0 <| aC (h9.symm : r22.length = x8.length) <| aC r0 <| aC (h9.symm : r22.length = x8.length) <| aN) (fun _ => rfl)
      ·have h := oinj h; subst h
       exact qfK (fuel := 128) [.go, rg3, bFa, rg4, rgG [oo, oo, oo, oo, .sb 181 true, oo, oo, oo, oo], bFa, rgG [oo, oo, oo, oo, .sb 195 false, oo, oo, oo, oo], bFa, rgG [oo, oo, oo, oo, .sb 209 true, oo, oo, oo, oo], bFa]
        _
        ((22, .row 173 6 (r22.map qaA) 0) :: H) hn (by kernel_rfl) (aC h1 <| aC h2 <| aC h3 <| aC h4 <| aC rf <| aC h5 <| aC h6 <| aN) (fun _ => rfl)
     ·have h := oinj h; subst h
      exact qfK (fuel := 128) [.go, rg3, bFa, rg4, rgG [oo, oo, oo, oo, .sb 181 true, oo, oo, oo, oo], bFa, rgG [oo, oo, oo, oo, .sb 195 false, oo, oo, oo, oo], bFa, rgG [oo, oo, oo, oo, .sb 209 false, oo, oo, oo, oo], bFa]
       _
       ((22, .row 173 6 (r22.map qaA) 0) :: H) hn (by kernel_rfl) (aC h1 <| aC h2 <| aC h3 <| aC h4 <| aC rf <| aC h5 <| aC rf <| aN) (fun _ => rfl)
  ·rcases qa0 h with ⟨h3, h⟩ | ⟨h3, h⟩
   ·rcases qa0 h with ⟨h4, h⟩ | ⟨h4, h⟩
    ·obtain ⟨x6, h5, h⟩ := qaU h
     obtain ⟨h7, h⟩ := qbV h
     rcases qa0 h with ⟨h8, h⟩ | ⟨h8, h⟩
     ·rcases qa0 h with ⟨h9, h⟩ | ⟨h9, h⟩
      ·obtain ⟨x11, h10, h⟩ := qaU h
       obtain ⟨h12, h⟩ := qbV h
       have h := oinj h; subst h
       exact qfK (fuel := 136) [.go, rg3, bFa, rg4, rgG [oo, oo, oo, oo, .sb 181 false, oo, oo, oo, oo], bFa, rgG [oo, oo, oo, oo, .sb 195 true, oo, oo, oo, oo], bTr, rgG [oo, oo, oo, oo, oo, .rl 200 0 r22.length, .callR [22] [(22, .row 173 6 (x6.map qaA) 0)] (.tup []), .rl 0 0 x6.length, .rl 200 0 x6.length], rgG [oo, oo, oo, oo, .sb 209 true, oo, oo, oo, oo], bTr, rgG [oo, oo, oo, oo, oo, .rl 214 0 x6.length, .callR [22] [(22, .row 173 6 (x11.map qaA) 0)] (.tup []), .rl 0 0 x11.length, .rl 200 0 x11.length, .rl 214 0 x11.length, .nrm 2]]
        _
        ((22, .row 173 6 (x11.map qaA) 0) :: H) hn (by kernel_rfl) (aC h1 <| aC h2 <| aC rf <| aC h3 <| aC h4 <| aC r0 <| aC (lq r22) <| aC (qaS K ih h5 : qk6 prog 231 [.c (C.row 22 0 r22.length), vi .i64 a, vi .i64 start, vi .i64 mid, .c (C.t (T.fn 178))] [(22, .row 173 6 (r22.map qaA) 0)] [(22, .row 173 6 (x6.map qaA) 0)] (.tup [])) <| aC r0 <| aC (h7.symm : r22.length = x6.length) <| aC r0 <| aC (h7.symm : r22.length = x6.length) <| aC h8 <| aC h9 <| aC r0 <| aC (lq x6) <| aC (qaS K ih h10 : qk6 prog 231 [.c (C.row 22 0 x6.length), vi .i64 mid, .c (C.t (T.int .i64 (wI6 (n - start)))), vi .i64 b, .c (C.t (T.fn 178))] [(22, .row 173 6 (x6.map qaA) 0)] [(22, .row 173 6 (x11.map qaA) 0)] (.tup [])) <| aC r0 <| aC (h12.symm : x6.length = x11.length) <| aC r0 <| aC (h12.symm : x6.length = x11.length) <| aC r0 <| aC (h12.symm : x6.length = x11.length) <| aN) (fun _ => rfl)
      ·have h := oinj h; subst h
       exact qfK (fuel := 132) [.go, rg3, bFa, rg4, rgG [oo, oo, oo, oo, .sb 181 false, oo, oo, oo, oo], bFa, rgG [oo, oo, oo, oo, .sb 195 true, oo, oo, oo, oo], bTr, rgG [oo, oo, oo, oo, oo, .rl 200 0 r22.length, .callR [22] [(22, .row 173 6 (x6.map qaA) 0)] (.tup []), .rl 0 0 x6.length, .rl 200 0 x6.length], rgG [oo, oo, oo, oo, .sb 209 true, oo, oo, oo, oo, .nrm 1], bFa]
        _
        ((22, .row 173 6 (x6.map qaA) 0) :: H) hn (by kernel_rfl) (aC h1 <| aC h2 <| aC rf <| aC h3 <| aC h4 <| aC r0 <| aC (lq r22) <| aC (qaS K ih h5 : qk6 prog 231 [.c (C.row 22 0 r22.length), vi .i64 a, vi .i64 start, vi .i64 mid, .c (C.t (T.fn 178))] [(22, .row 173 6 (r22.map qaA) 0)] [(22, .row 173 6 (x6.map qaA) 0)] (.tup [])) <| aC r0 <| aC (h7.symm : r22.length = x6.length) <| aC r0 <| aC (h7.symm : r22.length = x6.length) <| aC h8 <| aC h9 <| aN) (fun _ => rfl)
     ·have h := oinj h; subst h
      exact qfK (fuel := 132) [.go, rg3, bFa, rg4, rgG [oo, oo, oo, oo, .sb 181 false, oo, oo, oo, oo], bFa, rgG [oo, oo, oo, oo, .sb 195 true, oo, oo, oo, oo], bTr, rgG [oo, oo, oo, oo, oo, .rl 200 0 r22.length, .callR [22] [(22, .row 173 6 (x6.map qaA) 0)] (.tup []), .rl 0 0 x6.length, .rl 200 0 x6.length], rgG [oo, oo, oo, oo, .sb 209 false, oo, oo, oo, oo, .nrm 1], bFa]
       _
       ((22, .row 173 6 (x6.map qaA) 0) :: H) hn (by kernel_rfl) (aC h1 <| aC h2 <| aC rf <| aC h3 <| aC h4 <| aC r0 <| aC (lq r22) <| aC (qaS K ih h5 : qk6 prog 231 [.c (C.row 22 0 r22.length), vi .i64 a, vi .i64 start, vi .i64 mid, .c (C.t (T.fn 178))] [(22, .row 173 6 (r22.map qaA) 0)] [(22, .row 173 6 (x6.map qaA) 0)] (.tup [])) <| aC r0 <| aC (h7.symm : r22.length = x6.length) <| aC r0 <| aC (h7.symm : r22.length = x6.length) <| aC h8 <| aC rf <| aN) (fun _ => rfl)
    ·rcases qa0 h with ⟨h5, h⟩ | ⟨h5, h⟩
     ·rcases qa0 h with ⟨h6, h⟩ | ⟨h6, h⟩
      ·obtain ⟨x8, h7, h⟩ := qaU h
       obtain ⟨h9, h⟩ := qbV h
       have h := oinj h; subst h
       exact qfK (fuel := 132) [.go, rg3, bFa, rg4, rgG [oo, oo, oo, oo, .sb 181 false, oo, oo, oo, oo], bFa, rgG [oo, oo, oo, oo, .sb 195 true, oo, oo, oo, oo], bFa, rgG [oo, oo, oo, oo, .sb 209 true, oo, oo, oo, oo], bTr, rgG [oo, oo, oo, oo, oo, .rl 214 0 r22.length, .callR [22] [(22, .row 173 6 (x8.map qaA) 0)] (.tup []), .rl 0 0 x8.length, .rl 214 0 x8.length, .nrm 1]]
        _
        ((22, .row 173 6 (x8.map qaA) 0) :: H) hn (by kernel_rfl) (aC h1 <| aC h2 <| aC rf <| aC h3 <| aC h4 <| aC h5 <| aC h6 <| aC r0 <| aC (lq r22) <| aC (qaS K ih h7 : qk6 prog 231 [.c (C.row 22 0 r22.length), vi .i64 mid, .c (C.t (T.int .i64 (wI6 (n - start)))), vi .i64 b, .c (C.t (T.fn 178))] [(22, .row 173 6 (r22.map qaA) 0)] [(22, .row 173 6 (x8.map qaA) 0)] (.tup [])) <| aC r0 <| aC (h9.symm : r22.length = x8.length) <| aC r0 <| aC (h9.symm : r22.length = x8.length) <| aN) (fun _ => rfl)
      ·have h := oinj h; subst h
       exact qfK (fuel := 128) [.go, rg3, bFa, rg4, rgG [oo, oo, oo, oo, .sb 181 false, oo, oo, oo, oo], bFa, rgG [oo, oo, oo, oo, .sb 195 true, oo, oo, oo, oo], bFa, rgG [oo, oo, oo, oo, .sb 209 true, oo, oo, oo, oo], bFa]
        _
        ((22, .row 173 6 (r22.map qaA) 0) :: H) hn (by kernel_rfl) (aC h1 <| aC h2 <| aC rf <| aC h3 <| aC h4 <| aC h5 <| aC h6 <| aN) (fun _ => rfl)
     ·have h := oinj h; subst h
      exact qfK (fuel := 128) [.go, rg3, bFa, rg4, rgG [oo, oo, oo, oo, .sb 181 false, oo, oo, oo, oo], bFa, rgG [oo, oo, oo, oo, .sb 195 true, oo, oo, oo, oo], bFa, rgG [oo, oo, oo, oo, .sb 209 false, oo, oo, oo, oo], bFa]
       _
       ((22, .row 173 6 (r22.map qaA) 0) :: H) hn (by kernel_rfl) (aC h1 <| aC h2 <| aC rf <| aC h3 <| aC h4 <| aC h5 <| aC rf <| aN) (fun _ => rfl)
   ·rcases qa0 h with ⟨h4, h⟩ | ⟨h4, h⟩
    ·rcases qa0 h with ⟨h5, h⟩ | ⟨h5, h⟩
     ·obtain ⟨x7, h6, h⟩ := qaU h
      obtain ⟨h8, h⟩ := qbV h
      have h := oinj h; subst h
      exact qfK (fuel := 132) [.go, rg3, bFa, rg4, rgG [oo, oo, oo, oo, .sb 181 false, oo, oo, oo, oo], bFa, rgG [oo, oo, oo, oo, .sb 195 false, oo, oo, oo, oo], bFa, rgG [oo, oo, oo, oo, .sb 209 true, oo, oo, oo, oo], bTr, rgG [oo, oo, oo, oo, oo, .rl 214 0 r22.length, .callR [22] [(22, .row 173 6 (x7.map qaA) 0)] (.tup []), .rl 0 0 x7.length, .rl 214 0 x7.length, .nrm 1]]
       _
       ((22, .row 173 6 (x7.map qaA) 0) :: H) hn (by kernel_rfl) (aC h1 <| aC h2 <| aC rf <| aC h3 <| aC rf <| aC h4 <| aC h5 <| aC r0 <| aC (lq r22) <| aC (qaS K ih h6 : qk6 prog 231 [.c (C.row 22 0 r22.length), vi .i64 mid, .c (C.t (T.int .i64 (wI6 (n - start)))), vi .i64 b, .c (C.t (T.fn 178))] [(22, .row 173 6 (r22.map qaA) 0)] [(22, .row 173 6 (x7.map qaA) 0)] (.tup [])) <| aC r0 <| aC (h8.symm : r22.length = x7.length) <| aC r0 <| aC (h8.symm : r22.length = x7.length) <| aN) (fun _ => rfl)
     ·have h := oinj h; subst h
      exact qfK (fuel := 128) [.go, rg3, bFa, rg4, rgG [oo, oo, oo, oo, .sb 181 false, oo, oo, oo, oo], bFa, rgG [oo, oo, oo, oo, .sb 195 false, oo, oo, oo, oo], bFa, rgG [oo, oo, oo, oo, .sb 209 true, oo, oo, oo, oo], bFa]
       _
       ((22, .row 173 6 (r22.map qaA) 0) :: H) hn (by kernel_rfl) (aC h1 <| aC h2 <| aC rf <| aC h3 <| aC rf <| aC h4 <| aC h5 <| aN) (fun _ => rfl)
    ·have h := oinj h; subst h
     exact qfK (fuel := 128) [.go, rg3, bFa, rg4, rgG [oo, oo, oo, oo, .sb 181 false, oo, oo, oo, oo], bFa, rgG [oo, oo, oo, oo, .sb 195 false, oo, oo, oo, oo], bFa, rgG [oo, oo, oo, oo, .sb 209 false, oo, oo, oo, oo], bFa]
      _
      ((22, .row 173 6 (r22.map qaA) 0) :: H) hn (by kernel_rfl) (aC h1 <| aC h2 <| aC rf <| aC h3 <| aC rf <| aC h4 <| aC rf <| aN) (fun _ => rfl)
theorem qh8 {K} (ih : qbI K) {cx} (hn : cx.n = 220) (H : List (Nat × Blk)) (exs : List V) {r22 i k} {r} (h : qaH (K + 1) (.c4 r22 i k) = some r) : qbR cx H exs (.c4 r22 i k) r := by
 rw [qaH] at h
 rcases qa0 h with ⟨h1, h⟩ | ⟨h1, h⟩
 ·obtain ⟨x2, h3, h⟩ := qaU h
  obtain ⟨x4, h5, h⟩ := qaU h
  obtain ⟨x6, h7, h⟩ := qaU h
  obtain ⟨x8, h9, h⟩ := qaU h
  exact wkG [.go, rg4, bTr, .draw [.mv, .p, .mv, .p, .p, .mv, .p, .p, .ir, (.ld (qaA x2)), .mv, .p, .ir, (.ld (qaA x4)), .ir, (.st (qaA x6) ((r22.set (k.toNat) x2).map qaA))] [.op .ir, opI (.st (qaA x8) (((r22.set (k.toNat) x2).set ((wI6 (k + (1 : Int))).toNat) x4).map qaA))], rg3, .pre [.rl 0 0 ((r22.set (k.toNat) x2).set ((wI6 (k + (1 : Int))).toNat) x4).length, .nrm 2, .keepT [0,10,13]]] hn (aC h1 <| aC (qb5 h3) <| aC (qc1 h3 (by simp) : (wI6 (k + (1 : Int))) < ((r22.length : Nat) : Int)) <| aC (qc2 qaA h3 : (r22.map qaA)[(0 + (wI6 (k + (1 : Int))).toNat)]? = some (qaA x2)) <| aC (qb5 h5) <| aC (qc1 h5 (by simp) : k < ((r22.length : Nat) : Int)) <| aC (qc2 qaA h5 : (r22.map qaA)[(0 + k.toNat)]? = some (qaA x4)) <| aC (qb5 h7) <| aC (qc1 h7 (by simp) : k < ((r22.length : Nat) : Int)) <| aC (qc2 qaA h7 : (r22.map qaA)[(0 + k.toNat)]? = some (qaA x6)) <| aC (qe8 _ _ x2 _ : (r22.map qaA).set (0 + k.toNat) (qdH (qaA x6) 0 [(T.bool x2.Coef.Neg), (T.sl 1 (x2.Coef.Abs.map qaF)), (T.int .i64 x2.Exp.e0), (T.int .i64 x2.Exp.e1), (T.int .i64 x2.Exp.e2), (T.int .i64 x2.Exp.e3)]) = (r22.set (k.toNat) x2).map qaA) <| aC (Nat.zero_le _ : 0 ≤ (0 + k.toNat)) <| aC (qb5 h9) <| aC (qc1 h9 (by simp) : (wI6 (k + (1 : Int))) < ((r22.length : Nat) : Int)) <| aC (qc2 qaA h9 : ((r22.set (k.toNat) x2).map qaA)[(0 + (wI6 (k + (1 : Int))).toNat)]? = some (qaA x8)) <| aC (qe8 _ _ x4 _ : ((r22.set (k.toNat) x2).map qaA).set (0 + (wI6 (k + (1 : Int))).toNat) (qdH (qaA x8) 0 [(T.bool x4.Coef.Neg), (T.sl 1 (x4.Coef.Abs.map qaF)), (T.int .i64 x4.Exp.e0), (T.int .i64 x4.Exp.e1), (T.int .i64 x4.Exp.e2), (T.int .i64 x4.Exp.e3)]) = ((r22.set (k.toNat) x2).set ((wI6 (k + (1 : Int))).toNat) x4).map qaA) <| aC (Nat.zero_le _ : 0 ≤ (0 + (wI6 (k + (1 : Int))).toNat)) <| aC r0 <| aC (by simp : r22.length = ((r22.set (k.toNat) x2).set ((wI6 (k + (1 : Int))).toNat) x4).length) <| aN) (ih _ _ h cx hn H exs)
 ·have h := oinj h; subst h
  exact qfK (fuel := 72) [.go, rg4, bFa]
   _
   ((22, .row 173 6 (r22.map qaA) 0) :: H) hn (by kernel_rfl) (aC h1 <| aN) (fun _ => rfl)
theorem qh7 {K} (ih : qbI K) {cx} (hn : cx.n = 220) (H : List (Nat × Blk)) (exs : List V) {r22 i k} {r} (h : qaH (K + 1) (.c5 r22 i k) = some r) : qbR cx H exs (.c5 r22 i k) r := by
 rw [qaH] at h
 rcases qa0 h with ⟨h1, h⟩ | ⟨h1, h⟩
 ·obtain ⟨x2, h3, h⟩ := qaU h
  obtain ⟨x4, h5, h⟩ := qaU h
  obtain ⟨x6, h7, h⟩ := qaU h
  obtain ⟨x8, h9, h⟩ := qaU h
  exact wkG [.go, rg3, bTr, .draw [.mv, .p, .mv, .p, .p, .mv, .p, .p, .ir, (.ld (qaA x2)), .mv, .p, .ir, (.ld (qaA x4)), .ir, (.st (qaA x6) ((r22.set (k.toNat) x2).map qaA))] [.op .ir, opI (.st (qaA x8) (((r22.set (k.toNat) x2).set ((wI6 (k - (1 : Int))).toNat) x4).map qaA))], rg3, .pre [.rl 0 0 ((r22.set (k.toNat) x2).set ((wI6 (k - (1 : Int))).toNat) x4).length, .nrm 2, .keepT [0,14,17]]] hn (aC h1 <| aC (qb5 h3) <| aC (qc1 h3 (by simp) : (wI6 (k - (1 : Int))) < ((r22.length : Nat) : Int)) <| aC (qc2 qaA h3 : (r22.map qaA)[(0 + (wI6 (k - (1 : Int))).toNat)]? = some (qaA x2)) <| aC (qb5 h5) <| aC (qc1 h5 (by simp) : k < ((r22.length : Nat) : Int)) <| aC (qc2 qaA h5 : (r22.map qaA)[(0 + k.toNat)]? = some (qaA x4)) <| aC (qb5 h7) <| aC (qc1 h7 (by simp) : k < ((r22.length : Nat) : Int)) <| aC (qc2 qaA h7 : (r22.map qaA)[(0 + k.toNat)]? = some (qaA x6)) <| aC (qe8 _ _ x2 _ : (r22.map qaA).set (0 + k.toNat) (qdH (qaA x6) 0 [(T.bool x2.Coef.Neg), (T.sl 1 (x2.Coef.Abs.map qaF)), (T.int .i64 x2.Exp.e0), (T.int .i64 x2.Exp.e1), (T.int .i64 x2.Exp.e2), (T.int .i64 x2.Exp.e3)]) = (r22.set (k.toNat) x2).map qaA) <| aC (Nat.zero_le _ : 0 ≤ (0 + k.toNat)) <| aC (qb5 h9) <| aC (qc1 h9 (by simp) : (wI6 (k - (1 : Int))) < ((r22.length : Nat) : Int)) <| aC (qc2 qaA h9 : ((r22.set (k.toNat) x2).map qaA)[(0 + (wI6 (k - (1 : Int))).toNat)]? = some (qaA x8)) <| aC (qe8 _ _ x4 _ : ((r22.set (k.toNat) x2).map qaA).set (0 + (wI6 (k - (1 : Int))).toNat) (qdH (qaA x8) 0 [(T.bool x4.Coef.Neg), (T.sl 1 (x4.Coef.Abs.map qaF)), (T.int .i64 x4.Exp.e0), (T.int .i64 x4.Exp.e1), (T.int .i64 x4.Exp.e2), (T.int .i64 x4.Exp.e3)]) = ((r22.set (k.toNat) x2).set ((wI6 (k - (1 : Int))).toNat) x4).map qaA) <| aC (Nat.zero_le _ : 0 ≤ (0 + (wI6 (k - (1 : Int))).toNat)) <| aC r0 <| aC (by simp : r22.length = ((r22.set (k.toNat) x2).set ((wI6 (k - (1 : Int))).toNat) x4).length) <| aN) (ih _ _ h cx hn H exs)
 ·have h := oinj h; subst h
  exact qfK (fuel := 72) [.go, rg3, bFa]
   _
   ((22, .row 173 6 (r22.map qaA) 0) :: H) hn (by kernel_rfl) (aC h1 <| aN) (fun _ => rfl)
theorem qbO : ∀ K : Nat, qbI K
 | 0, c, r, h => by rw [qaH] at h; cases h
 | K + 1, .c0 .., r, h => fun cx hn H exs => qiC (qbO K) hn H exs h
 | K + 1, .c1 .., r, h => fun cx hn H exs => qiB (qbO K) hn H exs h
 | K + 1, .c2 .., r, h => fun cx hn H exs => qiA (qbO K) hn H exs h
 | K + 1, .c3 .., r, h => fun cx hn H exs => qh9 (qbO K) hn H exs h
 | K + 1, .c4 .., r, h => fun cx hn H exs => qh8 (qbO K) hn H exs h
 | K + 1, .c5 .., r, h => fun cx hn H exs => qh7 (qbO K) hn H exs h
theorem qeU {K : Nat} {row : (List qaM)} {a : Int} {m : Int} {b : Int} {r : (List qaM)} (h : qdA K row a m b = some r) : qk6 prog 231 [.c (C.row 22 0 row.length), vi .i64 a, vi .i64 m, vi .i64 b, .c (C.t (T.fn 178))] [(22, .row 173 6 (row.map qaA) 0)] [(22, .row 173 6 (r.map qaA) 0)] (.tup []) :=
 qs8 (n := 220) (by kernel_rfl) (by simp) fun cx hn H exs => qbO K (.c0 row a m b) r h cx hn H exs
open Go.Proofs.Tryz (prog)
inductive qc4 where
 | c0 (row : (List qaM)) (n : Int)
 | c1 (r22 : (List qaM)) (n : Int) (blockSize : Int) (a : Int) (b : Int)
 | c2 (r22 : (List qaM)) (n : Int) (blockSize : Int)
 | c3 (r22 : (List qaM)) (n : Int) (blockSize : Int) (a : Int) (b : Int)
def qaP : Nat → qc4 → Option (List qaM)
 | 0, _ => none
 | K + 1, .c0 row n =>
  qaP K (.c1 row n (20 : Int) (0 : Int) (20 : Int))
 | K + 1, .c1 r22 n blockSize a b =>
  bif (decide (b ≤ n)) then
   (qb9 K r22 a b).bind fun x3 =>
   gd (x3.length = r22.length) <|
   qaP K (.c1 x3 n blockSize b (wI6 (b + blockSize)))
  else
   (qb9 K r22 a n).bind fun x3 =>
   gd (x3.length = r22.length) <|
   qaP K (.c2 x3 n blockSize)
 | K + 1, .c2 r22 n blockSize =>
  bif (decide (blockSize < n)) then
   qaP K (.c3 r22 n blockSize (0 : Int) (wI6 ((2 : Int) * blockSize)))
  else
   some r22
 | K + 1, .c3 r22 n blockSize a b =>
  bif (decide (b ≤ n)) then
   (qdA K r22 a (wI6 (a + blockSize)) b).bind fun x3 =>
   gd (x3.length = r22.length) <|
   qaP K (.c3 x3 n blockSize b (wI6 (b + (wI6 ((2 : Int) * blockSize)))))
  else
   bif (decide ((wI6 (a + blockSize)) < n)) then
    (qdA K r22 a (wI6 (a + blockSize)) n).bind fun x4 =>
    gd (x4.length = r22.length) <|
    qaP K (.c2 x4 n (wI6 (blockSize * (2 : Int))))
   else
    qaP K (.c2 r22 n (wI6 (blockSize * (2 : Int))))
def qeA (K : Nat) (row : (List qaM)) (n : Int) : Option (List qaM) := qaP K (.c0 row n)
noncomputable def qbP : Code := qm5 prog 214
noncomputable def qiG : qc4 → List Fr
 | .c0 .. => [.code qbP]
 | .c1 .. => [.code (.loop (atC qbP [1,1,0,0,0])), .blk 0, .code (atC qbP [1,1,1])]
 | .c2 .. => [.code (.loop (atC qbP [1,1,1,1,0,0])), .blk 2]
 | .c3 .. => [.code (.loop (atC qbP [1,1,1,1,0,0,1,0,1,0,0,0])), .blk 4, .code (atC qbP [1,1,1,1,0,0,1,0,1,1]), .blk 3, .lp (atC qbP [1,1,1,1,0,0]), .blk 2]
def qiI (H : List (Nat × Blk)) (exs : List V) : qc4 → St
 | .c0 row n => ⟨idxV 0 [.c (C.row 22 0 row.length), vi .i64 n, .c (C.t (T.fn 178))], [(22, .row 173 6 (row.map qaA) 0)] ++ H, exs⟩
 | .c1 r22 n blockSize a b => ⟨[(0, .c (C.row 22 0 r22.length)), (1, vi .i64 n), (2, .c (C.t (T.fn 178))), (6, vi .i64 blockSize), (7, vi .i64 a), (8, vi .i64 b)], [(22, .row 173 6 (r22.map qaA) 0)] ++ H, exs⟩
 | .c2 r22 n blockSize => ⟨[(0, .c (C.row 22 0 r22.length)), (1, vi .i64 n), (2, .c (C.t (T.fn 178))), (6, vi .i64 blockSize)], [(22, .row 173 6 (r22.map qaA) 0)] ++ H, exs⟩
 | .c3 r22 n blockSize a b => ⟨[(0, .c (C.row 22 0 r22.length)), (1, vi .i64 n), (2, .c (C.t (T.fn 178))), (6, vi .i64 blockSize), (7, vi .i64 a), (8, vi .i64 b)], [(22, .row 173 6 (r22.map qaA) 0)] ++ H, exs⟩
def qcK (cx : Cx) (H : List (Nat × Blk)) (exs : List V) (c : qc4) (r : (List qaM)) : Prop := Wk prog cx (zlP prog 214 ([(22, .row 173 6 (r.map qaA) 0)] ++ H) exs (.tup [])) (qiG c) .normal (qiI H exs c)
abbrev qcL (K : Nat) : Prop := ∀ c r, qaP K c = some r → ∀ cx : Cx, cx.n = 63 → ∀ H exs, qcK cx H exs c r
theorem qiM {K} (ih : qcL K) {cx} (hn : cx.n = 63) (H : List (Nat × Blk)) (exs : List V) {row n} {r} (h : qaP (K + 1) (.c0 row n) = some r) : qcK cx H exs (.c0 row n) r := by
 rw [qaP] at h
 exact wkG [rg1, rg3, .pre [.rl 0 0 row.length, .keepT [0,1,2,6,7,8]]] hn (aC r0 <| aC (lq row) <| aN) (ih _ _ h cx hn H exs)
theorem qiL {K} (ih : qcL K) {cx} (hn : cx.n = 63) (H : List (Nat × Blk)) (exs : List V) {r22 n blockSize a b} {r} (h : qaP (K + 1) (.c1 r22 n blockSize a b) = some r) : qcK cx H exs (.c1 r22 n blockSize a b) r := by
 rw [qaP] at h
 rcases qa0 h with ⟨h1, h⟩ | ⟨h1, h⟩
 ·obtain ⟨x3, h2, h⟩ := qaU h
  obtain ⟨h4, h⟩ := qbV h
  exact wkG [.go, rg3, bTr, rgG [oo, oo, oo, oo, .rl 14 0 r22.length, .callR [22] [(22, .row 173 6 (x3.map qaA) 0)] (.tup []), .rl 0 0 x3.length, .rl 14 0 x3.length], rg2, rg4, .pre [.rl 0 0 x3.length, .nrm 1, .keepT [0,1,2,6,7,8]]] hn (aC h1 <| aC r0 <| aC (lq r22) <| aC (qeL h2) <| aC r0 <| aC (h4.symm : r22.length = x3.length) <| aC r0 <| aC (h4.symm : r22.length = x3.length) <| aC r0 <| aC (lq x3) <| aN) (ih _ _ h cx hn H exs)
 ·obtain ⟨x3, h2, h⟩ := qaU h
  obtain ⟨h4, h⟩ := qbV h
  exact wkG [.go, rg3, bFa, rgG [oo, oo, oo, oo, .rl 23 0 r22.length, .callR [22] [(22, .row 173 6 (x3.map qaA) 0)] (.tup []), .rl 0 0 x3.length, .rl 23 0 x3.length], .pre [.rl 0 0 x3.length, .nrm 1, .keepT [0,1,2,6]]] hn (aC h1 <| aC r0 <| aC (lq r22) <| aC (qeL h2) <| aC r0 <| aC (h4.symm : r22.length = x3.length) <| aC r0 <| aC (h4.symm : r22.length = x3.length) <| aC r0 <| aC (lq x3) <| aN) (ih _ _ h cx hn H exs)
theorem qiK {K} (ih : qcL K) {cx} (hn : cx.n = 63) (H : List (Nat × Blk)) (exs : List V) {r22 n blockSize} {r} (h : qaP (K + 1) (.c2 r22 n blockSize) = some r) : qcK cx H exs (.c2 r22 n blockSize) r := by
 rw [qaP] at h
 rcases qa0 h with ⟨h1, h⟩ | ⟨h1, h⟩
 ·exact wkG [.go, rg3, bTr, rg4, .pre [.rl 0 0 r22.length, .keepT [0,1,2,6,7,8]]] hn (aC h1 <| aC r0 <| aC (lq r22) <| aN) (ih _ _ h cx hn H exs)
 ·have h := oinj h; subst h
  exact qfK (fuel := 68) [.go, rg3, bFa]
   _
   ((22, .row 173 6 (r22.map qaA) 0) :: H) hn (by kernel_rfl) (aC h1 <| aN) (fun _ => rfl)
theorem qiJ {K} (ih : qcL K) {cx} (hn : cx.n = 63) (H : List (Nat × Blk)) (exs : List V) {r22 n blockSize a b} {r} (h : qaP (K + 1) (.c3 r22 n blockSize a b) = some r) : qcK cx H exs (.c3 r22 n blockSize a b) r := by
 rw [qaP] at h
 rcases qa0 h with ⟨h1, h⟩ | ⟨h1, h⟩
 ·obtain ⟨x3, h2, h⟩ := qaU h
  obtain ⟨h4, h⟩ := qbV h
  exact wkG [.go, rg3, bTr, rgG [oo, oo, oo, oo, oo, oo, oo, .rl 36 0 r22.length, .callR [22] [(22, .row 173 6 (x3.map qaA) 0)] (.tup []), .rl 0 0 x3.length, .rl 36 0 x3.length], rg2, rg5, .pre [.rl 0 0 x3.length, .nrm 1, .keepT [0,1,2,6,7,8]]] hn (aC h1 <| aC r0 <| aC (lq r22) <| aC (qeU h2) <| aC r0 <| aC (h4.symm : r22.length = x3.length) <| aC r0 <| aC (h4.symm : r22.length = x3.length) <| aC r0 <| aC (lq x3) <| aN) (ih _ _ h cx hn H exs)
 ·rcases qa0 h with ⟨h2, h⟩ | ⟨h2, h⟩
  ·obtain ⟨x4, h3, h⟩ := qaU h
   obtain ⟨h5, h⟩ := qbV h
   exact wkG [.go, rg3, bFa, rg4, rg3, bTr, rgG [oo, oo, oo, oo, oo, .rl 55 0 r22.length, .callR [22] [(22, .row 173 6 (x4.map qaA) 0)] (.tup []), .rl 0 0 x4.length, .rl 55 0 x4.length], rg3, .pre [.rl 0 0 x4.length, .nrm 1, .keepT [0,1,2,6]]] hn (aC h1 <| aC h2 <| aC r0 <| aC (lq r22) <| aC (qeU h3) <| aC r0 <| aC (h5.symm : r22.length = x4.length) <| aC r0 <| aC (h5.symm : r22.length = x4.length) <| aC r0 <| aC (lq x4) <| aN) (ih _ _ h cx hn H exs)
  ·exact wkG [.go, rg3, bFa, rg4, rg3, bFa, rg3, .pre [.rl 0 0 r22.length, .keepT [0,1,2,6]]] hn (aC h1 <| aC h2 <| aC r0 <| aC (lq r22) <| aN) (ih _ _ h cx hn H exs)
theorem qcH : ∀ K : Nat, qcL K
 | 0, c, r, h => by rw [qaP] at h; cases h
 | K + 1, .c0 .., r, h => fun cx hn H exs => qiM (qcH K) hn H exs h
 | K + 1, .c1 .., r, h => fun cx hn H exs => qiL (qcH K) hn H exs h
 | K + 1, .c2 .., r, h => fun cx hn H exs => qiK (qcH K) hn H exs h
 | K + 1, .c3 .., r, h => fun cx hn H exs => qiJ (qcH K) hn H exs h
theorem qhI {K : Nat} {row : (List qaM)} {n : Int} {r : (List qaM)} (h : qeA K row n = some r) : qk6 prog 214 [.c (C.row 22 0 row.length), vi .i64 n, .c (C.t (T.fn 178))] [(22, .row 173 6 (row.map qaA) 0)] [(22, .row 173 6 (r.map qaA) 0)] (.tup []) :=
 qs8 (n := 63) (by kernel_rfl) (by simp) fun cx hn H exs => qcH K (.c0 row n) r h cx hn H exs
open Go.Proofs.Tryz (prog)
inductive qcD where
 | c0 (row : (List qaM))
def qbM : Nat → qcD → Option (List qaM)
 | 0, _ => none
 | K + 1, .c0 row =>
  (qeA K row ((row.length : Nat) : Int)).bind fun x2 =>
  gd (x2.length = row.length) <|
  some x2
def qcM (K : Nat) (row : (List qaM)) : Option (List qaM) := qbM K (.c0 row)
noncomputable def qf2 : Code := qm5 prog 177
noncomputable def qf4 : qcD → List Fr
 | .c0 .. => [.code qf2]
def qf7 (H : List (Nat × Blk)) (exs : List V) : qcD → St
 | .c0 row => ⟨idxV 0 [.c (C.row 22 0 row.length), .c (C.t (T.fn 178))], [(22, .row 173 6 (row.map qaA) 0)] ++ H, exs⟩
def qeI (cx : Cx) (H : List (Nat × Blk)) (exs : List V) (c : qcD) (r : (List qaM)) : Prop := Wk prog cx (zlP prog 177 ([(22, .row 173 6 (r.map qaA) 0)] ++ H) exs (.tup [])) (qf4 c) .normal (qf7 H exs c)
abbrev qeJ (K : Nat) : Prop := ∀ c r, qbM K c = some r → ∀ cx : Cx, cx.n = 9 → ∀ H exs, qeI cx H exs c r
theorem qf8 {K} (_ : qeJ K) {cx} (hn : cx.n = 9) (H : List (Nat × Blk)) (exs : List V) {row} {r} (h : qbM (K + 1) (.c0 row) = some r) : qeI cx H exs (.c0 row) r := by
 rw [qbM] at h
 obtain ⟨x2, h1, h⟩ := qaU h
 obtain ⟨h3, h⟩ := qbV h
 have h := oinj h; subst h
 exact qfK (fuel := 42) [rgG [oo, oo, oo, oo, .rl 4 0 row.length, .callR [22] [(22, .row 173 6 (x2.map qaA) 0)] (.tup []), .rl 0 0 x2.length, .rl 4 0 x2.length, .rl 5 0 x2.length, .nrm 1]]
  _
  ((22, .row 173 6 (x2.map qaA) 0) :: H) hn (by kernel_rfl) (aC r0 <| aC (lq row) <| aC (qhI h1) <| aC r0 <| aC (h3.symm : row.length = x2.length) <| aC r0 <| aC (h3.symm : row.length = x2.length) <| aC r0 <| aC (h3.symm : row.length = x2.length) <| aN) (fun _ => rfl)
theorem qeB : ∀ K : Nat, qeJ K
 | 0, c, r, h => by rw [qbM] at h; cases h
 | K + 1, .c0 .., r, h => fun cx hn H exs => qf8 (qeB K) hn H exs h
theorem qfU {K : Nat} {row : (List qaM)} {r : (List qaM)} (h : qcM K row = some r) : qk6 prog 177 [.c (C.row 22 0 row.length), .c (C.t (T.fn 178))] [(22, .row 173 6 (row.map qaA) 0)] [(22, .row 173 6 (r.map qaA) 0)] (.tup []) :=
 qs8 (n := 9) (by kernel_rfl) (by simp) fun cx hn H exs => qeB K (.c0 row) r h cx hn H exs
open Go.Proofs.Tryz (prog)
inductive qpJ where
 | c0 (p : (List qaM))
 | c1 (t9 : (List qaM)) (t10 : Int) (t11 : Int)
 | c2 (r22 : (List qaM)) (t9 : (List qaM)) (t10 : Int) (t11 : Int)
 | c3 (t9 : (List qaM)) (t10 : Int) (t11 : Int)
 | c4 (i : Int)
 | c5 (r22 : (List qaM)) (t9 : (List qaM)) (t10 : Int) (t11 : Int)
 | c6 (r22 : (List qaM)) (i : Int)
 | c7 (sum : qaM) (r22 : (List qaM)) (i : Int)
 | c8 (sum : qaM) (r22 : (List qaM)) (i : Int)
 | c9 (r22 : (List qaM)) (r68 : (List qaM)) (i : Int)
 | c10 (sum : qaM) (r22 : (List qaM)) (r68 : (List qaM)) (i : Int)
 | c11 (sum : qaM) (r22 : (List qaM)) (r68 : (List qaM)) (i : Int)
def qaY : Nat → qpJ → Option (List qaM)
 | 0, _ => none
 | K + 1, .c0 p =>
  qaY K (.c1 p (p.length : Int) (0 : Int))
 | K + 1, .c1 t9 t10 t11 =>
  bif (decide (t11 < t10)) then
   (gi t9 t11).bind fun x2 =>
   (qi9 K [x2.Exp.e0, x2.Exp.e1, x2.Exp.e2, x2.Exp.e3]).bind fun x4 =>
   bif (decide ((0 : Int) ≤ x4)) then
    qaY K (.c2 ([x2] : List qaM) t9 t10 t11)
   else
    qaY K (.c3 t9 t10 t11)
  else
   (qcN K).bind fun _ =>
   qaY K (.c4 (0 : Int))
 | K + 1, .c2 r22 t9 t10 t11 =>
  qaY K (.c5 r22 t9 t10 (wI6 (t11 + (1 : Int))))
 | K + 1, .c3 t9 t10 t11 =>
  qaY K (.c1 t9 t10 (wI6 (t11 + (1 : Int))))
 | K + 1, .c4 i =>
  bif (decide (i < (0 : Int))) then
   none
  else
   (qd1 K []).bind fun x2 =>
   some x2
 | K + 1, .c5 r22 t9 t10 t11 =>
  bif (decide (t11 < t10)) then
   (gi t9 t11).bind fun x2 =>
   (qi9 K [x2.Exp.e0, x2.Exp.e1, x2.Exp.e2, x2.Exp.e3]).bind fun x4 =>
   bif (decide ((0 : Int) ≤ x4)) then
    gd ((r22 ++ ([x2] : List qaM)).length * 64 ≤ 140737488355328) <|
    qaY K (.c2 (r22 ++ ([x2] : List qaM)) t9 t10 t11)
   else
    qaY K (.c2 r22 t9 t10 t11)
  else
   (qcM K r22).bind fun x3 =>
   gd (x3.length = r22.length) <|
   qaY K (.c6 x3 (0 : Int))
 | K + 1, .c6 r22 i =>
  bif (decide (i < ((r22.length : Nat) : Int))) then
   (gi r22 i).bind fun x2 =>
   qaY K (.c7 (qaM.mk (qaE.mk false []) x2.Exp) r22 i)
  else
   (qd1 K []).bind fun x2 =>
   some x2
 | K + 1, .c7 sum r22 i =>
  bif (decide (i < ((r22.length : Nat) : Int))) then
   (gi r22 i).bind fun x2 =>
   bif (decide (x2.Exp.e0 = sum.Exp.e0) && (decide (x2.Exp.e1 = sum.Exp.e1) && (decide (x2.Exp.e2 = sum.Exp.e2) && decide (x2.Exp.e3 = sum.Exp.e3)))) then
    (gi r22 i).bind fun x5 =>
    (qrS K sum.Coef x5.Coef).bind fun x7 =>
    qaY K (.c7 (qaM.mk x7 sum.Exp) r22 (wI6 (i + (1 : Int))))
   else
    qaY K (.c8 sum r22 i)
  else
   qaY K (.c8 sum r22 i)
 | K + 1, .c8 sum r22 i =>
  (qh4 K sum.Coef).bind fun x1 =>
  bif (!decide (x1 = (0 : Int))) then
   qaY K (.c9 r22 ([sum] : List qaM) i)
  else
   qaY K (.c6 r22 i)
 | K + 1, .c9 r22 r68 i =>
  bif (decide (i < ((r22.length : Nat) : Int))) then
   (gi r22 i).bind fun x2 =>
   qaY K (.c10 (qaM.mk (qaE.mk false []) x2.Exp) r22 r68 i)
  else
   (qd1 K r68).bind fun x2 =>
   some x2
 | K + 1, .c10 sum r22 r68 i =>
  bif (decide (i < ((r22.length : Nat) : Int))) then
   (gi r22 i).bind fun x2 =>
   bif (decide (x2.Exp.e0 = sum.Exp.e0) && (decide (x2.Exp.e1 = sum.Exp.e1) && (decide (x2.Exp.e2 = sum.Exp.e2) && decide (x2.Exp.e3 = sum.Exp.e3)))) then
    (gi r22 i).bind fun x5 =>
    (qrS K sum.Coef x5.Coef).bind fun x7 =>
    qaY K (.c10 (qaM.mk x7 sum.Exp) r22 r68 (wI6 (i + (1 : Int))))
   else
    qaY K (.c11 sum r22 r68 i)
  else
   qaY K (.c11 sum r22 r68 i)
 | K + 1, .c11 sum r22 r68 i =>
  (qh4 K sum.Coef).bind fun x1 =>
  bif (!decide (x1 = (0 : Int))) then
   gd ((r68 ++ ([sum] : List qaM)).length * 64 ≤ 140737488355328) <|
   qaY K (.c9 r22 (r68 ++ ([sum] : List qaM)) i)
  else
   qaY K (.c9 r22 r68 i)
def qpK (K : Nat) (p : (List qaM)) : Option (List qaM) := qaY K (.c0 p)
noncomputable def qbK : Code := qcS prog 122
noncomputable def zaW : qpJ → List Fr
 | .c0 .. => [.code qbK]
 | .c1 .. => [.code (.loop (atC qbK [1,1,0,1,0,0])), .blk 0, .code (atC qbK [1,1,1])]
 | .c2 .. => [.code (atC qbK [1,1,0,1,0,0,1,1,1]), .lp (atC qbK [1,1,0,1,0,0]), .blk 0, .code (atC qbK [1,1,1])]
 | .c3 .. => [.code (atC qbK [1,1,0,1,0,0,1,1,1]), .lp (atC qbK [1,1,0,1,0,0]), .blk 0, .code (atC qbK [1,1,1])]
 | .c4 .. => [.code (.loop (atC qbK [1,1,1,1,1,0,1,0,0])), .blk 2, .code (atC qbK [1,1,1,1,1,1])]
 | .c5 .. => [.code (.loop (atC qbK [1,1,0,1,0,0])), .blk 0, .code (atC qbK [1,1,1])]
 | .c6 .. => [.code (.loop (atC qbK [1,1,1,1,1,0,1,0,0])), .blk 2, .code (atC qbK [1,1,1,1,1,1])]
 | .c7 .. => [.code (.loop (atC qbK [1,1,1,1,1,0,1,0,0,1,0,1,0,0,0])), .blk 4, .code (atC qbK [1,1,1,1,1,0,1,0,0,1,0,1,1]), .blk 3, .lp (atC qbK [1,1,1,1,1,0,1,0,0]), .blk 2, .code (atC qbK [1,1,1,1,1,1])]
 | .c8 .. => [.code (atC qbK [1,1,1,1,1,0,1,0,0,1,0,1,1,0]), .code (atC qbK [1,1,1,1,1,0,1,0,0,1,0,1,1,1]), .blk 3, .lp (atC qbK [1,1,1,1,1,0,1,0,0]), .blk 2, .code (atC qbK [1,1,1,1,1,1])]
 | .c9 .. => [.code (.loop (atC qbK [1,1,1,1,1,0,1,0,0])), .blk 2, .code (atC qbK [1,1,1,1,1,1])]
 | .c10 .. => [.code (.loop (atC qbK [1,1,1,1,1,0,1,0,0,1,0,1,0,0,0])), .blk 4, .code (atC qbK [1,1,1,1,1,0,1,0,0,1,0,1,1]), .blk 3, .lp (atC qbK [1,1,1,1,1,0,1,0,0]), .blk 2, .code (atC qbK [1,1,1,1,1,1])]
 | .c11 .. => [.code (atC qbK [1,1,1,1,1,0,1,0,0,1,0,1,1,0]), .code (atC qbK [1,1,1,1,1,0,1,0,0,1,0,1,1,1]), .blk 3, .lp (atC qbK [1,1,1,1,1,0,1,0,0]), .blk 2, .code (atC qbK [1,1,1,1,1,1])]
def zd4 : qpJ → St
 | .c0 p => St.init [(tl 6 p qaA)]
 | .c1 t9 t10 t11 => ⟨[(3, .c (C.nil)), (9, vl 6 t9 qaA), (10, vi .i64 t10), (11, vi .i64 t11)], [], []⟩
 | .c2 r22 t9 t10 t11 => ⟨[(3, .c (C.row 22 0 r22.length)), (9, vl 6 t9 qaA), (10, vi .i64 t10), (11, vi .i64 t11)], [(22, .row 173 6 (r22.map qaA) 0)], []⟩
 | .c3 t9 t10 t11 => ⟨[(3, .c (C.nil)), (9, vl 6 t9 qaA), (10, vi .i64 t10), (11, vi .i64 t11)], [], []⟩
 | .c4 i => ⟨[(3, .c (C.nil)), (6, .c (C.nil)), (7, vi .i64 i)], [], []⟩
 | .c5 r22 t9 t10 t11 => ⟨[(3, .c (C.row 22 0 r22.length)), (9, vl 6 t9 qaA), (10, vi .i64 t10), (11, vi .i64 t11)], [(22, .row 173 6 (r22.map qaA) 0)], []⟩
 | .c6 r22 i => ⟨[(3, .c (C.row 22 0 r22.length)), (6, .c (C.nil)), (7, vi .i64 i)], [(22, .row 173 6 (r22.map qaA) 0)], []⟩
 | .c7 sum r22 i => ⟨[(3, .c (C.row 22 0 r22.length)), (6, .c (C.nil)), (7, vi .i64 i), (8, .c (C.ptr 8 0))], [(8, .var ((qaA sum).map C.t)), (22, .row 173 6 (r22.map qaA) 0)], []⟩
 | .c8 sum r22 i => ⟨[(3, .c (C.row 22 0 r22.length)), (6, .c (C.nil)), (7, vi .i64 i), (8, .c (C.ptr 8 0))], [(8, .var ((qaA sum).map C.t)), (22, .row 173 6 (r22.map qaA) 0)], []⟩
 | .c9 r22 r68 i => ⟨[(3, .c (C.row 22 0 r22.length)), (6, .c (C.row 68 0 r68.length)), (7, vi .i64 i)], [(22, .row 173 6 (r22.map qaA) 0), (68, .row 173 6 (r68.map qaA) 0)], []⟩
 | .c10 sum r22 r68 i => ⟨[(3, .c (C.row 22 0 r22.length)), (6, .c (C.row 68 0 r68.length)), (7, vi .i64 i), (8, .c (C.ptr 8 0))], [(8, .var ((qaA sum).map C.t)), (22, .row 173 6 (r22.map qaA) 0), (68, .row 173 6 (r68.map qaA) 0)], []⟩
 | .c11 sum r22 r68 i => ⟨[(3, .c (C.row 22 0 r22.length)), (6, .c (C.row 68 0 r68.length)), (7, vi .i64 i), (8, .c (C.ptr 8 0))], [(8, .var ((qaA sum).map C.t)), (22, .row 173 6 (r22.map qaA) 0), (68, .row 173 6 (r68.map qaA) 0)], []⟩
def qe6 (cx : Cx) (c : qpJ) (r : (List qaM)) : Prop := Wk prog cx (qd8 prog 122 [[6]] (tl 6 r qaA)) (zaW c) .normal (zd4 c)
abbrev qe7 (K : Nat) : Prop := ∀ c r, qaY K c = some r → ∀ cx : Cx, cx.n = 71 → qe6 cx c r
theorem zeE {K} (ih : qe7 K) {cx} (hn : cx.n = 71) {p} {r} (h : qaY (K + 1) (.c0 p) = some r) : qe6 cx (.c0 p) r := by
 rw [qaY] at h
 exact wkG [rg1, rg1, rgG [oo, opI (.ln (p.length : Int)), oo], .pre [.keep [3,9,10,11] []]] hn (aC (qdI p qaA) <| aN) (ih _ _ h cx hn)
theorem zeD {K} (ih : qe7 K) {cx} (hn : cx.n = 71) {t9 t10 t11} {r} (h : qaY (K + 1) (.c1 t9 t10 t11) = some r) : qe6 cx (.c1 t9 t10 t11) r := by
 rw [qaY] at h
 rcases qa0 h with ⟨h1, h⟩ | ⟨h1, h⟩
 ·obtain ⟨x2, h3, h⟩ := qaU h
  obtain ⟨x4, h5, h⟩ := qaU h
  rcases qa0 h with ⟨h6, h⟩ | ⟨h6, h⟩
  ·exact wkG [.go, rg1, bTr, rgG [opI (.ix (qaA x2)), oo, oo, oo], rgG [oo, .sliA, .callA [[1]] (ti .i64 x4), oo], bTr, rgG [oo, oo, opI (.lit (([x2] : List qaM).map qaA)), opI (.appN (([x2] : List qaM).map qaA)), oo], .pre [.rl 3 0 ([x2] : List qaM).length, .keep [3,9,10,11] [22]]] hn (aC h1 <| aC (qb5 h3) <| aC (qfP qaA h3) <| aC (qhJ h5) <| aC h6 <| aC (by kernel_rfl : [(T.bool x2.Coef.Neg), (T.sl 1 (x2.Coef.Abs.map qaF)), (T.int .i64 x2.Exp.e0), (T.int .i64 x2.Exp.e1), (T.int .i64 x2.Exp.e2), (T.int .i64 x2.Exp.e3)] = (([x2] : List qaM).map qaA).flatten) <| aC (qeH _ _ _ (by simp) : ((([x2] : List qaM).map qaA).drop 0).take 1 = ([x2] : List qaM).map qaA) <| aC (by simp : 0 < (([x2] : List qaM).map qaA).length) <| aC (by simp : (([x2] : List qaM).map qaA).length * 64 ≤ 140737488355328) <| aC (by simp [maxLen] : (([x2] : List qaM).map qaA).length ≤ maxLen) <| aC r0 <| aC (by simp : (([x2] : List qaM).map qaA).length = ([x2] : List qaM).length) <| aN) (ih _ _ h cx hn)
  ·exact wkG [.go, rg1, bTr, rgG [opI (.ix (qaA x2)), oo, oo, oo], rgG [oo, .sliA, .callA [[1]] (ti .i64 x4), oo], bFa, .pre [.keep [3,9,10,11] []]] hn (aC h1 <| aC (qb5 h3) <| aC (qfP qaA h3) <| aC (qhJ h5) <| aC h6 <| aN) (ih _ _ h cx hn)
 ·obtain ⟨x2, h3, h⟩ := qaU h
  exact wkG [.go, rg1, bFa, rgG [oo, opI (.call [[6], [0]] [(TV.c (T.sl 6 [])), (TV.c (T.fn 178))] (TV.tup []))], rg1, rg1, .pre [.keep [3,6,7] []]] hn (aC h1 <| aC (qf3 h3) <| aN) (ih _ _ h cx hn)
theorem zeC {K} (ih : qe7 K) {cx} (hn : cx.n = 71) {r22 t9 t10 t11} {r} (h : qaY (K + 1) (.c2 r22 t9 t10 t11) = some r) : qe6 cx (.c2 r22 t9 t10 t11) r := by
 rw [qaY] at h
 exact wkG [rg2, .pre [.rl 3 0 r22.length, .keep [3,9,10,11] [22]]] hn (aC r0 <| aC (lq r22) <| aN) (ih _ _ h cx hn)
theorem zeB {K} (ih : qe7 K) {cx} (hn : cx.n = 71) {t9 t10 t11} {r} (h : qaY (K + 1) (.c3 t9 t10 t11) = some r) : qe6 cx (.c3 t9 t10 t11) r := by
 rw [qaY] at h
 exact q2E (fuel := 44) [rg2, .pre [.keep [3,9,10,11] []]] _ hn (by kernel_rfl) aN (ih _ _ h cx hn)
theorem zeA {K} (_ : qe7 K) {cx} (hn : cx.n = 71) {i} {r} (h : qaY (K + 1) (.c4 i) = some r) : qe6 cx (.c4 i) r := by
 rw [qaY] at h
 rcases qa0 h with ⟨h1, h⟩ | ⟨h1, h⟩
 ·cases h
 ·obtain ⟨x2, h3, h⟩ := qaU h
  have h := oinj h; subst h
  exact wkR [.go, rg4, bFa, rgG [oo, opI (.call [[6]] [(TV.c (T.sl 6 ([].map qaA)))] (tl 6 x2 qaA)), oo]] hn (aC h1 <| aC (qfF h3) <| aN)
theorem zd9 {K} (ih : qe7 K) {cx} (hn : cx.n = 71) {r22 t9 t10 t11} {r} (h : qaY (K + 1) (.c5 r22 t9 t10 t11) = some r) : qe6 cx (.c5 r22 t9 t10 t11) r := by
 rw [qaY] at h
 rcases qa0 h with ⟨h1, h⟩ | ⟨h1, h⟩
 ·obtain ⟨x2, h3, h⟩ := qaU h
  obtain ⟨x4, h5, h⟩ := qaU h
  rcases qa0 h with ⟨h6, h⟩ | ⟨h6, h⟩
  ·obtain ⟨h7, h⟩ := qbV h
   exact wkG [.go, rg1, bTr, rgG [opI (.ix (qaA x2)), oo, oo, oo], rgG [oo, .sliA, .callA [[1]] (ti .i64 x4), oo], bTr, .pre [.keep [3,5,9,10,11] [5,22]], rgG [oo, oo, opI (.lit (([x2] : List qaM).map qaA)), .appR (([x2] : List qaM).map qaA) ((r22 ++ ([x2] : List qaM)).map qaA), oo], .pre [.rl 3 0 (r22 ++ ([x2] : List qaM)).length, .keep [3,9,10,11] [22]]] hn (aC h1 <| aC (qb5 h3) <| aC (qfP qaA h3) <| aC (qhJ h5) <| aC h6 <| aC (by kernel_rfl : [(T.bool x2.Coef.Neg), (T.sl 1 (x2.Coef.Abs.map qaF)), (T.int .i64 x2.Exp.e0), (T.int .i64 x2.Exp.e1), (T.int .i64 x2.Exp.e2), (T.int .i64 x2.Exp.e3)] = (([x2] : List qaM).map qaA).flatten) <| aC (by simp : r22.length = (r22.map qaA).length) <| aC (qeH _ _ _ (by simp) : ((([x2] : List qaM).map qaA).drop 0).take 1 = ([x2] : List qaM).map qaA) <| aC (qk5 _ _ _ : r22.map qaA ++ ([x2] : List qaM).map qaA = (r22 ++ ([x2] : List qaM)).map qaA) <| aC ((qcZ _ _).symm ▸ h7 : ((r22 ++ ([x2] : List qaM)).map qaA).length * 64 ≤ 140737488355328) <| aC ((qcZ _ _).symm ▸ room (by decide) h7 : ((r22 ++ ([x2] : List qaM)).map qaA).length ≤ maxLen) <| aC r0 <| aC (by simp : ((r22 ++ ([x2] : List qaM)).map qaA).length = (r22 ++ ([x2] : List qaM)).length) <| aN) (ih _ _ h cx hn)
  ·exact wkG [.go, rg1, bTr, rgG [opI (.ix (qaA x2)), oo, oo, oo], rgG [oo, .sliA, .callA [[1]] (ti .i64 x4), oo], bFa, .pre [.rl 3 0 r22.length, .keep [3,9,10,11] [22]]] hn (aC h1 <| aC (qb5 h3) <| aC (qfP qaA h3) <| aC (qhJ h5) <| aC h6 <| aC r0 <| aC (lq r22) <| aN) (ih _ _ h cx hn)
 ·obtain ⟨x3, h2, h⟩ := qaU h
  obtain ⟨h4, h⟩ := qbV h
  exact wkG [.go, rg1, bFa, rgG [oo, .rl 24 0 r22.length, .callR [22] [(22, .row 173 6 (x3.map qaA) 0)] (.tup []), .rl 3 0 x3.length, .rl 24 0 x3.length], rg1, rg1, .pre [.rl 3 0 x3.length, .keep [3,6,7] [22]]] hn (aC h1 <| aC r0 <| aC (lq r22) <| aC (qfU h2) <| aC r0 <| aC (h4.symm : r22.length = x3.length) <| aC r0 <| aC (h4.symm : r22.length = x3.length) <| aC r0 <| aC (lq x3) <| aN) (ih _ _ h cx hn)
theorem zd8 {K} (ih : qe7 K) {cx} (hn : cx.n = 71) {r22 i} {r} (h : qaY (K + 1) (.c6 r22 i) = some r) : qe6 cx (.c6 r22 i) r := by
 rw [qaY] at h
 rcases qa0 h with ⟨h1, h⟩ | ⟨h1, h⟩
 ·obtain ⟨x2, h3, h⟩ := qaU h
  exact wkG [.go, rg4, bTr, rgG [oo, oo, .op .ir, oo, opI (.ld (qaA x2)), oo, oo, oo], .pre [.tellB 8 [0,1,0,0,0,0], .rl 3 0 r22.length, .keep [3,6,7,8] [8,22]]] hn (aC h1 <| aC (qb5 h3) <| aC (qc1 h3 (by simp) : i < ((r22.length : Nat) : Int)) <| aC (qc2 qaA h3 : (r22.map qaA)[(0 + i.toNat)]? = some (qaA x2)) <| aC r0 <| aC (lq r22) <| aN) (ih _ _ h cx hn)
 ·obtain ⟨x2, h3, h⟩ := qaU h
  have h := oinj h; subst h
  exact wkR [.go, rg4, bFa, rgG [oo, opI (.call [[6]] [(TV.c (T.sl 6 ([].map qaA)))] (tl 6 x2 qaA)), oo]] hn (aC h1 <| aC (qfF h3) <| aN)
theorem zd7 {K} (ih : qe7 K) {cx} (hn : cx.n = 71) {sum r22 i} {r} (h : qaY (K + 1) (.c7 sum r22 i) = some r) : qe6 cx (.c7 sum r22 i) r := by
 rw [qaY] at h
 rcases qa0 h with ⟨h1, h⟩ | ⟨h1, h⟩
 ·obtain ⟨x2, h3, h⟩ := qaU h
  rcases qa0 h with ⟨h4, h⟩ | ⟨h4, h⟩
  ·obtain ⟨x5, h6, h⟩ := qaU h
   obtain ⟨x7, h8, h⟩ := qaU h
   exact wkG [.go, .draw [.p, .mv, .p, .p, .p, (.ga true .mv), (.ga true .p), (.ga true .ir), (.ga true .p), (.ga true (.ld (qaA x2))), (.ga true .p), (.ga true .p), (.ga true .eq4), (.pk true)] [], bTr, .draw [.p, .p, .mv, .p, .ir, .p, (.ld (qaA x5))] [opI (.call [[0,1], [0,1]] [(TV.agg (qaK sum.Coef)), (TV.agg (qaK x5.Coef))] (TV.agg (qaK x7))), .op .p, .op .p], rg3, .pre [.rl 3 0 r22.length, .keep [3,6,7,8] [8,22]]] hn (aC h1 <| aC h1 <| aC h1 <| aC (qb5 h3) <| aC (qc1 h3 (by simp) : i < ((r22.length : Nat) : Int)) <| aC h1 <| aC h1 <| aC (qc2 qaA h3 : (r22.map qaA)[(0 + i.toNat)]? = some (qaA x2)) <| aC h1 <| aC h1 <| aC h1 <| aC h1 <| aC h4 <| aC (qb5 h6) <| aC (qc1 h6 (by simp) : i < ((r22.length : Nat) : Int)) <| aC (qc2 qaA h6 : (r22.map qaA)[(0 + i.toNat)]? = some (qaA x5)) <| aC (qp3 h8) <| aC r0 <| aC (lq r22) <| aN) (ih _ _ h cx hn)
  ·exact wkG [.go, .draw [.p, .mv, .p, .p, .p, (.ga true .mv), (.ga true .p), (.ga true .ir), (.ga true .p), (.ga true (.ld (qaA x2))), (.ga true .p), (.ga true .p), (.ga true .eq4), (.pk true)] [], bFa, .pre [.rl 3 0 r22.length, .keep [3,6,7,8] [8,22]]] hn (aC h1 <| aC h1 <| aC h1 <| aC (qb5 h3) <| aC (qc1 h3 (by simp) : i < ((r22.length : Nat) : Int)) <| aC h1 <| aC h1 <| aC (qc2 qaA h3 : (r22.map qaA)[(0 + i.toNat)]? = some (qaA x2)) <| aC h1 <| aC h1 <| aC h1 <| aC h1 <| aC h4 <| aC r0 <| aC (lq r22) <| aN) (ih _ _ h cx hn)
 ·exact wkG [.go, .draw [.p, .mv, .p, .p, .p, (.ga false .p), (.ga false .p), (.ga false .p), (.ga false .p), (.ga false .p), (.ga false .p), (.ga false .p), (.ga false .p), (.pk false)] [], bFa, .pre [.rl 3 0 r22.length, .keep [3,6,7,8] [8,22]]] hn (aC h1 <| aC h1 <| aC h1 <| aC h1 <| aC h1 <| aC h1 <| aC h1 <| aC h1 <| aC h1 <| aC rf <| aC r0 <| aC (lq r22) <| aN) (ih _ _ h cx hn)
theorem zd6 {K} (ih : qe7 K) {cx} (hn : cx.n = 71) {sum r22 i} {r} (h : qaY (K + 1) (.c8 sum r22 i) = some r) : qe6 cx (.c8 sum r22 i) r := by
 rw [qaY] at h
 obtain ⟨x1, h2, h⟩ := qaU h
 rcases qa0 h with ⟨h3, h⟩ | ⟨h3, h⟩
 ·exact wkG [rgG [oo, oo, opI (.call [[0,1]] [(TV.agg (qaK sum.Coef))] (ti .i64 x1)), oo], bTr, rgG [oo, oo, opI (.lit (([sum] : List qaM).map qaA)), opI (.appN (([sum] : List qaM).map qaA)), oo], .pre [.rl 3 0 r22.length, .rl 6 0 ([sum] : List qaM).length, .keep [3,6,7] [22,68]]] hn (aC (qcF h2) <| aC h3 <| aC (by kernel_rfl : [(T.bool sum.Coef.Neg), (T.sl 1 (sum.Coef.Abs.map qaF)), (T.int .i64 sum.Exp.e0), (T.int .i64 sum.Exp.e1), (T.int .i64 sum.Exp.e2), (T.int .i64 sum.Exp.e3)] = (([sum] : List qaM).map qaA).flatten) <| aC (qeH _ _ _ (by simp) : ((([sum] : List qaM).map qaA).drop 0).take 1 = ([sum] : List qaM).map qaA) <| aC (by simp : 0 < (([sum] : List qaM).map qaA).length) <| aC (by simp : (([sum] : List qaM).map qaA).length * 64 ≤ 140737488355328) <| aC (by simp [maxLen] : (([sum] : List qaM).map qaA).length ≤ maxLen) <| aC r0 <| aC (lq r22) <| aC r0 <| aC (by simp : (([sum] : List qaM).map qaA).length = ([sum] : List qaM).length) <| aN) (ih _ _ h cx hn)
 ·exact wkG [rgG [oo, oo, opI (.call [[0,1]] [(TV.agg (qaK sum.Coef))] (ti .i64 x1)), oo], bFa, .pre [.rl 3 0 r22.length, .keep [3,6,7] [22]]] hn (aC (qcF h2) <| aC h3 <| aC r0 <| aC (lq r22) <| aN) (ih _ _ h cx hn)
theorem zd5 {K} (ih : qe7 K) {cx} (hn : cx.n = 71) {r22 r68 i} {r} (h : qaY (K + 1) (.c9 r22 r68 i) = some r) : qe6 cx (.c9 r22 r68 i) r := by
 rw [qaY] at h
 rcases qa0 h with ⟨h1, h⟩ | ⟨h1, h⟩
 ·obtain ⟨x2, h3, h⟩ := qaU h
  exact wkG [.go, rg4, bTr, rgG [oo, oo, .op .ir, oo, opI (.ld (qaA x2)), oo, oo, oo], .pre [.tellB 8 [0,1,0,0,0,0], .rl 3 0 r22.length, .rl 6 0 r68.length, .keep [3,6,7,8] [8,22,68]]] hn (aC h1 <| aC (qb5 h3) <| aC (qc1 h3 (by simp) : i < ((r22.length : Nat) : Int)) <| aC (qc2 qaA h3 : (r22.map qaA)[(0 + i.toNat)]? = some (qaA x2)) <| aC r0 <| aC (lq r22) <| aC r0 <| aC (lq r68) <| aN) (ih _ _ h cx hn)
 ·obtain ⟨x2, h3, h⟩ := qaU h
  have h := oinj h; subst h
  exact wkR [.go, rg4, bFa, rgG [oo, .snap 69 (max 0 (0 + r68.length)) (r68.map qaA), opI (.call [[6]] [(tl 6 r68 qaA)] (tl 6 x2 qaA)), oo]] hn (aC h1 <| aC (qeH _ _ _ (by simp) : ((r68.map qaA).drop 0).take r68.length = r68.map qaA) <| aC (rfl : (max 0 (0 + r68.length)) = (max 0 (0 + r68.length))) <| aC (qfF h3) <| aN)
theorem zaY {K} (ih : qe7 K) {cx} (hn : cx.n = 71) {sum r22 r68 i} {r} (h : qaY (K + 1) (.c10 sum r22 r68 i) = some r) : qe6 cx (.c10 sum r22 r68 i) r := by
 rw [qaY] at h
 rcases qa0 h with ⟨h1, h⟩ | ⟨h1, h⟩
 ·obtain ⟨x2, h3, h⟩ := qaU h
  rcases qa0 h with ⟨h4, h⟩ | ⟨h4, h⟩
  ·obtain ⟨x5, h6, h⟩ := qaU h
   obtain ⟨x7, h8, h⟩ := qaU h
   exact wkG [.go, .draw [.p, .mv, .p, .p, .p, (.ga true .mv), (.ga true .p), (.ga true .ir), (.ga true .p), (.ga true (.ld (qaA x2))), (.ga true .p), (.ga true .p), (.ga true .eq4), (.pk true)] [], bTr, .draw [.p, .p, .mv, .p, .ir, .p, (.ld (qaA x5))] [opI (.call [[0,1], [0,1]] [(TV.agg (qaK sum.Coef)), (TV.agg (qaK x5.Coef))] (TV.agg (qaK x7))), .op .p, .op .p], rg3, .pre [.rl 3 0 r22.length, .rl 6 0 r68.length, .keep [3,6,7,8] [8,22,68]]] hn (aC h1 <| aC h1 <| aC h1 <| aC (qb5 h3) <| aC (qc1 h3 (by simp) : i < ((r22.length : Nat) : Int)) <| aC h1 <| aC h1 <| aC (qc2 qaA h3 : (r22.map qaA)[(0 + i.toNat)]? = some (qaA x2)) <| aC h1 <| aC h1 <| aC h1 <| aC h1 <| aC h4 <| aC (qb5 h6) <| aC (qc1 h6 (by simp) : i < ((r22.length : Nat) : Int)) <| aC (qc2 qaA h6 : (r22.map qaA)[(0 + i.toNat)]? = some (qaA x5)) <| aC (qp3 h8) <| aC r0 <| aC (lq r22) <| aC r0 <| aC (lq r68) <| aN) (ih _ _ h cx hn)
  ·exact wkG [.go, .draw [.p, .mv, .p, .p, .p, (.ga true .mv), (.ga true .p), (.ga true .ir), (.ga true .p), (.ga true (.ld (qaA x2))), (.ga true .p), (.ga true .p), (.ga true .eq4), (.pk true)] [], bFa, .pre [.rl 3 0 r22.length, .rl 6 0 r68.length, .keep [3,6,7,8] [8,22,68]]] hn (aC h1 <| aC h1 <| aC h1 <| aC (qb5 h3) <| aC (qc1 h3 (by simp) : i < ((r22.length : Nat) : Int)) <| aC h1 <| aC h1 <| aC (qc2 qaA h3 : (r22.map qaA)[(0 + i.toNat)]? = some (qaA x2)) <| aC h1 <| aC h1 <| aC h1 <| aC h1 <| aC h4 <| aC r0 <| aC (lq r22) <| aC r0 <| aC (lq r68) <| aN) (ih _ _ h cx hn)
 ·exact wkG [.go, .draw [.p, .mv, .p, .p, .p, (.ga false .p), (.ga false .p), (.ga false .p), (.ga false .p), (.ga false .p), (.ga false .p), (.ga false .p), (.ga false .p), (.pk false)] [], bFa, .pre [.rl 3 0 r22.length, .rl 6 0 r68.length, .keep [3,6,7,8] [8,22,68]]] hn (aC h1 <| aC h1 <| aC h1 <| aC h1 <| aC h1 <| aC h1 <| aC h1 <| aC h1 <| aC h1 <| aC rf <| aC r0 <| aC (lq r22) <| aC r0 <| aC (lq r68) <| aN) (ih _ _ h cx hn)
theorem zaX {K} (ih : qe7 K) {cx} (hn : cx.n = 71) {sum r22 r68 i} {r} (h : qaY (K + 1) (.c11 sum r22 r68 i) = some r) : qe6 cx (.c11 sum r22 r68 i) r := by
 rw [qaY] at h
 obtain ⟨x1, h2, h⟩ := qaU h
 rcases qa0 h with ⟨h3, h⟩ | ⟨h3, h⟩
 ·obtain ⟨h4, h⟩ := qbV h
  exact wkG [rgG [oo, oo, opI (.call [[0,1]] [(TV.agg (qaK sum.Coef))] (ti .i64 x1)), oo], bTr, .pre [.keep [3,6,7,8] [8,22,68]], rgG [oo, oo, opI (.lit (([sum] : List qaM).map qaA)), .appR (([sum] : List qaM).map qaA) ((r68 ++ ([sum] : List qaM)).map qaA), oo], .pre [.rl 3 0 r22.length, .rl 6 0 (r68 ++ ([sum] : List qaM)).length, .keep [3,6,7] [22,68]]] hn (aC (qcF h2) <| aC h3 <| aC (by kernel_rfl : [(T.bool sum.Coef.Neg), (T.sl 1 (sum.Coef.Abs.map qaF)), (T.int .i64 sum.Exp.e0), (T.int .i64 sum.Exp.e1), (T.int .i64 sum.Exp.e2), (T.int .i64 sum.Exp.e3)] = (([sum] : List qaM).map qaA).flatten) <| aC (by simp : r68.length = (r68.map qaA).length) <| aC (qeH _ _ _ (by simp) : ((([sum] : List qaM).map qaA).drop 0).take 1 = ([sum] : List qaM).map qaA) <| aC (qk5 _ _ _ : r68.map qaA ++ ([sum] : List qaM).map qaA = (r68 ++ ([sum] : List qaM)).map qaA) <| aC ((qcZ _ _).symm ▸ h4 : ((r68 ++ ([sum] : List qaM)).map qaA).length * 64 ≤ 140737488355328) <| aC ((qcZ _ _).symm ▸ room (by decide) h4 : ((r68 ++ ([sum] : List qaM)).map qaA).length ≤ maxLen) <| aC r0 <| aC (lq r22) <| aC r0 <| aC (by simp : ((r68 ++ ([sum] : List qaM)).map qaA).length = (r68 ++ ([sum] : List qaM)).length) <| aN) (ih _ _ h cx hn)
 ·exact wkG [rgG [oo, oo, opI (.call [[0,1]] [(TV.agg (qaK sum.Coef))] (ti .i64 x1)), oo], bFa, .pre [.rl 3 0 r22.length, .rl 6 0 r68.length, .keep [3,6,7] [22,68]]] hn (aC (qcF h2) <| aC h3 <| aC r0 <| aC (lq r22) <| aC r0 <| aC (lq r68) <| aN) (ih _ _ h cx hn)
theorem qeO : ∀ K : Nat, qe7 K
 | 0, c, r, h => by rw [qaY] at h; cases h
 | K + 1, .c0 .., r, h => fun cx hn => zeE (qeO K) hn h
 | K + 1, .c1 .., r, h => fun cx hn => zeD (qeO K) hn h
 | K + 1, .c2 .., r, h => fun cx hn => zeC (qeO K) hn h
 | K + 1, .c3 .., r, h => fun cx hn => zeB (qeO K) hn h
 | K + 1, .c4 .., r, h => fun cx hn => zeA (qeO K) hn h
 | K + 1, .c5 .., r, h => fun cx hn => zd9 (qeO K) hn h
 | K + 1, .c6 .., r, h => fun cx hn => zd8 (qeO K) hn h
 | K + 1, .c7 .., r, h => fun cx hn => zd7 (qeO K) hn h
 | K + 1, .c8 .., r, h => fun cx hn => zd6 (qeO K) hn h
 | K + 1, .c9 .., r, h => fun cx hn => zd5 (qeO K) hn h
 | K + 1, .c10 .., r, h => fun cx hn => zaY (qeO K) hn h
 | K + 1, .c11 .., r, h => fun cx hn => zaX (qeO K) hn h
theorem qv1 {K : Nat} {p : (List qaM)} {r : (List qaM)} (h : qpK K p = some r) : qc7 prog 122 [(tl 6 p qaA)] (tl 6 r qaA) :=
 qbL [[6]] (by kernel_rfl) (by simp) fun cx hn => qeO K (.c0 p) r h cx hn
def cmpE (x y r : Int) : Int := if x < y then -1 else if y < x then 1 else r
def cmpM (a b : qa7) : Int := cmpE a.e3 b.e3 (cmpE a.e2 b.e2 (cmpE a.e1 b.e1 (cmpE a.e0 b.e0 0)))
theorem znK {x y r : Int} {f : Nat → Option Int} (h : Ev f r) : Ev (fun K => bif decide (x < y) then some (-1 : Int) else bif decide (y < x) then some (1 : Int) else f K) (cmpE x y r) := by
  unfold cmpE
  by_cases h1 : x < y
  · rw [if_pos h1]; exact ev_t (decide_eq_true h1) (qa6 _)
  · rw [if_neg h1]
    refine ev_f (decide_eq_false h1) ?_
    by_cases h2 : y < x
    · rw [if_pos h2]; exact ev_t (decide_eq_true h2) (qa6 _)
    · rw [if_neg h2]; exact ev_f (decide_eq_false h2) h
theorem q2K (a b : qa7) : Ev (fun K => qoG K a b) (cmpM a b) := by
  have w3 : wI6 ((3 : Int) - 1) = 2 := by decide
  have w2 : wI6 ((2 : Int) - 1) = 1 := by decide
  have w1 : wI6 ((1 : Int) - 1) = 0 := by decide
  have w0 : wI6 ((0 : Int) - 1) = -1 := by decide
  refine qaW ?_
  simp only [qoG, qcG]
  refine qaW ?_
  simp only [qcG, w3]
  refine ev_t rfl (ev_f rfl (ev_f rfl (ev_f rfl (ev_t rfl (znK ?_)))))
  refine qaW ?_
  simp only [qcG, w2]
  refine ev_t rfl (ev_f rfl (ev_f rfl (ev_t rfl (znK ?_))))
  refine qaW ?_
  simp only [qcG, w1]
  refine ev_t rfl (ev_f rfl (ev_t rfl (znK ?_)))
  refine qaW ?_
  simp only [qcG, w0]
  refine ev_t rfl (ev_t rfl (znK ?_))
  refine qaW ?_
  simp only [qcG]
  exact ev_f rfl (qa6 _)
theorem qoE (a b : qaM) : Ev (fun K => qkX K a b) (cmpM b.Exp a.Exp) := by
  refine qaW ?_
  simp only [qkX, qjG]
  exact qaR (q2K _ _) (qa6 _)
def SP {α : Type} (row : List α) (f : Nat → Option (List α)) : Prop := ∃ r, Ev f r ∧ r.Perm row
theorem quY {α : Type} {r row : List α} (h : r.Perm row) : SP row (fun _ => some r) := ⟨r, qa6 r, h⟩
theorem qlC {α : Type} {row : List α} {f : Nat → Option (List α)} (h : SP row fun K => f (K + 1)) : SP row f := let ⟨r, h1, h2⟩ := h; ⟨r, qaW h1, h2⟩
theorem quE {α : Type} {row : List α} {b : Bool} {f g : Nat → Option (List α)} (ht : b = true → SP row f) (hf : b = false → SP row g) : SP row fun K => bif b then f K else g K := by cases b; exact hf rfl; exact ht rfl
theorem sp_t {α : Type} {row : List α} {b : Bool} {f g : Nat → Option (List α)} (hb : b = true) (h : SP row f) : SP row fun K => bif b then f K else g K := by subst hb; exact h
theorem sp_f {α : Type} {row : List α} {b : Bool} {f g : Nat → Option (List α)} (hb : b = false) (h : SP row g) : SP row fun K => bif b then f K else g K := by subst hb; exact h
theorem zmL {α β : Type} {row : List α} {f : Nat → Option β} {g : Nat → β → Option (List α)} {x : β} (hf : Ev f x) (hg : SP row fun K => g K x) : SP row fun K => (f K).bind (g K) := let ⟨r, h1, h2⟩ := hg; ⟨r, qaR hf h1, h2⟩
theorem qoH {α β : Type} {row : List α} {f : Option β} {g : Nat → β → Option (List α)} {x : β} (hf : f = some x) (hg : SP row fun K => g K x) : SP row fun K => f.bind (g K) := let ⟨r, h1, h2⟩ := hg; ⟨r, qb8 hf h1, h2⟩
theorem zg0 {α : Type} {row : List α} {p : Prop} [Decidable p] {f : Nat → Option (List α)} (hp : p) (h : SP row f) : SP row fun K => gd p (f K) := let ⟨r, h1, h2⟩ := h; ⟨r, qgA hp h1, h2⟩
theorem qv4 {α : Type} {row q : List α} {f : Nat → Option (List α)} {g : Nat → List α → Option (List α)} (hf : SP q f) (hq : q.Perm row) (hg : ∀ r, r.Perm q → r.length = q.length → r.Perm row → SP row fun K => g K r) : SP row fun K => (f K).bind (g K) :=
  let ⟨r, h1, h2⟩ := hf
  let ⟨s, h3, h4⟩ := hg r h2 h2.length_eq (h2.trans hq)
  ⟨s, qaR h1 h3, h4⟩
theorem q17 {α : Type} {l : List α} {i : Int} (h0 : 0 ≤ i) (h : i < (l.length : Int)) : ∃ x, gi l i = some x := ⟨_, gi_ok h0 (by omega)⟩
theorem swp {α : Type} {row : List α} {i j : Int} {x y : α} (hx : gi row i = some x) (hy : gi row j = some y) : ((row.set i.toNat y).set j.toNat x).Perm row := by
  unfold gi at hx hy
  split at hx
  · split at hy
    · obtain ⟨hi, rfl⟩ := List.getElem?_eq_some_iff.1 hx
      obtain ⟨hj, rfl⟩ := List.getElem?_eq_some_iff.1 hy
      exact List.set_set_perm hi hj
    · cases hy
  · cases hx
theorem zq4 {a b : Int} (h0 : 0 ≤ a + b) (h1 : a + b < 4611686018427387904) : wI6 (qdG .u64 (wU6 (wI6 (a + b))) (1 : Int)) = (a + b) / 2 := by
  rw [qdF (x := a + b) (by omega), qrY, zl4 (by omega) (by decide), show ((1 : Int).toNat) = 1 from rfl, Int.pow_succ, Int.pow_zero, Int.one_mul, Int.emod_eq_of_lt (by omega) (by omega), qdF (by omega)]
theorem zw5 {b i a : Int} (ha : 0 ≤ a) (row0 : List qaM) (hl : (row0.length : Int) ≤ 1099511627776) (hnext : ∀ r : List qaM, r.Perm row0 → SP row0 fun K => qaO K (.c3 r a b i)) :
    ∀ (d : Nat) (row : List qaM) (j : Int), row.Perm row0 → j = a + d → j < (row.length : Int) → SP row0 fun K => qaO K (.c2 row a b i j)
  | 0, row, j, hp, hj, hjl => by
    refine qlC ?_
    simp only [qaO]
    exact sp_f (by simp; omega) (hnext row hp)
  | d + 1, row, j, hp, hj, hjl => by
    have hlen := hp.length_eq
    have hw : wI6 (j - 1) = j - 1 := by rw [qdF (by omega)]
    refine qlC ?_
    simp only [qaO, hw]
    obtain ⟨x, hx⟩ := q17 (l := row) (i := j) (by omega) hjl
    obtain ⟨y, hy⟩ := q17 (l := row) (i := j - 1) (by omega) (by omega)
    obtain ⟨z, hz⟩ := q17 (l := row.set j.toNat y) (i := j - 1) (by omega) (by rw [List.length_set]; omega)
    refine sp_t (by simp; omega) (qoH hx (qoH hy (zmL (qoE _ _) (quE (fun _ => ?_) fun _ => hnext row hp))))
    refine qoH hy (qoH hx (qoH hx (qoH hz ?_)))
    exact zw5 ha row0 hl hnext d _ (j - 1) ((swp hx hy).trans hp) (by omega) (by simp only [List.length_set]; omega)
theorem zw6 {a b : Int} (ha : 0 ≤ a) (row0 : List qaM) (hl : (row0.length : Int) ≤ 1099511627776) (hb : b ≤ (row0.length : Int)) :
    ∀ (d : Nat) (row : List qaM) (i : Int), row.Perm row0 → a ≤ i → b ≤ i + d → SP row0 fun K => qaO K (.c1 row a b i)
  | 0, row, i, hp, hai, hd => by
    refine qlC ?_
    simp only [qaO]
    exact sp_f (by simp; omega) (quY hp)
  | d + 1, row, i, hp, hai, hd => by
    have hlen := hp.length_eq
    refine qlC ?_
    simp only [qaO]
    refine quE (fun h => ?_) fun _ => quY hp
    have h := of_decide_eq_true h
    refine zw5 ha row0 hl (fun r hr => ?_) (i - a).toNat row i hp (by omega) (by omega)
    refine qlC ?_
    simp only [qaO]
    rw [qdF (by omega)]
    exact zw6 ha row0 hl hb d r (i + 1) hr (by omega) (by omega)
theorem zw4 {row : List qaM} {a b : Int} (hl : (row.length : Int) ≤ 1099511627776) (ha : 0 ≤ a) (ha1 : a ≤ 1099511627776) (hb : b ≤ (row.length : Int)) : SP row fun K => qb9 K row a b := by
  refine qlC ?_
  simp only [qb9, qaO]
  rw [qdF (by omega)]
  exact zw6 ha row hl hb (b - a).toNat row (a + 1) (.refl _) (by omega) (by omega)
theorem zwU {a b n : Int} (ha : 0 ≤ a) (hb : 0 ≤ b) (row0 : List qaM) (hl : (row0.length : Int) ≤ 1099511627776) (h1 : a + n ≤ (row0.length : Int)) (h2 : b + n ≤ (row0.length : Int)) :
    ∀ (d : Nat) (row : List qaM) (i : Int), row.Perm row0 → 0 ≤ i → n ≤ i + d → SP row0 fun K => qa2 K (.c1 row a b n i)
  | 0, row, i, hp, hai, hd => by
    refine qlC ?_
    simp only [qa2]
    exact sp_f (by simp; omega) (quY hp)
  | d + 1, row, i, hp, hai, hd => by
    have hlen := hp.length_eq
    refine qlC ?_
    simp only [qa2]
    refine quE (fun h => ?_) fun _ => quY hp
    have h := of_decide_eq_true h
    rw [qdF (x := b + i) (by omega), qdF (x := a + i) (by omega), qdF (x := i + 1) (by omega)]
    obtain ⟨x, hx⟩ := q17 (l := row) (i := b + i) (by omega) (by omega)
    obtain ⟨y, hy⟩ := q17 (l := row) (i := a + i) (by omega) (by omega)
    obtain ⟨z, hz⟩ := q17 (l := row.set (a + i).toNat x) (i := b + i) (by omega) (by rw [List.length_set]; omega)
    refine qoH hx (qoH hy (qoH hy (qoH hz ?_)))
    exact zwU ha hb row0 hl h1 h2 d _ (i + 1) ((swp hy hx).trans hp) (by omega) (by omega)
theorem zsT {row : List qaM} {a b n : Int} (hl : (row.length : Int) ≤ 1099511627776) (ha : 0 ≤ a) (hb : 0 ≤ b) (h1 : a + n ≤ (row.length : Int)) (h2 : b + n ≤ (row.length : Int)) : SP row fun K => qbX K row a b n := by
  refine qlC ?_
  simp only [qbX, qa2]
  exact zwU ha hb row hl h1 h2 n.toNat row 0 (.refl _) (by omega) (by omega)
theorem zs4 {m : Int} (row0 : List qaM) (hl : (row0.length : Int) ≤ 1099511627776) :
    ∀ (d : Nat) (row : List qaM) (i j : Int), row.Perm row0 → 1 ≤ i → 1 ≤ j → i ≤ m → m + j ≤ (row0.length : Int) → i + j ≤ d → SP row0 fun K => qa3 K (.c1 row m i j)
  | 0, row, i, j, _, h1, h2, _, _, hd => by omega
  | d + 1, row, i, j, hp, h1, h2, h3, h4, hd => by
    have hlen := hp.length_eq
    refine qlC ?_
    simp only [qa3]
    rw [qdF (x := m - i) (by omega), qdF (x := m + j) (by omega), qdF (x := m + j - i) (by omega), qdF (x := i - j) (by omega), qdF (x := j - i) (by omega)]
    refine quE (fun h => quE (fun h' => ?_) fun h' => ?_) fun h => ?_
    · have h' := of_decide_eq_true h'
      refine qv4 (zsT (by omega) (by omega) (by omega) (by omega) (by omega)) hp fun r hr hrl hr0 => zg0 hrl ?_
      exact zs4 row0 hl d r (i - j) j hr0 (by omega) h2 (by omega) h4 (by omega)
    · have h' := of_decide_eq_false h'
      have h : ¬ i = j := by simpa using h
      refine qv4 (zsT (by omega) (by omega) (by omega) (by omega) (by omega)) hp fun r hr hrl hr0 => zg0 hrl ?_
      exact zs4 row0 hl d r i (j - i) hr0 h1 (by omega) h3 (by omega) (by omega)
    · have h : i = j := by simpa using h
      exact qv4 (zsT (by omega) (by omega) (by omega) (by omega) (by omega)) hp fun r hr hrl hr0 => zg0 hrl (quY hr0)
theorem rot_sp {row : List qaM} {a m b : Int} (hl : (row.length : Int) ≤ 1099511627776) (ha : 0 ≤ a) (h1 : a < m) (h2 : m < b) (h3 : b ≤ (row.length : Int)) : SP row fun K => qdE K row a m b := by
  refine qlC ?_
  simp only [qdE, qa3]
  rw [qdF (x := m - a) (by omega), qdF (x := b - m) (by omega)]
  exact zs4 row hl (b - a).toNat row (m - a) (b - m) (.refl _) (by omega) (by omega) (by omega) (by omega) (by omega)
theorem zwT {i : Int} (row0 : List qaM) (hl : (row0.length : Int) ≤ 1099511627776) (hi0 : 0 ≤ i) (hi : i ≤ (row0.length : Int)) :
    ∀ (d : Nat) (row : List qaM) (k : Int), row.Perm row0 → 0 ≤ k → i - 1 ≤ k + d → SP row0 fun K => qaH K (.c4 row i k)
  | d, row, k, hp, hk, hd => by
    have hlen := hp.length_eq
    refine qlC ?_
    simp only [qaH]
    rw [qdF (x := i - 1) (by omega)]
    refine quE (fun h => ?_) fun _ => quY hp
    have h := of_decide_eq_true h
    match d, hd with
    | 0, hd => omega
    | d + 1, hd =>
    rw [qdF (x := k + 1) (by omega)]
    obtain ⟨x, hx⟩ := q17 (l := row) (i := k + 1) (by omega) (by omega)
    obtain ⟨y, hy⟩ := q17 (l := row) (i := k) (by omega) (by omega)
    obtain ⟨z, hz⟩ := q17 (l := row.set k.toNat x) (i := k + 1) (by omega) (by rw [List.length_set]; omega)
    refine qoH hx (qoH hy (qoH hy (qoH hz ?_)))
    exact zwT row0 hl hi0 hi d _ (k + 1) ((swp hy hx).trans hp) (by omega) (by omega)
theorem zwS {i : Int} (row0 : List qaM) (hl : (row0.length : Int) ≤ 1099511627776) (hi0 : 0 ≤ i) :
    ∀ (d : Nat) (row : List qaM) (k : Int), row.Perm row0 → k < (row0.length : Int) → k ≤ i + d → SP row0 fun K => qaH K (.c5 row i k)
  | d, row, k, hp, hk, hd => by
    have hlen := hp.length_eq
    refine qlC ?_
    simp only [qaH]
    refine quE (fun h => ?_) fun _ => quY hp
    have h := of_decide_eq_true h
    match d, hd with
    | 0, hd => omega
    | d + 1, hd =>
    rw [qdF (x := k - 1) (by omega)]
    obtain ⟨x, hx⟩ := q17 (l := row) (i := k - 1) (by omega) (by omega)
    obtain ⟨y, hy⟩ := q17 (l := row) (i := k) (by omega) (by omega)
    obtain ⟨z, hz⟩ := q17 (l := row.set k.toNat x) (i := k - 1) (by omega) (by rw [List.length_set]; omega)
    refine qoH hx (qoH hy (qoH hy (qoH hz ?_)))
    exact zwS row0 hl hi0 d _ (k - 1) ((swp hy hx).trans hp) (by omega) (by omega)
theorem zsS {a : Int} {row : List qaM} (hl : (row.length : Int) ≤ 1099511627776) (ha : 0 ≤ a) (hal : a < (row.length : Int)) :
    ∀ (d : Nat) (i j : Int), 0 ≤ i → i ≤ j → j ≤ (row.length : Int) → j ≤ i + d → SP row fun K => qaH K (.c1 row a i j)
  | d, i, j, h0, h1, h2, hd => by
    refine qlC ?_
    simp only [qaH]
    rw [zq4 (a := i) (b := j) (by omega) (by omega), qdF (x := (i + j) / 2 + 1) (by omega)]
    refine quE (fun h => ?_) fun _ => zwT row hl h0 (by omega) (i - 1 - a).toNat row a (.refl _) ha (by omega)
    have h := of_decide_eq_true h
    match d, hd with
    | 0, hd => omega
    | d + 1, hd =>
    obtain ⟨x, hx⟩ := q17 (l := row) (i := (i + j) / 2) (by omega) (by omega)
    obtain ⟨y, hy⟩ := q17 (l := row) (i := a) (by omega) (by omega)
    refine qoH hx (qoH hy (zmL (qoE _ _) (quE (fun _ => ?_) fun _ => ?_)))
    · exact zsS hl ha hal d _ _ (by omega) (by omega) (by omega) (by omega)
    · exact zsS hl ha hal d _ _ (by omega) (by omega) (by omega) (by omega)
theorem zsR {m : Int} {row : List qaM} (hl : (row.length : Int) ≤ 1099511627776) (hm0 : 0 ≤ m) (hm : m < (row.length : Int)) :
    ∀ (d : Nat) (i j : Int), 0 ≤ i → i ≤ j → j ≤ m → j ≤ i + d → SP row fun K => qaH K (.c2 row m i j)
  | d, i, j, h0, h1, h2, hd => by
    refine qlC ?_
    simp only [qaH]
    rw [zq4 (a := i) (b := j) (by omega) (by omega), qdF (x := (i + j) / 2 + 1) (by omega)]
    refine quE (fun h => ?_) fun _ => zwS row hl h0 (m - i).toNat row m (.refl _) hm (by omega)
    have h := of_decide_eq_true h
    match d, hd with
    | 0, hd => omega
    | d + 1, hd =>
    obtain ⟨x, hx⟩ := q17 (l := row) (i := m) (by omega) (by omega)
    obtain ⟨y, hy⟩ := q17 (l := row) (i := (i + j) / 2) (by omega) (by omega)
    refine qoH hx (qoH hy (zmL (qoE _ _) (quE (fun _ => ?_) fun _ => ?_)))
    · exact zsR hl hm0 hm d _ _ (by omega) (by omega) (by omega) (by omega)
    · exact zsR hl hm0 hm d _ _ (by omega) (by omega) (by omega) (by omega)
def zpC (len : Nat) (a m b : Int) : Prop := ∀ row : List qaM, row.length = len → SP row fun K => qaH K (.c0 row a m b)
theorem zsN {len : Nat} {b mid e : Int} (h2 : mid < e → e < b → zpC len mid e b) (row0 : List qaM) (hlen : row0.length = len) (q : List qaM) (hq : q.Perm row0) :
    SP row0 fun K => bif decide (mid < e) then bif decide (e < b) then (qaH K (.c0 q mid e b)).bind fun x => gd (x.length = q.length) (some x) else some q else some q :=
  quE (fun h => quE (fun h' => qv4 (h2 (of_decide_eq_true h) (of_decide_eq_true h') q (by rw [hq.length_eq, hlen])) hq fun r _ hrl hr0 => zg0 hrl (quY hr0)) fun _ => quY hq) fun _ => quY hq
theorem zsO {len : Nat} {a b mid e st : Int} (h1 : a < st → st < mid → zpC len a st mid) (h2 : mid < e → e < b → zpC len mid e b) (row0 : List qaM) (hlen : row0.length = len) (q : List qaM) (hq : q.Perm row0) :
    SP row0 fun K => bif decide (a < st) then bif decide (st < mid) then (qaH K (.c0 q a st mid)).bind fun y => gd (y.length = q.length) (bif decide (mid < e) then bif decide (e < b) then (qaH K (.c0 y mid e b)).bind fun x => gd (x.length = y.length) (some x) else some y else some y)
      else bif decide (mid < e) then bif decide (e < b) then (qaH K (.c0 q mid e b)).bind fun x => gd (x.length = q.length) (some x) else some q else some q
      else bif decide (mid < e) then bif decide (e < b) then (qaH K (.c0 q mid e b)).bind fun x => gd (x.length = q.length) (some x) else some q else some q :=
  quE (fun h => quE (fun h' => qv4 (h1 (of_decide_eq_true h) (of_decide_eq_true h') q (by rw [hq.length_eq, hlen])) hq fun r _ hrl hr0 => zg0 hrl (zsN h2 row0 hlen r hr0)) fun _ => zsN h2 row0 hlen q hq) fun _ => zsN h2 row0 hlen q hq
theorem zqQ {a m b mid n p lo hi : Int} {row : List qaM} (hl : (row.length : Int) ≤ 1099511627776) (ha : 0 ≤ a) (ham : a < m) (hmb : m < b) (hb : b ≤ (row.length : Int)) (hmid : mid = (a + b) / 2) (hn : n = mid + m) (hp : p = n - 1)
    (hlo : a ≤ lo) (hhi : hi ≤ m) (hlo2 : n - b ≤ lo) (hhi2 : hi ≤ mid)
    (h1 : ∀ st, a < st → st < mid → zpC row.length a st mid) (h2 : ∀ e, mid < e → e < b → zpC row.length mid e b) :
    ∀ (d : Nat) (start r : Int), lo ≤ start → start ≤ r → r ≤ hi → r ≤ start + d → SP row fun K => qaH K (.c3 row a m b mid n start r p)
  | d, start, r, k0, k1, k2, hd => by
    refine qlC ?_
    simp only [qaH]
    rw [zq4 (a := start) (b := r) (by omega) (by omega), qdF (x := (start + r) / 2 + 1) (by omega), qdF (x := p - (start + r) / 2) (by omega), qdF (x := n - start) (by omega)]
    refine quE (fun h => ?_) fun h => ?_
    · have h := of_decide_eq_true h
      match d, hd with
      | 0, hd => omega
      | d + 1, hd =>
      obtain ⟨x, hx⟩ := q17 (l := row) (i := p - (start + r) / 2) (by omega) (by omega)
      obtain ⟨y, hy⟩ := q17 (l := row) (i := (start + r) / 2) (by omega) (by omega)
      refine qoH hx (qoH hy (zmL (qoE _ _) (quE (fun _ => ?_) fun _ => ?_)))
      · exact zqQ hl ha ham hmb hb hmid hn hp hlo hhi hlo2 hhi2 h1 h2 d _ _ (by omega) (by omega) (by omega) (by omega)
      · exact zqQ hl ha ham hmb hb hmid hn hp hlo hhi hlo2 hhi2 h1 h2 d _ _ (by omega) (by omega) (by omega) (by omega)
    · refine quE (fun h => quE (fun h' => ?_) fun _ => ?_) fun _ => ?_
      · have h := of_decide_eq_true h
        have h' := of_decide_eq_true h'
        refine qv4 (rot_sp hl (by omega) h h' (by omega)) (.refl _) fun q _ hql hq => zg0 hql ?_
        exact zsO (h1 start) (h2 (n - start)) row rfl q hq
      · exact zsO (h1 start) (h2 (n - start)) row rfl row (.refl _)
      · exact zsO (h1 start) (h2 (n - start)) row rfl row (.refl _)
theorem zsP (len : Nat) (hl : (len : Int) ≤ 1099511627776) : ∀ (d : Nat) (a m b : Int), 0 ≤ a → a < m → m < b → b ≤ (len : Int) → b ≤ a + d → zpC len a m b
  | 0, a, m, b, _, h1, h2, _, hd => by omega
  | d + 1, a, m, b, h0, h1, h2, h3, hd => by
    intro row hlen
    subst hlen
    refine qlC ?_
    simp only [qaH]
    rw [zq4 (a := a) (b := b) (by omega) (by omega), qdF (x := m - a) (by omega), qdF (x := b - m) (by omega), qdF (x := (a + b) / 2 + m) (by omega), qdF (x := (a + b) / 2 + m - b) (by omega), qdF (x := (a + b) / 2 + m - 1) (by omega)]
    have i1 : ∀ st, a < st → st < (a + b) / 2 → zpC row.length a st ((a + b) / 2) := fun st k1 k2 => zsP row.length hl d _ _ _ h0 k1 k2 (by omega) (by omega)
    have i2 : ∀ e, (a + b) / 2 < e → e < b → zpC row.length ((a + b) / 2) e b := fun e k1 k2 => zsP row.length hl d _ _ _ (by omega) k1 k2 h3 (by omega)
    refine quE (fun _ => ?_) fun _ => quE (fun _ => ?_) fun _ => quE (fun h => ?_) fun h => ?_
    · exact zsS hl h0 (by omega) (b - m).toNat m b (by omega) (by omega) h3 (by omega)
    · exact zsR hl (by omega) (by omega) (m - a).toNat a m h0 (by omega) (by omega) (by omega)
    · have h := of_decide_eq_true h
      exact zqQ hl h0 h1 h2 h3 rfl rfl rfl (lo := (a + b) / 2 + m - b) (hi := (a + b) / 2) (by omega) (by omega) (by omega) (by omega) i1 i2 (b - m).toNat _ _ (by omega) (by omega) (by omega) (by omega)
    · have h := of_decide_eq_false h
      exact zqQ hl h0 h1 h2 h3 rfl rfl rfl (lo := a) (hi := m) (by omega) (by omega) (by omega) (by omega) i1 i2 (m - a).toNat _ _ (by omega) (by omega) (by omega) (by omega)
theorem zwR {row : List qaM} {a m b : Int} (hl : (row.length : Int) ≤ 1099511627776) (h0 : 0 ≤ a) (h1 : a < m) (h2 : m < b) (h3 : b ≤ (row.length : Int)) : SP row fun K => qdA K row a m b :=
  zsP row.length hl (b - a).toNat a m b h0 h1 h2 h3 (by omega) row rfl
theorem zwV {bs : Int} (row0 : List qaM) (hl : (row0.length : Int) ≤ 1099511627776) (hbs : 20 ≤ bs) (hbn : bs < (row0.length : Int)) (hnext : ∀ r : List qaM, r.Perm row0 → SP row0 fun K => qaP K (.c2 r (row0.length : Int) (bs * 2))) :
    ∀ (d : Nat) (row : List qaM) (a : Int), row.Perm row0 → 0 ≤ a → a ≤ (row0.length : Int) → (row0.length : Int) ≤ a + d → SP row0 fun K => qaP K (.c3 row (row0.length : Int) bs a (a + 2 * bs))
  | d, row, a, hp, h0, h1, hd => by
    have hlen := hp.length_eq
    refine qlC ?_
    simp only [qaP]
    rw [qdF (x := a + bs) (by omega), qdF (x := bs * 2) (by omega)]
    refine quE (fun h => ?_) fun _ => quE (fun h => ?_) fun _ => hnext row hp
    · have h := of_decide_eq_true h
      match d, hd with
      | 0, hd => omega
      | d + 1, hd =>
      rw [qdF (x := 2 * bs) (by omega), qdF (x := a + 2 * bs + 2 * bs) (by omega)]
      refine qv4 (zwR (by omega) h0 (by omega) (by omega) (by omega)) hp fun r _ hrl hr0 => zg0 hrl ?_
      exact zwV row0 hl hbs hbn hnext d r (a + 2 * bs) hr0 (by omega) h (by omega)
    · have h := of_decide_eq_true h
      refine qv4 (zwR (by omega) h0 (by omega) h (by omega)) hp fun r _ hrl hr0 => zg0 hrl (hnext r hr0)
theorem zwW (row0 : List qaM) (hl : (row0.length : Int) ≤ 1099511627776) : ∀ (d : Nat) (row : List qaM) (bs : Int), row.Perm row0 → 20 ≤ bs → (row0.length : Int) ≤ bs + d → SP row0 fun K => qaP K (.c2 row (row0.length : Int) bs)
  | d, row, bs, hp, h0, hd => by
    refine qlC ?_
    simp only [qaP]
    refine quE (fun h => ?_) fun _ => quY hp
    have h := of_decide_eq_true h
    match d, hd with
    | 0, hd => omega
    | d + 1, hd =>
    rw [qdF (x := 2 * bs) (by omega)]
    have := zwV row0 hl h0 h (fun r hr => zwW row0 hl d r (bs * 2) hr (by omega) (by omega)) row0.length row 0 hp (by omega) (by omega) (by omega)
    rw [Int.zero_add] at this
    exact this
theorem zwX (row0 : List qaM) (hl : (row0.length : Int) ≤ 1099511627776) : ∀ (d : Nat) (row : List qaM) (a : Int), row.Perm row0 → 0 ≤ a → a ≤ (row0.length : Int) → (row0.length : Int) ≤ a + d → SP row0 fun K => qaP K (.c1 row (row0.length : Int) 20 a (a + 20))
  | d, row, a, hp, h0, h1, hd => by
    have hlen := hp.length_eq
    refine qlC ?_
    simp only [qaP]
    rw [qdF (x := a + 20 + 20) (by omega)]
    refine quE (fun h => ?_) fun _ => ?_
    · have h := of_decide_eq_true h
      match d, hd with
      | 0, hd => omega
      | d + 1, hd =>
      refine qv4 (zw4 (by omega) h0 (by omega) (by omega)) hp fun r _ hrl hr0 => zg0 hrl ?_
      exact zwX row0 hl d r (a + 20) hr0 (by omega) h (by omega)
    · refine qv4 (zw4 (by omega) h0 (by omega) (by omega)) hp fun r _ hrl hr0 => zg0 hrl ?_
      exact zwW row0 hl row0.length r 20 hr0 (by omega) (by omega)
theorem zyC {row : List qaM} (hl : (row.length : Int) ≤ 1099511627776) : SP row fun K => qcM K row := by
  refine qlC ?_
  simp only [qcM, qbM]
  refine qv4 (q := row) ?_ (.refl _) fun r _ hrl hr0 => zg0 hrl (quY hr0)
  refine qlC ?_
  simp only [qeA, qaP]
  exact zwX row hl row.length row 0 (.refl _) (by omega) (by omega) (by omega)
theorem zuX : Ev (fun K => qcN K) () := by
  have ins : ∀ a b : Int, a = 0 ∧ (b = 0) → Ev (fun K => qcA K a b) () := by
    rintro a b ⟨rfl, rfl⟩
    refine qaW ?_
    simp only [qcA, qaT]
    refine qaW ?_
    simp only [qaT]
    exact ev_f (by decide) (qa6 _)
  refine qaW ?_
  simp only [qcN, qbN]
  refine qaR (x := ()) ?_ (qa6 _)
  refine qaW ?_
  simp only [qeE, qaV]
  refine qaW ?_
  simp only [qaV]
  refine ev_f (by decide) (qaR (ins _ _ ⟨rfl, rfl⟩) ?_)
  refine qaW ?_
  simp only [qaV]
  exact ev_f (by decide) (qa6 _)
end Go.Am.X
