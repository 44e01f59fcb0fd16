/- Part 4 of the proof: P2 .. P7. -/
import Derived.Test.YteciehfkhmbfeaaEc
import Derived.Test.YteciehfkhmbfeaaEb
namespace Go.Am.X
def Sz (k : Nat) (q : Rat) : Prop := (q.num.natAbs : Int) < 4294967296 ^ k ∧ (q.den : Int) < 4294967296 ^ k
theorem qv3 {i j : Nat} (h : i ≤ j) {q : Rat} (hq : Sz i q) : Sz j q := by
  have := qxJ h
  exact ⟨by have := hq.1; omega, by have := hq.2; omega⟩
theorem zm1 {k : Nat} {n : Int} {d : Nat} (hd0 : d ≠ 0) (hn : (n.natAbs : Int) < 4294967296 ^ k) (hd : (d : Int) < 4294967296 ^ k) : Sz k (mkRat n d) := by
  have h1 := Rat.num_mkRat n d
  have h2 := Rat.den_mkRat n d
  rw [if_neg hd0] at h1 h2
  refine ⟨?_, ?_⟩
  · rw [h1]
    have : (n / ((d.gcd n.natAbs : Nat) : Int)).natAbs ≤ n.natAbs := by
      have hdv : ((d.gcd n.natAbs : Nat) : Int) ∣ n := za6 _ _ (Nat.gcd_dvd_right _ _)
      obtain ⟨c, hc⟩ := hdv
      have hg : 0 < d.gcd n.natAbs := Nat.gcd_pos_of_pos_left _ (by omega)
      generalize d.gcd n.natAbs = g at *
      rw [hc, Int.mul_ediv_cancel_left _ (by omega), Int.natAbs_mul, Int.natAbs_natCast]
      exact Nat.le_mul_of_pos_left _ hg
    omega
  · rw [h2]
    have := Nat.div_le_self d (d.gcd n.natAbs)
    omega
theorem q0O (q : Rat) : (0 : Int) < q.den := by have := q.den_nz; omega
theorem zd0 {k : Nat} {q : Rat} (h : Sz k q) (hk : k ≤ 17179869000) : Sm (mkI q.num) := qxP hk (by have := h.1; omega) (by have := h.1; omega)
theorem zbU {k : Nat} {q : Rat} (h : Sz k q) (hk : k ≤ 17179869000) : SmN (digs (q.den : Int)) := ⟨qdX _, Nat.le_trans (qjJ h.2) hk⟩
theorem zq6 {k : Nat} {q : Rat} (h : Sz k q) (hk : k ≤ 17179869000) : Sm (mkI (q.den : Int)) := qxP hk (by have := q0O q; have := qfL k; omega) h.2
theorem qj3 {k : Nat} {q : Rat} (h : Sz k q) (hk : k ≤ 17179869000) : Ev (fun K => qiP K (mkQ q)) (mkI q.num, mkI (q.den : Int)) := by
  refine qaT ?_
  simp only [qiP, qj2, mkQ]
  have hd := zbU h hk
  have hp := q0O q
  refine qaP (qmJ hd.1 (by have := hd.2; omega)) (ev_f ?_ (qeQ (qa3 _) ?_))
  · rw [qdN (by omega)]; simp; omega
  · rw [qrO (show 0 ≤ (q.den : Int) by omega)]
theorem qk8 {i j : Nat} {x y : Int} (hx : (x.natAbs : Int) < 4294967296 ^ i) (hy : (y.natAbs : Int) < 4294967296 ^ j) : ((x * y).natAbs : Int) < 4294967296 ^ (i + j) := by
  rw [Int.natAbs_mul, Int.natCast_mul, Int.pow_add]
  have h1 := qfL i
  rcases Nat.eq_zero_or_pos y.natAbs with e | e
  · rw [e]; simp; have := qfL j; exact Int.mul_pos h1 this
  · calc (x.natAbs : Int) * y.natAbs < 4294967296 ^ i * y.natAbs := Int.mul_lt_mul_of_pos_right hx (by omega)
      _ ≤ 4294967296 ^ i * 4294967296 ^ j := Int.mul_le_mul_of_nonneg_left (by omega) (by omega)
theorem q01 {i j : Nat} {a b : Rat} (ha : Sz i a) (hb : Sz j b) : Sz (i + j) (a * b) := by
  have e : a * b = mkRat (a.num * b.num) (a.den * b.den) := by
    rw [← Rat.mkRat_mul_mkRat, Rat.mkRat_self, Rat.mkRat_self]
  rw [e]
  refine zm1 (Nat.mul_ne_zero a.den_nz b.den_nz) (qk8 ha.1 hb.1) ?_
  have := qk8 (i := i) (j := j) (x := a.den) (y := b.den) (by simpa using ha.2) (by simpa using hb.2)
  rw [Int.natAbs_mul] at this
  simpa using this
theorem zsT {i j : Nat} {a b : Rat} (ha : Sz i a) (hb : Sz j b) : Sz (i + j + 1) (a + b) := by
  have e : a + b = mkRat (a.num * b.den + b.num * a.den) (a.den * b.den) := by
    rw [← Rat.mkRat_add_mkRat _ _ a.den_nz b.den_nz, Rat.mkRat_self, Rat.mkRat_self]
  rw [e]
  have h1 := qk8 (i := i) (j := j) (x := a.num) (y := b.den) ha.1 (by simpa using hb.2)
  have h2 := qk8 (i := j) (j := i) (x := b.num) (y := a.den) hb.1 (by simpa using ha.2)
  rw [Nat.add_comm j i] at h2
  have h3 := qfL (i + j)
  have h4 : (4294967296 : Int) ^ (i + j + 1) = 4294967296 ^ (i + j) * 4294967296 := Int.pow_succ _ _
  refine zm1 (Nat.mul_ne_zero a.den_nz b.den_nz) (by omega) ?_
  have := qk8 (i := i) (j := j) (x := a.den) (y := b.den) (by simpa using ha.2) (by simpa using hb.2)
  rw [Int.natAbs_mul] at this
  simp only [Int.natAbs_natCast] at this
  rw [Int.natCast_mul] at this ⊢
  omega
theorem qe4 {i j : Nat} {a b : Rat} (ha : Sz i a) (hb : Sz j b) (h : i + j ≤ 1000000000) : Ev (fun K => qeM K (mkQ a) (mkQ b)) (mkQ (a * b)) := by
  refine qaT ?_
  simp only [qeM, qmF]
  have sa := zd0 ha (by omega)
  have sb := zd0 hb (by omega)
  have da := zbU ha (by omega)
  have db := zbU hb (by omega)
  have pa := q0O a
  have pb := q0O b
  have hA : (mkI (a.den : Int)).Abs = digs (a.den : Int) := by rw [qrO (by omega)]
  have hB : (mkI (b.den : Int)).Abs = digs (b.den : Int) := by rw [qrO (by omega)]
  refine qaP (qj3 ha (by omega)) (qaP (qj3 hb (by omega)) ?_)
  have m1 := qlX sa.1 sb.1 (by have := sa.2; have := sb.2; omega)
  rw [qcY, qcY] at m1
  have m2 := qyL da.1 db.1 (by have := da.2; have := db.2; omega)
  rw [qdN (by omega), qdN (by omega)] at m2
  have hnum := qk8 ha.1 hb.1
  have hden := qk8 (i := i) (j := j) (x := a.den) (y := b.den) (by simpa using ha.2) (by simpa using hb.2)
  have hpos : (0 : Int) < a.den * b.den := Int.mul_pos pa pb
  have m3 := qqZ (n := mkI (a.num * b.num)) (d := digs ((a.den : Int) * b.den)) (qxP (n := i + j) (by omega) (by omega) (by omega)) ⟨qdX _, Nat.le_trans (qjJ (n := i + j) (by omega)) (by omega)⟩
  rw [qcY, qdN (by omega)] at m3
  refine qaP m1 ?_
  simp only [hA, hB]
  refine qaP m2 (qaP m3 (qeQ (qa3 _) ?_))
  have e : a * b = mkRat (a.num * b.num) (a.den * b.den) := by
    rw [← Rat.mkRat_mul_mkRat, Rat.mkRat_self, Rat.mkRat_self]
  rw [e, ← Int.natCast_mul, Int.toNat_natCast]
theorem qwE {i j : Nat} {a b : Rat} (ha : Sz i a) (hb : Sz j b) (h : i + j ≤ 1000000000) : Ev (fun K => qrT K (mkQ a) (mkQ b)) (mkQ (a + b)) := by
  refine qaT ?_
  simp only [qrT, qmH]
  have sa := zd0 ha (by omega)
  have sb := zd0 hb (by omega)
  have da := zbU ha (by omega)
  have db := zbU hb (by omega)
  have ea := zq6 ha (by omega)
  have eb := zq6 hb (by omega)
  have pa := q0O a
  have pb := q0O b
  have hA : (mkI (a.den : Int)).Abs = digs (a.den : Int) := by rw [qrO (by omega)]
  have hB : (mkI (b.den : Int)).Abs = digs (b.den : Int) := by rw [qrO (by omega)]
  refine qaP (qj3 ha (by omega)) (qaP (qj3 hb (by omega)) ?_)
  have m1 := qlX sa.1 eb.1 (by have := sa.2; have := eb.2; omega)
  have m2 := qlX sb.1 ea.1 (by have := sb.2; have := ea.2; omega)
  rw [qcY, qcY] at m1 m2
  have h1 := qk8 (i := i) (j := j) (x := a.num) (y := b.den) ha.1 (by simpa using hb.2)
  have h2 := qk8 (i := j) (j := i) (x := b.num) (y := a.den) hb.1 (by simpa using ha.2)
  rw [Nat.add_comm j i] at h2
  have s1 : Sm (mkI (a.num * b.den)) := qxP (n := i + j) (by omega) (by omega) (by omega)
  have s2 : Sm (mkI (b.num * a.den)) := qxP (n := i + j) (by omega) (by omega) (by omega)
  have m3 := qn0 s1.1 s2.1 (by have := s1.2; omega) (by have := s2.2; omega)
  rw [qcY, qcY] at m3
  have m4 := qyL da.1 db.1 (by have := da.2; have := db.2; omega)
  rw [qdN (by omega), qdN (by omega)] at m4
  have hden := qk8 (i := i) (j := j) (x := a.den) (y := b.den) (by simpa using ha.2) (by simpa using hb.2)
  have hpos : (0 : Int) < a.den * b.den := Int.mul_pos pa pb
  have h3 := qfL (i + j)
  have h4 : (4294967296 : Int) ^ (i + j + 1) = 4294967296 ^ (i + j) * 4294967296 := Int.pow_succ _ _
  have m5 := qqZ (n := mkI (a.num * b.den + b.num * a.den)) (d := digs ((a.den : Int) * b.den)) (qxP (n := i + j + 1) (by omega) (by omega) (by omega)) ⟨qdX _, Nat.le_trans (qjJ (n := i + j) (by omega)) (by omega)⟩
  rw [qcY, qdN (by omega)] at m5
  refine qaP m1 (qaP m2 (qaP m3 ?_))
  simp only [hA, hB]
  refine qaP m4 (qaP m5 (qeQ (qa3 _) ?_))
  have e : a + b = mkRat (a.num * b.den + b.num * a.den) (a.den * b.den) := by
    rw [← Rat.mkRat_add_mkRat _ _ a.den_nz b.den_nz, Rat.mkRat_self, Rat.mkRat_self]
  rw [e, ← Int.natCast_mul, Int.toNat_natCast]
theorem qlH {k : Nat} {q : Rat} (h : Sz k q) (hk : k ≤ 1000000000) : Ev (fun K => qg8 K (mkQ q)) (mkQ q) := by
  refine qaT ?_
  simp only [qg8, qi6]
  have := qqZ (zd0 h (by omega)) (zbU h (by omega))
  have hp := q0O q
  rw [qcY, qdN (by omega), Int.toNat_natCast, Rat.mkRat_self] at this
  exact qaP this (qa3 _)
theorem ztM (z : Int) : mkQ (z : Rat) = ⟨mkI z, digs 1⟩ := rfl
theorem zmH {k : Nat} {z : Int} (h : (z.natAbs : Int) < 4294967296 ^ (k + 1)) : Sz (k + 1) (z : Rat) := by
  refine ⟨h, ?_⟩
  show (1 : Int) < _
  have := qxJ (show 1 ≤ k + 1 by omega)
  have : (4294967296 : Int) ^ 1 = 4294967296 := rfl
  omega
theorem q1E {z : Int} (h : Sm (mkI z)) : Ev (fun K => qsI K (mkI z)) (mkQ (z : Rat)) := by
  refine qaT ?_
  simp only [qsI, qk5]
  have := qkE h.1 (by have := h.2; omega)
  rw [qcY] at this
  exact qaP this (qaP qsG (qeQ (qa3 _) (ztM z).symm))
theorem qqI {z : Int} (h : -9223372036854775808 ≤ z ∧ z < 9223372036854775808) : Ev (fun K => qjI K z) (mkQ (z : Rat)) := by
  refine qaT ?_
  simp only [qjI, qnT]
  exact qaP (qnH h) (qaP qsG (qeQ (qa3 _) (ztM z).symm))
def cmpQ (a b : Rat) : Int := if a < b then -1 else if b < a then 1 else 0
theorem qwD {i j : Nat} {a b : Rat} (ha : Sz i a) (hb : Sz j b) (h : i + j ≤ 1000000000) : Ev (fun K => qo0 K (mkQ a) (mkQ b)) (cmpQ a b) := by
  refine qaT ?_
  simp only [qo0, qmG]
  have sa := zd0 ha (by omega)
  have sb := zd0 hb (by omega)
  have ea := zq6 ha (by omega)
  have eb := zq6 hb (by omega)
  have pa := q0O a
  have pb := q0O b
  refine qaP (qj3 ha (by omega)) (qaP (qj3 hb (by omega)) ?_)
  have g1 := qhB sa.1 (by have := sa.2; omega)
  have g2 := qhB sb.1 (by have := sb.2; omega)
  rw [qcY] at g1 g2
  refine qaP g1 (qaP g2 ?_)
  have hlt : ∀ x y : Rat, x < y ↔ x.num * y.den < y.num * x.den := fun x y => Rat.lt_iff x y
  by_cases e : cmpI a.num 0 = cmpI b.num 0
  · refine ev_f (by simpa using e) ?_
    have m1 := qlX sa.1 eb.1 (by have := sa.2; have := eb.2; omega)
    have m2 := qlX sb.1 ea.1 (by have := sb.2; have := ea.2; omega)
    rw [qcY, qcY] at m1 m2
    have h1 := qk8 (i := i) (j := j) (x := a.num) (y := b.den) ha.1 (by simpa using hb.2)
    have h2 := qk8 (i := j) (j := i) (x := b.num) (y := a.den) hb.1 (by simpa using ha.2)
    rw [Nat.add_comm j i] at h2
    have s1 : Sm (mkI (a.num * b.den)) := qxP (n := i + j) (by omega) (by omega) (by omega)
    have s2 : Sm (mkI (b.num * a.den)) := qxP (n := i + j) (by omega) (by omega) (by omega)
    have m3 := q64 s1.1 s2.1 (by have := s1.2; omega) (by have := s2.2; omega)
    rw [qcY, qcY] at m3
    refine qaP m1 (qaP m2 (qaP m3 (qeQ (qa3 _) ?_)))
    unfold cmpI cmpQ
    simp only [hlt]
  · refine ev_t (by simpa using e) ?_
    have neg : ∀ {x y : Int} {d e : Nat}, (0 : Int) < d → (0 : Int) < e → cmpI y 0 < cmpI x 0 → y * d < x * e := by
      intro x y d e hd he hc
      unfold cmpI at hc
      by_cases hx : 0 < x
      · have h1 := Int.mul_pos hx he
        have h2 : y * d ≤ 0 := Int.mul_nonpos_of_nonpos_of_nonneg (by split at hc <;> split at hc <;> (try split at hc) <;> (try split at hc) <;> omega) (by omega)
        omega
      · have h1 : y < 0 := by split at hc <;> split at hc <;> (try split at hc) <;> (try split at hc) <;> omega
        have h2 : x = 0 := by split at hc <;> split at hc <;> (try split at hc) <;> (try split at hc) <;> omega
        subst h2
        have := Int.mul_neg_of_neg_of_pos h1 hd
        omega
    by_cases h1 : cmpI b.num 0 < cmpI a.num 0
    · refine ev_t (by simpa using h1) (qeQ (qa3 _) ?_)
      have := neg pa pb h1
      unfold cmpQ
      rw [if_neg (by rw [hlt]; omega), if_pos (by rw [hlt]; exact this)]
    · refine ev_f (by simpa using h1) (qeQ (qa3 _) ?_)
      have := neg pb pa (show cmpI a.num 0 < cmpI b.num 0 by omega)
      unfold cmpQ
      rw [if_pos (by rw [hlt]; exact this)]
open Go.Proofs.Try (prog)
inductive qlL where
 | c0 (a : qaK) (b : qaK)
def qhE : Nat → qlL → Option qaK
 | 0, _ => none
 | K + 1, .c0 a b =>
  (qo0 K a b).bind fun x1 =>
  bif (decide (x1 < (0 : Int))) then
   some b
  else
   some a
def qiC (K : Nat) (a : qaK) (b : qaK) : Option qaK := qhE K (.c0 a b)
noncomputable def q2D : Code := qcK prog 80
noncomputable def q32 : qlL → List Fr
 | .c0 .. => [.code q2D]
def q5N : qlL → St
 | .c0 a b => St.init [(TV.agg (qaC a)), (TV.agg (qaC b))]
def qw1 (cx : Cx) (c : qlL) (r : qaK) : Prop := Wk prog cx (qd0 prog 80 [[0,1,1]] (TV.agg (qaC r))) (q32 c) .normal (q5N c)
abbrev qw2 (K : Nat) : Prop := ∀ c r, qhE K c = some r → ∀ cx : Cx, cx.n = 11 → qw1 cx c r
theorem q5O {K} (_ : qw2 K) {cx} (hn : cx.n = 11) {a b} {r} (h : qhE (K + 1) (.c0 a b) = some r) : qw1 cx (.c0 a b) r := by
 rw [qhE] at h
 obtain ⟨x1, h2, h⟩ := qaV h
 rcases qaY h with ⟨h3, h⟩ | ⟨h3, h⟩
 ·have h := oinj h; subst h
  exact wkR [rg3, rgG [oo, oo, opI (.call [[0,1,1], [0,1,1]] [(TV.agg (qaC a)), (TV.agg (qaC b))] (ti .i64 x1)), oo], bTr, rg2] hn (aC (qg9 h2) <| aC h3 <| aN)
 ·have h := oinj h; subst h
  exact wkR [rg3, rgG [oo, oo, opI (.call [[0,1,1], [0,1,1]] [(TV.agg (qaC a)), (TV.agg (qaC b))] (ti .i64 x1)), oo], bFa, rg2] hn (aC (qg9 h2) <| aC h3 <| aN)
theorem quO : ∀ K : Nat, qw2 K
 | 0, c, r, h => by rw [qhE] at h; cases h
 | K + 1, .c0 .., r, h => fun cx hn => q5O (quO K) hn h
theorem qjQ {K : Nat} {a : qaK} {b : qaK} {r : qaK} (h : qiC K a b = some r) : qc0 prog 80 [(TV.agg (qaC a)), (TV.agg (qaC b))] (TV.agg (qaC r)) :=
 qbG [[0,1,1]] (by kernel_rfl) (by simp) fun cx hn => quO K (.c0 a b) r h cx hn
open Go.Proofs.Try (prog)
inductive qoN where
 | c0 (a : qaK) (b : qaK)
def qkB : Nat → qoN → Option qaK
 | 0, _ => none
 | K + 1, .c0 a b =>
  (qo0 K a b).bind fun x1 =>
  bif (decide ((0 : Int) < x1)) then
   some b
  else
   some a
def qlW (K : Nat) (a : qaK) (b : qaK) : Option qaK := qkB K (.c0 a b)
noncomputable def q77 : Code := qcK prog 79
noncomputable def zaI : qoN → List Fr
 | .c0 .. => [.code q77]
def zc4 : qoN → St
 | .c0 a b => St.init [(TV.agg (qaC a)), (TV.agg (qaC b))]
def q1P (cx : Cx) (c : qoN) (r : qaK) : Prop := Wk prog cx (qd0 prog 79 [[0,1,1]] (TV.agg (qaC r))) (zaI c) .normal (zc4 c)
abbrev q1Q (K : Nat) : Prop := ∀ c r, qkB K c = some r → ∀ cx : Cx, cx.n = 11 → q1P cx c r
theorem zc5 {K} (_ : q1Q K) {cx} (hn : cx.n = 11) {a b} {r} (h : qkB (K + 1) (.c0 a b) = some r) : q1P cx (.c0 a b) r := by
 rw [qkB] at h
 obtain ⟨x1, h2, h⟩ := qaV h
 rcases qaY h with ⟨h3, h⟩ | ⟨h3, h⟩
 ·have h := oinj h; subst h
  exact wkR [rg3, rgG [oo, oo, opI (.call [[0,1,1], [0,1,1]] [(TV.agg (qaC a)), (TV.agg (qaC b))] (ti .i64 x1)), oo], bTr, rg2] hn (aC (qg9 h2) <| aC h3 <| aN)
 ·have h := oinj h; subst h
  exact wkR [rg3, rgG [oo, oo, opI (.call [[0,1,1], [0,1,1]] [(TV.agg (qaC a)), (TV.agg (qaC b))] (ti .i64 x1)), oo], bFa, rg2] hn (aC (qg9 h2) <| aC h3 <| aN)
theorem qx4 : ∀ K : Nat, q1Q K
 | 0, c, r, h => by rw [qkB] at h; cases h
 | K + 1, .c0 .., r, h => fun cx hn => zc5 (qx4 K) hn h
theorem ql0 {K : Nat} {a : qaK} {b : qaK} {r : qaK} (h : qlW K a b = some r) : qc0 prog 79 [(TV.agg (qaC a)), (TV.agg (qaC b))] (TV.agg (qaC r)) :=
 qbG [[0,1,1]] (by kernel_rfl) (by simp) fun cx hn => qx4 K (.c0 a b) r h cx hn
open Go.Proofs.Try (prog)
inductive qnG where
 | c0 (i : qaJ)
def qjD : Nat → qnG → Option qaJ
 | 0, _ => none
 | K + 1, .c0 i =>
  (qlW K i.Lo i.Hi).bind fun x1 =>
  (qg8 K x1).bind fun x3 =>
  (qiC K i.Lo i.Hi).bind fun x5 =>
  (qg8 K x5).bind fun x7 =>
  some (qaJ.mk x3 x7)
def qiW (K : Nat) (i : qaJ) : Option qaJ := qjD K (.c0 i)
noncomputable def q5Q : Code := qcK prog 35
noncomputable def q79 : qnG → List Fr
 | .c0 .. => [.code q5Q]
def zaK : qnG → St
 | .c0 i => St.init [(TV.agg (qaM i))]
def qzO (cx : Cx) (c : qnG) (r : qaJ) : Prop := Wk prog cx (qd0 prog 35 [[0,1,1,0,1,1]] (TV.agg (qaM r))) (q79 c) .normal (zaK c)
abbrev qzP (K : Nat) : Prop := ∀ c r, qjD K c = some r → ∀ cx : Cx, cx.n = 16 → qzO cx c r
theorem zaL {K} (_ : qzP K) {cx} (hn : cx.n = 16) {i} {r} (h : qjD (K + 1) (.c0 i) = some r) : qzO cx (.c0 i) r := by
 rw [qjD] at h
 obtain ⟨x1, h2, h⟩ := qaV h
 obtain ⟨x3, h4, h⟩ := qaV h
 obtain ⟨x5, h6, h⟩ := qaV h
 obtain ⟨x7, h8, h⟩ := qaV h
 have h := oinj h; subst h
 exact wkR [rg2, .draw [.p, .p, .p, .p, (.call [[0,1,1], [0,1,1]] [(TV.agg (qaC i.Lo)), (TV.agg (qaC i.Hi))] (TV.agg (qaC x1))), (.call [[0,1,1]] [(TV.agg (qaC x1))] (TV.agg (qaC x3))), .p, .p, .p, .p] [opI (.call [[0,1,1], [0,1,1]] [(TV.agg (qaC i.Lo)), (TV.agg (qaC i.Hi))] (TV.agg (qaC x5))), opI (.call [[0,1,1]] [(TV.agg (qaC x5))] (TV.agg (qaC x7))), .op .p, .op .p]] hn (aC (ql0 h2) <| aC (qgP h4) <| aC (qjQ h6) <| aC (qgP h8) <| aN)
theorem qw3 : ∀ K : Nat, qzP K
 | 0, c, r, h => by rw [qjD] at h; cases h
 | K + 1, .c0 .., r, h => fun cx hn => zaL (qw3 K) hn h
theorem qiV {K : Nat} {i : qaJ} {r : qaJ} (h : qiW K i = some r) : qc0 prog 35 [(TV.agg (qaM i))] (TV.agg (qaM r)) :=
 qbG [[0,1,1,0,1,1]] (by kernel_rfl) (by simp) fun cx hn => qw3 K (.c0 i) r h cx hn
open Go.Proofs.Try (prog)
inductive qq6 where
 | c0 (i : qaJ) (j : qaJ)
 | c1 (b4 : qaJ) (out : qaJ) (t32 : qxM) (t33 : Int)
def qeC : Nat → qq6 → Option qaJ
 | 0, _ => none
 | K + 1, .c0 i j =>
  (qeM K i.Lo j.Lo).bind fun x1 =>
  (qeM K i.Lo j.Hi).bind fun x3 =>
  (qeM K i.Hi j.Lo).bind fun x5 =>
  (qeM K i.Hi j.Hi).bind fun x7 =>
  qeC K (.c1 (qaJ.mk (qaK.mk (qaG.mk false []) []) (qaK.mk (qaG.mk false []) [])) (qaJ.mk x1 x1) (qxM.mk x3 x5 x7) (0 : Int))
 | K + 1, .c1 b4 out t32 t33 =>
  bif (decide (t33 < (3 : Int))) then
   bif (decide (t33 = 0)) then
    (qlW K out.Lo t32.e0).bind fun x3 =>
    (qiC K out.Hi t32.e0).bind fun x5 =>
    qeC K (.c1 (qaJ.mk b4.Lo b4.Hi) (qaJ.mk x3 x5) t32 (wI6 (t33 + (1 : Int))))
   else
    bif (decide (t33 = 1)) then
     (qlW K out.Lo t32.e1).bind fun x4 =>
     (qiC K out.Hi t32.e1).bind fun x6 =>
     qeC K (.c1 (qaJ.mk b4.Lo b4.Hi) (qaJ.mk x4 x6) t32 (wI6 (t33 + (1 : Int))))
    else
     bif (decide (t33 = 2)) then
      (qlW K out.Lo t32.e2).bind fun x5 =>
      (qiC K out.Hi t32.e2).bind fun x7 =>
      qeC K (.c1 (qaJ.mk b4.Lo b4.Hi) (qaJ.mk x5 x7) t32 (wI6 (t33 + (1 : Int))))
     else
      none
  else
   (qiW K (qaJ.mk out.Lo out.Hi)).bind fun x2 =>
   some (qaJ.mk x2.Lo x2.Hi)
def quP (K : Nat) (i : qaJ) (j : qaJ) : Option qaJ := qeC K (.c0 i j)
noncomputable def qtX : Code := qcK prog 86
noncomputable def zf0 : qq6 → List Fr
 | .c0 .. => [.code qtX]
 | .c1 .. => [.code (.loop (atC qtX [1,1,1,0,1,0,0])), .blk 0, .code (atC qtX [1,1,1,1])]
def ziW : qq6 → St
 | .c0 i j => St.init [(TV.agg (qaM i)), (TV.agg (qaM j))]
 | .c1 b4 out t32 t33 => ⟨[(4, .c (C.ptr 4 0)), (6, .c (C.ptr 6 0)), (32, .agg ((zbD t32).map C.t)), (33, vi .i64 t33)], [(4, .var ((qaM (qaJ.mk b4.Lo b4.Hi)).map C.t)), (6, .var ((qaM (qaJ.mk out.Lo out.Hi)).map C.t))], []⟩
def qyN (cx : Cx) (c : qq6) (r : qaJ) : Prop := Wk prog cx (qd0 prog 86 [[0,1,1,0,1,1]] (TV.agg (qaM r))) (zf0 c) .normal (ziW c)
abbrev qyO (K : Nat) : Prop := ∀ c r, qeC K c = some r → ∀ cx : Cx, cx.n = 49 → qyN cx c r
theorem ziZ {K} (ih : qyO K) {cx} (hn : cx.n = 49) {i j} {r} (h : qeC (K + 1) (.c0 i j) = some r) : qyN cx (.c0 i j) r := by
 rw [qeC] at h
 obtain ⟨x1, h2, h⟩ := qaV h
 obtain ⟨x3, h4, h⟩ := qaV h
 obtain ⟨x5, h6, h⟩ := qaV h
 obtain ⟨x7, h8, h⟩ := qaV h
 exact wkG [rg3, rgG [oo, oo, oo, oo, opI (.call [[0,1,1], [0,1,1]] [(TV.agg (qaC i.Lo)), (TV.agg (qaC j.Lo))] (TV.agg (qaC x1))), oo, oo], rg5, .draw [.p, .p, .p, .p, (.call [[0,1,1], [0,1,1]] [(TV.agg (qaC i.Lo)), (TV.agg (qaC j.Hi))] (TV.agg (qaC x3))), .p, .p, .p, .p, (.call [[0,1,1], [0,1,1]] [(TV.agg (qaC i.Hi)), (TV.agg (qaC j.Lo))] (TV.agg (qaC x5))), .p, .p, .p, .p, (.call [[0,1,1], [0,1,1]] [(TV.agg (qaC i.Hi)), (TV.agg (qaC j.Hi))] (TV.agg (qaC x7))), .p, .p] [], .pre [.tellB 4 [0,1,1,0,1,1], .keep [4,6,32,33] [4,6]]] hn (aC (qdG h2) <| aC (qdG h4) <| aC (qdG h6) <| aC (qdG h8) <| aN) (ih _ _ h cx hn)
theorem ziY {K} (ih : qyO K) {cx} (hn : cx.n = 49) {b4 out t32 t33} {r} (h : qeC (K + 1) (.c1 b4 out t32 t33) = some r) : qyN cx (.c1 b4 out t32 t33) r := by
 rw [qeC] at h
 rcases qaY h with ⟨h1, h⟩ | ⟨h1, h⟩
 ·rcases qaY h with ⟨h2, h⟩ | ⟨h2, h⟩
  ·obtain ⟨x3, h4, h⟩ := qaV h
   obtain ⟨x5, h6, h⟩ := qaV h
   exact wkG [.go, rg1, bTr, rgG [opI (.iv 0), oo, oo], .draw [.p, .p, .p, (.call [[0,1,1], [0,1,1]] [(TV.agg (qaC out.Lo)), (TV.agg (qaC t32.e0))] (TV.agg (qaC x3))), .p, .p, .p, (.call [[0,1,1], [0,1,1]] [(TV.agg (qaC out.Hi)), (TV.agg (qaC t32.e0))] (TV.agg (qaC x5))), .p] [.op .p, .op .p, .op .p], rg2, .pre [.keep [4,6,32,33] [4,6]]] hn (aC h1 <| aC (of_decide_eq_true h2 : t33 = ((0 : Nat) : Int)) <| aC (ql0 h4) <| aC (qjQ h6) <| aN) (ih _ _ h cx hn)
  ·rcases qaY h with ⟨h3, h⟩ | ⟨h3, h⟩
   ·obtain ⟨x4, h5, h⟩ := qaV h
    obtain ⟨x6, h7, h⟩ := qaV h
    exact wkG [.go, rg1, bTr, rgG [opI (.iv 1), oo, oo], .draw [.p, .p, .p, (.call [[0,1,1], [0,1,1]] [(TV.agg (qaC out.Lo)), (TV.agg (qaC t32.e1))] (TV.agg (qaC x4))), .p, .p, .p, (.call [[0,1,1], [0,1,1]] [(TV.agg (qaC out.Hi)), (TV.agg (qaC t32.e1))] (TV.agg (qaC x6))), .p] [.op .p, .op .p, .op .p], rg2, .pre [.keep [4,6,32,33] [4,6]]] hn (aC h1 <| aC (of_decide_eq_true h3 : t33 = ((1 : Nat) : Int)) <| aC (ql0 h5) <| aC (qjQ h7) <| aN) (ih _ _ h cx hn)
   ·rcases qaY h with ⟨h4, h⟩ | ⟨h4, h⟩
    ·obtain ⟨x5, h6, h⟩ := qaV h
     obtain ⟨x7, h8, h⟩ := qaV h
     exact wkG [.go, rg1, bTr, rgG [opI (.iv 2), oo, oo], .draw [.p, .p, .p, (.call [[0,1,1], [0,1,1]] [(TV.agg (qaC out.Lo)), (TV.agg (qaC t32.e2))] (TV.agg (qaC x5))), .p, .p, .p, (.call [[0,1,1], [0,1,1]] [(TV.agg (qaC out.Hi)), (TV.agg (qaC t32.e2))] (TV.agg (qaC x7))), .p] [.op .p, .op .p, .op .p], rg2, .pre [.keep [4,6,32,33] [4,6]]] hn (aC h1 <| aC (of_decide_eq_true h4 : t33 = ((2 : Nat) : Int)) <| aC (ql0 h6) <| aC (qjQ h8) <| aN) (ih _ _ h cx hn)
    ·cases h
 ·obtain ⟨x2, h3, h⟩ := qaV h
  have h := oinj h; subst h
  exact wkR [.go, rg1, bFa, rgG [oo, opI (.call [[0,1,1,0,1,1]] [(TV.agg (qaM (qaJ.mk out.Lo out.Hi)))] (TV.agg (qaM x2))), oo]] hn (aC h1 <| aC (qiV h3) <| aN)
theorem qvC : ∀ K : Nat, qyO K
 | 0, c, r, h => by rw [qeC] at h; cases h
 | K + 1, .c0 .., r, h => fun cx hn => ziZ (qvC K) hn h
 | K + 1, .c1 .., r, h => fun cx hn => ziY (qvC K) hn h
theorem zaM {K : Nat} {i : qaJ} {j : qaJ} {r : qaJ} (h : quP K i j = some r) : qc0 prog 86 [(TV.agg (qaM i)), (TV.agg (qaM j))] (TV.agg (qaM r)) :=
 qbG [[0,1,1,0,1,1]] (by kernel_rfl) (by simp) fun cx hn => qvC K (.c0 i j) r h cx hn
open Go.Proofs.Try (prog)
inductive qq7 where
 | c0 (i : qaJ) (j : qaJ)
def qmK : Nat → qq7 → Option qaJ
 | 0, _ => none
 | K + 1, .c0 i j =>
  (qiW K (qaJ.mk i.Lo i.Hi)).bind fun x1 =>
  (qiW K (qaJ.mk j.Lo j.Hi)).bind fun x3 =>
  (qrT K x1.Lo x3.Lo).bind fun x5 =>
  (qrT K x1.Hi x3.Hi).bind fun x7 =>
  some (qaJ.mk x5 x7)
def quQ (K : Nat) (i : qaJ) (j : qaJ) : Option qaJ := qmK K (.c0 i j)
noncomputable def zc9 : Code := qcK prog 85
noncomputable def zf1 : qq7 → List Fr
 | .c0 .. => [.code zc9]
def zi0 : qq7 → St
 | .c0 i j => St.init [(TV.agg (qaM i)), (TV.agg (qaM j))]
def q6S (cx : Cx) (c : qq7) (r : qaJ) : Prop := Wk prog cx (qd0 prog 85 [[0,1,1,0,1,1]] (TV.agg (qaM r))) (zf1 c) .normal (zi0 c)
abbrev q6T (K : Nat) : Prop := ∀ c r, qmK K c = some r → ∀ cx : Cx, cx.n = 20 → q6S cx c r
theorem zi2 {K} (_ : q6T K) {cx} (hn : cx.n = 20) {i j} {r} (h : qmK (K + 1) (.c0 i j) = some r) : q6S cx (.c0 i j) r := by
 rw [qmK] at h
 obtain ⟨x1, h2, h⟩ := qaV h
 obtain ⟨x3, h4, h⟩ := qaV h
 obtain ⟨x5, h6, h⟩ := qaV h
 obtain ⟨x7, h8, h⟩ := qaV h
 have h := oinj h; subst h
 exact wkR [rg3, .draw [.p, (.call [[0,1,1,0,1,1]] [(TV.agg (qaM (qaJ.mk i.Lo i.Hi)))] (TV.agg (qaM x1))), .p] [opI (.call [[0,1,1,0,1,1]] [(TV.agg (qaM (qaJ.mk j.Lo j.Hi)))] (TV.agg (qaM x3))), .op .p, .op .p], .draw [.p, .p, .p, .p, (.call [[0,1,1], [0,1,1]] [(TV.agg (qaC x1.Lo)), (TV.agg (qaC x3.Lo))] (TV.agg (qaC x5))), .p, .p, .p, .p] [opI (.call [[0,1,1], [0,1,1]] [(TV.agg (qaC x1.Hi)), (TV.agg (qaC x3.Hi))] (TV.agg (qaC x7))), .op .p, .op .p]] hn (aC (qiV h2) <| aC (qiV h4) <| aC (qsJ h6) <| aC (qsJ h8) <| aN)
theorem q1T : ∀ K : Nat, q6T K
 | 0, c, r, h => by rw [qmK] at h; cases h
 | K + 1, .c0 .., r, h => fun cx hn => zi2 (q1T K) hn h
theorem zaN {K : Nat} {i : qaJ} {j : qaJ} {r : qaJ} (h : quQ K i j = some r) : qc0 prog 85 [(TV.agg (qaM i)), (TV.agg (qaM j))] (TV.agg (qaM r)) :=
 qbG [[0,1,1,0,1,1]] (by kernel_rfl) (by simp) fun cx hn => q1T K (.c0 i j) r h cx hn
open Go.Proofs.Try (prog)
inductive qoO where
 | c0 (a : qaK)
def qkC : Nat → qoO → Option qaJ
 | 0, _ => none
 | K + 1, .c0 a =>
  (qg8 K a).bind fun x1 =>
  (qg8 K a).bind fun x3 =>
  some (qaJ.mk x1 x3)
def quB (K : Nat) (a : qaK) : Option qaJ := qkC K (.c0 a)
noncomputable def q78 : Code := qcK prog 83
noncomputable def zaJ : qoO → List Fr
 | .c0 .. => [.code q78]
def zc6 : qoO → St
 | .c0 a => St.init [(TV.agg (qaC a))]
def q1R (cx : Cx) (c : qoO) (r : qaJ) : Prop := Wk prog cx (qd0 prog 83 [[0,1,1,0,1,1]] (TV.agg (qaM r))) (zaJ c) .normal (zc6 c)
abbrev q1S (K : Nat) : Prop := ∀ c r, qkC K c = some r → ∀ cx : Cx, cx.n = 8 → q1R cx c r
theorem zc8 {K} (_ : q1S K) {cx} (hn : cx.n = 8) {a} {r} (h : qkC (K + 1) (.c0 a) = some r) : q1R cx (.c0 a) r := by
 rw [qkC] at h
 obtain ⟨x1, h2, h⟩ := qaV h
 obtain ⟨x3, h4, h⟩ := qaV h
 have h := oinj h; subst h
 exact wkR [rg2, .draw [.p, (.call [[0,1,1]] [(TV.agg (qaC a))] (TV.agg (qaC x1))), .p] [opI (.call [[0,1,1]] [(TV.agg (qaC a))] (TV.agg (qaC x3))), .op .p, .op .p]] hn (aC (qgP h2) <| aC (qgP h4) <| aN)
theorem qx5 : ∀ K : Nat, q1S K
 | 0, c, r, h => by rw [qkC] at h; cases h
 | K + 1, .c0 .., r, h => fun cx hn => zc8 (qx5 K) hn h
theorem q5P {K : Nat} {a : qaK} {r : qaJ} (h : quB K a = some r) : qc0 prog 83 [(TV.agg (qaC a))] (TV.agg (qaM r)) :=
 qbG [[0,1,1,0,1,1]] (by kernel_rfl) (by simp) fun cx hn => qx5 K (.c0 a) r h cx hn
open Go.Proofs.Try (prog)
inductive qqR where
 | c0 (x : qaK) (e_v : Int)
 | c1 (x : qaK) (b4 : qaK) (out : qaK) (e_v : Int)
 | c2 (x : qaK) (b4 : qaK) (out : qaK) (e_v : Int)
def qbR : Nat → qqR → Option qaK
 | 0, _ => none
 | K + 1, .c0 x e_v =>
  (qjI K (1 : Int)).bind fun x1 =>
  qbR K (.c1 x (qaK.mk (qaG.mk false []) []) x1 e_v)
 | K + 1, .c1 x b4 out e_v =>
  bif (decide ((0 : Int) < e_v)) then
   bif (decide ((bits .and .i64 e_v (1 : Int)) = (1 : Int))) then
    (qeM K out x).bind fun x3 =>
    bif (decide ((1 : Int) < e_v)) then
     (qeM K x x).bind fun x6 =>
     qbR K (.c2 x6 b4 x3 e_v)
    else
     qbR K (.c2 x b4 x3 e_v)
   else
    bif (decide ((1 : Int) < e_v)) then
     (qeM K x x).bind fun x4 =>
     qbR K (.c2 x4 b4 out e_v)
    else
     qbR K (.c2 x b4 out e_v)
  else
   some out
 | K + 1, .c2 x b4 out e_v =>
  qbR K (.c1 x b4 out (qdC .i64 e_v (1 : Int)))
def qhM (K : Nat) (x : qaK) (e_v : Int) : Option qaK := qbR K (.c0 x e_v)
noncomputable def qjZ : Code := qcK prog 139
noncomputable def zeK : qqR → List Fr
 | .c0 .. => [.code qjZ]
 | .c1 .. => [.code (.loop (atC qjZ [1,1,0,0,0])), .blk 0, .code (atC qjZ [1,1,1])]
 | .c2 .. => [.code (atC qjZ [1,1,0,0,0,1,1]), .lp (atC qjZ [1,1,0,0,0]), .blk 0, .code (atC qjZ [1,1,1])]
def zhB : qqR → St
 | .c0 x e_v => St.init [(TV.agg (qaC x)), (ti .i64 e_v)]
 | .c1 x b4 out e_v => ⟨[(1, vi .i64 e_v), (2, .c (C.ptr 2 0)), (4, .c (C.ptr 4 0)), (5, .c (C.ptr 5 0))], [(2, .var ((qaC x).map C.t)), (4, .var ((qaC b4).map C.t)), (5, .var ((qaC out).map C.t))], []⟩
 | .c2 x b4 out e_v => ⟨[(1, vi .i64 e_v), (2, .c (C.ptr 2 0)), (4, .c (C.ptr 4 0)), (5, .c (C.ptr 5 0))], [(2, .var ((qaC x).map C.t)), (4, .var ((qaC b4).map C.t)), (5, .var ((qaC out).map C.t))], []⟩
def qtZ (cx : Cx) (c : qqR) (r : qaK) : Prop := Wk prog cx (qd0 prog 139 [[0,1,1]] (TV.agg (qaC r))) (zeK c) .normal (zhB c)
abbrev qt0 (K : Nat) : Prop := ∀ c r, qbR K c = some r → ∀ cx : Cx, cx.n = 23 → qtZ cx c r
theorem zhF {K} (ih : qt0 K) {cx} (hn : cx.n = 23) {x e_v} {r} (h : qbR (K + 1) (.c0 x e_v) = some r) : qtZ cx (.c0 x e_v) r := by
 rw [qbR] at h
 obtain ⟨x1, h2, h⟩ := qaV h
 exact wkG [rg2, rgG [opI (.call [[0]] [(TV.c (T.int .i64 (1 : Int)))] (TV.agg (qaC x1))), oo, oo], .pre [.tellB 4 [0,1,1], .keep [1,2,4,5] [2,4,5]]] hn (aC (qeS h2) <| aN) (ih _ _ h cx hn)
theorem zhE {K} (ih : qt0 K) {cx} (hn : cx.n = 23) {x b4 out e_v} {r} (h : qbR (K + 1) (.c1 x b4 out e_v) = some r) : qtZ cx (.c1 x b4 out e_v) r := by
 rw [qbR] at h
 rcases qaY h with ⟨h1, h⟩ | ⟨h1, h⟩
 ·rcases qaY h with ⟨h2, h⟩ | ⟨h2, h⟩
  ·obtain ⟨x3, h4, h⟩ := qaV h
   rcases qaY h with ⟨h5, h⟩ | ⟨h5, h⟩
   ·obtain ⟨x6, h7, h⟩ := qaV h
    exact wkG [.go, rg2, bTr, rg3, bTr, rgG [oo, oo, opI (.call [[0,1,1], [0,1,1]] [(TV.agg (qaC out)), (TV.agg (qaC x))] (TV.agg (qaC x3))), oo], rg2, bTr, rgG [oo, oo, opI (.call [[0,1,1], [0,1,1]] [(TV.agg (qaC x)), (TV.agg (qaC x))] (TV.agg (qaC x6))), oo], .pre [.keep [1,2,4,5] [2,4,5]]] hn (aC h1 <| aC h2 <| aC (qdG h4) <| aC h5 <| aC (qdG h7) <| aN) (ih _ _ h cx hn)
   ·exact wkG [.go, rg2, bTr, rg3, bTr, rgG [oo, oo, opI (.call [[0,1,1], [0,1,1]] [(TV.agg (qaC out)), (TV.agg (qaC x))] (TV.agg (qaC x3))), oo], rg2, bFa, .pre [.keep [1,2,4,5] [2,4,5]]] hn (aC h1 <| aC h2 <| aC (qdG h4) <| aC h5 <| aN) (ih _ _ h cx hn)
  ·rcases qaY h with ⟨h3, h⟩ | ⟨h3, h⟩
   ·obtain ⟨x4, h5, h⟩ := qaV h
    exact wkG [.go, rg2, bTr, rg3, bFa, rg2, bTr, rgG [oo, oo, opI (.call [[0,1,1], [0,1,1]] [(TV.agg (qaC x)), (TV.agg (qaC x))] (TV.agg (qaC x4))), oo], .pre [.keep [1,2,4,5] [2,4,5]]] hn (aC h1 <| aC h2 <| aC h3 <| aC (qdG h5) <| aN) (ih _ _ h cx hn)
   ·exact wkG [.go, rg2, bTr, rg3, bFa, rg2, bFa, .pre [.keep [1,2,4,5] [2,4,5]]] hn (aC h1 <| aC h2 <| aC h3 <| aN) (ih _ _ h cx hn)
 ·have h := oinj h; subst h
  exact wkR [.go, rg2, bFa, rg2] hn (aC h1 <| aN)
theorem zhD {K} (ih : qt0 K) {cx} (hn : cx.n = 23) {x b4 out e_v} {r} (h : qbR (K + 1) (.c2 x b4 out e_v) = some r) : qtZ cx (.c2 x b4 out e_v) r := by
 rw [qbR] at h
 exact q2Q (fuel := 44) [rg3, .pre [.keep [1,2,4,5] [2,4,5]]] _ hn (by kernel_rfl) aN (ih _ _ h cx hn)
theorem qqQ : ∀ K : Nat, qt0 K
 | 0, c, r, h => by rw [qbR] at h; cases h
 | K + 1, .c0 .., r, h => fun cx hn => zhF (qqQ K) hn h
 | K + 1, .c1 .., r, h => fun cx hn => zhE (qqQ K) hn h
 | K + 1, .c2 .., r, h => fun cx hn => zhD (qqQ K) hn h
theorem qf6 {K : Nat} {x : qaK} {e_v : Int} {r : qaK} (h : qhM K x e_v = some r) : qc0 prog 139 [(TV.agg (qaC x)), (ti .i64 e_v)] (TV.agg (qaC r)) :=
 qbG [[0,1,1]] (by kernel_rfl) (by simp) fun cx hn => qqQ K (.c0 x e_v) r h cx hn
open Go.Proofs.Try (prog)
inductive qkU where
 | c0 (q : zbK)
def qe9 : Nat → qkU → Option (Int × Int)
 | 0, _ => none
 | _ + 1, .c0 q =>
  bif (decide ((wI6 q.e1) = (0 : Int))) then
   some ((wI6 q.e0), (1 : Int))
  else
   bif (decide ((wI6 q.e1) < (0 : Int))) then
    some ((wI6 (0 - (wI6 q.e0))), (wI6 (0 - (wI6 q.e1))))
   else
    some ((wI6 q.e0), (wI6 q.e1))
def qjF (K : Nat) (q : zbK) : Option (Int × Int) := qe9 K (.c0 q)
noncomputable def q0V : Code := qcK prog 66
noncomputable def q2H : qkU → List Fr
 | .c0 .. => [.code q0V]
def q4L : qkU → St
 | .c0 q => St.init [(TV.agg (qkW q))]
def qvK (cx : Cx) (c : qkU) (r : (Int × Int)) : Prop := Wk prog cx (qd0 prog 66 [[0], [0]] (TV.tup [(false, [(T.int .i64 r.1)]), (false, [(T.int .i64 r.2)])])) (q2H c) .normal (q4L c)
abbrev qvL (K : Nat) : Prop := ∀ c r, qe9 K c = some r → ∀ cx : Cx, cx.n = 23 → qvK cx c r
theorem q4M {K} (_ : qvL K) {cx} (hn : cx.n = 23) {q} {r} (h : qe9 (K + 1) (.c0 q) = some r) : qvK cx (.c0 q) r := by
 rw [qe9] at h
 rcases qaY h with ⟨h1, h⟩ | ⟨h1, h⟩
 ·have h := oinj h; subst h
  exact wkR [rg3, .draw [.p, .p, .p, .p, .p, .p, .p] [.op .p], rg2, bTr, rg3] hn (aC h1 <| aN)
 ·rcases qaY h with ⟨h2, h⟩ | ⟨h2, h⟩
  ·have h := oinj h; subst h
   exact wkR [rg3, .draw [.p, .p, .p, .p, .p, .p, .p] [.op .p], rg2, bFa, rg2, bTr, rg6] hn (aC h1 <| aC h2 <| aN)
  ·have h := oinj h; subst h
   exact wkR [rg3, .draw [.p, .p, .p, .p, .p, .p, .p] [.op .p], rg2, bFa, rg2, bFa, rg4] hn (aC h1 <| aC h2 <| aN)
theorem qtL : ∀ K : Nat, qvL K
 | 0, c, r, h => by rw [qe9] at h; cases h
 | K + 1, .c0 .., r, h => fun cx hn => q4M (qtL K) hn h
theorem qzX {K : Nat} {q : zbK} {r : (Int × Int)} (h : qjF K q = some r) : qc0 prog 66 [(TV.agg (qkW q))] (TV.tup [(false, [(T.int .i64 r.1)]), (false, [(T.int .i64 r.2)])]) :=
 qbG [[0], [0]] (by kernel_rfl) (by simp) fun cx hn => qtL K (.c0 q) r h cx hn
open Go.Proofs.Try (prog)
inductive qpP where
 | c0 (num : qaG) (den : qaG)
def qk4 : Nat → qpP → Option (qaK × Int)
 | 0, _ => none
 | K + 1, .c0 num den =>
  (qjX K den.Abs).bind fun x1 =>
  bif x1 then
   some ((qaK.mk (qaG.mk false []) []), (2 : Int))
  else
   bif den.Neg then
    (q0L K num).bind fun x5 =>
    (qlG K x5 den.Abs).bind fun x7 =>
    some (x7, (0 : Int))
   else
    (qlG K num den.Abs).bind fun x5 =>
    some (x5, (0 : Int))
def q0A (K : Nat) (num : qaG) (den : qaG) : Option (qaK × Int) := qk4 K (.c0 num den)
noncomputable def q9J : Code := qcK prog 70
noncomputable def zcJ : qpP → List Fr
 | .c0 .. => [.code q9J]
def zfN : qpP → St
 | .c0 num den => St.init [(TV.agg (qaD num)), (TV.agg (qaD den))]
def q3G (cx : Cx) (c : qpP) (r : (qaK × Int)) : Prop := Wk prog cx (qd0 prog 70 [[0,1,1], [0]] (TV.tup [(true, qaC r.1), (false, [(T.int .i64 r.2)])])) (zcJ c) .normal (zfN c)
abbrev q3H (K : Nat) : Prop := ∀ c r, qk4 K c = some r → ∀ cx : Cx, cx.n = 18 → q3G cx c r
theorem zfO {K} (_ : q3H K) {cx} (hn : cx.n = 18) {num den} {r} (h : qk4 (K + 1) (.c0 num den) = some r) : q3G cx (.c0 num den) r := by
 rw [qk4] at h
 obtain ⟨x1, h2, h⟩ := qaV h
 rcases qaY h with ⟨h3, h⟩ | ⟨h3, h⟩
 ·have h := oinj h; subst h
  exact wkR [rg4, rgG [oo, oo, opI (.call [[1]] [(TV.c (T.sl 1 (den.Abs.map qaE)))] (TV.c (T.bool x1)))], bTr, rg3] hn (aC (qdR h2) <| aC h3 <| aN)
 ·rcases qaY h with ⟨h4, h⟩ | ⟨h4, h⟩
  ·obtain ⟨x5, h6, h⟩ := qaV h
   obtain ⟨x7, h8, h⟩ := qaV h
   have h := oinj h; subst h
   exact wkR [rg4, rgG [oo, oo, opI (.call [[1]] [(TV.c (T.sl 1 (den.Abs.map qaE)))] (TV.c (T.bool x1)))], bFa, rg2, bTr, rgG [oo, opI (.call [[0,1]] [(TV.agg (qaD num))] (TV.agg (qaD x5))), oo], rgG [oo, oo, oo, opI (.call [[0,1], [1]] [(TV.agg (qaD x5)), (TV.c (T.sl 1 (den.Abs.map qaE)))] (TV.agg (qaC x7))), oo, oo]] hn (aC (qdR h2) <| aC h3 <| aC h4 <| aC (zdF h6) <| aC (qkL h8) <| aN)
  ·obtain ⟨x5, h6, h⟩ := qaV h
   have h := oinj h; subst h
   exact wkR [rg4, rgG [oo, oo, opI (.call [[1]] [(TV.c (T.sl 1 (den.Abs.map qaE)))] (TV.c (T.bool x1)))], bFa, rg2, bFa, rgG [oo, oo, oo, opI (.call [[0,1], [1]] [(TV.agg (qaD num)), (TV.c (T.sl 1 (den.Abs.map qaE)))] (TV.agg (qaC x5))), oo, oo]] hn (aC (qdR h2) <| aC h3 <| aC h4 <| aC (qkL h6) <| aN)
theorem qy5 : ∀ K : Nat, q3H K
 | 0, c, r, h => by rw [qk4] at h; cases h
 | K + 1, .c0 .., r, h => fun cx hn => zfO (qy5 K) hn h
theorem q7Q {K : Nat} {num : qaG} {den : qaG} {r : (qaK × Int)} (h : q0A K num den = some r) : qc0 prog 70 [(TV.agg (qaD num)), (TV.agg (qaD den))] (TV.tup [(true, qaC r.1), (false, [(T.int .i64 r.2)])]) :=
 qbG [[0,1,1], [0]] (by kernel_rfl) (by simp) fun cx hn => qy5 K (.c0 num den) r h cx hn
open Go.Proofs.Try (prog)
inductive qlS where
 | c0 (q : zbK)
def qhG : Nat → qlS → Option qaK
 | 0, _ => none
 | K + 1, .c0 q =>
  (qjF K q).bind fun x1 =>
  (qk9 K x1.1).bind fun x3 =>
  (qk9 K x1.2).bind fun x5 =>
  (q0A K x3 x5).bind fun x7 =>
  some x7.1
def qgT (K : Nat) (q : zbK) : Option qaK := qhG K (.c0 q)
noncomputable def q2L : Code := qcK prog 18
noncomputable def q4P : qlS → List Fr
 | .c0 .. => [.code q2L]
def q5Z : qlS → St
 | .c0 q => St.init [(TV.agg (qkW q))]
def qxD (cx : Cx) (c : qlS) (r : qaK) : Prop := Wk prog cx (qd0 prog 18 [[0,1,1]] (TV.agg (qaC r))) (q4P c) .normal (q5Z c)
abbrev qxE (K : Nat) : Prop := ∀ c r, qhG K c = some r → ∀ cx : Cx, cx.n = 21 → qxD cx c r
theorem q50 {K} (_ : qxE K) {cx} (hn : cx.n = 21) {q} {r} (h : qhG (K + 1) (.c0 q) = some r) : qxD cx (.c0 q) r := by
 rw [qhG] at h
 obtain ⟨x1, h2, h⟩ := qaV h
 obtain ⟨x3, h4, h⟩ := qaV h
 obtain ⟨x5, h6, h⟩ := qaV h
 obtain ⟨x7, h8, h⟩ := qaV h
 have h := oinj h; subst h
 exact wkR [rg2, rgG [oo, opI (.call [[0,0]] [(TV.agg (qkW q))] (TV.tup [(false, [(T.int .i64 x1.1)]), (false, [(T.int .i64 x1.2)])])), oo, oo, oo, oo, oo], rgG [oo, opI (.call [[0]] [(ti .i64 x1.1)] (TV.agg (qaD x3))), oo, opI (.call [[0]] [(ti .i64 x1.2)] (TV.agg (qaD x5))), opI (.call [[0,1], [0,1]] [(TV.agg (qaD x3)), (TV.agg (qaD x5))] (TV.tup [(true, qaC x7.1), (false, [(T.int .i64 x7.2)])])), oo, oo, oo, oo, oo, oo], rg2] hn (aC (qzX h2) <| aC (qgH h4) <| aC (qgH h6) <| aC (q7Q h8) <| aN)
theorem quV : ∀ K : Nat, qxE K
 | 0, c, r, h => by rw [qhG] at h; cases h
 | K + 1, .c0 .., r, h => fun cx hn => q50 (quV K) hn h
theorem qdD {K : Nat} {q : zbK} {r : qaK} (h : qgT K q = some r) : qc0 prog 18 [(TV.agg (qkW q))] (TV.agg (qaC r)) :=
 qbG [[0,1,1]] (by kernel_rfl) (by simp) fun cx hn => quV K (.c0 q) r h cx hn
def lsQ (a b : Rat) : Rat := if b < a then b else a
def gtQ (a b : Rat) : Rat := if a < b then b else a
def iv (a b : Rat) : qaJ := ⟨mkQ a, mkQ b⟩
theorem q4Y (a : Rat) : lsQ a a = a := by unfold lsQ; split <;> rfl
theorem q4Z (a : Rat) : gtQ a a = a := by unfold gtQ; split <;> rfl
theorem q45 {k : Nat} {a b : Rat} (ha : Sz k a) (hb : Sz k b) : Sz k (lsQ a b) := by unfold lsQ; split <;> assumption
theorem q46 {k : Nat} {a b : Rat} (ha : Sz k a) (hb : Sz k b) : Sz k (gtQ a b) := by unfold gtQ; split <;> assumption
theorem zwB (a b : Rat) : decide ((0 : Int) < cmpQ a b) = decide (b < a) := by
  unfold cmpQ
  by_cases h : a < b
  · rw [if_pos h]
    have : ¬ b < a := Rat.not_lt.2 (Rat.le_of_lt h)
    simp [this]
  · rw [if_neg h]
    by_cases h2 : b < a
    · rw [if_pos h2]; simp [h2]
    · rw [if_neg h2]; simp [h2]
theorem zwC (a b : Rat) : decide (cmpQ a b < (0 : Int)) = decide (a < b) := by
  unfold cmpQ
  by_cases h : a < b
  · rw [if_pos h]; simp [h]
  · rw [if_neg h]
    by_cases h2 : b < a
    · rw [if_pos h2]; simp [h]
    · rw [if_neg h2]; simp [h]
theorem zuE (a : Rat) : cmpQ a a = 0 := by
  unfold cmpQ
  rw [if_neg (Rat.lt_irrefl), if_neg (Rat.lt_irrefl)]
theorem qpV {i j : Nat} {a b : Rat} (ha : Sz i a) (hb : Sz j b) (h : i + j ≤ 1000000000) : Ev (fun K => qlW K (mkQ a) (mkQ b)) (mkQ (lsQ a b)) := by
  refine qaT ?_
  simp only [qlW, qkB]
  refine qaP (qwD ha hb h) ?_
  rw [zwB]
  unfold lsQ
  by_cases e : b < a
  · rw [if_pos e]; exact ev_t (by simpa using e) (qa3 _)
  · rw [if_neg e]; exact ev_f (by simpa using e) (qa3 _)
theorem ql1 {i j : Nat} {a b : Rat} (ha : Sz i a) (hb : Sz j b) (h : i + j ≤ 1000000000) : Ev (fun K => qiC K (mkQ a) (mkQ b)) (mkQ (gtQ a b)) := by
  refine qaT ?_
  simp only [qiC, qhE]
  refine qaP (qwD ha hb h) ?_
  rw [zwC]
  unfold gtQ
  by_cases e : a < b
  · rw [if_pos e]; exact ev_t (by simpa using e) (qa3 _)
  · rw [if_neg e]; exact ev_f (by simpa using e) (qa3 _)
theorem qlM {k : Nat} {a b : Rat} (ha : Sz k a) (hb : Sz k b) (h : k ≤ 500000000) : Ev (fun K => qiW K (iv a b)) (iv (lsQ a b) (gtQ a b)) := by
  refine qaT ?_
  simp only [qiW, qjD, iv]
  exact qaP (qpV ha hb (by omega)) (qaP (qlH (q45 ha hb) (by omega)) (qaP (ql1 ha hb (by omega)) (qaP (qlH (q46 ha hb) (by omega)) (qa3 _))))
theorem zc7 {k : Nat} {a : Rat} (ha : Sz k a) (h : k ≤ 500000000) : Ev (fun K => quB K (mkQ a)) (iv a a) := by
  refine qaT ?_
  simp only [quB, qkC]
  exact qaP (qlH ha (by omega)) (qaP (qlH ha (by omega)) (qa3 _))
theorem zi1 {i j : Nat} {a b c d : Rat} (ha : Sz i a) (hb : Sz i b) (hc : Sz j c) (hd : Sz j d) (h : i + j ≤ 500000000) :
    Ev (fun K => quQ K (iv a b) (iv c d)) (iv (lsQ a b + lsQ c d) (gtQ a b + gtQ c d)) := by
  refine qaT ?_
  simp only [quQ, qmK]
  refine qaP (qlM ha hb (by omega)) (qaP (qlM hc hd (by omega)) ?_)
  exact qaP (qwE (q45 ha hb) (q45 hc hd) (by omega)) (qaP (qwE (q46 ha hb) (q46 hc hd) (by omega)) (qa3 _))
def mlo (a b c d : Rat) : Rat := lsQ (lsQ (lsQ (a * c) (a * d)) (b * c)) (b * d)
def mhi (a b c d : Rat) : Rat := gtQ (gtQ (gtQ (a * c) (a * d)) (b * c)) (b * d)
theorem ziX {i j : Nat} {a b c d : Rat} (ha : Sz i a) (hb : Sz i b) (hc : Sz j c) (hd : Sz j d) (h : i + j ≤ 500000000) :
    Ev (fun K => quP K (iv a b) (iv c d)) (iv (lsQ (mlo a b c d) (mhi a b c d)) (gtQ (mlo a b c d) (mhi a b c d))) := by
  have p0 := q01 ha hc
  have p1 := q01 ha hd
  have p2 := q01 hb hc
  have p3 := q01 hb hd
  refine qaT ?_
  simp only [quP, qeC]
  refine qaP (qe4 ha hc (by omega)) (qaP (qe4 ha hd (by omega)) (qaP (qe4 hb hc (by omega)) (qaP (qe4 hb hd (by omega)) ?_)))
  refine qaT ?_
  simp only [qeC]
  refine ev_t rfl (ev_t rfl (qaP (qpV p0 p1 (by omega)) (qaP (ql1 p0 p1 (by omega)) ?_)))
  refine qaT ?_
  simp only [qeC]
  refine ev_t rfl (ev_f rfl (ev_t rfl (qaP (qpV (q45 p0 p1) p2 (by omega)) (qaP (ql1 (q46 p0 p1) p2 (by omega)) ?_))))
  refine qaT ?_
  simp only [qeC]
  refine ev_t rfl (ev_f rfl (ev_f rfl (ev_t rfl (qaP (qpV (q45 (q45 p0 p1) p2) p3 (by omega)) (qaP (ql1 (q46 (q46 p0 p1) p2) p3 (by omega)) ?_)))))
  refine qaT ?_
  simp only [qeC]
  exact ev_f rfl (qaP (qlM (q45 (q45 (q45 p0 p1) p2) p3) (q46 (q46 (q46 p0 p1) p2) p3) (by omega)) (qa3 _))
theorem zq2 : Sz 1 (1 : Rat) := by refine ⟨?_, ?_⟩ <;> decide
theorem zw2 {k : Nat} {x : Rat} (hx : Sz k x) : ∀ n : Nat, Sz (k * n + 1) (x ^ n)
  | 0 => by rw [Rat.pow_zero]; exact qv3 (by omega) zq2
  | n + 1 => by rw [Rat.pow_succ]; exact qv3 (by rw [Nat.mul_succ]; omega) (q01 (zw2 hx n) hx)
theorem zhC {k : Nat} {x : Rat} (hx : Sz k x) (hk : k ≤ 10000) {e : Nat} (he : 1 ≤ e ∧ e ≤ 4) : Ev (fun K => qhM K (mkQ x) (e : Int)) (mkQ (x ^ e)) := by
  have x2 := q01 hx hx
  have one : Ev (fun K => qjI K (1 : Int)) (mkQ (1 : Rat)) := qqI (z := 1) (by omega)
  have m1 : Ev (fun K => qeM K (mkQ (1 : Rat)) (mkQ x)) (mkQ x) := by
    have := qe4 zq2 hx (by omega)
    rwa [Rat.one_mul] at this
  refine qaT ?_
  simp only [qhM, qbR]
  refine qaP one ?_
  obtain rfl | rfl | rfl | rfl : e = 1 ∨ e = 2 ∨ e = 3 ∨ e = 4 := by omega
  · refine qaT ?_
    simp only [qbR]
    refine ev_t (by decide) (ev_t (by decide) (qaP m1 (ev_f (by decide) ?_)))
    refine qaT ?_
    simp only [qbR]
    refine qaT ?_
    simp only [qbR]
    exact ev_f (by decide) (qeQ (qa3 _) (by rw [Rat.pow_succ, Rat.pow_zero, Rat.one_mul]))
  · refine qaT ?_
    simp only [qbR]
    refine ev_t (by decide) (ev_f (by decide) (ev_t (by decide) (qaP (qe4 hx hx (by omega)) ?_)))
    refine qaT ?_
    simp only [qbR]
    refine qaT ?_
    simp only [qbR]
    have := qe4 zq2 x2 (by omega)
    rw [Rat.one_mul] at this
    refine ev_t (by decide) (ev_t (by decide) (qaP this (ev_f (by decide) ?_)))
    refine qaT ?_
    simp only [qbR]
    refine qaT ?_
    simp only [qbR]
    exact ev_f (by decide) (qeQ (qa3 _) (by rw [Rat.pow_succ, Rat.pow_succ, Rat.pow_zero, Rat.one_mul]))
  · refine qaT ?_
    simp only [qbR]
    refine ev_t (by decide) (ev_t (by decide) (qaP m1 (ev_t (by decide) (qaP (qe4 hx hx (by omega)) ?_))))
    refine qaT ?_
    simp only [qbR]
    refine qaT ?_
    simp only [qbR]
    refine ev_t (by decide) (ev_t (by decide) (qaP (qe4 hx x2 (by omega)) (ev_f (by decide) ?_)))
    refine qaT ?_
    simp only [qbR]
    refine qaT ?_
    simp only [qbR]
    exact ev_f (by decide) (qeQ (qa3 _) (by rw [Rat.pow_succ, Rat.pow_succ, Rat.pow_succ, Rat.pow_zero, Rat.one_mul, Rat.mul_assoc]))
  · refine qaT ?_
    simp only [qbR]
    refine ev_t (by decide) (ev_f (by decide) (ev_t (by decide) (qaP (qe4 hx hx (by omega)) ?_)))
    refine qaT ?_
    simp only [qbR]
    refine qaT ?_
    simp only [qbR]
    refine ev_t (by decide) (ev_f (by decide) (ev_t (by decide) (qaP (qe4 x2 x2 (by omega)) ?_)))
    refine qaT ?_
    simp only [qbR]
    refine qaT ?_
    simp only [qbR]
    have := qe4 zq2 (q01 x2 x2) (by omega)
    rw [Rat.one_mul] at this
    refine ev_t (by decide) (ev_t (by decide) (qaP this (ev_f (by decide) ?_)))
    refine qaT ?_
    simp only [qbR]
    refine qaT ?_
    simp only [qbR]
    exact ev_f (by decide) (qeQ (qa3 _) (by rw [Rat.pow_succ, Rat.pow_succ, Rat.pow_succ, Rat.pow_succ, Rat.pow_zero, Rat.one_mul, ← Rat.mul_assoc]))
theorem ql5 {q : zbK} (h0 : -128 ≤ q.e0 ∧ q.e0 < 128) (h1 : -128 ≤ q.e1 ∧ q.e1 < 128) : ∃ x : Rat, Ev (fun K => qgT K q) (mkQ x) ∧ Sz 1 x := by
  have key : ∀ (n : Int) (d : Nat), -128 ≤ n → n ≤ 128 → 1 ≤ d → d ≤ 128 → Ev (fun K => qjF K q) (n, (d : Int)) → ∃ x : Rat, Ev (fun K => qgT K q) (mkQ x) ∧ Sz 1 x := by
    intro n d hn1 hn2 hd1 hd2 hf
    have e1 : (4294967296 : Int) ^ 1 = 4294967296 := rfl
    refine ⟨mkRat n d, ?_, zm1 (by omega) (by omega) (by omega)⟩
    refine qaT ?_
    simp only [qgT, qhG]
    have sd : Sm (mkI (d : Int)) := qxP (n := 1) (by omega) (by omega) (by omega)
    have sn : Sm (mkI n) := qxP (n := 1) (by omega) (by omega) (by omega)
    have habs : (mkI (d : Int)).Abs = digs (d : Int) := by rw [qrO (by omega)]
    refine qaP hf (qaP (qnH (by omega)) (qaP (qnH (by omega)) (qaP (x := (mkQ (mkRat n d), 0)) ?_ (qa3 _))))
    refine qaT ?_
    simp only [q0A, qk4]
    have hz := qmJ sd.1 (by have := sd.2; omega)
    have hv : val (mkI (d : Int)).Abs = d := by rw [habs, qdN (by omega)]
    rw [hv] at hz
    refine qaP hz (ev_f (by simp; omega) (ev_f (by simp [mkI]) ?_))
    rw [habs]
    have := qqZ sn (d := digs (d : Int)) ⟨qdX _, by have := sd.2; rwa [habs] at this⟩
    rw [qcY, qdN (by omega), Int.toNat_natCast] at this
    exact qaP this (qa3 _)
  have w0 : wI6 q.e0 = q.e0 := qdB (by omega)
  have w1 : wI6 q.e1 = q.e1 := qdB (by omega)
  have w2 : wI6 (0 - q.e0) = -q.e0 := by rw [qdB (by omega)]; omega
  have w3 : wI6 (0 - q.e1) = -q.e1 := by rw [qdB (by omega)]; omega
  by_cases e : q.e1 = 0
  · refine key q.e0 1 (by omega) (by omega) (by omega) (by omega) (qaT ?_)
    simp only [qjF, qe9, w0, w1]
    exact ev_t (by simpa using e) (qa3 _)
  · by_cases e2 : q.e1 < 0
    · refine key (-q.e0) (-q.e1).toNat (by omega) (by omega) (by omega) (by omega) (qaT ?_)
      simp only [qjF, qe9, w0, w1, w2, w3]
      exact ev_f (by simpa using e) (ev_t (by simpa using e2) (qeQ (qa3 _) (by rw [Int.toNat_of_nonneg (by omega)])))
    · refine key q.e0 q.e1.toNat (by omega) (by omega) (by omega) (by omega) (qaT ?_)
      simp only [qjF, qe9, w0, w1]
      exact ev_f (by simpa using e) (ev_f (by simpa using e2) (qeQ (qa3 _) (by rw [Int.toNat_of_nonneg (by omega)])))
open Go.Proofs.Try (prog)
inductive qpL where
 | c0 (p : qaI) (level : Int)
def qk2 : Nat → qpL → Option (List (List T))
 | 0, _ => none
 | _ + 1, .c0 p level =>
  bif (decide (p.Level = level)) then
   bif (decide ((0 : Int) < level)) then
    gd (p.Coefs.length * 64 ≤ 140737488355328) <|
    some p.Coefs
   else
    some ([(qaB p)] : List (List T))
  else
   some ([(qaB p)] : List (List T))
def qr7 (K : Nat) (p : qaI) (level : Int) : Option (List (List T)) := qk2 K (.c0 p level)
noncomputable def q87 : Code := qcK prog 138
noncomputable def zb3 : qpL → List Fr
 | .c0 .. => [.code q87]
def ze6 : qpL → St
 | .c0 p level => St.init [(TV.agg (qaB p)), (ti .i64 level)]
def q26 (cx : Cx) (c : qpL) (r : (List (List T))) : Prop := Wk prog cx (qd0 prog 138 [[4]] (tl 4 r rid)) (zb3 c) .normal (ze6 c)
abbrev q27 (K : Nat) : Prop := ∀ c r, qk2 K c = some r → ∀ cx : Cx, cx.n = 21 → q26 cx c r
theorem ze7 {K} (_ : q27 K) {cx} (hn : cx.n = 21) {p level} {r} (h : qk2 (K + 1) (.c0 p level) = some r) : q26 cx (.c0 p level) r := by
 rw [qk2] at h
 rcases qaY h with ⟨h1, h⟩ | ⟨h1, h⟩
 ·rcases qaY h with ⟨h2, h⟩ | ⟨h2, h⟩
  ·obtain ⟨h3, h⟩ := qb3 h
   have h := oinj h; subst h
   exact wkR [rg2, rgG [oo, oo, oo, oo, oo, .sb 9 true, oo, oo, oo], bTr, .draw [.p, .p, .sl0, .p, .p] [.appT (p.Coefs.map rid), .op .p]] hn (aC h1 <| aC h2 <| aC (rfl : p.Coefs.map rid = p.Coefs.map rid) <| aC ((qeG _ _).symm ▸ h3 : (p.Coefs.map rid).length * 64 ≤ 140737488355328) <| aC ((qeG _ _).symm ▸ room (by decide) h3 : (p.Coefs.map rid).length ≤ maxLen) <| aN)
  ·have h := oinj h; subst h
   exact wkR [rg2, rgG [oo, oo, oo, oo, oo, .sb 9 true, oo, oo, oo], bFa, rgG [oo, opI (.lit (([(qaB p)] : List (List T)).map rid)), oo, .snap 4 (max 0 (0 + 1)) (([(qaB p)] : List (List T)).map rid)]] hn (aC h1 <| aC h2 <| aC (by kernel_rfl : [(T.int .i64 p.Level), (T.bool p.Const.Neg), (T.sl 1 (p.Const.Abs.map qaE)), (T.sl 4 (p.Coefs.map rid))] = (([(qaB p)] : List (List T)).map rid).flatten) <| aC (qfA _ _ _ (by simp) : ((([(qaB p)] : List (List T)).map rid).drop 0).take 1 = ([(qaB p)] : List (List T)).map rid) <| aC (rfl : (max 0 (0 + 1)) = (max 0 (0 + 1))) <| aN)
 ·have h := oinj h; subst h
  exact wkR [rg2, rgG [oo, oo, oo, oo, oo, .sb 9 false, oo, oo, oo], bFa, rgG [oo, opI (.lit (([(qaB p)] : List (List T)).map rid)), oo, .snap 4 (max 0 (0 + 1)) (([(qaB p)] : List (List T)).map rid)]] hn (aC h1 <| aC rf <| aC (by kernel_rfl : [(T.int .i64 p.Level), (T.bool p.Const.Neg), (T.sl 1 (p.Const.Abs.map qaE)), (T.sl 4 (p.Coefs.map rid))] = (([(qaB p)] : List (List T)).map rid).flatten) <| aC (qfA _ _ _ (by simp) : ((([(qaB p)] : List (List T)).map rid).drop 0).take 1 = ([(qaB p)] : List (List T)).map rid) <| aC (rfl : (max 0 (0 + 1)) = (max 0 (0 + 1))) <| aN)
theorem qyZ : ∀ K : Nat, q27 K
 | 0, c, r, h => by rw [qk2] at h; cases h
 | K + 1, .c0 .., r, h => fun cx hn => ze7 (qyZ K) hn h
theorem qwA {K : Nat} {p : qaI} {level : Int} {r : (List (List T))} (h : qr7 K p level = some r) : qc0 prog 138 [(TV.agg (qaB p)), (ti .i64 level)] (tl 4 r rid) :=
 qbG [[4]] (by kernel_rfl) (by simp) fun cx hn => qyZ K (.c0 p level) r h cx hn
open Go.Proofs.Try (prog)
inductive qqU where
 | c0 (p : qaI)
def ql9 : Nat → qqU → Option Bool
 | 0, _ => none
 | K + 1, .c0 p =>
  bif (decide (p.Level = (0 : Int))) then
   (qhO K p.Const).bind fun x2 =>
   some (decide (x2 = (0 : Int)))
  else
   some false
def qrR (K : Nat) (p : qaI) : Option Bool := ql9 K (.c0 p)
noncomputable def zbX : Code := qcK prog 75
noncomputable def zeW : qqU → List Fr
 | .c0 .. => [.code zbX]
def zhJ : qqU → St
 | .c0 p => St.init [(TV.agg (qaB p))]
def q55 (cx : Cx) (c : qqU) (r : Bool) : Prop := Wk prog cx (qd0 prog 75 [[0]] (TV.c (T.bool r))) (zeW c) .normal (zhJ c)
abbrev q56 (K : Nat) : Prop := ∀ c r, ql9 K c = some r → ∀ cx : Cx, cx.n = 12 → q55 cx c r
theorem zhK {K} (_ : q56 K) {cx} (hn : cx.n = 12) {p} {r} (h : ql9 (K + 1) (.c0 p) = some r) : q55 cx (.c0 p) r := by
 rw [ql9] at h
 rcases qaY h with ⟨h1, h⟩ | ⟨h1, h⟩
 ·obtain ⟨x2, h3, h⟩ := qaV h
  have h := oinj h; subst h
  exact wkR [rg2, rgG [oo, oo, oo, oo, .sb 6 true, oo, oo, opI (.call [[0,1]] [(TV.agg (qaD p.Const))] (ti .i64 x2)), oo, oo, oo]] hn (aC h1 <| aC (qcD h3) <| aN)
 ·have h := oinj h; subst h
  exact wkR [rg2, rgG [oo, oo, oo, oo, .sb 6 false, oo, oo, oo, oo, oo, oo]] hn (aC h1 <| aN)
theorem q03 : ∀ K : Nat, q56 K
 | 0, c, r, h => by rw [ql9] at h; cases h
 | K + 1, .c0 .., r, h => fun cx hn => zhK (q03 K) hn h
theorem qr1 {K : Nat} {p : qaI} {r : Bool} (h : qrR K p = some r) : qc0 prog 75 [(TV.agg (qaB p))] (TV.c (T.bool r)) :=
 qbG [[0]] (by kernel_rfl) (by simp) fun cx hn => q03 K (.c0 p) r h cx hn
open Go.Proofs.Try (prog)
inductive qqW where
 | c0 (level : Int) (list : (List (List T)))
 | c1 (b4 : qaI) (level : Int) (list : (List (List T))) (n : Int)
 | c2 (b4 : qaI) (level : Int) (list : (List (List T))) (n : Int)
def qdP : Nat → qqW → Option qaI
 | 0, _ => none
 | K + 1, .c0 level list =>
  qdP K (.c1 (qaI.mk (0 : Int) (qaG.mk false []) []) level list (list.length : Int))
 | K + 1, .c1 b4 level list n =>
  bif (decide ((0 : Int) < n)) then
   (gid qcA list (wI6 (n - (1 : Int)))).bind fun x2 =>
   (qrR K x2).bind fun x4 =>
   bif x4 then
    qdP K (.c1 b4 level list (wI6 (n - (1 : Int))))
   else
    qdP K (.c2 b4 level list n)
  else
   qdP K (.c2 b4 level list n)
 | _ + 1, .c2 _ level list n =>
  bif (decide (n = (0 : Int))) then
   some (qaI.mk (0 : Int) (qaG.mk false []) [])
  else
   bif (decide (n = (1 : Int))) then
    (gid qcA list (0 : Int)).bind fun x3 =>
    some x3
   else
    gd (0 ≤ n ∧ 0 ≤ n ∧ n.toNat ≤ n.toNat ∧ n.toNat ≤ list.length) <|
    some (qaI.mk level (qaG.mk false []) (list.take n.toNat))
def qrS (K : Nat) (level : Int) (list : (List (List T))) : Option qaI := qdP K (.c0 level list)
noncomputable def qj0 : Code := qcK prog 136
noncomputable def ze5 : qqW → List Fr
 | .c0 .. => [.code qj0]
 | .c1 .. => [.code (.loop (atC qj0 [1,1,0,0,0])), .blk 0, .code (atC qj0 [1,1,1])]
 | .c2 .. => [.code (atC qj0 [1,1,1,0,0]), .code (atC qj0 [1,1,1,0,1]), .code (atC qj0 [1,1,1,1])]
def zhM : qqW → St
 | .c0 level list => St.init [(ti .i64 level), (tl 4 list rid)]
 | .c1 b4 level list n => ⟨[(0, vi .i64 level), (1, vl 4 list rid), (4, .c (C.ptr 4 0)), (5, vi .i64 n)], [(4, .var ((qaB b4).map C.t))], []⟩
 | .c2 b4 level list n => ⟨[(0, vi .i64 level), (1, vl 4 list rid), (4, .c (C.ptr 4 0)), (5, vi .i64 n)], [(4, .var ((qaB b4).map C.t))], []⟩
def qt2 (cx : Cx) (c : qqW) (r : qaI) : Prop := Wk prog cx (qd0 prog 136 [[0,0,1,4]] (TV.agg (qaB r))) (ze5 c) .normal (zhM c)
abbrev qt3 (K : Nat) : Prop := ∀ c r, qdP K c = some r → ∀ cx : Cx, cx.n = 34 → qt2 cx c r
theorem zhP {K} (ih : qt3 K) {cx} (hn : cx.n = 34) {level list} {r} (h : qdP (K + 1) (.c0 level list) = some r) : qt2 cx (.c0 level list) r := by
 rw [qdP] at h
 exact wkG [rg1, rgG [oo, opI (.ln (list.length : Int)), oo], .pre [.tellB 4 [0,0,1,4], .keep [0,1,4,5] [4]]] hn (aC (qdF list rid) <| aN) (ih _ _ h cx hn)
theorem zhO {K} (ih : qt3 K) {cx} (hn : cx.n = 34) {b4 level list n} {r} (h : qdP (K + 1) (.c1 b4 level list n) = some r) : qt2 cx (.c1 b4 level list n) r := by
 rw [qdP] at h
 rcases qaY h with ⟨h1, h⟩ | ⟨h1, h⟩
 ·obtain ⟨x2, h3, h⟩ := qaV h
  obtain ⟨x4, h5, h⟩ := qaV h
  rcases qaY h with ⟨h6, h⟩ | ⟨h6, h⟩
  ·exact wkG [.go, rgG [oo, oo, oo, .sb 10 true, oo, oo, oo, opI (.ix (qaB x2)), oo, opI (.call [[0,0,1,4]] [(TV.agg (qaB x2))] (TV.c (T.bool x4))), oo], bTr, rg3, .pre [.keep [0,1,4,5] [4]]] hn (aC h1 <| aC (qkO h3 : 0 ≤ (wI6 (n - (1 : Int)))) <| aC (qnR @qa9 h3 : (list.map rid)[(wI6 (n - (1 : Int))).toNat]? = some (qaB x2)) <| aC (qr1 h5) <| aC h6 <| aN) (ih _ _ h cx hn)
  ·exact wkG [.go, rgG [oo, oo, oo, .sb 10 true, oo, oo, oo, opI (.ix (qaB x2)), oo, opI (.call [[0,0,1,4]] [(TV.agg (qaB x2))] (TV.c (T.bool x4))), oo], bFa, .pre [.keep [0,1,4,5] [4]]] hn (aC h1 <| aC (qkO h3 : 0 ≤ (wI6 (n - (1 : Int)))) <| aC (qnR @qa9 h3 : (list.map rid)[(wI6 (n - (1 : Int))).toNat]? = some (qaB x2)) <| aC (qr1 h5) <| aC h6 <| aN) (ih _ _ h cx hn)
 ·exact wkG [.go, rgG [oo, oo, oo, .sb 10 false, oo, oo, oo, oo, oo, oo, oo], bFa, .pre [.keep [0,1,4,5] [4]]] hn (aC h1 <| aC rf <| aN) (ih _ _ h cx hn)
theorem zhN {K} (_ : qt3 K) {cx} (hn : cx.n = 34) {b4 level list n} {r} (h : qdP (K + 1) (.c2 b4 level list n) = some r) : qt2 cx (.c2 b4 level list n) r := by
 rw [qdP] at h
 rcases qaY h with ⟨h1, h⟩ | ⟨h1, h⟩
 ·have h := oinj h; subst h
  exact wkR [rg2, bTr, rg2] hn (aC h1 <| aN)
 ·rcases qaY h with ⟨h2, h⟩ | ⟨h2, h⟩
  ·obtain ⟨x3, h4, h⟩ := qaV h
   have h := oinj h; subst h
   exact wkR [rg2, bFa, rg2, bTr, rgG [oo, opI (.ix (qaB x3)), oo, oo]] hn (aC h1 <| aC h2 <| aC (qkO h4 : 0 ≤ (0 : Int)) <| aC (qnR @qa9 h4 : (list.map rid)[(0 : Int).toNat]? = some (qaB x3)) <| aN)
  ·obtain ⟨h3, h⟩ := qb3 h
   have h := oinj h; subst h
   exact wkR [rg2, bFa, rg2, bFa, rgG [oo, oo, oo, oo, opI (.slM 0 n.toNat n.toNat ((list.take n.toNat).map rid)), oo, oo]] hn (aC h1 <| aC h2 <| aC r0 <| aC (⟨h3.1, rfl⟩ : 0 ≤ n ∧ n.toNat = n.toNat) <| aC (⟨h3.2.1, rfl⟩ : 0 ≤ n ∧ n.toNat = n.toNat) <| aC (Nat.zero_le _ : 0 ≤ n.toNat) <| aC h3.2.2.1 <| aC (znM _ h3.2.2.2 : n.toNat ≤ (list.map rid).length) <| aC (zg7 _ _ _ : ((list.map rid).take n.toNat).drop 0 = (list.take n.toNat).map rid) <| aN)
theorem qqV : ∀ K : Nat, qt3 K
 | 0, c, r, h => by rw [qdP] at h; cases h
 | K + 1, .c0 .., r, h => fun cx hn => zhP (qqV K) hn h
 | K + 1, .c1 .., r, h => fun cx hn => zhO (qqV K) hn h
 | K + 1, .c2 .., r, h => fun cx hn => zhN (qqV K) hn h
theorem qxR {K : Nat} {level : Int} {list : (List (List T))} {r : qaI} (h : qrS K level list = some r) : qc0 prog 136 [(ti .i64 level), (tl 4 list rid)] (TV.agg (qaB r)) :=
 qbG [[0,0,1,4]] (by kernel_rfl) (by simp) fun cx hn => qqV K (.c0 level list) r h cx hn
open Go.Proofs.Try (prog)
inductive qr3 where
 | c0 (lists : (List (List (List T))))
 | c1 (t8 : (List (List (List T)))) (t9 : Int) (t10 : Int)
 | c2 (t8 : (List (List (List T)))) (t9 : Int) (t10 : Int) (t14 : (List (List T))) (t15 : Int) (t16 : Int)
 | c3 (r37 : (List (List T))) (t8 : (List (List (List T)))) (t9 : Int) (t10 : Int) (t14 : (List (List T))) (t15 : Int) (t16 : Int)
 | c4 (r37 : (List (List T))) (t8 : (List (List (List T)))) (t9 : Int) (t10 : Int) (t14 : (List (List T))) (t15 : Int) (t16 : Int)
 | c5 (r37 : (List (List T))) (t8 : (List (List (List T)))) (t9 : Int) (t10 : Int)
def qbO (A : qaI → qaI → Option qaI) : Nat → qr3 → Option (List (List T))
 | 0, _ => none
 | K + 1, .c0 lists =>
  qbO A K (.c1 lists (lists.length : Int) (0 : Int))
 | K + 1, .c1 t8 t9 t10 =>
  bif (decide (t10 < t9)) then
   (gi t8 t10).bind fun x2 =>
   qbO A K (.c2 t8 t9 t10 x2 (x2.length : Int) (0 : Int))
  else
   some []
 | K + 1, .c2 t8 t9 t10 t14 t15 t16 =>
  bif (decide (t16 < t15)) then
   (gid qcA t14 t16).bind fun x2 =>
   bif (decide (t16 < (0 : Int))) then
    none
   else
    qbO A K (.c3 ([(qaB x2)] : List (List T)) t8 t9 t10 t14 t15 t16)
  else
   qbO A K (.c1 t8 t9 (wI6 (t10 + (1 : Int))))
 | K + 1, .c3 r37 t8 t9 t10 t14 t15 t16 =>
  qbO A K (.c4 r37 t8 t9 t10 t14 t15 (wI6 (t16 + (1 : Int))))
 | K + 1, .c4 r37 t8 t9 t10 t14 t15 t16 =>
  bif (decide (t16 < t15)) then
   (gid qcA t14 t16).bind fun x2 =>
   bif (decide (t16 < ((r37.length : Nat) : Int))) then
    (gid qcA r37 t16).bind fun x5 =>
    (A x5 x2).bind fun x7 =>
    (gid qcA r37 t16).bind fun _ =>
    qbO A K (.c3 (r37.set (t16.toNat) (qaB x7)) t8 t9 t10 t14 t15 t16)
   else
    gd ((r37 ++ ([(qaB x2)] : List (List T))).length * 64 ≤ 140737488355328) <|
    qbO A K (.c3 (r37 ++ ([(qaB x2)] : List (List T))) t8 t9 t10 t14 t15 t16)
  else
   qbO A K (.c5 r37 t8 t9 (wI6 (t10 + (1 : Int))))
 | K + 1, .c5 r37 t8 t9 t10 =>
  bif (decide (t10 < t9)) then
   (gi t8 t10).bind fun x2 =>
   qbO A K (.c4 r37 t8 t9 t10 x2 (x2.length : Int) (0 : Int))
  else
   some r37
def qz7 (K : Nat) (A : qaI → qaI → Option qaI) (lists : (List (List (List T)))) : Option (List (List T)) := qbO A K (.c0 lists)
noncomputable def qdL : Code := qcK prog 137
noncomputable def zhL : qr3 → List Fr
 | .c0 .. => [.code qdL]
 | .c1 .. => [.code (.loop (atC qdL [1,1,0,1,0,0])), .blk 0, .code (atC qdL [1,1,1])]
 | .c2 .. => [.code (.loop (atC qdL [1,1,0,1,0,0,1,1,0,0,1,1,0,0])), .blk 2, .blk 1, .code (atC qdL [1,1,0,1,0,0,1,1,1]), .lp (atC qdL [1,1,0,1,0,0]), .blk 0, .code (atC qdL [1,1,1])]
 | .c3 .. => [.code (atC qdL [1,1,0,1,0,0,1,1,0,0,1,1,0,0,1,1,1]), .lp (atC qdL [1,1,0,1,0,0,1,1,0,0,1,1,0,0]), .blk 2, .blk 1, .code (atC qdL [1,1,0,1,0,0,1,1,1]), .lp (atC qdL [1,1,0,1,0,0]), .blk 0, .code (atC qdL [1,1,1])]
 | .c4 .. => [.code (.loop (atC qdL [1,1,0,1,0,0,1,1,0,0,1,1,0,0])), .blk 2, .blk 1, .code (atC qdL [1,1,0,1,0,0,1,1,1]), .lp (atC qdL [1,1,0,1,0,0]), .blk 0, .code (atC qdL [1,1,1])]
 | .c5 .. => [.code (.loop (atC qdL [1,1,0,1,0,0])), .blk 0, .code (atC qdL [1,1,1])]
def zkE : qr3 → St
 | .c0 lists => St.init [(tl 1 lists qdS)]
 | .c1 t8 t9 t10 => ⟨[(3, .c (C.nil)), (8, vl 1 t8 qdS), (9, vi .i64 t9), (10, vi .i64 t10)], [], []⟩
 | .c2 t8 t9 t10 t14 t15 t16 => ⟨[(3, .c (C.nil)), (8, vl 1 t8 qdS), (9, vi .i64 t9), (10, vi .i64 t10), (14, vl 4 t14 rid), (15, vi .i64 t15), (16, vi .i64 t16)], [], []⟩
 | .c3 r37 t8 t9 t10 t14 t15 t16 => ⟨[(3, .c (C.row 37 0 r37.length)), (8, vl 1 t8 qdS), (9, vi .i64 t9), (10, vi .i64 t10), (14, vl 4 t14 rid), (15, vi .i64 t15), (16, vi .i64 t16)], [(37, .row 54 4 (r37.map rid) 0)], []⟩
 | .c4 r37 t8 t9 t10 t14 t15 t16 => ⟨[(3, .c (C.row 37 0 r37.length)), (8, vl 1 t8 qdS), (9, vi .i64 t9), (10, vi .i64 t10), (14, vl 4 t14 rid), (15, vi .i64 t15), (16, vi .i64 t16)], [(37, .row 54 4 (r37.map rid) 0)], []⟩
 | .c5 r37 t8 t9 t10 => ⟨[(3, .c (C.row 37 0 r37.length)), (8, vl 1 t8 qdS), (9, vi .i64 t9), (10, vi .i64 t10)], [(37, .row 54 4 (r37.map rid) 0)], []⟩
def qm4 (cx : Cx) (c : qr3) (r : (List (List T))) : Prop := Wk prog cx (qd0 prog 137 [[4]] (tl 4 r rid)) (zhL c) .normal (zkE c)
abbrev qm5 (A : qaI → qaI → Option qaI) (K : Nat) : Prop := ∀ c r, qbO A K c = some r → ∀ cx : Cx, cx.n = 41 → qm4 cx c r
theorem zkL {A : qaI → qaI → Option qaI} (_hA : ∀ y0 y1 r, A y0 y1 = some r → qc0 prog 91 [(TV.agg (qaB y0)), (TV.agg (qaB y1))] (TV.agg (qaB r))) {K} (ih : qm5 A K) {cx} (hn : cx.n = 41) {lists} {r} (h : qbO A (K + 1) (.c0 lists) = some r) : qm4 cx (.c0 lists) r := by
 rw [qbO] at h
 exact wkG [rg1, rg1, rgG [oo, opI (.ln (lists.length : Int)), oo], .pre [.keep [3,8,9,10] []]] hn (aC (qdF lists qdS) <| aN) (ih _ _ h cx hn)
theorem zkK {A : qaI → qaI → Option qaI} (_hA : ∀ y0 y1 r, A y0 y1 = some r → qc0 prog 91 [(TV.agg (qaB y0)), (TV.agg (qaB y1))] (TV.agg (qaB r))) {K} (ih : qm5 A K) {cx} (hn : cx.n = 41) {t8 t9 t10} {r} (h : qbO A (K + 1) (.c1 t8 t9 t10) = some r) : qm4 cx (.c1 t8 t9 t10) r := by
 rw [qbO] at h
 rcases qaY h with ⟨h1, h⟩ | ⟨h1, h⟩
 ·obtain ⟨x2, h3, h⟩ := qaV h
  exact wkG [.go, rg1, bTr, rgG [opI (.ix (qdS x2)), oo, oo], rgG [oo, opI (.ln (x2.length : Int)), oo], .pre [.keep [3,8,9,10,14,15,16] []]] hn (aC h1 <| aC (qb2 h3) <| aC (qfK qdS h3) <| aC (qdF x2 rid) <| aN) (ih _ _ h cx hn)
 ·have h := oinj h; subst h
  exact wkR [.go, rg1, bFa, rg2] hn (aC h1 <| aN)
theorem zkJ {A : qaI → qaI → Option qaI} (_hA : ∀ y0 y1 r, A y0 y1 = some r → qc0 prog 91 [(TV.agg (qaB y0)), (TV.agg (qaB y1))] (TV.agg (qaB r))) {K} (ih : qm5 A K) {cx} (hn : cx.n = 41) {t8 t9 t10 t14 t15 t16} {r} (h : qbO A (K + 1) (.c2 t8 t9 t10 t14 t15 t16) = some r) : qm4 cx (.c2 t8 t9 t10 t14 t15 t16) r := by
 rw [qbO] at h
 rcases qaY h with ⟨h1, h⟩ | ⟨h1, h⟩
 ·obtain ⟨x2, h3, h⟩ := qaV h
  rcases qaY h with ⟨h4, h⟩ | ⟨h4, h⟩
  ·cases h
  ·exact wkG [.go, rg1, bTr, rgG [oo, opI (.ix (qaB x2)), oo, oo, oo, oo], rg4, bFa, rgG [oo, oo, opI (.lit (([(qaB x2)] : List (List T)).map rid)), opI (.appN (([(qaB x2)] : List (List T)).map rid)), oo], .pre [.rl 3 0 ([(qaB x2)] : List (List T)).length, .keep [3,8,9,10,14,15,16] [37]]] hn (aC h1 <| aC (qkO h3 : 0 ≤ t16) <| aC (qnR @qa9 h3 : (t14.map rid)[t16.toNat]? = some (qaB x2)) <| aC h4 <| aC (by kernel_rfl : [(T.int .i64 x2.Level), (T.bool x2.Const.Neg), (T.sl 1 (x2.Const.Abs.map qaE)), (T.sl 4 (x2.Coefs.map rid))] = (([(qaB x2)] : List (List T)).map rid).flatten) <| aC (qfA _ _ _ (by simp) : ((([(qaB x2)] : List (List T)).map rid).drop 0).take 1 = ([(qaB x2)] : List (List T)).map rid) <| aC (by simp : 0 < (([(qaB x2)] : List (List T)).map rid).length) <| aC (by simp : (([(qaB x2)] : List (List T)).map rid).length * 64 ≤ 140737488355328) <| aC (by simp [maxLen] : (([(qaB x2)] : List (List T)).map rid).length ≤ maxLen) <| aC r0 <| aC (by simp : (([(qaB x2)] : List (List T)).map rid).length = ([(qaB x2)] : List (List T)).length) <| aN) (ih _ _ h cx hn)
 ·exact wkG [.go, rg1, bFa, rg2, .pre [.keep [3,8,9,10] []]] hn (aC h1 <| aN) (ih _ _ h cx hn)
theorem zkI {A : qaI → qaI → Option qaI} (_hA : ∀ y0 y1 r, A y0 y1 = some r → qc0 prog 91 [(TV.agg (qaB y0)), (TV.agg (qaB y1))] (TV.agg (qaB r))) {K} (ih : qm5 A K) {cx} (hn : cx.n = 41) {r37 t8 t9 t10 t14 t15 t16} {r} (h : qbO A (K + 1) (.c3 r37 t8 t9 t10 t14 t15 t16) = some r) : qm4 cx (.c3 r37 t8 t9 t10 t14 t15 t16) r := by
 rw [qbO] at h
 exact wkG [rg2, .pre [.rl 3 0 r37.length, .keep [3,8,9,10,14,15,16] [37]]] hn (aC r0 <| aC (lq r37) <| aN) (ih _ _ h cx hn)
theorem zkH {A : qaI → qaI → Option qaI} (hA : ∀ y0 y1 r, A y0 y1 = some r → qc0 prog 91 [(TV.agg (qaB y0)), (TV.agg (qaB y1))] (TV.agg (qaB r))) {K} (ih : qm5 A K) {cx} (hn : cx.n = 41) {r37 t8 t9 t10 t14 t15 t16} {r} (h : qbO A (K + 1) (.c4 r37 t8 t9 t10 t14 t15 t16) = some r) : qm4 cx (.c4 r37 t8 t9 t10 t14 t15 t16) r := by
 rw [qbO] at h
 rcases qaY h with ⟨h1, h⟩ | ⟨h1, h⟩
 ·obtain ⟨x2, h3, h⟩ := qaV h
  rcases qaY h with ⟨h4, h⟩ | ⟨h4, h⟩
  ·obtain ⟨x5, h6, h⟩ := qaV h
   obtain ⟨x7, h8, h⟩ := qaV h
   obtain ⟨x9, h10, h⟩ := qaV h
   exact wkG [.go, rg1, bTr, rgG [oo, opI (.ix (qaB x2)), oo, oo, oo, oo], rg4, bTr, .draw [.mv, .p, .mv, .p, .ir, (.ld (qaB x5)), .p, (.call [[0,0,1,4], [0,0,1,4]] [(TV.agg (qaB x5)), (TV.agg (qaB x2))] (TV.agg (qaB x7)))] [.op .ir, opI (.st (qaB x9) ((r37.set (t16.toNat) (qaB x7)).map rid))], .pre [.rl 3 0 (r37.set (t16.toNat) (qaB x7)).length, .keep [3,8,9,10,14,15,16] [37]]] hn (aC h1 <| aC (qkO h3 : 0 ≤ t16) <| aC (qnR @qa9 h3 : (t14.map rid)[t16.toNat]? = some (qaB x2)) <| aC h4 <| aC (qkO h6 : 0 ≤ t16) <| aC (q8E h6 (by simp) : t16 < ((r37.length : Nat) : Int)) <| aC (q8D @qa9 h6 : (r37.map rid)[(0 + t16.toNat)]? = some (qaB x5)) <| aC (hA _ _ _ h8 : qc0 prog 91 [(TV.agg (qaB x5)), (TV.agg (qaB x2))] (TV.agg (qaB x7))) <| aC (qkO h10 : 0 ≤ t16) <| aC (q8E h10 (by simp) : t16 < ((r37.length : Nat) : Int)) <| aC (q8D @qa9 h10 : (r37.map rid)[(0 + t16.toNat)]? = some (qaB x9)) <| aC (qe3 _ _ (qaB x7) _ : (r37.map rid).set (0 + t16.toNat) (qdE (qaB x9) 0 [(T.int .i64 x7.Level), (T.bool x7.Const.Neg), (T.sl 1 (x7.Const.Abs.map qaE)), (T.sl 4 (x7.Coefs.map rid))]) = (r37.set (t16.toNat) (qaB x7)).map rid) <| aC (Nat.zero_le _ : 0 ≤ (0 + t16.toNat)) <| aC r0 <| aC (by simp : r37.length = (r37.set (t16.toNat) (qaB x7)).length) <| aN) (ih _ _ h cx hn)
  ·obtain ⟨h5, h⟩ := qb3 h
   exact wkG [.go, rg1, bTr, rgG [oo, opI (.ix (qaB x2)), oo, oo, oo, oo], rg4, bFa, .pre [.keep [3,7,8,9,10,14,15,16] [7,37]], rgG [oo, oo, opI (.lit (([(qaB x2)] : List (List T)).map rid)), .appR (([(qaB x2)] : List (List T)).map rid) ((r37 ++ ([(qaB x2)] : List (List T))).map rid), oo], .pre [.rl 3 0 (r37 ++ ([(qaB x2)] : List (List T))).length, .keep [3,8,9,10,14,15,16] [37]]] hn (aC h1 <| aC (qkO h3 : 0 ≤ t16) <| aC (qnR @qa9 h3 : (t14.map rid)[t16.toNat]? = some (qaB x2)) <| aC h4 <| aC (by kernel_rfl : [(T.int .i64 x2.Level), (T.bool x2.Const.Neg), (T.sl 1 (x2.Const.Abs.map qaE)), (T.sl 4 (x2.Coefs.map rid))] = (([(qaB x2)] : List (List T)).map rid).flatten) <| aC (by simp : r37.length = (r37.map rid).length) <| aC (qfA _ _ _ (by simp) : ((([(qaB x2)] : List (List T)).map rid).drop 0).take 1 = ([(qaB x2)] : List (List T)).map rid) <| aC (qxK _ _ _ : r37.map rid ++ ([(qaB x2)] : List (List T)).map rid = (r37 ++ ([(qaB x2)] : List (List T))).map rid) <| aC ((qeG _ _).symm ▸ h5 : ((r37 ++ ([(qaB x2)] : List (List T))).map rid).length * 64 ≤ 140737488355328) <| aC ((qeG _ _).symm ▸ room (by decide) h5 : ((r37 ++ ([(qaB x2)] : List (List T))).map rid).length ≤ maxLen) <| aC r0 <| aC (by simp : ((r37 ++ ([(qaB x2)] : List (List T))).map rid).length = (r37 ++ ([(qaB x2)] : List (List T))).length) <| aN) (ih _ _ h cx hn)
 ·exact wkG [.go, rg1, bFa, rg2, .pre [.rl 3 0 r37.length, .keep [3,8,9,10] [37]]] hn (aC h1 <| aC r0 <| aC (lq r37) <| aN) (ih _ _ h cx hn)
theorem zkG {A : qaI → qaI → Option qaI} (_hA : ∀ y0 y1 r, A y0 y1 = some r → qc0 prog 91 [(TV.agg (qaB y0)), (TV.agg (qaB y1))] (TV.agg (qaB r))) {K} (ih : qm5 A K) {cx} (hn : cx.n = 41) {r37 t8 t9 t10} {r} (h : qbO A (K + 1) (.c5 r37 t8 t9 t10) = some r) : qm4 cx (.c5 r37 t8 t9 t10) r := by
 rw [qbO] at h
 rcases qaY h with ⟨h1, h⟩ | ⟨h1, h⟩
 ·obtain ⟨x2, h3, h⟩ := qaV h
  exact wkG [.go, rg1, bTr, rgG [opI (.ix (qdS x2)), oo, oo], rgG [oo, opI (.ln (x2.length : Int)), oo], .pre [.rl 3 0 r37.length, .keep [3,8,9,10,14,15,16] [37]]] hn (aC h1 <| aC (qb2 h3) <| aC (qfK qdS h3) <| aC (qdF x2 rid) <| aC r0 <| aC (lq r37) <| aN) (ih _ _ h cx hn)
 ·have h := oinj h; subst h
  exact wkR [.go, rg1, bFa, rgG [oo, oo, .snap 2 (max 0 (0 + r37.length)) (r37.map rid)]] hn (aC h1 <| aC (qfA _ _ _ (by simp) : ((r37.map rid).drop 0).take r37.length = r37.map rid) <| aC (rfl : (max 0 (0 + r37.length)) = (max 0 (0 + r37.length))) <| aN)
theorem qkK {A : qaI → qaI → Option qaI} (hA : ∀ y0 y1 r, A y0 y1 = some r → qc0 prog 91 [(TV.agg (qaB y0)), (TV.agg (qaB y1))] (TV.agg (qaB r))) : ∀ K : Nat, qm5 A K
 | 0, c, r, h => by rw [qbO] at h; cases h
 | K + 1, .c0 .., r, h => fun cx hn => zkL hA (qkK hA K) hn h
 | K + 1, .c1 .., r, h => fun cx hn => zkK hA (qkK hA K) hn h
 | K + 1, .c2 .., r, h => fun cx hn => zkJ hA (qkK hA K) hn h
 | K + 1, .c3 .., r, h => fun cx hn => zkI hA (qkK hA K) hn h
 | K + 1, .c4 .., r, h => fun cx hn => zkH hA (qkK hA K) hn h
 | K + 1, .c5 .., r, h => fun cx hn => zkG hA (qkK hA K) hn h
theorem zbZ {K : Nat} {A : qaI → qaI → Option qaI} (hA : ∀ y0 y1 r, A y0 y1 = some r → qc0 prog 91 [(TV.agg (qaB y0)), (TV.agg (qaB y1))] (TV.agg (qaB r))) {lists : (List (List (List T)))} {r : (List (List T))} (h : qz7 K A lists = some r) : qc0 prog 137 [(tl 1 lists qdS)] (tl 4 r rid) :=
 qbG [[4]] (by kernel_rfl) (by simp) fun cx hn => qkK hA K (.c0 lists) r h cx hn
open Go.Proofs.Try (prog)
inductive qr9 where
 | c0 (p : qaI) (q : qaI)
def qgD : Nat → qr9 → Option qaI
 | 0, _ => none
 | K + 1, .c0 p q =>
  bif (decide ((max p.Level q.Level) = (0 : Int))) then
   (qnI K p.Const q.Const).bind fun x2 =>
   some (qaI.mk (0 : Int) x2 [])
  else
   (qr7 K p (max p.Level q.Level)).bind fun x2 =>
   (qr7 K q (max p.Level q.Level)).bind fun x4 =>
   (qz7 K (fun y0 y1 => qgD K (.c0 y0 y1)) ([x2, x4] : List (List (List T)))).bind fun x6 =>
   (qrS K (max p.Level q.Level) x6).bind fun x8 =>
   some x8
def qrK (K : Nat) (p : qaI) (q : qaI) : Option qaI := qgD K (.c0 p q)
noncomputable def ze9 : Code := qcK prog 91
noncomputable def zhQ : qr9 → List Fr
 | .c0 .. => [.code ze9]
def zkM : qr9 → St
 | .c0 p q => St.init [(TV.agg (qaB p)), (TV.agg (qaB q))]
def q88 (cx : Cx) (c : qr9) (r : qaI) : Prop := Wk prog cx (qd0 prog 91 [[0,0,1,4]] (TV.agg (qaB r))) (zhQ c) .normal (zkM c)
abbrev qz8 (K : Nat) : Prop := ∀ c r, qgD K c = some r → ∀ cx : Cx, cx.n = 29 → q88 cx c r
theorem ze8 (K : Nat) (ih : qz8 K) {p : qaI} {q : qaI} {r : qaI} (h : qgD K (.c0 p q) = some r) : qc0 prog 91 [(TV.agg (qaB p)), (TV.agg (qaB q))] (TV.agg (qaB r)) :=
 qbG [[0,0,1,4]] (by kernel_rfl) (by simp) fun cx hn => ih (.c0 p q) r h cx hn
theorem zkO {K} (ih : qz8 K) {cx} (hn : cx.n = 29) {p q} {r} (h : qgD (K + 1) (.c0 p q) = some r) : q88 cx (.c0 p q) r := by
 rw [qgD] at h
 rcases qaY h with ⟨h1, h⟩ | ⟨h1, h⟩
 ·obtain ⟨x2, h3, h⟩ := qaV h
  have h := oinj h; subst h
  exact wkR [rg3, rg6, rg2, bTr, rgG [oo, oo, oo, oo, opI (.call [[0,1], [0,1]] [(TV.agg (qaD p.Const)), (TV.agg (qaD q.Const))] (TV.agg (qaD x2))), oo, oo]] hn (aC h1 <| aC (qkF h3) <| aN)
 ·obtain ⟨x2, h3, h⟩ := qaV h
  obtain ⟨x4, h5, h⟩ := qaV h
  obtain ⟨x6, h7, h⟩ := qaV h
  obtain ⟨x8, h9, h⟩ := qaV h
  have h := oinj h; subst h
  exact wkR [rg3, rg6, rg2, bFa, .draw [.p, .p, .p, (.call [[0,0,1,4], [0]] [(TV.agg (qaB p)), (TV.c (T.int .i64 (max p.Level q.Level)))] (tl 4 x2 rid)), .p, .p, (.call [[0,0,1,4], [0]] [(TV.agg (qaB q)), (TV.c (T.int .i64 (max p.Level q.Level)))] (tl 4 x4 rid)), (.litT (([x2, x4] : List (List (List T))).map qdS)), (.call [[1]] [(TV.c (T.sl 1 (([x2, x4] : List (List (List T))).map qdS)))] (tl 4 x6 rid))] [opI (.call [[0], [4]] [(TV.c (T.int .i64 (max p.Level q.Level))), (tl 4 x6 rid)] (TV.agg (qaB x8))), .op .p]] hn (aC h1 <| aC (qwA h3) <| aC (qwA h5) <| aC (by kernel_rfl : [(T.sl 4 (x2.map rid)), (T.sl 4 (x4.map rid))] = (([x2, x4] : List (List (List T))).map qdS).flatten) <| aC (zbZ (fun _ _ _ h => ze8 K ih h) h7 : qc0 prog 137 [(TV.c (T.sl 1 (([x2, x4] : List (List (List T))).map qdS)))] (tl 4 x6 rid)) <| aC (qxR h9) <| aN)
theorem q29 : ∀ K : Nat, qz8 K
 | 0, c, r, h => by rw [qgD] at h; cases h
 | K + 1, .c0 .., r, h => fun cx hn => zkO (q29 K) hn h
theorem zb4 {K : Nat} {p : qaI} {q : qaI} {r : qaI} (h : qrK K p q = some r) : qc0 prog 91 [(TV.agg (qaB p)), (TV.agg (qaB q))] (TV.agg (qaB r)) :=
 qbG [[0,0,1,4]] (by kernel_rfl) (by simp) fun cx hn => q29 K (.c0 p q) r h cx hn
inductive P where
  | k (c : Int)
  | p (lv : Nat) (cs : List P)
mutual
def P.enc : P → qaI
  | .k c => ⟨0, mkI c, []⟩
  | .p lv cs => ⟨(lv : Int), ⟨false, []⟩, P.raws cs⟩
def P.raws : List P → List (List T)
  | [] => []
  | c :: cs => qaB c.enc :: P.raws cs
end
mutual
def P.ev (ρ : Nat → Rat) : P → Rat
  | .k c => (c : Rat)
  | .p lv cs => P.evs ρ (ρ lv) cs
def P.evs (ρ : Nat → Rat) (x : Rat) : List P → Rat
  | [] => 0
  | c :: cs => c.ev ρ + x * P.evs ρ x cs
end
def P.isZ : P → Bool
  | .k c => decide (c = 0)
  | .p _ _ => false
mutual
def P.C : Nat → P → Prop
  | _, .k _ => True
  | L, .p lv cs => 1 ≤ lv ∧ lv ≤ L ∧ 2 ≤ cs.length ∧ P.Cs (lv - 1) cs ∧ ∀ z, cs.getLast? = some z → z.isZ = false
def P.Cs : Nat → List P → Prop
  | _, [] => True
  | L, c :: cs => P.C L c ∧ P.Cs L cs
end
mutual
def P.W (n m : Nat) : P → Prop
  | .k c => (c.natAbs : Int) < 4294967296 ^ n
  | .p _ cs => cs.length ≤ m ∧ P.Ws n m cs
def P.Ws (n m : Nat) : List P → Prop
  | [] => True
  | c :: cs => P.W n m c ∧ P.Ws n m cs
end
theorem qz9 : ∀ cs : List P, P.raws cs = cs.map fun c => qaB c.enc
  | [] => rfl
  | c :: cs => by rw [P.raws, List.map_cons, qz9 cs]
theorem qeY (cs : List P) : (P.raws cs).length = cs.length := by rw [qz9, List.length_map]
theorem zhX (a b : List P) : P.raws (a ++ b) = P.raws a ++ P.raws b := by simp only [qz9, List.map_append]
theorem ztE (a : List P) (n : Nat) : (P.raws a).take n = P.raws (a.take n) := by simp only [qz9, List.map_take]
theorem znD (a : List P) (n : Nat) (x : P) : (P.raws a).set n (qaB x.enc) = P.raws (a.set n x) := by simp only [qz9, List.map_set]
theorem qjR {cs : List P} {i : Nat} {c : P} (h : cs[i]? = some c) : gid qcA (P.raws cs) (i : Int) = some c.enc := by
  unfold gid gi
  rw [if_pos (by omega), Int.toNat_natCast, qz9, List.getElem?_map, h]
  exact q8N c.enc
theorem quY {L : Nat} : ∀ {cs : List P}, P.Cs L cs → ∀ c ∈ cs, P.C L c
  | [], _, c, h => by cases h
  | x :: cs, hc, c, h => by
    rw [P.Cs] at hc
    rcases List.mem_cons.1 h with rfl | h
    · exact hc.1
    · exact quY hc.2 c h
theorem zwS {L : Nat} : ∀ {cs : List P}, (∀ c ∈ cs, P.C L c) → P.Cs L cs
  | [], _ => by rw [P.Cs]; trivial
  | x :: cs, h => by rw [P.Cs]; exact ⟨h x (by simp), zwS fun c hc => h c (by simp [hc])⟩
theorem qxL {n m : Nat} : ∀ {cs : List P}, P.Ws n m cs → ∀ c ∈ cs, P.W n m c
  | [], _, c, h => by cases h
  | x :: cs, hc, c, h => by
    rw [P.Ws] at hc
    rcases List.mem_cons.1 h with rfl | h
    · exact hc.1
    · exact qxL hc.2 c h
theorem zwN {n m : Nat} : ∀ {cs : List P}, (∀ c ∈ cs, P.W n m c) → P.Ws n m cs
  | [], _ => by rw [P.Ws]; trivial
  | x :: cs, h => by rw [P.Ws]; exact ⟨h x (by simp), zwN fun c hc => h c (by simp [hc])⟩
theorem zuT {L L' : Nat} (h : L ≤ L') : ∀ {p : P}, P.C L p → P.C L' p
  | .k _, _ => by rw [P.C]; trivial
  | .p lv cs, hp => by
    rw [P.C] at hp ⊢
    exact ⟨hp.1, by omega, hp.2.2⟩
mutual
theorem zpS {n n' m : Nat} (h : n ≤ n') : ∀ {p : P}, P.W n m p → P.W n' m p
  | .k c, hp => by rw [P.W] at hp ⊢; have := qxJ h; omega
  | .p lv cs, hp => by rw [P.W] at hp ⊢; exact ⟨hp.1, zuQ h hp.2⟩
theorem zuQ {n n' m : Nat} (h : n ≤ n') : ∀ {cs : List P}, P.Ws n m cs → P.Ws n' m cs
  | [], _ => by rw [P.Ws]; trivial
  | c :: cs, hp => by rw [P.Ws] at hp ⊢; exact ⟨zpS h hp.1, zuQ h hp.2⟩
end
def P.lev : P → Nat
  | .k _ => 0
  | .p lv _ => lv
theorem zpH (p : P) : p.enc.Level = (p.lev : Int) := by cases p <;> rfl
theorem zuU {L : Nat} {p : P} (h : P.C L p) : p.lev ≤ L := by
  cases p with
  | k c => exact Nat.zero_le _
  | p lv cs => rw [P.C] at h; exact h.2.1
theorem qrH {n : Nat} {c : Int} (h : (c.natAbs : Int) < 4294967296 ^ n) (hn : n ≤ 1000000) : Sm (mkI c) := qxP (n := n) (by omega) (by omega) (by omega)
theorem q22 {L n m : Nat} {p : P} (hC : P.C L p) (hW : P.W n m p) (hn : n ≤ 1000000) : Ev (fun K => qrR K p.enc) p.isZ := by
  refine qaT ?_
  simp only [qrR, ql9]
  cases p with
  | k c =>
    rw [P.W] at hW
    have hs := qrH hW hn
    have := qhB hs.1 (by have := hs.2; omega)
    rw [qcY] at this
    refine ev_t rfl (qaP this (qeQ (qa3 _) ?_))
    show decide (cmpI c 0 = 0) = decide (c = 0)
    have := qkI c 0
    congr 1
    apply propext
    omega
  | p lv cs =>
    rw [P.C] at hC
    refine ev_f ?_ (qa3 _)
    show decide ((lv : Int) = 0) = false
    simp; omega
def qu0 : List P → List P
  | [] => []
  | c :: cs => match qu0 cs with
    | [] => if c.isZ then [] else [c]
    | l => c :: l
theorem zdZ : ∀ (l : List P) (z : P), z.isZ = true → qu0 (l ++ [z]) = qu0 l
  | [], z, h => by simp [qu0, h]
  | c :: l, z, h => by simp only [List.cons_append, qu0, zdZ l z h]
theorem q2S : ∀ (l : List P) (z : P), z.isZ = false → qu0 (l ++ [z]) = l ++ [z]
  | [], z, h => by simp [qu0, h]
  | c :: l, z, h => by
    simp only [List.cons_append, qu0, q2S l z h]
    cases hl : l ++ [z] with
    | nil => simp at hl
    | cons a b => rfl
theorem ev_isZ {z : P} (h : z.isZ = true) (ρ : Nat → Rat) : z.ev ρ = 0 := by
  cases z with
  | k c => rw [P.ev]; have : c = 0 := by simpa [P.isZ] using h
           subst this; rfl
  | p lv cs => simp [P.isZ] at h
theorem zqY (ρ : Nat → Rat) (x : Rat) : ∀ l : List P, P.evs ρ x (qu0 l) = P.evs ρ x l
  | [] => rfl
  | c :: l => by
    have ih := zqY ρ x l
    rw [qu0]
    split
    · rename_i h
      rw [h, P.evs] at ih
      split
      · rename_i hz
        rw [P.evs, P.evs, ← ih, ev_isZ hz]; grind
      · rw [P.evs, P.evs, P.evs, ← ih]
    · rw [P.evs, P.evs, ih]
theorem q2T : ∀ {l : List P} {c : P}, c ∈ qu0 l → c ∈ l
  | [], c, h => by simp [qu0] at h
  | a :: l, c, h => by
    rw [qu0] at h
    split at h
    · split at h
      · cases h
      · simpa using Or.inl (List.mem_singleton.1 h)
    · rcases List.mem_cons.1 h with rfl | h
      · simp
      · exact List.mem_cons_of_mem _ (q2T h)
theorem zoD : ∀ l : List P, (qu0 l).length ≤ l.length
  | [] => Nat.le_refl _
  | a :: l => by
    have := zoD l
    rw [qu0]
    split
    · split <;> simp
    · simp only [List.length_cons]; omega
theorem zmD : ∀ {l : List P} {z : P}, (qu0 l).getLast? = some z → z.isZ = false
  | [], z, h => by simp [qu0] at h
  | a :: l, z, h => by
    rw [qu0] at h
    split at h
    · split at h
      · simp at h
      · rename_i hz
        simp at h; subst h; simpa using hz
    · rename_i hne
      cases hl : qu0 l with
      | nil => exact absurd hl hne
      | cons b m =>
        rw [hl] at h
        exact zmD (l := l) (by rw [hl]; simpa using h)
def zc3 (lv : Nat) (cs : List P) : P := match qu0 cs with
  | [] => .k 0
  | [c] => c
  | l => .p lv l
theorem zvU (ρ : Nat → Rat) (lv : Nat) (cs : List P) : (zc3 lv cs).ev ρ = P.evs ρ (ρ lv) cs := by
  rw [← zqY]
  unfold zc3
  split
  · rename_i h; rw [h, P.evs, P.ev]; rfl
  · rename_i c h; rw [h, P.evs, P.evs]; grind
  · rw [P.ev]
theorem zy8 {lv : Nat} {cs : List P} (h1 : 1 ≤ lv) (h : P.Cs (lv - 1) cs) : P.C lv (zc3 lv cs) := by
  unfold zc3
  split
  · rw [P.C]; trivial
  · rename_i c hc
    exact zuT (by omega) (quY h c (q2T (by rw [hc]; simp)))
  · rename_i h2 h3
    rw [P.C]
    refine ⟨h1, Nat.le_refl _, ?_, zwS fun c hc => quY h c (q2T hc), fun z hz => zmD hz⟩
    cases hl : qu0 cs with
    | nil => exact absurd hl h2
    | cons a l => cases l with
      | nil => exact absurd hl (h3 a)
      | cons b l => simp
theorem zy7 {n m lv : Nat} {cs : List P} (h : P.Ws n m cs) (hm : cs.length ≤ m) : P.W n m (zc3 lv cs) := by
  unfold zc3
  split
  · rw [P.W]; have := qfL n; simpa using this
  · rename_i c hc
    exact qxL h c (q2T (by rw [hc]; simp))
  · rw [P.W]
    exact ⟨Nat.le_trans (zoD cs) hm, zwN fun c hc => qxL h c (q2T hc)⟩
theorem q23 (b4 : qaI) {lv : Nat} {cs : List P} {n : Nat} (hn : n ≤ cs.length) (ht : qu0 cs = cs.take n) : Ev (fun K => qdP K (.c2 b4 (lv : Int) (P.raws cs) (n : Int))) (zc3 lv cs).enc := by
  refine qaT ?_
  simp only [qdP]
  unfold zc3
  rw [ht]
  cases n with
  | zero => exact ev_t rfl (qeQ (qa3 _) (by rw [List.take_zero]; simp only [P.enc, q3T]))
  | succ n =>
    cases n with
    | zero =>
      refine ev_f (by simp) (ev_t rfl ?_)
      obtain ⟨c, hc⟩ : ∃ c, cs[0]? = some c := ⟨_, List.getElem?_eq_getElem (by omega)⟩
      refine qb6 (qjR (i := 0) hc) (qeQ (qa3 _) ?_)
      cases cs with
      | nil => simp at hc
      | cons a l => simp at hc; subst hc; rfl
    | succ n =>
      refine ev_f (by simp; omega) (ev_f (by simp; omega) (qhC (by rw [qeY]; omega) (qeQ (qa3 _) ?_)))
      rw [Int.toNat_natCast, ztE]
      cases cs with
      | nil => simp at hn
      | cons a l => cases l with
        | nil => simp at hn
        | cons b l => rfl
theorem q24 (b4 : qaI) {lv L N m : Nat} {cs : List P} (hC : P.Cs L cs) (hW : P.Ws N m cs) (hN : N ≤ 1000000) (hl : cs.length < 1000000000) : ∀ n : Nat, n ≤ cs.length → qu0 cs = qu0 (cs.take n) →
    Ev (fun K => qdP K (.c1 b4 (lv : Int) (P.raws cs) (n : Int))) (zc3 lv cs).enc
  | 0, _, ht => by
    refine qaT ?_
    simp only [qdP]
    exact ev_f rfl (q23 b4 (by omega) (by rw [ht]; rfl))
  | n + 1, hn, ht => by
    obtain ⟨c, hc⟩ : ∃ c, cs[n]? = some c := ⟨_, List.getElem?_eq_getElem (by omega)⟩
    have hmem : c ∈ cs := List.mem_of_getElem? hc
    have htk : cs.take (n + 1) = cs.take n ++ [c] := by rw [List.take_add_one, hc]; rfl
    have hw : wI6 (((n + 1 : Nat) : Int) - 1) = (n : Int) := by rw [qdB (by omega)]; omega
    refine qaT ?_
    simp only [qdP, hw]
    refine ev_t (decide_eq_true (by omega)) (qb6 (qjR hc) (qaP (q22 (quY hC c hmem) (qxL hW c hmem) hN) ?_))
    cases hz : c.isZ with
    | true => exact ev_t rfl (q24 b4 hC hW hN hl n (by omega) (by rw [ht, htk, zdZ _ _ hz]))
    | false => exact ev_f rfl (q23 b4 hn (by rw [ht, htk, q2S _ _ hz]))
theorem q25 {lv L N m : Nat} {cs : List P} (hC : P.Cs L cs) (hW : P.Ws N m cs) (hN : N ≤ 1000000) (hl : cs.length < 1000000000) : Ev (fun K => qrS K (lv : Int) (P.raws cs)) (zc3 lv cs).enc := by
  refine qaT ?_
  simp only [qrS, qdP]
  have := q24 ⟨0, ⟨false, []⟩, []⟩ (lv := lv) hC hW hN hl cs.length (Nat.le_refl _) (by rw [List.take_length])
  simp only [qeY]
  exact this
def qhP (p : P) (lv : Nat) : List P := match p with
  | .k c => [.k c]
  | .p l cs => if l = lv then cs else [.p l cs]
theorem q06 {L n m : Nat} {p : P} {lv : Nat} (hC : P.C L p) (hW : P.W n m p) (hm : m ≤ 1000000) (h1 : 1 ≤ lv) : Ev (fun K => qr7 K p.enc (lv : Int)) (P.raws (qhP p lv)) := by
  refine qaT ?_
  simp only [qr7, qk2]
  cases p with
  | k c => exact ev_f (decide_eq_false (by show ¬ ((0 : Int) = (lv : Int)); omega)) (qa3 _)
  | p l cs =>
    rw [P.W] at hW
    by_cases e : l = lv
    · subst e
      refine ev_t (by simp [P.enc]) (ev_t (by simp; omega) (qhC ?_ (qeQ (qa3 _) ?_)))
      · show (P.raws cs).length * 64 ≤ _
        rw [qeY]; omega
      · simp [qhP, P.enc]
    · refine ev_f (decide_eq_false (by show ¬ ((l : Int) = (lv : Int)); omega)) (qeQ (qa3 _) ?_)
      simp [qhP, e, P.raws]
theorem zrP {p : P} {lv : Nat} (hC : P.C lv p) (h1 : 1 ≤ lv) : P.Cs (lv - 1) (qhP p lv) := by
  cases p with
  | k c => rw [qhP, P.Cs, P.Cs, P.C]; exact ⟨trivial, trivial⟩
  | p l cs =>
    rw [P.C] at hC
    rw [qhP]
    split
    · rename_i e; subst e; exact hC.2.2.2.1
    · rw [P.Cs, P.Cs, P.C]
      exact ⟨⟨hC.1, by omega, hC.2.2⟩, trivial⟩
theorem zrO {n m : Nat} {p : P} {lv : Nat} (hW : P.W n m p) (hm : 1 ≤ m) : P.Ws n m (qhP p lv) ∧ (qhP p lv).length ≤ m := by
  cases p with
  | k c => rw [qhP, P.Ws, P.Ws]; exact ⟨⟨hW, trivial⟩, hm⟩
  | p l cs =>
    rw [qhP]
    split
    · rw [P.W] at hW; exact ⟨hW.2, hW.1⟩
    · rw [P.Ws, P.Ws]; exact ⟨⟨hW, trivial⟩, hm⟩
theorem zpL (ρ : Nat → Rat) {p : P} {lv : Nat} : P.evs ρ (ρ lv) (qhP p lv) = p.ev ρ := by
  cases p with
  | k c => rw [qhP, P.evs, P.evs]; grind
  | p l cs =>
    rw [qhP]
    split
    · rename_i e; subst e; rw [P.ev]
    · rw [P.evs, P.evs]; grind
theorem zuC (p : P) (lv : Nat) {L : Nat} (hC : P.C L p) : qhP p lv ≠ [] := by
  cases p with
  | k c => simp [qhP]
  | p l cs =>
    rw [P.C] at hC
    rw [qhP]
    split
    · intro e; rw [e] at hC; have := hC.2.2.1; simp at this
    · simp
abbrev PA := qaI → qaI → Option qaI
def EvH {β : Type} (H : PA → Prop) (f : PA → Nat → Option β) (r : β) : Prop := ∃ K0, ∀ K, K0 ≤ K → ∀ A, H A → f A K = some r
section
variable {β γ : Type} {H : PA → Prop}
theorem zv1 (r : β) : EvH H (fun _ _ => some r) r := ⟨0, fun _ _ _ _ => rfl⟩
theorem qpX {f : PA → Nat → Option β} {r : β} (h : EvH H (fun A K => f A (K + 1)) r) : EvH H f r := by
  obtain ⟨K0, h⟩ := h
  refine ⟨K0 + 1, fun K hK A hA => ?_⟩
  obtain ⟨k, rfl⟩ : ∃ k, K = k + 1 := ⟨K - 1, by omega⟩
  exact h k (by omega) A hA
theorem q8F {f : Option γ} {g : PA → Nat → γ → Option β} {x : γ} {r : β} (hf : f = some x) (hg : EvH H (fun A K => g A K x) r) : EvH H (fun A K => f.bind (g A K)) r := by subst hf; exact hg
theorem zv2 {f : PA → Option γ} {g : PA → Nat → γ → Option β} {x : γ} {r : β} (hf : ∀ A, H A → f A = some x) (hg : EvH H (fun A K => g A K x) r) : EvH H (fun A K => (f A).bind (g A K)) r := by
  obtain ⟨K0, h⟩ := hg
  refine ⟨K0, fun K hK A hA => ?_⟩
  show (f A).bind (g A K) = some r
  rw [hf A hA]
  exact h K hK A hA
theorem zr9 {b : Bool} {f g : PA → Nat → Option β} {r : β} (hb : b = true) (h : EvH H f r) : EvH H (fun A K => bif b then f A K else g A K) r := by subst hb; exact h
theorem zsA {b : Bool} {f g : PA → Nat → Option β} {r : β} (hb : b = false) (h : EvH H g r) : EvH H (fun A K => bif b then f A K else g A K) r := by subst hb; exact h
theorem zxR {p : Prop} [Decidable p] {f : PA → Nat → Option β} {r : β} (hp : p) (h : EvH H f r) : EvH H (fun A K => gd p (f A K)) r := by
  obtain ⟨K0, h⟩ := h
  exact ⟨K0, fun K hK A hA => by show gd p (f A K) = some r; unfold gd; rw [if_pos hp]; exact h K hK A hA⟩
theorem zt7 {f : PA → Nat → Option β} {r : β} {A : Nat → PA} (h : EvH H f r) (hA : ∃ K1, ∀ K, K1 ≤ K → H (A K)) : Ev (fun K => f (A K) K) r := by
  obtain ⟨K0, h⟩ := h
  obtain ⟨K1, hA⟩ := hA
  exact ⟨max K0 K1, fun K hK => h K (by omega) (A K) (hA K (by omega))⟩
end
def zipP : List P → List P → (Nat → P) → List P
  | [], ys, _ => ys
  | x :: xs, [], _ => x :: xs
  | _ :: xs, _ :: ys, g => g 0 :: zipP xs ys fun i => g (i + 1)
theorem zgV : ∀ (xs ys : List P) (g : Nat → P) (i : Nat), (zipP xs ys g)[i]? = match xs[i]?, ys[i]? with
    | some _, some _ => some (g i)
    | some x, none => some x
    | none, y => y
  | [], ys, g, i => by simp [zipP]
  | x :: xs, [], g, i => by
    simp only [zipP, List.getElem?_nil]
    cases (x :: xs)[i]? <;> rfl
  | x :: xs, y :: ys, g, 0 => by simp [zipP]
  | x :: xs, y :: ys, g, i + 1 => by simp only [zipP, List.getElem?_cons_succ, zgV xs ys]
theorem zgU : ∀ (xs ys : List P) (g : Nat → P), (zipP xs ys g).length = max xs.length ys.length
  | [], ys, g => by simp [zipP]
  | x :: xs, [], g => by simp [zipP]
  | x :: xs, y :: ys, g => by simp only [zipP, List.length_cons, zgU xs ys]; omega
theorem zsL (ρ : Nat → Rat) (v : Rat) : ∀ (xs ys : List P) (g : Nat → P), (∀ (i : Nat) x y, xs[i]? = some x → ys[i]? = some y → (g i).ev ρ = x.ev ρ + y.ev ρ) → P.evs ρ v (zipP xs ys g) = P.evs ρ v xs + P.evs ρ v ys
  | [], ys, g, _ => by rw [zipP, P.evs]; grind
  | x :: xs, [], g, _ => by rw [zipP]; simp only [P.evs]; grind
  | x :: xs, y :: ys, g, h => by
    have h0 := h 0 x y rfl rfl
    have ih := zsL ρ v xs ys (fun i => g (i + 1)) fun i a b ha hb => h (i + 1) a b (by simpa using ha) (by simpa using hb)
    simp only [zipP, P.evs, h0, ih]
    grind
theorem zmI {H : PA → Prop} (t8 : List (List (List T))) (t9 t10 : Int) (cp : List P) (hl : cp.length ≤ 1000000) {r : List (List T)} (hnext : EvH H (fun A K => qbO A K (.c5 (P.raws cp) t8 t9 (wI6 (t10 + 1)))) r) :
    ∀ (m i : Nat), i + m = cp.length → EvH H (fun A K => qbO A K (.c4 (P.raws (cp.take i)) t8 t9 t10 (P.raws cp) (cp.length : Int) (i : Int))) r
  | 0, i, hi => by
    refine qpX ?_
    simp only [qbO]
    rw [List.take_of_length_le (by omega)]
    exact zsA (by simp; omega) hnext
  | m + 1, i, hi => by
    obtain ⟨c, hc⟩ : ∃ c, cp[i]? = some c := ⟨_, List.getElem?_eq_getElem (by omega)⟩
    have hw : wI6 ((i : Int) + 1) = ((i + 1 : Nat) : Int) := by rw [qdB (by omega)]; omega
    have htk : P.raws (cp.take i) ++ [qaB c.enc] = P.raws (cp.take (i + 1)) := by
      rw [List.take_add_one, hc, zhX]; rfl
    have hlen : (P.raws (cp.take i)).length = i := by rw [qeY, List.length_take]; omega
    refine qpX ?_
    simp only [qbO]
    refine zr9 (by simp; omega) (q8F (qjR hc) (zsA (by rw [hlen]; simp) ?_))
    refine zxR (by rw [htk, qeY, List.length_take]; omega) ?_
    rw [htk]
    refine qpX ?_
    simp only [qbO, hw]
    exact zmI t8 t9 t10 cp hl hnext m (i + 1) (by omega)
theorem zp1 {H : PA → Prop} (t8 : List (List (List T))) (t9 t10 : Int) (cp cq : List P) (g : Nat → P) (hp : cp.length ≤ 1000000) (hq : cq.length ≤ 1000000) (hA : ∀ A, H A → ∀ (i : Nat) x y, cp[i]? = some x → cq[i]? = some y → A x.enc y.enc = some (g i).enc)
    {r : List (List T)} (hnext : EvH H (fun A K => qbO A K (.c5 (P.raws (zipP cp cq g)) t8 t9 (wI6 (t10 + 1)))) r) :
    ∀ (m i : Nat), i + m = cq.length → EvH H (fun A K => qbO A K (.c4 (P.raws ((zipP cp cq g).take i ++ cp.drop i)) t8 t9 t10 (P.raws cq) (cq.length : Int) (i : Int))) r
  | 0, i, hi => by
    refine qpX ?_
    simp only [qbO]
    have e : (zipP cp cq g).take i ++ cp.drop i = zipP cp cq g := by
      apply List.ext_getElem?
      intro q
      have hlz := zgU cp cq g
      rw [List.getElem?_append, List.length_take]
      by_cases hq : q < min i (zipP cp cq g).length
      · rw [if_pos hq, List.getElem?_take, if_pos (by omega)]
      · rw [if_neg hq, zgV]
        by_cases h2 : cp.length ≤ i
        · have h3 : cp[q]? = none := by rw [List.getElem?_eq_none]; omega
          have h4 : cq[q]? = none := by rw [List.getElem?_eq_none]; omega
          rw [h3, h4, List.getElem?_eq_none (by simp; omega)]
        · have h4 : cq[q]? = none := by rw [List.getElem?_eq_none]; omega
          rw [h4, List.getElem?_drop, show i + (q - min i (zipP cp cq g).length) = q by omega]
          cases cp[q]? <;> rfl
    rw [e]
    exact zsA (by simp; omega) hnext
  | m + 1, i, hi => by
    obtain ⟨y, hy⟩ : ∃ c, cq[i]? = some c := ⟨_, List.getElem?_eq_getElem (by omega)⟩
    have hw : wI6 ((i : Int) + 1) = ((i + 1 : Nat) : Int) := by rw [qdB (by omega)]; omega
    have hlz := zgU cp cq g
    have hacc : ((zipP cp cq g).take i ++ cp.drop i).length = max i cp.length := by simp; omega
    have hget := zgV cp cq g i
    refine qpX ?_
    simp only [qbO]
    refine zr9 (by simp; omega) (q8F (qjR hy) ?_)
    by_cases hlt : i < cp.length
    · obtain ⟨x, hx⟩ : ∃ c, cp[i]? = some c := ⟨_, List.getElem?_eq_getElem hlt⟩
      have hai : ((zipP cp cq g).take i ++ cp.drop i)[i]? = some x := by
        rw [List.getElem?_append_right (by simp; omega), List.length_take, List.getElem?_drop, show i + (i - min i (zipP cp cq g).length) = i by omega, hx]
      rw [hx, hy] at hget
      refine zr9 (by rw [qeY, hacc]; simp; omega) (q8F (qjR hai) (zv2 (x := (g i).enc) (fun A h => hA A h i x y hx hy) (q8F (qjR hai) ?_)))
      rw [Int.toNat_natCast, znD]
      have e : ((zipP cp cq g).take i ++ cp.drop i).set i (g i) = (zipP cp cq g).take (i + 1) ++ cp.drop (i + 1) := by
        rw [List.set_append_right _ _ (by simp; omega), List.length_take, show i - min i (zipP cp cq g).length = 0 by omega, List.take_add_one, hget]
        have hd : (cp.drop i).set 0 (g i) = g i :: cp.drop (i + 1) := by rw [List.drop_eq_getElem_cons hlt]; rfl
        rw [hd]; simp
      rw [e]
      refine qpX ?_
      simp only [qbO, hw]
      exact zp1 t8 t9 t10 cp cq g hp hq hA hnext m (i + 1) (by omega)
    · have hx : cp[i]? = none := by rw [List.getElem?_eq_none]; omega
      rw [hx, hy] at hget
      refine zsA (by rw [qeY, hacc]; simp; omega) ?_
      have e : P.raws ((zipP cp cq g).take i ++ cp.drop i) ++ [qaB y.enc] = P.raws ((zipP cp cq g).take (i + 1) ++ cp.drop (i + 1)) := by
        rw [List.drop_eq_nil_of_le (by omega), List.drop_eq_nil_of_le (by omega), List.append_nil, List.append_nil, List.take_add_one, hget, zhX]
        rfl
      rw [e]
      refine zxR (by rw [qeY]; simp; omega) ?_
      refine qpX ?_
      simp only [qbO, hw]
      exact zp1 t8 t9 t10 cp cq g hp hq hA hnext m (i + 1) (by omega)
theorem zkF {H : PA → Prop} (cp cq : List P) (g : Nat → P) (hne : cp ≠ []) (hp : cp.length ≤ 1000000) (hq : cq.length ≤ 1000000) (hA : ∀ A, H A → ∀ (i : Nat) x y, cp[i]? = some x → cq[i]? = some y → A x.enc y.enc = some (g i).enc) :
    EvH H (fun A K => qz7 K A [P.raws cp, P.raws cq]) (P.raws (zipP cp cq g)) := by
  refine qpX ?_
  simp only [qz7, qbO]
  refine qpX ?_
  simp only [qbO]
  refine zr9 rfl (q8F (x := P.raws cp) rfl ?_)
  obtain ⟨x, hx⟩ : ∃ c, cp[0]? = some c := ⟨_, List.getElem?_eq_getElem (List.length_pos_iff.2 hne)⟩
  have hl := List.length_pos_iff.2 hne
  refine qpX ?_
  simp only [qbO]
  refine zr9 (by rw [qeY]; simp; omega) (q8F (qjR (i := 0) hx) (zsA rfl ?_))
  have e1 : [qaB x.enc] = P.raws (cp.take 1) := by
    cases cp with
    | nil => simp at hx
    | cons a l => simp at hx; subst hx; rfl
  rw [e1]
  refine qpX ?_
  simp only [qbO]
  have w1 : wI6 ((0 : Int) + 1) = ((1 : Nat) : Int) := by decide
  rw [w1, qeY]
  refine zmI _ _ 0 cp hp ?_ (cp.length - 1) 1 (by omega)
  have w2 : wI6 ((0 : Int) + 1) = 1 := by decide
  rw [w2]
  refine qpX ?_
  simp only [qbO]
  refine zr9 rfl (q8F (x := P.raws cq) rfl ?_)
  rw [qeY]
  have := zp1 (H := H) [P.raws cp, P.raws cq] (([P.raws cp, P.raws cq] : List (List (List T))).length : Int) 1 cp cq g hp hq hA (r := P.raws (zipP cp cq g)) ?_ cq.length 0 (by omega)
  · rw [List.take_zero, List.drop_zero, List.nil_append] at this
    exact this
  · have w3 : wI6 ((1 : Int) + 1) = 2 := by decide
    rw [w3]
    refine qpX ?_
    simp only [qbO]
    exact zsA rfl (zv1 _)
theorem uni {Q : Nat → Nat → Prop} : ∀ n : Nat, (∀ i, i < n → ∃ K0, ∀ K, K0 ≤ K → Q i K) → ∃ K1, ∀ K, K1 ≤ K → ∀ i, i < n → Q i K
  | 0, _ => ⟨0, fun _ _ i h => by omega⟩
  | n + 1, h => by
    obtain ⟨K1, h1⟩ := uni n fun i hi => h i (by omega)
    obtain ⟨K2, h2⟩ := h n (by omega)
    refine ⟨max K1 K2, fun K hK i hi => ?_⟩
    by_cases e : i = n
    · subst e; exact h2 K (by omega)
    · exact h1 K (by omega) i (by omega)
theorem zkN {n m : Nat} (hn : n + 1 ≤ 1000000) (hm1 : 1 ≤ m) (hm : m ≤ 1000000) : ∀ (L : Nat) (p q : P), P.C L p → P.C L q → P.W n m p → P.W n m q →
    ∃ r, P.C L r ∧ P.W (n + 1) m r ∧ Ev (fun K => qrK K p.enc q.enc) r.enc ∧ ∀ ρ, r.ev ρ = p.ev ρ + q.ev ρ := by
  intro L
  induction L using Nat.strongRecOn with
  | _ L ih =>
    intro p q hp hq wp wq
    by_cases h0 : max p.lev q.lev = 0
    · -- whole numbers
      cases p with
      | p lv cs => rw [P.C] at hp; simp only [P.lev] at h0; omega
      | k a =>
        cases q with
        | p lv cs => rw [P.C] at hq; simp only [P.lev] at h0; omega
        | k b =>
          rw [P.W] at wp wq
          have sa := qrH wp (by omega)
          have sb := qrH wq (by omega)
          have h1 := qn0 sa.1 sb.1 (by have := sa.2; omega) (by have := sb.2; omega)
          rw [qcY, qcY] at h1
          refine ⟨.k (a + b), by rw [P.C]; trivial, ?_, ?_, fun ρ => ?_⟩
          · rw [P.W, Int.pow_succ]
            have := qfL n
            omega
          · refine qaT ?_
            simp only [qrK, qgD]
            exact ev_t rfl (qaP h1 (qa3 _))
          · simp only [P.ev]
            exact Rat.intCast_add a b
    · let lv := max p.lev q.lev
      have hlv : 1 ≤ lv := by show 1 ≤ max p.lev q.lev; omega
      have hpl := zuU hp
      have hql := zuU hq
      have hlL : lv ≤ L := by show max p.lev q.lev ≤ L; omega
      have cl : ∀ x : P, P.C L x → x.lev ≤ lv → P.C lv x := fun x hx hl => by
        cases x with
        | k c => rw [P.C]; trivial
        | p l cs => rw [P.C] at hx ⊢; exact ⟨hx.1, hl, hx.2.2⟩
      have hp' := cl p hp (Nat.le_max_left _ _)
      have hq' := cl q hq (Nat.le_max_right _ _)
      have cp := zrP hp' hlv
      have cq := zrP hq' hlv
      obtain ⟨vp, lp⟩ := zrO (lv := lv) wp hm1
      obtain ⟨vq, lq⟩ := zrO (lv := lv) wq hm1
      have step : ∀ i : Nat, ∃ z : P, ∀ x y : P, (qhP p lv)[i]? = some x → (qhP q lv)[i]? = some y → P.C (lv - 1) z ∧ P.W (n + 1) m z ∧ Ev (fun K => qrK K x.enc y.enc) z.enc ∧ ∀ ρ, z.ev ρ = x.ev ρ + y.ev ρ := by
        intro i
        cases hx : (qhP p lv)[i]? with
        | none => exact ⟨.k 0, fun x y h => by cases h⟩
        | some x =>
          cases hy : (qhP q lv)[i]? with
          | none => exact ⟨.k 0, fun x y _ h => by cases h⟩
          | some y =>
            have mx := List.mem_of_getElem? hx
            have my := List.mem_of_getElem? hy
            obtain ⟨z, hz⟩ := ih (lv - 1) (by omega) x y (quY cp x mx) (quY cq y my) (qxL vp x mx) (qxL vq y my)
            exact ⟨z, fun a b ha hb => by cases ha; cases hb; exact hz⟩
      let g : Nat → P := fun i => (step i).choose
      have hg : ∀ (i : Nat) (x y : P), (qhP p lv)[i]? = some x → (qhP q lv)[i]? = some y → P.C (lv - 1) (g i) ∧ P.W (n + 1) m (g i) ∧ Ev (fun K => qrK K x.enc y.enc) (g i).enc ∧ ∀ ρ, (g i).ev ρ = x.ev ρ + y.ev ρ := fun i => (step i).choose_spec
      let zs := zipP (qhP p lv) (qhP q lv) g
      have hzl : zs.length ≤ m := by show (zipP _ _ g).length ≤ m; rw [zgU]; omega
      have hmem : ∀ z ∈ zs, P.C (lv - 1) z ∧ P.W (n + 1) m z := by
        intro z hz
        obtain ⟨i, hi⟩ := List.mem_iff_getElem?.1 hz
        have hi : (zipP (qhP p lv) (qhP q lv) g)[i]? = some z := hi
        rw [zgV] at hi
        cases hx : (qhP p lv)[i]? with
        | none =>
          rw [hx] at hi
          have my := List.mem_of_getElem? (show (qhP q lv)[i]? = some z from hi)
          exact ⟨quY cq z my, zpS (by omega) (qxL vq z my)⟩
        | some x =>
          cases hy : (qhP q lv)[i]? with
          | none =>
            rw [hx, hy] at hi
            cases hi
            have mx := List.mem_of_getElem? hx
            exact ⟨quY cp _ mx, zpS (by omega) (qxL vp _ mx)⟩
          | some y =>
            rw [hx, hy] at hi
            cases hi
            have := hg i x y hx hy
            exact ⟨this.1, this.2.1⟩
      have zC : P.Cs (lv - 1) zs := zwS fun z hz => (hmem z hz).1
      have zW : P.Ws (n + 1) m zs := zwN fun z hz => (hmem z hz).2
      refine ⟨zc3 lv zs, zuT hlL (zy8 hlv zC), zy7 zW hzl, ?_, fun ρ => ?_⟩
      · refine qaT ?_
        simp only [qrK, qgD, zpH]
        have hmx : max (p.lev : Int) (q.lev : Int) = (lv : Int) := by
          show max (p.lev : Int) (q.lev : Int) = ((max p.lev q.lev : Nat) : Int)
          omega
        rw [hmx]
        refine ev_f (by simp; omega) ?_
        refine qaP (q06 hp' wp hm hlv) (qaP (q06 hq' wq hm hlv) ?_)
        let HH : PA → Prop := fun A => ∀ i, i < (qhP p lv).length → ∀ x y : P, (qhP p lv)[i]? = some x → (qhP q lv)[i]? = some y → A x.enc y.enc = some (g i).enc
        have hs := zkF (H := HH) (qhP p lv) (qhP q lv) g (zuC p lv hp) (by omega) (by omega) fun A hA i x y hx hy => hA i (List.getElem?_eq_some_iff.1 hx).1 x y hx hy
        have hK : ∃ K1, ∀ K, K1 ≤ K → HH (fun y0 y1 => qgD K (.c0 y0 y1)) := by
          refine uni (Q := fun i K => ∀ x y : P, (qhP p lv)[i]? = some x → (qhP q lv)[i]? = some y → qgD K (.c0 x.enc y.enc) = some (g i).enc) _ fun i hi => ?_
          obtain ⟨x, hx⟩ : ∃ c, (qhP p lv)[i]? = some c := ⟨_, List.getElem?_eq_getElem hi⟩
          cases hy : (qhP q lv)[i]? with
          | none => exact ⟨0, fun K _ x y _ h => by cases h⟩
          | some y =>
            obtain ⟨K0, h⟩ := (hg i x y hx hy).2.2.1
            refine ⟨K0, fun K hK a b ha hb => ?_⟩
            rw [hx] at ha
            cases ha; cases hb
            exact h K hK
        refine qaP (zt7 hs hK) (qaP (q25 zC zW (by omega) (Nat.lt_of_le_of_lt hzl (by omega))) (qa3 _))
      · rw [zvU]
        show P.evs ρ (ρ lv) (zipP _ _ g) = _
        rw [zsL ρ (ρ lv) _ _ g fun i x y hx hy => (hg i x y hx hy).2.2.2 ρ, zpL, zpL]
open Go.Proofs.Try (prog)
inductive qsA where
 | c0 (level : Int)
def qqF : Nat → qsA → Option qaI
 | 0, _ => none
 | K + 1, .c0 level =>
  bif (decide (level < (1 : Int))) then
   some (qaI.mk (0 : Int) (qaG.mk false []) [])
  else
   bif (decide ((4 : Int) < level)) then
    some (qaI.mk (0 : Int) (qaG.mk false []) [])
   else
    (qk9 K (1 : Int)).bind fun x3 =>
    some (qaI.mk level (qaG.mk false []) ([(qaB (qaI.mk (0 : Int) (qaG.mk false []) [])), (qaB (qaI.mk (0 : Int) x3 []))] : List (List T)))
def zhS (K : Nat) (level : Int) : Option qaI := qqF K (.c0 level)
noncomputable def zfA : Code := qcK prog 90
noncomputable def zhR : qsA → List Fr
 | .c0 .. => [.code zfA]
def zkP : qsA → St
 | .c0 level => St.init [(ti .i64 level)]
def q89 (cx : Cx) (c : qsA) (r : qaI) : Prop := Wk prog cx (qd0 prog 90 [[0,0,1,4]] (TV.agg (qaB r))) (zhR c) .normal (zkP c)
abbrev q9A (K : Nat) : Prop := ∀ c r, qqF K c = some r → ∀ cx : Cx, cx.n = 16 → q89 cx c r
theorem zkQ {K} (_ : q9A K) {cx} (hn : cx.n = 16) {level} {r} (h : qqF (K + 1) (.c0 level) = some r) : q89 cx (.c0 level) r := by
 rw [qqF] at h
 rcases qaY h with ⟨h1, h⟩ | ⟨h1, h⟩
 ·have h := oinj h; subst h
  exact wkR [rg1, rgG [oo, oo, oo, .sb 5 true, oo, oo, oo], bTr, rg2] hn (aC h1 <| aC rt <| aN)
 ·rcases qaY h with ⟨h2, h⟩ | ⟨h2, h⟩
  ·have h := oinj h; subst h
   exact wkR [rg1, rgG [oo, oo, oo, .sb 5 false, oo, oo, oo], bTr, rg2] hn (aC h1 <| aC h2 <| aN)
  ·obtain ⟨x3, h4, h⟩ := qaV h
   have h := oinj h; subst h
   exact wkR [rg1, rgG [oo, oo, oo, .sb 5 false, oo, oo, oo], bFa, rgG [oo, oo, opI (.call [[0]] [(TV.c (T.int .i64 (1 : Int)))] (TV.agg (qaD x3))), oo, opI (.lit (([(qaB (qaI.mk (0 : Int) (qaG.mk false []) [])), (qaB (qaI.mk (0 : Int) x3 []))] : List (List T)).map rid)), .snap 14 (max 0 (0 + 2)) (([(qaB (qaI.mk (0 : Int) (qaG.mk false []) [])), (qaB (qaI.mk (0 : Int) x3 []))] : List (List T)).map rid), oo, oo]] hn (aC h1 <| aC h2 <| aC (qgH h4) <| aC (by kernel_rfl : [(T.int .i64 (0 : Int)), (T.bool false), (T.sl 1 []), (T.sl 4 []), (T.int .i64 (0 : Int)), (T.bool x3.Neg), (T.sl 1 (x3.Abs.map qaE)), (T.sl 4 [])] = (([(qaB (qaI.mk (0 : Int) (qaG.mk false []) [])), (qaB (qaI.mk (0 : Int) x3 []))] : List (List T)).map rid).flatten) <| aC (qfA _ _ _ (by simp) : ((([(qaB (qaI.mk (0 : Int) (qaG.mk false []) [])), (qaB (qaI.mk (0 : Int) x3 []))] : List (List T)).map rid).drop 0).take 2 = ([(qaB (qaI.mk (0 : Int) (qaG.mk false []) [])), (qaB (qaI.mk (0 : Int) x3 []))] : List (List T)).map rid) <| aC (rfl : (max 0 (0 + 2)) = (max 0 (0 + 2))) <| aN)
theorem q3A : ∀ K : Nat, q9A K
 | 0, c, r, h => by rw [qqF] at h; cases h
 | K + 1, .c0 .., r, h => fun cx hn => zkQ (q3A K) hn h
theorem zb5 {K : Nat} {level : Int} {r : qaI} (h : zhS K level = some r) : qc0 prog 90 [(ti .i64 level)] (TV.agg (qaB r)) :=
 qbG [[0,0,1,4]] (by kernel_rfl) (by simp) fun cx hn => q3A K (.c0 level) r h cx hn
open Go.Proofs.Try (prog)
inductive qlF where
 | c0 (p : qaI) (below : Int)
 | c1 (p : qaI) (t48 : (List (List T))) (t49 : Int) (t50 : Int)
def qc7 : Nat → qlF → Option Bool
 | 0, _ => none
 | K + 1, .c0 p below =>
  bif (decide (p.Level = (0 : Int))) then
   bif (decide ((p.Coefs.length : Int) = (0 : Int))) then
    bif (!p.Const.Neg) then
     some true
    else
     (qhO K p.Const).bind fun x4 =>
     some (!decide (x4 = (0 : Int)))
   else
    some false
  else
   bif (decide (p.Level < (0 : Int))) then
    some false
   else
    bif (decide (below ≤ p.Level)) then
     some false
    else
     bif (decide ((p.Coefs.length : Int) < (2 : Int))) then
      some false
     else
      (qhO K p.Const).bind fun x5 =>
      bif (!decide (x5 = (0 : Int))) then
       some false
      else
       qc7 K (.c1 p p.Coefs (p.Coefs.length : Int) (0 : Int))
 | K + 1, .c1 p t48 t49 t50 =>
  bif (decide (t50 < t49)) then
   (gid qcA t48 t50).bind fun x2 =>
   (qc7 K (.c0 x2 p.Level)).bind fun x4 =>
   bif (!x4) then
    some false
   else
    qc7 K (.c1 p t48 t49 (wI6 (t50 + (1 : Int))))
  else
   (gid qcA p.Coefs (wI6 ((p.Coefs.length : Int) - (1 : Int)))).bind fun x2 =>
   (qrR K x2).bind fun x4 =>
   some (!x4)
def qmA (K : Nat) (p : qaI) (below : Int) : Option Bool := qc7 K (.c0 p below)
noncomputable def qn5 : Code := qcK prog 88
noncomputable def q28 : qlF → List Fr
 | .c0 .. => [.code qn5]
 | .c1 .. => [.code (.loop (atC qn5 [1,1,1,0,1,0,0])), .blk 0, .code (atC qn5 [1,1,1,1])]
def q5A : qlF → St
 | .c0 p below => St.init [(TV.agg (qaB p)), (ti .i64 below)]
 | .c1 p t48 t49 t50 => ⟨[(2, .c (C.ptr 2 0)), (48, vl 4 t48 rid), (49, vi .i64 t49), (50, vi .i64 t50)], [(2, .var ((qaB p).map C.t))], []⟩
def qrJ (cx : Cx) (c : qlF) (r : Bool) : Prop := Wk prog cx (qd0 prog 88 [[0]] (TV.c (T.bool r))) (q28 c) .normal (q5A c)
abbrev qm6 (K : Nat) : Prop := ∀ c r, qc7 K c = some r → ∀ cx : Cx, cx.n = 70 → qrJ cx c r
theorem qtJ (K : Nat) (ih : qm6 K) {p : qaI} {below : Int} {r : Bool} (h : qc7 K (.c0 p below) = some r) : qc0 prog 88 [(TV.agg (qaB p)), (ti .i64 below)] (TV.c (T.bool r)) :=
 qbG [[0]] (by kernel_rfl) (by simp) fun cx hn => ih (.c0 p below) r h cx hn
theorem q5D {K} (ih : qm6 K) {cx} (hn : cx.n = 70) {p below} {r} (h : qc7 (K + 1) (.c0 p below) = some r) : qrJ cx (.c0 p below) r := by
 rw [qc7] at h
 rcases qaY h with ⟨h1, h⟩ | ⟨h1, h⟩
 ·rcases qaY h with ⟨h2, h⟩ | ⟨h2, h⟩
  ·rcases qaY h with ⟨h3, h⟩ | ⟨h3, h⟩
   ·have h := oinj h; subst h
    exact wkR [rg2, rg3, bTr, rgG [oo, oo, opI (.ln (p.Coefs.length : Int)), oo, oo, .sb 14 true, oo, oo, oo, oo, oo, .sb 19 true, oo, oo, oo, oo, oo, oo, oo]] hn (aC h1 <| aC (qdF p.Coefs rid) <| aC h2 <| aC h3 <| aN)
   ·obtain ⟨x4, h5, h⟩ := qaV h
    have h := oinj h; subst h
    exact wkR [rg2, rg3, bTr, rgG [oo, oo, opI (.ln (p.Coefs.length : Int)), oo, oo, .sb 14 true, oo, oo, oo, oo, oo, .sb 19 false, oo, oo, opI (.call [[0,1]] [(TV.agg (qaD p.Const))] (ti .i64 x4)), oo, oo, oo, oo]] hn (aC h1 <| aC (qdF p.Coefs rid) <| aC h2 <| aC h3 <| aC (qcD h5) <| aN)
  ·have h := oinj h; subst h
   exact wkR [rg2, rg3, bTr, rgG [oo, oo, opI (.ln (p.Coefs.length : Int)), oo, oo, .sb 14 false, oo, oo, oo, oo, oo, oo, oo, oo, oo, oo, oo, oo]] hn (aC h1 <| aC (qdF p.Coefs rid) <| aC h2 <| aN)
 ·rcases qaY h with ⟨h2, h⟩ | ⟨h2, h⟩
  ·have h := oinj h; subst h
   exact wkR [rg2, rg3, bFa, rgG [oo, oo, oo, oo, .sb 29 true, oo, oo, oo, oo, oo, oo, oo, oo, oo, oo, oo, oo, oo, oo, oo, oo, oo], bTr, rg1] hn (aC h1 <| aC h2 <| aC rt <| aN)
  ·rcases qaY h with ⟨h3, h⟩ | ⟨h3, h⟩
   ·have h := oinj h; subst h
    exact wkR [rg2, rg3, bFa, rgG [oo, oo, oo, oo, .sb 29 false, oo, oo, oo, oo, oo, oo, .sb 35 true, oo, oo, oo, oo, oo, oo, oo, oo, oo, oo, oo], bTr, rg1] hn (aC h1 <| aC h2 <| aC h3 <| aC rt <| aN)
   ·rcases qaY h with ⟨h4, h⟩ | ⟨h4, h⟩
    ·have h := oinj h; subst h
     exact wkR [rg2, rg3, bFa, rgG [oo, oo, oo, oo, .sb 29 false, oo, oo, oo, oo, oo, oo, .sb 35 false, oo, oo, opI (.ln (p.Coefs.length : Int)), oo, oo, oo, .sb 41 true, oo, oo, oo, oo, oo], bTr, rg1] hn (aC h1 <| aC h2 <| aC h3 <| aC (qdF p.Coefs rid) <| aC h4 <| aC rt <| aN)
    ·obtain ⟨x5, h6, h⟩ := qaV h
     rcases qaY h with ⟨h7, h⟩ | ⟨h7, h⟩
     ·have h := oinj h; subst h
      exact wkR [rg2, rg3, bFa, rgG [oo, oo, oo, oo, .sb 29 false, oo, oo, oo, oo, oo, oo, .sb 35 false, oo, oo, opI (.ln (p.Coefs.length : Int)), oo, oo, oo, .sb 41 false, oo, oo, opI (.call [[0,1]] [(TV.agg (qaD p.Const))] (ti .i64 x5)), oo, oo], bTr, rg1] hn (aC h1 <| aC h2 <| aC h3 <| aC (qdF p.Coefs rid) <| aC h4 <| aC (qcD h6) <| aC h7 <| aN)
     ·exact wkG [rg2, rg3, bFa, rgG [oo, oo, oo, oo, .sb 29 false, oo, oo, oo, oo, oo, oo, .sb 35 false, oo, oo, opI (.ln (p.Coefs.length : Int)), oo, oo, oo, .sb 41 false, oo, oo, opI (.call [[0,1]] [(TV.agg (qaD p.Const))] (ti .i64 x5)), oo, oo], bFa, rgG [oo, oo, opI (.ln (p.Coefs.length : Int)), oo], .pre [.keep [2,48,49,50] [2]]] hn (aC h1 <| aC h2 <| aC h3 <| aC (qdF p.Coefs rid) <| aC h4 <| aC (qcD h6) <| aC h7 <| aC (qdF p.Coefs rid) <| aN) (ih _ _ h cx hn)
theorem q5C {K} (ih : qm6 K) {cx} (hn : cx.n = 70) {p t48 t49 t50} {r} (h : qc7 (K + 1) (.c1 p t48 t49 t50) = some r) : qrJ cx (.c1 p t48 t49 t50) r := by
 rw [qc7] at h
 rcases qaY h with ⟨h1, h⟩ | ⟨h1, h⟩
 ·obtain ⟨x2, h3, h⟩ := qaV h
  obtain ⟨x4, h5, h⟩ := qaV h
  rcases qaY h with ⟨h6, h⟩ | ⟨h6, h⟩
  ·have h := oinj h; subst h
   exact wkR [.go, rg1, bTr, rgG [opI (.ix (qaB x2)), oo, oo, oo], rgG [oo, oo, oo, opI (.call [[0,0,1,4], [0]] [(TV.agg (qaB x2)), (ti .i64 p.Level)] (TV.c (T.bool x4))), oo], bTr, rg1] hn (aC h1 <| aC (qkO h3 : 0 ≤ t50) <| aC (qnR @qa9 h3 : (t48.map rid)[t50.toNat]? = some (qaB x2)) <| aC (qtJ K ih h5 : qc0 prog 88 [(TV.agg (qaB x2)), (ti .i64 p.Level)] (TV.c (T.bool x4))) <| aC h6 <| aN)
  ·exact wkG [.go, rg1, bTr, rgG [opI (.ix (qaB x2)), oo, oo, oo], rgG [oo, oo, oo, opI (.call [[0,0,1,4], [0]] [(TV.agg (qaB x2)), (ti .i64 p.Level)] (TV.c (T.bool x4))), oo], bFa, rg2, .pre [.keep [2,48,49,50] [2]]] hn (aC h1 <| aC (qkO h3 : 0 ≤ t50) <| aC (qnR @qa9 h3 : (t48.map rid)[t50.toNat]? = some (qaB x2)) <| aC (qtJ K ih h5 : qc0 prog 88 [(TV.agg (qaB x2)), (ti .i64 p.Level)] (TV.c (T.bool x4))) <| aC h6 <| aN) (ih _ _ h cx hn)
 ·obtain ⟨x2, h3, h⟩ := qaV h
  obtain ⟨x4, h5, h⟩ := qaV h
  have h := oinj h; subst h
  exact wkR [.go, rg1, bFa, rgG [oo, oo, oo, oo, opI (.ln (p.Coefs.length : Int)), oo, opI (.ix (qaB x2)), oo, opI (.call [[0,0,1,4]] [(TV.agg (qaB x2))] (TV.c (T.bool x4))), oo, oo]] hn (aC h1 <| aC (qdF p.Coefs rid) <| aC (qkO h3 : 0 ≤ (wI6 ((p.Coefs.length : Int) - (1 : Int)))) <| aC (qnR @qa9 h3 : (p.Coefs.map rid)[(wI6 ((p.Coefs.length : Int) - (1 : Int))).toNat]? = some (qaB x2)) <| aC (qr1 h5) <| aN)
theorem qoY : ∀ K : Nat, qm6 K
 | 0, c, r, h => by rw [qc7] at h; cases h
 | K + 1, .c0 .., r, h => fun cx hn => q5D (qoY K) hn h
 | K + 1, .c1 .., r, h => fun cx hn => q5C (qoY K) hn h
theorem qr8 {K : Nat} {p : qaI} {below : Int} {r : Bool} (h : qmA K p below = some r) : qc0 prog 88 [(TV.agg (qaB p)), (ti .i64 below)] (TV.c (T.bool r)) :=
 qbG [[0]] (by kernel_rfl) (by simp) fun cx hn => qoY K (.c0 p below) r h cx hn
open Go.Proofs.Try (prog)
inductive qpK where
 | c0 (p : qaI) (c : qaG)
 | c1 (p : qaI) (c : qaG) (b4 : qaI) (r19 : (List (List T))) (t21 : (List (List T))) (t22 : Int) (t23 : Int)
def qd8 : Nat → qpK → Option qaI
 | 0, _ => none
 | K + 1, .c0 p c =>
  bif (decide (p.Level = (0 : Int))) then
   (qlY K p.Const c).bind fun x2 =>
   some (qaI.mk (0 : Int) x2 [])
  else
   gd (0 ≤ (p.Coefs.length : Int) ∧ (p.Coefs.length : Int) ≤ (p.Coefs.length : Int) ∧ (64 : Int) * (p.Coefs.length : Int) ≤ 140737488355328) <|
   qd8 K (.c1 p c (qaI.mk (0 : Int) (qaG.mk false []) []) (List.replicate (p.Coefs.length : Int).toNat ((qaB (qaI.mk (0 : Int) (qaG.mk false []) [])) : (List T))) p.Coefs (p.Coefs.length : Int) (0 : Int))
 | K + 1, .c1 p c b4 r19 t21 t22 t23 =>
  bif (decide (t23 < t22)) then
   (gid qcA t21 t23).bind fun x2 =>
   (qd8 K (.c0 x2 c)).bind fun x4 =>
   (gid qcA r19 t23).bind fun _ =>
   qd8 K (.c1 p c b4 (r19.set (t23.toNat) (qaB x4)) t21 t22 (wI6 (t23 + (1 : Int))))
  else
   (qrS K p.Level r19).bind fun x2 =>
   some x2
def qr6 (K : Nat) (p : qaI) (c : qaG) : Option qaI := qd8 K (.c0 p c)
noncomputable def qr4 : Code := qcK prog 135
noncomputable def zb0 : qpK → List Fr
 | .c0 .. => [.code qr4]
 | .c1 .. => [.code (.loop (atC qr4 [1,1,1,0,1,0,0])), .blk 0, .code (atC qr4 [1,1,1,1])]
def ze1 : qpK → St
 | .c0 p c => St.init [(TV.agg (qaB p)), (TV.agg (qaD c))]
 | .c1 p c b4 r19 t21 t22 t23 => ⟨[(2, .c (C.ptr 2 0)), (3, .c (C.ptr 3 0)), (4, .c (C.ptr 4 0)), (5, .c (C.row 19 0 r19.length)), (21, vl 4 t21 rid), (22, vi .i64 t22), (23, vi .i64 t23)], [(2, .var ((qaB p).map C.t)), (3, .var ((qaD c).map C.t)), (4, .var ((qaB b4).map C.t)), (19, .row 54 4 (r19.map rid) 0)], []⟩
def qv9 (cx : Cx) (c : qpK) (r : qaI) : Prop := Wk prog cx (qd0 prog 135 [[0,0,1,4]] (TV.agg (qaB r))) (zb0 c) .normal (ze1 c)
abbrev qr5 (K : Nat) : Prop := ∀ c r, qd8 K c = some r → ∀ cx : Cx, cx.n = 39 → qv9 cx c r
theorem q85 (K : Nat) (ih : qr5 K) {p : qaI} {c : qaG} {r : qaI} (h : qd8 K (.c0 p c) = some r) : qc0 prog 135 [(TV.agg (qaB p)), (TV.agg (qaD c))] (TV.agg (qaB r)) :=
 qbG [[0,0,1,4]] (by kernel_rfl) (by simp) fun cx hn => ih (.c0 p c) r h cx hn
theorem ze4 {K} (ih : qr5 K) {cx} (hn : cx.n = 39) {p c} {r} (h : qd8 (K + 1) (.c0 p c) = some r) : qv9 cx (.c0 p c) r := by
 rw [qd8] at h
 rcases qaY h with ⟨h1, h⟩ | ⟨h1, h⟩
 ·obtain ⟨x2, h3, h⟩ := qaV h
  have h := oinj h; subst h
  exact wkR [rg3, rg3, bTr, rgG [oo, oo, oo, opI (.call [[0,1], [0,1]] [(TV.agg (qaD p.Const)), (TV.agg (qaD c))] (TV.agg (qaD x2))), oo, oo]] hn (aC h1 <| aC (qiD h3) <| aN)
 ·obtain ⟨h2, h⟩ := qb3 h
  exact wkG [rg3, rg3, bFa, rgG [oo, oo, opI (.ln (p.Coefs.length : Int)), opI (.mk (qaB (qaI.mk (0 : Int) (qaG.mk false []) [])) ((List.replicate (p.Coefs.length : Int).toNat ((qaB (qaI.mk (0 : Int) (qaG.mk false []) [])) : (List T))).map rid)), oo], rgG [oo, oo, opI (.ln (p.Coefs.length : Int)), oo], .pre [.tellB 4 [0,0,1,4], .rl 5 0 (List.replicate (p.Coefs.length : Int).toNat ((qaB (qaI.mk (0 : Int) (qaG.mk false []) [])) : (List T))).length, .keep [2,3,4,5,21,22,23] [2,3,4,19]]] hn (aC h1 <| aC (qdF p.Coefs rid) <| aC h2.1 <| aC h2.2.1 <| aC h2.2.2 <| aC (q82 _ _ : List.replicate (p.Coefs.length : Int).toNat (qaB (qaI.mk (0 : Int) (qaG.mk false []) [])) = (List.replicate (p.Coefs.length : Int).toNat ((qaB (qaI.mk (0 : Int) (qaG.mk false []) [])) : (List T))).map rid) <| aC (qdF p.Coefs rid) <| aC r0 <| aC (by simp : (p.Coefs.length : Int).toNat = (List.replicate (p.Coefs.length : Int).toNat ((qaB (qaI.mk (0 : Int) (qaG.mk false []) [])) : (List T))).length) <| aN) (ih _ _ h cx hn)
theorem ze3 {K} (ih : qr5 K) {cx} (hn : cx.n = 39) {p c b4 r19 t21 t22 t23} {r} (h : qd8 (K + 1) (.c1 p c b4 r19 t21 t22 t23) = some r) : qv9 cx (.c1 p c b4 r19 t21 t22 t23) r := by
 rw [qd8] at h
 rcases qaY h with ⟨h1, h⟩ | ⟨h1, h⟩
 ·obtain ⟨x2, h3, h⟩ := qaV h
  obtain ⟨x4, h5, h⟩ := qaV h
  obtain ⟨x6, h7, h⟩ := qaV h
  exact wkG [.go, rg1, bTr, rgG [oo, opI (.ix (qaB x2)), oo, oo, oo, oo], rgG [oo, oo, oo, oo, opI (.call [[0,0,1,4], [0,1]] [(TV.agg (qaB x2)), (TV.agg (qaD c))] (TV.agg (qaB x4))), .op .ir, opI (.st (qaB x6) ((r19.set (t23.toNat) (qaB x4)).map rid))], rg2, .pre [.rl 5 0 (r19.set (t23.toNat) (qaB x4)).length, .keep [2,3,4,5,21,22,23] [2,3,4,19]]] hn (aC h1 <| aC (qkO h3 : 0 ≤ t23) <| aC (qnR @qa9 h3 : (t21.map rid)[t23.toNat]? = some (qaB x2)) <| aC (q85 K ih h5 : qc0 prog 135 [(TV.agg (qaB x2)), (TV.agg (qaD c))] (TV.agg (qaB x4))) <| aC (qkO h7 : 0 ≤ t23) <| aC (q8E h7 (by simp) : t23 < ((r19.length : Nat) : Int)) <| aC (q8D @qa9 h7 : (r19.map rid)[(0 + t23.toNat)]? = some (qaB x6)) <| aC (qe3 _ _ (qaB x4) _ : (r19.map rid).set (0 + t23.toNat) (qdE (qaB x6) 0 [(T.int .i64 x4.Level), (T.bool x4.Const.Neg), (T.sl 1 (x4.Const.Abs.map qaE)), (T.sl 4 (x4.Coefs.map rid))]) = (r19.set (t23.toNat) (qaB x4)).map rid) <| aC (Nat.zero_le _ : 0 ≤ (0 + t23.toNat)) <| aC r0 <| aC (by simp : r19.length = (r19.set (t23.toNat) (qaB x4)).length) <| aN) (ih _ _ h cx hn)
 ·obtain ⟨x2, h3, h⟩ := qaV h
  have h := oinj h; subst h
  exact wkR [.go, rg1, bFa, rgG [oo, oo, oo, .snap 37 (max 0 (0 + r19.length)) (r19.map rid), opI (.call [[0], [4]] [(ti .i64 p.Level), (tl 4 r19 rid)] (TV.agg (qaB x2))), oo]] hn (aC h1 <| aC (qfA _ _ _ (by simp) : ((r19.map rid).drop 0).take r19.length = r19.map rid) <| aC (rfl : (max 0 (0 + r19.length)) = (max 0 (0 + r19.length))) <| aC (qxR h3) <| aN)
theorem qtP : ∀ K : Nat, qr5 K
 | 0, c, r, h => by rw [qd8] at h; cases h
 | K + 1, .c0 .., r, h => fun cx hn => ze4 (qtP K) hn h
 | K + 1, .c1 .., r, h => fun cx hn => ze3 (qtP K) hn h
theorem q7L {K : Nat} {p : qaI} {c : qaG} {r : qaI} (h : qr6 K p c = some r) : qc0 prog 135 [(TV.agg (qaB p)), (TV.agg (qaD c))] (TV.agg (qaB r)) :=
 qbG [[0,0,1,4]] (by kernel_rfl) (by simp) fun cx hn => qtP K (.c0 p c) r h cx hn
open Go.Proofs.Try (prog)
inductive qoB where
 | c0 (p : qaI)
def qj1 : Nat → qoB → Option qaI
 | 0, _ => none
 | K + 1, .c0 p =>
  (qk9 K (1 : Int)).bind fun x1 =>
  (qr6 K p x1).bind fun x3 =>
  some x3
def qyI (K : Nat) (p : qaI) : Option qaI := qj1 K (.c0 p)
noncomputable def q7M : Code := qcK prog 89
noncomputable def q86 : qoB → List Fr
 | .c0 .. => [.code q7M]
def zb1 : qoB → St
 | .c0 p => St.init [(TV.agg (qaB p))]
def q04 (cx : Cx) (c : qoB) (r : qaI) : Prop := Wk prog cx (qd0 prog 89 [[0,0,1,4]] (TV.agg (qaB r))) (q86 c) .normal (zb1 c)
abbrev q05 (K : Nat) : Prop := ∀ c r, qj1 K c = some r → ∀ cx : Cx, cx.n = 6 → q04 cx c r
theorem zb2 {K} (_ : q05 K) {cx} (hn : cx.n = 6) {p} {r} (h : qj1 (K + 1) (.c0 p) = some r) : q04 cx (.c0 p) r := by
 rw [qj1] at h
 obtain ⟨x1, h2, h⟩ := qaV h
 obtain ⟨x3, h4, h⟩ := qaV h
 have h := oinj h; subst h
 exact wkR [rg2, .draw [.p, (.call [[0]] [(TV.c (T.int .i64 (1 : Int)))] (TV.agg (qaD x1)))] [opI (.call [[0,0,1,4], [0,1]] [(TV.agg (qaB p)), (TV.agg (qaD x1))] (TV.agg (qaB x3))), .op .p]] hn (aC (qgH h2) <| aC (q7L h4) <| aN)
theorem qxS : ∀ K : Nat, q05 K
 | 0, c, r, h => by rw [qj1] at h; cases h
 | K + 1, .c0 .., r, h => fun cx hn => zb2 (qxS K) hn h
theorem q49 {K : Nat} {p : qaI} {r : qaI} (h : qyI K p = some r) : qc0 prog 89 [(TV.agg (qaB p))] (TV.agg (qaB r)) :=
 qbG [[0,0,1,4]] (by kernel_rfl) (by simp) fun cx hn => qxS K (.c0 p) r h cx hn
open Go.Proofs.Try (prog)
inductive qoC where
 | c0 (p : qaI)
 | c1 (p : qaI) (b2 : qaI) (out : qaI) (x : qaI) (i : Int)
def qfZ : Nat → qoC → Option qaI
 | 0, _ => none
 | K + 1, .c0 p =>
  bif (decide (p.Level ≤ (0 : Int))) then
   (qiQ K p.Const).bind fun x2 =>
   some (qaI.mk (0 : Int) x2 [])
  else
   bif (decide ((4 : Int) < p.Level)) then
    some (qaI.mk (0 : Int) (qaG.mk false []) [])
   else
    (qmA K p (5 : Int)).bind fun x3 =>
    bif x3 then
     (qyI K p).bind fun x6 =>
     some x6
    else
     (zhS K p.Level).bind fun x6 =>
     qfZ K (.c1 p (qaI.mk (0 : Int) (qaG.mk false []) []) (qaI.mk (0 : Int) (qaG.mk false []) []) x6 (wI6 ((p.Coefs.length : Int) - (1 : Int))))
 | _ + 1, .c1 _ _ out _ i =>
  bif (decide ((0 : Int) ≤ i)) then
   none
  else
   some out
def qqG (K : Nat) (p : qaI) : Option qaI := qfZ K (.c0 p)
noncomputable def qrL : Code := qcK prog 41
noncomputable def q9B : qoC → List Fr
 | .c0 .. => [.code qrL]
 | .c1 .. => [.code (.loop (atC qrL [1,1,1,1,1,0,1,0,0])), .blk 0, .code (atC qrL [1,1,1,1,1,1])]
def zb8 : qoC → St
 | .c0 p => St.init [(TV.agg (qaB p))]
 | .c1 p b2 out x i => ⟨[(1, .c (C.ptr 1 0)), (2, .c (C.ptr 2 0)), (3, .c (C.ptr 3 0)), (4, .c (C.ptr 4 0)), (5, vi .i64 i)], [(1, .var ((qaB p).map C.t)), (2, .var ((qaB b2).map C.t)), (3, .var ((qaB out).map C.t)), (4, .var ((qaB x).map C.t))], []⟩
def qu4 (cx : Cx) (c : qoC) (r : qaI) : Prop := Wk prog cx (qd0 prog 41 [[0,0,1,4]] (TV.agg (qaB r))) (q9B c) .normal (zb8 c)
abbrev qu5 (K : Nat) : Prop := ∀ c r, qfZ K c = some r → ∀ cx : Cx, cx.n = 44 → qu4 cx c r
theorem zcA {K} (ih : qu5 K) {cx} (hn : cx.n = 44) {p} {r} (h : qfZ (K + 1) (.c0 p) = some r) : qu4 cx (.c0 p) r := by
 rw [qfZ] at h
 rcases qaY h with ⟨h1, h⟩ | ⟨h1, h⟩
 ·obtain ⟨x2, h3, h⟩ := qaV h
  have h := oinj h; subst h
  exact wkR [rg2, rg3, bTr, rgG [oo, oo, opI (.call [[0,1]] [(TV.agg (qaD p.Const))] (TV.agg (qaD x2))), oo, oo]] hn (aC h1 <| aC (qjN h3) <| aN)
 ·rcases qaY h with ⟨h2, h⟩ | ⟨h2, h⟩
  ·have h := oinj h; subst h
   exact wkR [rg2, rg3, bFa, rg3, bTr, rg2] hn (aC h1 <| aC h2 <| aN)
  ·obtain ⟨x3, h4, h⟩ := qaV h
   rcases qaY h with ⟨h5, h⟩ | ⟨h5, h⟩
   ·obtain ⟨x6, h7, h⟩ := qaV h
    have h := oinj h; subst h
    exact wkR [rg2, rg3, bFa, rg3, bFa, rgG [oo, opI (.call [[0,0,1,4], [0]] [(TV.agg (qaB p)), (TV.c (T.int .i64 (5 : Int)))] (TV.c (T.bool x3)))], bTr, rgG [oo, opI (.call [[0,0,1,4]] [(TV.agg (qaB p))] (TV.agg (qaB x6))), oo]] hn (aC h1 <| aC h2 <| aC (qr8 h4) <| aC h5 <| aC (q49 h7) <| aN)
   ·obtain ⟨x6, h7, h⟩ := qaV h
    exact wkG [rg2, rg3, bFa, rg3, bFa, rgG [oo, opI (.call [[0,0,1,4], [0]] [(TV.agg (qaB p)), (TV.c (T.int .i64 (5 : Int)))] (TV.c (T.bool x3)))], bFa, rgG [oo, oo, oo, opI (.call [[0]] [(ti .i64 p.Level)] (TV.agg (qaB x6))), oo, oo, oo, oo], rgG [oo, oo, opI (.ln (p.Coefs.length : Int)), oo, oo], .pre [.tellB 2 [0,0,1,4], .tellB 3 [0,0,1,4], .keep [1,2,3,4,5] [1,2,3,4]]] hn (aC h1 <| aC h2 <| aC (qr8 h4) <| aC h5 <| aC (zb5 h7) <| aC (qdF p.Coefs rid) <| aN) (ih _ _ h cx hn)
theorem zb9 {K} (_ : qu5 K) {cx} (hn : cx.n = 44) {p b2 out x i} {r} (h : qfZ (K + 1) (.c1 p b2 out x i) = some r) : qu4 cx (.c1 p b2 out x i) r := by
 rw [qfZ] at h
 rcases qaY h with ⟨h1, h⟩ | ⟨h1, h⟩
 ·cases h
 ·have h := oinj h; subst h
  exact wkR [.go, rg2, bFa, rg2] hn (aC h1 <| aN)
theorem qsE : ∀ K : Nat, qu5 K
 | 0, c, r, h => by rw [qfZ] at h; cases h
 | K + 1, .c0 .., r, h => fun cx hn => zcA (qsE K) hn h
 | K + 1, .c1 .., r, h => fun cx hn => zb9 (qsE K) hn h
theorem qqB {K : Nat} {p : qaI} {r : qaI} (h : qqG K p = some r) : qc0 prog 41 [(TV.agg (qaB p))] (TV.agg (qaB r)) :=
 qbG [[0,0,1,4]] (by kernel_rfl) (by simp) fun cx hn => qsE K (.c0 p) r h cx hn
theorem zu9 {cs : List P} (h : ∀ z, cs.getLast? = some z → z.isZ = false) : qu0 cs = cs := by
  rcases List.eq_nil_or_concat cs with rfl | ⟨l, z, e⟩
  · rfl
  · rw [List.concat_eq_append] at e
    subst e
    exact q2S l z (h z (by simp))
theorem zvT {lv : Nat} {cs : List P} (h2 : 2 ≤ cs.length) (h : ∀ z, cs.getLast? = some z → z.isZ = false) : zc3 lv cs = .p lv cs := by
  unfold zc3
  rw [zu9 h]
  cases cs with
  | nil => simp at h2
  | cons a l => cases l with
    | nil => simp at h2
    | cons b l => rfl
theorem znE (n : Nat) : List.replicate n (qaB (qaI.mk (0 : Int) (qaG.mk false []) [])) = P.raws (List.replicate n (.k 0)) := by
  rw [qz9, List.map_replicate]
  rw [show (P.k 0).enc = ⟨0, ⟨false, []⟩, []⟩ by rw [P.enc, q3T]]
theorem zmL {b4 : qaI} {p : qaI} {c : qaG} {cs : List P} {r : qaI} (hl : cs.length ≤ 1000000)
    (hs : ∀ x ∈ cs, Ev (fun K => qr6 K x.enc c) x.enc) (hend : Ev (fun K => (qrS K p.Level (P.raws cs)).bind fun x2 => some x2) r) :
    ∀ (m i : Nat), i + m = cs.length → Ev (fun K => qd8 K (.c1 p c b4 (P.raws (cs.take i ++ List.replicate m (.k 0))) (P.raws cs) (cs.length : Int) (i : Int))) r
  | 0, i, hi => by
    refine qaT ?_
    simp only [qd8]
    rw [List.take_of_length_le (by omega), List.replicate_zero, List.append_nil]
    exact ev_f (by simp; omega) hend
  | m + 1, i, hi => by
    obtain ⟨x, hx⟩ : ∃ c, cs[i]? = some c := ⟨_, List.getElem?_eq_getElem (by omega)⟩
    have hw : wI6 ((i : Int) + 1) = ((i + 1 : Nat) : Int) := by rw [qdB (by omega)]; omega
    have hai : (cs.take i ++ List.replicate (m + 1) (P.k 0))[i]? = some (.k 0) := by
      rw [List.getElem?_append_right (by simp; omega), List.length_take, show i - min i cs.length = 0 by omega]; rfl
    refine qaT ?_
    simp only [qd8, hw]
    refine ev_t (by simp; omega) (qb6 (qjR hx) (qaP (hs x (List.mem_of_getElem? hx)) (qb6 (qjR hai) ?_)))
    rw [Int.toNat_natCast, znD]
    have e : (cs.take i ++ List.replicate (m + 1) (P.k 0)).set i x = cs.take (i + 1) ++ List.replicate m (.k 0) := by
      rw [List.set_append_right _ _ (by simp; omega), List.length_take, show i - min i cs.length = 0 by omega, List.take_add_one, hx, List.replicate_succ, List.set_cons_zero]
      simp
    rw [e]
    exact zmL hl hs hend m (i + 1) (by omega)
theorem zxA : Sm (mkI 1) := qxP (n := 1) (by omega) (by decide) (by decide)
theorem ze2 {n m : Nat} (hn : n ≤ 1000000) (hm : m ≤ 1000000) : ∀ (L : Nat) (p : P), P.C L p → P.W n m p → Ev (fun K => qr6 K p.enc (mkI 1)) p.enc := by
  intro L
  induction L using Nat.strongRecOn with
  | _ L ih =>
    intro p hC hW
    refine qaT ?_
    simp only [qr6, qd8]
    cases p with
    | k c =>
      rw [P.W] at hW
      have sa := qrH hW hn
      have h1 := qlX sa.1 zxA.1 (by have := sa.2; have := zxA.2; omega)
      rw [qcY, qcY, Int.mul_one] at h1
      exact ev_t rfl (qaP h1 (qa3 _))
    | p lv cs =>
      rw [P.C] at hC
      rw [P.W] at hW
      refine ev_f (by simp [P.enc]; omega) (qhC ?_ ?_)
      · simp only [P.enc, qeY]; omega
      · simp only [P.enc, qeY, Int.toNat_natCast]
        rw [znE]
        have hj := q25 (lv := lv) hC.2.2.2.1 hW.2 hn (by omega)
        rw [zvT hC.2.2.1 hC.2.2.2.2] at hj
        have := zmL (b4 := ⟨0, ⟨false, []⟩, []⟩) (p := (P.p lv cs).enc) (c := mkI 1) (cs := cs) (r := (P.p lv cs).enc) (by omega)
          (fun x hx => ih (lv - 1) (by omega) x (quY hC.2.2.2.1 x hx) (qxL hW.2 x hx)) (qaP hj (qa3 _)) cs.length 0 (by omega)
        rw [List.take_zero, List.nil_append] at this
        exact this
theorem q7A {p : qaI} {cs : List P} (hp : p.Coefs = P.raws cs) (hl : cs.length ≤ 1000000) (hne : 1 ≤ cs.length)
    (hs : ∀ x ∈ cs, Ev (fun K => qmA K x.enc p.Level) true) (hz : ∀ z, cs.getLast? = some z → Ev (fun K => qrR K z.enc) false) :
    ∀ (m i : Nat), i + m = cs.length → Ev (fun K => qc7 K (.c1 p (P.raws cs) (cs.length : Int) (i : Int))) true
  | 0, i, hi => by
    refine qaT ?_
    have hw : wI6 ((cs.length : Int) - 1) = ((cs.length - 1 : Nat) : Int) := by rw [qdB (by omega)]; omega
    simp only [qc7, hp, qeY, hw]
    obtain ⟨z, hx⟩ : ∃ c, cs[cs.length - 1]? = some c := ⟨_, List.getElem?_eq_getElem (by omega)⟩
    refine ev_f (by simp; omega) (qb6 (qjR hx) (qaP (hz z ?_) (qa3 _)))
    rw [List.getLast?_eq_getElem?, hx]
  | m + 1, i, hi => by
    obtain ⟨x, hx⟩ : ∃ c, cs[i]? = some c := ⟨_, List.getElem?_eq_getElem (by omega)⟩
    have hw : wI6 ((i : Int) + 1) = ((i + 1 : Nat) : Int) := by rw [qdB (by omega)]; omega
    refine qaT ?_
    simp only [qc7, hw]
    refine ev_t (by simp; omega) (qb6 (qjR hx) (qaP (hs x (List.mem_of_getElem? hx)) (ev_f rfl ?_)))
    exact q7A hp hl hne hs hz m (i + 1) (by omega)
theorem q5B {n m : Nat} (hn : n ≤ 1000000) (hm : m ≤ 1000000) : ∀ (L : Nat) (p : P), P.C L p → P.W n m p → ∀ below : Int, (L : Int) < below → Ev (fun K => qmA K p.enc below) true := by
  intro L
  induction L using Nat.strongRecOn with
  | _ L ih =>
    intro p hC hW below hb
    refine qaT ?_
    simp only [qmA, qc7]
    cases p with
    | k c =>
      rw [P.W] at hW
      have sa := qrH hW hn
      have h1 := qhB sa.1 (by have := sa.2; omega)
      rw [qcY] at h1
      refine ev_t rfl (ev_t rfl (znX (fun _ => qa3 _) fun h => qaP h1 (qeQ (qa3 _) ?_)))
      have hc : c < 0 := by simpa [P.enc, mkI] using h
      have := qkI c 0
      have e : cmpI c 0 = -1 := by omega
      rw [e]; rfl
    | p lv cs =>
      have hC0 := hC
      rw [P.C] at hC
      rw [P.W] at hW
      have h0 := qhB (a := ⟨false, []⟩) q4I (by decide)
      refine ev_f (decide_eq_false (by show ¬ ((lv : Int) = 0); omega)) (ev_f (decide_eq_false (by show ¬ ((lv : Int) < 0); omega)) (ev_f (decide_eq_false (by show ¬ (below ≤ (lv : Int)); omega)) (ev_f (by simp [P.enc, qeY]; omega) (qaP h0 (ev_f (by decide) ?_)))))
      have hh := q7A (p := (P.p lv cs).enc) (cs := cs) rfl (by omega) (by omega)
        (fun x hx => ih (lv - 1) (by omega) x (quY hC.2.2.2.1 x hx) (qxL hW.2 x hx) _ (by show ((lv - 1 : Nat) : Int) < (lv : Int); omega))
        (fun z hz => by
          have hm := List.mem_of_getLast? hz
          have := q22 (quY hC.2.2.2.1 z hm) (qxL hW.2 z hm) hn
          rw [hC.2.2.2.2 z hz] at this
          exact this) cs.length 0 (by omega)
      simp only [P.enc, qeY] at hh ⊢
      exact hh
theorem qy0 {n m : Nat} {p : P} (hC : P.C 4 p) (hW : P.W n m p) (hn : n ≤ 1000000) (hm : m ≤ 1000000) : Ev (fun K => qqG K p.enc) p.enc := by
  refine qaT ?_
  simp only [qqG, qfZ]
  cases p with
  | k c =>
    rw [P.W] at hW
    have sa := qrH hW hn
    have h1 := qkE sa.1 (by have := sa.2; omega)
    rw [qcY] at h1
    exact ev_t rfl (qaP h1 (qa3 _))
  | p lv cs =>
    have h1 := q5B hn hm 4 _ hC hW 5 (by decide)
    have h2 := ze2 hn hm 4 _ hC hW
    rw [P.C] at hC
    refine ev_f (decide_eq_false (by show ¬ ((lv : Int) ≤ 0); omega)) (ev_f (decide_eq_false (by show ¬ (4 < (lv : Int)); omega)) (qaP h1 (ev_t rfl (qaP (x := (P.p lv cs).enc) ?_ (qa3 _)))))
    refine qaT ?_
    simp only [qyI, qj1]
    exact qaP (qnH (by omega)) (qaP h2 (qa3 _))
open Go.Proofs.Try (prog)
inductive qeP where
 | c0 (s : (List qaH))
def qdJ : Nat → qeP → Option (List qaH)
 | 0, _ => none
 | _ + 1, .c0 s =>
  gd (0 ≤ (s.length : Int) ∧ 0 ≤ (s.length : Int) ∧ (s.length : Int).toNat ≤ (s.length : Int).toNat ∧ (s.length : Int).toNat ≤ s.length) <|
  some (s.take ((s.length : Int).toNat))
def qdW (K : Nat) (s : (List qaH)) : Option (List qaH) := qdJ K (.c0 s)
noncomputable def qn4 : Code := qcK prog 171
noncomputable def qoT : qeP → List Fr
 | .c0 .. => [.code qn4]
def qoV : qeP → St
 | .c0 s => St.init [(tl 6 s qaA)]
def qi4 (cx : Cx) (c : qeP) (r : (List qaH)) : Prop := Wk prog cx (qd0 prog 171 [[6]] (tl 6 r qaA)) (qoT c) .normal (qoV c)
abbrev qi5 (K : Nat) : Prop := ∀ c r, qdJ K c = some r → ∀ cx : Cx, cx.n = 9 → qi4 cx c r
theorem qoW {K} (_ : qi5 K) {cx} (hn : cx.n = 9) {s} {r} (h : qdJ (K + 1) (.c0 s) = some r) : qi4 cx (.c0 s) r := by
 rw [qdJ] at h
 obtain ⟨h1, h⟩ := qb3 h
 have h := oinj h; subst h
 exact wkR [rg1, rgG [oo, oo, opI (.ln (s.length : Int)), oo, opI (.ln (s.length : Int)), opI (.slM 0 ((s.length : Int).toNat) ((s.length : Int).toNat) ((s.take ((s.length : Int).toNat)).map qaA)), oo]] hn (aC (qdF s qaA) <| aC (qdF s qaA) <| aC r0 <| aC (⟨h1.1, rfl⟩ : 0 ≤ (s.length : Int) ∧ (s.length : Int).toNat = (s.length : Int).toNat) <| aC (⟨h1.2.1, rfl⟩ : 0 ≤ (s.length : Int) ∧ (s.length : Int).toNat = (s.length : Int).toNat) <| aC (Nat.zero_le _ : 0 ≤ (s.length : Int).toNat) <| aC h1.2.2.1 <| aC (znM _ h1.2.2.2 : (s.length : Int).toNat ≤ (s.map qaA).length) <| aC (zg7 _ _ _ : ((s.map qaA).take ((s.length : Int).toNat)).drop 0 = (s.take ((s.length : Int).toNat)).map qaA) <| aN)
theorem qiG : ∀ K : Nat, qi5 K
 | 0, c, r, h => by rw [qdJ] at h; cases h
 | K + 1, .c0 .., r, h => fun cx hn => qoW (qiG K) hn h
theorem qfB {K : Nat} {s : (List qaH)} {r : (List qaH)} (h : qdW K s = some r) : qc0 prog 171 [(tl 6 s qaA)] (tl 6 r qaA) :=
 qbG [[6]] (by kernel_rfl) (by simp) fun cx hn => qiG K (.c0 s) r h cx hn
open Go.Proofs.Try (prog)
inductive qiM where
 | c0 (x : (List Int))
 | c1 (x : (List Int)) (m : Int) (i : Int)
def qcQ : Nat → qiM → Option Int
 | 0, _ => none
 | K + 1, .c0 x =>
  bif (decide ((x.length : Int) < (1 : Int))) then
   none
  else
   (gi x (0 : Int)).bind fun x2 =>
   qcQ K (.c1 x x2 (1 : Int))
 | K + 1, .c1 x m i =>
  bif (decide (i < (x.length : Int))) then
   (gi x i).bind fun x2 =>
   qcQ K (.c1 x (min m x2) (wI6 (i + (1 : Int))))
  else
   some m
def qiS (K : Nat) (x : (List Int)) : Option Int := qcQ K (.c0 x)
noncomputable def qkY : Code := qcK prog 167
noncomputable def qyH : qiM → List Fr
 | .c0 .. => [.code qkY]
 | .c1 .. => [.code (.loop (atC qkY [1,1,1,0,1,0,0])), .blk 0, .code (atC qkY [1,1,1,1])]
def qyW : qiM → St
 | .c0 x => St.init [(tl 1 x q4R)]
 | .c1 x m i => ⟨[(0, vl 1 x q4R), (3, vi .i64 m), (4, vi .i64 i)], [], []⟩
def qm2 (cx : Cx) (c : qiM) (r : Int) : Prop := Wk prog cx (qd0 prog 167 [[0]] (ti .i64 r)) (qyH c) .normal (qyW c)
abbrev qm3 (K : Nat) : Prop := ∀ c r, qcQ K c = some r → ∀ cx : Cx, cx.n = 25 → qm2 cx c r
theorem qyY {K} (ih : qm3 K) {cx} (hn : cx.n = 25) {x} {r} (h : qcQ (K + 1) (.c0 x) = some r) : qm2 cx (.c0 x) r := by
 rw [qcQ] at h
 rcases qaY h with ⟨h1, h⟩ | ⟨h1, h⟩
 ·cases h
 ·obtain ⟨x2, h3, h⟩ := qaV h
  exact wkG [rg1, rgG [oo, opI (.ln (x.length : Int)), oo], bFa, rgG [oo, opI (.ix (q4R x2)), oo, oo], rg1, .pre [.keep [0,3,4] []]] hn (aC (qdF x q4R) <| aC h1 <| aC (qb2 h3) <| aC (qfK q4R h3) <| aN) (ih _ _ h cx hn)
theorem qyX {K} (ih : qm3 K) {cx} (hn : cx.n = 25) {x m i} {r} (h : qcQ (K + 1) (.c1 x m i) = some r) : qm2 cx (.c1 x m i) r := by
 rw [qcQ] at h
 rcases qaY h with ⟨h1, h⟩ | ⟨h1, h⟩
 ·obtain ⟨x2, h3, h⟩ := qaV h
  exact wkG [.go, rgG [oo, oo, opI (.ln (x.length : Int)), oo], bTr, rgG [oo, oo, oo, opI (.ix (q4R x2)), oo, oo, oo], rg3, .pre [.keep [0,3,4] []]] hn (aC (qdF x q4R) <| aC h1 <| aC (qb2 h3) <| aC (qfK q4R h3) <| aN) (ih _ _ h cx hn)
 ·have h := oinj h; subst h
  exact wkR [.go, rgG [oo, oo, opI (.ln (x.length : Int)), oo], bFa, rg2] hn (aC (qdF x q4R) <| aC h1 <| aN)
theorem qlU : ∀ K : Nat, qm3 K
 | 0, c, r, h => by rw [qcQ] at h; cases h
 | K + 1, .c0 .., r, h => fun cx hn => qyY (qlU K) hn h
 | K + 1, .c1 .., r, h => fun cx hn => qyX (qlU K) hn h
theorem qg7 {K : Nat} {x : (List Int)} {r : Int} (h : qiS K x = some r) : qc0 prog 167 [(tl 1 x q4R)] (ti .i64 r) :=
 qbG [[0]] (by kernel_rfl) (by simp) fun cx hn => qlU K (.c0 x) r h cx hn
open Go.Proofs.Try (prog)
inductive qcP where
 | c0 (a : Int) (b : Int)
 | c1 (a : Int) (b : Int) (i : Int)
 | c2 (a : Int) (b : Int) (i : Int) (j : Int)
 | c3 (a : Int) (b : Int) (i : Int)
def qaR : Nat → qcP → Option Unit
 | 0, _ => none
 | K + 1, .c0 a b =>
  qaR K (.c1 a b (wI6 (a + (1 : Int))))
 | K + 1, .c1 a b i =>
  bif (decide (i < b)) then
   qaR K (.c2 a b i i)
  else
   some ()
 | K + 1, .c2 a b i j =>
  bif (decide (a < j)) then
   none
  else
   qaR K (.c3 a b i)
 | K + 1, .c3 a b i =>
  qaR K (.c1 a b (wI6 (i + (1 : Int))))
def qb8 (K : Nat) (a : Int) (b : Int) : Option Unit := qaR K (.c0 a b)
noncomputable def qbI : Code := qcK prog 192
noncomputable def qgO : qcP → List Fr
 | .c0 .. => [.code qbI]
 | .c1 .. => [.code (.loop (atC qbI [1,0,0])), .blk 0]
 | .c2 .. => [.code (.loop (atC qbI [1,0,0,1,0,0,1,0,0])), .blk 2, .blk 1, .code (atC qbI [1,0,0,1,1]), .lp (atC qbI [1,0,0]), .blk 0]
 | .c3 .. => [.code (atC qbI [1,0,0,1,1]), .lp (atC qbI [1,0,0]), .blk 0]
def qgX : qcP → St
 | .c0 a b => St.init [(TV.c (T.sl 6 [])), (ti .i64 a), (ti .i64 b), (TV.c (T.fn 169))]
 | .c1 a b i => ⟨[(0, .c (C.t (T.sl 6 (([] : List qaH).map qaA)))), (1, vi .i64 a), (2, vi .i64 b), (3, .c (C.t (T.fn 169))), (8, vi .i64 i)], [], []⟩
 | .c2 a b i j => ⟨[(0, .c (C.t (T.sl 6 (([] : List qaH).map qaA)))), (1, vi .i64 a), (2, vi .i64 b), (3, .c (C.t (T.fn 169))), (8, vi .i64 i), (9, vi .i64 j)], [], []⟩
 | .c3 a b i => ⟨[(0, .c (C.t (T.sl 6 (([] : List qaH).map qaA)))), (1, vi .i64 a), (2, vi .i64 b), (3, .c (C.t (T.fn 169))), (8, vi .i64 i)], [], []⟩
def qb4 (cx : Cx) (c : qcP) (_ : Unit) : Prop := Wk prog cx (qd0 prog 192 [] (TV.tup [])) (qgO c) .normal (qgX c)
abbrev qb5 (K : Nat) : Prop := ∀ c r, qaR K c = some r → ∀ cx : Cx, cx.n = 53 → qb4 cx c r
theorem qg1 {K} (ih : qb5 K) {cx} (hn : cx.n = 53) {a b} {r} (h : qaR (K + 1) (.c0 a b) = some r) : qb4 cx (.c0 a b) r := by
 rw [qaR] at h
 exact q2Q (fuel := 46) [rg3, .pre [.keep [0,1,2,3,8] []]] _ hn (by kernel_rfl) aN (ih _ _ h cx hn)
theorem qg0 {K} (ih : qb5 K) {cx} (hn : cx.n = 53) {a b i} {r} (h : qaR (K + 1) (.c1 a b i) = some r) : qb4 cx (.c1 a b i) r := by
 rw [qaR] at h
 rcases qaY h with ⟨h1, h⟩ | ⟨h1, h⟩
 ·exact wkG [.go, rg3, bTr, rg2, .pre [.keep [0,1,2,3,8,9] []]] hn (aC h1 <| aN) (ih _ _ h cx hn)
 ·have h := oinj h; subst h
  exact wkR [.go, rg3, bFa] hn (aC h1 <| aN)
theorem qgZ {K} (ih : qb5 K) {cx} (hn : cx.n = 53) {a b i j} {r} (h : qaR (K + 1) (.c2 a b i j) = some r) : qb4 cx (.c2 a b i j) r := by
 rw [qaR] at h
 rcases qaY h with ⟨h1, h⟩ | ⟨h1, h⟩
 ·cases h
 ·exact wkG [.go, .draw [.p, .p, .p, .p, (.ga false .p), (.ga false .p), (.ga false .p), (.ga false .p), (.ga false .p), (.ga false .p), (.ga false .p), (.ga false .p), (.ga false .p), (.ga false .p), (.ga false .p), (.ga false .p), (.pk false)] [], bFa, .pre [.keep [0,1,2,3,8] []]] hn (aC h1 <| aC h1 <| aC h1 <| aC h1 <| aC h1 <| aC h1 <| aC h1 <| aC h1 <| aC h1 <| aC h1 <| aC h1 <| aC h1 <| aC h1 <| aC rf <| aN) (ih _ _ h cx hn)
theorem qgY {K} (ih : qb5 K) {cx} (hn : cx.n = 53) {a b i} {r} (h : qaR (K + 1) (.c3 a b i) = some r) : qb4 cx (.c3 a b i) r := by
 rw [qaR] at h
 exact q2Q (fuel := 44) [rg3, .pre [.keep [0,1,2,3,8] []]] _ hn (by kernel_rfl) aN (ih _ _ h cx hn)
theorem qbZ : ∀ K : Nat, qb5 K
 | 0, c, r, h => by rw [qaR] at h; cases h
 | K + 1, .c0 .., r, h => fun cx hn => qg1 (qbZ K) hn h
 | K + 1, .c1 .., r, h => fun cx hn => qg0 (qbZ K) hn h
 | K + 1, .c2 .., r, h => fun cx hn => qgZ (qbZ K) hn h
 | K + 1, .c3 .., r, h => fun cx hn => qgY (qbZ K) hn h
theorem qeJ {K : Nat} {a : Int} {b : Int} {r : Unit} (h : qb8 K a b = some r) : qc0 prog 192 [(TV.c (T.sl 6 [])), (ti .i64 a), (ti .i64 b), (TV.c (T.fn 169))] (TV.tup []) :=
 qbG [] (by kernel_rfl) (by simp) fun cx hn => qbZ K (.c0 a b) r h cx hn
open Go.Proofs.Try (prog)
inductive qc3 where
 | c0 (n : Int)
 | c1 (n : Int) (blockSize : Int) (a : Int) (b : Int)
 | c2 (n : Int) (blockSize : Int)
 | c3 (n : Int) (blockSize : Int) (a : Int) (b : Int)
def qaS : Nat → qc3 → Option Unit
 | 0, _ => none
 | K + 1, .c0 n =>
  qaS K (.c1 n (20 : Int) (0 : Int) (20 : Int))
 | K + 1, .c1 n blockSize a b =>
  bif (decide (b ≤ n)) then
   (qb8 K a b).bind fun _ =>
   qaS K (.c1 n blockSize b (wI6 (b + blockSize)))
  else
   (qb8 K a n).bind fun _ =>
   qaS K (.c2 n blockSize)
 | K + 1, .c2 n blockSize =>
  bif (decide (blockSize < n)) then
   qaS K (.c3 n blockSize (0 : Int) (wI6 ((2 : Int) * blockSize)))
  else
   some ()
 | K + 1, .c3 n blockSize a b =>
  bif (decide (b ≤ n)) then
   none
  else
   bif (decide ((wI6 (a + blockSize)) < n)) then
    none
   else
    qaS K (.c2 n (wI6 (blockSize * (2 : Int))))
def qd7 (K : Nat) (n : Int) : Option Unit := qaS K (.c0 n)
noncomputable def qbQ : Code := qcK prog 185
noncomputable def qh6 : qc3 → List Fr
 | .c0 .. => [.code qbQ]
 | .c1 .. => [.code (.loop (atC qbQ [1,1,0,0,0])), .blk 0, .code (atC qbQ [1,1,1])]
 | .c2 .. => [.code (.loop (atC qbQ [1,1,1,1,0,0])), .blk 2]
 | .c3 .. => [.code (.loop (atC qbQ [1,1,1,1,0,0,1,0,1,0,0,0])), .blk 4, .code (atC qbQ [1,1,1,1,0,0,1,0,1,1]), .blk 3, .lp (atC qbQ [1,1,1,1,0,0]), .blk 2]
def qiH : qc3 → St
 | .c0 n => St.init [(TV.c (T.sl 6 [])), (ti .i64 n), (TV.c (T.fn 169))]
 | .c1 n blockSize a b => ⟨[(0, .c (C.t (T.sl 6 (([] : List qaH).map qaA)))), (1, vi .i64 n), (2, .c (C.t (T.fn 169))), (6, vi .i64 blockSize), (7, vi .i64 a), (8, vi .i64 b)], [], []⟩
 | .c2 n blockSize => ⟨[(0, .c (C.t (T.sl 6 (([] : List qaH).map qaA)))), (1, vi .i64 n), (2, .c (C.t (T.fn 169))), (6, vi .i64 blockSize)], [], []⟩
 | .c3 n blockSize a b => ⟨[(0, .c (C.t (T.sl 6 (([] : List qaH).map qaA)))), (1, vi .i64 n), (2, .c (C.t (T.fn 169))), (6, vi .i64 blockSize), (7, vi .i64 a), (8, vi .i64 b)], [], []⟩
def qcM (cx : Cx) (c : qc3) (_ : Unit) : Prop := Wk prog cx (qd0 prog 185 [] (TV.tup [])) (qh6 c) .normal (qiH c)
abbrev qcN (K : Nat) : Prop := ∀ c r, qaS K c = some r → ∀ cx : Cx, cx.n = 63 → qcM cx c r
theorem qiL {K} (ih : qcN K) {cx} (hn : cx.n = 63) {n} {r} (h : qaS (K + 1) (.c0 n) = some r) : qcM cx (.c0 n) r := by
 rw [qaS] at h
 exact q2Q (fuel := 56) [rg1, rg3, .pre [.keep [0,1,2,6,7,8] []]] _ hn (by kernel_rfl) aN (ih _ _ h cx hn)
theorem qiK {K} (ih : qcN K) {cx} (hn : cx.n = 63) {n blockSize a b} {r} (h : qaS (K + 1) (.c1 n blockSize a b) = some r) : qcM cx (.c1 n blockSize a b) r := by
 rw [qaS] at h
 rcases qaY h with ⟨h1, h⟩ | ⟨h1, h⟩
 ·obtain ⟨x2, h3, h⟩ := qaV h
  exact wkG [.go, rg3, bTr, rgG [oo, oo, oo, oo, opI (.call [[6], [0], [0], [0]] [(TV.c (T.sl 6 [])), (ti .i64 a), (ti .i64 b), (TV.c (T.fn 169))] (TV.tup []))], rg2, rg4, .pre [.keep [0,1,2,6,7,8] []]] hn (aC h1 <| aC (qeJ h3) <| aN) (ih _ _ h cx hn)
 ·obtain ⟨x2, h3, h⟩ := qaV h
  exact wkG [.go, rg3, bFa, rgG [oo, oo, oo, oo, opI (.call [[6], [0], [0], [0]] [(TV.c (T.sl 6 [])), (ti .i64 a), (ti .i64 n), (TV.c (T.fn 169))] (TV.tup []))], .pre [.keep [0,1,2,6] []]] hn (aC h1 <| aC (qeJ h3) <| aN) (ih _ _ h cx hn)
theorem qiJ {K} (ih : qcN K) {cx} (hn : cx.n = 63) {n blockSize} {r} (h : qaS (K + 1) (.c2 n blockSize) = some r) : qcM cx (.c2 n blockSize) r := by
 rw [qaS] at h
 rcases qaY h with ⟨h1, h⟩ | ⟨h1, h⟩
 ·exact wkG [.go, rg3, bTr, rg4, .pre [.keep [0,1,2,6,7,8] []]] hn (aC h1 <| aN) (ih _ _ h cx hn)
 ·have h := oinj h; subst h
  exact wkR [.go, rg3, bFa] hn (aC h1 <| aN)
theorem qiI {K} (ih : qcN K) {cx} (hn : cx.n = 63) {n blockSize a b} {r} (h : qaS (K + 1) (.c3 n blockSize a b) = some r) : qcM cx (.c3 n blockSize a b) r := by
 rw [qaS] at h
 rcases qaY h with ⟨h1, h⟩ | ⟨h1, h⟩
 ·cases h
 ·rcases qaY h with ⟨h2, h⟩ | ⟨h2, h⟩
  ·cases h
  ·exact wkG [.go, rg3, bFa, rg4, rg3, bFa, rg3, .pre [.keep [0,1,2,6] []]] hn (aC h1 <| aC h2 <| aN) (ih _ _ h cx hn)
theorem qcG : ∀ K : Nat, qcN K
 | 0, c, r, h => by rw [qaS] at h; cases h
 | K + 1, .c0 .., r, h => fun cx hn => qiL (qcG K) hn h
 | K + 1, .c1 .., r, h => fun cx hn => qiK (qcG K) hn h
 | K + 1, .c2 .., r, h => fun cx hn => qiJ (qcG K) hn h
 | K + 1, .c3 .., r, h => fun cx hn => qiI (qcG K) hn h
theorem qhX {K : Nat} {n : Int} {r : Unit} (h : qd7 K n = some r) : qc0 prog 185 [(TV.c (T.sl 6 [])), (ti .i64 n), (TV.c (T.fn 169))] (TV.tup []) :=
 qbG [] (by kernel_rfl) (by simp) fun cx hn => qcG K (.c0 n) r h cx hn
open Go.Proofs.Try (prog)
inductive qcC where
 | c0 
def qbL : Nat → qcC → Option Unit
 | 0, _ => none
 | K + 1, .c0  =>
  (qd7 K (([] : List qaH).length : Int)).bind fun _ =>
  some ()
def qcL (K : Nat)  : Option Unit := qbL K .c0
noncomputable def qfY : Code := qcK prog 168
noncomputable def qf2 : qcC → List Fr
 | .c0  => [.code qfY]
def qf4 : qcC → St
 | .c0  => St.init [(TV.c (T.sl 6 [])), (TV.c (T.fn 169))]
def qeE (cx : Cx) (c : qcC) (_ : Unit) : Prop := Wk prog cx (qd0 prog 168 [] (TV.tup [])) (qf2 c) .normal (qf4 c)
abbrev qeF (K : Nat) : Prop := ∀ c r, qbL K c = some r → ∀ cx : Cx, cx.n = 9 → qeE cx c r
theorem qf5 {K} (_ : qeF K) {cx} (hn : cx.n = 9)  {r} (h : qbL (K + 1) .c0 = some r) : qeE cx .c0 r := by
 rw [qbL] at h
 obtain ⟨x1, h2, h⟩ := qaV h
 have h := oinj h; subst h
 exact wkR [rgG [oo, oo, opI (.ln (([] : List qaH).length : Int)), oo, opI (.call [[6], [0], [0]] [(TV.c (T.sl 6 [])), (TV.c (T.int .i64 (([] : List qaH).length : Int))), (TV.c (T.fn 169))] (TV.tup []))]] hn (aC (qdF ([] : List qaH) qaA) <| aC (qhX h2) <| aN)
theorem qd9 : ∀ K : Nat, qeF K
 | 0, c, r, h => by rw [qbL] at h; cases h
 | K + 1, .c0, r, h => fun cx hn => qf5 (qd9 K) hn h
theorem qfW {K : Nat}  {r : Unit} (h : qcL K  = some r) : qc0 prog 168 [(TV.c (T.sl 6 [])), (TV.c (T.fn 169))] (TV.tup []) :=
 qbG [] (by kernel_rfl) (by simp) fun cx hn => qd9 K .c0 r h cx hn
open Go.Proofs.Try (prog)
inductive qkR where
 | c0 (a : qa5) (b : qa5)
 | c1 (a : qa5) (b : qa5) (i : Int)
def qcE : Nat → qkR → Option Int
 | 0, _ => none
 | K + 1, .c0 a b =>
  qcE K (.c1 a b (3 : Int))
 | K + 1, .c1 a b i =>
  bif (decide ((0 : Int) ≤ i)) then
   bif (decide (i = 0)) then
    bif (decide (a.e0 < b.e0)) then
     some (-1 : Int)
    else
     bif (decide (b.e0 < a.e0)) then
      some (1 : Int)
     else
      qcE K (.c1 a b (wI6 (i - (1 : Int))))
   else
    bif (decide (i = 1)) then
     bif (decide (a.e1 < b.e1)) then
      some (-1 : Int)
     else
      bif (decide (b.e1 < a.e1)) then
       some (1 : Int)
      else
       qcE K (.c1 a b (wI6 (i - (1 : Int))))
    else
     bif (decide (i = 2)) then
      bif (decide (a.e2 < b.e2)) then
       some (-1 : Int)
      else
       bif (decide (b.e2 < a.e2)) then
        some (1 : Int)
       else
        qcE K (.c1 a b (wI6 (i - (1 : Int))))
     else
      bif (decide (i = 3)) then
       bif (decide (a.e3 < b.e3)) then
        some (-1 : Int)
       else
        bif (decide (b.e3 < a.e3)) then
         some (1 : Int)
        else
         qcE K (.c1 a b (wI6 (i - (1 : Int))))
      else
       none
  else
   some (0 : Int)
def qn9 (K : Nat) (a : qa5) (b : qa5) : Option Int := qcE K (.c0 a b)
noncomputable def qm1 : Code := qcK prog 170
noncomputable def q17 : qkR → List Fr
 | .c0 .. => [.code qm1]
 | .c1 .. => [.code (.loop (atC qm1 [1,0,1,0,0])), .blk 0, .code (atC qm1 [1,1])]
def q2V : qkR → St
 | .c0 a b => St.init [(TV.agg (qbB a)), (TV.agg (qbB b))]
 | .c1 a b i => ⟨[(2, .c (C.ptr 2 0)), (3, .c (C.ptr 3 0)), (5, vi .i64 i)], [(2, .var ((qbB a).map C.t)), (3, .var ((qbB b).map C.t))], []⟩
def qp9 (cx : Cx) (c : qkR) (r : Int) : Prop := Wk prog cx (qd0 prog 170 [[0]] (ti .i64 r)) (q17 c) .normal (q2V c)
abbrev qqA (K : Nat) : Prop := ∀ c r, qcE K c = some r → ∀ cx : Cx, cx.n = 24 → qp9 cx c r
theorem q2Y {K} (ih : qqA K) {cx} (hn : cx.n = 24) {a b} {r} (h : qcE (K + 1) (.c0 a b) = some r) : qp9 cx (.c0 a b) r := by
 rw [qcE] at h
 exact q2Q (fuel := 56) [rg3, rg1, .pre [.keep [2,3,5] [2,3]]] _ hn (by kernel_rfl) aN (ih _ _ h cx hn)
theorem q2X {K} (ih : qqA K) {cx} (hn : cx.n = 24) {a b i} {r} (h : qcE (K + 1) (.c1 a b i) = some r) : qp9 cx (.c1 a b i) r := by
 rw [qcE] at h
 rcases qaY h with ⟨h1, h⟩ | ⟨h1, h⟩
 ·rcases qaY h with ⟨h2, h⟩ | ⟨h2, h⟩
  ·rcases qaY h with ⟨h3, h⟩ | ⟨h3, h⟩
   ·have h := oinj h; subst h
    exact wkR [.go, rg2, bTr, .draw [.p, (.ia 0), .p, .p, (.ia 0), .p] [.op .p], bTr, rg1] hn (aC h1 <| aC (of_decide_eq_true h2 : i = ((0 : Nat) : Int)) <| aC (of_decide_eq_true h2 : i = ((0 : Nat) : Int)) <| aC h3 <| aN)
   ·rcases qaY h with ⟨h4, h⟩ | ⟨h4, h⟩
    ·have h := oinj h; subst h
     exact wkR [.go, rg2, bTr, .draw [.p, (.ia 0), .p, .p, (.ia 0), .p] [.op .p], bFa, .draw [.p, (.ia 0), .p, .p, (.ia 0), .p] [.op .p], bTr, rg1] hn (aC h1 <| aC (of_decide_eq_true h2 : i = ((0 : Nat) : Int)) <| aC (of_decide_eq_true h2 : i = ((0 : Nat) : Int)) <| aC h3 <| aC (of_decide_eq_true h2 : i = ((0 : Nat) : Int)) <| aC (of_decide_eq_true h2 : i = ((0 : Nat) : Int)) <| aC h4 <| aN)
    ·exact wkG [.go, rg2, bTr, .draw [.p, (.ia 0), .p, .p, (.ia 0), .p] [.op .p], bFa, .draw [.p, (.ia 0), .p, .p, (.ia 0), .p] [.op .p], bFa, rg3, .pre [.keep [2,3,5] [2,3]]] hn (aC h1 <| aC (of_decide_eq_true h2 : i = ((0 : Nat) : Int)) <| aC (of_decide_eq_true h2 : i = ((0 : Nat) : Int)) <| aC h3 <| aC (of_decide_eq_true h2 : i = ((0 : Nat) : Int)) <| aC (of_decide_eq_true h2 : i = ((0 : Nat) : Int)) <| aC h4 <| aN) (ih _ _ h cx hn)
  ·rcases qaY h with ⟨h3, h⟩ | ⟨h3, h⟩
   ·rcases qaY h with ⟨h4, h⟩ | ⟨h4, h⟩
    ·have h := oinj h; subst h
     exact wkR [.go, rg2, bTr, .draw [.p, (.ia 1), .p, .p, (.ia 1), .p] [.op .p], bTr, rg1] hn (aC h1 <| aC (of_decide_eq_true h3 : i = ((1 : Nat) : Int)) <| aC (of_decide_eq_true h3 : i = ((1 : Nat) : Int)) <| aC h4 <| aN)
    ·rcases qaY h with ⟨h5, h⟩ | ⟨h5, h⟩
     ·have h := oinj h; subst h
      exact wkR [.go, rg2, bTr, .draw [.p, (.ia 1), .p, .p, (.ia 1), .p] [.op .p], bFa, .draw [.p, (.ia 1), .p, .p, (.ia 1), .p] [.op .p], bTr, rg1] hn (aC h1 <| aC (of_decide_eq_true h3 : i = ((1 : Nat) : Int)) <| aC (of_decide_eq_true h3 : i = ((1 : Nat) : Int)) <| aC h4 <| aC (of_decide_eq_true h3 : i = ((1 : Nat) : Int)) <| aC (of_decide_eq_true h3 : i = ((1 : Nat) : Int)) <| aC h5 <| aN)
     ·exact wkG [.go, rg2, bTr, .draw [.p, (.ia 1), .p, .p, (.ia 1), .p] [.op .p], bFa, .draw [.p, (.ia 1), .p, .p, (.ia 1), .p] [.op .p], bFa, rg3, .pre [.keep [2,3,5] [2,3]]] hn (aC h1 <| aC (of_decide_eq_true h3 : i = ((1 : Nat) : Int)) <| aC (of_decide_eq_true h3 : i = ((1 : Nat) : Int)) <| aC h4 <| aC (of_decide_eq_true h3 : i = ((1 : Nat) : Int)) <| aC (of_decide_eq_true h3 : i = ((1 : Nat) : Int)) <| aC h5 <| aN) (ih _ _ h cx hn)
   ·rcases qaY h with ⟨h4, h⟩ | ⟨h4, h⟩
    ·rcases qaY h with ⟨h5, h⟩ | ⟨h5, h⟩
     ·have h := oinj h; subst h
      exact wkR [.go, rg2, bTr, .draw [.p, (.ia 2), .p, .p, (.ia 2), .p] [.op .p], bTr, rg1] hn (aC h1 <| aC (of_decide_eq_true h4 : i = ((2 : Nat) : Int)) <| aC (of_decide_eq_true h4 : i = ((2 : Nat) : Int)) <| aC h5 <| aN)
     ·rcases qaY h with ⟨h6, h⟩ | ⟨h6, h⟩
      ·have h := oinj h; subst h
       exact wkR [.go, rg2, bTr, .draw [.p, (.ia 2), .p, .p, (.ia 2), .p] [.op .p], bFa, .draw [.p, (.ia 2), .p, .p, (.ia 2), .p] [.op .p], bTr, rg1] hn (aC h1 <| aC (of_decide_eq_true h4 : i = ((2 : Nat) : Int)) <| aC (of_decide_eq_true h4 : i = ((2 : Nat) : Int)) <| aC h5 <| aC (of_decide_eq_true h4 : i = ((2 : Nat) : Int)) <| aC (of_decide_eq_true h4 : i = ((2 : Nat) : Int)) <| aC h6 <| aN)
      ·exact wkG [.go, rg2, bTr, .draw [.p, (.ia 2), .p, .p, (.ia 2), .p] [.op .p], bFa, .draw [.p, (.ia 2), .p, .p, (.ia 2), .p] [.op .p], bFa, rg3, .pre [.keep [2,3,5] [2,3]]] hn (aC h1 <| aC (of_decide_eq_true h4 : i = ((2 : Nat) : Int)) <| aC (of_decide_eq_true h4 : i = ((2 : Nat) : Int)) <| aC h5 <| aC (of_decide_eq_true h4 : i = ((2 : Nat) : Int)) <| aC (of_decide_eq_true h4 : i = ((2 : Nat) : Int)) <| aC h6 <| aN) (ih _ _ h cx hn)
    ·rcases qaY h with ⟨h5, h⟩ | ⟨h5, h⟩
     ·rcases qaY h with ⟨h6, h⟩ | ⟨h6, h⟩
      ·have h := oinj h; subst h
       exact wkR [.go, rg2, bTr, .draw [.p, (.ia 3), .p, .p, (.ia 3), .p] [.op .p], bTr, rg1] hn (aC h1 <| aC (of_decide_eq_true h5 : i = ((3 : Nat) : Int)) <| aC (of_decide_eq_true h5 : i = ((3 : Nat) : Int)) <| aC h6 <| aN)
      ·rcases qaY h with ⟨h7, h⟩ | ⟨h7, h⟩
       ·have h := oinj h; subst h
        exact wkR [.go, rg2, bTr, .draw [.p, (.ia 3), .p, .p, (.ia 3), .p] [.op .p], bFa, .draw [.p, (.ia 3), .p, .p, (.ia 3), .p] [.op .p], bTr, rg1] hn (aC h1 <| aC (of_decide_eq_true h5 : i = ((3 : Nat) : Int)) <| aC (of_decide_eq_true h5 : i = ((3 : Nat) : Int)) <| aC h6 <| aC (of_decide_eq_true h5 : i = ((3 : Nat) : Int)) <| aC (of_decide_eq_true h5 : i = ((3 : Nat) : Int)) <| aC h7 <| aN)
       ·exact wkG [.go, rg2, bTr, .draw [.p, (.ia 3), .p, .p, (.ia 3), .p] [.op .p], bFa, .draw [.p, (.ia 3), .p, .p, (.ia 3), .p] [.op .p], bFa, rg3, .pre [.keep [2,3,5] [2,3]]] hn (aC h1 <| aC (of_decide_eq_true h5 : i = ((3 : Nat) : Int)) <| aC (of_decide_eq_true h5 : i = ((3 : Nat) : Int)) <| aC h6 <| aC (of_decide_eq_true h5 : i = ((3 : Nat) : Int)) <| aC (of_decide_eq_true h5 : i = ((3 : Nat) : Int)) <| aC h7 <| aN) (ih _ _ h cx hn)
     ·cases h
 ·have h := oinj h; subst h
  exact wkR [.go, rg2, bFa, rg1] hn (aC h1 <| aN)
theorem qn3 : ∀ K : Nat, qqA K
 | 0, c, r, h => by rw [qcE] at h; cases h
 | K + 1, .c0 .., r, h => fun cx hn => q2Y (qn3 K) hn h
 | K + 1, .c1 .., r, h => fun cx hn => q2X (qn3 K) hn h
theorem qyV {K : Nat} {a : qa5} {b : qa5} {r : Int} (h : qn9 K a b = some r) : qc0 prog 170 [(TV.agg (qbB a)), (TV.agg (qbB b))] (ti .i64 r) :=
 qbG [[0]] (by kernel_rfl) (by simp) fun cx hn => qn3 K (.c0 a b) r h cx hn
open Go.Proofs.Try (prog)
inductive qm0 where
 | c0 (a : qaH) (b : qaH)
def qi3 : Nat → qm0 → Option Int
 | 0, _ => none
 | K + 1, .c0 a b =>
  (qn9 K b.Exp a.Exp).bind fun x1 =>
  some x1
def qkJ (K : Nat) (a : qaH) (b : qaH) : Option Int := qi3 K (.c0 a b)
noncomputable def q48 : Code := qcK prog 169
noncomputable def q7F : qm0 → List Fr
 | .c0 .. => [.code q48]
def q8W : qm0 → St
 | .c0 a b => St.init [(TV.agg (qaA a)), (TV.agg (qaA b))]
def qyT (cx : Cx) (c : qm0) (r : Int) : Prop := Wk prog cx (qd0 prog 169 [[0]] (ti .i64 r)) (q7F c) .normal (q8W c)
abbrev qyU (K : Nat) : Prop := ∀ c r, qi3 K c = some r → ∀ cx : Cx, cx.n = 10 → qyT cx c r
theorem q8X {K} (_ : qyU K) {cx} (hn : cx.n = 10) {a b} {r} (h : qi3 (K + 1) (.c0 a b) = some r) : qyT cx (.c0 a b) r := by
 rw [qi3] at h
 obtain ⟨x1, h2, h⟩ := qaV h
 have h := oinj h; subst h
 exact wkR [rg3, rgG [oo, oo, oo, oo, opI (.call [[0,0,0,0], [0,0,0,0]] [(TV.agg (qbB b.Exp)), (TV.agg (qbB a.Exp))] (ti .i64 x1)), oo]] hn (aC (qyV h2) <| aN)
theorem qv6 : ∀ K : Nat, qyU K
 | 0, c, r, h => by rw [qi3] at h; cases h
 | K + 1, .c0 .., r, h => fun cx hn => q8X (qv6 K) hn h
theorem qe7 {K : Nat} {a : qaH} {b : qaH} {r : Int} (h : qkJ K a b = some r) : qc0 prog 169 [(TV.agg (qaA a)), (TV.agg (qaA b))] (ti .i64 r) :=
 qbG [[0]] (by kernel_rfl) (by simp) fun cx hn => qv6 K (.c0 a b) r h cx hn
open Go.Proofs.Try (prog)
inductive qcO where
 | c0 (row : (List qaH)) (a : Int) (b : Int)
 | c1 (r22 : (List qaH)) (a : Int) (b : Int) (i : Int)
 | c2 (r22 : (List qaH)) (a : Int) (b : Int) (i : Int) (j : Int)
 | c3 (r22 : (List qaH)) (a : Int) (b : Int) (i : Int)
def qaL : Nat → qcO → Option (List qaH)
 | 0, _ => none
 | K + 1, .c0 row a b =>
  qaL K (.c1 row a b (wI6 (a + (1 : Int))))
 | K + 1, .c1 r22 a b i =>
  bif (decide (i < b)) then
   qaL K (.c2 r22 a b i i)
  else
   some r22
 | K + 1, .c2 r22 a b i j =>
  bif (decide (a < j)) then
   (gi r22 j).bind fun x2 =>
   (gi r22 (wI6 (j - (1 : Int)))).bind fun x4 =>
   (qkJ K x2 x4).bind fun x6 =>
   bif (decide (x6 < (0 : Int))) then
    (gi r22 (wI6 (j - (1 : Int)))).bind fun x9 =>
    (gi r22 j).bind fun x11 =>
    (gi r22 j).bind fun _ =>
    (gi (r22.set (j.toNat) x9) (wI6 (j - (1 : Int)))).bind fun _ =>
    qaL K (.c2 ((r22.set (j.toNat) x9).set ((wI6 (j - (1 : Int))).toNat) x11) a b i (wI6 (j - (1 : Int))))
   else
    qaL K (.c3 r22 a b i)
  else
   qaL K (.c3 r22 a b i)
 | K + 1, .c3 r22 a b i =>
  qaL K (.c1 r22 a b (wI6 (i + (1 : Int))))
def qb7 (K : Nat) (row : (List qaH)) (a : Int) (b : Int) : Option (List qaH) := qaL K (.c0 row a b)
noncomputable def qbF : Code := qmX prog 192
noncomputable def qgI : qcO → List Fr
 | .c0 .. => [.code qbF]
 | .c1 .. => [.code (.loop (atC qbF [1,0,0])), .blk 0]
 | .c2 .. => [.code (.loop (atC qbF [1,0,0,1,0,0,1,0,0])), .blk 2, .blk 1, .code (atC qbF [1,0,0,1,1]), .lp (atC qbF [1,0,0]), .blk 0]
 | .c3 .. => [.code (atC qbF [1,0,0,1,1]), .lp (atC qbF [1,0,0]), .blk 0]
def qgJ (H : List (Nat × Blk)) (exs : List V) : qcO → St
 | .c0 row a b => ⟨idxV 0 [.c (C.row 22 0 row.length), vi .i64 a, vi .i64 b, .c (C.t (T.fn 169))], [(22, .row 135 6 (row.map qaA) 0)] ++ H, exs⟩
 | .c1 r22 a b i => ⟨[(0, .c (C.row 22 0 r22.length)), (1, vi .i64 a), (2, vi .i64 b), (3, .c (C.t (T.fn 169))), (8, vi .i64 i)], [(22, .row 135 6 (r22.map qaA) 0)] ++ H, exs⟩
 | .c2 r22 a b i j => ⟨[(0, .c (C.row 22 0 r22.length)), (1, vi .i64 a), (2, vi .i64 b), (3, .c (C.t (T.fn 169))), (8, vi .i64 i), (9, vi .i64 j)], [(22, .row 135 6 (r22.map qaA) 0)] ++ H, exs⟩
 | .c3 r22 a b i => ⟨[(0, .c (C.row 22 0 r22.length)), (1, vi .i64 a), (2, vi .i64 b), (3, .c (C.t (T.fn 169))), (8, vi .i64 i)], [(22, .row 135 6 (r22.map qaA) 0)] ++ H, exs⟩
def qb0 (cx : Cx) (H : List (Nat × Blk)) (exs : List V) (c : qcO) (r : (List qaH)) : Prop := Wk prog cx (zl4 prog 192 ([(22, .row 135 6 (r.map qaA) 0)] ++ H) exs (.tup [])) (qgI c) .normal (qgJ H exs c)
abbrev qb1 (K : Nat) : Prop := ∀ c r, qaL K c = some r → ∀ cx : Cx, cx.n = 53 → ∀ H exs, qb0 cx H exs c r
theorem qgN {K} (ih : qb1 K) {cx} (hn : cx.n = 53) (H : List (Nat × Blk)) (exs : List V) {row a b} {r} (h : qaL (K + 1) (.c0 row a b) = some r) : qb0 cx H exs (.c0 row a b) r := by
 rw [qaL] at h
 exact wkG [rg3, .pre [.rl 0 0 row.length, .keepT [0,1,2,3,8]]] hn (aC r0 <| aC (lq row) <| aN) (ih _ _ h cx hn H exs)
theorem qgM {K} (ih : qb1 K) {cx} (hn : cx.n = 53) (H : List (Nat × Blk)) (exs : List V) {r22 a b i} {r} (h : qaL (K + 1) (.c1 r22 a b i) = some r) : qb0 cx H exs (.c1 r22 a b i) r := by
 rw [qaL] at h
 rcases qaY h with ⟨h1, h⟩ | ⟨h1, h⟩
 ·exact wkG [.go, rg3, bTr, rg2, .pre [.rl 0 0 r22.length, .keepT [0,1,2,3,8,9]]] hn (aC h1 <| aC r0 <| aC (lq r22) <| aN) (ih _ _ h cx hn H exs)
 ·have h := oinj h; subst h
  exact qfG (fuel := 68) [.go, rg3, bFa]
   _
   ((22, .row 135 6 (r22.map qaA) 0) :: H) hn (by kernel_rfl) (aC h1 <| aN) (fun _ => rfl)
theorem qgL {K} (ih : qb1 K) {cx} (hn : cx.n = 53) (H : List (Nat × Blk)) (exs : List V) {r22 a b i j} {r} (h : qaL (K + 1) (.c2 r22 a b i j) = some r) : qb0 cx H exs (.c2 r22 a b i j) r := by
 rw [qaL] at h
 rcases qaY h with ⟨h1, h⟩ | ⟨h1, h⟩
 ·obtain ⟨x2, h3, h⟩ := qaV h
  obtain ⟨x4, h5, h⟩ := qaV h
  obtain ⟨x6, h7, h⟩ := qaV h
  rcases qaY h with ⟨h8, h⟩ | ⟨h8, h⟩
  ·obtain ⟨x9, h10, h⟩ := qaV h
   obtain ⟨x11, h12, h⟩ := qaV h
   obtain ⟨x13, h14, h⟩ := qaV h
   obtain ⟨x15, h16, h⟩ := qaV h
   exact wkG [.go, .draw [.p, .p, .p, .p, (.ga true .p), (.ga true .mv), (.ga true .p), (.ga true .ir), (.ga true (.ld (qaA x2))), (.ga true .mv), (.ga true .p), (.ga true .p), (.ga true .ir), (.ga true (.ld (qaA x4))), (.ga true (.call [[0,1,0,0,0,0], [0,1,0,0,0,0]] [(TV.agg (qaA x2)), (TV.agg (qaA x4))] (ti .i64 x6))), (.ga true .p), (.pk true)] [], bTr, .draw [.mv, .p, .mv, .p, .p, .mv, .p, .p, .ir, (.ld (qaA x9)), .mv, .p, .ir, (.ld (qaA x11)), .ir, (.st (qaA x13) ((r22.set (j.toNat) x9).map qaA))] [.op .ir, opI (.st (qaA x15) (((r22.set (j.toNat) x9).set ((wI6 (j - (1 : Int))).toNat) x11).map qaA))], rg3, .pre [.rl 0 0 ((r22.set (j.toNat) x9).set ((wI6 (j - (1 : Int))).toNat) x11).length, .nrm 2, .keepT [0,1,2,3,8,9]]] hn (aC h1 <| aC h1 <| aC h1 <| aC h1 <| aC (qb2 h3) <| aC (qcW h3 (by simp) : j < ((r22.length : Nat) : Int)) <| aC h1 <| aC (qcX qaA h3 : (r22.map qaA)[(0 + j.toNat)]? = some (qaA x2)) <| aC h1 <| aC h1 <| aC h1 <| aC h1 <| aC (qb2 h5) <| aC (qcW h5 (by simp) : (wI6 (j - (1 : Int))) < ((r22.length : Nat) : Int)) <| aC h1 <| aC (qcX qaA h5 : (r22.map qaA)[(0 + (wI6 (j - (1 : Int))).toNat)]? = some (qaA x4)) <| aC h1 <| aC (qe7 h7) <| aC h1 <| aC h1 <| aC h8 <| aC (qb2 h10) <| aC (qcW h10 (by simp) : (wI6 (j - (1 : Int))) < ((r22.length : Nat) : Int)) <| aC (qcX qaA h10 : (r22.map qaA)[(0 + (wI6 (j - (1 : Int))).toNat)]? = some (qaA x9)) <| aC (qb2 h12) <| aC (qcW h12 (by simp) : j < ((r22.length : Nat) : Int)) <| aC (qcX qaA h12 : (r22.map qaA)[(0 + j.toNat)]? = some (qaA x11)) <| aC (qb2 h14) <| aC (qcW h14 (by simp) : j < ((r22.length : Nat) : Int)) <| aC (qcX qaA h14 : (r22.map qaA)[(0 + j.toNat)]? = some (qaA x13)) <| aC (qe3 _ _ x9 _ : (r22.map qaA).set (0 + j.toNat) (qdE (qaA x13) 0 [(T.bool x9.Coef.Neg), (T.sl 1 (x9.Coef.Abs.map qaE)), (T.int .i64 x9.Exp.e0), (T.int .i64 x9.Exp.e1), (T.int .i64 x9.Exp.e2), (T.int .i64 x9.Exp.e3)]) = (r22.set (j.toNat) x9).map qaA) <| aC (Nat.zero_le _ : 0 ≤ (0 + j.toNat)) <| aC (qb2 h16) <| aC (qcW h16 (by simp) : (wI6 (j - (1 : Int))) < ((r22.length : Nat) : Int)) <| aC (qcX qaA h16 : ((r22.set (j.toNat) x9).map qaA)[(0 + (wI6 (j - (1 : Int))).toNat)]? = some (qaA x15)) <| aC (qe3 _ _ x11 _ : ((r22.set (j.toNat) x9).map qaA).set (0 + (wI6 (j - (1 : Int))).toNat) (qdE (qaA x15) 0 [(T.bool x11.Coef.Neg), (T.sl 1 (x11.Coef.Abs.map qaE)), (T.int .i64 x11.Exp.e0), (T.int .i64 x11.Exp.e1), (T.int .i64 x11.Exp.e2), (T.int .i64 x11.Exp.e3)]) = ((r22.set (j.toNat) x9).set ((wI6 (j - (1 : Int))).toNat) x11).map qaA) <| aC (Nat.zero_le _ : 0 ≤ (0 + (wI6 (j - (1 : Int))).toNat)) <| aC r0 <| aC (by simp : r22.length = ((r22.set (j.toNat) x9).set ((wI6 (j - (1 : Int))).toNat) x11).length) <| aN) (ih _ _ h cx hn H exs)
  ·exact wkG [.go, .draw [.p, .p, .p, .p, (.ga true .p), (.ga true .mv), (.ga true .p), (.ga true .ir), (.ga true (.ld (qaA x2))), (.ga true .mv), (.ga true .p), (.ga true .p), (.ga true .ir), (.ga true (.ld (qaA x4))), (.ga true (.call [[0,1,0,0,0,0], [0,1,0,0,0,0]] [(TV.agg (qaA x2)), (TV.agg (qaA x4))] (ti .i64 x6))), (.ga true .p), (.pk true)] [], bFa, .pre [.rl 0 0 r22.length, .keepT [0,1,2,3,8]]] hn (aC h1 <| aC h1 <| aC h1 <| aC h1 <| aC (qb2 h3) <| aC (qcW h3 (by simp) : j < ((r22.length : Nat) : Int)) <| aC h1 <| aC (qcX qaA h3 : (r22.map qaA)[(0 + j.toNat)]? = some (qaA x2)) <| aC h1 <| aC h1 <| aC h1 <| aC h1 <| aC (qb2 h5) <| aC (qcW h5 (by simp) : (wI6 (j - (1 : Int))) < ((r22.length : Nat) : Int)) <| aC h1 <| aC (qcX qaA h5 : (r22.map qaA)[(0 + (wI6 (j - (1 : Int))).toNat)]? = some (qaA x4)) <| aC h1 <| aC (qe7 h7) <| aC h1 <| aC h1 <| aC h8 <| aC r0 <| aC (lq r22) <| aN) (ih _ _ h cx hn H exs)
 ·exact wkG [.go, .draw [.p, .p, .p, .p, (.ga false .p), (.ga false .p), (.ga false .p), (.ga false .p), (.ga false .p), (.ga false .p), (.ga false .p), (.ga false .p), (.ga false .p), (.ga false .p), (.ga false .p), (.ga false .p), (.pk false)] [], bFa, .pre [.rl 0 0 r22.length, .keepT [0,1,2,3,8]]] hn (aC h1 <| aC h1 <| aC h1 <| aC h1 <| aC h1 <| aC h1 <| aC h1 <| aC h1 <| aC h1 <| aC h1 <| aC h1 <| aC h1 <| aC h1 <| aC rf <| aC r0 <| aC (lq r22) <| aN) (ih _ _ h cx hn H exs)
theorem qgK {K} (ih : qb1 K) {cx} (hn : cx.n = 53) (H : List (Nat × Blk)) (exs : List V) {r22 a b i} {r} (h : qaL (K + 1) (.c3 r22 a b i) = some r) : qb0 cx H exs (.c3 r22 a b i) r := by
 rw [qaL] at h
 exact wkG [rg3, .pre [.rl 0 0 r22.length, .keepT [0,1,2,3,8]]] hn (aC r0 <| aC (lq r22) <| aN) (ih _ _ h cx hn H exs)
theorem qbX : ∀ K : Nat, qb1 K
 | 0, c, r, h => by rw [qaL] at h; cases h
 | K + 1, .c0 .., r, h => fun cx hn H exs => qgN (qbX K) hn H exs h
 | K + 1, .c1 .., r, h => fun cx hn H exs => qgM (qbX K) hn H exs h
 | K + 1, .c2 .., r, h => fun cx hn H exs => qgL (qbX K) hn H exs h
 | K + 1, .c3 .., r, h => fun cx hn H exs => qgK (qbX K) hn H exs h
theorem qeD {K : Nat} {row : (List qaH)} {a : Int} {b : Int} {r : (List qaH)} (h : qb7 K row a b = some r) : qkQ prog 192 [.c (C.row 22 0 row.length), vi .i64 a, vi .i64 b, .c (C.t (T.fn 169))] [(22, .row 135 6 (row.map qaA) 0)] [(22, .row 135 6 (r.map qaA) 0)] (.tup []) :=
 qtC (n := 53) (by kernel_rfl) (by simp) fun cx hn H exs => qbX K (.c0 row a b) r h cx hn H exs
open Go.Proofs.Try (prog)
inductive qcU where
 | c0 (row : (List qaH)) (a : Int) (b : Int) (n : Int)
 | c1 (r22 : (List qaH)) (a : Int) (b : Int) (n : Int) (i : Int)
def qa0 : Nat → qcU → Option (List qaH)
 | 0, _ => none
 | K + 1, .c0 row a b n =>
  qa0 K (.c1 row a b n (0 : Int))
 | K + 1, .c1 r22 a b n i =>
  bif (decide (i < n)) then
   (gi r22 (wI6 (b + i))).bind fun x2 =>
   (gi r22 (wI6 (a + i))).bind fun x4 =>
   (gi r22 (wI6 (a + i))).bind fun _ =>
   (gi (r22.set ((wI6 (a + i)).toNat) x2) (wI6 (b + i))).bind fun _ =>
   qa0 K (.c1 ((r22.set ((wI6 (a + i)).toNat) x2).set ((wI6 (b + i)).toNat) x4) a b n (wI6 (i + (1 : Int))))
  else
   some r22
def qbU (K : Nat) (row : (List qaH)) (a : Int) (b : Int) (n : Int) : Option (List qaH) := qa0 K (.c0 row a b n)
noncomputable def qeR : Code := qmX prog 198
noncomputable def qg5 : qcU → List Fr
 | .c0 .. => [.code qeR]
 | .c1 .. => [.code (.loop (atC qeR [1,0,0])), .blk 0]
def qhJ (H : List (Nat × Blk)) (exs : List V) : qcU → St
 | .c0 row a b n => ⟨idxV 0 [.c (C.row 22 0 row.length), vi .i64 a, vi .i64 b, vi .i64 n, .c (C.t (T.fn 169))], [(22, .row 135 6 (row.map qaA) 0)] ++ H, exs⟩
 | .c1 r22 a b n i => ⟨[(0, .c (C.row 22 0 r22.length)), (1, vi .i64 a), (2, vi .i64 b), (3, vi .i64 n), (10, vi .i64 i)], [(22, .row 135 6 (r22.map qaA) 0)] ++ H, exs⟩
def qdT (cx : Cx) (H : List (Nat × Blk)) (exs : List V) (c : qcU) (r : (List qaH)) : Prop := Wk prog cx (zl4 prog 198 ([(22, .row 135 6 (r.map qaA) 0)] ++ H) exs (.tup [])) (qg5 c) .normal (qhJ H exs c)
abbrev qdU (K : Nat) : Prop := ∀ c r, qa0 K c = some r → ∀ cx : Cx, cx.n = 38 → ∀ H exs, qdT cx H exs c r
theorem qhL {K} (ih : qdU K) {cx} (hn : cx.n = 38) (H : List (Nat × Blk)) (exs : List V) {row a b n} {r} (h : qa0 (K + 1) (.c0 row a b n) = some r) : qdT cx H exs (.c0 row a b n) r := by
 rw [qa0] at h
 exact wkG [rg1, .pre [.rl 0 0 row.length, .keepT [0,1,2,3,10]]] hn (aC r0 <| aC (lq row) <| aN) (ih _ _ h cx hn H exs)
theorem qhK {K} (ih : qdU K) {cx} (hn : cx.n = 38) (H : List (Nat × Blk)) (exs : List V) {r22 a b n i} {r} (h : qa0 (K + 1) (.c1 r22 a b n i) = some r) : qdT cx H exs (.c1 r22 a b n i) r := by
 rw [qa0] at h
 rcases qaY h with ⟨h1, h⟩ | ⟨h1, h⟩
 ·obtain ⟨x2, h3, h⟩ := qaV h
  obtain ⟨x4, h5, h⟩ := qaV h
  obtain ⟨x6, h7, h⟩ := qaV h
  obtain ⟨x8, h9, h⟩ := qaV h
  exact wkG [.go, rg3, bTr, .draw [.mv, .p, .p, .p, .mv, .p, .p, .p, .mv, .p, .p, .p, .ir, (.ld (qaA x2)), .mv, .p, .p, .p, .ir, (.ld (qaA x4)), .ir, (.st (qaA x6) ((r22.set ((wI6 (a + i)).toNat) x2).map qaA))] [.op .ir, opI (.st (qaA x8) (((r22.set ((wI6 (a + i)).toNat) x2).set ((wI6 (b + i)).toNat) x4).map qaA))], rg3, .pre [.rl 0 0 ((r22.set ((wI6 (a + i)).toNat) x2).set ((wI6 (b + i)).toNat) x4).length, .nrm 2, .keepT [0,1,2,3,10]]] hn (aC h1 <| aC (qb2 h3) <| aC (qcW h3 (by simp) : (wI6 (b + i)) < ((r22.length : Nat) : Int)) <| aC (qcX qaA h3 : (r22.map qaA)[(0 + (wI6 (b + i)).toNat)]? = some (qaA x2)) <| aC (qb2 h5) <| aC (qcW h5 (by simp) : (wI6 (a + i)) < ((r22.length : Nat) : Int)) <| aC (qcX qaA h5 : (r22.map qaA)[(0 + (wI6 (a + i)).toNat)]? = some (qaA x4)) <| aC (qb2 h7) <| aC (qcW h7 (by simp) : (wI6 (a + i)) < ((r22.length : Nat) : Int)) <| aC (qcX qaA h7 : (r22.map qaA)[(0 + (wI6 (a + i)).toNat)]? = some (qaA x6)) <| aC (qe3 _ _ x2 _ : (r22.map qaA).set (0 + (wI6 (a + i)).toNat) (qdE (qaA x6) 0 [(T.bool x2.Coef.Neg), (T.sl 1 (x2.Coef.Abs.map qaE)), (T.int .i64 x2.Exp.e0), (T.int .i64 x2.Exp.e1), (T.int .i64 x2.Exp.e2), (T.int .i64 x2.Exp.e3)]) = (r22.set ((wI6 (a + i)).toNat) x2).map qaA) <| aC (Nat.zero_le _ : 0 ≤ (0 + (wI6 (a + i)).toNat)) <| aC (qb2 h9) <| aC (qcW h9 (by simp) : (wI6 (b + i)) < ((r22.length : Nat) : Int)) <| aC (qcX qaA h9 : ((r22.set ((wI6 (a + i)).toNat) x2).map qaA)[(0 + (wI6 (b + i)).toNat)]? = some (qaA x8)) <| aC (qe3 _ _ x4 _ : ((r22.set ((wI6 (a + i)).toNat) x2).map qaA).set (0 + (wI6 (b + i)).toNat) (qdE (qaA x8) 0 [(T.bool x4.Coef.Neg), (T.sl 1 (x4.Coef.Abs.map qaE)), (T.int .i64 x4.Exp.e0), (T.int .i64 x4.Exp.e1), (T.int .i64 x4.Exp.e2), (T.int .i64 x4.Exp.e3)]) = ((r22.set ((wI6 (a + i)).toNat) x2).set ((wI6 (b + i)).toNat) x4).map qaA) <| aC (Nat.zero_le _ : 0 ≤ (0 + (wI6 (b + i)).toNat)) <| aC r0 <| aC (by simp : r22.length = ((r22.set ((wI6 (a + i)).toNat) x2).set ((wI6 (b + i)).toNat) x4).length) <| aN) (ih _ _ h cx hn H exs)
 ·have h := oinj h; subst h
  exact qfG (fuel := 68) [.go, rg3, bFa]
   _
   ((22, .row 135 6 (r22.map qaA) 0) :: H) hn (by kernel_rfl) (aC h1 <| aN) (fun _ => rfl)
theorem qdO : ∀ K : Nat, qdU K
 | 0, c, r, h => by rw [qa0] at h; cases h
 | K + 1, .c0 .., r, h => fun cx hn H exs => qhL (qdO K) hn H exs h
 | K + 1, .c1 .., r, h => fun cx hn H exs => qhK (qdO K) hn H exs h
theorem qdI {K : Nat} {row : (List qaH)} {a : Int} {b : Int} {n : Int} {r : (List qaH)} (h : qbU K row a b n = some r) : qkQ prog 198 [.c (C.row 22 0 row.length), vi .i64 a, vi .i64 b, vi .i64 n, .c (C.t (T.fn 169))] [(22, .row 135 6 (row.map qaA) 0)] [(22, .row 135 6 (r.map qaA) 0)] (.tup []) :=
 qtC (n := 38) (by kernel_rfl) (by simp) fun cx hn H exs => qdO K (.c0 row a b n) r h cx hn H exs
open Go.Proofs.Try (prog)
inductive qc2 where
 | c0 (row : (List qaH)) (a : Int) (m : Int) (b : Int)
 | c1 (r22 : (List qaH)) (m : Int) (i : Int) (j : Int)
def qa1 : Nat → qc2 → Option (List qaH)
 | 0, _ => none
 | K + 1, .c0 row a m b =>
  qa1 K (.c1 row m (wI6 (m - a)) (wI6 (b - m)))
 | K + 1, .c1 r22 m i j =>
  bif (!decide (i = j)) then
   bif (decide (j < i)) then
    (qbU K r22 (wI6 (m - i)) m j).bind fun x4 =>
    gd (x4.length = r22.length) <|
    qa1 K (.c1 x4 m (wI6 (i - j)) j)
   else
    (qbU K r22 (wI6 (m - i)) (wI6 ((wI6 (m + j)) - i)) i).bind fun x4 =>
    gd (x4.length = r22.length) <|
    qa1 K (.c1 x4 m i (wI6 (j - i)))
  else
   (qbU K r22 (wI6 (m - i)) m i).bind fun x3 =>
   gd (x3.length = r22.length) <|
   some x3
def qdA (K : Nat) (row : (List qaH)) (a : Int) (m : Int) (b : Int) : Option (List qaH) := qa1 K (.c0 row a m b)
noncomputable def qdV : Code := qmX prog 196
noncomputable def qh0 : qc2 → List Fr
 | .c0 .. => [.code qdV]
 | .c1 .. => [.code (.loop (atC qdV [1,1,0,0,0])), .blk 0, .code (atC qdV [1,1,1])]
def qh7 (H : List (Nat × Blk)) (exs : List V) : qc2 → St
 | .c0 row a m b => ⟨idxV 0 [.c (C.row 22 0 row.length), vi .i64 a, vi .i64 m, vi .i64 b, .c (C.t (T.fn 169))], [(22, .row 135 6 (row.map qaA) 0)] ++ H, exs⟩
 | .c1 r22 m i j => ⟨[(0, .c (C.row 22 0 r22.length)), (2, vi .i64 m), (4, .c (C.t (T.fn 169))), (10, vi .i64 i), (11, vi .i64 j)], [(22, .row 135 6 (r22.map qaA) 0)] ++ H, exs⟩
def qd1 (cx : Cx) (H : List (Nat × Blk)) (exs : List V) (c : qc2) (r : (List qaH)) : Prop := Wk prog cx (zl4 prog 196 ([(22, .row 135 6 (r.map qaA) 0)] ++ H) exs (.tup [])) (qh0 c) .normal (qh7 H exs c)
abbrev qd2 (K : Nat) : Prop := ∀ c r, qa1 K c = some r → ∀ cx : Cx, cx.n = 58 → ∀ H exs, qd1 cx H exs c r
theorem qh9 {K} (ih : qd2 K) {cx} (hn : cx.n = 58) (H : List (Nat × Blk)) (exs : List V) {row a m b} {r} (h : qa1 (K + 1) (.c0 row a m b) = some r) : qd1 cx H exs (.c0 row a m b) r := by
 rw [qa1] at h
 exact wkG [rg4, rg4, .pre [.rl 0 0 row.length, .keepT [0,2,4,10,11]]] hn (aC r0 <| aC (lq row) <| aN) (ih _ _ h cx hn H exs)
theorem qh8 {K} (ih : qd2 K) {cx} (hn : cx.n = 58) (H : List (Nat × Blk)) (exs : List V) {r22 m i j} {r} (h : qa1 (K + 1) (.c1 r22 m i j) = some r) : qd1 cx H exs (.c1 r22 m i j) r := by
 rw [qa1] at h
 rcases qaY h with ⟨h1, h⟩ | ⟨h1, h⟩
 ·rcases qaY h with ⟨h2, h⟩ | ⟨h2, h⟩
  ·obtain ⟨x4, h3, h⟩ := qaV h
   obtain ⟨h5, h⟩ := qb3 h
   exact wkG [.go, rg3, bTr, rg3, bTr, rgG [oo, oo, oo, oo, oo, oo, oo, .rl 24 0 r22.length, .callR [22] [(22, .row 135 6 (x4.map qaA) 0)] (.tup []), .rl 0 0 x4.length, .rl 24 0 x4.length], rg4, .pre [.rl 0 0 x4.length, .nrm 1, .keepT [0,2,4,10,11]]] hn (aC h1 <| aC h2 <| aC r0 <| aC (lq r22) <| aC (qdI h3) <| aC r0 <| aC (h5.symm : r22.length = x4.length) <| aC r0 <| aC (h5.symm : r22.length = x4.length) <| aC r0 <| aC (lq x4) <| aN) (ih _ _ h cx hn H exs)
  ·obtain ⟨x4, h3, h⟩ := qaV h
   obtain ⟨h5, h⟩ := qb3 h
   exact wkG [.go, rg3, bTr, rg3, bFa, rgG [oo, oo, oo, oo, oo, oo, oo, oo, oo, oo, oo, .rl 35 0 r22.length, .callR [22] [(22, .row 135 6 (x4.map qaA) 0)] (.tup []), .rl 0 0 x4.length, .rl 35 0 x4.length], rg4, .pre [.rl 0 0 x4.length, .nrm 1, .keepT [0,2,4,10,11]]] hn (aC h1 <| aC h2 <| aC r0 <| aC (lq r22) <| aC (qdI h3) <| aC r0 <| aC (h5.symm : r22.length = x4.length) <| aC r0 <| aC (h5.symm : r22.length = x4.length) <| aC r0 <| aC (lq x4) <| aN) (ih _ _ h cx hn H exs)
 ·obtain ⟨x3, h2, h⟩ := qaV h
  obtain ⟨h4, h⟩ := qb3 h
  have h := oinj h; subst h
  exact qfG (fuel := 74) [.go, rg3, bFa, rgG [oo, oo, oo, oo, oo, oo, oo, .rl 50 0 r22.length, .callR [22] [(22, .row 135 6 (x3.map qaA) 0)] (.tup []), .rl 0 0 x3.length, .rl 50 0 x3.length, .nrm 1]]
   _
   ((22, .row 135 6 (x3.map qaA) 0) :: H) hn (by kernel_rfl) (aC h1 <| aC r0 <| aC (lq r22) <| aC (qdI h2) <| aC r0 <| aC (h4.symm : r22.length = x3.length) <| aC r0 <| aC (h4.symm : r22.length = x3.length) <| aN) (fun _ => rfl)
theorem qdY : ∀ K : Nat, qd2 K
 | 0, c, r, h => by rw [qa1] at h; cases h
 | K + 1, .c0 .., r, h => fun cx hn H exs => qh9 (qdY K) hn H exs h
 | K + 1, .c1 .., r, h => fun cx hn H exs => qh8 (qdY K) hn H exs h
theorem qa8 {K : Nat} {row : (List qaH)} {a : Int} {m : Int} {b : Int} {r : (List qaH)} (h : qdA K row a m b = some r) : qkQ prog 196 [.c (C.row 22 0 row.length), vi .i64 a, vi .i64 m, vi .i64 b, .c (C.t (T.fn 169))] [(22, .row 135 6 (row.map qaA) 0)] [(22, .row 135 6 (r.map qaA) 0)] (.tup []) :=
 qtC (n := 58) (by kernel_rfl) (by simp) fun cx hn H exs => qdY K (.c0 row a m b) r h cx hn H exs
open Go.Proofs.Try (prog)
inductive qcV where
 | c0 (row : (List qaH)) (a : Int) (m : Int) (b : Int)
 | c1 (r22 : (List qaH)) (a : Int) (i : Int) (j : Int)
 | c2 (r22 : (List qaH)) (m : Int) (i : Int) (j : Int)
 | c3 (r22 : (List qaH)) (a : Int) (m : Int) (b : Int) (mid : Int) (n : Int) (start : Int) (r_v : Int) (p : Int)
 | c4 (r22 : (List qaH)) (i : Int) (k : Int)
 | c5 (r22 : (List qaH)) (i : Int) (k : Int)
def qaF : Nat → qcV → Option (List qaH)
 | 0, _ => none
 | K + 1, .c0 row a m b =>
  bif (decide ((wI6 (m - a)) = (1 : Int))) then
   qaF K (.c1 row a m b)
  else
   bif (decide ((wI6 (b - m)) = (1 : Int))) then
    qaF K (.c2 row m a m)
   else
    bif (decide ((wI6 (qdC .u64 (wU6 (wI6 (a + b))) (1 : Int))) < m)) then
     qaF K (.c3 row a m b (wI6 (qdC .u64 (wU6 (wI6 (a + b))) (1 : Int))) (wI6 ((wI6 (qdC .u64 (wU6 (wI6 (a + b))) (1 : Int))) + m)) (wI6 ((wI6 ((wI6 (qdC .u64 (wU6 (wI6 (a + b))) (1 : Int))) + m)) - b)) (wI6 (qdC .u64 (wU6 (wI6 (a + b))) (1 : Int))) (wI6 ((wI6 ((wI6 (qdC .u64 (wU6 (wI6 (a + b))) (1 : Int))) + m)) - (1 : Int))))
    else
     qaF K (.c3 row a m b (wI6 (qdC .u64 (wU6 (wI6 (a + b))) (1 : Int))) (wI6 ((wI6 (qdC .u64 (wU6 (wI6 (a + b))) (1 : Int))) + m)) a m (wI6 ((wI6 ((wI6 (qdC .u64 (wU6 (wI6 (a + b))) (1 : Int))) + m)) - (1 : Int))))
 | K + 1, .c1 r22 a i j =>
  bif (decide (i < j)) then
   (gi r22 (wI6 (qdC .u64 (wU6 (wI6 (i + j))) (1 : Int)))).bind fun x2 =>
   (gi r22 a).bind fun x4 =>
   (qkJ K x2 x4).bind fun x6 =>
   bif (decide (x6 < (0 : Int))) then
    qaF K (.c1 r22 a (wI6 ((wI6 (qdC .u64 (wU6 (wI6 (i + j))) (1 : Int))) + (1 : Int))) j)
   else
    qaF K (.c1 r22 a i (wI6 (qdC .u64 (wU6 (wI6 (i + j))) (1 : Int))))
  else
   qaF K (.c4 r22 i a)
 | K + 1, .c2 r22 m i j =>
  bif (decide (i < j)) then
   (gi r22 m).bind fun x2 =>
   (gi r22 (wI6 (qdC .u64 (wU6 (wI6 (i + j))) (1 : Int)))).bind fun x4 =>
   (qkJ K x2 x4).bind fun x6 =>
   bif (!(decide (x6 < (0 : Int)))) then
    qaF K (.c2 r22 m (wI6 ((wI6 (qdC .u64 (wU6 (wI6 (i + j))) (1 : Int))) + (1 : Int))) j)
   else
    qaF K (.c2 r22 m i (wI6 (qdC .u64 (wU6 (wI6 (i + j))) (1 : Int))))
  else
   qaF K (.c5 r22 i m)
 | K + 1, .c3 r22 a m b mid n start r_v p =>
  bif (decide (start < r_v)) then
   (gi r22 (wI6 (p - (wI6 (qdC .u64 (wU6 (wI6 (start + r_v))) (1 : Int)))))).bind fun x2 =>
   (gi r22 (wI6 (qdC .u64 (wU6 (wI6 (start + r_v))) (1 : Int)))).bind fun x4 =>
   (qkJ K x2 x4).bind fun x6 =>
   bif (!(decide (x6 < (0 : Int)))) then
    qaF K (.c3 r22 a m b mid n (wI6 ((wI6 (qdC .u64 (wU6 (wI6 (start + r_v))) (1 : Int))) + (1 : Int))) r_v p)
   else
    qaF K (.c3 r22 a m b mid n start (wI6 (qdC .u64 (wU6 (wI6 (start + r_v))) (1 : Int))) p)
  else
   bif (decide (start < m)) then
    bif (decide (m < (wI6 (n - start)))) then
     (qdA K r22 start m (wI6 (n - start))).bind fun x5 =>
     gd (x5.length = r22.length) <|
     bif (decide (a < start)) then
      bif (decide (start < mid)) then
       (qaF K (.c0 x5 a start mid)).bind fun x10 =>
       gd (x10.length = x5.length) <|
       bif (decide (mid < (wI6 (n - start)))) then
        bif (decide ((wI6 (n - start)) < b)) then
         (qaF K (.c0 x10 mid (wI6 (n - start)) b)).bind fun x15 =>
         gd (x15.length = x10.length) <|
         some x15
        else
         some x10
       else
        some x10
      else
       bif (decide (mid < (wI6 (n - start)))) then
        bif (decide ((wI6 (n - start)) < b)) then
         (qaF K (.c0 x5 mid (wI6 (n - start)) b)).bind fun x12 =>
         gd (x12.length = x5.length) <|
         some x12
        else
         some x5
       else
        some x5
     else
      bif (decide (mid < (wI6 (n - start)))) then
       bif (decide ((wI6 (n - start)) < b)) then
        (qaF K (.c0 x5 mid (wI6 (n - start)) b)).bind fun x11 =>
        gd (x11.length = x5.length) <|
        some x11
       else
        some x5
      else
       some x5
    else
     bif (decide (a < start)) then
      bif (decide (start < mid)) then
       (qaF K (.c0 r22 a start mid)).bind fun x7 =>
       gd (x7.length = r22.length) <|
       bif (decide (mid < (wI6 (n - start)))) then
        bif (decide ((wI6 (n - start)) < b)) then
         (qaF K (.c0 x7 mid (wI6 (n - start)) b)).bind fun x12 =>
         gd (x12.length = x7.length) <|
         some x12
        else
         some x7
       else
        some x7
      else
       bif (decide (mid < (wI6 (n - start)))) then
        bif (decide ((wI6 (n - start)) < b)) then
         (qaF K (.c0 r22 mid (wI6 (n - start)) b)).bind fun x9 =>
         gd (x9.length = r22.length) <|
         some x9
        else
         some r22
       else
        some r22
     else
      bif (decide (mid < (wI6 (n - start)))) then
       bif (decide ((wI6 (n - start)) < b)) then
        (qaF K (.c0 r22 mid (wI6 (n - start)) b)).bind fun x8 =>
        gd (x8.length = r22.length) <|
        some x8
       else
        some r22
      else
       some r22
   else
    bif (decide (a < start)) then
     bif (decide (start < mid)) then
      (qaF K (.c0 r22 a start mid)).bind fun x6 =>
      gd (x6.length = r22.length) <|
      bif (decide (mid < (wI6 (n - start)))) then
       bif (decide ((wI6 (n - start)) < b)) then
        (qaF K (.c0 x6 mid (wI6 (n - start)) b)).bind fun x11 =>
        gd (x11.length = x6.length) <|
        some x11
       else
        some x6
      else
       some x6
     else
      bif (decide (mid < (wI6 (n - start)))) then
       bif (decide ((wI6 (n - start)) < b)) then
        (qaF K (.c0 r22 mid (wI6 (n - start)) b)).bind fun x8 =>
        gd (x8.length = r22.length) <|
        some x8
       else
        some r22
      else
       some r22
    else
     bif (decide (mid < (wI6 (n - start)))) then
      bif (decide ((wI6 (n - start)) < b)) then
       (qaF K (.c0 r22 mid (wI6 (n - start)) b)).bind fun x7 =>
       gd (x7.length = r22.length) <|
       some x7
      else
       some r22
     else
      some r22
 | K + 1, .c4 r22 i k =>
  bif (decide (k < (wI6 (i - (1 : Int))))) then
   (gi r22 (wI6 (k + (1 : Int)))).bind fun x2 =>
   (gi r22 k).bind fun x4 =>
   (gi r22 k).bind fun _ =>
   (gi (r22.set (k.toNat) x2) (wI6 (k + (1 : Int)))).bind fun _ =>
   qaF K (.c4 ((r22.set (k.toNat) x2).set ((wI6 (k + (1 : Int))).toNat) x4) i (wI6 (k + (1 : Int))))
  else
   some r22
 | K + 1, .c5 r22 i k =>
  bif (decide (i < k)) then
   (gi r22 (wI6 (k - (1 : Int)))).bind fun x2 =>
   (gi r22 k).bind fun x4 =>
   (gi r22 k).bind fun _ =>
   (gi (r22.set (k.toNat) x2) (wI6 (k - (1 : Int)))).bind fun _ =>
   qaF K (.c5 ((r22.set (k.toNat) x2).set ((wI6 (k - (1 : Int))).toNat) x4) i (wI6 (k - (1 : Int))))
  else
   some r22
def qc5 (K : Nat) (row : (List qaH)) (a : Int) (m : Int) (b : Int) : Option (List qaH) := qaF K (.c0 row a m b)
noncomputable def qaX : Code := qmX prog 193
noncomputable def qhI : qcV → List Fr
 | .c0 .. => [.code qaX]
 | .c1 .. => [.code (.loop (atC qaX [0,1,0,1,1,0,0,0])), .blk 0, .code (atC qaX [0,1,0,1,1,1]), .code (atC qaX [1])]
 | .c2 .. => [.code (.loop (atC qaX [1,0,1,0,1,1,0,0,0])), .blk 4, .code (atC qaX [1,0,1,0,1,1,1]), .code (atC qaX [1,1])]
 | .c3 .. => [.code (.loop (atC qaX [1,1,1,1,1,1,1,0,0,0])), .blk 8, .code (atC qaX [1,1,1,1,1,1,1,1])]
 | .c4 .. => [.code (.loop (atC qaX [0,1,0,1,1,1,0,1,0,0])), .blk 2, .code (atC qaX [0,1,0,1,1,1,1]), .code (atC qaX [1])]
 | .c5 .. => [.code (.loop (atC qaX [1,0,1,0,1,1,1,0,1,0,0])), .blk 6, .code (atC qaX [1,0,1,0,1,1,1,1]), .code (atC qaX [1,1])]
def qhQ (H : List (Nat × Blk)) (exs : List V) : qcV → St
 | .c0 row a m b => ⟨idxV 0 [.c (C.row 22 0 row.length), vi .i64 a, vi .i64 m, vi .i64 b, .c (C.t (T.fn 169))], [(22, .row 135 6 (row.map qaA) 0)] ++ H, exs⟩
 | .c1 r22 a i j => ⟨[(0, .c (C.row 22 0 r22.length)), (1, vi .i64 a), (4, .c (C.t (T.fn 169))), (10, vi .i64 i), (11, vi .i64 j)], [(22, .row 135 6 (r22.map qaA) 0)] ++ H, exs⟩
 | .c2 r22 m i j => ⟨[(0, .c (C.row 22 0 r22.length)), (2, vi .i64 m), (4, .c (C.t (T.fn 169))), (14, vi .i64 i), (15, vi .i64 j)], [(22, .row 135 6 (r22.map qaA) 0)] ++ H, exs⟩
 | .c3 r22 a m b mid n start r_v p => ⟨[(0, .c (C.row 22 0 r22.length)), (1, vi .i64 a), (2, vi .i64 m), (3, vi .i64 b), (4, .c (C.t (T.fn 169))), (18, vi .i64 mid), (19, vi .i64 n), (20, vi .i64 start), (21, vi .i64 r_v), (22, vi .i64 p)], [(22, .row 135 6 (r22.map qaA) 0)] ++ H, exs⟩
 | .c4 r22 i k => ⟨[(0, .c (C.row 22 0 r22.length)), (10, vi .i64 i), (13, vi .i64 k)], [(22, .row 135 6 (r22.map qaA) 0)] ++ H, exs⟩
 | .c5 r22 i k => ⟨[(0, .c (C.row 22 0 r22.length)), (14, vi .i64 i), (17, vi .i64 k)], [(22, .row 135 6 (r22.map qaA) 0)] ++ H, exs⟩
def qbP (cx : Cx) (H : List (Nat × Blk)) (exs : List V) (c : qcV) (r : (List qaH)) : Prop := Wk prog cx (zl4 prog 193 ([(22, .row 135 6 (r.map qaA) 0)] ++ H) exs (.tup [])) (qhI c) .normal (qhQ H exs c)
abbrev qbH (K : Nat) : Prop := ∀ c r, qaF K c = some r → ∀ cx : Cx, cx.n = 220 → ∀ H exs, qbP cx H exs c r
theorem qaQ (K : Nat) (ih : qbH K) {row : (List qaH)} {a : Int} {m : Int} {b : Int} {r : (List qaH)} (h : qaF K (.c0 row a m b) = some r) : qkQ prog 193 [.c (C.row 22 0 row.length), vi .i64 a, vi .i64 m, vi .i64 b, .c (C.t (T.fn 169))] [(22, .row 135 6 (row.map qaA) 0)] [(22, .row 135 6 (r.map qaA) 0)] (.tup []) :=
 qtC (n := 220) (by kernel_rfl) (by simp) fun cx hn H exs => ih (.c0 row a m b) r h cx hn H exs
theorem qhW {K} (ih : qbH K) {cx} (hn : cx.n = 220) (H : List (Nat × Blk)) (exs : List V) {row a m b} {r} (h : qaF (K + 1) (.c0 row a m b) = some r) : qbP cx H exs (.c0 row a m b) r := by
 rw [qaF] at h
 rcases qaY h with ⟨h1, h⟩ | ⟨h1, h⟩
 ·exact wkG [rg4, bTr, rg2, rg2, .pre [.rl 0 0 row.length, .keepT [0,1,4,10,11]]] hn (aC h1 <| aC r0 <| aC (lq row) <| aN) (ih _ _ h cx hn H exs)
 ·rcases qaY h with ⟨h2, h⟩ | ⟨h2, h⟩
  ·exact wkG [rg4, bFa, rg4, bTr, rg2, rg2, .pre [.rl 0 0 row.length, .keepT [0,2,4,14,15]]] hn (aC h1 <| aC h2 <| aC r0 <| aC (lq row) <| aN) (ih _ _ h cx hn H exs)
  ·rcases qaY h with ⟨h3, h⟩ | ⟨h3, h⟩
   ·exact wkG [rg4, bFa, rg4, bFa, rgG [oo, oo, oo, oo, oo, oo, oo], rg4, rg2, rg3, bTr, rg4, rg2, rg3, .pre [.rl 0 0 row.length, .keepT [0,1,2,3,4,18,19,20,21,22]]] hn (aC h1 <| aC h2 <| aC h3 <| aC r0 <| aC (lq row) <| aN) (ih _ _ h cx hn H exs)
   ·exact wkG [rg4, bFa, rg4, bFa, rgG [oo, oo, oo, oo, oo, oo, oo], rg4, rg2, rg3, bFa, rg2, rg2, rg3, .pre [.rl 0 0 row.length, .keepT [0,1,2,3,4,18,19,20,21,22]]] hn (aC h1 <| aC h2 <| aC h3 <| aC r0 <| aC (lq row) <| aN) (ih _ _ h cx hn H exs)
theorem qhV {K} (ih : qbH K) {cx} (hn : cx.n = 220) (H : List (Nat × Blk)) (exs : List V) {r22 a i j} {r} (h : qaF (K + 1) (.c1 r22 a i j) = some r) : qbP cx H exs (.c1 r22 a i j) r := by
 rw [qaF] at h
 rcases qaY h with ⟨h1, h⟩ | ⟨h1, h⟩
 ·obtain ⟨x2, h3, h⟩ := qaV h
  obtain ⟨x4, h5, h⟩ := qaV h
  obtain ⟨x6, h7, h⟩ := qaV h
  rcases qaY h with ⟨h8, h⟩ | ⟨h8, h⟩
  ·exact wkG [.go, rg3, bTr, rgG [oo, oo, oo, oo, oo, oo, oo], .draw [.p, .mv, .p, .ir, (.ld (qaA x2)), .mv, .p, .ir, (.ld (qaA x4))] [opI (.call [[0,1,0,0,0,0], [0,1,0,0,0,0]] [(TV.agg (qaA x2)), (TV.agg (qaA x4))] (ti .i64 x6)), .op .p], bTr, rg3, .pre [.rl 0 0 r22.length, .keepT [0,1,4,10,11]]] hn (aC h1 <| aC (qb2 h3) <| aC (qcW h3 (by simp) : (wI6 (qdC .u64 (wU6 (wI6 (i + j))) (1 : Int))) < ((r22.length : Nat) : Int)) <| aC (qcX qaA h3 : (r22.map qaA)[(0 + (wI6 (qdC .u64 (wU6 (wI6 (i + j))) (1 : Int))).toNat)]? = some (qaA x2)) <| aC (qb2 h5) <| aC (qcW h5 (by simp) : a < ((r22.length : Nat) : Int)) <| aC (qcX qaA h5 : (r22.map qaA)[(0 + a.toNat)]? = some (qaA x4)) <| aC (qe7 h7) <| aC h8 <| aC r0 <| aC (lq r22) <| aN) (ih _ _ h cx hn H exs)
  ·exact wkG [.go, rg3, bTr, rgG [oo, oo, oo, oo, oo, oo, oo], .draw [.p, .mv, .p, .ir, (.ld (qaA x2)), .mv, .p, .ir, (.ld (qaA x4))] [opI (.call [[0,1,0,0,0,0], [0,1,0,0,0,0]] [(TV.agg (qaA x2)), (TV.agg (qaA x4))] (ti .i64 x6)), .op .p], bFa, rg2, .pre [.rl 0 0 r22.length, .keepT [0,1,4,10,11]]] hn (aC h1 <| aC (qb2 h3) <| aC (qcW h3 (by simp) : (wI6 (qdC .u64 (wU6 (wI6 (i + j))) (1 : Int))) < ((r22.length : Nat) : Int)) <| aC (qcX qaA h3 : (r22.map qaA)[(0 + (wI6 (qdC .u64 (wU6 (wI6 (i + j))) (1 : Int))).toNat)]? = some (qaA x2)) <| aC (qb2 h5) <| aC (qcW h5 (by simp) : a < ((r22.length : Nat) : Int)) <| aC (qcX qaA h5 : (r22.map qaA)[(0 + a.toNat)]? = some (qaA x4)) <| aC (qe7 h7) <| aC h8 <| aC r0 <| aC (lq r22) <| aN) (ih _ _ h cx hn H exs)
 ·exact wkG [.go, rg3, bFa, rg2, .pre [.rl 0 0 r22.length, .keepT [0,10,13]]] hn (aC h1 <| aC r0 <| aC (lq r22) <| aN) (ih _ _ h cx hn H exs)
theorem qhU {K} (ih : qbH K) {cx} (hn : cx.n = 220) (H : List (Nat × Blk)) (exs : List V) {r22 m i j} {r} (h : qaF (K + 1) (.c2 r22 m i j) = some r) : qbP cx H exs (.c2 r22 m i j) r := by
 rw [qaF] at h
 rcases qaY h with ⟨h1, h⟩ | ⟨h1, h⟩
 ·obtain ⟨x2, h3, h⟩ := qaV h
  obtain ⟨x4, h5, h⟩ := qaV h
  obtain ⟨x6, h7, h⟩ := qaV h
  rcases qaY h with ⟨h8, h⟩ | ⟨h8, h⟩
  ·exact wkG [.go, rg3, bTr, rgG [oo, oo, oo, oo, oo, oo, oo], .draw [.p, .mv, .p, .ir, (.ld (qaA x2)), .mv, .p, .ir, (.ld (qaA x4))] [opI (.call [[0,1,0,0,0,0], [0,1,0,0,0,0]] [(TV.agg (qaA x2)), (TV.agg (qaA x4))] (ti .i64 x6)), .op .p, .op .p], bTr, rg3, .pre [.rl 0 0 r22.length, .keepT [0,2,4,14,15]]] hn (aC h1 <| aC (qb2 h3) <| aC (qcW h3 (by simp) : m < ((r22.length : Nat) : Int)) <| aC (qcX qaA h3 : (r22.map qaA)[(0 + m.toNat)]? = some (qaA x2)) <| aC (qb2 h5) <| aC (qcW h5 (by simp) : (wI6 (qdC .u64 (wU6 (wI6 (i + j))) (1 : Int))) < ((r22.length : Nat) : Int)) <| aC (qcX qaA h5 : (r22.map qaA)[(0 + (wI6 (qdC .u64 (wU6 (wI6 (i + j))) (1 : Int))).toNat)]? = some (qaA x4)) <| aC (qe7 h7) <| aC h8 <| aC r0 <| aC (lq r22) <| aN) (ih _ _ h cx hn H exs)
  ·exact wkG [.go, rg3, bTr, rgG [oo, oo, oo, oo, oo, oo, oo], .draw [.p, .mv, .p, .ir, (.ld (qaA x2)), .mv, .p, .ir, (.ld (qaA x4))] [opI (.call [[0,1,0,0,0,0], [0,1,0,0,0,0]] [(TV.agg (qaA x2)), (TV.agg (qaA x4))] (ti .i64 x6)), .op .p, .op .p], bFa, rg2, .pre [.rl 0 0 r22.length, .keepT [0,2,4,14,15]]] hn (aC h1 <| aC (qb2 h3) <| aC (qcW h3 (by simp) : m < ((r22.length : Nat) : Int)) <| aC (qcX qaA h3 : (r22.map qaA)[(0 + m.toNat)]? = some (qaA x2)) <| aC (qb2 h5) <| aC (qcW h5 (by simp) : (wI6 (qdC .u64 (wU6 (wI6 (i + j))) (1 : Int))) < ((r22.length : Nat) : Int)) <| aC (qcX qaA h5 : (r22.map qaA)[(0 + (wI6 (qdC .u64 (wU6 (wI6 (i + j))) (1 : Int))).toNat)]? = some (qaA x4)) <| aC (qe7 h7) <| aC h8 <| aC r0 <| aC (lq r22) <| aN) (ih _ _ h cx hn H exs)
 ·exact wkG [.go, rg3, bFa, rg2, .pre [.rl 0 0 r22.length, .keepT [0,14,17]]] hn (aC h1 <| aC r0 <| aC (lq r22) <| aN) (ih _ _ h cx hn H exs)
theorem qhT {K} (ih : qbH K) {cx} (hn : cx.n = 220) (H : List (Nat × Blk)) (exs : List V) {r22 a m b mid n start r_v p} {r} (h : qaF (K + 1) (.c3 r22 a m b mid n start r_v p) = some r) : qbP cx H exs (.c3 r22 a m b mid n start r_v p) r := by
 rw [qaF] at h
 rcases qaY h with ⟨h1, h⟩ | ⟨h1, h⟩
 ·obtain ⟨x2, h3, h⟩ := qaV h
  obtain ⟨x4, h5, h⟩ := qaV h
  obtain ⟨x6, h7, h⟩ := qaV h
  rcases qaY h with ⟨h8, h⟩ | ⟨h8, h⟩
  ·exact wkG [.go, rg3, bTr, rgG [oo, oo, oo, oo, oo, oo, oo], .draw [.p, .mv, .p, .p, .p, .ir, (.ld (qaA x2)), .mv, .p, .ir, (.ld (qaA x4))] [opI (.call [[0,1,0,0,0,0], [0,1,0,0,0,0]] [(TV.agg (qaA x2)), (TV.agg (qaA x4))] (ti .i64 x6)), .op .p, .op .p], bTr, rg3, .pre [.rl 0 0 r22.length, .keepT [0,1,2,3,4,18,19,20,21,22]]] hn (aC h1 <| aC (qb2 h3) <| aC (qcW h3 (by simp) : (wI6 (p - (wI6 (qdC .u64 (wU6 (wI6 (start + r_v))) (1 : Int))))) < ((r22.length : Nat) : Int)) <| aC (qcX qaA h3 : (r22.map qaA)[(0 + (wI6 (p - (wI6 (qdC .u64 (wU6 (wI6 (start + r_v))) (1 : Int))))).toNat)]? = some (qaA x2)) <| aC (qb2 h5) <| aC (qcW h5 (by simp) : (wI6 (qdC .u64 (wU6 (wI6 (start + r_v))) (1 : Int))) < ((r22.length : Nat) : Int)) <| aC (qcX qaA h5 : (r22.map qaA)[(0 + (wI6 (qdC .u64 (wU6 (wI6 (start + r_v))) (1 : Int))).toNat)]? = some (qaA x4)) <| aC (qe7 h7) <| aC h8 <| aC r0 <| aC (lq r22) <| aN) (ih _ _ h cx hn H exs)
  ·exact wkG [.go, rg3, bTr, rgG [oo, oo, oo, oo, oo, oo, oo], .draw [.p, .mv, .p, .p, .p, .ir, (.ld (qaA x2)), .mv, .p, .ir, (.ld (qaA x4))] [opI (.call [[0,1,0,0,0,0], [0,1,0,0,0,0]] [(TV.agg (qaA x2)), (TV.agg (qaA x4))] (ti .i64 x6)), .op .p, .op .p], bFa, rg2, .pre [.rl 0 0 r22.length, .keepT [0,1,2,3,4,18,19,20,21,22]]] hn (aC h1 <| aC (qb2 h3) <| aC (qcW h3 (by simp) : (wI6 (p - (wI6 (qdC .u64 (wU6 (wI6 (start + r_v))) (1 : Int))))) < ((r22.length : Nat) : Int)) <| aC (qcX qaA h3 : (r22.map qaA)[(0 + (wI6 (p - (wI6 (qdC .u64 (wU6 (wI6 (start + r_v))) (1 : Int))))).toNat)]? = some (qaA x2)) <| aC (qb2 h5) <| aC (qcW h5 (by simp) : (wI6 (qdC .u64 (wU6 (wI6 (start + r_v))) (1 : Int))) < ((r22.length : Nat) : Int)) <| aC (qcX qaA h5 : (r22.map qaA)[(0 + (wI6 (qdC .u64 (wU6 (wI6 (start + r_v))) (1 : Int))).toNat)]? = some (qaA x4)) <| aC (qe7 h7) <| aC h8 <| aC r0 <| aC (lq r22) <| aN) (ih _ _ h cx hn H exs)
 ·rcases qaY h with ⟨h2, h⟩ | ⟨h2, h⟩
  ·rcases qaY h with ⟨h3, h⟩ | ⟨h3, h⟩
   ·obtain ⟨x5, h4, h⟩ := qaV h
    obtain ⟨h6, h⟩ := qb3 h
    rcases qaY h with ⟨h7, h⟩ | ⟨h7, h⟩
    ·rcases qaY h with ⟨h8, h⟩ | ⟨h8, h⟩
     ·obtain ⟨x10, h9, h⟩ := qaV h
      obtain ⟨h11, h⟩ := qb3 h
      rcases qaY h with ⟨h12, h⟩ | ⟨h12, h⟩
      ·rcases qaY h with ⟨h13, h⟩ | ⟨h13, h⟩
       ·obtain ⟨x15, h14, h⟩ := qaV h
        obtain ⟨h16, h⟩ := qb3 h
        have h := oinj h; subst h
        exact qfG (fuel := 140) [.go, rg3, bFa, rg4, rgG [oo, oo, oo, oo, .sb 181 true, oo, oo, oo, oo], bTr, rgG [oo, oo, oo, oo, oo, .rl 186 0 r22.length, .callR [22] [(22, .row 135 6 (x5.map qaA) 0)] (.tup []), .rl 0 0 x5.length, .rl 186 0 x5.length], rgG [oo, oo, oo, oo, .sb 195 true, oo, oo, oo, oo], bTr, rgG [oo, oo, oo, oo, oo, .rl 200 0 x5.length, .callR [22] [(22, .row 135 6 (x10.map qaA) 0)] (.tup []), .rl 0 0 x10.length, .rl 186 0 x10.length, .rl 200 0 x10.length], rgG [oo, oo, oo, oo, .sb 209 true, oo, oo, oo, oo], bTr, rgG [oo, oo, oo, oo, oo, .rl 214 0 x10.length, .callR [22] [(22, .row 135 6 (x15.map qaA) 0)] (.tup []), .rl 0 0 x15.length, .rl 186 0 x15.length, .rl 200 0 x15.length, .rl 214 0 x15.length, .nrm 3]]
         _
         ((22, .row 135 6 (x15.map qaA) 0) :: H) hn (by kernel_rfl) (aC h1 <| aC h2 <| aC h3 <| aC r0 <| aC (lq r22) <| aC (qa8 h4) <| aC r0 <| aC (h6.symm : r22.length = x5.length) <| aC r0 <| aC (h6.symm : r22.length = x5.length) <| aC h7 <| aC h8 <| aC r0 <| aC (lq x5) <| aC (qaQ K ih h9 : qkQ prog 193 [.c (C.row 22 0 x5.length), vi .i64 a, vi .i64 start, vi .i64 mid, .c (C.t (T.fn 169))] [(22, .row 135 6 (x5.map qaA) 0)] [(22, .row 135 6 (x10.map qaA) 0)] (.tup [])) <| aC r0 <| aC (h11.symm : x5.length = x10.length) <| aC r0 <| aC (h11.symm : x5.length = x10.length) <| aC r0 <| aC (h11.symm : x5.length = x10.length) <| aC h12 <| aC h13 <| aC r0 <| aC (lq x10) <| aC (qaQ K ih h14 : qkQ prog 193 [.c (C.row 22 0 x10.length), vi .i64 mid, .c (C.t (T.int .i64 (wI6 (n - start)))), vi .i64 b, .c (C.t (T.fn 169))] [(22, .row 135 6 (x10.map qaA) 0)] [(22, .row 135 6 (x15.map qaA) 0)] (.tup [])) <| aC r0 <| aC (h16.symm : x10.length = x15.length) <| aC r0 <| aC (h16.symm : x10.length = x15.length) <| aC r0 <| aC (h16.symm : x10.length = x15.length) <| aC r0 <| aC (h16.symm : x10.length = x15.length) <| aN) (fun _ => rfl)
       ·have h := oinj h; subst h
        exact qfG (fuel := 136) [.go, rg3, bFa, rg4, rgG [oo, oo, oo, oo, .sb 181 true, oo, oo, oo, oo], bTr, rgG [oo, oo, oo, oo, oo, .rl 186 0 r22.length, .callR [22] [(22, .row 135 6 (x5.map qaA) 0)] (.tup []), .rl 0 0 x5.length, .rl 186 0 x5.length], rgG [oo, oo, oo, oo, .sb 195 true, oo, oo, oo, oo], bTr, rgG [oo, oo, oo, oo, oo, .rl 200 0 x5.length, .callR [22] [(22, .row 135 6 (x10.map qaA) 0)] (.tup []), .rl 0 0 x10.length, .rl 186 0 x10.length, .rl 200 0 x10.length], rgG [oo, oo, oo, oo, .sb 209 true, oo, oo, oo, oo, .nrm 2], bFa]
         _
         ((22, .row 135 6 (x10.map qaA) 0) :: H) hn (by kernel_rfl) (aC h1 <| aC h2 <| aC h3 <| aC r0 <| aC (lq r22) <| aC (qa8 h4) <| aC r0 <| aC (h6.symm : r22.length = x5.length) <| aC r0 <| aC (h6.symm : r22.length = x5.length) <| aC h7 <| aC h8 <| aC r0 <| aC (lq x5) <| aC (qaQ K ih h9 : qkQ prog 193 [.c (C.row 22 0 x5.length), vi .i64 a, vi .i64 start, vi .i64 mid, .c (C.t (T.fn 169))] [(22, .row 135 6 (x5.map qaA) 0)] [(22, .row 135 6 (x10.map qaA) 0)] (.tup [])) <| aC r0 <| aC (h11.symm : x5.length = x10.length) <| aC r0 <| aC (h11.symm : x5.length = x10.length) <| aC r0 <| aC (h11.symm : x5.length = x10.length) <| aC h12 <| aC h13 <| aN) (fun _ => rfl)
      ·have h := oinj h; subst h
       exact qfG (fuel := 136) [.go, rg3, bFa, rg4, rgG [oo, oo, oo, oo, .sb 181 true, oo, oo, oo, oo], bTr, rgG [oo, oo, oo, oo, oo, .rl 186 0 r22.length, .callR [22] [(22, .row 135 6 (x5.map qaA) 0)] (.tup []), .rl 0 0 x5.length, .rl 186 0 x5.length], rgG [oo, oo, oo, oo, .sb 195 true, oo, oo, oo, oo], bTr, rgG [oo, oo, oo, oo, oo, .rl 200 0 x5.length, .callR [22] [(22, .row 135 6 (x10.map qaA) 0)] (.tup []), .rl 0 0 x10.length, .rl 186 0 x10.length, .rl 200 0 x10.length], rgG [oo, oo, oo, oo, .sb 209 false, oo, oo, oo, oo, .nrm 2], bFa]
        _
        ((22, .row 135 6 (x10.map qaA) 0) :: H) hn (by kernel_rfl) (aC h1 <| aC h2 <| aC h3 <| aC r0 <| aC (lq r22) <| aC (qa8 h4) <| aC r0 <| aC (h6.symm : r22.length = x5.length) <| aC r0 <| aC (h6.symm : r22.length = x5.length) <| aC h7 <| aC h8 <| aC r0 <| aC (lq x5) <| aC (qaQ K ih h9 : qkQ prog 193 [.c (C.row 22 0 x5.length), vi .i64 a, vi .i64 start, vi .i64 mid, .c (C.t (T.fn 169))] [(22, .row 135 6 (x5.map qaA) 0)] [(22, .row 135 6 (x10.map qaA) 0)] (.tup [])) <| aC r0 <| aC (h11.symm : x5.length = x10.length) <| aC r0 <| aC (h11.symm : x5.length = x10.length) <| aC r0 <| aC (h11.symm : x5.length = x10.length) <| aC h12 <| aC rf <| aN) (fun _ => rfl)
     ·rcases qaY h with ⟨h9, h⟩ | ⟨h9, h⟩
      ·rcases qaY h with ⟨h10, h⟩ | ⟨h10, h⟩
       ·obtain ⟨x12, h11, h⟩ := qaV h
        obtain ⟨h13, h⟩ := qb3 h
        have h := oinj h; subst h
        exact qfG (fuel := 136) [.go, rg3, bFa, rg4, rgG [oo, oo, oo, oo, .sb 181 true, oo, oo, oo, oo], bTr, rgG [oo, oo, oo, oo, oo, .rl 186 0 r22.length, .callR [22] [(22, .row 135 6 (x5.map qaA) 0)] (.tup []), .rl 0 0 x5.length, .rl 186 0 x5.length], rgG [oo, oo, oo, oo, .sb 195 true, oo, oo, oo, oo], bFa, rgG [oo, oo, oo, oo, .sb 209 true, oo, oo, oo, oo], bTr, rgG [oo, oo, oo, oo, oo, .rl 214 0 x5.length, .callR [22] [(22, .row 135 6 (x12.map qaA) 0)] (.tup []), .rl 0 0 x12.length, .rl 186 0 x12.length, .rl 214 0 x12.length, .nrm 2]]
         _
         ((22, .row 135 6 (x12.map qaA) 0) :: H) hn (by kernel_rfl) (aC h1 <| aC h2 <| aC h3 <| aC r0 <| aC (lq r22) <| aC (qa8 h4) <| aC r0 <| aC (h6.symm : r22.length = x5.length) <| aC r0 <| aC (h6.symm : r22.length = x5.length) <| aC h7 <| aC h8 <| aC h9 <| aC h10 <| aC r0 <| aC (lq x5) <| aC (qaQ K ih h11 : qkQ prog 193 [.c (C.row 22 0 x5.length), vi .i64 mid, .c (C.t (T.int .i64 (wI6 (n - start)))), vi .i64 b, .c (C.t (T.fn 169))] [(22, .row 135 6 (x5.map qaA) 0)] [(22, .row 135 6 (x12.map qaA) 0)] (.tup [])) <| aC r0 <| aC (h13.symm : x5.length = x12.length) <| aC r0 <| aC (h13.symm : x5.length = x12.length) <| aC r0 <| aC (h13.symm : x5.length = x12.length) <| aN) (fun _ => rfl)
       ·have h := oinj h; subst h
        exact qfG (fuel := 132) [.go, rg3, bFa, rg4, rgG [oo, oo, oo, oo, .sb 181 true, oo, oo, oo, oo], bTr, rgG [oo, oo, oo, oo, oo, .rl 186 0 r22.length, .callR [22] [(22, .row 135 6 (x5.map qaA) 0)] (.tup []), .rl 0 0 x5.length, .rl 186 0 x5.length], rgG [oo, oo, oo, oo, .sb 195 true, oo, oo, oo, oo], bFa, rgG [oo, oo, oo, oo, .sb 209 true, oo, oo, oo, oo, .nrm 1], bFa]
         _
         ((22, .row 135 6 (x5.map qaA) 0) :: H) hn (by kernel_rfl) (aC h1 <| aC h2 <| aC h3 <| aC r0 <| aC (lq r22) <| aC (qa8 h4) <| aC r0 <| aC (h6.symm : r22.length = x5.length) <| aC r0 <| aC (h6.symm : r22.length = x5.length) <| aC h7 <| aC h8 <| aC h9 <| aC h10 <| aN) (fun _ => rfl)
      ·have h := oinj h; subst h
       exact qfG (fuel := 132) [.go, rg3, bFa, rg4, rgG [oo, oo, oo, oo, .sb 181 true, oo, oo, oo, oo], bTr, rgG [oo, oo, oo, oo, oo, .rl 186 0 r22.length, .callR [22] [(22, .row 135 6 (x5.map qaA) 0)] (.tup []), .rl 0 0 x5.length, .rl 186 0 x5.length], rgG [oo, oo, oo, oo, .sb 195 true, oo, oo, oo, oo], bFa, rgG [oo, oo, oo, oo, .sb 209 false, oo, oo, oo, oo, .nrm 1], bFa]
        _
        ((22, .row 135 6 (x5.map qaA) 0) :: H) hn (by kernel_rfl) (aC h1 <| aC h2 <| aC h3 <| aC r0 <| aC (lq r22) <| aC (qa8 h4) <| aC r0 <| aC (h6.symm : r22.length = x5.length) <| aC r0 <| aC (h6.symm : r22.length = x5.length) <| aC h7 <| aC h8 <| aC h9 <| aC rf <| aN) (fun _ => rfl)
    ·rcases qaY h with ⟨h8, h⟩ | ⟨h8, h⟩
     ·rcases qaY h with ⟨h9, h⟩ | ⟨h9, h⟩
      ·obtain ⟨x11, h10, h⟩ := qaV h
       obtain ⟨h12, h⟩ := qb3 h
       have h := oinj h; subst h
       exact qfG (fuel := 136) [.go, rg3, bFa, rg4, rgG [oo, oo, oo, oo, .sb 181 true, oo, oo, oo, oo], bTr, rgG [oo, oo, oo, oo, oo, .rl 186 0 r22.length, .callR [22] [(22, .row 135 6 (x5.map qaA) 0)] (.tup []), .rl 0 0 x5.length, .rl 186 0 x5.length], rgG [oo, oo, oo, oo, .sb 195 false, oo, oo, oo, oo], bFa, rgG [oo, oo, oo, oo, .sb 209 true, oo, oo, oo, oo], bTr, rgG [oo, oo, oo, oo, oo, .rl 214 0 x5.length, .callR [22] [(22, .row 135 6 (x11.map qaA) 0)] (.tup []), .rl 0 0 x11.length, .rl 186 0 x11.length, .rl 214 0 x11.length, .nrm 2]]
        _
        ((22, .row 135 6 (x11.map qaA) 0) :: H) hn (by kernel_rfl) (aC h1 <| aC h2 <| aC h3 <| aC r0 <| aC (lq r22) <| aC (qa8 h4) <| aC r0 <| aC (h6.symm : r22.length = x5.length) <| aC r0 <| aC (h6.symm : r22.length = x5.length) <| aC h7 <| aC rf <| aC h8 <| aC h9 <| aC r0 <| aC (lq x5) <| aC (qaQ K ih h10 : qkQ prog 193 [.c (C.row 22 0 x5.length), vi .i64 mid, .c (C.t (T.int .i64 (wI6 (n - start)))), vi .i64 b, .c (C.t (T.fn 169))] [(22, .row 135 6 (x5.map qaA) 0)] [(22, .row 135 6 (x11.map qaA) 0)] (.tup [])) <| aC r0 <| aC (h12.symm : x5.length = x11.length) <| aC r0 <| aC (h12.symm : x5.length = x11.length) <| aC r0 <| aC (h12.symm : x5.length = x11.length) <| aN) (fun _ => rfl)
      ·have h := oinj h; subst h
       exact qfG (fuel := 132) [.go, rg3, bFa, rg4, rgG [oo, oo, oo, oo, .sb 181 true, oo, oo, oo, oo], bTr, rgG [oo, oo, oo, oo, oo, .rl 186 0 r22.length, .callR [22] [(22, .row 135 6 (x5.map qaA) 0)] (.tup []), .rl 0 0 x5.length, .rl 186 0 x5.length], rgG [oo, oo, oo, oo, .sb 195 false, oo, oo, oo, oo], bFa, rgG [oo, oo, oo, oo, .sb 209 true, oo, oo, oo, oo, .nrm 1], bFa]
        _
        ((22, .row 135 6 (x5.map qaA) 0) :: H) hn (by kernel_rfl) (aC h1 <| aC h2 <| aC h3 <| aC r0 <| aC (lq r22) <| aC (qa8 h4) <| aC r0 <| aC (h6.symm : r22.length = x5.length) <| aC r0 <| aC (h6.symm : r22.length = x5.length) <| aC h7 <| aC rf <| aC h8 <| aC h9 <| aN) (fun _ => rfl)
     ·have h := oinj h; subst h
      exact qfG (fuel := 132) [.go, rg3, bFa, rg4, rgG [oo, oo, oo, oo, .sb 181 true, oo, oo, oo, oo], bTr, rgG [oo, oo, oo, oo, oo, .rl 186 0 r22.length, .callR [22] [(22, .row 135 6 (x5.map qaA) 0)] (.tup []), .rl 0 0 x5.length, .rl 186 0 x5.length], rgG [oo, oo, oo, oo, .sb 195 false, oo, oo, oo, oo], bFa, rgG [oo, oo, oo, oo, .sb 209 false, oo, oo, oo, oo, .nrm 1], bFa]
       _
       ((22, .row 135 6 (x5.map qaA) 0) :: H) hn (by kernel_rfl) (aC h1 <| aC h2 <| aC h3 <| aC r0 <| aC (lq r22) <| aC (qa8 h4) <| aC r0 <| aC (h6.symm : r22.length = x5.length) <| aC r0 <| aC (h6.symm : r22.length = x5.length) <| aC h7 <| aC rf <| aC h8 <| aC rf <| aN) (fun _ => rfl)
   ·rcases qaY h with ⟨h4, h⟩ | ⟨h4, h⟩
    ·rcases qaY h with ⟨h5, h⟩ | ⟨h5, h⟩
     ·obtain ⟨x7, h6, h⟩ := qaV h
      obtain ⟨h8, h⟩ := qb3 h
      rcases qaY h with ⟨h9, h⟩ | ⟨h9, h⟩
      ·rcases qaY h with ⟨h10, h⟩ | ⟨h10, h⟩
       ·obtain ⟨x12, h11, h⟩ := qaV h
        obtain ⟨h13, h⟩ := qb3 h
        have h := oinj h; subst h
        exact qfG (fuel := 136) [.go, rg3, bFa, rg4, rgG [oo, oo, oo, oo, .sb 181 true, oo, oo, oo, oo], bFa, rgG [oo, oo, oo, oo, .sb 195 true, oo, oo, oo, oo], bTr, rgG [oo, oo, oo, oo, oo, .rl 200 0 r22.length, .callR [22] [(22, .row 135 6 (x7.map qaA) 0)] (.tup []), .rl 0 0 x7.length, .rl 200 0 x7.length], rgG [oo, oo, oo, oo, .sb 209 true, oo, oo, oo, oo], bTr, rgG [oo, oo, oo, oo, oo, .rl 214 0 x7.length, .callR [22] [(22, .row 135 6 (x12.map qaA) 0)] (.tup []), .rl 0 0 x12.length, .rl 200 0 x12.length, .rl 214 0 x12.length, .nrm 2]]
         _
         ((22, .row 135 6 (x12.map qaA) 0) :: H) hn (by kernel_rfl) (aC h1 <| aC h2 <| aC h3 <| aC h4 <| aC h5 <| aC r0 <| aC (lq r22) <| aC (qaQ K ih h6 : qkQ prog 193 [.c (C.row 22 0 r22.length), vi .i64 a, vi .i64 start, vi .i64 mid, .c (C.t (T.fn 169))] [(22, .row 135 6 (r22.map qaA) 0)] [(22, .row 135 6 (x7.map qaA) 0)] (.tup [])) <| aC r0 <| aC (h8.symm : r22.length = x7.length) <| aC r0 <| aC (h8.symm : r22.length = x7.length) <| aC h9 <| aC h10 <| aC r0 <| aC (lq x7) <| aC (qaQ K ih h11 : qkQ prog 193 [.c (C.row 22 0 x7.length), vi .i64 mid, .c (C.t (T.int .i64 (wI6 (n - start)))), vi .i64 b, .c (C.t (T.fn 169))] [(22, .row 135 6 (x7.map qaA) 0)] [(22, .row 135 6 (x12.map qaA) 0)] (.tup [])) <| aC r0 <| aC (h13.symm : x7.length = x12.length) <| aC r0 <| aC (h13.symm : x7.length = x12.length) <| aC r0 <| aC (h13.symm : x7.length = x12.length) <| aN) (fun _ => rfl)
       ·have h := oinj h; subst h
        exact qfG (fuel := 132) [.go, rg3, bFa, rg4, rgG [oo, oo, oo, oo, .sb 181 true, oo, oo, oo, oo], bFa, rgG [oo, oo, oo, oo, .sb 195 true, oo, oo, oo, oo], bTr, rgG [oo, oo, oo, oo, oo, .rl 200 0 r22.length, .callR [22] [(22, .row 135 6 (x7.map qaA) 0)] (.tup []), .rl 0 0 x7.length, .rl 200 0 x7.length], rgG [oo, oo, oo, oo, .sb 209 true, oo, oo, oo, oo, .nrm 1], bFa]
         _
         ((22, .row 135 6 (x7.map qaA) 0) :: H) hn (by kernel_rfl) (aC h1 <| aC h2 <| aC h3 <| aC h4 <| aC h5 <| aC r0 <| aC (lq r22) <| aC (qaQ K ih h6 : qkQ prog 193 [.c (C.row 22 0 r22.length), vi .i64 a, vi .i64 start, vi .i64 mid, .c (C.t (T.fn 169))] [(22, .row 135 6 (r22.map qaA) 0)] [(22, .row 135 6 (x7.map qaA) 0)] (.tup [])) <| aC r0 <| aC (h8.symm : r22.length = x7.length) <| aC r0 <| aC (h8.symm : r22.length = x7.length) <| aC h9 <| aC h10 <| aN) (fun _ => rfl)
      ·have h := oinj h; subst h
       exact qfG (fuel := 132) [.go, rg3, bFa, rg4, rgG [oo, oo, oo, oo, .sb 181 true, oo, oo, oo, oo], bFa, rgG [oo, oo, oo, oo, .sb 195 true, oo, oo, oo, oo], bTr, rgG [oo, oo, oo, oo, oo, .rl 200 0 r22.length, .callR [22] [(22, .row 135 6 (x7.map qaA) 0)] (.tup []), .rl 0 0 x7.length, .rl 200 0 x7.length], rgG [oo, oo, oo, oo, .sb 209 false, oo, oo, oo, oo, .nrm 1], bFa]
        _
        ((22, .row 135 6 (x7.map qaA) 0) :: H) hn (by kernel_rfl) (aC h1 <| aC h2 <| aC h3 <| aC h4 <| aC h5 <| aC r0 <| aC (lq r22) <| aC (qaQ K ih h6 : qkQ prog 193 [.c (C.row 22 0 r22.length), vi .i64 a, vi .i64 start, vi .i64 mid, .c (C.t (T.fn 169))] [(22, .row 135 6 (r22.map qaA) 0)] [(22, .row 135 6 (x7.map qaA) 0)] (.tup [])) <| aC r0 <| aC (h8.symm : r22.length = x7.length) <| aC r0 <| aC (h8.symm : r22.length = x7.length) <| aC h9 <| aC rf <| aN) (fun _ => rfl)
     ·rcases qaY h with ⟨h6, h⟩ | ⟨h6, h⟩
      ·rcases qaY h with ⟨h7, h⟩ | ⟨h7, h⟩
       ·obtain ⟨x9, h8, h⟩ := qaV h
        obtain ⟨h10, h⟩ := qb3 h
        have h := oinj h; subst h
        exact qfG (fuel := 132) [.go, rg3, bFa, rg4, rgG [oo, oo, oo, oo, .sb 181 true, oo, oo, oo, oo], bFa, rgG [oo, oo, oo, oo, .sb 195 true, oo, oo, oo, oo], bFa, rgG [oo, oo, oo, oo, .sb 209 true, oo, oo, oo, oo], bTr, rgG [oo, oo, oo, oo, oo, .rl 214 0 r22.length, .callR [22] [(22, .row 135 6 (x9.map qaA) 0)] (.tup []), .rl 0 0 x9.length, .rl 214 0 x9.length, .nrm 1]]
         _
         ((22, .row 135 6 (x9.map qaA) 0) :: H) hn (by kernel_rfl) (aC h1 <| aC h2 <| aC h3 <| aC h4 <| aC h5 <| aC h6 <| aC h7 <| aC r0 <| aC (lq r22) <| aC (qaQ K ih h8 : qkQ prog 193 [.c (C.row 22 0 r22.length), vi .i64 mid, .c (C.t (T.int .i64 (wI6 (n - start)))), vi .i64 b, .c (C.t (T.fn 169))] [(22, .row 135 6 (r22.map qaA) 0)] [(22, .row 135 6 (x9.map qaA) 0)] (.tup [])) <| aC r0 <| aC (h10.symm : r22.length = x9.length) <| aC r0 <| aC (h10.symm : r22.length = x9.length) <| aN) (fun _ => rfl)
       ·have h := oinj h; subst h
        exact qfG (fuel := 128) [.go, rg3, bFa, rg4, rgG [oo, oo, oo, oo, .sb 181 true, oo, oo, oo, oo], bFa, rgG [oo, oo, oo, oo, .sb 195 true, oo, oo, oo, oo], bFa, rgG [oo, oo, oo, oo, .sb 209 true, oo, oo, oo, oo], bFa]
         _
         ((22, .row 135 6 (r22.map qaA) 0) :: H) hn (by kernel_rfl) (aC h1 <| aC h2 <| aC h3 <| aC h4 <| aC h5 <| aC h6 <| aC h7 <| aN) (fun _ => rfl)
      ·have h := oinj h; subst h
       exact qfG (fuel := 128) [.go, rg3, bFa, rg4, rgG [oo, oo, oo, oo, .sb 181 true, oo, oo, oo, oo], bFa, rgG [oo, oo, oo, oo, .sb 195 true, oo, oo, oo, oo], bFa, rgG [oo, oo, oo, oo, .sb 209 false, oo, oo, oo, oo], bFa]
        _
        ((22, .row 135 6 (r22.map qaA) 0) :: H) hn (by kernel_rfl) (aC h1 <| aC h2 <| aC h3 <| aC h4 <| aC h5 <| aC h6 <| aC rf <| aN) (fun _ => rfl)
    ·rcases qaY h with ⟨h5, h⟩ | ⟨h5, h⟩
     ·rcases qaY h with ⟨h6, h⟩ | ⟨h6, h⟩
      ·obtain ⟨x8, h7, h⟩ := qaV h
       obtain ⟨h9, h⟩ := qb3 h
       have h := oinj h; subst h
       exact qfG (fuel := 132) [.go, rg3, bFa, rg4, rgG [oo, oo, oo, oo, .sb 181 true, oo, oo, oo, oo], bFa, rgG [oo, oo, oo, oo, .sb 195 false, oo, oo, oo, oo], bFa, rgG [oo, oo, oo, oo, .sb 209 true, oo, oo, oo, oo], bTr, rgG [oo, oo, oo, oo, oo, .rl 214 0 r22.length, .callR [22] [(22, .row 135 6 (x8.map qaA) 0)] (.tup []), .rl 0 0 x8.length, .rl 214 0 x8.length, .nrm 1]]
        _
        ((22, .row 135 6 (x8.map qaA) 0) :: H) hn (by kernel_rfl) (aC h1 <| aC h2 <| aC h3 <| aC h4 <| aC rf <| aC h5 <| aC h6 <| aC r0 <| aC (lq r22) <| aC (qaQ K ih h7 : qkQ prog 193 [.c (C.row 22 0 r22.length), vi .i64 mid, .c (C.t (T.int .i64 (wI6 (n - start)))), vi .i64 b, .c (C.t (T.fn 169))] [(22, .row 135 6 (r22.map qaA) 0)] [(22, .row 135 6 (x8.map qaA) 0)] (.tup [])) <| aC r0 <| aC (h9.symm : r22.length = x8.length) <| aC r0 <| aC (h9.symm : r22.length = x8.length) <| aN) (fun _ => rfl)
      ·have h := oinj h; subst h
       exact qfG (fuel := 128) [.go, rg3, bFa, rg4, rgG [oo, oo, oo, oo, .sb 181 true, oo, oo, oo, oo], bFa, rgG [oo, oo, oo, oo, .sb 195 false, oo, oo, oo, oo], bFa, rgG [oo, oo, oo, oo, .sb 209 true, oo, oo, oo, oo], bFa]
        _
        ((22, .row 135 6 (r22.map qaA) 0) :: H) hn (by kernel_rfl) (aC h1 <| aC h2 <| aC h3 <| aC h4 <| aC rf <| aC h5 <| aC h6 <| aN) (fun _ => rfl)
     ·have h := oinj h; subst h
      exact qfG (fuel := 128) [.go, rg3, bFa, rg4, rgG [oo, oo, oo, oo, .sb 181 true, oo, oo, oo, oo], bFa, rgG [oo, oo, oo, oo, .sb 195 false, oo, oo, oo, oo], bFa, rgG [oo, oo, oo, oo, .sb 209 false, oo, oo, oo, oo], bFa]
       _
       ((22, .row 135 6 (r22.map qaA) 0) :: H) hn (by kernel_rfl) (aC h1 <| aC h2 <| aC h3 <| aC h4 <| aC rf <| aC h5 <| aC rf <| aN) (fun _ => rfl)
  ·rcases qaY h with ⟨h3, h⟩ | ⟨h3, h⟩
   ·rcases qaY h with ⟨h4, h⟩ | ⟨h4, h⟩
    ·obtain ⟨x6, h5, h⟩ := qaV h
     obtain ⟨h7, h⟩ := qb3 h
     rcases qaY h with ⟨h8, h⟩ | ⟨h8, h⟩
     ·rcases qaY h with ⟨h9, h⟩ | ⟨h9, h⟩
      ·obtain ⟨x11, h10, h⟩ := qaV h
       obtain ⟨h12, h⟩ := qb3 h
       have h := oinj h; subst h
       exact qfG (fuel := 136) [.go, rg3, bFa, rg4, rgG [oo, oo, oo, oo, .sb 181 false, oo, oo, oo, oo], bFa, rgG [oo, oo, oo, oo, .sb 195 true, oo, oo, oo, oo], bTr, rgG [oo, oo, oo, oo, oo, .rl 200 0 r22.length, .callR [22] [(22, .row 135 6 (x6.map qaA) 0)] (.tup []), .rl 0 0 x6.length, .rl 200 0 x6.length], rgG [oo, oo, oo, oo, .sb 209 true, oo, oo, oo, oo], bTr, rgG [oo, oo, oo, oo, oo, .rl 214 0 x6.length, .callR [22] [(22, .row 135 6 (x11.map qaA) 0)] (.tup []), .rl 0 0 x11.length, .rl 200 0 x11.length, .rl 214 0 x11.length, .nrm 2]]
        _
        ((22, .row 135 6 (x11.map qaA) 0) :: H) hn (by kernel_rfl) (aC h1 <| aC h2 <| aC rf <| aC h3 <| aC h4 <| aC r0 <| aC (lq r22) <| aC (qaQ K ih h5 : qkQ prog 193 [.c (C.row 22 0 r22.length), vi .i64 a, vi .i64 start, vi .i64 mid, .c (C.t (T.fn 169))] [(22, .row 135 6 (r22.map qaA) 0)] [(22, .row 135 6 (x6.map qaA) 0)] (.tup [])) <| aC r0 <| aC (h7.symm : r22.length = x6.length) <| aC r0 <| aC (h7.symm : r22.length = x6.length) <| aC h8 <| aC h9 <| aC r0 <| aC (lq x6) <| aC (qaQ K ih h10 : qkQ prog 193 [.c (C.row 22 0 x6.length), vi .i64 mid, .c (C.t (T.int .i64 (wI6 (n - start)))), vi .i64 b, .c (C.t (T.fn 169))] [(22, .row 135 6 (x6.map qaA) 0)] [(22, .row 135 6 (x11.map qaA) 0)] (.tup [])) <| aC r0 <| aC (h12.symm : x6.length = x11.length) <| aC r0 <| aC (h12.symm : x6.length = x11.length) <| aC r0 <| aC (h12.symm : x6.length = x11.length) <| aN) (fun _ => rfl)
      ·have h := oinj h; subst h
       exact qfG (fuel := 132) [.go, rg3, bFa, rg4, rgG [oo, oo, oo, oo, .sb 181 false, oo, oo, oo, oo], bFa, rgG [oo, oo, oo, oo, .sb 195 true, oo, oo, oo, oo], bTr, rgG [oo, oo, oo, oo, oo, .rl 200 0 r22.length, .callR [22] [(22, .row 135 6 (x6.map qaA) 0)] (.tup []), .rl 0 0 x6.length, .rl 200 0 x6.length], rgG [oo, oo, oo, oo, .sb 209 true, oo, oo, oo, oo, .nrm 1], bFa]
        _
        ((22, .row 135 6 (x6.map qaA) 0) :: H) hn (by kernel_rfl) (aC h1 <| aC h2 <| aC rf <| aC h3 <| aC h4 <| aC r0 <| aC (lq r22) <| aC (qaQ K ih h5 : qkQ prog 193 [.c (C.row 22 0 r22.length), vi .i64 a, vi .i64 start, vi .i64 mid, .c (C.t (T.fn 169))] [(22, .row 135 6 (r22.map qaA) 0)] [(22, .row 135 6 (x6.map qaA) 0)] (.tup [])) <| aC r0 <| aC (h7.symm : r22.length = x6.length) <| aC r0 <| aC (h7.symm : r22.length = x6.length) <| aC h8 <| aC h9 <| aN) (fun _ => rfl)
     ·have h := oinj h; subst h
      exact qfG (fuel := 132) [.go, rg3, bFa, rg4, rgG [oo, oo, oo, oo, .sb 181 false, oo, oo, oo, oo], bFa, rgG [oo, oo, oo, oo, .sb 195 true, oo, oo, oo, oo], bTr, rgG [oo, oo, oo, oo, oo, .rl 200 0 r22.length, .callR [22] [(22, .row 135 6 (x6.map qaA) 0)] (.tup []), .rl 0 0 x6.length, .rl 200 0 x6.length], rgG [oo, oo, oo, oo, .sb 209 false, oo, oo, oo, oo, .nrm 1], bFa]
       _
       ((22, .row 135 6 (x6.map qaA) 0) :: H) hn (by kernel_rfl) (aC h1 <| aC h2 <| aC rf <| aC h3 <| aC h4 <| aC r0 <| aC (lq r22) <| aC (qaQ K ih h5 : qkQ prog 193 [.c (C.row 22 0 r22.length), vi .i64 a, vi .i64 start, vi .i64 mid, .c (C.t (T.fn 169))] [(22, .row 135 6 (r22.map qaA) 0)] [(22, .row 135 6 (x6.map qaA) 0)] (.tup [])) <| aC r0 <| aC (h7.symm : r22.length = x6.length) <| aC r0 <| aC (h7.symm : r22.length = x6.length) <| aC h8 <| aC rf <| aN) (fun _ => rfl)
    ·rcases qaY h with ⟨h5, h⟩ | ⟨h5, h⟩
     ·rcases qaY h with ⟨h6, h⟩ | ⟨h6, h⟩
      ·obtain ⟨x8, h7, h⟩ := qaV h
       obtain ⟨h9, h⟩ := qb3 h
       have h := oinj h; subst h
       exact qfG (fuel := 132) [.go, rg3, bFa, rg4, rgG [oo, oo, oo, oo, .sb 181 false, oo, oo, oo, oo], bFa, rgG [oo, oo, oo, oo, .sb 195 true, oo, oo, oo, oo], bFa, rgG [oo, oo, oo, oo, .sb 209 true, oo, oo, oo, oo], bTr, rgG [oo, oo, oo, oo, oo, .rl 214 0 r22.length, .callR [22] [(22, .row 135 6 (x8.map qaA) 0)] (.tup []), .rl 0 0 x8.length, .rl 214 0 x8.length, .nrm 1]]
        _
        ((22, .row 135 6 (x8.map qaA) 0) :: H) hn (by kernel_rfl) (aC h1 <| aC h2 <| aC rf <| aC h3 <| aC h4 <| aC h5 <| aC h6 <| aC r0 <| aC (lq r22) <| aC (qaQ K ih h7 : qkQ prog 193 [.c (C.row 22 0 r22.length), vi .i64 mid, .c (C.t (T.int .i64 (wI6 (n - start)))), vi .i64 b, .c (C.t (T.fn 169))] [(22, .row 135 6 (r22.map qaA) 0)] [(22, .row 135 6 (x8.map qaA) 0)] (.tup [])) <| aC r0 <| aC (h9.symm : r22.length = x8.length) <| aC r0 <| aC (h9.symm : r22.length = x8.length) <| aN) (fun _ => rfl)
      ·have h := oinj h; subst h
       exact qfG (fuel := 128) [.go, rg3, bFa, rg4, rgG [oo, oo, oo, oo, .sb 181 false, oo, oo, oo, oo], bFa, rgG [oo, oo, oo, oo, .sb 195 true, oo, oo, oo, oo], bFa, rgG [oo, oo, oo, oo, .sb 209 true, oo, oo, oo, oo], bFa]
        _
        ((22, .row 135 6 (r22.map qaA) 0) :: H) hn (by kernel_rfl) (aC h1 <| aC h2 <| aC rf <| aC h3 <| aC h4 <| aC h5 <| aC h6 <| aN) (fun _ => rfl)
     ·have h := oinj h; subst h
      exact qfG (fuel := 128) [.go, rg3, bFa, rg4, rgG [oo, oo, oo, oo, .sb 181 false, oo, oo, oo, oo], bFa, rgG [oo, oo, oo, oo, .sb 195 true, oo, oo, oo, oo], bFa, rgG [oo, oo, oo, oo, .sb 209 false, oo, oo, oo, oo], bFa]
       _
       ((22, .row 135 6 (r22.map qaA) 0) :: H) hn (by kernel_rfl) (aC h1 <| aC h2 <| aC rf <| aC h3 <| aC h4 <| aC h5 <| aC rf <| aN) (fun _ => rfl)
   ·rcases qaY h with ⟨h4, h⟩ | ⟨h4, h⟩
    ·rcases qaY h with ⟨h5, h⟩ | ⟨h5, h⟩
     ·obtain ⟨x7, h6, h⟩ := qaV h
      obtain ⟨h8, h⟩ := qb3 h
      have h := oinj h; subst h
      exact qfG (fuel := 132) [.go, rg3, bFa, rg4, rgG [oo, oo, oo, oo, .sb 181 false, oo, oo, oo, oo], bFa, rgG [oo, oo, oo, oo, .sb 195 false, oo, oo, oo, oo], bFa, rgG [oo, oo, oo, oo, .sb 209 true, oo, oo, oo, oo], bTr, rgG [oo, oo, oo, oo, oo, .rl 214 0 r22.length, .callR [22] [(22, .row 135 6 (x7.map qaA) 0)] (.tup []), .rl 0 0 x7.length, .rl 214 0 x7.length, .nrm 1]]
       _
       ((22, .row 135 6 (x7.map qaA) 0) :: H) hn (by kernel_rfl) (aC h1 <| aC h2 <| aC rf <| aC h3 <| aC rf <| aC h4 <| aC h5 <| aC r0 <| aC (lq r22) <| aC (qaQ K ih h6 : qkQ prog 193 [.c (C.row 22 0 r22.length), vi .i64 mid, .c (C.t (T.int .i64 (wI6 (n - start)))), vi .i64 b, .c (C.t (T.fn 169))] [(22, .row 135 6 (r22.map qaA) 0)] [(22, .row 135 6 (x7.map qaA) 0)] (.tup [])) <| aC r0 <| aC (h8.symm : r22.length = x7.length) <| aC r0 <| aC (h8.symm : r22.length = x7.length) <| aN) (fun _ => rfl)
     ·have h := oinj h; subst h
      exact qfG (fuel := 128) [.go, rg3, bFa, rg4, rgG [oo, oo, oo, oo, .sb 181 false, oo, oo, oo, oo], bFa, rgG [oo, oo, oo, oo, .sb 195 false, oo, oo, oo, oo], bFa, rgG [oo, oo, oo, oo, .sb 209 true, oo, oo, oo, oo], bFa]
       _
       ((22, .row 135 6 (r22.map qaA) 0) :: H) hn (by kernel_rfl) (aC h1 <| aC h2 <| aC rf <| aC h3 <| aC rf <| aC h4 <| aC h5 <| aN) (fun _ => rfl)
    ·have h := oinj h; subst h
     exact qfG (fuel := 128) [.go, rg3, bFa, rg4, rgG [oo, oo, oo, oo, .sb 181 false, oo, oo, oo, oo], bFa, rgG [oo, oo, oo, oo, .sb 195 false, oo, oo, oo, oo], bFa, rgG [oo, oo, oo, oo, .sb 209 false, oo, oo, oo, oo], bFa]
      _
      ((22, .row 135 6 (r22.map qaA) 0) :: H) hn (by kernel_rfl) (aC h1 <| aC h2 <| aC rf <| aC h3 <| aC rf <| aC h4 <| aC rf <| aN) (fun _ => rfl)
theorem qhS {K} (ih : qbH K) {cx} (hn : cx.n = 220) (H : List (Nat × Blk)) (exs : List V) {r22 i k} {r} (h : qaF (K + 1) (.c4 r22 i k) = some r) : qbP cx H exs (.c4 r22 i k) r := by
 rw [qaF] at h
 rcases qaY h with ⟨h1, h⟩ | ⟨h1, h⟩
 ·obtain ⟨x2, h3, h⟩ := qaV h
  obtain ⟨x4, h5, h⟩ := qaV h
  obtain ⟨x6, h7, h⟩ := qaV h
  obtain ⟨x8, h9, h⟩ := qaV h
  exact wkG [.go, rg4, bTr, .draw [.mv, .p, .mv, .p, .p, .mv, .p, .p, .ir, (.ld (qaA x2)), .mv, .p, .ir, (.ld (qaA x4)), .ir, (.st (qaA x6) ((r22.set (k.toNat) x2).map qaA))] [.op .ir, opI (.st (qaA x8) (((r22.set (k.toNat) x2).set ((wI6 (k + (1 : Int))).toNat) x4).map qaA))], rg3, .pre [.rl 0 0 ((r22.set (k.toNat) x2).set ((wI6 (k + (1 : Int))).toNat) x4).length, .nrm 2, .keepT [0,10,13]]] hn (aC h1 <| aC (qb2 h3) <| aC (qcW h3 (by simp) : (wI6 (k + (1 : Int))) < ((r22.length : Nat) : Int)) <| aC (qcX qaA h3 : (r22.map qaA)[(0 + (wI6 (k + (1 : Int))).toNat)]? = some (qaA x2)) <| aC (qb2 h5) <| aC (qcW h5 (by simp) : k < ((r22.length : Nat) : Int)) <| aC (qcX qaA h5 : (r22.map qaA)[(0 + k.toNat)]? = some (qaA x4)) <| aC (qb2 h7) <| aC (qcW h7 (by simp) : k < ((r22.length : Nat) : Int)) <| aC (qcX qaA h7 : (r22.map qaA)[(0 + k.toNat)]? = some (qaA x6)) <| aC (qe3 _ _ x2 _ : (r22.map qaA).set (0 + k.toNat) (qdE (qaA x6) 0 [(T.bool x2.Coef.Neg), (T.sl 1 (x2.Coef.Abs.map qaE)), (T.int .i64 x2.Exp.e0), (T.int .i64 x2.Exp.e1), (T.int .i64 x2.Exp.e2), (T.int .i64 x2.Exp.e3)]) = (r22.set (k.toNat) x2).map qaA) <| aC (Nat.zero_le _ : 0 ≤ (0 + k.toNat)) <| aC (qb2 h9) <| aC (qcW h9 (by simp) : (wI6 (k + (1 : Int))) < ((r22.length : Nat) : Int)) <| aC (qcX qaA h9 : ((r22.set (k.toNat) x2).map qaA)[(0 + (wI6 (k + (1 : Int))).toNat)]? = some (qaA x8)) <| aC (qe3 _ _ x4 _ : ((r22.set (k.toNat) x2).map qaA).set (0 + (wI6 (k + (1 : Int))).toNat) (qdE (qaA x8) 0 [(T.bool x4.Coef.Neg), (T.sl 1 (x4.Coef.Abs.map qaE)), (T.int .i64 x4.Exp.e0), (T.int .i64 x4.Exp.e1), (T.int .i64 x4.Exp.e2), (T.int .i64 x4.Exp.e3)]) = ((r22.set (k.toNat) x2).set ((wI6 (k + (1 : Int))).toNat) x4).map qaA) <| aC (Nat.zero_le _ : 0 ≤ (0 + (wI6 (k + (1 : Int))).toNat)) <| aC r0 <| aC (by simp : r22.length = ((r22.set (k.toNat) x2).set ((wI6 (k + (1 : Int))).toNat) x4).length) <| aN) (ih _ _ h cx hn H exs)
 ·have h := oinj h; subst h
  exact qfG (fuel := 72) [.go, rg4, bFa]
   _
   ((22, .row 135 6 (r22.map qaA) 0) :: H) hn (by kernel_rfl) (aC h1 <| aN) (fun _ => rfl)
theorem qhR {K} (ih : qbH K) {cx} (hn : cx.n = 220) (H : List (Nat × Blk)) (exs : List V) {r22 i k} {r} (h : qaF (K + 1) (.c5 r22 i k) = some r) : qbP cx H exs (.c5 r22 i k) r := by
 rw [qaF] at h
 rcases qaY h with ⟨h1, h⟩ | ⟨h1, h⟩
 ·obtain ⟨x2, h3, h⟩ := qaV h
  obtain ⟨x4, h5, h⟩ := qaV h
  obtain ⟨x6, h7, h⟩ := qaV h
  obtain ⟨x8, h9, h⟩ := qaV h
  exact wkG [.go, rg3, bTr, .draw [.mv, .p, .mv, .p, .p, .mv, .p, .p, .ir, (.ld (qaA x2)), .mv, .p, .ir, (.ld (qaA x4)), .ir, (.st (qaA x6) ((r22.set (k.toNat) x2).map qaA))] [.op .ir, opI (.st (qaA x8) (((r22.set (k.toNat) x2).set ((wI6 (k - (1 : Int))).toNat) x4).map qaA))], rg3, .pre [.rl 0 0 ((r22.set (k.toNat) x2).set ((wI6 (k - (1 : Int))).toNat) x4).length, .nrm 2, .keepT [0,14,17]]] hn (aC h1 <| aC (qb2 h3) <| aC (qcW h3 (by simp) : (wI6 (k - (1 : Int))) < ((r22.length : Nat) : Int)) <| aC (qcX qaA h3 : (r22.map qaA)[(0 + (wI6 (k - (1 : Int))).toNat)]? = some (qaA x2)) <| aC (qb2 h5) <| aC (qcW h5 (by simp) : k < ((r22.length : Nat) : Int)) <| aC (qcX qaA h5 : (r22.map qaA)[(0 + k.toNat)]? = some (qaA x4)) <| aC (qb2 h7) <| aC (qcW h7 (by simp) : k < ((r22.length : Nat) : Int)) <| aC (qcX qaA h7 : (r22.map qaA)[(0 + k.toNat)]? = some (qaA x6)) <| aC (qe3 _ _ x2 _ : (r22.map qaA).set (0 + k.toNat) (qdE (qaA x6) 0 [(T.bool x2.Coef.Neg), (T.sl 1 (x2.Coef.Abs.map qaE)), (T.int .i64 x2.Exp.e0), (T.int .i64 x2.Exp.e1), (T.int .i64 x2.Exp.e2), (T.int .i64 x2.Exp.e3)]) = (r22.set (k.toNat) x2).map qaA) <| aC (Nat.zero_le _ : 0 ≤ (0 + k.toNat)) <| aC (qb2 h9) <| aC (qcW h9 (by simp) : (wI6 (k - (1 : Int))) < ((r22.length : Nat) : Int)) <| aC (qcX qaA h9 : ((r22.set (k.toNat) x2).map qaA)[(0 + (wI6 (k - (1 : Int))).toNat)]? = some (qaA x8)) <| aC (qe3 _ _ x4 _ : ((r22.set (k.toNat) x2).map qaA).set (0 + (wI6 (k - (1 : Int))).toNat) (qdE (qaA x8) 0 [(T.bool x4.Coef.Neg), (T.sl 1 (x4.Coef.Abs.map qaE)), (T.int .i64 x4.Exp.e0), (T.int .i64 x4.Exp.e1), (T.int .i64 x4.Exp.e2), (T.int .i64 x4.Exp.e3)]) = ((r22.set (k.toNat) x2).set ((wI6 (k - (1 : Int))).toNat) x4).map qaA) <| aC (Nat.zero_le _ : 0 ≤ (0 + (wI6 (k - (1 : Int))).toNat)) <| aC r0 <| aC (by simp : r22.length = ((r22.set (k.toNat) x2).set ((wI6 (k - (1 : Int))).toNat) x4).length) <| aN) (ih _ _ h cx hn H exs)
 ·have h := oinj h; subst h
  exact qfG (fuel := 72) [.go, rg3, bFa]
   _
   ((22, .row 135 6 (r22.map qaA) 0) :: H) hn (by kernel_rfl) (aC h1 <| aN) (fun _ => rfl)
theorem qbM : ∀ K : Nat, qbH K
 | 0, c, r, h => by rw [qaF] at h; cases h
 | K + 1, .c0 .., r, h => fun cx hn H exs => qhW (qbM K) hn H exs h
 | K + 1, .c1 .., r, h => fun cx hn H exs => qhV (qbM K) hn H exs h
 | K + 1, .c2 .., r, h => fun cx hn H exs => qhU (qbM K) hn H exs h
 | K + 1, .c3 .., r, h => fun cx hn H exs => qhT (qbM K) hn H exs h
 | K + 1, .c4 .., r, h => fun cx hn H exs => qhS (qbM K) hn H exs h
 | K + 1, .c5 .., r, h => fun cx hn H exs => qhR (qbM K) hn H exs h
theorem qeO {K : Nat} {row : (List qaH)} {a : Int} {m : Int} {b : Int} {r : (List qaH)} (h : qc5 K row a m b = some r) : qkQ prog 193 [.c (C.row 22 0 row.length), vi .i64 a, vi .i64 m, vi .i64 b, .c (C.t (T.fn 169))] [(22, .row 135 6 (row.map qaA) 0)] [(22, .row 135 6 (r.map qaA) 0)] (.tup []) :=
 qtC (n := 220) (by kernel_rfl) (by simp) fun cx hn H exs => qbM K (.c0 row a m b) r h cx hn H exs
open Go.Proofs.Try (prog)
inductive qc1 where
 | c0 (row : (List qaH)) (n : Int)
 | c1 (r22 : (List qaH)) (n : Int) (blockSize : Int) (a : Int) (b : Int)
 | c2 (r22 : (List qaH)) (n : Int) (blockSize : Int)
 | c3 (r22 : (List qaH)) (n : Int) (blockSize : Int) (a : Int) (b : Int)
def qaN : Nat → qc1 → Option (List qaH)
 | 0, _ => none
 | K + 1, .c0 row n =>
  qaN K (.c1 row n (20 : Int) (0 : Int) (20 : Int))
 | K + 1, .c1 r22 n blockSize a b =>
  bif (decide (b ≤ n)) then
   (qb7 K r22 a b).bind fun x3 =>
   gd (x3.length = r22.length) <|
   qaN K (.c1 x3 n blockSize b (wI6 (b + blockSize)))
  else
   (qb7 K r22 a n).bind fun x3 =>
   gd (x3.length = r22.length) <|
   qaN K (.c2 x3 n blockSize)
 | K + 1, .c2 r22 n blockSize =>
  bif (decide (blockSize < n)) then
   qaN K (.c3 r22 n blockSize (0 : Int) (wI6 ((2 : Int) * blockSize)))
  else
   some r22
 | K + 1, .c3 r22 n blockSize a b =>
  bif (decide (b ≤ n)) then
   (qc5 K r22 a (wI6 (a + blockSize)) b).bind fun x3 =>
   gd (x3.length = r22.length) <|
   qaN K (.c3 x3 n blockSize b (wI6 (b + (wI6 ((2 : Int) * blockSize)))))
  else
   bif (decide ((wI6 (a + blockSize)) < n)) then
    (qc5 K r22 a (wI6 (a + blockSize)) n).bind fun x4 =>
    gd (x4.length = r22.length) <|
    qaN K (.c2 x4 n (wI6 (blockSize * (2 : Int))))
   else
    qaN K (.c2 r22 n (wI6 (blockSize * (2 : Int))))
def qd4 (K : Nat) (row : (List qaH)) (n : Int) : Option (List qaH) := qaN K (.c0 row n)
noncomputable def qbN : Code := qmX prog 185
noncomputable def qhZ : qc1 → List Fr
 | .c0 .. => [.code qbN]
 | .c1 .. => [.code (.loop (atC qbN [1,1,0,0,0])), .blk 0, .code (atC qbN [1,1,1])]
 | .c2 .. => [.code (.loop (atC qbN [1,1,1,1,0,0])), .blk 2]
 | .c3 .. => [.code (.loop (atC qbN [1,1,1,1,0,0,1,0,1,0,0,0])), .blk 4, .code (atC qbN [1,1,1,1,0,0,1,0,1,1]), .blk 3, .lp (atC qbN [1,1,1,1,0,0]), .blk 2]
def qh1 (H : List (Nat × Blk)) (exs : List V) : qc1 → St
 | .c0 row n => ⟨idxV 0 [.c (C.row 22 0 row.length), vi .i64 n, .c (C.t (T.fn 169))], [(22, .row 135 6 (row.map qaA) 0)] ++ H, exs⟩
 | .c1 r22 n blockSize a b => ⟨[(0, .c (C.row 22 0 r22.length)), (1, vi .i64 n), (2, .c (C.t (T.fn 169))), (6, vi .i64 blockSize), (7, vi .i64 a), (8, vi .i64 b)], [(22, .row 135 6 (r22.map qaA) 0)] ++ H, exs⟩
 | .c2 r22 n blockSize => ⟨[(0, .c (C.row 22 0 r22.length)), (1, vi .i64 n), (2, .c (C.t (T.fn 169))), (6, vi .i64 blockSize)], [(22, .row 135 6 (r22.map qaA) 0)] ++ H, exs⟩
 | .c3 r22 n blockSize a b => ⟨[(0, .c (C.row 22 0 r22.length)), (1, vi .i64 n), (2, .c (C.t (T.fn 169))), (6, vi .i64 blockSize), (7, vi .i64 a), (8, vi .i64 b)], [(22, .row 135 6 (r22.map qaA) 0)] ++ H, exs⟩
def qcH (cx : Cx) (H : List (Nat × Blk)) (exs : List V) (c : qc1) (r : (List qaH)) : Prop := Wk prog cx (zl4 prog 185 ([(22, .row 135 6 (r.map qaA) 0)] ++ H) exs (.tup [])) (qhZ c) .normal (qh1 H exs c)
abbrev qcI (K : Nat) : Prop := ∀ c r, qaN K c = some r → ∀ cx : Cx, cx.n = 63 → ∀ H exs, qcH cx H exs c r
theorem qh5 {K} (ih : qcI K) {cx} (hn : cx.n = 63) (H : List (Nat × Blk)) (exs : List V) {row n} {r} (h : qaN (K + 1) (.c0 row n) = some r) : qcH cx H exs (.c0 row n) r := by
 rw [qaN] at h
 exact wkG [rg1, rg3, .pre [.rl 0 0 row.length, .keepT [0,1,2,6,7,8]]] hn (aC r0 <| aC (lq row) <| aN) (ih _ _ h cx hn H exs)
theorem qh4 {K} (ih : qcI K) {cx} (hn : cx.n = 63) (H : List (Nat × Blk)) (exs : List V) {r22 n blockSize a b} {r} (h : qaN (K + 1) (.c1 r22 n blockSize a b) = some r) : qcH cx H exs (.c1 r22 n blockSize a b) r := by
 rw [qaN] at h
 rcases qaY h with ⟨h1, h⟩ | ⟨h1, h⟩
 ·obtain ⟨x3, h2, h⟩ := qaV h
  obtain ⟨h4, h⟩ := qb3 h
  exact wkG [.go, rg3, bTr, rgG [oo, oo, oo, oo, .rl 14 0 r22.length, .callR [22] [(22, .row 135 6 (x3.map qaA) 0)] (.tup []), .rl 0 0 x3.length, .rl 14 0 x3.length], rg2, rg4, .pre [.rl 0 0 x3.length, .nrm 1, .keepT [0,1,2,6,7,8]]] hn (aC h1 <| aC r0 <| aC (lq r22) <| aC (qeD h2) <| aC r0 <| aC (h4.symm : r22.length = x3.length) <| aC r0 <| aC (h4.symm : r22.length = x3.length) <| aC r0 <| aC (lq x3) <| aN) (ih _ _ h cx hn H exs)
 ·obtain ⟨x3, h2, h⟩ := qaV h
  obtain ⟨h4, h⟩ := qb3 h
  exact wkG [.go, rg3, bFa, rgG [oo, oo, oo, oo, .rl 23 0 r22.length, .callR [22] [(22, .row 135 6 (x3.map qaA) 0)] (.tup []), .rl 0 0 x3.length, .rl 23 0 x3.length], .pre [.rl 0 0 x3.length, .nrm 1, .keepT [0,1,2,6]]] hn (aC h1 <| aC r0 <| aC (lq r22) <| aC (qeD h2) <| aC r0 <| aC (h4.symm : r22.length = x3.length) <| aC r0 <| aC (h4.symm : r22.length = x3.length) <| aC r0 <| aC (lq x3) <| aN) (ih _ _ h cx hn H exs)
theorem qh3 {K} (ih : qcI K) {cx} (hn : cx.n = 63) (H : List (Nat × Blk)) (exs : List V) {r22 n blockSize} {r} (h : qaN (K + 1) (.c2 r22 n blockSize) = some r) : qcH cx H exs (.c2 r22 n blockSize) r := by
 rw [qaN] at h
 rcases qaY h with ⟨h1, h⟩ | ⟨h1, h⟩
 ·exact wkG [.go, rg3, bTr, rg4, .pre [.rl 0 0 r22.length, .keepT [0,1,2,6,7,8]]] hn (aC h1 <| aC r0 <| aC (lq r22) <| aN) (ih _ _ h cx hn H exs)
 ·have h := oinj h; subst h
  exact qfG (fuel := 68) [.go, rg3, bFa]
   _
   ((22, .row 135 6 (r22.map qaA) 0) :: H) hn (by kernel_rfl) (aC h1 <| aN) (fun _ => rfl)
theorem qh2 {K} (ih : qcI K) {cx} (hn : cx.n = 63) (H : List (Nat × Blk)) (exs : List V) {r22 n blockSize a b} {r} (h : qaN (K + 1) (.c3 r22 n blockSize a b) = some r) : qcH cx H exs (.c3 r22 n blockSize a b) r := by
 rw [qaN] at h
 rcases qaY h with ⟨h1, h⟩ | ⟨h1, h⟩
 ·obtain ⟨x3, h2, h⟩ := qaV h
  obtain ⟨h4, h⟩ := qb3 h
  exact wkG [.go, rg3, bTr, rgG [oo, oo, oo, oo, oo, oo, oo, .rl 36 0 r22.length, .callR [22] [(22, .row 135 6 (x3.map qaA) 0)] (.tup []), .rl 0 0 x3.length, .rl 36 0 x3.length], rg2, rg5, .pre [.rl 0 0 x3.length, .nrm 1, .keepT [0,1,2,6,7,8]]] hn (aC h1 <| aC r0 <| aC (lq r22) <| aC (qeO h2) <| aC r0 <| aC (h4.symm : r22.length = x3.length) <| aC r0 <| aC (h4.symm : r22.length = x3.length) <| aC r0 <| aC (lq x3) <| aN) (ih _ _ h cx hn H exs)
 ·rcases qaY h with ⟨h2, h⟩ | ⟨h2, h⟩
  ·obtain ⟨x4, h3, h⟩ := qaV h
   obtain ⟨h5, h⟩ := qb3 h
   exact wkG [.go, rg3, bFa, rg4, rg3, bTr, rgG [oo, oo, oo, oo, oo, .rl 55 0 r22.length, .callR [22] [(22, .row 135 6 (x4.map qaA) 0)] (.tup []), .rl 0 0 x4.length, .rl 55 0 x4.length], rg3, .pre [.rl 0 0 x4.length, .nrm 1, .keepT [0,1,2,6]]] hn (aC h1 <| aC h2 <| aC r0 <| aC (lq r22) <| aC (qeO h3) <| aC r0 <| aC (h5.symm : r22.length = x4.length) <| aC r0 <| aC (h5.symm : r22.length = x4.length) <| aC r0 <| aC (lq x4) <| aN) (ih _ _ h cx hn H exs)
  ·exact wkG [.go, rg3, bFa, rg4, rg3, bFa, rg3, .pre [.rl 0 0 r22.length, .keepT [0,1,2,6]]] hn (aC h1 <| aC h2 <| aC r0 <| aC (lq r22) <| aN) (ih _ _ h cx hn H exs)
theorem qcF : ∀ K : Nat, qcI K
 | 0, c, r, h => by rw [qaN] at h; cases h
 | K + 1, .c0 .., r, h => fun cx hn H exs => qh5 (qcF K) hn H exs h
 | K + 1, .c1 .., r, h => fun cx hn H exs => qh4 (qcF K) hn H exs h
 | K + 1, .c2 .., r, h => fun cx hn H exs => qh3 (qcF K) hn H exs h
 | K + 1, .c3 .., r, h => fun cx hn H exs => qh2 (qcF K) hn H exs h
theorem qg6 {K : Nat} {row : (List qaH)} {n : Int} {r : (List qaH)} (h : qd4 K row n = some r) : qkQ prog 185 [.c (C.row 22 0 row.length), vi .i64 n, .c (C.t (T.fn 169))] [(22, .row 135 6 (row.map qaA) 0)] [(22, .row 135 6 (r.map qaA) 0)] (.tup []) :=
 qtC (n := 63) (by kernel_rfl) (by simp) fun cx hn H exs => qcF K (.c0 row n) r h cx hn H exs
open Go.Proofs.Try (prog)
inductive qcB where
 | c0 (row : (List qaH))
def qbK : Nat → qcB → Option (List qaH)
 | 0, _ => none
 | K + 1, .c0 row =>
  (qd4 K row ((row.length : Nat) : Int)).bind fun x2 =>
  gd (x2.length = row.length) <|
  some x2
def qcJ (K : Nat) (row : (List qaH)) : Option (List qaH) := qbK K (.c0 row)
noncomputable def qfV : Code := qmX prog 168
noncomputable def qfX : qcB → List Fr
 | .c0 .. => [.code qfV]
def qf0 (H : List (Nat × Blk)) (exs : List V) : qcB → St
 | .c0 row => ⟨idxV 0 [.c (C.row 22 0 row.length), .c (C.t (T.fn 169))], [(22, .row 135 6 (row.map qaA) 0)] ++ H, exs⟩
def qeA (cx : Cx) (H : List (Nat × Blk)) (exs : List V) (c : qcB) (r : (List qaH)) : Prop := Wk prog cx (zl4 prog 168 ([(22, .row 135 6 (r.map qaA) 0)] ++ H) exs (.tup [])) (qfX c) .normal (qf0 H exs c)
abbrev qeB (K : Nat) : Prop := ∀ c r, qbK K c = some r → ∀ cx : Cx, cx.n = 9 → ∀ H exs, qeA cx H exs c r
theorem qf1 {K} (_ : qeB K) {cx} (hn : cx.n = 9) (H : List (Nat × Blk)) (exs : List V) {row} {r} (h : qbK (K + 1) (.c0 row) = some r) : qeA cx H exs (.c0 row) r := by
 rw [qbK] at h
 obtain ⟨x2, h1, h⟩ := qaV h
 obtain ⟨h3, h⟩ := qb3 h
 have h := oinj h; subst h
 exact qfG (fuel := 42) [rgG [oo, oo, oo, oo, .rl 4 0 row.length, .callR [22] [(22, .row 135 6 (x2.map qaA) 0)] (.tup []), .rl 0 0 x2.length, .rl 4 0 x2.length, .rl 5 0 x2.length, .nrm 1]]
  _
  ((22, .row 135 6 (x2.map qaA) 0) :: H) hn (by kernel_rfl) (aC r0 <| aC (lq row) <| aC (qg6 h1) <| aC r0 <| aC (h3.symm : row.length = x2.length) <| aC r0 <| aC (h3.symm : row.length = x2.length) <| aC r0 <| aC (h3.symm : row.length = x2.length) <| aN) (fun _ => rfl)
theorem qd5 : ∀ K : Nat, qeB K
 | 0, c, r, h => by rw [qbK] at h; cases h
 | K + 1, .c0 .., r, h => fun cx hn H exs => qf1 (qd5 K) hn H exs h
theorem qfQ {K : Nat} {row : (List qaH)} {r : (List qaH)} (h : qcJ K row = some r) : qkQ prog 168 [.c (C.row 22 0 row.length), .c (C.t (T.fn 169))] [(22, .row 135 6 (row.map qaA) 0)] [(22, .row 135 6 (r.map qaA) 0)] (.tup []) :=
 qtC (n := 9) (by kernel_rfl) (by simp) fun cx hn H exs => qd5 K (.c0 row) r h cx hn H exs
open Go.Proofs.Try (prog)
inductive qpF where
 | c0 (p : (List qaH))
 | c1 (t9 : (List qaH)) (t10 : Int) (t11 : Int)
 | c2 (r22 : (List qaH)) (t9 : (List qaH)) (t10 : Int) (t11 : Int)
 | c3 (t9 : (List qaH)) (t10 : Int) (t11 : Int)
 | c4 (i : Int)
 | c5 (r22 : (List qaH)) (t9 : (List qaH)) (t10 : Int) (t11 : Int)
 | c6 (r22 : (List qaH)) (i : Int)
 | c7 (sum : qaH) (r22 : (List qaH)) (i : Int)
 | c8 (sum : qaH) (r22 : (List qaH)) (i : Int)
 | c9 (r22 : (List qaH)) (r68 : (List qaH)) (i : Int)
 | c10 (sum : qaH) (r22 : (List qaH)) (r68 : (List qaH)) (i : Int)
 | c11 (sum : qaH) (r22 : (List qaH)) (r68 : (List qaH)) (i : Int)
def qaW : Nat → qpF → Option (List qaH)
 | 0, _ => none
 | K + 1, .c0 p =>
  qaW K (.c1 p (p.length : Int) (0 : Int))
 | K + 1, .c1 t9 t10 t11 =>
  bif (decide (t11 < t10)) then
   (gi t9 t11).bind fun x2 =>
   (qiS K [x2.Exp.e0, x2.Exp.e1, x2.Exp.e2, x2.Exp.e3]).bind fun x4 =>
   bif (decide ((0 : Int) ≤ x4)) then
    qaW K (.c2 ([x2] : List qaH) t9 t10 t11)
   else
    qaW K (.c3 t9 t10 t11)
  else
   (qcL K).bind fun _ =>
   qaW K (.c4 (0 : Int))
 | K + 1, .c2 r22 t9 t10 t11 =>
  qaW K (.c5 r22 t9 t10 (wI6 (t11 + (1 : Int))))
 | K + 1, .c3 t9 t10 t11 =>
  qaW K (.c1 t9 t10 (wI6 (t11 + (1 : Int))))
 | K + 1, .c4 i =>
  bif (decide (i < (0 : Int))) then
   none
  else
   (qdW K []).bind fun x2 =>
   some x2
 | K + 1, .c5 r22 t9 t10 t11 =>
  bif (decide (t11 < t10)) then
   (gi t9 t11).bind fun x2 =>
   (qiS K [x2.Exp.e0, x2.Exp.e1, x2.Exp.e2, x2.Exp.e3]).bind fun x4 =>
   bif (decide ((0 : Int) ≤ x4)) then
    gd ((r22 ++ ([x2] : List qaH)).length * 64 ≤ 140737488355328) <|
    qaW K (.c2 (r22 ++ ([x2] : List qaH)) t9 t10 t11)
   else
    qaW K (.c2 r22 t9 t10 t11)
  else
   (qcJ K r22).bind fun x3 =>
   gd (x3.length = r22.length) <|
   qaW K (.c6 x3 (0 : Int))
 | K + 1, .c6 r22 i =>
  bif (decide (i < ((r22.length : Nat) : Int))) then
   (gi r22 i).bind fun x2 =>
   qaW K (.c7 (qaH.mk (qaG.mk false []) x2.Exp) r22 i)
  else
   (qdW K []).bind fun x2 =>
   some x2
 | K + 1, .c7 sum r22 i =>
  bif (decide (i < ((r22.length : Nat) : Int))) then
   (gi r22 i).bind fun x2 =>
   bif (decide (x2.Exp.e0 = sum.Exp.e0) && (decide (x2.Exp.e1 = sum.Exp.e1) && (decide (x2.Exp.e2 = sum.Exp.e2) && decide (x2.Exp.e3 = sum.Exp.e3)))) then
    (gi r22 i).bind fun x5 =>
    (qnI K sum.Coef x5.Coef).bind fun x7 =>
    qaW K (.c7 (qaH.mk x7 sum.Exp) r22 (wI6 (i + (1 : Int))))
   else
    qaW K (.c8 sum r22 i)
  else
   qaW K (.c8 sum r22 i)
 | K + 1, .c8 sum r22 i =>
  (qhO K sum.Coef).bind fun x1 =>
  bif (!decide (x1 = (0 : Int))) then
   qaW K (.c9 r22 ([sum] : List qaH) i)
  else
   qaW K (.c6 r22 i)
 | K + 1, .c9 r22 r68 i =>
  bif (decide (i < ((r22.length : Nat) : Int))) then
   (gi r22 i).bind fun x2 =>
   qaW K (.c10 (qaH.mk (qaG.mk false []) x2.Exp) r22 r68 i)
  else
   (qdW K r68).bind fun x2 =>
   some x2
 | K + 1, .c10 sum r22 r68 i =>
  bif (decide (i < ((r22.length : Nat) : Int))) then
   (gi r22 i).bind fun x2 =>
   bif (decide (x2.Exp.e0 = sum.Exp.e0) && (decide (x2.Exp.e1 = sum.Exp.e1) && (decide (x2.Exp.e2 = sum.Exp.e2) && decide (x2.Exp.e3 = sum.Exp.e3)))) then
    (gi r22 i).bind fun x5 =>
    (qnI K sum.Coef x5.Coef).bind fun x7 =>
    qaW K (.c10 (qaH.mk x7 sum.Exp) r22 r68 (wI6 (i + (1 : Int))))
   else
    qaW K (.c11 sum r22 r68 i)
  else
   qaW K (.c11 sum r22 r68 i)
 | K + 1, .c11 sum r22 r68 i =>
  (qhO K sum.Coef).bind fun x1 =>
  bif (!decide (x1 = (0 : Int))) then
   gd ((r68 ++ ([sum] : List qaH)).length * 64 ≤ 140737488355328) <|
   qaW K (.c9 r22 (r68 ++ ([sum] : List qaH)) i)
  else
   qaW K (.c9 r22 r68 i)
def qpG (K : Nat) (p : (List qaH)) : Option (List qaH) := qaW K (.c0 p)
noncomputable def qbJ : Code := qcK prog 125
noncomputable def zbM : qpF → List Fr
 | .c0 .. => [.code qbJ]
 | .c1 .. => [.code (.loop (atC qbJ [1,1,0,1,0,0])), .blk 0, .code (atC qbJ [1,1,1])]
 | .c2 .. => [.code (atC qbJ [1,1,0,1,0,0,1,1,1]), .lp (atC qbJ [1,1,0,1,0,0]), .blk 0, .code (atC qbJ [1,1,1])]
 | .c3 .. => [.code (atC qbJ [1,1,0,1,0,0,1,1,1]), .lp (atC qbJ [1,1,0,1,0,0]), .blk 0, .code (atC qbJ [1,1,1])]
 | .c4 .. => [.code (.loop (atC qbJ [1,1,1,1,1,0,1,0,0])), .blk 2, .code (atC qbJ [1,1,1,1,1,1])]
 | .c5 .. => [.code (.loop (atC qbJ [1,1,0,1,0,0])), .blk 0, .code (atC qbJ [1,1,1])]
 | .c6 .. => [.code (.loop (atC qbJ [1,1,1,1,1,0,1,0,0])), .blk 2, .code (atC qbJ [1,1,1,1,1,1])]
 | .c7 .. => [.code (.loop (atC qbJ [1,1,1,1,1,0,1,0,0,1,0,1,0,0,0])), .blk 4, .code (atC qbJ [1,1,1,1,1,0,1,0,0,1,0,1,1]), .blk 3, .lp (atC qbJ [1,1,1,1,1,0,1,0,0]), .blk 2, .code (atC qbJ [1,1,1,1,1,1])]
 | .c8 .. => [.code (atC qbJ [1,1,1,1,1,0,1,0,0,1,0,1,1,0]), .code (atC qbJ [1,1,1,1,1,0,1,0,0,1,0,1,1,1]), .blk 3, .lp (atC qbJ [1,1,1,1,1,0,1,0,0]), .blk 2, .code (atC qbJ [1,1,1,1,1,1])]
 | .c9 .. => [.code (.loop (atC qbJ [1,1,1,1,1,0,1,0,0])), .blk 2, .code (atC qbJ [1,1,1,1,1,1])]
 | .c10 .. => [.code (.loop (atC qbJ [1,1,1,1,1,0,1,0,0,1,0,1,0,0,0])), .blk 4, .code (atC qbJ [1,1,1,1,1,0,1,0,0,1,0,1,1]), .blk 3, .lp (atC qbJ [1,1,1,1,1,0,1,0,0]), .blk 2, .code (atC qbJ [1,1,1,1,1,1])]
 | .c11 .. => [.code (atC qbJ [1,1,1,1,1,0,1,0,0,1,0,1,1,0]), .code (atC qbJ [1,1,1,1,1,0,1,0,0,1,0,1,1,1]), .blk 3, .lp (atC qbJ [1,1,1,1,1,0,1,0,0]), .blk 2, .code (atC qbJ [1,1,1,1,1,1])]
def zeL : qpF → St
 | .c0 p => St.init [(tl 6 p qaA)]
 | .c1 t9 t10 t11 => ⟨[(3, .c (C.nil)), (9, vl 6 t9 qaA), (10, vi .i64 t10), (11, vi .i64 t11)], [], []⟩
 | .c2 r22 t9 t10 t11 => ⟨[(3, .c (C.row 22 0 r22.length)), (9, vl 6 t9 qaA), (10, vi .i64 t10), (11, vi .i64 t11)], [(22, .row 135 6 (r22.map qaA) 0)], []⟩
 | .c3 t9 t10 t11 => ⟨[(3, .c (C.nil)), (9, vl 6 t9 qaA), (10, vi .i64 t10), (11, vi .i64 t11)], [], []⟩
 | .c4 i => ⟨[(3, .c (C.nil)), (6, .c (C.nil)), (7, vi .i64 i)], [], []⟩
 | .c5 r22 t9 t10 t11 => ⟨[(3, .c (C.row 22 0 r22.length)), (9, vl 6 t9 qaA), (10, vi .i64 t10), (11, vi .i64 t11)], [(22, .row 135 6 (r22.map qaA) 0)], []⟩
 | .c6 r22 i => ⟨[(3, .c (C.row 22 0 r22.length)), (6, .c (C.nil)), (7, vi .i64 i)], [(22, .row 135 6 (r22.map qaA) 0)], []⟩
 | .c7 sum r22 i => ⟨[(3, .c (C.row 22 0 r22.length)), (6, .c (C.nil)), (7, vi .i64 i), (8, .c (C.ptr 8 0))], [(8, .var ((qaA sum).map C.t)), (22, .row 135 6 (r22.map qaA) 0)], []⟩
 | .c8 sum r22 i => ⟨[(3, .c (C.row 22 0 r22.length)), (6, .c (C.nil)), (7, vi .i64 i), (8, .c (C.ptr 8 0))], [(8, .var ((qaA sum).map C.t)), (22, .row 135 6 (r22.map qaA) 0)], []⟩
 | .c9 r22 r68 i => ⟨[(3, .c (C.row 22 0 r22.length)), (6, .c (C.row 68 0 r68.length)), (7, vi .i64 i)], [(22, .row 135 6 (r22.map qaA) 0), (68, .row 135 6 (r68.map qaA) 0)], []⟩
 | .c10 sum r22 r68 i => ⟨[(3, .c (C.row 22 0 r22.length)), (6, .c (C.row 68 0 r68.length)), (7, vi .i64 i), (8, .c (C.ptr 8 0))], [(8, .var ((qaA sum).map C.t)), (22, .row 135 6 (r22.map qaA) 0), (68, .row 135 6 (r68.map qaA) 0)], []⟩
 | .c11 sum r22 r68 i => ⟨[(3, .c (C.row 22 0 r22.length)), (6, .c (C.row 68 0 r68.length)), (7, vi .i64 i), (8, .c (C.ptr 8 0))], [(8, .var ((qaA sum).map C.t)), (22, .row 135 6 (r22.map qaA) 0), (68, .row 135 6 (r68.map qaA) 0)], []⟩
def qe1 (cx : Cx) (c : qpF) (r : (List qaH)) : Prop := Wk prog cx (qd0 prog 125 [[6]] (tl 6 r qaA)) (zbM c) .normal (zeL c)
abbrev qe2 (K : Nat) : Prop := ∀ c r, qaW K c = some r → ∀ cx : Cx, cx.n = 71 → qe1 cx c r
theorem zeV {K} (ih : qe2 K) {cx} (hn : cx.n = 71) {p} {r} (h : qaW (K + 1) (.c0 p) = some r) : qe1 cx (.c0 p) r := by
 rw [qaW] at h
 exact wkG [rg1, rg1, rgG [oo, opI (.ln (p.length : Int)), oo], .pre [.keep [3,9,10,11] []]] hn (aC (qdF p qaA) <| aN) (ih _ _ h cx hn)
theorem zeU {K} (ih : qe2 K) {cx} (hn : cx.n = 71) {t9 t10 t11} {r} (h : qaW (K + 1) (.c1 t9 t10 t11) = some r) : qe1 cx (.c1 t9 t10 t11) r := by
 rw [qaW] at h
 rcases qaY h with ⟨h1, h⟩ | ⟨h1, h⟩
 ·obtain ⟨x2, h3, h⟩ := qaV h
  obtain ⟨x4, h5, h⟩ := qaV h
  rcases qaY h with ⟨h6, h⟩ | ⟨h6, h⟩
  ·exact wkG [.go, rg1, bTr, rgG [opI (.ix (qaA x2)), oo, oo, oo], rgG [oo, .sliA, .callA [[1]] (ti .i64 x4), oo], bTr, rgG [oo, oo, opI (.lit (([x2] : List qaH).map qaA)), opI (.appN (([x2] : List qaH).map qaA)), oo], .pre [.rl 3 0 ([x2] : List qaH).length, .keep [3,9,10,11] [22]]] hn (aC h1 <| aC (qb2 h3) <| aC (qfK qaA h3) <| aC (qg7 h5) <| aC h6 <| aC (by kernel_rfl : [(T.bool x2.Coef.Neg), (T.sl 1 (x2.Coef.Abs.map qaE)), (T.int .i64 x2.Exp.e0), (T.int .i64 x2.Exp.e1), (T.int .i64 x2.Exp.e2), (T.int .i64 x2.Exp.e3)] = (([x2] : List qaH).map qaA).flatten) <| aC (qfA _ _ _ (by simp) : ((([x2] : List qaH).map qaA).drop 0).take 1 = ([x2] : List qaH).map qaA) <| aC (by simp : 0 < (([x2] : List qaH).map qaA).length) <| aC (by simp : (([x2] : List qaH).map qaA).length * 64 ≤ 140737488355328) <| aC (by simp [maxLen] : (([x2] : List qaH).map qaA).length ≤ maxLen) <| aC r0 <| aC (by simp : (([x2] : List qaH).map qaA).length = ([x2] : List qaH).length) <| aN) (ih _ _ h cx hn)
  ·exact wkG [.go, rg1, bTr, rgG [opI (.ix (qaA x2)), oo, oo, oo], rgG [oo, .sliA, .callA [[1]] (ti .i64 x4), oo], bFa, .pre [.keep [3,9,10,11] []]] hn (aC h1 <| aC (qb2 h3) <| aC (qfK qaA h3) <| aC (qg7 h5) <| aC h6 <| aN) (ih _ _ h cx hn)
 ·obtain ⟨x2, h3, h⟩ := qaV h
  exact wkG [.go, rg1, bFa, rgG [oo, opI (.call [[6], [0]] [(TV.c (T.sl 6 [])), (TV.c (T.fn 169))] (TV.tup []))], rg1, rg1, .pre [.keep [3,6,7] []]] hn (aC h1 <| aC (qfW h3) <| aN) (ih _ _ h cx hn)
theorem zeT {K} (ih : qe2 K) {cx} (hn : cx.n = 71) {r22 t9 t10 t11} {r} (h : qaW (K + 1) (.c2 r22 t9 t10 t11) = some r) : qe1 cx (.c2 r22 t9 t10 t11) r := by
 rw [qaW] at h
 exact wkG [rg2, .pre [.rl 3 0 r22.length, .keep [3,9,10,11] [22]]] hn (aC r0 <| aC (lq r22) <| aN) (ih _ _ h cx hn)
theorem zeS {K} (ih : qe2 K) {cx} (hn : cx.n = 71) {t9 t10 t11} {r} (h : qaW (K + 1) (.c3 t9 t10 t11) = some r) : qe1 cx (.c3 t9 t10 t11) r := by
 rw [qaW] at h
 exact q2Q (fuel := 44) [rg2, .pre [.keep [3,9,10,11] []]] _ hn (by kernel_rfl) aN (ih _ _ h cx hn)
theorem zeR {K} (_ : qe2 K) {cx} (hn : cx.n = 71) {i} {r} (h : qaW (K + 1) (.c4 i) = some r) : qe1 cx (.c4 i) r := by
 rw [qaW] at h
 rcases qaY h with ⟨h1, h⟩ | ⟨h1, h⟩
 ·cases h
 ·obtain ⟨x2, h3, h⟩ := qaV h
  have h := oinj h; subst h
  exact wkR [.go, rg4, bFa, rgG [oo, opI (.call [[6]] [(TV.c (T.sl 6 ([].map qaA)))] (tl 6 x2 qaA)), oo]] hn (aC h1 <| aC (qfB h3) <| aN)
theorem zeQ {K} (ih : qe2 K) {cx} (hn : cx.n = 71) {r22 t9 t10 t11} {r} (h : qaW (K + 1) (.c5 r22 t9 t10 t11) = some r) : qe1 cx (.c5 r22 t9 t10 t11) r := by
 rw [qaW] at h
 rcases qaY h with ⟨h1, h⟩ | ⟨h1, h⟩
 ·obtain ⟨x2, h3, h⟩ := qaV h
  obtain ⟨x4, h5, h⟩ := qaV h
  rcases qaY h with ⟨h6, h⟩ | ⟨h6, h⟩
  ·obtain ⟨h7, h⟩ := qb3 h
   exact wkG [.go, rg1, bTr, rgG [opI (.ix (qaA x2)), oo, oo, oo], rgG [oo, .sliA, .callA [[1]] (ti .i64 x4), oo], bTr, .pre [.keep [3,5,9,10,11] [5,22]], rgG [oo, oo, opI (.lit (([x2] : List qaH).map qaA)), .appR (([x2] : List qaH).map qaA) ((r22 ++ ([x2] : List qaH)).map qaA), oo], .pre [.rl 3 0 (r22 ++ ([x2] : List qaH)).length, .keep [3,9,10,11] [22]]] hn (aC h1 <| aC (qb2 h3) <| aC (qfK qaA h3) <| aC (qg7 h5) <| aC h6 <| aC (by kernel_rfl : [(T.bool x2.Coef.Neg), (T.sl 1 (x2.Coef.Abs.map qaE)), (T.int .i64 x2.Exp.e0), (T.int .i64 x2.Exp.e1), (T.int .i64 x2.Exp.e2), (T.int .i64 x2.Exp.e3)] = (([x2] : List qaH).map qaA).flatten) <| aC (by simp : r22.length = (r22.map qaA).length) <| aC (qfA _ _ _ (by simp) : ((([x2] : List qaH).map qaA).drop 0).take 1 = ([x2] : List qaH).map qaA) <| aC (qxK _ _ _ : r22.map qaA ++ ([x2] : List qaH).map qaA = (r22 ++ ([x2] : List qaH)).map qaA) <| aC ((qeG _ _).symm ▸ h7 : ((r22 ++ ([x2] : List qaH)).map qaA).length * 64 ≤ 140737488355328) <| aC ((qeG _ _).symm ▸ room (by decide) h7 : ((r22 ++ ([x2] : List qaH)).map qaA).length ≤ maxLen) <| aC r0 <| aC (by simp : ((r22 ++ ([x2] : List qaH)).map qaA).length = (r22 ++ ([x2] : List qaH)).length) <| aN) (ih _ _ h cx hn)
  ·exact wkG [.go, rg1, bTr, rgG [opI (.ix (qaA x2)), oo, oo, oo], rgG [oo, .sliA, .callA [[1]] (ti .i64 x4), oo], bFa, .pre [.rl 3 0 r22.length, .keep [3,9,10,11] [22]]] hn (aC h1 <| aC (qb2 h3) <| aC (qfK qaA h3) <| aC (qg7 h5) <| aC h6 <| aC r0 <| aC (lq r22) <| aN) (ih _ _ h cx hn)
 ·obtain ⟨x3, h2, h⟩ := qaV h
  obtain ⟨h4, h⟩ := qb3 h
  exact wkG [.go, rg1, bFa, rgG [oo, .rl 24 0 r22.length, .callR [22] [(22, .row 135 6 (x3.map qaA) 0)] (.tup []), .rl 3 0 x3.length, .rl 24 0 x3.length], rg1, rg1, .pre [.rl 3 0 x3.length, .keep [3,6,7] [22]]] hn (aC h1 <| aC r0 <| aC (lq r22) <| aC (qfQ h2) <| aC r0 <| aC (h4.symm : r22.length = x3.length) <| aC r0 <| aC (h4.symm : r22.length = x3.length) <| aC r0 <| aC (lq x3) <| aN) (ih _ _ h cx hn)
theorem zeP {K} (ih : qe2 K) {cx} (hn : cx.n = 71) {r22 i} {r} (h : qaW (K + 1) (.c6 r22 i) = some r) : qe1 cx (.c6 r22 i) r := by
 rw [qaW] at h
 rcases qaY h with ⟨h1, h⟩ | ⟨h1, h⟩
 ·obtain ⟨x2, h3, h⟩ := qaV h
  exact wkG [.go, rg4, bTr, rgG [oo, oo, .op .ir, oo, opI (.ld (qaA x2)), oo, oo, oo], .pre [.tellB 8 [0,1,0,0,0,0], .rl 3 0 r22.length, .keep [3,6,7,8] [8,22]]] hn (aC h1 <| aC (qb2 h3) <| aC (qcW h3 (by simp) : i < ((r22.length : Nat) : Int)) <| aC (qcX qaA h3 : (r22.map qaA)[(0 + i.toNat)]? = some (qaA x2)) <| aC r0 <| aC (lq r22) <| aN) (ih _ _ h cx hn)
 ·obtain ⟨x2, h3, h⟩ := qaV h
  have h := oinj h; subst h
  exact wkR [.go, rg4, bFa, rgG [oo, opI (.call [[6]] [(TV.c (T.sl 6 ([].map qaA)))] (tl 6 x2 qaA)), oo]] hn (aC h1 <| aC (qfB h3) <| aN)
theorem zeO {K} (ih : qe2 K) {cx} (hn : cx.n = 71) {sum r22 i} {r} (h : qaW (K + 1) (.c7 sum r22 i) = some r) : qe1 cx (.c7 sum r22 i) r := by
 rw [qaW] at h
 rcases qaY h with ⟨h1, h⟩ | ⟨h1, h⟩
 ·obtain ⟨x2, h3, h⟩ := qaV h
  rcases qaY h with ⟨h4, h⟩ | ⟨h4, h⟩
  ·obtain ⟨x5, h6, h⟩ := qaV h
   obtain ⟨x7, h8, h⟩ := qaV h
   exact wkG [.go, .draw [.p, .mv, .p, .p, .p, (.ga true .mv), (.ga true .p), (.ga true .ir), (.ga true .p), (.ga true (.ld (qaA x2))), (.ga true .p), (.ga true .p), (.ga true .eq4), (.pk true)] [], bTr, .draw [.p, .p, .mv, .p, .ir, .p, (.ld (qaA x5))] [opI (.call [[0,1], [0,1]] [(TV.agg (qaD sum.Coef)), (TV.agg (qaD x5.Coef))] (TV.agg (qaD x7))), .op .p, .op .p], rg3, .pre [.rl 3 0 r22.length, .keep [3,6,7,8] [8,22]]] hn (aC h1 <| aC h1 <| aC h1 <| aC (qb2 h3) <| aC (qcW h3 (by simp) : i < ((r22.length : Nat) : Int)) <| aC h1 <| aC h1 <| aC (qcX qaA h3 : (r22.map qaA)[(0 + i.toNat)]? = some (qaA x2)) <| aC h1 <| aC h1 <| aC h1 <| aC h1 <| aC h4 <| aC (qb2 h6) <| aC (qcW h6 (by simp) : i < ((r22.length : Nat) : Int)) <| aC (qcX qaA h6 : (r22.map qaA)[(0 + i.toNat)]? = some (qaA x5)) <| aC (qkF h8) <| aC r0 <| aC (lq r22) <| aN) (ih _ _ h cx hn)
  ·exact wkG [.go, .draw [.p, .mv, .p, .p, .p, (.ga true .mv), (.ga true .p), (.ga true .ir), (.ga true .p), (.ga true (.ld (qaA x2))), (.ga true .p), (.ga true .p), (.ga true .eq4), (.pk true)] [], bFa, .pre [.rl 3 0 r22.length, .keep [3,6,7,8] [8,22]]] hn (aC h1 <| aC h1 <| aC h1 <| aC (qb2 h3) <| aC (qcW h3 (by simp) : i < ((r22.length : Nat) : Int)) <| aC h1 <| aC h1 <| aC (qcX qaA h3 : (r22.map qaA)[(0 + i.toNat)]? = some (qaA x2)) <| aC h1 <| aC h1 <| aC h1 <| aC h1 <| aC h4 <| aC r0 <| aC (lq r22) <| aN) (ih _ _ h cx hn)
 ·exact wkG [.go, .draw [.p, .mv, .p, .p, .p, (.ga false .p), (.ga false .p), (.ga false .p), (.ga false .p), (.ga false .p), (.ga false .p), (.ga false .p), (.ga false .p), (.pk false)] [], bFa, .pre [.rl 3 0 r22.length, .keep [3,6,7,8] [8,22]]] hn (aC h1 <| aC h1 <| aC h1 <| aC h1 <| aC h1 <| aC h1 <| aC h1 <| aC h1 <| aC h1 <| aC rf <| aC r0 <| aC (lq r22) <| aN) (ih _ _ h cx hn)
theorem zeN {K} (ih : qe2 K) {cx} (hn : cx.n = 71) {sum r22 i} {r} (h : qaW (K + 1) (.c8 sum r22 i) = some r) : qe1 cx (.c8 sum r22 i) r := by
 rw [qaW] at h
 obtain ⟨x1, h2, h⟩ := qaV h
 rcases qaY h with ⟨h3, h⟩ | ⟨h3, h⟩
 ·exact wkG [rgG [oo, oo, opI (.call [[0,1]] [(TV.agg (qaD sum.Coef))] (ti .i64 x1)), oo], bTr, rgG [oo, oo, opI (.lit (([sum] : List qaH).map qaA)), opI (.appN (([sum] : List qaH).map qaA)), oo], .pre [.rl 3 0 r22.length, .rl 6 0 ([sum] : List qaH).length, .keep [3,6,7] [22,68]]] hn (aC (qcD h2) <| aC h3 <| aC (by kernel_rfl : [(T.bool sum.Coef.Neg), (T.sl 1 (sum.Coef.Abs.map qaE)), (T.int .i64 sum.Exp.e0), (T.int .i64 sum.Exp.e1), (T.int .i64 sum.Exp.e2), (T.int .i64 sum.Exp.e3)] = (([sum] : List qaH).map qaA).flatten) <| aC (qfA _ _ _ (by simp) : ((([sum] : List qaH).map qaA).drop 0).take 1 = ([sum] : List qaH).map qaA) <| aC (by simp : 0 < (([sum] : List qaH).map qaA).length) <| aC (by simp : (([sum] : List qaH).map qaA).length * 64 ≤ 140737488355328) <| aC (by simp [maxLen] : (([sum] : List qaH).map qaA).length ≤ maxLen) <| aC r0 <| aC (lq r22) <| aC r0 <| aC (by simp : (([sum] : List qaH).map qaA).length = ([sum] : List qaH).length) <| aN) (ih _ _ h cx hn)
 ·exact wkG [rgG [oo, oo, opI (.call [[0,1]] [(TV.agg (qaD sum.Coef))] (ti .i64 x1)), oo], bFa, .pre [.rl 3 0 r22.length, .keep [3,6,7] [22]]] hn (aC (qcD h2) <| aC h3 <| aC r0 <| aC (lq r22) <| aN) (ih _ _ h cx hn)
theorem zeM {K} (ih : qe2 K) {cx} (hn : cx.n = 71) {r22 r68 i} {r} (h : qaW (K + 1) (.c9 r22 r68 i) = some r) : qe1 cx (.c9 r22 r68 i) r := by
 rw [qaW] at h
 rcases qaY h with ⟨h1, h⟩ | ⟨h1, h⟩
 ·obtain ⟨x2, h3, h⟩ := qaV h
  exact wkG [.go, rg4, bTr, rgG [oo, oo, .op .ir, oo, opI (.ld (qaA x2)), oo, oo, oo], .pre [.tellB 8 [0,1,0,0,0,0], .rl 3 0 r22.length, .rl 6 0 r68.length, .keep [3,6,7,8] [8,22,68]]] hn (aC h1 <| aC (qb2 h3) <| aC (qcW h3 (by simp) : i < ((r22.length : Nat) : Int)) <| aC (qcX qaA h3 : (r22.map qaA)[(0 + i.toNat)]? = some (qaA x2)) <| aC r0 <| aC (lq r22) <| aC r0 <| aC (lq r68) <| aN) (ih _ _ h cx hn)
 ·obtain ⟨x2, h3, h⟩ := qaV h
  have h := oinj h; subst h
  exact wkR [.go, rg4, bFa, rgG [oo, .snap 69 (max 0 (0 + r68.length)) (r68.map qaA), opI (.call [[6]] [(tl 6 r68 qaA)] (tl 6 x2 qaA)), oo]] hn (aC h1 <| aC (qfA _ _ _ (by simp) : ((r68.map qaA).drop 0).take r68.length = r68.map qaA) <| aC (rfl : (max 0 (0 + r68.length)) = (max 0 (0 + r68.length))) <| aC (qfB h3) <| aN)
theorem zbO {K} (ih : qe2 K) {cx} (hn : cx.n = 71) {sum r22 r68 i} {r} (h : qaW (K + 1) (.c10 sum r22 r68 i) = some r) : qe1 cx (.c10 sum r22 r68 i) r := by
 rw [qaW] at h
 rcases qaY h with ⟨h1, h⟩ | ⟨h1, h⟩
 ·obtain ⟨x2, h3, h⟩ := qaV h
  rcases qaY h with ⟨h4, h⟩ | ⟨h4, h⟩
  ·obtain ⟨x5, h6, h⟩ := qaV h
   obtain ⟨x7, h8, h⟩ := qaV h
   exact wkG [.go, .draw [.p, .mv, .p, .p, .p, (.ga true .mv), (.ga true .p), (.ga true .ir), (.ga true .p), (.ga true (.ld (qaA x2))), (.ga true .p), (.ga true .p), (.ga true .eq4), (.pk true)] [], bTr, .draw [.p, .p, .mv, .p, .ir, .p, (.ld (qaA x5))] [opI (.call [[0,1], [0,1]] [(TV.agg (qaD sum.Coef)), (TV.agg (qaD x5.Coef))] (TV.agg (qaD x7))), .op .p, .op .p], rg3, .pre [.rl 3 0 r22.length, .rl 6 0 r68.length, .keep [3,6,7,8] [8,22,68]]] hn (aC h1 <| aC h1 <| aC h1 <| aC (qb2 h3) <| aC (qcW h3 (by simp) : i < ((r22.length : Nat) : Int)) <| aC h1 <| aC h1 <| aC (qcX qaA h3 : (r22.map qaA)[(0 + i.toNat)]? = some (qaA x2)) <| aC h1 <| aC h1 <| aC h1 <| aC h1 <| aC h4 <| aC (qb2 h6) <| aC (qcW h6 (by simp) : i < ((r22.length : Nat) : Int)) <| aC (qcX qaA h6 : (r22.map qaA)[(0 + i.toNat)]? = some (qaA x5)) <| aC (qkF h8) <| aC r0 <| aC (lq r22) <| aC r0 <| aC (lq r68) <| aN) (ih _ _ h cx hn)
  ·exact wkG [.go, .draw [.p, .mv, .p, .p, .p, (.ga true .mv), (.ga true .p), (.ga true .ir), (.ga true .p), (.ga true (.ld (qaA x2))), (.ga true .p), (.ga true .p), (.ga true .eq4), (.pk true)] [], bFa, .pre [.rl 3 0 r22.length, .rl 6 0 r68.length, .keep [3,6,7,8] [8,22,68]]] hn (aC h1 <| aC h1 <| aC h1 <| aC (qb2 h3) <| aC (qcW h3 (by simp) : i < ((r22.length : Nat) : Int)) <| aC h1 <| aC h1 <| aC (qcX qaA h3 : (r22.map qaA)[(0 + i.toNat)]? = some (qaA x2)) <| aC h1 <| aC h1 <| aC h1 <| aC h1 <| aC h4 <| aC r0 <| aC (lq r22) <| aC r0 <| aC (lq r68) <| aN) (ih _ _ h cx hn)
 ·exact wkG [.go, .draw [.p, .mv, .p, .p, .p, (.ga false .p), (.ga false .p), (.ga false .p), (.ga false .p), (.ga false .p), (.ga false .p), (.ga false .p), (.ga false .p), (.pk false)] [], bFa, .pre [.rl 3 0 r22.length, .rl 6 0 r68.length, .keep [3,6,7,8] [8,22,68]]] hn (aC h1 <| aC h1 <| aC h1 <| aC h1 <| aC h1 <| aC h1 <| aC h1 <| aC h1 <| aC h1 <| aC rf <| aC r0 <| aC (lq r22) <| aC r0 <| aC (lq r68) <| aN) (ih _ _ h cx hn)
theorem zbN {K} (ih : qe2 K) {cx} (hn : cx.n = 71) {sum r22 r68 i} {r} (h : qaW (K + 1) (.c11 sum r22 r68 i) = some r) : qe1 cx (.c11 sum r22 r68 i) r := by
 rw [qaW] at h
 obtain ⟨x1, h2, h⟩ := qaV h
 rcases qaY h with ⟨h3, h⟩ | ⟨h3, h⟩
 ·obtain ⟨h4, h⟩ := qb3 h
  exact wkG [rgG [oo, oo, opI (.call [[0,1]] [(TV.agg (qaD sum.Coef))] (ti .i64 x1)), oo], bTr, .pre [.keep [3,6,7,8] [8,22,68]], rgG [oo, oo, opI (.lit (([sum] : List qaH).map qaA)), .appR (([sum] : List qaH).map qaA) ((r68 ++ ([sum] : List qaH)).map qaA), oo], .pre [.rl 3 0 r22.length, .rl 6 0 (r68 ++ ([sum] : List qaH)).length, .keep [3,6,7] [22,68]]] hn (aC (qcD h2) <| aC h3 <| aC (by kernel_rfl : [(T.bool sum.Coef.Neg), (T.sl 1 (sum.Coef.Abs.map qaE)), (T.int .i64 sum.Exp.e0), (T.int .i64 sum.Exp.e1), (T.int .i64 sum.Exp.e2), (T.int .i64 sum.Exp.e3)] = (([sum] : List qaH).map qaA).flatten) <| aC (by simp : r68.length = (r68.map qaA).length) <| aC (qfA _ _ _ (by simp) : ((([sum] : List qaH).map qaA).drop 0).take 1 = ([sum] : List qaH).map qaA) <| aC (qxK _ _ _ : r68.map qaA ++ ([sum] : List qaH).map qaA = (r68 ++ ([sum] : List qaH)).map qaA) <| aC ((qeG _ _).symm ▸ h4 : ((r68 ++ ([sum] : List qaH)).map qaA).length * 64 ≤ 140737488355328) <| aC ((qeG _ _).symm ▸ room (by decide) h4 : ((r68 ++ ([sum] : List qaH)).map qaA).length ≤ maxLen) <| aC r0 <| aC (lq r22) <| aC r0 <| aC (by simp : ((r68 ++ ([sum] : List qaH)).map qaA).length = (r68 ++ ([sum] : List qaH)).length) <| aN) (ih _ _ h cx hn)
 ·exact wkG [rgG [oo, oo, opI (.call [[0,1]] [(TV.agg (qaD sum.Coef))] (ti .i64 x1)), oo], bFa, .pre [.rl 3 0 r22.length, .rl 6 0 r68.length, .keep [3,6,7] [22,68]]] hn (aC (qcD h2) <| aC h3 <| aC r0 <| aC (lq r22) <| aC r0 <| aC (lq r68) <| aN) (ih _ _ h cx hn)
theorem qeH : ∀ K : Nat, qe2 K
 | 0, c, r, h => by rw [qaW] at h; cases h
 | K + 1, .c0 .., r, h => fun cx hn => zeV (qeH K) hn h
 | K + 1, .c1 .., r, h => fun cx hn => zeU (qeH K) hn h
 | K + 1, .c2 .., r, h => fun cx hn => zeT (qeH K) hn h
 | K + 1, .c3 .., r, h => fun cx hn => zeS (qeH K) hn h
 | K + 1, .c4 .., r, h => fun cx hn => zeR (qeH K) hn h
 | K + 1, .c5 .., r, h => fun cx hn => zeQ (qeH K) hn h
 | K + 1, .c6 .., r, h => fun cx hn => zeP (qeH K) hn h
 | K + 1, .c7 .., r, h => fun cx hn => zeO (qeH K) hn h
 | K + 1, .c8 .., r, h => fun cx hn => zeN (qeH K) hn h
 | K + 1, .c9 .., r, h => fun cx hn => zeM (qeH K) hn h
 | K + 1, .c10 .., r, h => fun cx hn => zbO (qeH K) hn h
 | K + 1, .c11 .., r, h => fun cx hn => zbN (qeH K) hn h
theorem qv5 {K : Nat} {p : (List qaH)} {r : (List qaH)} (h : qpG K p = some r) : qc0 prog 125 [(tl 6 p qaA)] (tl 6 r qaA) :=
 qbG [[6]] (by kernel_rfl) (by simp) fun cx hn => qeH K (.c0 p) r h cx hn
def cmpE (x y r : Int) : Int := if x < y then -1 else if y < x then 1 else r
def cmpM (a b : qa5) : Int := cmpE a.e3 b.e3 (cmpE a.e2 b.e2 (cmpE a.e1 b.e1 (cmpE a.e0 b.e0 0)))
theorem znY {x y r : Int} {f : Nat → Option Int} (h : Ev f r) : Ev (fun K => bif decide (x < y) then some (-1 : Int) else bif decide (y < x) then some (1 : Int) else f K) (cmpE x y r) := by
  unfold cmpE
  by_cases h1 : x < y
  · rw [if_pos h1]; exact ev_t (decide_eq_true h1) (qa3 _)
  · rw [if_neg h1]
    refine ev_f (decide_eq_false h1) ?_
    by_cases h2 : y < x
    · rw [if_pos h2]; exact ev_t (decide_eq_true h2) (qa3 _)
    · rw [if_neg h2]; exact ev_f (decide_eq_false h2) h
theorem q2W (a b : qa5) : Ev (fun K => qn9 K a b) (cmpM a b) := by
  have w3 : wI6 ((3 : Int) - 1) = 2 := by decide
  have w2 : wI6 ((2 : Int) - 1) = 1 := by decide
  have w1 : wI6 ((1 : Int) - 1) = 0 := by decide
  have w0 : wI6 ((0 : Int) - 1) = -1 := by decide
  refine qaT ?_
  simp only [qn9, qcE]
  refine qaT ?_
  simp only [qcE, w3]
  refine ev_t rfl (ev_f rfl (ev_f rfl (ev_f rfl (ev_t rfl (znY ?_)))))
  refine qaT ?_
  simp only [qcE, w2]
  refine ev_t rfl (ev_f rfl (ev_f rfl (ev_t rfl (znY ?_))))
  refine qaT ?_
  simp only [qcE, w1]
  refine ev_t rfl (ev_f rfl (ev_t rfl (znY ?_)))
  refine qaT ?_
  simp only [qcE, w0]
  refine ev_t rfl (ev_t rfl (znY ?_))
  refine qaT ?_
  simp only [qcE]
  exact ev_f rfl (qa3 _)
theorem qn7 (a b : qaH) : Ev (fun K => qkJ K a b) (cmpM b.Exp a.Exp) := by
  refine qaT ?_
  simp only [qkJ, qi3]
  exact qaP (q2W _ _) (qa3 _)
def SP {α : Type} (row : List α) (f : Nat → Option (List α)) : Prop := ∃ r, Ev f r ∧ r.Perm row
theorem qu2 {α : Type} {r row : List α} (h : r.Perm row) : SP row (fun _ => some r) := ⟨r, qa3 r, h⟩
theorem qkX {α : Type} {row : List α} {f : Nat → Option (List α)} (h : SP row fun K => f (K + 1)) : SP row f := let ⟨r, h1, h2⟩ := h; ⟨r, qaT h1, h2⟩
theorem quH {α : Type} {row : List α} {b : Bool} {f g : Nat → Option (List α)} (ht : b = true → SP row f) (hf : b = false → SP row g) : SP row fun K => bif b then f K else g K := by cases b; exact hf rfl; exact ht rfl
theorem sp_t {α : Type} {row : List α} {b : Bool} {f g : Nat → Option (List α)} (hb : b = true) (h : SP row f) : SP row fun K => bif b then f K else g K := by subst hb; exact h
theorem sp_f {α : Type} {row : List α} {b : Bool} {f g : Nat → Option (List α)} (hb : b = false) (h : SP row g) : SP row fun K => bif b then f K else g K := by subst hb; exact h
theorem zm3 {α β : Type} {row : List α} {f : Nat → Option β} {g : Nat → β → Option (List α)} {x : β} (hf : Ev f x) (hg : SP row fun K => g K x) : SP row fun K => (f K).bind (g K) := let ⟨r, h1, h2⟩ := hg; ⟨r, qaP hf h1, h2⟩
theorem qoA {α β : Type} {row : List α} {f : Option β} {g : Nat → β → Option (List α)} {x : β} (hf : f = some x) (hg : SP row fun K => g K x) : SP row fun K => f.bind (g K) := let ⟨r, h1, h2⟩ := hg; ⟨r, qb6 hf h1, h2⟩
theorem zhH {α : Type} {row : List α} {p : Prop} [Decidable p] {f : Nat → Option (List α)} (hp : p) (h : SP row f) : SP row fun K => gd p (f K) := let ⟨r, h1, h2⟩ := h; ⟨r, qhC hp h1, h2⟩
theorem qv8 {α : Type} {row q : List α} {f : Nat → Option (List α)} {g : Nat → List α → Option (List α)} (hf : SP q f) (hq : q.Perm row) (hg : ∀ r, r.Perm q → r.length = q.length → r.Perm row → SP row fun K => g K r) : SP row fun K => (f K).bind (g K) :=
  let ⟨r, h1, h2⟩ := hf
  let ⟨s, h3, h4⟩ := hg r h2 h2.length_eq (h2.trans hq)
  ⟨s, qaP h1 h3, h4⟩
theorem q2E {α : Type} {l : List α} {i : Int} (h0 : 0 ≤ i) (h : i < (l.length : Int)) : ∃ x, gi l i = some x := ⟨_, gi_ok h0 (by omega)⟩
theorem swp {α : Type} {row : List α} {i j : Int} {x y : α} (hx : gi row i = some x) (hy : gi row j = some y) : ((row.set i.toNat y).set j.toNat x).Perm row := by
  unfold gi at hx hy
  split at hx
  · split at hy
    · obtain ⟨hi, rfl⟩ := List.getElem?_eq_some_iff.1 hx
      obtain ⟨hj, rfl⟩ := List.getElem?_eq_some_iff.1 hy
      exact List.set_set_perm hi hj
    · cases hy
  · cases hx
theorem zrG {a b : Int} (h0 : 0 ≤ a + b) (h1 : a + b < 4611686018427387904) : wI6 (qdC .u64 (wU6 (wI6 (a + b))) (1 : Int)) = (a + b) / 2 := by
  rw [qdB (x := a + b) (by omega), qrY, zmK (by omega) (by decide), show ((1 : Int).toNat) = 1 from rfl, Int.pow_succ, Int.pow_zero, Int.one_mul, Int.emod_eq_of_lt (by omega) (by omega), qdB (by omega)]
theorem zxI {b i a : Int} (ha : 0 ≤ a) (row0 : List qaH) (hl : (row0.length : Int) ≤ 1099511627776) (hnext : ∀ r : List qaH, r.Perm row0 → SP row0 fun K => qaL K (.c3 r a b i)) :
    ∀ (d : Nat) (row : List qaH) (j : Int), row.Perm row0 → j = a + d → j < (row.length : Int) → SP row0 fun K => qaL K (.c2 row a b i j)
  | 0, row, j, hp, hj, hjl => by
    refine qkX ?_
    simp only [qaL]
    exact sp_f (by simp; omega) (hnext row hp)
  | d + 1, row, j, hp, hj, hjl => by
    have hlen := hp.length_eq
    have hw : wI6 (j - 1) = j - 1 := by rw [qdB (by omega)]
    refine qkX ?_
    simp only [qaL, hw]
    obtain ⟨x, hx⟩ := q2E (l := row) (i := j) (by omega) hjl
    obtain ⟨y, hy⟩ := q2E (l := row) (i := j - 1) (by omega) (by omega)
    obtain ⟨z, hz⟩ := q2E (l := row.set j.toNat y) (i := j - 1) (by omega) (by rw [List.length_set]; omega)
    refine sp_t (by simp; omega) (qoA hx (qoA hy (zm3 (qn7 _ _) (quH (fun _ => ?_) fun _ => hnext row hp))))
    refine qoA hy (qoA hx (qoA hx (qoA hz ?_)))
    exact zxI ha row0 hl hnext d _ (j - 1) ((swp hx hy).trans hp) (by omega) (by simp only [List.length_set]; omega)
theorem zxJ {a b : Int} (ha : 0 ≤ a) (row0 : List qaH) (hl : (row0.length : Int) ≤ 1099511627776) (hb : b ≤ (row0.length : Int)) :
    ∀ (d : Nat) (row : List qaH) (i : Int), row.Perm row0 → a ≤ i → b ≤ i + d → SP row0 fun K => qaL K (.c1 row a b i)
  | 0, row, i, hp, hai, hd => by
    refine qkX ?_
    simp only [qaL]
    exact sp_f (by simp; omega) (qu2 hp)
  | d + 1, row, i, hp, hai, hd => by
    have hlen := hp.length_eq
    refine qkX ?_
    simp only [qaL]
    refine quH (fun h => ?_) fun _ => qu2 hp
    have h := of_decide_eq_true h
    refine zxI ha row0 hl (fun r hr => ?_) (i - a).toNat row i hp (by omega) (by omega)
    refine qkX ?_
    simp only [qaL]
    rw [qdB (by omega)]
    exact zxJ ha row0 hl hb d r (i + 1) hr (by omega) (by omega)
theorem zxH {row : List qaH} {a b : Int} (hl : (row.length : Int) ≤ 1099511627776) (ha : 0 ≤ a) (ha1 : a ≤ 1099511627776) (hb : b ≤ (row.length : Int)) : SP row fun K => qb7 K row a b := by
  refine qkX ?_
  simp only [qb7, qaL]
  rw [qdB (by omega)]
  exact zxJ ha row hl hb (b - a).toNat row (a + 1) (.refl _) (by omega) (by omega)
theorem zw6 {a b n : Int} (ha : 0 ≤ a) (hb : 0 ≤ b) (row0 : List qaH) (hl : (row0.length : Int) ≤ 1099511627776) (h1 : a + n ≤ (row0.length : Int)) (h2 : b + n ≤ (row0.length : Int)) :
    ∀ (d : Nat) (row : List qaH) (i : Int), row.Perm row0 → 0 ≤ i → n ≤ i + d → SP row0 fun K => qa0 K (.c1 row a b n i)
  | 0, row, i, hp, hai, hd => by
    refine qkX ?_
    simp only [qa0]
    exact sp_f (by simp; omega) (qu2 hp)
  | d + 1, row, i, hp, hai, hd => by
    have hlen := hp.length_eq
    refine qkX ?_
    simp only [qa0]
    refine quH (fun h => ?_) fun _ => qu2 hp
    have h := of_decide_eq_true h
    rw [qdB (x := b + i) (by omega), qdB (x := a + i) (by omega), qdB (x := i + 1) (by omega)]
    obtain ⟨x, hx⟩ := q2E (l := row) (i := b + i) (by omega) (by omega)
    obtain ⟨y, hy⟩ := q2E (l := row) (i := a + i) (by omega) (by omega)
    obtain ⟨z, hz⟩ := q2E (l := row.set (a + i).toNat x) (i := b + i) (by omega) (by rw [List.length_set]; omega)
    refine qoA hx (qoA hy (qoA hy (qoA hz ?_)))
    exact zw6 ha hb row0 hl h1 h2 d _ (i + 1) ((swp hy hx).trans hp) (by omega) (by omega)
theorem zs1 {row : List qaH} {a b n : Int} (hl : (row.length : Int) ≤ 1099511627776) (ha : 0 ≤ a) (hb : 0 ≤ b) (h1 : a + n ≤ (row.length : Int)) (h2 : b + n ≤ (row.length : Int)) : SP row fun K => qbU K row a b n := by
  refine qkX ?_
  simp only [qbU, qa0]
  exact zw6 ha hb row hl h1 h2 n.toNat row 0 (.refl _) (by omega) (by omega)
theorem ztB {m : Int} (row0 : List qaH) (hl : (row0.length : Int) ≤ 1099511627776) :
    ∀ (d : Nat) (row : List qaH) (i j : Int), row.Perm row0 → 1 ≤ i → 1 ≤ j → i ≤ m → m + j ≤ (row0.length : Int) → i + j ≤ d → SP row0 fun K => qa1 K (.c1 row m i j)
  | 0, row, i, j, _, h1, h2, _, _, hd => by omega
  | d + 1, row, i, j, hp, h1, h2, h3, h4, hd => by
    have hlen := hp.length_eq
    refine qkX ?_
    simp only [qa1]
    rw [qdB (x := m - i) (by omega), qdB (x := m + j) (by omega), qdB (x := m + j - i) (by omega), qdB (x := i - j) (by omega), qdB (x := j - i) (by omega)]
    refine quH (fun h => quH (fun h' => ?_) fun h' => ?_) fun h => ?_
    · have h' := of_decide_eq_true h'
      refine qv8 (zs1 (by omega) (by omega) (by omega) (by omega) (by omega)) hp fun r hr hrl hr0 => zhH hrl ?_
      exact ztB row0 hl d r (i - j) j hr0 (by omega) h2 (by omega) h4 (by omega)
    · have h' := of_decide_eq_false h'
      have h : ¬ i = j := by simpa using h
      refine qv8 (zs1 (by omega) (by omega) (by omega) (by omega) (by omega)) hp fun r hr hrl hr0 => zhH hrl ?_
      exact ztB row0 hl d r i (j - i) hr0 h1 (by omega) h3 (by omega) (by omega)
    · have h : i = j := by simpa using h
      exact qv8 (zs1 (by omega) (by omega) (by omega) (by omega) (by omega)) hp fun r hr hrl hr0 => zhH hrl (qu2 hr0)
theorem rot_sp {row : List qaH} {a m b : Int} (hl : (row.length : Int) ≤ 1099511627776) (ha : 0 ≤ a) (h1 : a < m) (h2 : m < b) (h3 : b ≤ (row.length : Int)) : SP row fun K => qdA K row a m b := by
  refine qkX ?_
  simp only [qdA, qa1]
  rw [qdB (x := m - a) (by omega), qdB (x := b - m) (by omega)]
  exact ztB row hl (b - a).toNat row (m - a) (b - m) (.refl _) (by omega) (by omega) (by omega) (by omega) (by omega)
theorem zw5 {i : Int} (row0 : List qaH) (hl : (row0.length : Int) ≤ 1099511627776) (hi0 : 0 ≤ i) (hi : i ≤ (row0.length : Int)) :
    ∀ (d : Nat) (row : List qaH) (k : Int), row.Perm row0 → 0 ≤ k → i - 1 ≤ k + d → SP row0 fun K => qaF K (.c4 row i k)
  | d, row, k, hp, hk, hd => by
    have hlen := hp.length_eq
    refine qkX ?_
    simp only [qaF]
    rw [qdB (x := i - 1) (by omega)]
    refine quH (fun h => ?_) fun _ => qu2 hp
    have h := of_decide_eq_true h
    match d, hd with
    | 0, hd => omega
    | d + 1, hd =>
    rw [qdB (x := k + 1) (by omega)]
    obtain ⟨x, hx⟩ := q2E (l := row) (i := k + 1) (by omega) (by omega)
    obtain ⟨y, hy⟩ := q2E (l := row) (i := k) (by omega) (by omega)
    obtain ⟨z, hz⟩ := q2E (l := row.set k.toNat x) (i := k + 1) (by omega) (by rw [List.length_set]; omega)
    refine qoA hx (qoA hy (qoA hy (qoA hz ?_)))
    exact zw5 row0 hl hi0 hi d _ (k + 1) ((swp hy hx).trans hp) (by omega) (by omega)
theorem zw4 {i : Int} (row0 : List qaH) (hl : (row0.length : Int) ≤ 1099511627776) (hi0 : 0 ≤ i) :
    ∀ (d : Nat) (row : List qaH) (k : Int), row.Perm row0 → k < (row0.length : Int) → k ≤ i + d → SP row0 fun K => qaF K (.c5 row i k)
  | d, row, k, hp, hk, hd => by
    have hlen := hp.length_eq
    refine qkX ?_
    simp only [qaF]
    refine quH (fun h => ?_) fun _ => qu2 hp
    have h := of_decide_eq_true h
    match d, hd with
    | 0, hd => omega
    | d + 1, hd =>
    rw [qdB (x := k - 1) (by omega)]
    obtain ⟨x, hx⟩ := q2E (l := row) (i := k - 1) (by omega) (by omega)
    obtain ⟨y, hy⟩ := q2E (l := row) (i := k) (by omega) (by omega)
    obtain ⟨z, hz⟩ := q2E (l := row.set k.toNat x) (i := k - 1) (by omega) (by rw [List.length_set]; omega)
    refine qoA hx (qoA hy (qoA hy (qoA hz ?_)))
    exact zw4 row0 hl hi0 d _ (k - 1) ((swp hy hx).trans hp) (by omega) (by omega)
theorem zs0 {a : Int} {row : List qaH} (hl : (row.length : Int) ≤ 1099511627776) (ha : 0 ≤ a) (hal : a < (row.length : Int)) :
    ∀ (d : Nat) (i j : Int), 0 ≤ i → i ≤ j → j ≤ (row.length : Int) → j ≤ i + d → SP row fun K => qaF K (.c1 row a i j)
  | d, i, j, h0, h1, h2, hd => by
    refine qkX ?_
    simp only [qaF]
    rw [zrG (a := i) (b := j) (by omega) (by omega), qdB (x := (i + j) / 2 + 1) (by omega)]
    refine quH (fun h => ?_) fun _ => zw5 row hl h0 (by omega) (i - 1 - a).toNat row a (.refl _) ha (by omega)
    have h := of_decide_eq_true h
    match d, hd with
    | 0, hd => omega
    | d + 1, hd =>
    obtain ⟨x, hx⟩ := q2E (l := row) (i := (i + j) / 2) (by omega) (by omega)
    obtain ⟨y, hy⟩ := q2E (l := row) (i := a) (by omega) (by omega)
    refine qoA hx (qoA hy (zm3 (qn7 _ _) (quH (fun _ => ?_) fun _ => ?_)))
    · exact zs0 hl ha hal d _ _ (by omega) (by omega) (by omega) (by omega)
    · exact zs0 hl ha hal d _ _ (by omega) (by omega) (by omega) (by omega)
theorem zsZ {m : Int} {row : List qaH} (hl : (row.length : Int) ≤ 1099511627776) (hm0 : 0 ≤ m) (hm : m < (row.length : Int)) :
    ∀ (d : Nat) (i j : Int), 0 ≤ i → i ≤ j → j ≤ m → j ≤ i + d → SP row fun K => qaF K (.c2 row m i j)
  | d, i, j, h0, h1, h2, hd => by
    refine qkX ?_
    simp only [qaF]
    rw [zrG (a := i) (b := j) (by omega) (by omega), qdB (x := (i + j) / 2 + 1) (by omega)]
    refine quH (fun h => ?_) fun _ => zw4 row hl h0 (m - i).toNat row m (.refl _) hm (by omega)
    have h := of_decide_eq_true h
    match d, hd with
    | 0, hd => omega
    | d + 1, hd =>
    obtain ⟨x, hx⟩ := q2E (l := row) (i := m) (by omega) (by omega)
    obtain ⟨y, hy⟩ := q2E (l := row) (i := (i + j) / 2) (by omega) (by omega)
    refine qoA hx (qoA hy (zm3 (qn7 _ _) (quH (fun _ => ?_) fun _ => ?_)))
    · exact zsZ hl hm0 hm d _ _ (by omega) (by omega) (by omega) (by omega)
    · exact zsZ hl hm0 hm d _ _ (by omega) (by omega) (by omega) (by omega)
def zpT (len : Nat) (a m b : Int) : Prop := ∀ row : List qaH, row.length = len → SP row fun K => qaF K (.c0 row a m b)
theorem zsV {len : Nat} {b mid e : Int} (h2 : mid < e → e < b → zpT len mid e b) (row0 : List qaH) (hlen : row0.length = len) (q : List qaH) (hq : q.Perm row0) :
    SP row0 fun K => bif decide (mid < e) then bif decide (e < b) then (qaF K (.c0 q mid e b)).bind fun x => gd (x.length = q.length) (some x) else some q else some q :=
  quH (fun h => quH (fun h' => qv8 (h2 (of_decide_eq_true h) (of_decide_eq_true h') q (by rw [hq.length_eq, hlen])) hq fun r _ hrl hr0 => zhH hrl (qu2 hr0)) fun _ => qu2 hq) fun _ => qu2 hq
theorem zsW {len : Nat} {a b mid e st : Int} (h1 : a < st → st < mid → zpT len a st mid) (h2 : mid < e → e < b → zpT len mid e b) (row0 : List qaH) (hlen : row0.length = len) (q : List qaH) (hq : q.Perm row0) :
    SP row0 fun K => bif decide (a < st) then bif decide (st < mid) then (qaF K (.c0 q a st mid)).bind fun y => gd (y.length = q.length) (bif decide (mid < e) then bif decide (e < b) then (qaF K (.c0 y mid e b)).bind fun x => gd (x.length = y.length) (some x) else some y else some y)
      else bif decide (mid < e) then bif decide (e < b) then (qaF K (.c0 q mid e b)).bind fun x => gd (x.length = q.length) (some x) else some q else some q
      else bif decide (mid < e) then bif decide (e < b) then (qaF K (.c0 q mid e b)).bind fun x => gd (x.length = q.length) (some x) else some q else some q :=
  quH (fun h => quH (fun h' => qv8 (h1 (of_decide_eq_true h) (of_decide_eq_true h') q (by rw [hq.length_eq, hlen])) hq fun r _ hrl hr0 => zhH hrl (zsV h2 row0 hlen r hr0)) fun _ => zsV h2 row0 hlen q hq) fun _ => zsV h2 row0 hlen q hq
theorem zq3 {a m b mid n p lo hi : Int} {row : List qaH} (hl : (row.length : Int) ≤ 1099511627776) (ha : 0 ≤ a) (ham : a < m) (hmb : m < b) (hb : b ≤ (row.length : Int)) (hmid : mid = (a + b) / 2) (hn : n = mid + m) (hp : p = n - 1)
    (hlo : a ≤ lo) (hhi : hi ≤ m) (hlo2 : n - b ≤ lo) (hhi2 : hi ≤ mid)
    (h1 : ∀ st, a < st → st < mid → zpT row.length a st mid) (h2 : ∀ e, mid < e → e < b → zpT row.length mid e b) :
    ∀ (d : Nat) (start r : Int), lo ≤ start → start ≤ r → r ≤ hi → r ≤ start + d → SP row fun K => qaF K (.c3 row a m b mid n start r p)
  | d, start, r, k0, k1, k2, hd => by
    refine qkX ?_
    simp only [qaF]
    rw [zrG (a := start) (b := r) (by omega) (by omega), qdB (x := (start + r) / 2 + 1) (by omega), qdB (x := p - (start + r) / 2) (by omega), qdB (x := n - start) (by omega)]
    refine quH (fun h => ?_) fun h => ?_
    · have h := of_decide_eq_true h
      match d, hd with
      | 0, hd => omega
      | d + 1, hd =>
      obtain ⟨x, hx⟩ := q2E (l := row) (i := p - (start + r) / 2) (by omega) (by omega)
      obtain ⟨y, hy⟩ := q2E (l := row) (i := (start + r) / 2) (by omega) (by omega)
      refine qoA hx (qoA hy (zm3 (qn7 _ _) (quH (fun _ => ?_) fun _ => ?_)))
      · exact zq3 hl ha ham hmb hb hmid hn hp hlo hhi hlo2 hhi2 h1 h2 d _ _ (by omega) (by omega) (by omega) (by omega)
      · exact zq3 hl ha ham hmb hb hmid hn hp hlo hhi hlo2 hhi2 h1 h2 d _ _ (by omega) (by omega) (by omega) (by omega)
    · refine quH (fun h => quH (fun h' => ?_) fun _ => ?_) fun _ => ?_
      · have h := of_decide_eq_true h
        have h' := of_decide_eq_true h'
        refine qv8 (rot_sp hl (by omega) h h' (by omega)) (.refl _) fun q _ hql hq => zhH hql ?_
        exact zsW (h1 start) (h2 (n - start)) row rfl q hq
      · exact zsW (h1 start) (h2 (n - start)) row rfl row (.refl _)
      · exact zsW (h1 start) (h2 (n - start)) row rfl row (.refl _)
theorem zsX (len : Nat) (hl : (len : Int) ≤ 1099511627776) : ∀ (d : Nat) (a m b : Int), 0 ≤ a → a < m → m < b → b ≤ (len : Int) → b ≤ a + d → zpT len a m b
  | 0, a, m, b, _, h1, h2, _, hd => by omega
  | d + 1, a, m, b, h0, h1, h2, h3, hd => by
    intro row hlen
    subst hlen
    refine qkX ?_
    simp only [qaF]
    rw [zrG (a := a) (b := b) (by omega) (by omega), qdB (x := m - a) (by omega), qdB (x := b - m) (by omega), qdB (x := (a + b) / 2 + m) (by omega), qdB (x := (a + b) / 2 + m - b) (by omega), qdB (x := (a + b) / 2 + m - 1) (by omega)]
    have i1 : ∀ st, a < st → st < (a + b) / 2 → zpT row.length a st ((a + b) / 2) := fun st k1 k2 => zsX row.length hl d _ _ _ h0 k1 k2 (by omega) (by omega)
    have i2 : ∀ e, (a + b) / 2 < e → e < b → zpT row.length ((a + b) / 2) e b := fun e k1 k2 => zsX row.length hl d _ _ _ (by omega) k1 k2 h3 (by omega)
    refine quH (fun _ => ?_) fun _ => quH (fun _ => ?_) fun _ => quH (fun h => ?_) fun h => ?_
    · exact zs0 hl h0 (by omega) (b - m).toNat m b (by omega) (by omega) h3 (by omega)
    · exact zsZ hl (by omega) (by omega) (m - a).toNat a m h0 (by omega) (by omega) (by omega)
    · have h := of_decide_eq_true h
      exact zq3 hl h0 h1 h2 h3 rfl rfl rfl (lo := (a + b) / 2 + m - b) (hi := (a + b) / 2) (by omega) (by omega) (by omega) (by omega) i1 i2 (b - m).toNat _ _ (by omega) (by omega) (by omega) (by omega)
    · have h := of_decide_eq_false h
      exact zq3 hl h0 h1 h2 h3 rfl rfl rfl (lo := a) (hi := m) (by omega) (by omega) (by omega) (by omega) i1 i2 (m - a).toNat _ _ (by omega) (by omega) (by omega) (by omega)
theorem zw3 {row : List qaH} {a m b : Int} (hl : (row.length : Int) ≤ 1099511627776) (h0 : 0 ≤ a) (h1 : a < m) (h2 : m < b) (h3 : b ≤ (row.length : Int)) : SP row fun K => qc5 K row a m b :=
  zsX row.length hl (b - a).toNat a m b h0 h1 h2 h3 (by omega) row rfl
theorem zw7 {bs : Int} (row0 : List qaH) (hl : (row0.length : Int) ≤ 1099511627776) (hbs : 20 ≤ bs) (hbn : bs < (row0.length : Int)) (hnext : ∀ r : List qaH, r.Perm row0 → SP row0 fun K => qaN K (.c2 r (row0.length : Int) (bs * 2))) :
    ∀ (d : Nat) (row : List qaH) (a : Int), row.Perm row0 → 0 ≤ a → a ≤ (row0.length : Int) → (row0.length : Int) ≤ a + d → SP row0 fun K => qaN K (.c3 row (row0.length : Int) bs a (a + 2 * bs))
  | d, row, a, hp, h0, h1, hd => by
    have hlen := hp.length_eq
    refine qkX ?_
    simp only [qaN]
    rw [qdB (x := a + bs) (by omega), qdB (x := bs * 2) (by omega)]
    refine quH (fun h => ?_) fun _ => quH (fun h => ?_) fun _ => hnext row hp
    · have h := of_decide_eq_true h
      match d, hd with
      | 0, hd => omega
      | d + 1, hd =>
      rw [qdB (x := 2 * bs) (by omega), qdB (x := a + 2 * bs + 2 * bs) (by omega)]
      refine qv8 (zw3 (by omega) h0 (by omega) (by omega) (by omega)) hp fun r _ hrl hr0 => zhH hrl ?_
      exact zw7 row0 hl hbs hbn hnext d r (a + 2 * bs) hr0 (by omega) h (by omega)
    · have h := of_decide_eq_true h
      refine qv8 (zw3 (by omega) h0 (by omega) h (by omega)) hp fun r _ hrl hr0 => zhH hrl (hnext r hr0)
theorem zw8 (row0 : List qaH) (hl : (row0.length : Int) ≤ 1099511627776) : ∀ (d : Nat) (row : List qaH) (bs : Int), row.Perm row0 → 20 ≤ bs → (row0.length : Int) ≤ bs + d → SP row0 fun K => qaN K (.c2 row (row0.length : Int) bs)
  | d, row, bs, hp, h0, hd => by
    refine qkX ?_
    simp only [qaN]
    refine quH (fun h => ?_) fun _ => qu2 hp
    have h := of_decide_eq_true h
    match d, hd with
    | 0, hd => omega
    | d + 1, hd =>
    rw [qdB (x := 2 * bs) (by omega)]
    have := zw7 row0 hl h0 h (fun r hr => zw8 row0 hl d r (bs * 2) hr (by omega) (by omega)) row0.length row 0 hp (by omega) (by omega) (by omega)
    rw [Int.zero_add] at this
    exact this
theorem zw9 (row0 : List qaH) (hl : (row0.length : Int) ≤ 1099511627776) : ∀ (d : Nat) (row : List qaH) (a : Int), row.Perm row0 → 0 ≤ a → a ≤ (row0.length : Int) → (row0.length : Int) ≤ a + d → SP row0 fun K => qaN K (.c1 row (row0.length : Int) 20 a (a + 20))
  | d, row, a, hp, h0, h1, hd => by
    have hlen := hp.length_eq
    refine qkX ?_
    simp only [qaN]
    rw [qdB (x := a + 20 + 20) (by omega)]
    refine quH (fun h => ?_) fun _ => ?_
    · have h := of_decide_eq_true h
      match d, hd with
      | 0, hd => omega
      | d + 1, hd =>
      refine qv8 (zxH (by omega) h0 (by omega) (by omega)) hp fun r _ hrl hr0 => zhH hrl ?_
      exact zw9 row0 hl d r (a + 20) hr0 (by omega) h (by omega)
    · refine qv8 (zxH (by omega) h0 (by omega) (by omega)) hp fun r _ hrl hr0 => zhH hrl ?_
      exact zw8 row0 hl row0.length r 20 hr0 (by omega) (by omega)
theorem zyS {row : List qaH} (hl : (row.length : Int) ≤ 1099511627776) : SP row fun K => qcJ K row := by
  refine qkX ?_
  simp only [qcJ, qbK]
  refine qv8 (q := row) ?_ (.refl _) fun r _ hrl hr0 => zhH hrl (qu2 hr0)
  refine qkX ?_
  simp only [qd4, qaN]
  exact zw9 row hl row.length row 0 (.refl _) (by omega) (by omega) (by omega)
theorem zvC : Ev (fun K => qcL K) () := by
  have ins : ∀ a b : Int, a = 0 ∧ (b = 0) → Ev (fun K => qb8 K a b) () := by
    rintro a b ⟨rfl, rfl⟩
    refine qaT ?_
    simp only [qb8, qaR]
    refine qaT ?_
    simp only [qaR]
    exact ev_f (by decide) (qa3 _)
  refine qaT ?_
  simp only [qcL, qbL]
  refine qaP (x := ()) ?_ (qa3 _)
  refine qaT ?_
  simp only [qd7, qaS]
  refine qaT ?_
  simp only [qaS]
  refine ev_f (by decide) (qaP (ins _ _ ⟨rfl, rfl⟩) ?_)
  refine qaT ?_
  simp only [qaS]
  exact ev_f (by decide) (qa3 _)
end Go.Am.X
