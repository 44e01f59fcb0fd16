/- Part 3 of the proof: M9 .. Fn_rational_Of. -/
import Derived.Test.YteciehfkhmbfeaaGreatSb
namespace Go.Am.X
theorem qeY {a : List Int} {i : Nat} (h : i < a.length) : val (a.take (i + 1)) = val (a.take i) + 4294967296 ^ i * a[i] := by
  rw [List.take_add_one, List.getElem?_eq_getElem h, Option.toList_some, qmE, List.length_take, Nat.min_eq_left (by omega)]
  simp
theorem q1D {x y c : Int} (hx : 0 ≤ x ∧ x < 4294967296) (hy : 0 ≤ y ∧ y < 4294967296) (hc : 0 ≤ c ∧ c < 4294967296) : Ev (fun K => qjK K x y c) ((x + y + c) % 4294967296, (x + y + c) / 4294967296) := by
  unfold qjK
  exact qaR (qoT hx hy hc) (qa6 _)
theorem q6C {a b : List Int} (ha : Dig a) (hs : a.length < 4611686018427387900) : ∀ (m i : Nat) (c : Int) (r : List Int), i + m = a.length → b.length ≤ i → (c = 0 ∨ c = 1) → Dig r → r.length = a.length + 1 →
    val r + 4294967296 ^ i * c = val (a.take i) + val b → (∀ j, i ≤ j → j < r.length → r[j]? = some 0) → Ev (fun K => qdR K (.c2 c r a i)) (digs (val a + val b))
  | 0, i, c, r, hi, hb, hc, hr, hl, hv, hz => by
    refine qaW ?_
    simp only [qdR]
    refine ev_f (by simp; omega) (qb8 (qfS (by omega)) ?_)
    have hia : a.length = i := by omega
    have h1 := qc3 (qqI hr a.length (x := c) (by omega)) (by simp; omega)
    have h2 := hz a.length (by omega) (by omega)
    rw [List.getElem?_eq_getElem (by omega)] at h2
    rw [qrK (by omega), Option.some.inj h2, Int.sub_zero, hia, hv, List.take_of_length_le (Nat.le_of_eq hia)] at h1
    rw [Int.toNat_natCast, hia]
    exact qaR h1 (qa6 _)
  | m + 1, i, c, r, hi, hb, hc, hr, hl, hv, hz => by
    refine qaW ?_
    simp only [qdR]
    have hia : i < a.length := by omega
    have hx := qgO ha hia
    refine ev_t (by simp; omega) (qb8 (qfS hia) (qaR (q1D hx (by decide) (by omega)) (qb8 (qfS (by omega)) ?_)))
    simp only [Int.add_zero]
    rw [Int.toNat_natCast, qdF (by omega), show (i : Int) + 1 = ((i + 1 : Nat) : Int) by omega]
    refine q6C ha hs m (i + 1) _ _ (by omega) (by omega) (by omega) (qqI hr i (by omega)) (by simpa using hl) ?_ (fun j hj hjl => ?_)
    · have h2 := hz i (by omega) (by omega)
      rw [List.getElem?_eq_getElem (by omega)] at h2
      rw [qrK (by omega), Option.some.inj h2, qeY hia, Int.pow_succ]
      have e := Int.emod_add_mul_ediv (a[i] + c) 4294967296
      generalize (a[i] + c) % 4294967296 = p at *
      generalize (a[i] + c) / 4294967296 = q at *
      generalize (4294967296 : Int) ^ i = A at *
      grind
    · rw [List.getElem?_set_ne (by omega)]; exact hz j (by omega) (by simpa using hjl)
theorem qx9 {a b : List Int} (ha : Dig a) (hb : Dig b) (hab : b.length ≤ a.length) (hs : a.length < 4611686018427387900) : ∀ (m i : Nat) (c : Int) (r : List Int), i + m = b.length → (c = 0 ∨ c = 1) → Dig r → r.length = a.length + 1 →
    val r + 4294967296 ^ i * c = val (a.take i) + val (b.take i) → (∀ j, i ≤ j → j < r.length → r[j]? = some 0) → Ev (fun K => qdR K (.c1 c r a b b b.length i)) (digs (val a + val b))
  | 0, i, c, r, hi, hc, hr, hl, hv, hz => by
    refine qaW ?_
    simp only [qdR]
    refine ev_f (by simp; omega) ?_
    rw [List.take_of_length_le (l := b) (by omega)] at hv
    have hbi : b.length = i := by omega
    rw [hbi]
    exact q6C ha hs (a.length - i) i c r (by omega) (by omega) hc hr hl hv hz
  | m + 1, i, c, r, hi, hc, hr, hl, hv, hz => by
    refine qaW ?_
    simp only [qdR]
    have hib : i < b.length := by omega
    have hia : i < a.length := by omega
    have hx := qgO ha hia
    have hy := qgO hb hib
    refine ev_t (by simp; omega) (qb8 (qfS hib) (qb8 (qfS hia) (qaR (q1D hx hy (by omega)) (qb8 (qfS (by omega)) ?_))))
    simp only
    rw [Int.toNat_natCast, qdF (by omega), show (i : Int) + 1 = ((i + 1 : Nat) : Int) by omega]
    refine qx9 ha hb hab hs m (i + 1) _ _ (by omega) (by omega) (qqI hr i (by omega)) (by simpa using hl) ?_ (fun j hj hjl => ?_)
    · have h2 := hz i (by omega) (by omega)
      rw [List.getElem?_eq_getElem (by omega)] at h2
      rw [qrK (by omega), Option.some.inj h2, qeY hia, qeY hib, Int.pow_succ]
      have e := Int.emod_add_mul_ediv (a[i] + b[i] + c) 4294967296
      generalize (a[i] + b[i] + c) % 4294967296 = p at *
      generalize (a[i] + b[i] + c) / 4294967296 = q at *
      generalize (4294967296 : Int) ^ i = A at *
      grind
    · rw [List.getElem?_set_ne (by omega)]; exact hz j (by omega) (by simpa using hjl)
theorem zk6 {a b : List Int} (ha : Dig a) (hb : Dig b) (hs : a.length ≤ 34359738360) (ht : b.length ≤ 34359738360) : Ev (fun K => qz9 K a b) (digs (val a + val b)) := by
  refine qaW ?_
  simp only [qz9, qdR]
  have va := qdP (qb1 ha)
  have vb := qdP (qb1 hb)
  have la := qe1 ha
  have lb := qe1 hb
  refine qaR (qc3 ha (by omega)) (qaR (qc3 hb (by omega)) (znJ (fun h => ?_) (fun h => ?_)))
  · have h := of_decide_eq_true h
    rw [qdF (by omega)]
    refine qgA (by omega) ?_
    have := qx9 (qdW (val b)) (qdW (val a)) (by omega) (by omega) _ 0 0 (List.replicate ((digs (val b)).length + 1) 0) (Nat.zero_add _) (.inl rfl) (q7Y (by decide)) (by simp) (by rw [qzR]; simp) (fun j _ hj => by rw [List.getElem?_replicate, if_pos (by simpa using hj)])
    rw [va, vb, Int.add_comm] at this
    rw [show (((digs (val b)).length : Int) + 1).toNat = (digs (val b)).length + 1 by omega]
    exact this
  · have h := of_decide_eq_false h
    rw [qdF (by omega)]
    refine qgA (by omega) ?_
    have := qx9 (qdW (val a)) (qdW (val b)) (by omega) (by omega) _ 0 0 (List.replicate ((digs (val a)).length + 1) 0) (Nat.zero_add _) (.inl rfl) (q7Y (by decide)) (by simp) (by rw [qzR]; simp) (fun j _ hj => by rw [List.getElem?_replicate, if_pos (by simpa using hj)])
    rw [va, vb] at this
    rw [show (((digs (val a)).length : Int) + 1).toNat = (digs (val a)).length + 1 by omega]
    exact this
def wd (x : Int) : BitVec 32 := BitVec.ofInt 32 x
theorem zqI {x : Int} (h : 0 ≤ x ∧ x < 4294967296) : (wd x).toNat = x.toNat := by
  unfold wd; rw [BitVec.toNat_ofInt]; omega
theorem zsJ (v : BitVec 32) : wU3 (v.toNat : Int) = v.toNat := by
  rw [q4M]; have := v.isLt; omega
theorem znO {x y : Int} : bits .or .u32 x y = ((wd x ||| wd y).toNat : Int) := zsJ _
theorem zrK {x y : Int} : bits .and .u32 x y = ((wd x &&& wd y).toNat : Int) := zsJ _
theorem znN {x y : Int} : bits .xor .u32 x y = ((wd x ^^^ wd y).toNat : Int) := zsJ _
theorem q74 (v : BitVec 32) : wd (v.toNat : Int) = v := by
  apply BitVec.eq_of_toNat_eq
  rw [zqI ⟨by omega, by have := v.isLt; omega⟩]; omega
theorem zjR {x y : Int} {s : Nat} (hx : 0 ≤ x ∧ x < 4294967296) (hd : x % 2 ^ s = 0) (hy : 0 ≤ y ∧ y < 2 ^ s) (hs : s < 32) : bits .or .u32 x y = x + y := by
  have hp : (2 : Int) ^ s ≤ 2 ^ 31 := by
    have : (2 : Nat) ^ s ≤ 2 ^ 31 := Nat.pow_le_pow_right (by decide) (by omega)
    exact_mod_cast this
  rw [znO, BitVec.toNat_or, zqI hx, zqI (by omega)]
  have h1 : (x.toNat : Int) = x := by omega
  have h2 : (y.toNat : Int) = y := by omega
  have h3 : x.toNat = 2 ^ s * (x.toNat / 2 ^ s) := by
    have h4 : x.toNat % 2 ^ s = 0 := by
      have : ((x.toNat % 2 ^ s : Nat) : Int) = 0 := by rw [Int.natCast_emod, h1]; simpa using hd
      exact_mod_cast this
    have := Nat.div_add_mod x.toNat (2 ^ s)
    omega
  have h5 : y.toNat < 2 ^ s := by
    have : ((y.toNat : Nat) : Int) < ((2 ^ s : Nat) : Int) := by rw [h2]; simpa using hy.2
    exact_mod_cast this
  rw [h3, ← Nat.two_pow_add_eq_or_of_lt h5]
  rw [← h3]; omega
theorem zx1 (v : BitVec 32) : ((v.toNat : Int) / 2147483648) = if v.msb then 1 else 0 := by
  rw [BitVec.msb_eq_decide]
  have := v.isLt
  by_cases h : 2 ^ (32 - 1) ≤ v.toNat
  · simp only [h, decide_true, if_true]; omega
  · simp only [h, decide_false]; simp; omega
theorem zsH {x : Int} (h : 0 ≤ x ∧ x < 4294967296) : (wd x).msb = decide (2147483648 ≤ x) := by
  rw [BitVec.msb_eq_decide, zqI h, decide_eq_decide]; omega
theorem qxS {x y b : Int} (hx : 0 ≤ x ∧ x < 4294967296) (hy : 0 ≤ y ∧ y < 4294967296) (hb : b = 0 ∨ b = 1) :
    Ev (fun K => qpA K x y b) ((x - y - b) % 4294967296, if x - y - b < 0 then 1 else 0) := by
  refine qaW ?_
  simp only [qpA, qjL, q4M]
  rw [show ((x - y) % 4294967296 - b) % 4294967296 = (x - y - b) % 4294967296 by omega]
  refine qe4 (qa6 _) ?_
  congr 1
  have hd : 0 ≤ (x - y - b) % 4294967296 ∧ (x - y - b) % 4294967296 < 4294967296 := by omega
  generalize hdd : (x - y - b) % 4294967296 = d at *
  rw [znO, zrK, zrK, znN, znN, znN, q74, q74, q74, q74, q74, zl4 (by decide) (by decide)]
  show _ / 2147483648 = _
  rw [zx1]
  have hall : ∀ v : BitVec 32, wd (if IntKind.signed .u32 then -1 else IntKind.max .u32) ^^^ v = ~~~v := by
    intro v
    have : wd (if IntKind.signed .u32 then -1 else IntKind.max .u32) = BitVec.allOnes 32 := by decide
    rw [this, BitVec.allOnes_xor]
  simp only [hall, BitVec.msb_or, BitVec.msb_and, BitVec.msb_not, BitVec.msb_xor, zsH hx, zsH hy, zsH hd]
  by_cases h1 : 2147483648 ≤ x <;> by_cases h2 : 2147483648 ≤ y <;> by_cases h3 : 2147483648 ≤ d <;> simp [h1, h2, h3] <;> omega
theorem q54 {a b : List Int} (ha : Dig a) (hb : Dig b) (hba : val b ≤ val a) (hs : a.length < 4611686018427387904) (hlb : b.length ≤ a.length) : ∀ (m i : Nat) (c : Int) (r : List Int), i + m = a.length → (c = 0 ∨ c = 1) → Dig r → r.length = a.length →
    val r - 4294967296 ^ i * c = val (a.take i) - val (b.take i) → (∀ j, i ≤ j → j < r.length → r[j]? = some 0) → Ev (fun K => qd7 K (.c1 r b c a a.length i)) (digs (val a - val b), true)
  | 0, i, c, r, hi, hc, hr, hl, hv, hz => by
    refine qaW ?_
    simp only [qd7]
    refine ev_f (by simp; omega) ?_
    have h1 := qc3 hr (by omega)
    rw [List.take_of_length_le (by omega), List.take_of_length_le (by omega)] at hv
    have h2 := qnX hr
    rw [hl, show a.length = i by omega] at h2
    have hc0 : c = 0 := by
      rcases hc with h | h
      · exact h
      · subst h; omega
    subst hc0
    rw [Int.mul_zero, Int.sub_zero] at hv
    rw [hv] at h1
    exact qaR h1 (qa6 _)
  | m + 1, i, c, r, hi, hc, hr, hl, hv, hz => by
    refine qaW ?_
    simp only [qd7]
    have hia : i < a.length := by omega
    have hx := qgO ha hia
    refine ev_t (by simp; omega) (qb8 (qfS hia) ?_)
    have next : ∀ y : Int, 0 ≤ y ∧ y < 4294967296 → val (b.take (i + 1)) = val (b.take i) + 4294967296 ^ i * y →
        Ev (fun K => qd7 K (.c2 (r.set i ((a[i] - y - c) % 4294967296)) b (if a[i] - y - c < 0 then 1 else 0) a a.length i)) (digs (val a - val b), true) := by
      intro y hy he
      refine qaW ?_
      simp only [qd7]
      rw [qdF (by omega), show (i : Int) + 1 = ((i + 1 : Nat) : Int) by omega]
      refine q54 ha hb hba hs hlb m (i + 1) _ _ (by omega) (by split <;> omega) (qqI hr i (by omega)) (by simpa using hl) ?_ (fun j hj hjl => ?_)
      · have h2 := hz i (by omega) (by omega)
        rw [List.getElem?_eq_getElem (by omega)] at h2
        rw [qrK (by omega), Option.some.inj h2, qeY hia, he, Int.pow_succ]
        have e : (a[i] - y - c) % 4294967296 - 4294967296 * (if a[i] - y - c < 0 then 1 else 0) = a[i] - y - c := by split <;> omega
        generalize (a[i] - y - c) % 4294967296 = p at *
        generalize (if a[i] - y - c < 0 then (1 : Int) else 0) = q at *
        generalize (4294967296 : Int) ^ i = A at *
        grind
      · rw [List.getElem?_set_ne (by omega)]; exact hz j (by omega) (by simpa using hjl)
    by_cases hib : i < b.length
    · refine ev_t (by simpa using hib) (qb8 (qfS hib) (qaR (qxS hx (qgO hb hib) hc) (qb8 (qfS (by omega)) ?_)))
      rw [Int.toNat_natCast]
      exact next _ (qgO hb hib) (qeY hib)
    · refine ev_f (by simpa using hib) (qaR (qxS hx (by decide) hc) (qb8 (qfS (by omega)) ?_))
      rw [Int.toNat_natCast]
      exact next 0 (by decide) (by rw [List.take_of_length_le (by omega), List.take_of_length_le (by omega)]; simp)
theorem q55 {a b : List Int} (ha : Dig a) (hb : Dig b) (hs : a.length ≤ 34359738360) (ht : b.length ≤ 34359738360) : Ev (fun K => qwF K a b) (if val a < val b then ([], false) else (digs (val a - val b), true)) := by
  refine qaW ?_
  simp only [qwF, qd7]
  have va := qdP (qb1 ha)
  have vb := qdP (qb1 hb)
  have la := qe1 ha
  have lb := qe1 hb
  have hc := qm3 (val a) (val b)
  refine qaR (qt7 ha hb (by omega) (by omega)) ?_
  by_cases h : val a < val b
  · rw [if_pos h]
    exact ev_t (by simp; omega) (qa6 _)
  · rw [if_neg h]
    refine ev_f (by simp; omega) (qaR (qc3 ha (by omega)) (qaR (qc3 hb (by omega)) (qgA (by omega) ?_)))
    have hlb : (digs (val b)).length ≤ (digs (val a)).length := by
      apply Nat.le_of_not_lt; intro hlt
      have := qzS (quD (val a)) (quD (val b)) hlt
      omega
    have := q54 (qdW (val a)) (qdW (val b)) (by omega) (by omega) hlb _ 0 0 (List.replicate (digs (val a)).length 0) (Nat.zero_add _) (.inl rfl) (q7Y (by decide)) (by simp) (by rw [qzR]; simp) (fun j _ hj => by rw [List.getElem?_replicate, if_pos (by simpa using hj)])
    rw [va, vb] at this
    rw [Int.toNat_natCast]
    exact this
theorem quA {a b : qaE} (ha : Dig a.Abs) (hb : Dig b.Abs) (hs : a.Abs.length ≤ 34359738360) (ht : b.Abs.length ≤ 34359738360) : Ev (fun K => qrS K a b) (mkI (ival a + ival b)) := by
  refine qaW ?_
  simp only [qrS, qn7]
  have na := qb1 ha
  have nb := qb1 hb
  obtain ⟨s, a⟩ := a
  obtain ⟨t, b⟩ := b
  simp only at ha hb hs ht na nb ⊢
  unfold ival
  by_cases h : s = t
  · subst h
    refine ev_t (by simp) (qaR (zk6 ha hb hs ht) (qaR (qe4 (qk1 s (by omega)) ?_) (qa6 _)))
    congr 1; cases s <;> simp; omega
  · refine ev_f (by simpa using h) (qaR (q55 ha hb hs ht) ?_)
    have e : s = !t := by cases s <;> cases t <;> simp at h ⊢
    by_cases hlt : val a < val b
    · simp only [if_pos hlt]
      have := q55 hb ha ht hs
      rw [if_neg (by omega)] at this
      refine ev_f rfl (qaR this (qaR (qe4 (qk1 t (by omega)) ?_) (qa6 _)))
      congr 1; subst e; cases t <;> simp <;> omega
    · simp only [if_neg hlt]
      refine ev_t rfl (qaR (qe4 (qk1 s (by omega)) ?_) (qa6 _))
      congr 1; subst e; cases t <;> simp <;> omega
theorem zn6 {x l : Int} {s : Nat} (hx : 0 ≤ x ∧ x < 4294967296) (hl : 0 ≤ l ∧ l < 2 ^ s) (hs : s < 32) :
    ∃ d q : Int, bits .or .u32 (qi3 .u32 x s) l = d ∧ qdG .u32 x (32 - s) = q ∧ (0 ≤ d ∧ d < 4294967296) ∧ (0 ≤ q ∧ q < 2 ^ s) ∧ d + 4294967296 * q = x * 2 ^ s + l := by
  rw [zqU (by omega) (by show (s : Int) ≤ 32; omega), zl4 (by omega) (by show (32 : Int) - s ≤ 32; omega), zwN, Int.toNat_natCast, show ((32 : Int) - s).toNat = 32 - s by omega]
  have hP : (0 : Int) < 2 ^ s := Int.pow_pos (by decide)
  have hQ : (0 : Int) < 2 ^ (32 - s) := Int.pow_pos (by decide)
  have hPQ : (2 : Int) ^ (32 - s) * 2 ^ s = 4294967296 := by rw [← Int.pow_add, show 32 - s + s = 32 by omega]; rfl
  have hmul : x * 2 ^ s % 4294967296 = x % 2 ^ (32 - s) * 2 ^ s := by rw [← hPQ, Int.mul_comm x, Int.mul_comm (2 ^ (32 - s)), Int.mul_emod_mul_of_pos _ _ hP, Int.mul_comm]
  have hm1 : 0 ≤ x % 2 ^ (32 - s) := Int.emod_nonneg _ (by omega)
  have hm2 : x % 2 ^ (32 - s) < 2 ^ (32 - s) := Int.emod_lt_of_pos _ hQ
  have hd1 : x % 2 ^ (32 - s) * 2 ^ s + 2 ^ s ≤ 4294967296 := by
    have := Int.mul_le_mul_of_nonneg_right (show x % 2 ^ (32 - s) + 1 ≤ 2 ^ (32 - s) by omega) (Int.le_of_lt hP)
    rw [hPQ, Int.add_mul, Int.one_mul] at this; exact this
  have hd0 : 0 ≤ x % 2 ^ (32 - s) * 2 ^ s := Int.mul_nonneg hm1 (Int.le_of_lt hP)
  rw [hmul, zjR (s := s) ⟨hd0, by omega⟩ (Int.mul_emod_left _ _) hl hs]
  have hdiv := Int.emod_add_mul_ediv x (2 ^ (32 - s))
  refine ⟨_, _, rfl, rfl, ⟨by omega, by omega⟩, ⟨Int.ediv_nonneg hx.1 (by omega), ?_⟩, ?_⟩
  · exact Int.ediv_lt_of_lt_mul hQ (by rw [Int.mul_comm, hPQ]; exact hx.2)
  · rw [← hPQ]
    generalize x / 2 ^ (32 - s) = q at *
    generalize x % 2 ^ (32 - s) = r at *
    generalize (2 : Int) ^ s = P at *
    generalize (2 : Int) ^ (32 - s) = Q at *
    rw [← hdiv]
    grind
theorem q57 {r0 : List Int} (h0 : Dig r0) {s : Nat} (hs1 : 0 < s) (hs : s < 32) (hl : r0.length < 4611686018427387904) (hlast : val r0 * 2 ^ s < 4294967296 ^ r0.length) : ∀ (m i : Nat) (l : Int) (r : List Int), i + m = r0.length → (0 ≤ l ∧ l < 2 ^ s) → Dig r → r.length = r0.length →
    val r + 4294967296 ^ i * l = 2 ^ s * val (r0.take i) + 4294967296 ^ i * val (r0.drop i) → (∀ j, i ≤ j → r[j]? = r0[j]?) → Ev (fun K => qfH K (.c1 r s l i)) (digs (val r0 * 2 ^ s))
  | 0, i, l, r, hi, hlo, hr, hrl, hv, hz => by
    refine qaW ?_
    simp only [qfH]
    refine ev_f (by simp; omega) ?_
    have h1 := qc3 hr (by omega)
    rw [List.take_of_length_le (by omega), List.drop_of_length_le (by omega), q6R, Int.mul_zero, Int.add_zero, Int.mul_comm (2 ^ s)] at hv
    have hp := qfV i
    have hn := qb1 hr
    rw [show r0.length = i by omega] at hlast
    have hl0 : l = 0 := by
      apply Classical.byContradiction; intro hne
      have := Int.mul_le_mul_of_nonneg_left (show 1 ≤ l by omega) (Int.le_of_lt hp)
      omega
    subst hl0
    rw [Int.mul_zero, Int.add_zero] at hv
    rw [hv] at h1
    exact qaR h1 (qa6 _)
  | m + 1, i, l, r, hi, hlo, hr, hrl, hv, hz => by
    refine qaW ?_
    simp only [qfH]
    have hir : i < r.length := by omega
    have hi0 : i < r0.length := by omega
    have hx := qgO hr hir
    obtain ⟨d, q, e1, e2, hd, hq, e3⟩ := zn6 hx hlo hs
    refine ev_t (by simp; omega) (qb8 (qfS hir) (qgA (by omega) (qb8 (qfS hir) (qgA (by rw [qdF (by omega)]; omega) ?_))))
    rw [qdF (x := (32 : Int) - s) (by omega), e1, e2, Int.toNat_natCast, qdF (by omega), show (i : Int) + 1 = ((i + 1 : Nat) : Int) by omega]
    refine q57 h0 hs1 hs hl hlast m (i + 1) q _ (by omega) hq (qqI hr i hd) (by simpa using hrl) ?_ (fun j hj => ?_)
    · have e4 : r[i] = r0[i] := by
        have := hz i (Nat.le_refl _)
        rw [List.getElem?_eq_getElem hir, List.getElem?_eq_getElem hi0] at this
        exact Option.some.inj this
      rw [qrK hir, qeY hi0, Int.pow_succ]
      rw [List.drop_eq_getElem_cons hi0, qqT] at hv
      rw [e4] at e3 ⊢
      generalize (4294967296 : Int) ^ i = A at *
      generalize (2 : Int) ^ s = P at *
      grind
    · rw [List.getElem?_set_ne (by omega)]; exact hz j (by omega)
theorem zyG (n : Nat) : (2 : Int) ^ n = 2 ^ (n % 32) * 4294967296 ^ (n / 32) := by
  have e : (4294967296 : Int) = 2 ^ 32 := by decide
  rw [e, ← Int.pow_mul, ← Int.pow_add]
  congr 1; omega
theorem zkT {a : List Int} (ha : Dig a) {n : Nat} (hn : n ≤ 16777216) (hs : a.length ≤ 34359738360 - 524288) : Ev (fun K => qz6 K a n) (digs (val a * 2 ^ n)) := by
  refine qaW ?_
  simp only [qz6, qfH]
  have va := qdP (qb1 ha)
  have la := qe1 ha
  refine qaR (qc3 ha (by omega)) ?_
  by_cases h1 : digs (val a) = []
  · refine ev_t (by simp [h1]) (qe4 (qa6 _) ?_)
    rw [(qkC (qb1 ha)).1 h1, Int.zero_mul, qhR]
  · refine ev_f (by simpa using h1) ?_
    have e0 : min (max (n : Int) 0) 16777216 = n := by omega
    have e1 : wI6 (Int.tdiv (n : Int) 32) = ((n / 32 : Nat) : Int) := by
      rw [Int.tdiv_eq_ediv_of_nonneg (by omega), qdF (by omega)]; omega
    have e2 : Int.tmod (n : Int) 32 = ((n % 32 : Nat) : Int) := by
      rw [Int.tmod_eq_emod_of_nonneg (by omega)]; omega
    rw [e0, e1, e2, qdF (x := ((n / 32 : Nat) : Int) + ((digs (val a)).length : Int)) (by omega), qdF (by omega),
      show ((n / 32 : Nat) : Int) + ((digs (val a)).length : Int) + 1 = ((n / 32 + (digs (val a)).length + 1 : Nat) : Int) by omega]
    simp only [Int.toNat_natCast, List.length_replicate, Nat.zero_add]
    refine qgA (by omega) (qgA (by omega) (qgA (by omega) ?_))
    have hcp : qhE (List.replicate (n / 32 + (digs (val a)).length + 1) (0 : Int)) (n / 32) (n / 32 + (digs (val a)).length + 1 - n / 32) (digs (val a)) = List.replicate (n / 32) 0 ++ digs (val a) ++ [0] := by
      unfold qhE
      rw [if_pos (by simp; omega), List.take_of_length_le (by omega)]
      unfold qdH
      rw [List.take_replicate, List.drop_replicate, Nat.min_eq_left (by omega), show n / 32 + (digs (val a)).length + 1 - (n / 32 + (digs (val a)).length) = 1 by omega]
      rfl
    rw [hcp]
    have hd : Dig (List.replicate (n / 32) 0 ++ digs (val a) ++ [0]) := q4J.2 ⟨q4J.2 ⟨q7Y (by decide), qdW _⟩, qmC.2 ⟨by decide, q32⟩⟩
    have hv : val (List.replicate (n / 32) 0 ++ digs (val a) ++ [0]) = val a * 4294967296 ^ (n / 32) := by
      rw [qmE, qmE, qzR, va]; simp [Int.mul_comm]
    have hl : (List.replicate (n / 32) 0 ++ digs (val a) ++ [0]).length = n / 32 + (digs (val a)).length + 1 := by simp; omega
    have hp : val a * 4294967296 ^ (n / 32) * 2 ^ (n % 32) = val a * 2 ^ n := by rw [zyG n, Int.mul_assoc]; congr 1; rw [Int.mul_comm]
    by_cases h2 : n % 32 = 0
    · refine ev_f (by simp [h2]) ?_
      have := qc3 hd (by omega)
      rw [hv] at this
      rw [h2, Int.pow_zero, Int.mul_one] at hp
      rw [hp] at this
      exact qaR this (qa6 _)
    · refine ev_t (by simp; omega) ?_
      have hlast : val (List.replicate (n / 32) 0 ++ digs (val a) ++ [0]) * 2 ^ (n % 32) < 4294967296 ^ (List.replicate (n / 32) 0 ++ digs (val a) ++ [0]).length := by
        rw [hv, hl, Int.pow_succ, Int.pow_add]
        have h3 := qnX (qdW (val a))
        rw [va] at h3
        have h4 : (2 : Int) ^ (n % 32) < 4294967296 := by
          have : (2 : Nat) ^ (n % 32) ≤ 2 ^ 31 := Nat.pow_le_pow_right (by decide) (by omega)
          have : ((2 ^ (n % 32) : Nat) : Int) ≤ ((2 ^ 31 : Nat) : Int) := by exact_mod_cast this
          simp at this; omega
        have h5 := qfV (n / 32)
        have h6 : (0 : Int) < 2 ^ (n % 32) := Int.pow_pos (by decide)
        have h7 := Int.mul_lt_mul_of_pos_left h3 h5
        have h8 := qb1 ha
        have h9 : 0 ≤ val a * 4294967296 ^ (n / 32) := Int.mul_nonneg h8 (Int.le_of_lt h5)
        calc val a * 4294967296 ^ (n / 32) * 2 ^ (n % 32) ≤ val a * 4294967296 ^ (n / 32) * 4294967296 := Int.mul_le_mul_of_nonneg_left (Int.le_of_lt h4) h9
          _ < 4294967296 ^ (n / 32) * 4294967296 ^ (digs (val a)).length * 4294967296 := Int.mul_lt_mul_of_pos_right (by rw [Int.mul_comm (val a)]; exact h7) (by decide)
      have hlen : n / 32 + ((digs (val a)).length + 1) = (List.replicate (n / 32) 0 ++ digs (val a) ++ [0]).length := by rw [hl]; omega
      have := q57 hd (s := n % 32) (by omega) (by omega) (by omega) hlast _ (n / 32) 0 _ hlen ⟨Int.le_refl 0, Int.pow_pos (by decide)⟩ hd rfl (by
        rw [Int.mul_zero, Int.add_zero, List.append_assoc, List.take_left' (by simp), List.drop_left' (by simp), qzR, Int.mul_zero, Int.zero_add, qmE, qzR]
        simp) (fun _ _ => rfl)
      rw [hv, hp] at this
      exact this
theorem zw3 {g D N P U V : Int} (hP : 0 < P) (hg : 0 ≤ g) (hV : D * P ≤ V) (hU : U < (N + 1) * P) (h : N < g * D) : U < g * V := by
  have h1 := Int.mul_le_mul_of_nonneg_left hV hg
  have h2 := Int.mul_le_mul_of_nonneg_right (show N + 1 ≤ g * D by omega) (Int.le_of_lt hP)
  rw [Int.mul_assoc] at h2
  omega
theorem zyS {g D N P U V : Int} (hP : 0 < P) (hg : 0 ≤ g) (hD : g ≤ D + 1) (hV0 : 0 ≤ V) (hU0 : 0 ≤ U) (hV : V < (D + 1) * P) (hU : N * P ≤ U) (h : g * D ≤ N) : (g - 1) * V ≤ U := by
  by_cases h0 : g = 0
  · subst h0; simp only [Int.zero_sub, Int.neg_mul, Int.one_mul]; omega
  · have h1 := Int.mul_le_mul_of_nonneg_left (Int.le_of_lt hV) (show 0 ≤ g - 1 by omega)
    have h2 : (g - 1) * (D + 1) ≤ N := by
      have : (g - 1) * (D + 1) = g * D + g - 1 - D := by grind
      omega
    have h3 := Int.mul_le_mul_of_nonneg_right h2 (Int.le_of_lt hP)
    rw [Int.mul_assoc] at h3
    omega
theorem zuW {g x c b y : Int} (hg : 0 ≤ g ∧ g < 4294967296) (hx : 0 ≤ x ∧ x < 4294967296) (hc : 0 ≤ c ∧ c < 4294967296) (hb : b = 0 ∨ b = 1) (hy : 0 ≤ y ∧ y < 4294967296) :
    ∃ c' b' y' : Int, (g * x + c) / 4294967296 = c' ∧ (y - b - (g * x + c) % 4294967296) % 18446744073709551616 / 9223372036854775808 = b' ∧ (y - b - (g * x + c) % 4294967296) % 18446744073709551616 % 4294967296 = y' ∧
      (0 ≤ c' ∧ c' < 4294967296) ∧ (b' = 0 ∨ b' = 1) ∧ (0 ≤ y' ∧ y' < 4294967296) ∧ y' - 4294967296 * (b' + c') = y - g * x - (b + c) := by
  have := zb7 hg hx
  generalize g * x = P at *
  exact ⟨_, _, _, rfl, rfl, rfl, by omega, by omega, by omega, by omega⟩
open Go.Proofs.Tryz (prog)
inductive qnJ where
 | c0 (x : Int)
def qlZ : Nat → qnJ → Option Int
 | 0, _ => none
 | _ + 1, .c0 x =>
  bif (decide ((4294967296 : Int) ≤ x)) then
   bif (decide ((65536 : Int) ≤ (qdG .u64 x (32 : Int)))) then
    bif (decide ((256 : Int) ≤ (qdG .u64 (qdG .u64 x (32 : Int)) (16 : Int)))) then
     (gi qcW (wU1 (qdG .u64 (qdG .u64 (qdG .u64 x (32 : Int)) (16 : Int)) (8 : Int)))).bind fun x4 =>
     some (wI6 ((wI6 ((wI6 ((32 : Int) + (16 : Int))) + (8 : Int))) + (wI6 x4)))
    else
     (gi qcW (wU1 (qdG .u64 (qdG .u64 x (32 : Int)) (16 : Int)))).bind fun x4 =>
     some (wI6 ((wI6 ((32 : Int) + (16 : Int))) + (wI6 x4)))
   else
    bif (decide ((256 : Int) ≤ (qdG .u64 x (32 : Int)))) then
     (gi qcW (wU1 (qdG .u64 (qdG .u64 x (32 : Int)) (8 : Int)))).bind fun x4 =>
     some (wI6 ((wI6 ((32 : Int) + (8 : Int))) + (wI6 x4)))
    else
     (gi qcW (wU1 (qdG .u64 x (32 : Int)))).bind fun x4 =>
     some (wI6 ((32 : Int) + (wI6 x4)))
  else
   bif (decide ((65536 : Int) ≤ x)) then
    bif (decide ((256 : Int) ≤ (qdG .u64 x (16 : Int)))) then
     (gi qcW (wU1 (qdG .u64 (qdG .u64 x (16 : Int)) (8 : Int)))).bind fun x4 =>
     some (wI6 ((wI6 ((wI6 ((0 : Int) + (16 : Int))) + (8 : Int))) + (wI6 x4)))
    else
     (gi qcW (wU1 (qdG .u64 x (16 : Int)))).bind fun x4 =>
     some (wI6 ((wI6 ((0 : Int) + (16 : Int))) + (wI6 x4)))
   else
    bif (decide ((256 : Int) ≤ x)) then
     (gi qcW (wU1 (qdG .u64 x (8 : Int)))).bind fun x4 =>
     some (wI6 ((wI6 ((0 : Int) + (8 : Int))) + (wI6 x4)))
    else
     (gi qcW (wU1 x)).bind fun x4 =>
     some (wI6 ((0 : Int) + (wI6 x4)))
def q3L (K : Nat) (x : Int) : Option Int := qlZ K (.c0 x)
noncomputable def q4Z : Code := qcS prog 235
noncomputable def q7G : qnJ → List Fr
 | .c0 .. => [.code q4Z]
def q9D : qnJ → St
 | .c0 x => St.init [(ti .u64 x)]
def qy4 (cx : Cx) (c : qnJ) (r : Int) : Prop := Wk prog cx (qd8 prog 235 [[0]] (ti .i64 r)) (q7G c) .normal (q9D c)
abbrev qy5 (K : Nat) : Prop := ∀ c r, qlZ K c = some r → ∀ cx : Cx, cx.n = 25 → qy4 cx c r
theorem q9E {K} (_ : qy5 K) {cx} (hn : cx.n = 25) {x} {r} (h : qlZ (K + 1) (.c0 x) = some r) : qy4 cx (.c0 x) r := by
 rw [qlZ] at h
 rcases qa0 h with ⟨h1, h⟩ | ⟨h1, h⟩
 ·rcases qa0 h with ⟨h2, h⟩ | ⟨h2, h⟩
  ·rcases qa0 h with ⟨h3, h⟩ | ⟨h3, h⟩
   ·obtain ⟨x4, h5, h⟩ := qaU h
    have h := oinj h; subst h
    exact wkR [rg1, rg2, bTr, rg3, rg1, rg2, bTr, rg3, rg3, rg2, bTr, rg3, rg3, rgG [oo, oo, oo, opI (.sx x4), oo, oo, oo]] hn (aC h1 <| aC h2 <| aC h3 <| aC (qb5 h5) <| aC (qu9 h5 : qcW[(wU1 (qdG .u64 (qdG .u64 (qdG .u64 x (32 : Int)) (16 : Int)) (8 : Int))).toNat]? = some x4) <| aN)
   ·obtain ⟨x4, h5, h⟩ := qaU h
    have h := oinj h; subst h
    exact wkR [rg1, rg2, bTr, rg3, rg1, rg2, bTr, rg3, rg3, rg2, bFa, rgG [oo, oo, oo, opI (.sx x4), oo, oo, oo]] hn (aC h1 <| aC h2 <| aC h3 <| aC (qb5 h5) <| aC (qu9 h5 : qcW[(wU1 (qdG .u64 (qdG .u64 x (32 : Int)) (16 : Int))).toNat]? = some x4) <| aN)
  ·rcases qa0 h with ⟨h3, h⟩ | ⟨h3, h⟩
   ·obtain ⟨x4, h5, h⟩ := qaU h
    have h := oinj h; subst h
    exact wkR [rg1, rg2, bTr, rg3, rg1, rg2, bFa, rg2, bTr, rg3, rg3, rgG [oo, oo, oo, opI (.sx x4), oo, oo, oo]] hn (aC h1 <| aC h2 <| aC h3 <| aC (qb5 h5) <| aC (qu9 h5 : qcW[(wU1 (qdG .u64 (qdG .u64 x (32 : Int)) (8 : Int))).toNat]? = some x4) <| aN)
   ·obtain ⟨x4, h5, h⟩ := qaU h
    have h := oinj h; subst h
    exact wkR [rg1, rg2, bTr, rg3, rg1, rg2, bFa, rg2, bFa, rgG [oo, oo, oo, opI (.sx x4), oo, oo, oo]] hn (aC h1 <| aC h2 <| aC h3 <| aC (qb5 h5) <| aC (qu9 h5 : qcW[(wU1 (qdG .u64 x (32 : Int))).toNat]? = some x4) <| aN)
 ·rcases qa0 h with ⟨h2, h⟩ | ⟨h2, h⟩
  ·rcases qa0 h with ⟨h3, h⟩ | ⟨h3, h⟩
   ·obtain ⟨x4, h5, h⟩ := qaU h
    have h := oinj h; subst h
    exact wkR [rg1, rg2, bFa, rg2, bTr, rg3, rg3, rg2, bTr, rg3, rg3, rgG [oo, oo, oo, opI (.sx x4), oo, oo, oo]] hn (aC h1 <| aC h2 <| aC h3 <| aC (qb5 h5) <| aC (qu9 h5 : qcW[(wU1 (qdG .u64 (qdG .u64 x (16 : Int)) (8 : Int))).toNat]? = some x4) <| aN)
   ·obtain ⟨x4, h5, h⟩ := qaU h
    have h := oinj h; subst h
    exact wkR [rg1, rg2, bFa, rg2, bTr, rg3, rg3, rg2, bFa, rgG [oo, oo, oo, opI (.sx x4), oo, oo, oo]] hn (aC h1 <| aC h2 <| aC h3 <| aC (qb5 h5) <| aC (qu9 h5 : qcW[(wU1 (qdG .u64 x (16 : Int))).toNat]? = some x4) <| aN)
  ·rcases qa0 h with ⟨h3, h⟩ | ⟨h3, h⟩
   ·obtain ⟨x4, h5, h⟩ := qaU h
    have h := oinj h; subst h
    exact wkR [rg1, rg2, bFa, rg2, bFa, rg2, bTr, rg3, rg3, rgG [oo, oo, oo, opI (.sx x4), oo, oo, oo]] hn (aC h1 <| aC h2 <| aC h3 <| aC (qb5 h5) <| aC (qu9 h5 : qcW[(wU1 (qdG .u64 x (8 : Int))).toNat]? = some x4) <| aN)
   ·obtain ⟨x4, h5, h⟩ := qaU h
    have h := oinj h; subst h
    exact wkR [rg1, rg2, bFa, rg2, bFa, rg2, bFa, rgG [oo, oo, oo, opI (.sx x4), oo, oo, oo]] hn (aC h1 <| aC h2 <| aC h3 <| aC (qb5 h5) <| aC (qu9 h5 : qcW[(wU1 x).toNat]? = some x4) <| aN)
theorem qwM : ∀ K : Nat, qy5 K
 | 0, c, r, h => by rw [qlZ] at h; cases h
 | K + 1, .c0 .., r, h => fun cx hn => q9E (qwM K) hn h
theorem q3K {K : Nat} {x : Int} {r : Int} (h : q3L K x = some r) : qc7 prog 235 [(ti .u64 x)] (ti .i64 r) :=
 qbL [[0]] (by kernel_rfl) (by simp) fun cx hn => qwM K (.c0 x) r h cx hn
open Go.Proofs.Tryz (prog)
inductive qg5 where
 | c0 (x : Int)
def qfZ : Nat → qg5 → Option Int
 | 0, _ => none
 | K + 1, .c0 x =>
  (q3L K x).bind fun x1 =>
  some (wI6 ((64 : Int) - x1))
def qrX (K : Nat) (x : Int) : Option Int := qfZ K (.c0 x)
noncomputable def qu6 : Code := qcS prog 229
noncomputable def qvT : qg5 → List Fr
 | .c0 .. => [.code qu6]
def qwO : qg5 → St
 | .c0 x => St.init [(ti .u64 x)]
def qp8 (cx : Cx) (c : qg5) (r : Int) : Prop := Wk prog cx (qd8 prog 229 [[0]] (ti .i64 r)) (qvT c) .normal (qwO c)
abbrev qp9 (K : Nat) : Prop := ∀ c r, qfZ K c = some r → ∀ cx : Cx, cx.n = 6 → qp8 cx c r
theorem qwP {K} (_ : qp9 K) {cx} (hn : cx.n = 6) {x} {r} (h : qfZ (K + 1) (.c0 x) = some r) : qp8 cx (.c0 x) r := by
 rw [qfZ] at h
 obtain ⟨x1, h2, h⟩ := qaU h
 have h := oinj h; subst h
 exact wkR [rg1, rgG [oo, opI (.call [[0]] [(ti .u64 x)] (ti .i64 x1)), oo, oo]] hn (aC (q3K h2) <| aN)
theorem qoR : ∀ K : Nat, qp9 K
 | 0, c, r, h => by rw [qfZ] at h; cases h
 | K + 1, .c0 .., r, h => fun cx hn => qwP (qoR K) hn h
theorem quK {K : Nat} {x : Int} {r : Int} (h : qrX K x = some r) : qc7 prog 229 [(ti .u64 x)] (ti .i64 r) :=
 qbL [[0]] (by kernel_rfl) (by simp) fun cx hn => qoR K (.c0 x) r h cx hn
open Go.Proofs.Tryz (prog)
inductive qnL where
 | c0 (hi : Int) (lo : Int) (y : Int)
 | c1 (y : Int) (s : Int) (yn1 : Int) (yn0 : Int) (un32 : Int) (un1 : Int) (un0 : Int) (q1 : Int) (rhat : Int)
 | c2 (y : Int) (s : Int) (yn1 : Int) (yn0 : Int) (un32 : Int) (un1 : Int) (un0 : Int) (q1 : Int)
 | c3 (y : Int) (s : Int) (yn1 : Int) (yn0 : Int) (un0 : Int) (q1 : Int) (rhat : Int) (un21 : Int) (q0 : Int)
 | c4 (y : Int) (s : Int) (un0 : Int) (q1 : Int) (un21 : Int) (q0 : Int)
def qbW : Nat → qnL → Option (Int × Int)
 | 0, _ => none
 | K + 1, .c0 hi lo y =>
  bif (decide (y = (0 : Int))) then
   none
  else
   bif (decide (y ≤ hi)) then
    none
   else
    bif (decide (hi = (0 : Int))) then
     gd (y ≠ 0) <|
     gd (y ≠ 0) <|
     some ((wU6 (Int.tdiv lo y)), (Int.tmod lo y))
    else
     (qrX K y).bind fun x4 =>
     gd (0 ≤ (wU6 x4)) <|
     gd (0 ≤ (wU6 x4)) <|
     gd (0 ≤ (wU6 ((64 : Int) - (wU6 x4)))) <|
     gd (0 ≤ (wU6 x4)) <|
     gd ((qdG .u64 (qi3 .u64 y (wU6 x4)) (32 : Int)) ≠ 0) <|
     qbW K (.c1 (qi3 .u64 y (wU6 x4)) (wU6 x4) (qdG .u64 (qi3 .u64 y (wU6 x4)) (32 : Int)) (bits .and .u64 (qi3 .u64 y (wU6 x4)) (4294967295 : Int)) (bits .or .u64 (qi3 .u64 hi (wU6 x4)) (qdG .u64 lo (wU6 ((64 : Int) - (wU6 x4))))) (qdG .u64 (qi3 .u64 lo (wU6 x4)) (32 : Int)) (bits .and .u64 (qi3 .u64 lo (wU6 x4)) (4294967295 : Int)) (wU6 (Int.tdiv (bits .or .u64 (qi3 .u64 hi (wU6 x4)) (qdG .u64 lo (wU6 ((64 : Int) - (wU6 x4))))) (qdG .u64 (qi3 .u64 y (wU6 x4)) (32 : Int)))) (wU6 ((bits .or .u64 (qi3 .u64 hi (wU6 x4)) (qdG .u64 lo (wU6 ((64 : Int) - (wU6 x4))))) - (wU6 ((wU6 (Int.tdiv (bits .or .u64 (qi3 .u64 hi (wU6 x4)) (qdG .u64 lo (wU6 ((64 : Int) - (wU6 x4))))) (qdG .u64 (qi3 .u64 y (wU6 x4)) (32 : Int)))) * (qdG .u64 (qi3 .u64 y (wU6 x4)) (32 : Int)))))))
 | K + 1, .c1 y s yn1 yn0 un32 un1 un0 q1 rhat =>
  bif (decide ((4294967296 : Int) ≤ q1)) then
   bif (decide ((4294967296 : Int) ≤ (wU6 (rhat + yn1)))) then
    qbW K (.c2 y s yn1 yn0 un32 un1 un0 (wU6 (q1 - (1 : Int))))
   else
    qbW K (.c1 y s yn1 yn0 un32 un1 un0 (wU6 (q1 - (1 : Int))) (wU6 (rhat + yn1)))
  else
   bif (decide ((wU6 ((wU6 ((4294967296 : Int) * rhat)) + un1)) < (wU6 (q1 * yn0)))) then
    bif (decide ((4294967296 : Int) ≤ (wU6 (rhat + yn1)))) then
     qbW K (.c2 y s yn1 yn0 un32 un1 un0 (wU6 (q1 - (1 : Int))))
    else
     qbW K (.c1 y s yn1 yn0 un32 un1 un0 (wU6 (q1 - (1 : Int))) (wU6 (rhat + yn1)))
   else
    qbW K (.c2 y s yn1 yn0 un32 un1 un0 q1)
 | K + 1, .c2 y s yn1 yn0 un32 un1 un0 q1 =>
  gd (yn1 ≠ 0) <|
  qbW K (.c3 y s yn1 yn0 un0 q1 (wU6 ((wU6 ((wU6 ((wU6 (un32 * (4294967296 : Int))) + un1)) - (wU6 (q1 * y)))) - (wU6 ((wU6 (Int.tdiv (wU6 ((wU6 ((wU6 (un32 * (4294967296 : Int))) + un1)) - (wU6 (q1 * y)))) yn1)) * yn1)))) (wU6 ((wU6 ((wU6 (un32 * (4294967296 : Int))) + un1)) - (wU6 (q1 * y)))) (wU6 (Int.tdiv (wU6 ((wU6 ((wU6 (un32 * (4294967296 : Int))) + un1)) - (wU6 (q1 * y)))) yn1)))
 | K + 1, .c3 y s yn1 yn0 un0 q1 rhat un21 q0 =>
  bif (decide ((4294967296 : Int) ≤ q0)) then
   bif (decide ((4294967296 : Int) ≤ (wU6 (rhat + yn1)))) then
    qbW K (.c4 y s un0 q1 un21 (wU6 (q0 - (1 : Int))))
   else
    qbW K (.c3 y s yn1 yn0 un0 q1 (wU6 (rhat + yn1)) un21 (wU6 (q0 - (1 : Int))))
  else
   bif (decide ((wU6 ((wU6 ((4294967296 : Int) * rhat)) + un0)) < (wU6 (q0 * yn0)))) then
    bif (decide ((4294967296 : Int) ≤ (wU6 (rhat + yn1)))) then
     qbW K (.c4 y s un0 q1 un21 (wU6 (q0 - (1 : Int))))
    else
     qbW K (.c3 y s yn1 yn0 un0 q1 (wU6 (rhat + yn1)) un21 (wU6 (q0 - (1 : Int))))
   else
    qbW K (.c4 y s un0 q1 un21 q0)
 | _ + 1, .c4 y s un0 q1 un21 q0 =>
  gd (0 ≤ s) <|
  some ((wU6 ((wU6 (q1 * (4294967296 : Int))) + q0)), (qdG .u64 (wU6 ((wU6 ((wU6 (un21 * (4294967296 : Int))) + un0)) - (wU6 (q0 * y)))) s))
def qpB (K : Nat) (hi : Int) (lo : Int) (y : Int) : Option (Int × Int) := qbW K (.c0 hi lo y)
noncomputable def qe5 : Code := qcS prog 212
noncomputable def q7I : qnL → List Fr
 | .c0 .. => [.code qe5]
 | .c1 .. => [.code (.loop (atC qe5 [1,1,1,1,1,1,1,1,1,1,1,1,1,1,0,0,0])), .blk 0, .code (atC qe5 [1,1,1,1,1,1,1,1,1,1,1,1,1,1,1])]
 | .c2 .. => [.code (atC qe5 [1,1,1,1,1,1,1,1,1,1,1,1,1,1,1,0]), .code (atC qe5 [1,1,1,1,1,1,1,1,1,1,1,1,1,1,1,1])]
 | .c3 .. => [.code (.loop (atC qe5 [1,1,1,1,1,1,1,1,1,1,1,1,1,1,1,1,1,1,0,0,0])), .blk 2, .code (atC qe5 [1,1,1,1,1,1,1,1,1,1,1,1,1,1,1,1,1,1,1])]
 | .c4 .. => [.code (atC qe5 [1,1,1,1,1,1,1,1,1,1,1,1,1,1,1,1,1,1,1,0]), .code (atC qe5 [1,1,1,1,1,1,1,1,1,1,1,1,1,1,1,1,1,1,1,1])]
def q9I : qnL → St
 | .c0 hi lo y => St.init [(ti .u64 hi), (ti .u64 lo), (ti .u64 y)]
 | .c1 y s yn1 yn0 un32 un1 un0 q1 rhat => ⟨[(2, vi .u64 y), (8, vi .u64 s), (9, vi .u64 yn1), (10, vi .u64 yn0), (11, vi .u64 un32), (13, vi .u64 un1), (14, vi .u64 un0), (15, vi .u64 q1), (16, vi .u64 rhat)], [], []⟩
 | .c2 y s yn1 yn0 un32 un1 un0 q1 => ⟨[(2, vi .u64 y), (8, vi .u64 s), (9, vi .u64 yn1), (10, vi .u64 yn0), (11, vi .u64 un32), (13, vi .u64 un1), (14, vi .u64 un0), (15, vi .u64 q1)], [], []⟩
 | .c3 y s yn1 yn0 un0 q1 rhat un21 q0 => ⟨[(2, vi .u64 y), (8, vi .u64 s), (9, vi .u64 yn1), (10, vi .u64 yn0), (14, vi .u64 un0), (15, vi .u64 q1), (16, vi .u64 rhat), (17, vi .u64 un21), (18, vi .u64 q0)], [], []⟩
 | .c4 y s un0 q1 un21 q0 => ⟨[(2, vi .u64 y), (8, vi .u64 s), (14, vi .u64 un0), (15, vi .u64 q1), (17, vi .u64 un21), (18, vi .u64 q0)], [], []⟩
def qkO (cx : Cx) (c : qnL) (r : (Int × Int)) : Prop := Wk prog cx (qd8 prog 212 [[0], [0]] (TV.tup [(false, [(T.int .u64 r.1)]), (false, [(T.int .u64 r.2)])])) (q7I c) .normal (q9I c)
abbrev qkP (K : Nat) : Prop := ∀ c r, qbW K c = some r → ∀ cx : Cx, cx.n = 135 → qkO cx c r
theorem q9O {K} (ih : qkP K) {cx} (hn : cx.n = 135) {hi lo y} {r} (h : qbW (K + 1) (.c0 hi lo y) = some r) : qkO cx (.c0 hi lo y) r := by
 rw [qbW] at h
 rcases qa0 h with ⟨h1, h⟩ | ⟨h1, h⟩
 ·cases h
 ·rcases qa0 h with ⟨h2, h⟩ | ⟨h2, h⟩
  ·cases h
  ·rcases qa0 h with ⟨h3, h⟩ | ⟨h3, h⟩
   ·obtain ⟨h4, h⟩ := qbV h
    obtain ⟨h5, h⟩ := qbV h
    have h := oinj h; subst h
    exact wkR [rg2, rg2, bFa, rg3, bFa, rg2, bTr, .draw [.p, .p, .dv, .p, .p, .dv, .p] [.op .p]] hn (aC h1 <| aC h2 <| aC h3 <| aC h4 <| aC h5 <| aN)
   ·obtain ⟨x4, h5, h⟩ := qaU h
    obtain ⟨h6, h⟩ := qbV h
    obtain ⟨h7, h⟩ := qbV h
    obtain ⟨h8, h⟩ := qbV h
    obtain ⟨h9, h⟩ := qbV h
    obtain ⟨h10, h⟩ := qbV h
    exact wkG [rg2, rg2, bFa, rg3, bFa, rg2, bFa, rgG [oo, opI (.call [[0]] [(ti .u64 y)] (ti .i64 x4)), oo, oo], rgG [oo, oo, .op .dv, oo], rg3, rg3, rgG [oo, oo, .op .dv, oo, oo, oo, .op .dv, oo, oo], rgG [oo, oo, .op .dv, oo], rg3, rg3, rgG [oo, oo, .op .dv, oo], rg6, .pre [.keep [2,8,9,10,11,13,14,15,16] []]] hn (aC h1 <| aC h2 <| aC h3 <| aC (quK h5) <| aC h6 <| aC h7 <| aC h8 <| aC h9 <| aC h10 <| aN) (ih _ _ h cx hn)
theorem q9N {K} (ih : qkP K) {cx} (hn : cx.n = 135) {y s yn1 yn0 un32 un1 un0 q1 rhat} {r} (h : qbW (K + 1) (.c1 y s yn1 yn0 un32 un1 un0 q1 rhat) = some r) : qkO cx (.c1 y s yn1 yn0 un32 un1 un0 q1 rhat) r := by
 rw [qbW] at h
 rcases qa0 h with ⟨h1, h⟩ | ⟨h1, h⟩
 ·rcases qa0 h with ⟨h2, h⟩ | ⟨h2, h⟩
  ·exact wkG [.go, rgG [oo, oo, oo, .sb 69 true, oo, oo, oo, oo, oo, oo, oo, oo, oo], bTr, rg3, rg4, rg2, bTr, .pre [.keep [2,8,9,10,11,13,14,15] []]] hn (aC h1 <| aC rt <| aC h2 <| aN) (ih _ _ h cx hn)
  ·exact wkG [.go, rgG [oo, oo, oo, .sb 69 true, oo, oo, oo, oo, oo, oo, oo, oo, oo], bTr, rg3, rg4, rg2, bFa, .pre [.keep [2,8,9,10,11,13,14,15,16] []]] hn (aC h1 <| aC rt <| aC h2 <| aN) (ih _ _ h cx hn)
 ·rcases qa0 h with ⟨h2, h⟩ | ⟨h2, h⟩
  ·rcases qa0 h with ⟨h3, h⟩ | ⟨h3, h⟩
   ·exact wkG [.go, rgG [oo, oo, oo, .sb 69 false, oo, oo, oo, oo, oo, oo, oo, oo, oo], bTr, rg3, rg4, rg2, bTr, .pre [.keep [2,8,9,10,11,13,14,15] []]] hn (aC h1 <| aC h2 <| aC h3 <| aN) (ih _ _ h cx hn)
   ·exact wkG [.go, rgG [oo, oo, oo, .sb 69 false, oo, oo, oo, oo, oo, oo, oo, oo, oo], bTr, rg3, rg4, rg2, bFa, .pre [.keep [2,8,9,10,11,13,14,15,16] []]] hn (aC h1 <| aC h2 <| aC h3 <| aN) (ih _ _ h cx hn)
  ·exact wkG [.go, rgG [oo, oo, oo, .sb 69 false, oo, oo, oo, oo, oo, oo, oo, oo, oo], bFa, .pre [.keep [2,8,9,10,11,13,14,15] []]] hn (aC h1 <| aC h2 <| aN) (ih _ _ h cx hn)
theorem q9M {K} (ih : qkP K) {cx} (hn : cx.n = 135) {y s yn1 yn0 un32 un1 un0 q1} {r} (h : qbW (K + 1) (.c2 y s yn1 yn0 un32 un1 un0 q1) = some r) : qkO cx (.c2 y s yn1 yn0 un32 un1 un0 q1) r := by
 rw [qbW] at h
 obtain ⟨h1, h⟩ := qbV h
 exact wkG [rgG [oo, oo, oo, oo, oo, oo, oo, oo, oo], rgG [oo, oo, .op .dv, oo], rg6, .pre [.keep [2,8,9,10,14,15,16,17,18] []]] hn (aC h1 <| aN) (ih _ _ h cx hn)
theorem q9L {K} (ih : qkP K) {cx} (hn : cx.n = 135) {y s yn1 yn0 un0 q1 rhat un21 q0} {r} (h : qbW (K + 1) (.c3 y s yn1 yn0 un0 q1 rhat un21 q0) = some r) : qkO cx (.c3 y s yn1 yn0 un0 q1 rhat un21 q0) r := by
 rw [qbW] at h
 rcases qa0 h with ⟨h1, h⟩ | ⟨h1, h⟩
 ·rcases qa0 h with ⟨h2, h⟩ | ⟨h2, h⟩
  ·exact wkG [.go, rgG [oo, oo, oo, .sb 104 true, oo, oo, oo, oo, oo, oo, oo, oo, oo], bTr, rg3, rg4, rg2, bTr, .pre [.keep [2,8,14,15,17,18] []]] hn (aC h1 <| aC rt <| aC h2 <| aN) (ih _ _ h cx hn)
  ·exact wkG [.go, rgG [oo, oo, oo, .sb 104 true, oo, oo, oo, oo, oo, oo, oo, oo, oo], bTr, rg3, rg4, rg2, bFa, .pre [.keep [2,8,9,10,14,15,16,17,18] []]] hn (aC h1 <| aC rt <| aC h2 <| aN) (ih _ _ h cx hn)
 ·rcases qa0 h with ⟨h2, h⟩ | ⟨h2, h⟩
  ·rcases qa0 h with ⟨h3, h⟩ | ⟨h3, h⟩
   ·exact wkG [.go, rgG [oo, oo, oo, .sb 104 false, oo, oo, oo, oo, oo, oo, oo, oo, oo], bTr, rg3, rg4, rg2, bTr, .pre [.keep [2,8,14,15,17,18] []]] hn (aC h1 <| aC h2 <| aC h3 <| aN) (ih _ _ h cx hn)
   ·exact wkG [.go, rgG [oo, oo, oo, .sb 104 false, oo, oo, oo, oo, oo, oo, oo, oo, oo], bTr, rg3, rg4, rg2, bFa, .pre [.keep [2,8,9,10,14,15,16,17,18] []]] hn (aC h1 <| aC h2 <| aC h3 <| aN) (ih _ _ h cx hn)
  ·exact wkG [.go, rgG [oo, oo, oo, .sb 104 false, oo, oo, oo, oo, oo, oo, oo, oo, oo], bFa, .pre [.keep [2,8,14,15,17,18] []]] hn (aC h1 <| aC h2 <| aN) (ih _ _ h cx hn)
theorem q9K {K} (_ : qkP K) {cx} (hn : cx.n = 135) {y s un0 q1 un21 q0} {r} (h : qbW (K + 1) (.c4 y s un0 q1 un21 q0) = some r) : qkO cx (.c4 y s un0 q1 un21 q0) r := by
 rw [qbW] at h
 obtain ⟨h1, h⟩ := qbV h
 have h := oinj h; subst h
 exact wkR [rgG [oo, oo, oo, oo, oo, oo, oo, oo, oo, oo, oo, oo, oo, .op .dv, oo, oo]] hn (aC h1 <| aN)
theorem qiT : ∀ K : Nat, qkP K
 | 0, c, r, h => by rw [qbW] at h; cases h
 | K + 1, .c0 .., r, h => fun cx hn => q9O (qiT K) hn h
 | K + 1, .c1 .., r, h => fun cx hn => q9N (qiT K) hn h
 | K + 1, .c2 .., r, h => fun cx hn => q9M (qiT K) hn h
 | K + 1, .c3 .., r, h => fun cx hn => q9L (qiT K) hn h
 | K + 1, .c4 .., r, h => fun cx hn => q9K (qiT K) hn h
theorem quL {K : Nat} {hi : Int} {lo : Int} {y : Int} {r : (Int × Int)} (h : qpB K hi lo y = some r) : qc7 prog 212 [(ti .u64 hi), (ti .u64 lo), (ti .u64 y)] (TV.tup [(false, [(T.int .u64 r.1)]), (false, [(T.int .u64 r.2)])]) :=
 qbL [[0], [0]] (by kernel_rfl) (by simp) fun cx hn => qiT K (.c0 hi lo y) r h cx hn
open Go.Proofs.Tryz (prog)
inductive qnK where
 | c0 (x : Int)
def qfN : Nat → qnK → Option Int
 | 0, _ => none
 | _ + 1, .c0 x =>
  bif (decide ((65536 : Int) ≤ x)) then
   bif (decide ((256 : Int) ≤ (qdG .u32 x (16 : Int)))) then
    (gi qcW (wU1 (qdG .u32 (qdG .u32 x (16 : Int)) (8 : Int)))).bind fun x3 =>
    some (wI6 ((wI6 ((16 : Int) + (8 : Int))) + (wI6 x3)))
   else
    (gi qcW (wU1 (qdG .u32 x (16 : Int)))).bind fun x3 =>
    some (wI6 ((16 : Int) + (wI6 x3)))
  else
   bif (decide ((256 : Int) ≤ x)) then
    (gi qcW (wU1 (qdG .u32 x (8 : Int)))).bind fun x3 =>
    some (wI6 ((wI6 ((0 : Int) + (8 : Int))) + (wI6 x3)))
   else
    (gi qcW (wU1 x)).bind fun x3 =>
    some (wI6 ((0 : Int) + (wI6 x3)))
def qk0 (K : Nat) (x : Int) : Option Int := qfN K (.c0 x)
noncomputable def q40 : Code := qcS prog 228
noncomputable def q7H : qnK → List Fr
 | .c0 .. => [.code q40]
def q9F : qnK → St
 | .c0 x => St.init [(ti .u32 x)]
def qy6 (cx : Cx) (c : qnK) (r : Int) : Prop := Wk prog cx (qd8 prog 228 [[0]] (ti .i64 r)) (q7H c) .normal (q9F c)
abbrev qy7 (K : Nat) : Prop := ∀ c r, qfN K c = some r → ∀ cx : Cx, cx.n = 19 → qy6 cx c r
theorem q9H {K} (_ : qy7 K) {cx} (hn : cx.n = 19) {x} {r} (h : qfN (K + 1) (.c0 x) = some r) : qy6 cx (.c0 x) r := by
 rw [qfN] at h
 rcases qa0 h with ⟨h1, h⟩ | ⟨h1, h⟩
 ·rcases qa0 h with ⟨h2, h⟩ | ⟨h2, h⟩
  ·obtain ⟨x3, h4, h⟩ := qaU h
   have h := oinj h; subst h
   exact wkR [rg1, rg2, bTr, rg3, rg1, rg2, bTr, rg3, rg3, rgG [oo, oo, oo, opI (.sx x3), oo, oo, oo]] hn (aC h1 <| aC h2 <| aC (qb5 h4) <| aC (qu9 h4 : qcW[(wU1 (qdG .u32 (qdG .u32 x (16 : Int)) (8 : Int))).toNat]? = some x3) <| aN)
  ·obtain ⟨x3, h4, h⟩ := qaU h
   have h := oinj h; subst h
   exact wkR [rg1, rg2, bTr, rg3, rg1, rg2, bFa, rgG [oo, oo, oo, opI (.sx x3), oo, oo, oo]] hn (aC h1 <| aC h2 <| aC (qb5 h4) <| aC (qu9 h4 : qcW[(wU1 (qdG .u32 x (16 : Int))).toNat]? = some x3) <| aN)
 ·rcases qa0 h with ⟨h2, h⟩ | ⟨h2, h⟩
  ·obtain ⟨x3, h4, h⟩ := qaU h
   have h := oinj h; subst h
   exact wkR [rg1, rg2, bFa, rg2, bTr, rg3, rg3, rgG [oo, oo, oo, opI (.sx x3), oo, oo, oo]] hn (aC h1 <| aC h2 <| aC (qb5 h4) <| aC (qu9 h4 : qcW[(wU1 (qdG .u32 x (8 : Int))).toNat]? = some x3) <| aN)
  ·obtain ⟨x3, h4, h⟩ := qaU h
   have h := oinj h; subst h
   exact wkR [rg1, rg2, bFa, rg2, bFa, rgG [oo, oo, oo, opI (.sx x3), oo, oo, oo]] hn (aC h1 <| aC h2 <| aC (qb5 h4) <| aC (qu9 h4 : qcW[(wU1 x).toNat]? = some x3) <| aN)
theorem qwN : ∀ K : Nat, qy7 K
 | 0, c, r, h => by rw [qfN] at h; cases h
 | K + 1, .c0 .., r, h => fun cx hn => q9H (qwN K) hn h
theorem q3M {K : Nat} {x : Int} {r : Int} (h : qk0 K x = some r) : qc7 prog 228 [(ti .u32 x)] (ti .i64 r) :=
 qbL [[0]] (by kernel_rfl) (by simp) fun cx hn => qwN K (.c0 x) r h cx hn
open Go.Proofs.Tryz (prog)
inductive qg6 where
 | c0 (x : Int)
def qe9 : Nat → qg6 → Option Int
 | 0, _ => none
 | K + 1, .c0 x =>
  (qk0 K x).bind fun x1 =>
  some (wI6 ((32 : Int) - x1))
def qjN (K : Nat) (x : Int) : Option Int := qe9 K (.c0 x)
noncomputable def qu7 : Code := qcS prog 211
noncomputable def qvU : qg6 → List Fr
 | .c0 .. => [.code qu7]
def qwQ : qg6 → St
 | .c0 x => St.init [(ti .u32 x)]
def qqA (cx : Cx) (c : qg6) (r : Int) : Prop := Wk prog cx (qd8 prog 211 [[0]] (ti .i64 r)) (qvU c) .normal (qwQ c)
abbrev qqB (K : Nat) : Prop := ∀ c r, qe9 K c = some r → ∀ cx : Cx, cx.n = 6 → qqA cx c r
theorem qwS {K} (_ : qqB K) {cx} (hn : cx.n = 6) {x} {r} (h : qe9 (K + 1) (.c0 x) = some r) : qqA cx (.c0 x) r := by
 rw [qe9] at h
 obtain ⟨x1, h2, h⟩ := qaU h
 have h := oinj h; subst h
 exact wkR [rg1, rgG [oo, opI (.call [[0]] [(ti .u32 x)] (ti .i64 x1)), oo, oo]] hn (aC (q3M h2) <| aN)
theorem qoS : ∀ K : Nat, qqB K
 | 0, c, r, h => by rw [qe9] at h; cases h
 | K + 1, .c0 .., r, h => fun cx hn => qwS (qoS K) hn h
theorem qm4 {K : Nat} {x : Int} {r : Int} (h : qjN K x = some r) : qc7 prog 211 [(ti .u32 x)] (ti .i64 r) :=
 qbL [[0]] (by kernel_rfl) (by simp) fun cx hn => qoS K (.c0 x) r h cx hn
open Go.Proofs.Tryz (prog)
inductive qnM where
 | c0 (hi : Int) (lo : Int) (y : Int)
def qjO : Nat → qnM → Option (Int × Int)
 | 0, _ => none
 | _ + 1, .c0 hi lo y =>
  bif (!decide (y = (0 : Int))) then
   bif (decide (y ≤ hi)) then
    none
   else
    gd ((wU6 y) ≠ 0) <|
    gd ((wU6 y) ≠ 0) <|
    some ((wU3 (wU6 (Int.tdiv (bits .or .u64 (qi3 .u64 (wU6 hi) (32 : Int)) (wU6 lo)) (wU6 y)))), (wU3 (Int.tmod (bits .or .u64 (qi3 .u64 (wU6 hi) (32 : Int)) (wU6 lo)) (wU6 y))))
  else
   gd ((wU6 y) ≠ 0) <|
   gd ((wU6 y) ≠ 0) <|
   some ((wU3 (wU6 (Int.tdiv (bits .or .u64 (qi3 .u64 (wU6 hi) (32 : Int)) (wU6 lo)) (wU6 y)))), (wU3 (Int.tmod (bits .or .u64 (qi3 .u64 (wU6 hi) (32 : Int)) (wU6 lo)) (wU6 y))))
def qs2 (K : Nat) (hi : Int) (lo : Int) (y : Int) : Option (Int × Int) := qjO K (.c0 hi lo y)
noncomputable def q41 : Code := qcS prog 218
noncomputable def q7J : qnM → List Fr
 | .c0 .. => [.code q41]
def q9P : qnM → St
 | .c0 hi lo y => St.init [(ti .u32 hi), (ti .u32 lo), (ti .u32 y)]
def qy8 (cx : Cx) (c : qnM) (r : (Int × Int)) : Prop := Wk prog cx (qd8 prog 218 [[0], [0]] (TV.tup [(false, [(T.int .u32 r.1)]), (false, [(T.int .u32 r.2)])])) (q7J c) .normal (q9P c)
abbrev qy9 (K : Nat) : Prop := ∀ c r, qjO K c = some r → ∀ cx : Cx, cx.n = 33 → qy8 cx c r
theorem q9R {K} (_ : qy9 K) {cx} (hn : cx.n = 33) {hi lo y} {r} (h : qjO (K + 1) (.c0 hi lo y) = some r) : qy8 cx (.c0 hi lo y) r := by
 rw [qjO] at h
 rcases qa0 h with ⟨h1, h⟩ | ⟨h1, h⟩
 ·rcases qa0 h with ⟨h2, h⟩ | ⟨h2, h⟩
  ·cases h
  ·obtain ⟨h3, h⟩ := qbV h
   obtain ⟨h4, h⟩ := qbV h
   have h := oinj h; subst h
   exact wkR [rg2, rgG [oo, oo, oo, .sb 11 true, oo, oo, oo, oo], bFa, rgG [oo, oo, oo, oo, oo, oo, oo], .draw [.p, .p, .p, .dv, .p, .p, .p, .p, .dv, .p, .p] [.op .p]] hn (aC h1 <| aC h2 <| aC h3 <| aC h4 <| aN)
 ·obtain ⟨h2, h⟩ := qbV h
  obtain ⟨h3, h⟩ := qbV h
  have h := oinj h; subst h
  exact wkR [rg2, rgG [oo, oo, oo, .sb 11 false, oo, oo, oo, oo], bFa, rgG [oo, oo, oo, oo, oo, oo, oo], .draw [.p, .p, .p, .dv, .p, .p, .p, .p, .dv, .p, .p] [.op .p]] hn (aC h1 <| aC rf <| aC h2 <| aC h3 <| aN)
theorem qwT : ∀ K : Nat, qy9 K
 | 0, c, r, h => by rw [qjO] at h; cases h
 | K + 1, .c0 .., r, h => fun cx hn => q9R (qwT K) hn h
theorem q3N {K : Nat} {hi : Int} {lo : Int} {y : Int} {r : (Int × Int)} (h : qs2 K hi lo y = some r) : qc7 prog 218 [(ti .u32 hi), (ti .u32 lo), (ti .u32 y)] (TV.tup [(false, [(T.int .u32 r.1)]), (false, [(T.int .u32 r.2)])]) :=
 qbL [[0], [0]] (by kernel_rfl) (by simp) fun cx hn => qwT K (.c0 hi lo y) r h cx hn
open Go.Proofs.Tryz (prog)
inductive qmB where
 | c0 (a : (List Int)) (d : Int)
 | c1 (r16 : (List Int)) (a : (List Int)) (d : Int) (rest : Int) (i : Int)
def qd4 : Nat → qmB → Option ((List Int) × Int × Bool)
 | 0, _ => none
 | K + 1, .c0 a d =>
  bif (decide (d = (0 : Int))) then
   some ([], (0 : Int), false)
  else
   (qc9 K a).bind fun x2 =>
   gd (0 ≤ (x2.length : Int) ∧ (x2.length : Int) ≤ (x2.length : Int) ∧ (4 : Int) * (x2.length : Int) ≤ 140737488355328) <|
   qd4 K (.c1 (List.replicate (x2.length : Int).toNat ((0 : Int) : Int)) x2 d (0 : Int) (wI6 ((x2.length : Int) - (1 : Int))))
 | K + 1, .c1 r16 a d rest i =>
  bif (decide ((0 : Int) ≤ i)) then
   (gi a i).bind fun x2 =>
   (qs2 K rest x2 d).bind fun x4 =>
   (gi r16 i).bind fun _ =>
   qd4 K (.c1 (r16.set (i.toNat) x4.1) a d x4.2 (wI6 (i - (1 : Int))))
  else
   (qc9 K r16).bind fun x2 =>
   some (x2, rest, true)
def qrB (K : Nat) (a : (List Int)) (d : Int) : Option ((List Int) × Int × Bool) := qd4 K (.c0 a d)
noncomputable def qo9 : Code := qcS prog 192
noncomputable def q4W : qmB → List Fr
 | .c0 .. => [.code qo9]
 | .c1 .. => [.code (.loop (atC qo9 [1,1,1,1,1,0,1,0,0])), .blk 0, .code (atC qo9 [1,1,1,1,1,1])]
def q7A : qmB → St
 | .c0 a d => St.init [(tl 1 a qaF), (ti .u32 d)]
 | .c1 r16 a d rest i => ⟨[(0, vl 1 a qaF), (1, vi .u32 d), (7, .c (C.row 16 0 r16.length)), (8, vi .u32 rest), (9, vi .i64 i)], [(16, .row 143 1 (r16.map qaF) 0)], []⟩
def qsW (cx : Cx) (c : qmB) (r : ((List Int) × Int × Bool)) : Prop := Wk prog cx (qd8 prog 192 [[1], [0], [0]] (TV.tup [(false, [(T.sl 1 (r.1.map qaF))]), (false, [(T.int .u32 r.2.1)]), (false, [(T.bool r.2.2)])])) (q4W c) .normal (q7A c)
abbrev qsX (K : Nat) : Prop := ∀ c r, qd4 K c = some r → ∀ cx : Cx, cx.n = 40 → qsW cx c r
theorem q7D {K} (ih : qsX K) {cx} (hn : cx.n = 40) {a d} {r} (h : qd4 (K + 1) (.c0 a d) = some r) : qsW cx (.c0 a d) r := by
 rw [qd4] at h
 rcases qa0 h with ⟨h1, h⟩ | ⟨h1, h⟩
 ·have h := oinj h; subst h
  exact wkR [rg3, rg2, bTr, rg3] hn (aC h1 <| aN)
 ·obtain ⟨x2, h3, h⟩ := qaU h
  obtain ⟨h4, h⟩ := qbV h
  exact wkG [rg3, rg2, bFa, rgG [oo, opI (.call [[1]] [(tl 1 a qaF)] (tl 1 x2 qaF)), oo], rgG [oo, opI (.ln (x2.length : Int)), opI (.mk (qaF (0 : Int)) ((List.replicate (x2.length : Int).toNat ((0 : Int) : Int)).map qaF)), oo], rg1, rgG [oo, opI (.ln (x2.length : Int)), oo, oo], .pre [.rl 7 0 (List.replicate (x2.length : Int).toNat ((0 : Int) : Int)).length, .keep [0,1,7,8,9] [16]]] hn (aC h1 <| aC (qa5 h3) <| aC (qdI x2 qaF) <| aC h4.1 <| aC h4.2.1 <| aC h4.2.2 <| aC (quZ _ _ _ : List.replicate (x2.length : Int).toNat (qaF (0 : Int)) = (List.replicate (x2.length : Int).toNat ((0 : Int) : Int)).map qaF) <| aC (qdI x2 qaF) <| aC r0 <| aC (by simp : (x2.length : Int).toNat = (List.replicate (x2.length : Int).toNat ((0 : Int) : Int)).length) <| aN) (ih _ _ h cx hn)
theorem q7C {K} (ih : qsX K) {cx} (hn : cx.n = 40) {r16 a d rest i} {r} (h : qd4 (K + 1) (.c1 r16 a d rest i) = some r) : qsW cx (.c1 r16 a d rest i) r := by
 rw [qd4] at h
 rcases qa0 h with ⟨h1, h⟩ | ⟨h1, h⟩
 ·obtain ⟨x2, h3, h⟩ := qaU h
  obtain ⟨x4, h5, h⟩ := qaU h
  obtain ⟨x6, h7, h⟩ := qaU h
  exact wkG [.go, rg2, bTr, rgG [oo, oo, oo, oo, oo, opI (.ix (qaF x2)), oo, oo, opI (.call [[0], [0], [0]] [(ti .u32 rest), (ti .u32 x2), (ti .u32 d)] (TV.tup [(false, [(T.int .u32 x4.1)]), (false, [(T.int .u32 x4.2)])])), oo, oo, oo, .op .ir, opI (.st (qaF x6) ((r16.set (i.toNat) x4.1).map qaF)), oo], rg3, .pre [.rl 7 0 (r16.set (i.toNat) x4.1).length, .keep [0,1,7,8,9] [16]]] hn (aC h1 <| aC (qb5 h3) <| aC (qfP qaF h3) <| aC (q3N h5) <| aC (qb5 h7) <| aC (qc1 h7 (by simp) : i < ((r16.length : Nat) : Int)) <| aC (qc2 qaF h7 : (r16.map qaF)[(0 + i.toNat)]? = some (qaF x6)) <| aC (qe8 _ _ x4.1 _ : (r16.map qaF).set (0 + i.toNat) (qdH (qaF x6) 0 [(T.int .u32 x4.1)]) = (r16.set (i.toNat) x4.1).map qaF) <| aC (Nat.zero_le _ : 0 ≤ (0 + i.toNat)) <| aC r0 <| aC (by simp : r16.length = (r16.set (i.toNat) x4.1).length) <| aN) (ih _ _ h cx hn)
 ·obtain ⟨x2, h3, h⟩ := qaU h
  have h := oinj h; subst h
  exact wkR [.go, rg2, bFa, rgG [oo, .snap 37 (max 0 (0 + r16.length)) (r16.map qaF), opI (.call [[1]] [(tl 1 r16 qaF)] (tl 1 x2 qaF)), oo, oo, oo, oo]] hn (aC h1 <| aC (qeH _ _ _ (by simp) : ((r16.map qaF).drop 0).take r16.length = r16.map qaF) <| aC (rfl : (max 0 (0 + r16.length)) = (max 0 (0 + r16.length))) <| aC (qa5 h3) <| aN)
theorem qqG : ∀ K : Nat, qsX K
 | 0, c, r, h => by rw [qd4] at h; cases h
 | K + 1, .c0 .., r, h => fun cx hn => q7D (qqG K) hn h
 | K + 1, .c1 .., r, h => fun cx hn => q7C (qqG K) hn h
theorem q14 {K : Nat} {a : (List Int)} {d : Int} {r : ((List Int) × Int × Bool)} (h : qrB K a d = some r) : qc7 prog 192 [(tl 1 a qaF), (ti .u32 d)] (TV.tup [(false, [(T.sl 1 (r.1.map qaF))]), (false, [(T.int .u32 r.2.1)]), (false, [(T.bool r.2.2)])]) :=
 qbL [[1], [0], [0]] (by kernel_rfl) (by simp) fun cx hn => qqG K (.c0 a d) r h cx hn
open Go.Proofs.Tryz (prog)
inductive qhM where
 | c0 (row : (List Int))
 | c1 (r28 : (List Int)) (n : Int)
 | c2 (r28 : (List Int)) (n : Int)
def qb0 : Nat → qhM → Option (Option Nat)
 | 0, _ => none
 | K + 1, .c0 row =>
  qb0 K (.c1 row ((row.length : Nat) : Int))
 | K + 1, .c1 r28 n =>
  bif (decide ((0 : Int) < n)) then
   (gi r28 (wI6 (n - (1 : Int)))).bind fun x2 =>
   bif (decide (x2 = (0 : Int))) then
    qb0 K (.c1 r28 (wI6 (n - (1 : Int))))
   else
    qb0 K (.c2 r28 n)
  else
   qb0 K (.c2 r28 n)
 | _ + 1, .c2 r28 n =>
  bif (decide (n = (0 : Int))) then
   some none
  else
   gd (0 ≤ n ∧ 0 ≤ n.toNat ∧ n.toNat ≤ r28.length ∧ (0 = 0 ∨ 0 < r28.length)) <|
   some (some (n.toNat - 0))
def qkZ (K : Nat) (row : (List Int)) : Option (Option Nat) := qb0 K (.c0 row)
noncomputable def qfR : Code := qm5 prog 105
noncomputable def qz3 : qhM → List Fr
 | .c0 .. => [.code qfR]
 | .c1 .. => [.code (.loop (atC qfR [1,1,0,0,0])), .blk 0, .code (atC qfR [1,1,1])]
 | .c2 .. => [.code (atC qfR [1,1,1,0,0]), .code (atC qfR [1,1,1,0,1]), .code (atC qfR [1,1,1,1])]
def q10 (H : List (Nat × Blk)) (exs : List V) : qhM → St
 | .c0 row => ⟨idxV 0 [.c (C.row 28 0 row.length)], [(28, .row 143 1 (row.map qaF) 0)] ++ H, exs⟩
 | .c1 r28 n => ⟨[(0, .c (C.row 28 0 r28.length)), (3, vi .i64 n)], [(28, .row 143 1 (r28.map qaF) 0)] ++ H, exs⟩
 | .c2 r28 n => ⟨[(0, .c (C.row 28 0 r28.length)), (3, vi .i64 n)], [(28, .row 143 1 (r28.map qaF) 0)] ++ H, exs⟩
def qz2 : qhM → List Int
 | .c0 row => row
 | .c1 r28 _ => r28
 | .c2 r28 _ => r28
def qlX (cx : Cx) (H : List (Nat × Blk)) (exs : List V) (c : qhM) (r : (Option Nat)) : Prop := Wk prog cx (zlP prog 105 ([(28, .row 143 1 ((qz2 c).map qaF) 0)] ++ H) exs (zw0 28 r)) (qz3 c) .normal (q10 H exs c)
abbrev qlY (K : Nat) : Prop := ∀ c r, qb0 K c = some r → ∀ cx : Cx, cx.n = 23 → ∀ H exs, qlX cx H exs c r
theorem q13 {K} (ih : qlY K) {cx} (hn : cx.n = 23) (H : List (Nat × Blk)) (exs : List V) {row} {r} (h : qb0 (K + 1) (.c0 row) = some r) : qlX cx H exs (.c0 row) r := by
 rw [qb0] at h
 exact wkG [rg1, rg3, .pre [.rl 0 0 row.length, .keepT [0,3]]] hn (aC r0 <| aC (lq row) <| aN) (ih _ _ h cx hn H exs)
theorem q12 {K} (ih : qlY K) {cx} (hn : cx.n = 23) (H : List (Nat × Blk)) (exs : List V) {r28 n} {r} (h : qb0 (K + 1) (.c1 r28 n) = some r) : qlX cx H exs (.c1 r28 n) r := by
 rw [qb0] at h
 rcases qa0 h with ⟨h1, h⟩ | ⟨h1, h⟩
 ·obtain ⟨x2, h3, h⟩ := qaU h
  rcases qa0 h with ⟨h4, h⟩ | ⟨h4, h⟩
  ·exact wkG [.go, rgG [oo, oo, oo, .sb 8 true, oo, oo, oo, .op .ir, opI (.ld (qaF x2)), oo, oo], bTr, rg3, .pre [.rl 0 0 r28.length, .keepT [0,3]]] hn (aC h1 <| aC (qb5 h3) <| aC (qc1 h3 (by simp) : (wI6 (n - (1 : Int))) < ((r28.length : Nat) : Int)) <| aC (qc2 qaF h3 : (r28.map qaF)[(0 + (wI6 (n - (1 : Int))).toNat)]? = some (qaF x2)) <| aC h4 <| aC r0 <| aC (lq r28) <| aN) (ih _ _ h cx hn H exs)
  ·exact wkG [.go, rgG [oo, oo, oo, .sb 8 true, oo, oo, oo, .op .ir, opI (.ld (qaF x2)), oo, oo], bFa, .pre [.rl 0 0 r28.length, .keepT [0,3]]] hn (aC h1 <| aC (qb5 h3) <| aC (qc1 h3 (by simp) : (wI6 (n - (1 : Int))) < ((r28.length : Nat) : Int)) <| aC (qc2 qaF h3 : (r28.map qaF)[(0 + (wI6 (n - (1 : Int))).toNat)]? = some (qaF x2)) <| aC h4 <| aC r0 <| aC (lq r28) <| aN) (ih _ _ h cx hn H exs)
 ·exact wkG [.go, rgG [oo, oo, oo, .sb 8 false, oo, oo, oo, oo, oo, oo, oo], bFa, .pre [.rl 0 0 r28.length, .keepT [0,3]]] hn (aC h1 <| aC rf <| aC r0 <| aC (lq r28) <| aN) (ih _ _ h cx hn H exs)
theorem q11 {K} (_ : qlY K) {cx} (hn : cx.n = 23) (H : List (Nat × Blk)) (exs : List V) {r28 n} {r} (h : qb0 (K + 1) (.c2 r28 n) = some r) : qlX cx H exs (.c2 r28 n) r := by
 rw [qb0] at h
 rcases qa0 h with ⟨h1, h⟩ | ⟨h1, h⟩
 ·have h := oinj h; subst h
  exact qfK (fuel := 60) [rg2, bTr, rg1]
   _
   ((28, .row 143 1 (r28.map qaF) 0) :: H) hn (by kernel_rfl) (aC h1 <| aN) (fun _ => rfl)
 ·obtain ⟨h2, h⟩ := qbV h
  have h := oinj h; subst h
  exact qfK (fuel := 60) [rg2, bFa, rgG [oo, oo, opI (.slR 0 n.toNat 0 (n.toNat - 0)), oo]]
   _
   ((28, .row 143 1 (r28.map qaF) 0) :: H) hn (by kernel_rfl) (aC h1 <| aC r0 <| aC (⟨h2.1, rfl⟩ : 0 ≤ n ∧ n.toNat = n.toNat) <| aC h2.2.1 <| aC h2.2.2.1 <| aC h2.2.2.2 <| aC (rfl : 0 + 0 = 0) <| aC (rfl : n.toNat - 0 = (n.toNat - 0)) <| aN) (fun _ => rfl)
theorem qj6 : ∀ K : Nat, qlY K
 | 0, c, r, h => by rw [qb0] at h; cases h
 | K + 1, .c0 .., r, h => fun cx hn H exs => q13 (qj6 K) hn H exs h
 | K + 1, .c1 .., r, h => fun cx hn H exs => q12 (qj6 K) hn H exs h
 | K + 1, .c2 .., r, h => fun cx hn H exs => q11 (qj6 K) hn H exs h
theorem qiE {K : Nat} {row : List Int} {r : Option Nat} (h : qkZ K row = some r) : qk6 prog 105 [.c (C.row 28 0 row.length)] [(28, .row 143 1 (row.map qaF) 0)] [(28, .row 143 1 (row.map qaF) 0)] (zw0 28 r) :=
 qs8 (n := 23) (by kernel_rfl) (by simp) fun cx hn H exs => qj6 K (.c0 row) r h cx hn H exs
open Go.Proofs.Tryz (prog)
inductive qoO where
 | c0 (a : (List Int)) (n : Int)
 | c1 (r28 : (List Int)) (shift : Int) (low : Int) (i : Int)
def qeP : Nat → qoO → Option (Option (List Int))
 | 0, _ => none
 | K + 1, .c0 a n =>
  (qc9 K a).bind fun x1 =>
  bif (decide ((x1.length : Int) = (0 : Int))) then
   some none
  else
   gd (0 ≤ (wI6 ((wI6 ((wI6 (Int.tdiv (min (max n (0 : Int)) (16777216 : Int)) (32 : Int))) + (x1.length : Int))) + (1 : Int))) ∧ (wI6 ((wI6 ((wI6 (Int.tdiv (min (max n (0 : Int)) (16777216 : Int)) (32 : Int))) + (x1.length : Int))) + (1 : Int))) ≤ (wI6 ((wI6 ((wI6 (Int.tdiv (min (max n (0 : Int)) (16777216 : Int)) (32 : Int))) + (x1.length : Int))) + (1 : Int))) ∧ (4 : Int) * (wI6 ((wI6 ((wI6 (Int.tdiv (min (max n (0 : Int)) (16777216 : Int)) (32 : Int))) + (x1.length : Int))) + (1 : Int))) ≤ 140737488355328) <|
   gd (0 ≤ (wI6 (Int.tdiv (min (max n (0 : Int)) (16777216 : Int)) (32 : Int))) ∧ (wI6 (Int.tdiv (min (max n (0 : Int)) (16777216 : Int)) (32 : Int))).toNat ≤ (wI6 ((wI6 ((wI6 (Int.tdiv (min (max n (0 : Int)) (16777216 : Int)) (32 : Int))) + (x1.length : Int))) + (1 : Int))).toNat ∧ (wI6 ((wI6 ((wI6 (Int.tdiv (min (max n (0 : Int)) (16777216 : Int)) (32 : Int))) + (x1.length : Int))) + (1 : Int))).toNat ≤ (wI6 ((wI6 ((wI6 (Int.tdiv (min (max n (0 : Int)) (16777216 : Int)) (32 : Int))) + (x1.length : Int))) + (1 : Int))).toNat ∧ ((wI6 (Int.tdiv (min (max n (0 : Int)) (16777216 : Int)) (32 : Int))).toNat = 0 ∨ (wI6 (Int.tdiv (min (max n (0 : Int)) (16777216 : Int)) (32 : Int))).toNat < (wI6 ((wI6 ((wI6 (Int.tdiv (min (max n (0 : Int)) (16777216 : Int)) (32 : Int))) + (x1.length : Int))) + (1 : Int))).toNat)) <|
   gd ((0 + (wI6 (Int.tdiv (min (max n (0 : Int)) (16777216 : Int)) (32 : Int))).toNat) + ((wI6 ((wI6 ((wI6 (Int.tdiv (min (max n (0 : Int)) (16777216 : Int)) (32 : Int))) + (x1.length : Int))) + (1 : Int))).toNat - (wI6 (Int.tdiv (min (max n (0 : Int)) (16777216 : Int)) (32 : Int))).toNat) ≤ (List.replicate (wI6 ((wI6 ((wI6 (Int.tdiv (min (max n (0 : Int)) (16777216 : Int)) (32 : Int))) + (x1.length : Int))) + (1 : Int))).toNat ((0 : Int) : Int)).length) <|
   bif (decide ((0 : Int) < (Int.tmod (min (max n (0 : Int)) (16777216 : Int)) (32 : Int)))) then
    qeP K (.c1 (qhE (List.replicate (wI6 ((wI6 ((wI6 (Int.tdiv (min (max n (0 : Int)) (16777216 : Int)) (32 : Int))) + (x1.length : Int))) + (1 : Int))).toNat ((0 : Int) : Int)) (0 + (wI6 (Int.tdiv (min (max n (0 : Int)) (16777216 : Int)) (32 : Int))).toNat) ((wI6 ((wI6 ((wI6 (Int.tdiv (min (max n (0 : Int)) (16777216 : Int)) (32 : Int))) + (x1.length : Int))) + (1 : Int))).toNat - (wI6 (Int.tdiv (min (max n (0 : Int)) (16777216 : Int)) (32 : Int))).toNat) x1) (Int.tmod (min (max n (0 : Int)) (16777216 : Int)) (32 : Int)) (0 : Int) (wI6 (Int.tdiv (min (max n (0 : Int)) (16777216 : Int)) (32 : Int))))
   else
    (qkZ K (qhE (List.replicate (wI6 ((wI6 ((wI6 (Int.tdiv (min (max n (0 : Int)) (16777216 : Int)) (32 : Int))) + (x1.length : Int))) + (1 : Int))).toNat ((0 : Int) : Int)) (0 + (wI6 (Int.tdiv (min (max n (0 : Int)) (16777216 : Int)) (32 : Int))).toNat) ((wI6 ((wI6 ((wI6 (Int.tdiv (min (max n (0 : Int)) (16777216 : Int)) (32 : Int))) + (x1.length : Int))) + (1 : Int))).toNat - (wI6 (Int.tdiv (min (max n (0 : Int)) (16777216 : Int)) (32 : Int))).toNat) x1)).bind fun x9 => match x9 with
    | none =>
     some none
    | some n10 =>
     gd (n10 ≤ (qhE (List.replicate (wI6 ((wI6 ((wI6 (Int.tdiv (min (max n (0 : Int)) (16777216 : Int)) (32 : Int))) + (x1.length : Int))) + (1 : Int))).toNat ((0 : Int) : Int)) (0 + (wI6 (Int.tdiv (min (max n (0 : Int)) (16777216 : Int)) (32 : Int))).toNat) ((wI6 ((wI6 ((wI6 (Int.tdiv (min (max n (0 : Int)) (16777216 : Int)) (32 : Int))) + (x1.length : Int))) + (1 : Int))).toNat - (wI6 (Int.tdiv (min (max n (0 : Int)) (16777216 : Int)) (32 : Int))).toNat) x1).length) <|
     some (some ((qhE (List.replicate (wI6 ((wI6 ((wI6 (Int.tdiv (min (max n (0 : Int)) (16777216 : Int)) (32 : Int))) + (x1.length : Int))) + (1 : Int))).toNat ((0 : Int) : Int)) (0 + (wI6 (Int.tdiv (min (max n (0 : Int)) (16777216 : Int)) (32 : Int))).toNat) ((wI6 ((wI6 ((wI6 (Int.tdiv (min (max n (0 : Int)) (16777216 : Int)) (32 : Int))) + (x1.length : Int))) + (1 : Int))).toNat - (wI6 (Int.tdiv (min (max n (0 : Int)) (16777216 : Int)) (32 : Int))).toNat) x1).take n10))
 | K + 1, .c1 r28 shift low i =>
  bif (decide (i < ((r28.length : Nat) : Int))) then
   (gi r28 i).bind fun x2 =>
   gd (0 ≤ shift) <|
   (gi r28 i).bind fun _ =>
   gd (0 ≤ (wI6 ((32 : Int) - shift))) <|
   qeP K (.c1 (r28.set (i.toNat) (bits .or .u32 (qi3 .u32 x2 shift) low)) shift (qdG .u32 x2 (wI6 ((32 : Int) - shift))) (wI6 (i + (1 : Int))))
  else
   (qkZ K r28).bind fun x3 => match x3 with
   | none =>
    some none
   | some n4 =>
    gd (n4 ≤ r28.length) <|
    some (some (r28.take n4))
def qt5 (K : Nat) (a : (List Int)) (n : Int) : Option (Option (List Int)) := qeP K (.c0 a n)
noncomputable def qrQ : Code := qm5 prog 98
noncomputable def q85 : qoO → List Fr
 | .c0 .. => [.code qrQ]
 | .c1 .. => [.code (.loop (atC qrQ [1,1,1,1,1,1,1,0,1,0,1,1,0,0])), .blk 0, .code (atC qrQ [1,1,1,1,1,1,1,1])]
def zcC : qoO → St
 | .c0 a n => St.init [(tl 1 a qaF), (ti .i64 n)]
 | .c1 r28 shift low i => ⟨[(6, vi .i64 shift), (7, .c (C.row 28 0 r28.length)), (8, vi .u32 low), (9, vi .i64 i)], [(28, .row 143 1 (r28.map qaF) 0)], []⟩
def qu3 (cx : Cx) (c : qoO) (r : (Option (List Int))) : Prop := Wk prog cx (zuI prog 98 143 1 (r.map fun l => l.map qaF)) (q85 c) .normal (zcC c)
abbrev qu4 (K : Nat) : Prop := ∀ c r, qeP K c = some r → ∀ cx : Cx, cx.n = 61 → qu3 cx c r
theorem zcE {K} (ih : qu4 K) {cx} (hn : cx.n = 61) {a n} {r} (h : qeP (K + 1) (.c0 a n) = some r) : qu3 cx (.c0 a n) r := by
 rw [qeP] at h
 obtain ⟨x1, h2, h⟩ := qaU h
 rcases qa0 h with ⟨h3, h⟩ | ⟨h3, h⟩
 ·have h := oinj h; subst h
  exact zmI (fuel := 80) [rg1, rgG [oo, opI (.call [[1]] [(tl 1 a qaF)] (tl 1 x1 qaF)), oo], rgG [oo, opI (.ln (x1.length : Int)), oo], bTr, rg1] _ hn (by kernel_rfl) (aC (qa5 h2) <| aC (qdI x1 qaF) <| aC h3 <| aN)
 ·obtain ⟨h4, h⟩ := qbV h
  obtain ⟨h5, h⟩ := qbV h
  obtain ⟨h6, h⟩ := qbV h
  rcases qa0 h with ⟨h7, h⟩ | ⟨h7, h⟩
  ·exact wkG [rg1, rgG [oo, opI (.call [[1]] [(tl 1 a qaF)] (tl 1 x1 qaF)), oo], rgG [oo, opI (.ln (x1.length : Int)), oo], bFa, rg4, rg6, rgG [oo, oo, opI (.ln (x1.length : Int)), oo, oo, opI (.mk (qaF (0 : Int)) ((List.replicate (wI6 ((wI6 ((wI6 (Int.tdiv (min (max n (0 : Int)) (16777216 : Int)) (32 : Int))) + (x1.length : Int))) + (1 : Int))).toNat ((0 : Int) : Int)).map qaF)), oo], rgG [oo, oo, opI (.slR ((wI6 (Int.tdiv (min (max n (0 : Int)) (16777216 : Int)) (32 : Int))).toNat) ((wI6 ((wI6 ((wI6 (Int.tdiv (min (max n (0 : Int)) (16777216 : Int)) (32 : Int))) + (x1.length : Int))) + (1 : Int))).toNat) (0 + (wI6 (Int.tdiv (min (max n (0 : Int)) (16777216 : Int)) (32 : Int))).toNat) ((wI6 ((wI6 ((wI6 (Int.tdiv (min (max n (0 : Int)) (16777216 : Int)) (32 : Int))) + (x1.length : Int))) + (1 : Int))).toNat - (wI6 (Int.tdiv (min (max n (0 : Int)) (16777216 : Int)) (32 : Int))).toNat)), oo, opI (.cp (x1.map qaF) ((qhE (List.replicate (wI6 ((wI6 ((wI6 (Int.tdiv (min (max n (0 : Int)) (16777216 : Int)) (32 : Int))) + (x1.length : Int))) + (1 : Int))).toNat ((0 : Int) : Int)) (0 + (wI6 (Int.tdiv (min (max n (0 : Int)) (16777216 : Int)) (32 : Int))).toNat) ((wI6 ((wI6 ((wI6 (Int.tdiv (min (max n (0 : Int)) (16777216 : Int)) (32 : Int))) + (x1.length : Int))) + (1 : Int))).toNat - (wI6 (Int.tdiv (min (max n (0 : Int)) (16777216 : Int)) (32 : Int))).toNat) x1).map qaF) ((min x1.length ((wI6 ((wI6 ((wI6 (Int.tdiv (min (max n (0 : Int)) (16777216 : Int)) (32 : Int))) + (x1.length : Int))) + (1 : Int))).toNat - (wI6 (Int.tdiv (min (max n (0 : Int)) (16777216 : Int)) (32 : Int))).toNat) : Nat) : Int))], rg2, bTr, rg1, rg2, .pre [.rl 7 0 (qhE (List.replicate (wI6 ((wI6 ((wI6 (Int.tdiv (min (max n (0 : Int)) (16777216 : Int)) (32 : Int))) + (x1.length : Int))) + (1 : Int))).toNat ((0 : Int) : Int)) (0 + (wI6 (Int.tdiv (min (max n (0 : Int)) (16777216 : Int)) (32 : Int))).toNat) ((wI6 ((wI6 ((wI6 (Int.tdiv (min (max n (0 : Int)) (16777216 : Int)) (32 : Int))) + (x1.length : Int))) + (1 : Int))).toNat - (wI6 (Int.tdiv (min (max n (0 : Int)) (16777216 : Int)) (32 : Int))).toNat) x1).length, .keep [6,7,8,9] [28]]] hn (aC (qa5 h2) <| aC (qdI x1 qaF) <| aC h3 <| aC (qdI x1 qaF) <| aC h4.1 <| aC h4.2.1 <| aC h4.2.2 <| aC (quZ _ _ _ : List.replicate (wI6 ((wI6 ((wI6 (Int.tdiv (min (max n (0 : Int)) (16777216 : Int)) (32 : Int))) + (x1.length : Int))) + (1 : Int))).toNat (qaF (0 : Int)) = (List.replicate (wI6 ((wI6 ((wI6 (Int.tdiv (min (max n (0 : Int)) (16777216 : Int)) (32 : Int))) + (x1.length : Int))) + (1 : Int))).toNat ((0 : Int) : Int)).map qaF) <| aC (⟨h5.1, rfl⟩ : 0 ≤ (wI6 (Int.tdiv (min (max n (0 : Int)) (16777216 : Int)) (32 : Int))) ∧ (wI6 (Int.tdiv (min (max n (0 : Int)) (16777216 : Int)) (32 : Int))).toNat = (wI6 (Int.tdiv (min (max n (0 : Int)) (16777216 : Int)) (32 : Int))).toNat) <| aC (rfl : (wI6 ((wI6 ((wI6 (Int.tdiv (min (max n (0 : Int)) (16777216 : Int)) (32 : Int))) + (x1.length : Int))) + (1 : Int))).toNat = (wI6 ((wI6 ((wI6 (Int.tdiv (min (max n (0 : Int)) (16777216 : Int)) (32 : Int))) + (x1.length : Int))) + (1 : Int))).toNat) <| aC h5.2.1 <| aC h5.2.2.1 <| aC h5.2.2.2 <| aC (rfl : 0 + (wI6 (Int.tdiv (min (max n (0 : Int)) (16777216 : Int)) (32 : Int))).toNat = (0 + (wI6 (Int.tdiv (min (max n (0 : Int)) (16777216 : Int)) (32 : Int))).toNat)) <| aC (rfl : (wI6 ((wI6 ((wI6 (Int.tdiv (min (max n (0 : Int)) (16777216 : Int)) (32 : Int))) + (x1.length : Int))) + (1 : Int))).toNat - (wI6 (Int.tdiv (min (max n (0 : Int)) (16777216 : Int)) (32 : Int))).toNat = ((wI6 ((wI6 ((wI6 (Int.tdiv (min (max n (0 : Int)) (16777216 : Int)) (32 : Int))) + (x1.length : Int))) + (1 : Int))).toNat - (wI6 (Int.tdiv (min (max n (0 : Int)) (16777216 : Int)) (32 : Int))).toNat)) <| aC (rfl : x1.map qaF = x1.map qaF) <| aC (qzP _ _ _ _ _ h6 : qdH ((List.replicate (wI6 ((wI6 ((wI6 (Int.tdiv (min (max n (0 : Int)) (16777216 : Int)) (32 : Int))) + (x1.length : Int))) + (1 : Int))).toNat ((0 : Int) : Int)).map qaF) (0 + (wI6 (Int.tdiv (min (max n (0 : Int)) (16777216 : Int)) (32 : Int))).toNat) ((x1.map qaF).take (min (x1.map qaF).length ((wI6 ((wI6 ((wI6 (Int.tdiv (min (max n (0 : Int)) (16777216 : Int)) (32 : Int))) + (x1.length : Int))) + (1 : Int))).toNat - (wI6 (Int.tdiv (min (max n (0 : Int)) (16777216 : Int)) (32 : Int))).toNat))) = (qhE (List.replicate (wI6 ((wI6 ((wI6 (Int.tdiv (min (max n (0 : Int)) (16777216 : Int)) (32 : Int))) + (x1.length : Int))) + (1 : Int))).toNat ((0 : Int) : Int)) (0 + (wI6 (Int.tdiv (min (max n (0 : Int)) (16777216 : Int)) (32 : Int))).toNat) ((wI6 ((wI6 ((wI6 (Int.tdiv (min (max n (0 : Int)) (16777216 : Int)) (32 : Int))) + (x1.length : Int))) + (1 : Int))).toNat - (wI6 (Int.tdiv (min (max n (0 : Int)) (16777216 : Int)) (32 : Int))).toNat) x1).map qaF) <| aC (by rw [qcZ] : ((min (x1.map qaF).length ((wI6 ((wI6 ((wI6 (Int.tdiv (min (max n (0 : Int)) (16777216 : Int)) (32 : Int))) + (x1.length : Int))) + (1 : Int))).toNat - (wI6 (Int.tdiv (min (max n (0 : Int)) (16777216 : Int)) (32 : Int))).toNat) : Nat) : Int) = ((min x1.length ((wI6 ((wI6 ((wI6 (Int.tdiv (min (max n (0 : Int)) (16777216 : Int)) (32 : Int))) + (x1.length : Int))) + (1 : Int))).toNat - (wI6 (Int.tdiv (min (max n (0 : Int)) (16777216 : Int)) (32 : Int))).toNat) : Nat) : Int)) <| aC h7 <| aC r0 <| aC (by simp : (wI6 ((wI6 ((wI6 (Int.tdiv (min (max n (0 : Int)) (16777216 : Int)) (32 : Int))) + (x1.length : Int))) + (1 : Int))).toNat = (qhE (List.replicate (wI6 ((wI6 ((wI6 (Int.tdiv (min (max n (0 : Int)) (16777216 : Int)) (32 : Int))) + (x1.length : Int))) + (1 : Int))).toNat ((0 : Int) : Int)) (0 + (wI6 (Int.tdiv (min (max n (0 : Int)) (16777216 : Int)) (32 : Int))).toNat) ((wI6 ((wI6 ((wI6 (Int.tdiv (min (max n (0 : Int)) (16777216 : Int)) (32 : Int))) + (x1.length : Int))) + (1 : Int))).toNat - (wI6 (Int.tdiv (min (max n (0 : Int)) (16777216 : Int)) (32 : Int))).toNat) x1).length) <| aN) (ih _ _ h cx hn)
  ·obtain ⟨x9, h8, h⟩ := qaU h
   cases x9 with
   | none =>
    have h := oinj h; subst h
    exact zmI (fuel := 130) [rg1, rgG [oo, opI (.call [[1]] [(tl 1 a qaF)] (tl 1 x1 qaF)), oo], rgG [oo, opI (.ln (x1.length : Int)), oo], bFa, rg4, rg6, rgG [oo, oo, opI (.ln (x1.length : Int)), oo, oo, opI (.mk (qaF (0 : Int)) ((List.replicate (wI6 ((wI6 ((wI6 (Int.tdiv (min (max n (0 : Int)) (16777216 : Int)) (32 : Int))) + (x1.length : Int))) + (1 : Int))).toNat ((0 : Int) : Int)).map qaF)), oo], rgG [oo, oo, opI (.slR ((wI6 (Int.tdiv (min (max n (0 : Int)) (16777216 : Int)) (32 : Int))).toNat) ((wI6 ((wI6 ((wI6 (Int.tdiv (min (max n (0 : Int)) (16777216 : Int)) (32 : Int))) + (x1.length : Int))) + (1 : Int))).toNat) (0 + (wI6 (Int.tdiv (min (max n (0 : Int)) (16777216 : Int)) (32 : Int))).toNat) ((wI6 ((wI6 ((wI6 (Int.tdiv (min (max n (0 : Int)) (16777216 : Int)) (32 : Int))) + (x1.length : Int))) + (1 : Int))).toNat - (wI6 (Int.tdiv (min (max n (0 : Int)) (16777216 : Int)) (32 : Int))).toNat)), oo, opI (.cp (x1.map qaF) ((qhE (List.replicate (wI6 ((wI6 ((wI6 (Int.tdiv (min (max n (0 : Int)) (16777216 : Int)) (32 : Int))) + (x1.length : Int))) + (1 : Int))).toNat ((0 : Int) : Int)) (0 + (wI6 (Int.tdiv (min (max n (0 : Int)) (16777216 : Int)) (32 : Int))).toNat) ((wI6 ((wI6 ((wI6 (Int.tdiv (min (max n (0 : Int)) (16777216 : Int)) (32 : Int))) + (x1.length : Int))) + (1 : Int))).toNat - (wI6 (Int.tdiv (min (max n (0 : Int)) (16777216 : Int)) (32 : Int))).toNat) x1).map qaF) ((min x1.length ((wI6 ((wI6 ((wI6 (Int.tdiv (min (max n (0 : Int)) (16777216 : Int)) (32 : Int))) + (x1.length : Int))) + (1 : Int))).toNat - (wI6 (Int.tdiv (min (max n (0 : Int)) (16777216 : Int)) (32 : Int))).toNat) : Nat) : Int))], rg2, bFa, rgG [oo, .rl 59 0 (qhE (List.replicate (wI6 ((wI6 ((wI6 (Int.tdiv (min (max n (0 : Int)) (16777216 : Int)) (32 : Int))) + (x1.length : Int))) + (1 : Int))).toNat ((0 : Int) : Int)) (0 + (wI6 (Int.tdiv (min (max n (0 : Int)) (16777216 : Int)) (32 : Int))).toNat) ((wI6 ((wI6 ((wI6 (Int.tdiv (min (max n (0 : Int)) (16777216 : Int)) (32 : Int))) + (x1.length : Int))) + (1 : Int))).toNat - (wI6 (Int.tdiv (min (max n (0 : Int)) (16777216 : Int)) (32 : Int))).toNat) x1).length, .callR [28] [(28, .row 143 1 ((qhE (List.replicate (wI6 ((wI6 ((wI6 (Int.tdiv (min (max n (0 : Int)) (16777216 : Int)) (32 : Int))) + (x1.length : Int))) + (1 : Int))).toNat ((0 : Int) : Int)) (0 + (wI6 (Int.tdiv (min (max n (0 : Int)) (16777216 : Int)) (32 : Int))).toNat) ((wI6 ((wI6 ((wI6 (Int.tdiv (min (max n (0 : Int)) (16777216 : Int)) (32 : Int))) + (x1.length : Int))) + (1 : Int))).toNat - (wI6 (Int.tdiv (min (max n (0 : Int)) (16777216 : Int)) (32 : Int))).toNat) x1).map qaF) 0)] (.c C.nil), oo]] _ hn (by kernel_rfl) (aC (qa5 h2) <| aC (qdI x1 qaF) <| aC h3 <| aC (qdI x1 qaF) <| aC h4.1 <| aC h4.2.1 <| aC h4.2.2 <| aC (quZ _ _ _ : List.replicate (wI6 ((wI6 ((wI6 (Int.tdiv (min (max n (0 : Int)) (16777216 : Int)) (32 : Int))) + (x1.length : Int))) + (1 : Int))).toNat (qaF (0 : Int)) = (List.replicate (wI6 ((wI6 ((wI6 (Int.tdiv (min (max n (0 : Int)) (16777216 : Int)) (32 : Int))) + (x1.length : Int))) + (1 : Int))).toNat ((0 : Int) : Int)).map qaF) <| aC (⟨h5.1, rfl⟩ : 0 ≤ (wI6 (Int.tdiv (min (max n (0 : Int)) (16777216 : Int)) (32 : Int))) ∧ (wI6 (Int.tdiv (min (max n (0 : Int)) (16777216 : Int)) (32 : Int))).toNat = (wI6 (Int.tdiv (min (max n (0 : Int)) (16777216 : Int)) (32 : Int))).toNat) <| aC (rfl : (wI6 ((wI6 ((wI6 (Int.tdiv (min (max n (0 : Int)) (16777216 : Int)) (32 : Int))) + (x1.length : Int))) + (1 : Int))).toNat = (wI6 ((wI6 ((wI6 (Int.tdiv (min (max n (0 : Int)) (16777216 : Int)) (32 : Int))) + (x1.length : Int))) + (1 : Int))).toNat) <| aC h5.2.1 <| aC h5.2.2.1 <| aC h5.2.2.2 <| aC (rfl : 0 + (wI6 (Int.tdiv (min (max n (0 : Int)) (16777216 : Int)) (32 : Int))).toNat = (0 + (wI6 (Int.tdiv (min (max n (0 : Int)) (16777216 : Int)) (32 : Int))).toNat)) <| aC (rfl : (wI6 ((wI6 ((wI6 (Int.tdiv (min (max n (0 : Int)) (16777216 : Int)) (32 : Int))) + (x1.length : Int))) + (1 : Int))).toNat - (wI6 (Int.tdiv (min (max n (0 : Int)) (16777216 : Int)) (32 : Int))).toNat = ((wI6 ((wI6 ((wI6 (Int.tdiv (min (max n (0 : Int)) (16777216 : Int)) (32 : Int))) + (x1.length : Int))) + (1 : Int))).toNat - (wI6 (Int.tdiv (min (max n (0 : Int)) (16777216 : Int)) (32 : Int))).toNat)) <| aC (rfl : x1.map qaF = x1.map qaF) <| aC (qzP _ _ _ _ _ h6 : qdH ((List.replicate (wI6 ((wI6 ((wI6 (Int.tdiv (min (max n (0 : Int)) (16777216 : Int)) (32 : Int))) + (x1.length : Int))) + (1 : Int))).toNat ((0 : Int) : Int)).map qaF) (0 + (wI6 (Int.tdiv (min (max n (0 : Int)) (16777216 : Int)) (32 : Int))).toNat) ((x1.map qaF).take (min (x1.map qaF).length ((wI6 ((wI6 ((wI6 (Int.tdiv (min (max n (0 : Int)) (16777216 : Int)) (32 : Int))) + (x1.length : Int))) + (1 : Int))).toNat - (wI6 (Int.tdiv (min (max n (0 : Int)) (16777216 : Int)) (32 : Int))).toNat))) = (qhE (List.replicate (wI6 ((wI6 ((wI6 (Int.tdiv (min (max n (0 : Int)) (16777216 : Int)) (32 : Int))) + (x1.length : Int))) + (1 : Int))).toNat ((0 : Int) : Int)) (0 + (wI6 (Int.tdiv (min (max n (0 : Int)) (16777216 : Int)) (32 : Int))).toNat) ((wI6 ((wI6 ((wI6 (Int.tdiv (min (max n (0 : Int)) (16777216 : Int)) (32 : Int))) + (x1.length : Int))) + (1 : Int))).toNat - (wI6 (Int.tdiv (min (max n (0 : Int)) (16777216 : Int)) (32 : Int))).toNat) x1).map qaF) <| aC (by rw [qcZ] : ((min (x1.map qaF).length ((wI6 ((wI6 ((wI6 (Int.tdiv (min (max n (0 : Int)) (16777216 : Int)) (32 : Int))) + (x1.length : Int))) + (1 : Int))).toNat - (wI6 (Int.tdiv (min (max n (0 : Int)) (16777216 : Int)) (32 : Int))).toNat) : Nat) : Int) = ((min x1.length ((wI6 ((wI6 ((wI6 (Int.tdiv (min (max n (0 : Int)) (16777216 : Int)) (32 : Int))) + (x1.length : Int))) + (1 : Int))).toNat - (wI6 (Int.tdiv (min (max n (0 : Int)) (16777216 : Int)) (32 : Int))).toNat) : Nat) : Int)) <| aC h7 <| aC r0 <| aC (by simp : (wI6 ((wI6 ((wI6 (Int.tdiv (min (max n (0 : Int)) (16777216 : Int)) (32 : Int))) + (x1.length : Int))) + (1 : Int))).toNat = (qhE (List.replicate (wI6 ((wI6 ((wI6 (Int.tdiv (min (max n (0 : Int)) (16777216 : Int)) (32 : Int))) + (x1.length : Int))) + (1 : Int))).toNat ((0 : Int) : Int)) (0 + (wI6 (Int.tdiv (min (max n (0 : Int)) (16777216 : Int)) (32 : Int))).toNat) ((wI6 ((wI6 ((wI6 (Int.tdiv (min (max n (0 : Int)) (16777216 : Int)) (32 : Int))) + (x1.length : Int))) + (1 : Int))).toNat - (wI6 (Int.tdiv (min (max n (0 : Int)) (16777216 : Int)) (32 : Int))).toNat) x1).length) <| aC (qiE h8) <| aN)
   | some n10 =>
    obtain ⟨h11, h⟩ := qbV h
    have h := oinj h; subst h
    exact zqH (es := (((qhE (List.replicate (wI6 ((wI6 ((wI6 (Int.tdiv (min (max n (0 : Int)) (16777216 : Int)) (32 : Int))) + (x1.length : Int))) + (1 : Int))).toNat ((0 : Int) : Int)) (0 + (wI6 (Int.tdiv (min (max n (0 : Int)) (16777216 : Int)) (32 : Int))).toNat) ((wI6 ((wI6 ((wI6 (Int.tdiv (min (max n (0 : Int)) (16777216 : Int)) (32 : Int))) + (x1.length : Int))) + (1 : Int))).toNat - (wI6 (Int.tdiv (min (max n (0 : Int)) (16777216 : Int)) (32 : Int))).toNat) x1).take n10).map qaF)) (m := n10) (es0 := (qhE (List.replicate (wI6 ((wI6 ((wI6 (Int.tdiv (min (max n (0 : Int)) (16777216 : Int)) (32 : Int))) + (x1.length : Int))) + (1 : Int))).toNat ((0 : Int) : Int)) (0 + (wI6 (Int.tdiv (min (max n (0 : Int)) (16777216 : Int)) (32 : Int))).toNat) ((wI6 ((wI6 ((wI6 (Int.tdiv (min (max n (0 : Int)) (16777216 : Int)) (32 : Int))) + (x1.length : Int))) + (1 : Int))).toNat - (wI6 (Int.tdiv (min (max n (0 : Int)) (16777216 : Int)) (32 : Int))).toNat) x1).map qaF) (fuel := 130) [rg1, rgG [oo, opI (.call [[1]] [(tl 1 a qaF)] (tl 1 x1 qaF)), oo], rgG [oo, opI (.ln (x1.length : Int)), oo], bFa, rg4, rg6, rgG [oo, oo, opI (.ln (x1.length : Int)), oo, oo, opI (.mk (qaF (0 : Int)) ((List.replicate (wI6 ((wI6 ((wI6 (Int.tdiv (min (max n (0 : Int)) (16777216 : Int)) (32 : Int))) + (x1.length : Int))) + (1 : Int))).toNat ((0 : Int) : Int)).map qaF)), oo], rgG [oo, oo, opI (.slR ((wI6 (Int.tdiv (min (max n (0 : Int)) (16777216 : Int)) (32 : Int))).toNat) ((wI6 ((wI6 ((wI6 (Int.tdiv (min (max n (0 : Int)) (16777216 : Int)) (32 : Int))) + (x1.length : Int))) + (1 : Int))).toNat) (0 + (wI6 (Int.tdiv (min (max n (0 : Int)) (16777216 : Int)) (32 : Int))).toNat) ((wI6 ((wI6 ((wI6 (Int.tdiv (min (max n (0 : Int)) (16777216 : Int)) (32 : Int))) + (x1.length : Int))) + (1 : Int))).toNat - (wI6 (Int.tdiv (min (max n (0 : Int)) (16777216 : Int)) (32 : Int))).toNat)), oo, opI (.cp (x1.map qaF) ((qhE (List.replicate (wI6 ((wI6 ((wI6 (Int.tdiv (min (max n (0 : Int)) (16777216 : Int)) (32 : Int))) + (x1.length : Int))) + (1 : Int))).toNat ((0 : Int) : Int)) (0 + (wI6 (Int.tdiv (min (max n (0 : Int)) (16777216 : Int)) (32 : Int))).toNat) ((wI6 ((wI6 ((wI6 (Int.tdiv (min (max n (0 : Int)) (16777216 : Int)) (32 : Int))) + (x1.length : Int))) + (1 : Int))).toNat - (wI6 (Int.tdiv (min (max n (0 : Int)) (16777216 : Int)) (32 : Int))).toNat) x1).map qaF) ((min x1.length ((wI6 ((wI6 ((wI6 (Int.tdiv (min (max n (0 : Int)) (16777216 : Int)) (32 : Int))) + (x1.length : Int))) + (1 : Int))).toNat - (wI6 (Int.tdiv (min (max n (0 : Int)) (16777216 : Int)) (32 : Int))).toNat) : Nat) : Int))], rg2, bFa, rgG [oo, .rl 59 0 (qhE (List.replicate (wI6 ((wI6 ((wI6 (Int.tdiv (min (max n (0 : Int)) (16777216 : Int)) (32 : Int))) + (x1.length : Int))) + (1 : Int))).toNat ((0 : Int) : Int)) (0 + (wI6 (Int.tdiv (min (max n (0 : Int)) (16777216 : Int)) (32 : Int))).toNat) ((wI6 ((wI6 ((wI6 (Int.tdiv (min (max n (0 : Int)) (16777216 : Int)) (32 : Int))) + (x1.length : Int))) + (1 : Int))).toNat - (wI6 (Int.tdiv (min (max n (0 : Int)) (16777216 : Int)) (32 : Int))).toNat) x1).length, .callR [28] [(28, .row 143 1 ((qhE (List.replicate (wI6 ((wI6 ((wI6 (Int.tdiv (min (max n (0 : Int)) (16777216 : Int)) (32 : Int))) + (x1.length : Int))) + (1 : Int))).toNat ((0 : Int) : Int)) (0 + (wI6 (Int.tdiv (min (max n (0 : Int)) (16777216 : Int)) (32 : Int))).toNat) ((wI6 ((wI6 ((wI6 (Int.tdiv (min (max n (0 : Int)) (16777216 : Int)) (32 : Int))) + (x1.length : Int))) + (1 : Int))).toNat - (wI6 (Int.tdiv (min (max n (0 : Int)) (16777216 : Int)) (32 : Int))).toNat) x1).map qaF) 0)] (.c (C.row 28 0 n10)), oo]] _ hn (by kernel_rfl) (aC (qa5 h2) <| aC (qdI x1 qaF) <| aC h3 <| aC (qdI x1 qaF) <| aC h4.1 <| aC h4.2.1 <| aC h4.2.2 <| aC (quZ _ _ _ : List.replicate (wI6 ((wI6 ((wI6 (Int.tdiv (min (max n (0 : Int)) (16777216 : Int)) (32 : Int))) + (x1.length : Int))) + (1 : Int))).toNat (qaF (0 : Int)) = (List.replicate (wI6 ((wI6 ((wI6 (Int.tdiv (min (max n (0 : Int)) (16777216 : Int)) (32 : Int))) + (x1.length : Int))) + (1 : Int))).toNat ((0 : Int) : Int)).map qaF) <| aC (⟨h5.1, rfl⟩ : 0 ≤ (wI6 (Int.tdiv (min (max n (0 : Int)) (16777216 : Int)) (32 : Int))) ∧ (wI6 (Int.tdiv (min (max n (0 : Int)) (16777216 : Int)) (32 : Int))).toNat = (wI6 (Int.tdiv (min (max n (0 : Int)) (16777216 : Int)) (32 : Int))).toNat) <| aC (rfl : (wI6 ((wI6 ((wI6 (Int.tdiv (min (max n (0 : Int)) (16777216 : Int)) (32 : Int))) + (x1.length : Int))) + (1 : Int))).toNat = (wI6 ((wI6 ((wI6 (Int.tdiv (min (max n (0 : Int)) (16777216 : Int)) (32 : Int))) + (x1.length : Int))) + (1 : Int))).toNat) <| aC h5.2.1 <| aC h5.2.2.1 <| aC h5.2.2.2 <| aC (rfl : 0 + (wI6 (Int.tdiv (min (max n (0 : Int)) (16777216 : Int)) (32 : Int))).toNat = (0 + (wI6 (Int.tdiv (min (max n (0 : Int)) (16777216 : Int)) (32 : Int))).toNat)) <| aC (rfl : (wI6 ((wI6 ((wI6 (Int.tdiv (min (max n (0 : Int)) (16777216 : Int)) (32 : Int))) + (x1.length : Int))) + (1 : Int))).toNat - (wI6 (Int.tdiv (min (max n (0 : Int)) (16777216 : Int)) (32 : Int))).toNat = ((wI6 ((wI6 ((wI6 (Int.tdiv (min (max n (0 : Int)) (16777216 : Int)) (32 : Int))) + (x1.length : Int))) + (1 : Int))).toNat - (wI6 (Int.tdiv (min (max n (0 : Int)) (16777216 : Int)) (32 : Int))).toNat)) <| aC (rfl : x1.map qaF = x1.map qaF) <| aC (qzP _ _ _ _ _ h6 : qdH ((List.replicate (wI6 ((wI6 ((wI6 (Int.tdiv (min (max n (0 : Int)) (16777216 : Int)) (32 : Int))) + (x1.length : Int))) + (1 : Int))).toNat ((0 : Int) : Int)).map qaF) (0 + (wI6 (Int.tdiv (min (max n (0 : Int)) (16777216 : Int)) (32 : Int))).toNat) ((x1.map qaF).take (min (x1.map qaF).length ((wI6 ((wI6 ((wI6 (Int.tdiv (min (max n (0 : Int)) (16777216 : Int)) (32 : Int))) + (x1.length : Int))) + (1 : Int))).toNat - (wI6 (Int.tdiv (min (max n (0 : Int)) (16777216 : Int)) (32 : Int))).toNat))) = (qhE (List.replicate (wI6 ((wI6 ((wI6 (Int.tdiv (min (max n (0 : Int)) (16777216 : Int)) (32 : Int))) + (x1.length : Int))) + (1 : Int))).toNat ((0 : Int) : Int)) (0 + (wI6 (Int.tdiv (min (max n (0 : Int)) (16777216 : Int)) (32 : Int))).toNat) ((wI6 ((wI6 ((wI6 (Int.tdiv (min (max n (0 : Int)) (16777216 : Int)) (32 : Int))) + (x1.length : Int))) + (1 : Int))).toNat - (wI6 (Int.tdiv (min (max n (0 : Int)) (16777216 : Int)) (32 : Int))).toNat) x1).map qaF) <| aC (by rw [qcZ] : ((min (x1.map qaF).length ((wI6 ((wI6 ((wI6 (Int.tdiv (min (max n (0 : Int)) (16777216 : Int)) (32 : Int))) + (x1.length : Int))) + (1 : Int))).toNat - (wI6 (Int.tdiv (min (max n (0 : Int)) (16777216 : Int)) (32 : Int))).toNat) : Nat) : Int) = ((min x1.length ((wI6 ((wI6 ((wI6 (Int.tdiv (min (max n (0 : Int)) (16777216 : Int)) (32 : Int))) + (x1.length : Int))) + (1 : Int))).toNat - (wI6 (Int.tdiv (min (max n (0 : Int)) (16777216 : Int)) (32 : Int))).toNat) : Nat) : Int)) <| aC h7 <| aC r0 <| aC (by simp : (wI6 ((wI6 ((wI6 (Int.tdiv (min (max n (0 : Int)) (16777216 : Int)) (32 : Int))) + (x1.length : Int))) + (1 : Int))).toNat = (qhE (List.replicate (wI6 ((wI6 ((wI6 (Int.tdiv (min (max n (0 : Int)) (16777216 : Int)) (32 : Int))) + (x1.length : Int))) + (1 : Int))).toNat ((0 : Int) : Int)) (0 + (wI6 (Int.tdiv (min (max n (0 : Int)) (16777216 : Int)) (32 : Int))).toNat) ((wI6 ((wI6 ((wI6 (Int.tdiv (min (max n (0 : Int)) (16777216 : Int)) (32 : Int))) + (x1.length : Int))) + (1 : Int))).toNat - (wI6 (Int.tdiv (min (max n (0 : Int)) (16777216 : Int)) (32 : Int))).toNat) x1).length) <| aC (qiE h8) <| aN) (by rw [List.length_map, List.length_take, Nat.min_eq_left h11]) (by rw [List.map_take])
theorem zcD {K} (ih : qu4 K) {cx} (hn : cx.n = 61) {r28 shift low i} {r} (h : qeP (K + 1) (.c1 r28 shift low i) = some r) : qu3 cx (.c1 r28 shift low i) r := by
 rw [qeP] at h
 rcases qa0 h with ⟨h1, h⟩ | ⟨h1, h⟩
 ·obtain ⟨x2, h3, h⟩ := qaU h
  obtain ⟨h4, h⟩ := qbV h
  obtain ⟨x5, h6, h⟩ := qaU h
  obtain ⟨h7, h⟩ := qbV h
  exact wkG [.go, rg4, bTr, rgG [oo, oo, .op .ir, opI (.ld (qaF x2)), oo], rgG [oo, oo, oo, oo, .op .dv, oo, oo, .op .ir, opI (.st (qaF x5) ((r28.set (i.toNat) (bits .or .u32 (qi3 .u32 x2 shift) low)).map qaF))], rgG [oo, oo, oo, .op .dv, oo], rg3, .pre [.rl 7 0 (r28.set (i.toNat) (bits .or .u32 (qi3 .u32 x2 shift) low)).length, .keep [6,7,8,9] [28]]] hn (aC h1 <| aC (qb5 h3) <| aC (qc1 h3 (by simp) : i < ((r28.length : Nat) : Int)) <| aC (qc2 qaF h3 : (r28.map qaF)[(0 + i.toNat)]? = some (qaF x2)) <| aC h4 <| aC (qb5 h6) <| aC (qc1 h6 (by simp) : i < ((r28.length : Nat) : Int)) <| aC (qc2 qaF h6 : (r28.map qaF)[(0 + i.toNat)]? = some (qaF x5)) <| aC (qe8 _ _ (bits .or .u32 (qi3 .u32 x2 shift) low) _ : (r28.map qaF).set (0 + i.toNat) (qdH (qaF x5) 0 [(T.int .u32 (bits .or .u32 (qi3 .u32 x2 shift) low))]) = (r28.set (i.toNat) (bits .or .u32 (qi3 .u32 x2 shift) low)).map qaF) <| aC (Nat.zero_le _ : 0 ≤ (0 + i.toNat)) <| aC h7 <| aC r0 <| aC (by simp : r28.length = (r28.set (i.toNat) (bits .or .u32 (qi3 .u32 x2 shift) low)).length) <| aN) (ih _ _ h cx hn)
 ·obtain ⟨x3, h2, h⟩ := qaU h
  cases x3 with
  | none =>
   have h := oinj h; subst h
   exact zmI (fuel := 78) [.go, rg4, bFa, rgG [oo, .rl 59 0 r28.length, .callR [28] [(28, .row 143 1 (r28.map qaF) 0)] (.c C.nil), oo]] _ hn (by kernel_rfl) (aC h1 <| aC r0 <| aC (lq r28) <| aC (qiE h2) <| aN)
  | some n4 =>
   obtain ⟨h5, h⟩ := qbV h
   have h := oinj h; subst h
   exact zqH (es := ((r28.take n4).map qaF)) (m := n4) (es0 := r28.map qaF) (fuel := 78) [.go, rg4, bFa, rgG [oo, .rl 59 0 r28.length, .callR [28] [(28, .row 143 1 (r28.map qaF) 0)] (.c (C.row 28 0 n4)), oo]] _ hn (by kernel_rfl) (aC h1 <| aC r0 <| aC (lq r28) <| aC (qiE h2) <| aN) (by rw [List.length_map, List.length_take, Nat.min_eq_left h5]) (by rw [List.map_take])
theorem qsR : ∀ K : Nat, qu4 K
 | 0, c, r, h => by rw [qeP] at h; cases h
 | K + 1, .c0 .., r, h => fun cx hn => zcE (qsR K) hn h
 | K + 1, .c1 .., r, h => fun cx hn => zcD (qsR K) hn h
theorem quI {K : Nat} {a : (List Int)} {n : Int} {r : (Option (List Int))} (h : qt5 K a n = some r) : zpE prog 98 [(tl 1 a qaF), (ti .i64 n)] 143 1 (r.map fun l => l.map qaF) :=
 ztQ (n := 61) (by kernel_rfl) (by simp) fun cx hn => qsR K (.c0 a n) r h cx hn
open Go.Proofs.Tryz (prog)
inductive qsQ where
 | c0 (a : (List Int)) (n : Int)
 | c1 (r25 : (List Int)) (shift : Int) (t29 : Int) (t30 : Int)
 | c2 (shift : Int) (t29 : Int) (t30 : Int)
 | c3 (r25 : (List Int)) (shift : Int) (t29 : Int) (t30 : Int)
def qdJ : Nat → qsQ → Option (List Int)
 | 0, _ => none
 | K + 1, .c0 a n =>
  (qc9 K a).bind fun x1 =>
  bif (decide ((x1.length : Int) ≤ (wI6 (Int.tdiv (max n (0 : Int)) (32 : Int))))) then
   some []
  else
   gd (0 ≤ (wI6 (Int.tdiv (max n (0 : Int)) (32 : Int))) ∧ (wI6 (Int.tdiv (max n (0 : Int)) (32 : Int))).toNat ≤ x1.length ∧ x1.length ≤ x1.length) <|
   bif (decide (0 < ((x1.take x1.length).drop ((wI6 (Int.tdiv (max n (0 : Int)) (32 : Int))).toNat)).length)) then
    gd (((x1.take x1.length).drop ((wI6 (Int.tdiv (max n (0 : Int)) (32 : Int))).toNat)).length * 4 ≤ 140737488355328) <|
    bif (decide ((0 : Int) < (Int.tmod (max n (0 : Int)) (32 : Int)))) then
     qdJ K (.c1 ((x1.take x1.length).drop ((wI6 (Int.tdiv (max n (0 : Int)) (32 : Int))).toNat)) (Int.tmod (max n (0 : Int)) (32 : Int)) (((((x1.take x1.length).drop ((wI6 (Int.tdiv (max n (0 : Int)) (32 : Int))).toNat)).map qaF).length : Nat) : Int) (0 : Int))
    else
     (qc9 K ((x1.take x1.length).drop ((wI6 (Int.tdiv (max n (0 : Int)) (32 : Int))).toNat))).bind fun x8 =>
     some x8
   else
    bif (decide ((0 : Int) < (Int.tmod (max n (0 : Int)) (32 : Int)))) then
     qdJ K (.c2 (Int.tmod (max n (0 : Int)) (32 : Int)) (0 : Int) (0 : Int))
    else
     (qc9 K []).bind fun x8 =>
     some x8
 | K + 1, .c1 r25 shift t29 t30 =>
  bif (decide (t30 < t29)) then
   bif (decide ((wI6 (t30 + (1 : Int))) < ((r25.length : Nat) : Int))) then
    (gi r25 (wI6 (t30 + (1 : Int)))).bind fun x3 =>
    gd (0 ≤ (wI6 ((32 : Int) - shift))) <|
    (gi r25 t30).bind fun x6 =>
    gd (0 ≤ shift) <|
    (gi r25 t30).bind fun _ =>
    qdJ K (.c3 (r25.set (t30.toNat) (bits .or .u32 (qdG .u32 x6 shift) (qi3 .u32 x3 (wI6 ((32 : Int) - shift))))) shift t29 t30)
   else
    (gi r25 t30).bind fun x3 =>
    gd (0 ≤ shift) <|
    (gi r25 t30).bind fun _ =>
    qdJ K (.c3 (r25.set (t30.toNat) (bits .or .u32 (qdG .u32 x3 shift) (0 : Int))) shift t29 t30)
  else
   (qc9 K r25).bind fun x2 =>
   some x2
 | K + 1, .c2 _ t29 t30 =>
  bif (decide (t30 < t29)) then
   bif (decide ((wI6 (t30 + (1 : Int))) < (0 : Int))) then
    none
   else
    none
  else
   (qc9 K []).bind fun x2 =>
   some x2
 | K + 1, .c3 r25 shift t29 t30 =>
  qdJ K (.c1 r25 shift t29 (wI6 (t30 + (1 : Int))))
def qwG (K : Nat) (a : (List Int)) (n : Int) : Option (List Int) := qdJ K (.c0 a n)
noncomputable def qh3 : Code := qcS prog 213
noncomputable def zh8 : qsQ → List Fr
 | .c0 .. => [.code qh3]
 | .c1 .. => [.code (.loop (atC qh3 [1,1,1,1,1,1,0,1,0,1,0,0])), .blk 0, .code (atC qh3 [1,1,1,1,1,1,1])]
 | .c2 .. => [.code (.loop (atC qh3 [1,1,1,1,1,1,0,1,0,1,0,0])), .blk 0, .code (atC qh3 [1,1,1,1,1,1,1])]
 | .c3 .. => [.code (atC qh3 [1,1,1,1,1,1,0,1,0,1,0,0,1,1,1]), .lp (atC qh3 [1,1,1,1,1,1,0,1,0,1,0,0]), .blk 0, .code (atC qh3 [1,1,1,1,1,1,1])]
def zkM : qsQ → St
 | .c0 a n => St.init [(tl 1 a qaF), (ti .i64 n)]
 | .c1 r25 shift t29 t30 => ⟨[(6, vi .i64 shift), (7, .c (C.row 25 0 r25.length)), (29, vi .i64 t29), (30, vi .i64 t30)], [(25, .row 143 1 (r25.map qaF) 0)], []⟩
 | .c2 shift t29 t30 => ⟨[(6, vi .i64 shift), (7, .c (C.nil)), (29, vi .i64 t29), (30, vi .i64 t30)], [], []⟩
 | .c3 r25 shift t29 t30 => ⟨[(6, vi .i64 shift), (7, .c (C.row 25 0 r25.length)), (29, vi .i64 t29), (30, vi .i64 t30)], [(25, .row 143 1 (r25.map qaF) 0)], []⟩
def qsO (cx : Cx) (c : qsQ) (r : (List Int)) : Prop := Wk prog cx (qd8 prog 213 [[1]] (tl 1 r qaF)) (zh8 c) .normal (zkM c)
abbrev qsP (K : Nat) : Prop := ∀ c r, qdJ K c = some r → ∀ cx : Cx, cx.n = 60 → qsO cx c r
theorem zkR {K} (ih : qsP K) {cx} (hn : cx.n = 60) {a n} {r} (h : qdJ (K + 1) (.c0 a n) = some r) : qsO cx (.c0 a n) r := by
 rw [qdJ] at h
 obtain ⟨x1, h2, h⟩ := qaU h
 rcases qa0 h with ⟨h3, h⟩ | ⟨h3, h⟩
 ·have h := oinj h; subst h
  exact wkR [rg1, rgG [oo, opI (.call [[1]] [(tl 1 a qaF)] (tl 1 x1 qaF)), oo], rg3, rg6, rgG [oo, oo, opI (.ln (x1.length : Int)), oo], bTr, rg1] hn (aC (qa5 h2) <| aC (qdI x1 qaF) <| aC h3 <| aN)
 ·obtain ⟨h4, h⟩ := qbV h
  rcases qa0 h with ⟨h6, h⟩ | ⟨h6, h⟩
  ·obtain ⟨h5, h⟩ := qbV h
   rcases qa0 h with ⟨h7, h⟩ | ⟨h7, h⟩
   ·exact wkG [rg1, rgG [oo, opI (.call [[1]] [(tl 1 a qaF)] (tl 1 x1 qaF)), oo], rg3, rg6, rgG [oo, oo, opI (.ln (x1.length : Int)), oo], bFa, rgG [oo, oo, opI (.slT ((wI6 (Int.tdiv (max n (0 : Int)) (32 : Int))).toNat) x1.length (((x1.take x1.length).drop ((wI6 (Int.tdiv (max n (0 : Int)) (32 : Int))).toNat)).map qaF)), opI (.appN (((x1.take x1.length).drop ((wI6 (Int.tdiv (max n (0 : Int)) (32 : Int))).toNat)).map qaF)), oo], rg2, bTr, rg3, .pre [.rl 7 0 ((x1.take x1.length).drop ((wI6 (Int.tdiv (max n (0 : Int)) (32 : Int))).toNat)).length, .keep [6,7,29,30] [25]]] hn (aC (qa5 h2) <| aC (qdI x1 qaF) <| aC h3 <| aC (⟨h4.1, rfl⟩ : 0 ≤ (wI6 (Int.tdiv (max n (0 : Int)) (32 : Int))) ∧ (wI6 (Int.tdiv (max n (0 : Int)) (32 : Int))).toNat = (wI6 (Int.tdiv (max n (0 : Int)) (32 : Int))).toNat) <| aC (by simp : x1.length = (x1.map qaF).length) <| aC h4.2.1 <| aC (zm8 _ h4.2.2 : x1.length ≤ (x1.map qaF).length) <| aC (zqL _ _ _ _ : ((x1.map qaF).take x1.length).drop ((wI6 (Int.tdiv (max n (0 : Int)) (32 : Int))).toNat) = ((x1.take x1.length).drop ((wI6 (Int.tdiv (max n (0 : Int)) (32 : Int))).toNat)).map qaF) <| aC (rfl : ((x1.take x1.length).drop ((wI6 (Int.tdiv (max n (0 : Int)) (32 : Int))).toNat)).map qaF = ((x1.take x1.length).drop ((wI6 (Int.tdiv (max n (0 : Int)) (32 : Int))).toNat)).map qaF) <| aC ((qcZ _ _).symm ▸ of_decide_eq_true h6 : 0 < (((x1.take x1.length).drop ((wI6 (Int.tdiv (max n (0 : Int)) (32 : Int))).toNat)).map qaF).length) <| aC ((qcZ _ _).symm ▸ h5 : (((x1.take x1.length).drop ((wI6 (Int.tdiv (max n (0 : Int)) (32 : Int))).toNat)).map qaF).length * 4 ≤ 140737488355328) <| aC ((qcZ _ _).symm ▸ room (by decide) h5 : (((x1.take x1.length).drop ((wI6 (Int.tdiv (max n (0 : Int)) (32 : Int))).toNat)).map qaF).length ≤ maxLen) <| aC h7 <| aC r0 <| aC (by simp : (((x1.take x1.length).drop ((wI6 (Int.tdiv (max n (0 : Int)) (32 : Int))).toNat)).map qaF).length = ((x1.take x1.length).drop ((wI6 (Int.tdiv (max n (0 : Int)) (32 : Int))).toNat)).length) <| aN) (ih _ _ h cx hn)
   ·obtain ⟨x8, h9, h⟩ := qaU h
    have h := oinj h; subst h
    exact wkR [rg1, rgG [oo, opI (.call [[1]] [(tl 1 a qaF)] (tl 1 x1 qaF)), oo], rg3, rg6, rgG [oo, oo, opI (.ln (x1.length : Int)), oo], bFa, rgG [oo, oo, opI (.slT ((wI6 (Int.tdiv (max n (0 : Int)) (32 : Int))).toNat) x1.length (((x1.take x1.length).drop ((wI6 (Int.tdiv (max n (0 : Int)) (32 : Int))).toNat)).map qaF)), opI (.appN (((x1.take x1.length).drop ((wI6 (Int.tdiv (max n (0 : Int)) (32 : Int))).toNat)).map qaF)), oo], rg2, bFa, rgG [oo, .snap 58 (max 0 (0 + (((x1.take x1.length).drop ((wI6 (Int.tdiv (max n (0 : Int)) (32 : Int))).toNat)).map qaF).length)) (((x1.take x1.length).drop ((wI6 (Int.tdiv (max n (0 : Int)) (32 : Int))).toNat)).map qaF), opI (.call [[1]] [(TV.c (T.sl 1 (((x1.take x1.length).drop ((wI6 (Int.tdiv (max n (0 : Int)) (32 : Int))).toNat)).map qaF)))] (tl 1 x8 qaF)), oo]] hn (aC (qa5 h2) <| aC (qdI x1 qaF) <| aC h3 <| aC (⟨h4.1, rfl⟩ : 0 ≤ (wI6 (Int.tdiv (max n (0 : Int)) (32 : Int))) ∧ (wI6 (Int.tdiv (max n (0 : Int)) (32 : Int))).toNat = (wI6 (Int.tdiv (max n (0 : Int)) (32 : Int))).toNat) <| aC (by simp : x1.length = (x1.map qaF).length) <| aC h4.2.1 <| aC (zm8 _ h4.2.2 : x1.length ≤ (x1.map qaF).length) <| aC (zqL _ _ _ _ : ((x1.map qaF).take x1.length).drop ((wI6 (Int.tdiv (max n (0 : Int)) (32 : Int))).toNat) = ((x1.take x1.length).drop ((wI6 (Int.tdiv (max n (0 : Int)) (32 : Int))).toNat)).map qaF) <| aC (rfl : ((x1.take x1.length).drop ((wI6 (Int.tdiv (max n (0 : Int)) (32 : Int))).toNat)).map qaF = ((x1.take x1.length).drop ((wI6 (Int.tdiv (max n (0 : Int)) (32 : Int))).toNat)).map qaF) <| aC ((qcZ _ _).symm ▸ of_decide_eq_true h6 : 0 < (((x1.take x1.length).drop ((wI6 (Int.tdiv (max n (0 : Int)) (32 : Int))).toNat)).map qaF).length) <| aC ((qcZ _ _).symm ▸ h5 : (((x1.take x1.length).drop ((wI6 (Int.tdiv (max n (0 : Int)) (32 : Int))).toNat)).map qaF).length * 4 ≤ 140737488355328) <| aC ((qcZ _ _).symm ▸ room (by decide) h5 : (((x1.take x1.length).drop ((wI6 (Int.tdiv (max n (0 : Int)) (32 : Int))).toNat)).map qaF).length ≤ maxLen) <| aC h7 <| aC (qeH _ _ _ (by simp) : ((((x1.take x1.length).drop ((wI6 (Int.tdiv (max n (0 : Int)) (32 : Int))).toNat)).map qaF).drop 0).take ((((x1.take x1.length).drop ((wI6 (Int.tdiv (max n (0 : Int)) (32 : Int))).toNat)).map qaF).length) = ((x1.take x1.length).drop ((wI6 (Int.tdiv (max n (0 : Int)) (32 : Int))).toNat)).map qaF) <| aC (rfl : (max 0 (0 + (((x1.take x1.length).drop ((wI6 (Int.tdiv (max n (0 : Int)) (32 : Int))).toNat)).map qaF).length)) = (max 0 (0 + (((x1.take x1.length).drop ((wI6 (Int.tdiv (max n (0 : Int)) (32 : Int))).toNat)).map qaF).length))) <| aC (qa5 h9) <| aN)
  ·rcases qa0 h with ⟨h7, h⟩ | ⟨h7, h⟩
   ·exact wkG [rg1, rgG [oo, opI (.call [[1]] [(tl 1 a qaF)] (tl 1 x1 qaF)), oo], rg3, rg6, rgG [oo, oo, opI (.ln (x1.length : Int)), oo], bFa, rgG [oo, oo, opI (.slT ((wI6 (Int.tdiv (max n (0 : Int)) (32 : Int))).toNat) x1.length (((x1.take x1.length).drop ((wI6 (Int.tdiv (max n (0 : Int)) (32 : Int))).toNat)).map qaF)), .op .app0, oo], rg2, bTr, rg3, .pre [.keep [6,7,29,30] []]] hn (aC (qa5 h2) <| aC (qdI x1 qaF) <| aC h3 <| aC (⟨h4.1, rfl⟩ : 0 ≤ (wI6 (Int.tdiv (max n (0 : Int)) (32 : Int))) ∧ (wI6 (Int.tdiv (max n (0 : Int)) (32 : Int))).toNat = (wI6 (Int.tdiv (max n (0 : Int)) (32 : Int))).toNat) <| aC (by simp : x1.length = (x1.map qaF).length) <| aC h4.2.1 <| aC (zm8 _ h4.2.2 : x1.length ≤ (x1.map qaF).length) <| aC (zqL _ _ _ _ : ((x1.map qaF).take x1.length).drop ((wI6 (Int.tdiv (max n (0 : Int)) (32 : Int))).toNat) = ((x1.take x1.length).drop ((wI6 (Int.tdiv (max n (0 : Int)) (32 : Int))).toNat)).map qaF) <| aC (by rw [show ((x1.take x1.length).drop ((wI6 (Int.tdiv (max n (0 : Int)) (32 : Int))).toNat)) = [] from List.eq_nil_of_length_eq_zero (by have := of_decide_eq_false h6; omega)]; simp : ((x1.take x1.length).drop ((wI6 (Int.tdiv (max n (0 : Int)) (32 : Int))).toNat)).map qaF = []) <| aC h7 <| aN) (ih _ _ h cx hn)
   ·obtain ⟨x8, h9, h⟩ := qaU h
    have h := oinj h; subst h
    exact wkR [rg1, rgG [oo, opI (.call [[1]] [(tl 1 a qaF)] (tl 1 x1 qaF)), oo], rg3, rg6, rgG [oo, oo, opI (.ln (x1.length : Int)), oo], bFa, rgG [oo, oo, opI (.slT ((wI6 (Int.tdiv (max n (0 : Int)) (32 : Int))).toNat) x1.length (((x1.take x1.length).drop ((wI6 (Int.tdiv (max n (0 : Int)) (32 : Int))).toNat)).map qaF)), .op .app0, oo], rg2, bFa, rgG [oo, opI (.call [[1]] [(TV.c (T.sl 1 ([].map qaF)))] (tl 1 x8 qaF)), oo]] hn (aC (qa5 h2) <| aC (qdI x1 qaF) <| aC h3 <| aC (⟨h4.1, rfl⟩ : 0 ≤ (wI6 (Int.tdiv (max n (0 : Int)) (32 : Int))) ∧ (wI6 (Int.tdiv (max n (0 : Int)) (32 : Int))).toNat = (wI6 (Int.tdiv (max n (0 : Int)) (32 : Int))).toNat) <| aC (by simp : x1.length = (x1.map qaF).length) <| aC h4.2.1 <| aC (zm8 _ h4.2.2 : x1.length ≤ (x1.map qaF).length) <| aC (zqL _ _ _ _ : ((x1.map qaF).take x1.length).drop ((wI6 (Int.tdiv (max n (0 : Int)) (32 : Int))).toNat) = ((x1.take x1.length).drop ((wI6 (Int.tdiv (max n (0 : Int)) (32 : Int))).toNat)).map qaF) <| aC (by rw [show ((x1.take x1.length).drop ((wI6 (Int.tdiv (max n (0 : Int)) (32 : Int))).toNat)) = [] from List.eq_nil_of_length_eq_zero (by have := of_decide_eq_false h6; omega)]; simp : ((x1.take x1.length).drop ((wI6 (Int.tdiv (max n (0 : Int)) (32 : Int))).toNat)).map qaF = []) <| aC h7 <| aC (qa5 h9) <| aN)
theorem zkQ {K} (ih : qsP K) {cx} (hn : cx.n = 60) {r25 shift t29 t30} {r} (h : qdJ (K + 1) (.c1 r25 shift t29 t30) = some r) : qsO cx (.c1 r25 shift t29 t30) r := by
 rw [qdJ] at h
 rcases qa0 h with ⟨h1, h⟩ | ⟨h1, h⟩
 ·rcases qa0 h with ⟨h2, h⟩ | ⟨h2, h⟩
  ·obtain ⟨x3, h4, h⟩ := qaU h
   obtain ⟨h5, h⟩ := qbV h
   obtain ⟨x6, h7, h⟩ := qaU h
   obtain ⟨h8, h⟩ := qbV h
   obtain ⟨x9, h10, h⟩ := qaU h
   exact wkG [.go, rg1, bTr, rg2, rg1, rg5, bTr, rgG [oo, oo, oo, .op .ir, opI (.ld (qaF x3)), oo, oo, .op .dv, oo], rgG [oo, oo, oo, oo, .op .ir, opI (.ld (qaF x6)), oo, .op .dv, oo, oo, .op .ir, opI (.st (qaF x9) ((r25.set (t30.toNat) (bits .or .u32 (qdG .u32 x6 shift) (qi3 .u32 x3 (wI6 ((32 : Int) - shift))))).map qaF))], .pre [.rl 7 0 (r25.set (t30.toNat) (bits .or .u32 (qdG .u32 x6 shift) (qi3 .u32 x3 (wI6 ((32 : Int) - shift))))).length, .keep [6,7,29,30] [25]]] hn (aC h1 <| aC h2 <| aC (qb5 h4) <| aC (qc1 h4 (by simp) : (wI6 (t30 + (1 : Int))) < ((r25.length : Nat) : Int)) <| aC (qc2 qaF h4 : (r25.map qaF)[(0 + (wI6 (t30 + (1 : Int))).toNat)]? = some (qaF x3)) <| aC h5 <| aC (qb5 h7) <| aC (qc1 h7 (by simp) : t30 < ((r25.length : Nat) : Int)) <| aC (qc2 qaF h7 : (r25.map qaF)[(0 + t30.toNat)]? = some (qaF x6)) <| aC h8 <| aC (qb5 h10) <| aC (qc1 h10 (by simp) : t30 < ((r25.length : Nat) : Int)) <| aC (qc2 qaF h10 : (r25.map qaF)[(0 + t30.toNat)]? = some (qaF x9)) <| aC (qe8 _ _ (bits .or .u32 (qdG .u32 x6 shift) (qi3 .u32 x3 (wI6 ((32 : Int) - shift)))) _ : (r25.map qaF).set (0 + t30.toNat) (qdH (qaF x9) 0 [(T.int .u32 (bits .or .u32 (qdG .u32 x6 shift) (qi3 .u32 x3 (wI6 ((32 : Int) - shift)))))]) = (r25.set (t30.toNat) (bits .or .u32 (qdG .u32 x6 shift) (qi3 .u32 x3 (wI6 ((32 : Int) - shift))))).map qaF) <| aC (Nat.zero_le _ : 0 ≤ (0 + t30.toNat)) <| aC r0 <| aC (by simp : r25.length = (r25.set (t30.toNat) (bits .or .u32 (qdG .u32 x6 shift) (qi3 .u32 x3 (wI6 ((32 : Int) - shift))))).length) <| aN) (ih _ _ h cx hn)
  ·obtain ⟨x3, h4, h⟩ := qaU h
   obtain ⟨h5, h⟩ := qbV h
   obtain ⟨x6, h7, h⟩ := qaU h
   exact wkG [.go, rg1, bTr, rg2, rg1, rg5, bFa, rgG [oo, oo, oo, oo, .op .ir, opI (.ld (qaF x3)), oo, .op .dv, oo, oo, .op .ir, opI (.st (qaF x6) ((r25.set (t30.toNat) (bits .or .u32 (qdG .u32 x3 shift) (0 : Int))).map qaF))], .pre [.rl 7 0 (r25.set (t30.toNat) (bits .or .u32 (qdG .u32 x3 shift) (0 : Int))).length, .keep [6,7,29,30] [25]]] hn (aC h1 <| aC h2 <| aC (qb5 h4) <| aC (qc1 h4 (by simp) : t30 < ((r25.length : Nat) : Int)) <| aC (qc2 qaF h4 : (r25.map qaF)[(0 + t30.toNat)]? = some (qaF x3)) <| aC h5 <| aC (qb5 h7) <| aC (qc1 h7 (by simp) : t30 < ((r25.length : Nat) : Int)) <| aC (qc2 qaF h7 : (r25.map qaF)[(0 + t30.toNat)]? = some (qaF x6)) <| aC (qe8 _ _ (bits .or .u32 (qdG .u32 x3 shift) (0 : Int)) _ : (r25.map qaF).set (0 + t30.toNat) (qdH (qaF x6) 0 [(T.int .u32 (bits .or .u32 (qdG .u32 x3 shift) (0 : Int)))]) = (r25.set (t30.toNat) (bits .or .u32 (qdG .u32 x3 shift) (0 : Int))).map qaF) <| aC (Nat.zero_le _ : 0 ≤ (0 + t30.toNat)) <| aC r0 <| aC (by simp : r25.length = (r25.set (t30.toNat) (bits .or .u32 (qdG .u32 x3 shift) (0 : Int))).length) <| aN) (ih _ _ h cx hn)
 ·obtain ⟨x2, h3, h⟩ := qaU h
  have h := oinj h; subst h
  exact wkR [.go, rg1, bFa, rgG [oo, .snap 58 (max 0 (0 + r25.length)) (r25.map qaF), opI (.call [[1]] [(tl 1 r25 qaF)] (tl 1 x2 qaF)), oo]] hn (aC h1 <| aC (qeH _ _ _ (by simp) : ((r25.map qaF).drop 0).take r25.length = r25.map qaF) <| aC (rfl : (max 0 (0 + r25.length)) = (max 0 (0 + r25.length))) <| aC (qa5 h3) <| aN)
theorem zkP {K} (_ : qsP K) {cx} (hn : cx.n = 60) {shift t29 t30} {r} (h : qdJ (K + 1) (.c2 shift t29 t30) = some r) : qsO cx (.c2 shift t29 t30) r := by
 rw [qdJ] at h
 rcases qa0 h with ⟨h1, h⟩ | ⟨h1, h⟩
 ·rcases qa0 h with ⟨h2, h⟩ | ⟨h2, h⟩
  ·cases h
  ·cases h
 ·obtain ⟨x2, h3, h⟩ := qaU h
  have h := oinj h; subst h
  exact wkR [.go, rg1, bFa, rgG [oo, opI (.call [[1]] [(TV.c (T.sl 1 ([].map qaF)))] (tl 1 x2 qaF)), oo]] hn (aC h1 <| aC (qa5 h3) <| aN)
theorem zkO {K} (ih : qsP K) {cx} (hn : cx.n = 60) {r25 shift t29 t30} {r} (h : qdJ (K + 1) (.c3 r25 shift t29 t30) = some r) : qsO cx (.c3 r25 shift t29 t30) r := by
 rw [qdJ] at h
 exact wkG [rg2, .pre [.rl 7 0 r25.length, .keep [6,7,29,30] [25]]] hn (aC r0 <| aC (lq r25) <| aN) (ih _ _ h cx hn)
theorem qo7 : ∀ K : Nat, qsP K
 | 0, c, r, h => by rw [qdJ] at h; cases h
 | K + 1, .c0 .., r, h => fun cx hn => zkR (qo7 K) hn h
 | K + 1, .c1 .., r, h => fun cx hn => zkQ (qo7 K) hn h
 | K + 1, .c2 .., r, h => fun cx hn => zkP (qo7 K) hn h
 | K + 1, .c3 .., r, h => fun cx hn => zkO (qo7 K) hn h
theorem qyY {K : Nat} {a : (List Int)} {n : Int} {r : (List Int)} (h : qwG K a n = some r) : qc7 prog 213 [(tl 1 a qaF), (ti .i64 n)] (tl 1 r qaF) :=
 qbL [[1]] (by kernel_rfl) (by simp) fun cx hn => qo7 K (.c0 a n) r h cx hn
open Go.Proofs.Tryz (prog)
inductive qp6 where
 | c0 (a : (List Int)) (b : (List Int))
 | c1 (r66 : (List Int)) (r71 : (List Int)) (n : Int) (shift : Int) (v : (List Int)) (top : Int) (next : Int) (j : Int)
 | c2 (r64 : (List Int)) (r71 : (List Int)) (n : Int) (shift : Int) (v : (List Int)) (top : Int) (next : Int) (j : Int)
 | c3 (r66 : (List Int)) (r71 : (List Int)) (n : Int) (shift : Int) (v : (List Int)) (top : Int) (next : Int) (j : Int) (guess : Int) (rest : Int)
 | c4 (r64 : (List Int)) (r71 : (List Int)) (n : Int) (shift : Int) (v : (List Int)) (top : Int) (next : Int) (j : Int) (guess : Int) (rest : Int)
 | c5 (r66 : (List Int)) (r71 : (List Int)) (n : Int) (shift : Int) (v : (List Int)) (top : Int) (next : Int) (j : Int) (guess : Int)
 | c6 (r64 : (List Int)) (r71 : (List Int)) (n : Int) (shift : Int) (v : (List Int)) (top : Int) (next : Int) (j : Int) (guess : Int)
 | c7 (r66 : (List Int)) (r71 : (List Int)) (n : Int) (shift : Int) (v : (List Int)) (top : Int) (next : Int) (j : Int) (guess : Int) (carry : Int) (borrow : Int) (t141 : (List Int)) (t142 : Int) (t143 : Int)
 | c8 (r64 : (List Int)) (r71 : (List Int)) (n : Int) (shift : Int) (v : (List Int)) (top : Int) (next : Int) (j : Int) (guess : Int) (carry : Int) (borrow : Int) (t141 : (List Int)) (t142 : Int) (t143 : Int)
 | c9 (r66 : (List Int)) (r71 : (List Int)) (n : Int) (shift : Int) (v : (List Int)) (top : Int) (next : Int) (j : Int)
 | c10 (r66 : (List Int)) (r71 : (List Int)) (n : Int) (shift : Int) (v : (List Int)) (top : Int) (next : Int) (j : Int) (sum : Int) (t210 : (List Int)) (t211 : Int) (t212 : Int)
 | c11 (r64 : (List Int)) (r71 : (List Int)) (n : Int) (shift : Int) (v : (List Int)) (top : Int) (next : Int) (j : Int)
 | c12 (r64 : (List Int)) (r71 : (List Int)) (n : Int) (shift : Int) (v : (List Int)) (top : Int) (next : Int) (j : Int) (sum : Int) (t210 : (List Int)) (t211 : Int) (t212 : Int)
def qaX : Nat → qp6 → Option ((List Int) × (List Int))
 | 0, _ => none
 | K + 1, .c0 a b =>
  (qgN K b).bind fun x1 =>
  (qrR K a x1).bind fun x3 =>
  bif (decide (x3 < (0 : Int))) then
   (qgN K a).bind fun x6 =>
   some ([], x6)
  else
   bif (decide ((x1.length : Int) = (1 : Int))) then
    (gi x1 (0 : Int)).bind fun x7 =>
    (qrB K a x7).bind fun x9 =>
    (qp1 K (wU6 x9.2.1)).bind fun x11 =>
    some (x9.1, x11)
   else
    (gi x1 (wI6 ((x1.length : Int) - (1 : Int)))).bind fun x7 =>
    (qjN K x7).bind fun x9 =>
    (qz6 K x1 x9).bind fun x11 =>
    (qt5 K a x9).bind fun x13 => match x13 with
    | none =>
     gd (0 ≤ (wI6 ((((([(0 : Int)] : List Int).map qaF).length : Nat) : Int) - (x1.length : Int))) ∧ (wI6 ((((([(0 : Int)] : List Int).map qaF).length : Nat) : Int) - (x1.length : Int))) ≤ (wI6 ((((([(0 : Int)] : List Int).map qaF).length : Nat) : Int) - (x1.length : Int))) ∧ (4 : Int) * (wI6 ((((([(0 : Int)] : List Int).map qaF).length : Nat) : Int) - (x1.length : Int))) ≤ 140737488355328) <|
     (gi x11 (wI6 ((x1.length : Int) - (1 : Int)))).bind fun x17 =>
     (gi x11 (wI6 ((x1.length : Int) - (2 : Int)))).bind fun x19 =>
     qaX K (.c1 ([(0 : Int)] : List Int) (List.replicate (wI6 ((((([(0 : Int)] : List Int).map qaF).length : Nat) : Int) - (x1.length : Int))).toNat ((0 : Int) : Int)) (x1.length : Int) x9 x11 (wU6 x17) (wU6 x19) (wI6 ((wI6 ((((([(0 : Int)] : List Int).map qaF).length : Nat) : Int) - (x1.length : Int))) - (1 : Int))))
    | some l15 =>
     gd ((l15 ++ ([(0 : Int)] : List Int)).length * 4 ≤ 140737488355328) <|
     gd (0 ≤ (wI6 (((((l15 ++ ([(0 : Int)] : List Int)).map qaF).length : Nat) : Int) - (x1.length : Int))) ∧ (wI6 (((((l15 ++ ([(0 : Int)] : List Int)).map qaF).length : Nat) : Int) - (x1.length : Int))) ≤ (wI6 (((((l15 ++ ([(0 : Int)] : List Int)).map qaF).length : Nat) : Int) - (x1.length : Int))) ∧ (4 : Int) * (wI6 (((((l15 ++ ([(0 : Int)] : List Int)).map qaF).length : Nat) : Int) - (x1.length : Int))) ≤ 140737488355328) <|
     (gi x11 (wI6 ((x1.length : Int) - (1 : Int)))).bind fun x18 =>
     (gi x11 (wI6 ((x1.length : Int) - (2 : Int)))).bind fun x20 =>
     qaX K (.c2 (l15 ++ ([(0 : Int)] : List Int)) (List.replicate (wI6 (((((l15 ++ ([(0 : Int)] : List Int)).map qaF).length : Nat) : Int) - (x1.length : Int))).toNat ((0 : Int) : Int)) (x1.length : Int) x9 x11 (wU6 x18) (wU6 x20) (wI6 ((wI6 (((((l15 ++ ([(0 : Int)] : List Int)).map qaF).length : Nat) : Int) - (x1.length : Int))) - (1 : Int))))
 | K + 1, .c1 r66 r71 n shift v top next j =>
  bif (decide ((0 : Int) ≤ j)) then
   (gi r66 (wI6 (j + n))).bind fun x2 =>
   (gi r66 (wI6 ((wI6 (j + n)) - (1 : Int)))).bind fun x4 =>
   (qpB K (0 : Int) (bits .or .u64 (qi3 .u64 (wU6 x2) (32 : Int)) (wU6 x4)) top).bind fun x6 =>
   qaX K (.c3 r66 r71 n shift v top next j x6.1 x6.2)
  else
   (qgN K r71).bind fun x2 =>
   gd (0 ≤ n ∧ 0 ≤ n.toNat ∧ n.toNat ≤ r66.length) <|
   (qwG K (r66.take n.toNat) shift).bind fun x5 =>
   some (x2, x5)
 | K + 1, .c2 r64 r71 n shift v top next j =>
  bif (decide ((0 : Int) ≤ j)) then
   (gi r64 (wI6 (j + n))).bind fun x2 =>
   (gi r64 (wI6 ((wI6 (j + n)) - (1 : Int)))).bind fun x4 =>
   (qpB K (0 : Int) (bits .or .u64 (qi3 .u64 (wU6 x2) (32 : Int)) (wU6 x4)) top).bind fun x6 =>
   qaX K (.c4 r64 r71 n shift v top next j x6.1 x6.2)
  else
   (qgN K r71).bind fun x2 =>
   gd (0 ≤ n ∧ 0 ≤ n.toNat ∧ n.toNat ≤ r64.length) <|
   (qwG K (r64.take n.toNat) shift).bind fun x5 =>
   some (x2, x5)
 | K + 1, .c3 r66 r71 n shift v top next j guess rest =>
  bif (decide ((4294967296 : Int) ≤ guess)) then
   bif (decide ((4294967296 : Int) ≤ (wU6 (rest + top)))) then
    qaX K (.c5 r66 r71 n shift v top next j (wU6 (guess - (1 : Int))))
   else
    qaX K (.c3 r66 r71 n shift v top next j (wU6 (guess - (1 : Int))) (wU6 (rest + top)))
  else
   (gi r66 (wI6 ((wI6 (j + n)) - (2 : Int)))).bind fun x2 =>
   bif (decide ((bits .or .u64 (qi3 .u64 rest (32 : Int)) (wU6 x2)) < (wU6 (guess * next)))) then
    bif (decide ((4294967296 : Int) ≤ (wU6 (rest + top)))) then
     qaX K (.c5 r66 r71 n shift v top next j (wU6 (guess - (1 : Int))))
    else
     qaX K (.c3 r66 r71 n shift v top next j (wU6 (guess - (1 : Int))) (wU6 (rest + top)))
   else
    qaX K (.c5 r66 r71 n shift v top next j guess)
 | K + 1, .c4 r64 r71 n shift v top next j guess rest =>
  bif (decide ((4294967296 : Int) ≤ guess)) then
   bif (decide ((4294967296 : Int) ≤ (wU6 (rest + top)))) then
    qaX K (.c6 r64 r71 n shift v top next j (wU6 (guess - (1 : Int))))
   else
    qaX K (.c4 r64 r71 n shift v top next j (wU6 (guess - (1 : Int))) (wU6 (rest + top)))
  else
   (gi r64 (wI6 ((wI6 (j + n)) - (2 : Int)))).bind fun x2 =>
   bif (decide ((bits .or .u64 (qi3 .u64 rest (32 : Int)) (wU6 x2)) < (wU6 (guess * next)))) then
    bif (decide ((4294967296 : Int) ≤ (wU6 (rest + top)))) then
     qaX K (.c6 r64 r71 n shift v top next j (wU6 (guess - (1 : Int))))
    else
     qaX K (.c4 r64 r71 n shift v top next j (wU6 (guess - (1 : Int))) (wU6 (rest + top)))
   else
    qaX K (.c6 r64 r71 n shift v top next j guess)
 | K + 1, .c5 r66 r71 n shift v top next j guess =>
  qaX K (.c7 r66 r71 n shift v top next j guess (0 : Int) (0 : Int) v (v.length : Int) (0 : Int))
 | K + 1, .c6 r64 r71 n shift v top next j guess =>
  qaX K (.c8 r64 r71 n shift v top next j guess (0 : Int) (0 : Int) v (v.length : Int) (0 : Int))
 | K + 1, .c7 r66 r71 n shift v top next j guess carry borrow t141 t142 t143 =>
  bif (decide (t143 < t142)) then
   (gi t141 t143).bind fun x2 =>
   (gi r66 (wI6 (t143 + j))).bind fun x4 =>
   (gi r66 (wI6 (t143 + j))).bind fun _ =>
   qaX K (.c7 (r66.set ((wI6 (t143 + j)).toNat) (wU3 (wU6 ((wU6 ((wU6 x4) - borrow)) - (bits .and .u64 (wU6 ((wU6 (guess * (wU6 x2))) + carry)) (4294967295 : Int)))))) r71 n shift v top next j guess (qdG .u64 (wU6 ((wU6 (guess * (wU6 x2))) + carry)) (32 : Int)) (qdG .u64 (wU6 ((wU6 ((wU6 x4) - borrow)) - (bits .and .u64 (wU6 ((wU6 (guess * (wU6 x2))) + carry)) (4294967295 : Int)))) (63 : Int)) t141 t142 (wI6 (t143 + (1 : Int))))
  else
   (gi r66 (wI6 (j + n))).bind fun x2 =>
   (gi r66 (wI6 (j + n))).bind fun _ =>
   (gi r71 j).bind fun _ =>
   bif (decide ((qdG .u64 (wU6 ((wU6 ((wU6 x2) - borrow)) - carry)) (63 : Int)) = (0 : Int))) then
    qaX K (.c9 (r66.set ((wI6 (j + n)).toNat) (wU3 (wU6 ((wU6 ((wU6 x2) - borrow)) - carry)))) (r71.set (j.toNat) (wU3 guess)) n shift v top next j)
   else
    (gi (r71.set (j.toNat) (wU3 guess)) j).bind fun x9 =>
    (gi (r71.set (j.toNat) (wU3 guess)) j).bind fun _ =>
    qaX K (.c10 (r66.set ((wI6 (j + n)).toNat) (wU3 (wU6 ((wU6 ((wU6 x2) - borrow)) - carry)))) ((r71.set (j.toNat) (wU3 guess)).set (j.toNat) (wU3 (x9 - (1 : Int)))) n shift v top next j (0 : Int) v (v.length : Int) (0 : Int))
 | K + 1, .c8 r64 r71 n shift v top next j guess carry borrow t141 t142 t143 =>
  bif (decide (t143 < t142)) then
   (gi t141 t143).bind fun x2 =>
   (gi r64 (wI6 (t143 + j))).bind fun x4 =>
   (gi r64 (wI6 (t143 + j))).bind fun _ =>
   qaX K (.c8 (r64.set ((wI6 (t143 + j)).toNat) (wU3 (wU6 ((wU6 ((wU6 x4) - borrow)) - (bits .and .u64 (wU6 ((wU6 (guess * (wU6 x2))) + carry)) (4294967295 : Int)))))) r71 n shift v top next j guess (qdG .u64 (wU6 ((wU6 (guess * (wU6 x2))) + carry)) (32 : Int)) (qdG .u64 (wU6 ((wU6 ((wU6 x4) - borrow)) - (bits .and .u64 (wU6 ((wU6 (guess * (wU6 x2))) + carry)) (4294967295 : Int)))) (63 : Int)) t141 t142 (wI6 (t143 + (1 : Int))))
  else
   (gi r64 (wI6 (j + n))).bind fun x2 =>
   (gi r64 (wI6 (j + n))).bind fun _ =>
   (gi r71 j).bind fun _ =>
   bif (decide ((qdG .u64 (wU6 ((wU6 ((wU6 x2) - borrow)) - carry)) (63 : Int)) = (0 : Int))) then
    qaX K (.c11 (r64.set ((wI6 (j + n)).toNat) (wU3 (wU6 ((wU6 ((wU6 x2) - borrow)) - carry)))) (r71.set (j.toNat) (wU3 guess)) n shift v top next j)
   else
    (gi (r71.set (j.toNat) (wU3 guess)) j).bind fun x9 =>
    (gi (r71.set (j.toNat) (wU3 guess)) j).bind fun _ =>
    qaX K (.c12 (r64.set ((wI6 (j + n)).toNat) (wU3 (wU6 ((wU6 ((wU6 x2) - borrow)) - carry)))) ((r71.set (j.toNat) (wU3 guess)).set (j.toNat) (wU3 (x9 - (1 : Int)))) n shift v top next j (0 : Int) v (v.length : Int) (0 : Int))
 | K + 1, .c9 r66 r71 n shift v top next j =>
  qaX K (.c1 r66 r71 n shift v top next (wI6 (j - (1 : Int))))
 | K + 1, .c10 r66 r71 n shift v top next j sum t210 t211 t212 =>
  bif (decide (t212 < t211)) then
   (gi t210 t212).bind fun x2 =>
   (gi r66 (wI6 (t212 + j))).bind fun x4 =>
   (qjB K x4 x2 sum).bind fun x6 =>
   (gi r66 (wI6 (t212 + j))).bind fun _ =>
   qaX K (.c10 (r66.set ((wI6 (t212 + j)).toNat) x6.1) r71 n shift v top next j x6.2 t210 t211 (wI6 (t212 + (1 : Int))))
  else
   (gi r66 (wI6 (j + n))).bind fun x2 =>
   (gi r66 (wI6 (j + n))).bind fun _ =>
   qaX K (.c9 (r66.set ((wI6 (j + n)).toNat) (wU3 (x2 + sum))) r71 n shift v top next j)
 | K + 1, .c11 r64 r71 n shift v top next j =>
  qaX K (.c2 r64 r71 n shift v top next (wI6 (j - (1 : Int))))
 | K + 1, .c12 r64 r71 n shift v top next j sum t210 t211 t212 =>
  bif (decide (t212 < t211)) then
   (gi t210 t212).bind fun x2 =>
   (gi r64 (wI6 (t212 + j))).bind fun x4 =>
   (qjB K x4 x2 sum).bind fun x6 =>
   (gi r64 (wI6 (t212 + j))).bind fun _ =>
   qaX K (.c12 (r64.set ((wI6 (t212 + j)).toNat) x6.1) r71 n shift v top next j x6.2 t210 t211 (wI6 (t212 + (1 : Int))))
  else
   (gi r64 (wI6 (j + n))).bind fun x2 =>
   (gi r64 (wI6 (j + n))).bind fun _ =>
   qaX K (.c11 (r64.set ((wI6 (j + n)).toNat) (wU3 (x2 + sum))) r71 n shift v top next j)
def qnU (K : Nat) (a : (List Int)) (b : (List Int)) : Option ((List Int) × (List Int)) := qaX K (.c0 a b)
noncomputable def qa4 : Code := qcS prog 170
noncomputable def zc6 : qp6 → List Fr
 | .c0 .. => [.code qa4]
 | .c1 .. => [.code (.loop (atC qa4 [1,0,1,1,1,1,1,1,1,1,1,1,0,1,0,0])), .blk 0, .code (atC qa4 [1,0,1,1,1,1,1,1,1,1,1,1,1]), .sc]
 | .c2 .. => [.code (.loop (atC qa4 [1,0,1,1,1,1,1,1,1,1,1,1,0,1,0,0])), .blk 0, .code (atC qa4 [1,0,1,1,1,1,1,1,1,1,1,1,1]), .sc]
 | .c3 .. => [.code (.loop (atC qa4 [1,0,1,1,1,1,1,1,1,1,1,1,0,1,0,0,1,0,0,1,0,0,0])), .blk 2, .code (atC qa4 [1,0,1,1,1,1,1,1,1,1,1,1,0,1,0,0,1,0,0,1,1]), .blk 1, .code (atC qa4 [1,0,1,1,1,1,1,1,1,1,1,1,0,1,0,0,1,1]), .lp (atC qa4 [1,0,1,1,1,1,1,1,1,1,1,1,0,1,0,0]), .blk 0, .code (atC qa4 [1,0,1,1,1,1,1,1,1,1,1,1,1]), .sc]
 | .c4 .. => [.code (.loop (atC qa4 [1,0,1,1,1,1,1,1,1,1,1,1,0,1,0,0,1,0,0,1,0,0,0])), .blk 2, .code (atC qa4 [1,0,1,1,1,1,1,1,1,1,1,1,0,1,0,0,1,0,0,1,1]), .blk 1, .code (atC qa4 [1,0,1,1,1,1,1,1,1,1,1,1,0,1,0,0,1,1]), .lp (atC qa4 [1,0,1,1,1,1,1,1,1,1,1,1,0,1,0,0]), .blk 0, .code (atC qa4 [1,0,1,1,1,1,1,1,1,1,1,1,1]), .sc]
 | .c5 .. => [.code (atC qa4 [1,0,1,1,1,1,1,1,1,1,1,1,0,1,0,0,1,0,0,1,1,0]), .code (atC qa4 [1,0,1,1,1,1,1,1,1,1,1,1,0,1,0,0,1,0,0,1,1,1]), .blk 1, .code (atC qa4 [1,0,1,1,1,1,1,1,1,1,1,1,0,1,0,0,1,1]), .lp (atC qa4 [1,0,1,1,1,1,1,1,1,1,1,1,0,1,0,0]), .blk 0, .code (atC qa4 [1,0,1,1,1,1,1,1,1,1,1,1,1]), .sc]
 | .c6 .. => [.code (atC qa4 [1,0,1,1,1,1,1,1,1,1,1,1,0,1,0,0,1,0,0,1,1,0]), .code (atC qa4 [1,0,1,1,1,1,1,1,1,1,1,1,0,1,0,0,1,0,0,1,1,1]), .blk 1, .code (atC qa4 [1,0,1,1,1,1,1,1,1,1,1,1,0,1,0,0,1,1]), .lp (atC qa4 [1,0,1,1,1,1,1,1,1,1,1,1,0,1,0,0]), .blk 0, .code (atC qa4 [1,0,1,1,1,1,1,1,1,1,1,1,1]), .sc]
 | .c7 .. => [.code (.loop (atC qa4 [1,0,1,1,1,1,1,1,1,1,1,1,0,1,0,0,1,0,0,1,1,1,0,1,0,0])), .blk 4, .code (atC qa4 [1,0,1,1,1,1,1,1,1,1,1,1,0,1,0,0,1,0,0,1,1,1,1]), .blk 1, .code (atC qa4 [1,0,1,1,1,1,1,1,1,1,1,1,0,1,0,0,1,1]), .lp (atC qa4 [1,0,1,1,1,1,1,1,1,1,1,1,0,1,0,0]), .blk 0, .code (atC qa4 [1,0,1,1,1,1,1,1,1,1,1,1,1]), .sc]
 | .c8 .. => [.code (.loop (atC qa4 [1,0,1,1,1,1,1,1,1,1,1,1,0,1,0,0,1,0,0,1,1,1,0,1,0,0])), .blk 4, .code (atC qa4 [1,0,1,1,1,1,1,1,1,1,1,1,0,1,0,0,1,0,0,1,1,1,1]), .blk 1, .code (atC qa4 [1,0,1,1,1,1,1,1,1,1,1,1,0,1,0,0,1,1]), .lp (atC qa4 [1,0,1,1,1,1,1,1,1,1,1,1,0,1,0,0]), .blk 0, .code (atC qa4 [1,0,1,1,1,1,1,1,1,1,1,1,1]), .sc]
 | .c9 .. => [.code (atC qa4 [1,0,1,1,1,1,1,1,1,1,1,1,0,1,0,0,1,1]), .lp (atC qa4 [1,0,1,1,1,1,1,1,1,1,1,1,0,1,0,0]), .blk 0, .code (atC qa4 [1,0,1,1,1,1,1,1,1,1,1,1,1]), .sc]
 | .c10 .. => [.code (.loop (atC qa4 [1,0,1,1,1,1,1,1,1,1,1,1,0,1,0,0,1,0,0,1,1,1,1,1,1,1,1,1,1,0,1,0,0])), .blk 6, .code (atC qa4 [1,0,1,1,1,1,1,1,1,1,1,1,0,1,0,0,1,0,0,1,1,1,1,1,1,1,1,1,1,1]), .blk 1, .code (atC qa4 [1,0,1,1,1,1,1,1,1,1,1,1,0,1,0,0,1,1]), .lp (atC qa4 [1,0,1,1,1,1,1,1,1,1,1,1,0,1,0,0]), .blk 0, .code (atC qa4 [1,0,1,1,1,1,1,1,1,1,1,1,1]), .sc]
 | .c11 .. => [.code (atC qa4 [1,0,1,1,1,1,1,1,1,1,1,1,0,1,0,0,1,1]), .lp (atC qa4 [1,0,1,1,1,1,1,1,1,1,1,1,0,1,0,0]), .blk 0, .code (atC qa4 [1,0,1,1,1,1,1,1,1,1,1,1,1]), .sc]
 | .c12 .. => [.code (.loop (atC qa4 [1,0,1,1,1,1,1,1,1,1,1,1,0,1,0,0,1,0,0,1,1,1,1,1,1,1,1,1,1,0,1,0,0])), .blk 6, .code (atC qa4 [1,0,1,1,1,1,1,1,1,1,1,1,0,1,0,0,1,0,0,1,1,1,1,1,1,1,1,1,1,1]), .blk 1, .code (atC qa4 [1,0,1,1,1,1,1,1,1,1,1,1,0,1,0,0,1,1]), .lp (atC qa4 [1,0,1,1,1,1,1,1,1,1,1,1,0,1,0,0]), .blk 0, .code (atC qa4 [1,0,1,1,1,1,1,1,1,1,1,1,1]), .sc]
def zfX : qp6 → St
 | .c0 a b => St.init [(tl 1 a qaF), (tl 1 b qaF)]
 | .c1 r66 r71 n shift v top next j => ⟨[(4, .c (C.row 71 0 r71.length)), (6, vi .i64 n), (10, vi .i64 shift), (11, vl 1 v qaF), (12, .c (C.row 66 0 r66.length)), (13, vi .u64 top), (14, vi .u64 next), (15, vi .i64 j)], [(66, .row 143 1 (r66.map qaF) 0), (71, .row 143 1 (r71.map qaF) 0)], []⟩
 | .c2 r64 r71 n shift v top next j => ⟨[(4, .c (C.row 71 0 r71.length)), (6, vi .i64 n), (10, vi .i64 shift), (11, vl 1 v qaF), (12, .c (C.row 64 0 r64.length)), (13, vi .u64 top), (14, vi .u64 next), (15, vi .i64 j)], [(64, .row 143 1 (r64.map qaF) 0), (71, .row 143 1 (r71.map qaF) 0)], []⟩
 | .c3 r66 r71 n shift v top next j guess rest => ⟨[(4, .c (C.row 71 0 r71.length)), (6, vi .i64 n), (10, vi .i64 shift), (11, vl 1 v qaF), (12, .c (C.row 66 0 r66.length)), (13, vi .u64 top), (14, vi .u64 next), (15, vi .i64 j), (16, vi .u64 guess), (17, vi .u64 rest)], [(66, .row 143 1 (r66.map qaF) 0), (71, .row 143 1 (r71.map qaF) 0)], []⟩
 | .c4 r64 r71 n shift v top next j guess rest => ⟨[(4, .c (C.row 71 0 r71.length)), (6, vi .i64 n), (10, vi .i64 shift), (11, vl 1 v qaF), (12, .c (C.row 64 0 r64.length)), (13, vi .u64 top), (14, vi .u64 next), (15, vi .i64 j), (16, vi .u64 guess), (17, vi .u64 rest)], [(64, .row 143 1 (r64.map qaF) 0), (71, .row 143 1 (r71.map qaF) 0)], []⟩
 | .c5 r66 r71 n shift v top next j guess => ⟨[(4, .c (C.row 71 0 r71.length)), (6, vi .i64 n), (10, vi .i64 shift), (11, vl 1 v qaF), (12, .c (C.row 66 0 r66.length)), (13, vi .u64 top), (14, vi .u64 next), (15, vi .i64 j), (16, vi .u64 guess)], [(66, .row 143 1 (r66.map qaF) 0), (71, .row 143 1 (r71.map qaF) 0)], []⟩
 | .c6 r64 r71 n shift v top next j guess => ⟨[(4, .c (C.row 71 0 r71.length)), (6, vi .i64 n), (10, vi .i64 shift), (11, vl 1 v qaF), (12, .c (C.row 64 0 r64.length)), (13, vi .u64 top), (14, vi .u64 next), (15, vi .i64 j), (16, vi .u64 guess)], [(64, .row 143 1 (r64.map qaF) 0), (71, .row 143 1 (r71.map qaF) 0)], []⟩
 | .c7 r66 r71 n shift v top next j guess carry borrow t141 t142 t143 => ⟨[(4, .c (C.row 71 0 r71.length)), (6, vi .i64 n), (10, vi .i64 shift), (11, vl 1 v qaF), (12, .c (C.row 66 0 r66.length)), (13, vi .u64 top), (14, vi .u64 next), (15, vi .i64 j), (16, vi .u64 guess), (18, vi .u64 carry), (19, vi .u64 borrow), (141, vl 1 t141 qaF), (142, vi .i64 t142), (143, vi .i64 t143)], [(66, .row 143 1 (r66.map qaF) 0), (71, .row 143 1 (r71.map qaF) 0)], []⟩
 | .c8 r64 r71 n shift v top next j guess carry borrow t141 t142 t143 => ⟨[(4, .c (C.row 71 0 r71.length)), (6, vi .i64 n), (10, vi .i64 shift), (11, vl 1 v qaF), (12, .c (C.row 64 0 r64.length)), (13, vi .u64 top), (14, vi .u64 next), (15, vi .i64 j), (16, vi .u64 guess), (18, vi .u64 carry), (19, vi .u64 borrow), (141, vl 1 t141 qaF), (142, vi .i64 t142), (143, vi .i64 t143)], [(64, .row 143 1 (r64.map qaF) 0), (71, .row 143 1 (r71.map qaF) 0)], []⟩
 | .c9 r66 r71 n shift v top next j => ⟨[(4, .c (C.row 71 0 r71.length)), (6, vi .i64 n), (10, vi .i64 shift), (11, vl 1 v qaF), (12, .c (C.row 66 0 r66.length)), (13, vi .u64 top), (14, vi .u64 next), (15, vi .i64 j)], [(66, .row 143 1 (r66.map qaF) 0), (71, .row 143 1 (r71.map qaF) 0)], []⟩
 | .c10 r66 r71 n shift v top next j sum t210 t211 t212 => ⟨[(4, .c (C.row 71 0 r71.length)), (6, vi .i64 n), (10, vi .i64 shift), (11, vl 1 v qaF), (12, .c (C.row 66 0 r66.length)), (13, vi .u64 top), (14, vi .u64 next), (15, vi .i64 j), (25, vi .u32 sum), (210, vl 1 t210 qaF), (211, vi .i64 t211), (212, vi .i64 t212)], [(66, .row 143 1 (r66.map qaF) 0), (71, .row 143 1 (r71.map qaF) 0)], []⟩
 | .c11 r64 r71 n shift v top next j => ⟨[(4, .c (C.row 71 0 r71.length)), (6, vi .i64 n), (10, vi .i64 shift), (11, vl 1 v qaF), (12, .c (C.row 64 0 r64.length)), (13, vi .u64 top), (14, vi .u64 next), (15, vi .i64 j)], [(64, .row 143 1 (r64.map qaF) 0), (71, .row 143 1 (r71.map qaF) 0)], []⟩
 | .c12 r64 r71 n shift v top next j sum t210 t211 t212 => ⟨[(4, .c (C.row 71 0 r71.length)), (6, vi .i64 n), (10, vi .i64 shift), (11, vl 1 v qaF), (12, .c (C.row 64 0 r64.length)), (13, vi .u64 top), (14, vi .u64 next), (15, vi .i64 j), (25, vi .u32 sum), (210, vl 1 t210 qaF), (211, vi .i64 t211), (212, vi .i64 t212)], [(64, .row 143 1 (r64.map qaF) 0), (71, .row 143 1 (r71.map qaF) 0)], []⟩
def qeZ (cx : Cx) (c : qp6) (r : ((List Int) × (List Int))) : Prop := Wk prog cx (qd8 prog 170 [[1], [1]] (TV.tup [(false, [(T.sl 1 (r.1.map qaF))]), (false, [(T.sl 1 (r.2.map qaF))])])) (zc6 c) .normal (zfX c)
abbrev qe0 (K : Nat) : Prop := ∀ c r, qaX K c = some r → ∀ cx : Cx, cx.n = 251 → qeZ cx c r
theorem zf7 {K} (ih : qe0 K) {cx} (hn : cx.n = 251) {a b} {r} (h : qaX (K + 1) (.c0 a b) = some r) : qeZ cx (.c0 a b) r := by
 rw [qaX] at h
 obtain ⟨x1, h2, h⟩ := qaU h
 obtain ⟨x3, h4, h⟩ := qaU h
 rcases qa0 h with ⟨h5, h⟩ | ⟨h5, h⟩
 ·obtain ⟨x6, h7, h⟩ := qaU h
  have h := oinj h; subst h
  exact wkR [rg2, rgG [oo, opI (.call [[1]] [(tl 1 b qaF)] (tl 1 x1 qaF)), oo], rgG [oo, oo, opI (.call [[1], [1]] [(tl 1 a qaF), (tl 1 x1 qaF)] (ti .i64 x3)), oo], bTr, rgG [oo, opI (.call [[1]] [(tl 1 a qaF)] (tl 1 x6 qaF)), oo, oo]] hn (aC (qdD h2) <| aC (qg1 h4) <| aC h5 <| aC (qdD h7) <| aN)
 ·rcases qa0 h with ⟨h6, h⟩ | ⟨h6, h⟩
  ·obtain ⟨x7, h8, h⟩ := qaU h
   obtain ⟨x9, h10, h⟩ := qaU h
   obtain ⟨x11, h12, h⟩ := qaU h
   have h := oinj h; subst h
   exact wkR [rg2, rgG [oo, opI (.call [[1]] [(tl 1 b qaF)] (tl 1 x1 qaF)), oo], rgG [oo, oo, opI (.call [[1], [1]] [(tl 1 a qaF), (tl 1 x1 qaF)] (ti .i64 x3)), oo], bFa, rgG [oo, opI (.ln (x1.length : Int)), oo], rg2, bTr, rgG [oo, oo, opI (.ix (qaF x7)), oo, opI (.call [[1], [0]] [(tl 1 a qaF), (ti .u32 x7)] (TV.tup [(false, [(T.sl 1 (x9.1.map qaF))]), (false, [(T.int .u32 x9.2.1)]), (false, [(T.bool x9.2.2)])])), oo, oo, oo, oo, oo, oo, oo], rgG [oo, oo, oo, opI (.call [[0]] [(TV.c (T.int .u64 (wU6 x9.2.1)))] (tl 1 x11 qaF)), oo, oo]] hn (aC (qdD h2) <| aC (qg1 h4) <| aC h5 <| aC (qdI x1 qaF) <| aC h6 <| aC (qb5 h8) <| aC (qfP qaF h8) <| aC (q14 h10) <| aC (qlO h12) <| aN)
  ·obtain ⟨x7, h8, h⟩ := qaU h
   obtain ⟨x9, h10, h⟩ := qaU h
   obtain ⟨x11, h12, h⟩ := qaU h
   obtain ⟨x13, h14, h⟩ := qaU h
   cases x13 with
   | none =>
    obtain ⟨h16, h⟩ := qbV h
    obtain ⟨x17, h18, h⟩ := qaU h
    obtain ⟨x19, h20, h⟩ := qaU h
    exact wkG [rg2, rgG [oo, opI (.call [[1]] [(tl 1 b qaF)] (tl 1 x1 qaF)), oo], rgG [oo, oo, opI (.call [[1], [1]] [(tl 1 a qaF), (tl 1 x1 qaF)] (ti .i64 x3)), oo], bFa, rgG [oo, opI (.ln (x1.length : Int)), oo], rg2, bFa, rgG [oo, oo, oo, opI (.ix (qaF x7)), oo, opI (.call [[0]] [(ti .u32 x7)] (ti .i64 x9)), oo], rgG [oo, oo, opI (.call [[1], [0]] [(tl 1 x1 qaF), (ti .i64 x9)] (tl 1 x11 qaF)), oo], rgG [oo, oo, .callN [[1], [0]] 143 1 none, opI (.lit (([(0 : Int)] : List Int).map qaF)), opI (.appN (([(0 : Int)] : List Int).map qaF)), oo], rgG [oo, oo, oo, oo, opI (.mk (qaF (0 : Int)) ((List.replicate (wI6 ((((([(0 : Int)] : List Int).map qaF).length : Nat) : Int) - (x1.length : Int))).toNat ((0 : Int) : Int)).map qaF)), oo], .draw [.p, .p, .p, (.ix (qaF x17)), .p, .p, .p, .p, .p, (.ix (qaF x19)), .p, .p, .p] [.op .p], rg6, .pre [.rl 4 0 (List.replicate (wI6 ((((([(0 : Int)] : List Int).map qaF).length : Nat) : Int) - (x1.length : Int))).toNat ((0 : Int) : Int)).length, .rl 12 0 ([(0 : Int)] : List Int).length, .keep [4,6,10,11,12,13,14,15] [66,71]]] hn (aC (qdD h2) <| aC (qg1 h4) <| aC h5 <| aC (qdI x1 qaF) <| aC h6 <| aC (qb5 h8) <| aC (qfP qaF h8) <| aC (qm4 h10) <| aC (qyZ h12) <| aC (quI h14) <| aC (by kernel_rfl : [(T.int .u32 (0 : Int))] = (([(0 : Int)] : List Int).map qaF).flatten) <| aC (qeH _ _ _ (by simp) : ((([(0 : Int)] : List Int).map qaF).drop 0).take 1 = ([(0 : Int)] : List Int).map qaF) <| aC (by simp : 0 < (([(0 : Int)] : List Int).map qaF).length) <| aC (by simp : (([(0 : Int)] : List Int).map qaF).length * 4 ≤ 140737488355328) <| aC (by simp [maxLen] : (([(0 : Int)] : List Int).map qaF).length ≤ maxLen) <| aC h16.1 <| aC h16.2.1 <| aC h16.2.2 <| aC (quZ _ _ _ : List.replicate (wI6 ((((([(0 : Int)] : List Int).map qaF).length : Nat) : Int) - (x1.length : Int))).toNat (qaF (0 : Int)) = (List.replicate (wI6 ((((([(0 : Int)] : List Int).map qaF).length : Nat) : Int) - (x1.length : Int))).toNat ((0 : Int) : Int)).map qaF) <| aC (qb5 h18) <| aC (qfP qaF h18) <| aC (qb5 h20) <| aC (qfP qaF h20) <| aC r0 <| aC (by simp : (wI6 ((((([(0 : Int)] : List Int).map qaF).length : Nat) : Int) - (x1.length : Int))).toNat = (List.replicate (wI6 ((((([(0 : Int)] : List Int).map qaF).length : Nat) : Int) - (x1.length : Int))).toNat ((0 : Int) : Int)).length) <| aC r0 <| aC (by simp : (([(0 : Int)] : List Int).map qaF).length = ([(0 : Int)] : List Int).length) <| aN) (ih _ _ h cx hn)
   | some l15 =>
    obtain ⟨h16, h⟩ := qbV h
    obtain ⟨h17, h⟩ := qbV h
    obtain ⟨x18, h19, h⟩ := qaU h
    obtain ⟨x20, h21, h⟩ := qaU h
    exact wkG [rg2, rgG [oo, opI (.call [[1]] [(tl 1 b qaF)] (tl 1 x1 qaF)), oo], rgG [oo, oo, opI (.call [[1], [1]] [(tl 1 a qaF), (tl 1 x1 qaF)] (ti .i64 x3)), oo], bFa, rgG [oo, opI (.ln (x1.length : Int)), oo], rg2, bFa, rgG [oo, oo, oo, opI (.ix (qaF x7)), oo, opI (.call [[0]] [(ti .u32 x7)] (ti .i64 x9)), oo], rgG [oo, oo, opI (.call [[1], [0]] [(tl 1 x1 qaF), (ti .i64 x9)] (tl 1 x11 qaF)), oo], rgG [oo, oo, .callN [[1], [0]] 143 1 (some (l15.map qaF)), opI (.lit (([(0 : Int)] : List Int).map qaF)), .appR (([(0 : Int)] : List Int).map qaF) ((l15 ++ ([(0 : Int)] : List Int)).map qaF), oo], rgG [oo, oo, oo, oo, opI (.mk (qaF (0 : Int)) ((List.replicate (wI6 (((((l15 ++ ([(0 : Int)] : List Int)).map qaF).length : Nat) : Int) - (x1.length : Int))).toNat ((0 : Int) : Int)).map qaF)), oo], .draw [.p, .p, .p, (.ix (qaF x18)), .p, .p, .p, .p, .p, (.ix (qaF x20)), .p, .p, .p] [.op .p], rg6, .pre [.rl 4 0 (List.replicate (wI6 (((((l15 ++ ([(0 : Int)] : List Int)).map qaF).length : Nat) : Int) - (x1.length : Int))).toNat ((0 : Int) : Int)).length, .rl 12 0 (l15 ++ ([(0 : Int)] : List Int)).length, .keep [4,6,10,11,12,13,14,15] [64,71]]] hn (aC (qdD h2) <| aC (qg1 h4) <| aC h5 <| aC (qdI x1 qaF) <| aC h6 <| aC (qb5 h8) <| aC (qfP qaF h8) <| aC (qm4 h10) <| aC (qyZ h12) <| aC (quI h14) <| aC (by kernel_rfl : [(T.int .u32 (0 : Int))] = (([(0 : Int)] : List Int).map qaF).flatten) <| aC (lq (l15.map qaF)) <| aC (qeH _ _ _ (by simp) : ((([(0 : Int)] : List Int).map qaF).drop 0).take 1 = ([(0 : Int)] : List Int).map qaF) <| aC (qk5 _ _ _ : l15.map qaF ++ ([(0 : Int)] : List Int).map qaF = (l15 ++ ([(0 : Int)] : List Int)).map qaF) <| aC ((qcZ _ _).symm ▸ h16 : ((l15 ++ ([(0 : Int)] : List Int)).map qaF).length * 4 ≤ 140737488355328) <| aC ((qcZ _ _).symm ▸ room (by decide) h16 : ((l15 ++ ([(0 : Int)] : List Int)).map qaF).length ≤ maxLen) <| aC h17.1 <| aC h17.2.1 <| aC h17.2.2 <| aC (quZ _ _ _ : List.replicate (wI6 (((((l15 ++ ([(0 : Int)] : List Int)).map qaF).length : Nat) : Int) - (x1.length : Int))).toNat (qaF (0 : Int)) = (List.replicate (wI6 (((((l15 ++ ([(0 : Int)] : List Int)).map qaF).length : Nat) : Int) - (x1.length : Int))).toNat ((0 : Int) : Int)).map qaF) <| aC (qb5 h19) <| aC (qfP qaF h19) <| aC (qb5 h21) <| aC (qfP qaF h21) <| aC r0 <| aC (by simp : (wI6 (((((l15 ++ ([(0 : Int)] : List Int)).map qaF).length : Nat) : Int) - (x1.length : Int))).toNat = (List.replicate (wI6 (((((l15 ++ ([(0 : Int)] : List Int)).map qaF).length : Nat) : Int) - (x1.length : Int))).toNat ((0 : Int) : Int)).length) <| aC r0 <| aC (by simp : ((l15 ++ ([(0 : Int)] : List Int)).map qaF).length = (l15 ++ ([(0 : Int)] : List Int)).length) <| aN) (ih _ _ h cx hn)
theorem zf6 {K} (ih : qe0 K) {cx} (hn : cx.n = 251) {r66 r71 n shift v top next j} {r} (h : qaX (K + 1) (.c1 r66 r71 n shift v top next j) = some r) : qeZ cx (.c1 r66 r71 n shift v top next j) r := by
 rw [qaX] at h
 rcases qa0 h with ⟨h1, h⟩ | ⟨h1, h⟩
 ·obtain ⟨x2, h3, h⟩ := qaU h
  obtain ⟨x4, h5, h⟩ := qaU h
  obtain ⟨x6, h7, h⟩ := qaU h
  exact wkG [.go, rg2, bTr, .draw [.mv, .p, .p, .p, .ir, (.ld (qaF x2)), .p, .p, .mv, .p, .p, .p, .p, .ir, (.ld (qaF x4)), .p, .p, .p, (.call [[0], [0], [0]] [(TV.c (T.int .u64 (0 : Int))), (TV.c (T.int .u64 (bits .or .u64 (qi3 .u64 (wU6 x2) (32 : Int)) (wU6 x4)))), (ti .u64 top)] (TV.tup [(false, [(T.int .u64 x6.1)]), (false, [(T.int .u64 x6.2)])])), .p, .p, .p, .p] [.op .p], .pre [.rl 4 0 r71.length, .rl 12 0 r66.length, .keep [4,6,10,11,12,13,14,15,16,17] [66,71]]] hn (aC h1 <| aC (qb5 h3) <| aC (qc1 h3 (by simp) : (wI6 (j + n)) < ((r66.length : Nat) : Int)) <| aC (qc2 qaF h3 : (r66.map qaF)[(0 + (wI6 (j + n)).toNat)]? = some (qaF x2)) <| aC (qb5 h5) <| aC (qc1 h5 (by simp) : (wI6 ((wI6 (j + n)) - (1 : Int))) < ((r66.length : Nat) : Int)) <| aC (qc2 qaF h5 : (r66.map qaF)[(0 + (wI6 ((wI6 (j + n)) - (1 : Int))).toNat)]? = some (qaF x4)) <| aC (quL h7) <| aC r0 <| aC (lq r71) <| aC r0 <| aC (lq r66) <| aN) (ih _ _ h cx hn)
 ·obtain ⟨x2, h3, h⟩ := qaU h
  obtain ⟨h4, h⟩ := qbV h
  obtain ⟨x5, h6, h⟩ := qaU h
  have h := oinj h; subst h
  exact wkR [.go, rg2, bFa, .pre [.snap 4 (max 0 (0 + r71.length)) (r71.map qaF), .snap 12 (max 0 (0 + r66.length)) (r66.map qaF)], .draw [.p, (.call [[1]] [(tl 1 r71 qaF)] (tl 1 x2 qaF)), .p, .p, (.slT 0 n.toNat ((r66.take n.toNat).map qaF)), .p] [opI (.call [[1], [0]] [(TV.c (T.sl 1 ((r66.take n.toNat).map qaF))), (ti .i64 shift)] (tl 1 x5 qaF)), .op .p, .op .p]] hn (aC h1 <| aC (qeH _ _ _ (by simp) : ((r71.map qaF).drop 0).take r71.length = r71.map qaF) <| aC (rfl : (max 0 (0 + r71.length)) = (max 0 (0 + r71.length))) <| aC (qeH _ _ _ (by simp) : ((r66.map qaF).drop 0).take r66.length = r66.map qaF) <| aC (rfl : (max 0 (0 + r66.length)) = (max 0 (0 + r66.length))) <| aC (qdD h3) <| aC r0 <| aC (⟨h4.1, rfl⟩ : 0 ≤ n ∧ n.toNat = n.toNat) <| aC h4.2.1 <| aC (zm8 _ h4.2.2 : n.toNat ≤ (r66.map qaF).length) <| aC (zgP _ _ _ : ((r66.map qaF).take n.toNat).drop 0 = (r66.take n.toNat).map qaF) <| aC (qyY h6) <| aN)
theorem zf5 {K} (ih : qe0 K) {cx} (hn : cx.n = 251) {r64 r71 n shift v top next j} {r} (h : qaX (K + 1) (.c2 r64 r71 n shift v top next j) = some r) : qeZ cx (.c2 r64 r71 n shift v top next j) r := by
 rw [qaX] at h
 rcases qa0 h with ⟨h1, h⟩ | ⟨h1, h⟩
 ·obtain ⟨x2, h3, h⟩ := qaU h
  obtain ⟨x4, h5, h⟩ := qaU h
  obtain ⟨x6, h7, h⟩ := qaU h
  exact wkG [.go, rg2, bTr, .draw [.mv, .p, .p, .p, .ir, (.ld (qaF x2)), .p, .p, .mv, .p, .p, .p, .p, .ir, (.ld (qaF x4)), .p, .p, .p, (.call [[0], [0], [0]] [(TV.c (T.int .u64 (0 : Int))), (TV.c (T.int .u64 (bits .or .u64 (qi3 .u64 (wU6 x2) (32 : Int)) (wU6 x4)))), (ti .u64 top)] (TV.tup [(false, [(T.int .u64 x6.1)]), (false, [(T.int .u64 x6.2)])])), .p, .p, .p, .p] [.op .p], .pre [.rl 4 0 r71.length, .rl 12 0 r64.length, .keep [4,6,10,11,12,13,14,15,16,17] [64,71]]] hn (aC h1 <| aC (qb5 h3) <| aC (qc1 h3 (by simp) : (wI6 (j + n)) < ((r64.length : Nat) : Int)) <| aC (qc2 qaF h3 : (r64.map qaF)[(0 + (wI6 (j + n)).toNat)]? = some (qaF x2)) <| aC (qb5 h5) <| aC (qc1 h5 (by simp) : (wI6 ((wI6 (j + n)) - (1 : Int))) < ((r64.length : Nat) : Int)) <| aC (qc2 qaF h5 : (r64.map qaF)[(0 + (wI6 ((wI6 (j + n)) - (1 : Int))).toNat)]? = some (qaF x4)) <| aC (quL h7) <| aC r0 <| aC (lq r71) <| aC r0 <| aC (lq r64) <| aN) (ih _ _ h cx hn)
 ·obtain ⟨x2, h3, h⟩ := qaU h
  obtain ⟨h4, h⟩ := qbV h
  obtain ⟨x5, h6, h⟩ := qaU h
  have h := oinj h; subst h
  exact wkR [.go, rg2, bFa, .pre [.snap 4 (max 0 (0 + r71.length)) (r71.map qaF), .snap 12 (max 0 (0 + r64.length)) (r64.map qaF)], .draw [.p, (.call [[1]] [(tl 1 r71 qaF)] (tl 1 x2 qaF)), .p, .p, (.slT 0 n.toNat ((r64.take n.toNat).map qaF)), .p] [opI (.call [[1], [0]] [(TV.c (T.sl 1 ((r64.take n.toNat).map qaF))), (ti .i64 shift)] (tl 1 x5 qaF)), .op .p, .op .p]] hn (aC h1 <| aC (qeH _ _ _ (by simp) : ((r71.map qaF).drop 0).take r71.length = r71.map qaF) <| aC (rfl : (max 0 (0 + r71.length)) = (max 0 (0 + r71.length))) <| aC (qeH _ _ _ (by simp) : ((r64.map qaF).drop 0).take r64.length = r64.map qaF) <| aC (rfl : (max 0 (0 + r64.length)) = (max 0 (0 + r64.length))) <| aC (qdD h3) <| aC r0 <| aC (⟨h4.1, rfl⟩ : 0 ≤ n ∧ n.toNat = n.toNat) <| aC h4.2.1 <| aC (zm8 _ h4.2.2 : n.toNat ≤ (r64.map qaF).length) <| aC (zgP _ _ _ : ((r64.map qaF).take n.toNat).drop 0 = (r64.take n.toNat).map qaF) <| aC (qyY h6) <| aN)
theorem zf4 {K} (ih : qe0 K) {cx} (hn : cx.n = 251) {r66 r71 n shift v top next j guess rest} {r} (h : qaX (K + 1) (.c3 r66 r71 n shift v top next j guess rest) = some r) : qeZ cx (.c3 r66 r71 n shift v top next j guess rest) r := by
 rw [qaX] at h
 rcases qa0 h with ⟨h1, h⟩ | ⟨h1, h⟩
 ·rcases qa0 h with ⟨h2, h⟩ | ⟨h2, h⟩
  ·exact wkG [.go, rgG [oo, oo, oo, .sb 117 true, oo, oo, oo, oo, oo, oo, oo, oo, oo, oo, oo, oo, oo, oo, oo, oo], bTr, rg3, rg4, rg2, bTr, .pre [.rl 4 0 r71.length, .rl 12 0 r66.length, .keep [4,6,10,11,12,13,14,15,16] [66,71]]] hn (aC h1 <| aC rt <| aC h2 <| aC r0 <| aC (lq r71) <| aC r0 <| aC (lq r66) <| aN) (ih _ _ h cx hn)
  ·exact wkG [.go, rgG [oo, oo, oo, .sb 117 true, oo, oo, oo, oo, oo, oo, oo, oo, oo, oo, oo, oo, oo, oo, oo, oo], bTr, rg3, rg4, rg2, bFa, .pre [.rl 4 0 r71.length, .rl 12 0 r66.length, .keep [4,6,10,11,12,13,14,15,16,17] [66,71]]] hn (aC h1 <| aC rt <| aC h2 <| aC r0 <| aC (lq r71) <| aC r0 <| aC (lq r66) <| aN) (ih _ _ h cx hn)
 ·obtain ⟨x2, h3, h⟩ := qaU h
  rcases qa0 h with ⟨h4, h⟩ | ⟨h4, h⟩
  ·rcases qa0 h with ⟨h5, h⟩ | ⟨h5, h⟩
   ·exact wkG [.go, rgG [oo, oo, oo, .sb 117 false, oo, oo, oo, oo, oo, oo, oo, oo, oo, oo, .op .ir, opI (.ld (qaF x2)), oo, oo, oo, oo], bTr, rg3, rg4, rg2, bTr, .pre [.rl 4 0 r71.length, .rl 12 0 r66.length, .keep [4,6,10,11,12,13,14,15,16] [66,71]]] hn (aC h1 <| aC (qb5 h3) <| aC (qc1 h3 (by simp) : (wI6 ((wI6 (j + n)) - (2 : Int))) < ((r66.length : Nat) : Int)) <| aC (qc2 qaF h3 : (r66.map qaF)[(0 + (wI6 ((wI6 (j + n)) - (2 : Int))).toNat)]? = some (qaF x2)) <| aC h4 <| aC h5 <| aC r0 <| aC (lq r71) <| aC r0 <| aC (lq r66) <| aN) (ih _ _ h cx hn)
   ·exact wkG [.go, rgG [oo, oo, oo, .sb 117 false, oo, oo, oo, oo, oo, oo, oo, oo, oo, oo, .op .ir, opI (.ld (qaF x2)), oo, oo, oo, oo], bTr, rg3, rg4, rg2, bFa, .pre [.rl 4 0 r71.length, .rl 12 0 r66.length, .keep [4,6,10,11,12,13,14,15,16,17] [66,71]]] hn (aC h1 <| aC (qb5 h3) <| aC (qc1 h3 (by simp) : (wI6 ((wI6 (j + n)) - (2 : Int))) < ((r66.length : Nat) : Int)) <| aC (qc2 qaF h3 : (r66.map qaF)[(0 + (wI6 ((wI6 (j + n)) - (2 : Int))).toNat)]? = some (qaF x2)) <| aC h4 <| aC h5 <| aC r0 <| aC (lq r71) <| aC r0 <| aC (lq r66) <| aN) (ih _ _ h cx hn)
  ·exact wkG [.go, rgG [oo, oo, oo, .sb 117 false, oo, oo, oo, oo, oo, oo, oo, oo, oo, oo, .op .ir, opI (.ld (qaF x2)), oo, oo, oo, oo], bFa, .pre [.rl 4 0 r71.length, .rl 12 0 r66.length, .keep [4,6,10,11,12,13,14,15,16] [66,71]]] hn (aC h1 <| aC (qb5 h3) <| aC (qc1 h3 (by simp) : (wI6 ((wI6 (j + n)) - (2 : Int))) < ((r66.length : Nat) : Int)) <| aC (qc2 qaF h3 : (r66.map qaF)[(0 + (wI6 ((wI6 (j + n)) - (2 : Int))).toNat)]? = some (qaF x2)) <| aC h4 <| aC r0 <| aC (lq r71) <| aC r0 <| aC (lq r66) <| aN) (ih _ _ h cx hn)
theorem zf3 {K} (ih : qe0 K) {cx} (hn : cx.n = 251) {r64 r71 n shift v top next j guess rest} {r} (h : qaX (K + 1) (.c4 r64 r71 n shift v top next j guess rest) = some r) : qeZ cx (.c4 r64 r71 n shift v top next j guess rest) r := by
 rw [qaX] at h
 rcases qa0 h with ⟨h1, h⟩ | ⟨h1, h⟩
 ·rcases qa0 h with ⟨h2, h⟩ | ⟨h2, h⟩
  ·exact wkG [.go, rgG [oo, oo, oo, .sb 117 true, oo, oo, oo, oo, oo, oo, oo, oo, oo, oo, oo, oo, oo, oo, oo, oo], bTr, rg3, rg4, rg2, bTr, .pre [.rl 4 0 r71.length, .rl 12 0 r64.length, .keep [4,6,10,11,12,13,14,15,16] [64,71]]] hn (aC h1 <| aC rt <| aC h2 <| aC r0 <| aC (lq r71) <| aC r0 <| aC (lq r64) <| aN) (ih _ _ h cx hn)
  ·exact wkG [.go, rgG [oo, oo, oo, .sb 117 true, oo, oo, oo, oo, oo, oo, oo, oo, oo, oo, oo, oo, oo, oo, oo, oo], bTr, rg3, rg4, rg2, bFa, .pre [.rl 4 0 r71.length, .rl 12 0 r64.length, .keep [4,6,10,11,12,13,14,15,16,17] [64,71]]] hn (aC h1 <| aC rt <| aC h2 <| aC r0 <| aC (lq r71) <| aC r0 <| aC (lq r64) <| aN) (ih _ _ h cx hn)
 ·obtain ⟨x2, h3, h⟩ := qaU h
  rcases qa0 h with ⟨h4, h⟩ | ⟨h4, h⟩
  ·rcases qa0 h with ⟨h5, h⟩ | ⟨h5, h⟩
   ·exact wkG [.go, rgG [oo, oo, oo, .sb 117 false, oo, oo, oo, oo, oo, oo, oo, oo, oo, oo, .op .ir, opI (.ld (qaF x2)), oo, oo, oo, oo], bTr, rg3, rg4, rg2, bTr, .pre [.rl 4 0 r71.length, .rl 12 0 r64.length, .keep [4,6,10,11,12,13,14,15,16] [64,71]]] hn (aC h1 <| aC (qb5 h3) <| aC (qc1 h3 (by simp) : (wI6 ((wI6 (j + n)) - (2 : Int))) < ((r64.length : Nat) : Int)) <| aC (qc2 qaF h3 : (r64.map qaF)[(0 + (wI6 ((wI6 (j + n)) - (2 : Int))).toNat)]? = some (qaF x2)) <| aC h4 <| aC h5 <| aC r0 <| aC (lq r71) <| aC r0 <| aC (lq r64) <| aN) (ih _ _ h cx hn)
   ·exact wkG [.go, rgG [oo, oo, oo, .sb 117 false, oo, oo, oo, oo, oo, oo, oo, oo, oo, oo, .op .ir, opI (.ld (qaF x2)), oo, oo, oo, oo], bTr, rg3, rg4, rg2, bFa, .pre [.rl 4 0 r71.length, .rl 12 0 r64.length, .keep [4,6,10,11,12,13,14,15,16,17] [64,71]]] hn (aC h1 <| aC (qb5 h3) <| aC (qc1 h3 (by simp) : (wI6 ((wI6 (j + n)) - (2 : Int))) < ((r64.length : Nat) : Int)) <| aC (qc2 qaF h3 : (r64.map qaF)[(0 + (wI6 ((wI6 (j + n)) - (2 : Int))).toNat)]? = some (qaF x2)) <| aC h4 <| aC h5 <| aC r0 <| aC (lq r71) <| aC r0 <| aC (lq r64) <| aN) (ih _ _ h cx hn)
  ·exact wkG [.go, rgG [oo, oo, oo, .sb 117 false, oo, oo, oo, oo, oo, oo, oo, oo, oo, oo, .op .ir, opI (.ld (qaF x2)), oo, oo, oo, oo], bFa, .pre [.rl 4 0 r71.length, .rl 12 0 r64.length, .keep [4,6,10,11,12,13,14,15,16] [64,71]]] hn (aC h1 <| aC (qb5 h3) <| aC (qc1 h3 (by simp) : (wI6 ((wI6 (j + n)) - (2 : Int))) < ((r64.length : Nat) : Int)) <| aC (qc2 qaF h3 : (r64.map qaF)[(0 + (wI6 ((wI6 (j + n)) - (2 : Int))).toNat)]? = some (qaF x2)) <| aC h4 <| aC r0 <| aC (lq r71) <| aC r0 <| aC (lq r64) <| aN) (ih _ _ h cx hn)
theorem zf2 {K} (ih : qe0 K) {cx} (hn : cx.n = 251) {r66 r71 n shift v top next j guess} {r} (h : qaX (K + 1) (.c5 r66 r71 n shift v top next j guess) = some r) : qeZ cx (.c5 r66 r71 n shift v top next j guess) r := by
 rw [qaX] at h
 exact wkG [rg2, rgG [oo, opI (.ln (v.length : Int)), oo], .pre [.rl 4 0 r71.length, .rl 12 0 r66.length, .keep [4,6,10,11,12,13,14,15,16,18,19,141,142,143] [66,71]]] hn (aC (qdI v qaF) <| aC r0 <| aC (lq r71) <| aC r0 <| aC (lq r66) <| aN) (ih _ _ h cx hn)
theorem zf1 {K} (ih : qe0 K) {cx} (hn : cx.n = 251) {r64 r71 n shift v top next j guess} {r} (h : qaX (K + 1) (.c6 r64 r71 n shift v top next j guess) = some r) : qeZ cx (.c6 r64 r71 n shift v top next j guess) r := by
 rw [qaX] at h
 exact wkG [rg2, rgG [oo, opI (.ln (v.length : Int)), oo], .pre [.rl 4 0 r71.length, .rl 12 0 r64.length, .keep [4,6,10,11,12,13,14,15,16,18,19,141,142,143] [64,71]]] hn (aC (qdI v qaF) <| aC r0 <| aC (lq r71) <| aC r0 <| aC (lq r64) <| aN) (ih _ _ h cx hn)
theorem zf0 {K} (ih : qe0 K) {cx} (hn : cx.n = 251) {r66 r71 n shift v top next j guess carry borrow t141 t142 t143} {r} (h : qaX (K + 1) (.c7 r66 r71 n shift v top next j guess carry borrow t141 t142 t143) = some r) : qeZ cx (.c7 r66 r71 n shift v top next j guess carry borrow t141 t142 t143) r := by
 rw [qaX] at h
 rcases qa0 h with ⟨h1, h⟩ | ⟨h1, h⟩
 ·obtain ⟨x2, h3, h⟩ := qaU h
  obtain ⟨x4, h5, h⟩ := qaU h
  obtain ⟨x6, h7, h⟩ := qaU h
  exact wkG [.go, rg1, bTr, rgG [oo, opI (.ix (qaF x2)), oo, oo, oo], rgG [oo, oo, oo, oo, oo, oo, oo], rg3, rgG [oo, oo, oo, oo, .op .ir, opI (.ld (qaF x4)), oo, oo, oo, oo, oo, oo, oo], rgG [oo, oo, oo, oo, oo, oo, .op .ir, opI (.st (qaF x6) ((r66.set ((wI6 (t143 + j)).toNat) (wU3 (wU6 ((wU6 ((wU6 x4) - borrow)) - (bits .and .u64 (wU6 ((wU6 (guess * (wU6 x2))) + carry)) (4294967295 : Int)))))).map qaF))], rg3, rg2, .pre [.rl 4 0 r71.length, .rl 12 0 (r66.set ((wI6 (t143 + j)).toNat) (wU3 (wU6 ((wU6 ((wU6 x4) - borrow)) - (bits .and .u64 (wU6 ((wU6 (guess * (wU6 x2))) + carry)) (4294967295 : Int)))))).length, .keep [4,6,10,11,12,13,14,15,16,18,19,141,142,143] [66,71]]] hn (aC h1 <| aC (qb5 h3) <| aC (qfP qaF h3) <| aC (qb5 h5) <| aC (qc1 h5 (by simp) : (wI6 (t143 + j)) < ((r66.length : Nat) : Int)) <| aC (qc2 qaF h5 : (r66.map qaF)[(0 + (wI6 (t143 + j)).toNat)]? = some (qaF x4)) <| aC (qb5 h7) <| aC (qc1 h7 (by simp) : (wI6 (t143 + j)) < ((r66.length : Nat) : Int)) <| aC (qc2 qaF h7 : (r66.map qaF)[(0 + (wI6 (t143 + j)).toNat)]? = some (qaF x6)) <| aC (qe8 _ _ (wU3 (wU6 ((wU6 ((wU6 x4) - borrow)) - (bits .and .u64 (wU6 ((wU6 (guess * (wU6 x2))) + carry)) (4294967295 : Int))))) _ : (r66.map qaF).set (0 + (wI6 (t143 + j)).toNat) (qdH (qaF x6) 0 [(T.int .u32 (wU3 (wU6 ((wU6 ((wU6 x4) - borrow)) - (bits .and .u64 (wU6 ((wU6 (guess * (wU6 x2))) + carry)) (4294967295 : Int))))))]) = (r66.set ((wI6 (t143 + j)).toNat) (wU3 (wU6 ((wU6 ((wU6 x4) - borrow)) - (bits .and .u64 (wU6 ((wU6 (guess * (wU6 x2))) + carry)) (4294967295 : Int)))))).map qaF) <| aC (Nat.zero_le _ : 0 ≤ (0 + (wI6 (t143 + j)).toNat)) <| aC r0 <| aC (lq r71) <| aC r0 <| aC (by simp : r66.length = (r66.set ((wI6 (t143 + j)).toNat) (wU3 (wU6 ((wU6 ((wU6 x4) - borrow)) - (bits .and .u64 (wU6 ((wU6 (guess * (wU6 x2))) + carry)) (4294967295 : Int)))))).length) <| aN) (ih _ _ h cx hn)
 ·obtain ⟨x2, h3, h⟩ := qaU h
  obtain ⟨x4, h5, h⟩ := qaU h
  obtain ⟨x6, h7, h⟩ := qaU h
  rcases qa0 h with ⟨h8, h⟩ | ⟨h8, h⟩
  ·exact wkG [.go, rg1, bFa, rgG [oo, oo, oo, oo, .op .ir, opI (.ld (qaF x2)), oo, oo, oo, oo, oo, oo], rgG [oo, oo, oo, oo, oo, oo, .op .ir, opI (.st (qaF x4) ((r66.set ((wI6 (j + n)).toNat) (wU3 (wU6 ((wU6 ((wU6 x2) - borrow)) - carry)))).map qaF))], rgG [oo, oo, oo, oo, .op .ir, opI (.st (qaF x6) ((r71.set (j.toNat) (wU3 guess)).map qaF))], rg3, bTr, .pre [.rl 4 0 (r71.set (j.toNat) (wU3 guess)).length, .rl 12 0 (r66.set ((wI6 (j + n)).toNat) (wU3 (wU6 ((wU6 ((wU6 x2) - borrow)) - carry)))).length, .keep [4,6,10,11,12,13,14,15] [66,71]]] hn (aC h1 <| aC (qb5 h3) <| aC (qc1 h3 (by simp) : (wI6 (j + n)) < ((r66.length : Nat) : Int)) <| aC (qc2 qaF h3 : (r66.map qaF)[(0 + (wI6 (j + n)).toNat)]? = some (qaF x2)) <| aC (qb5 h5) <| aC (qc1 h5 (by simp) : (wI6 (j + n)) < ((r66.length : Nat) : Int)) <| aC (qc2 qaF h5 : (r66.map qaF)[(0 + (wI6 (j + n)).toNat)]? = some (qaF x4)) <| aC (qe8 _ _ (wU3 (wU6 ((wU6 ((wU6 x2) - borrow)) - carry))) _ : (r66.map qaF).set (0 + (wI6 (j + n)).toNat) (qdH (qaF x4) 0 [(T.int .u32 (wU3 (wU6 ((wU6 ((wU6 x2) - borrow)) - carry))))]) = (r66.set ((wI6 (j + n)).toNat) (wU3 (wU6 ((wU6 ((wU6 x2) - borrow)) - carry)))).map qaF) <| aC (Nat.zero_le _ : 0 ≤ (0 + (wI6 (j + n)).toNat)) <| aC (qb5 h7) <| aC (qc1 h7 (by simp) : j < ((r71.length : Nat) : Int)) <| aC (qc2 qaF h7 : (r71.map qaF)[(0 + j.toNat)]? = some (qaF x6)) <| aC (qe8 _ _ (wU3 guess) _ : (r71.map qaF).set (0 + j.toNat) (qdH (qaF x6) 0 [(T.int .u32 (wU3 guess))]) = (r71.set (j.toNat) (wU3 guess)).map qaF) <| aC (Nat.zero_le _ : 0 ≤ (0 + j.toNat)) <| aC h8 <| aC r0 <| aC (by simp : r71.length = (r71.set (j.toNat) (wU3 guess)).length) <| aC r0 <| aC (by simp : r66.length = (r66.set ((wI6 (j + n)).toNat) (wU3 (wU6 ((wU6 ((wU6 x2) - borrow)) - carry)))).length) <| aN) (ih _ _ h cx hn)
  ·obtain ⟨x9, h10, h⟩ := qaU h
   obtain ⟨x11, h12, h⟩ := qaU h
   exact wkG [.go, rg1, bFa, rgG [oo, oo, oo, oo, .op .ir, opI (.ld (qaF x2)), oo, oo, oo, oo, oo, oo], rgG [oo, oo, oo, oo, oo, oo, .op .ir, opI (.st (qaF x4) ((r66.set ((wI6 (j + n)).toNat) (wU3 (wU6 ((wU6 ((wU6 x2) - borrow)) - carry)))).map qaF))], rgG [oo, oo, oo, oo, .op .ir, opI (.st (qaF x6) ((r71.set (j.toNat) (wU3 guess)).map qaF))], rg3, bFa, rgG [oo, oo, .op .ir, opI (.ld (qaF x9)), oo, .op .ir, opI (.st (qaF x11) (((r71.set (j.toNat) (wU3 guess)).set (j.toNat) (wU3 (x9 - (1 : Int)))).map qaF))], rg1, rgG [oo, opI (.ln (v.length : Int)), oo], .pre [.rl 4 0 ((r71.set (j.toNat) (wU3 guess)).set (j.toNat) (wU3 (x9 - (1 : Int)))).length, .rl 12 0 (r66.set ((wI6 (j + n)).toNat) (wU3 (wU6 ((wU6 ((wU6 x2) - borrow)) - carry)))).length, .keep [4,6,10,11,12,13,14,15,25,210,211,212] [66,71]]] hn (aC h1 <| aC (qb5 h3) <| aC (qc1 h3 (by simp) : (wI6 (j + n)) < ((r66.length : Nat) : Int)) <| aC (qc2 qaF h3 : (r66.map qaF)[(0 + (wI6 (j + n)).toNat)]? = some (qaF x2)) <| aC (qb5 h5) <| aC (qc1 h5 (by simp) : (wI6 (j + n)) < ((r66.length : Nat) : Int)) <| aC (qc2 qaF h5 : (r66.map qaF)[(0 + (wI6 (j + n)).toNat)]? = some (qaF x4)) <| aC (qe8 _ _ (wU3 (wU6 ((wU6 ((wU6 x2) - borrow)) - carry))) _ : (r66.map qaF).set (0 + (wI6 (j + n)).toNat) (qdH (qaF x4) 0 [(T.int .u32 (wU3 (wU6 ((wU6 ((wU6 x2) - borrow)) - carry))))]) = (r66.set ((wI6 (j + n)).toNat) (wU3 (wU6 ((wU6 ((wU6 x2) - borrow)) - carry)))).map qaF) <| aC (Nat.zero_le _ : 0 ≤ (0 + (wI6 (j + n)).toNat)) <| aC (qb5 h7) <| aC (qc1 h7 (by simp) : j < ((r71.length : Nat) : Int)) <| aC (qc2 qaF h7 : (r71.map qaF)[(0 + j.toNat)]? = some (qaF x6)) <| aC (qe8 _ _ (wU3 guess) _ : (r71.map qaF).set (0 + j.toNat) (qdH (qaF x6) 0 [(T.int .u32 (wU3 guess))]) = (r71.set (j.toNat) (wU3 guess)).map qaF) <| aC (Nat.zero_le _ : 0 ≤ (0 + j.toNat)) <| aC h8 <| aC (qb5 h10) <| aC (qc1 h10 (by simp) : j < ((r71.length : Nat) : Int)) <| aC (qc2 qaF h10 : ((r71.set (j.toNat) (wU3 guess)).map qaF)[(0 + j.toNat)]? = some (qaF x9)) <| aC (qb5 h12) <| aC (qc1 h12 (by simp) : j < ((r71.length : Nat) : Int)) <| aC (qc2 qaF h12 : ((r71.set (j.toNat) (wU3 guess)).map qaF)[(0 + j.toNat)]? = some (qaF x11)) <| aC (qe8 _ _ (wU3 (x9 - (1 : Int))) _ : ((r71.set (j.toNat) (wU3 guess)).map qaF).set (0 + j.toNat) (qdH (qaF x11) 0 [(T.int .u32 (wU3 (x9 - (1 : Int))))]) = ((r71.set (j.toNat) (wU3 guess)).set (j.toNat) (wU3 (x9 - (1 : Int)))).map qaF) <| aC (Nat.zero_le _ : 0 ≤ (0 + j.toNat)) <| aC (qdI v qaF) <| aC r0 <| aC (by simp : r71.length = ((r71.set (j.toNat) (wU3 guess)).set (j.toNat) (wU3 (x9 - (1 : Int)))).length) <| aC r0 <| aC (by simp : r66.length = (r66.set ((wI6 (j + n)).toNat) (wU3 (wU6 ((wU6 ((wU6 x2) - borrow)) - carry)))).length) <| aN) (ih _ _ h cx hn)
theorem zfZ {K} (ih : qe0 K) {cx} (hn : cx.n = 251) {r64 r71 n shift v top next j guess carry borrow t141 t142 t143} {r} (h : qaX (K + 1) (.c8 r64 r71 n shift v top next j guess carry borrow t141 t142 t143) = some r) : qeZ cx (.c8 r64 r71 n shift v top next j guess carry borrow t141 t142 t143) r := by
 rw [qaX] at h
 rcases qa0 h with ⟨h1, h⟩ | ⟨h1, h⟩
 ·obtain ⟨x2, h3, h⟩ := qaU h
  obtain ⟨x4, h5, h⟩ := qaU h
  obtain ⟨x6, h7, h⟩ := qaU h
  exact wkG [.go, rg1, bTr, rgG [oo, opI (.ix (qaF x2)), oo, oo, oo], rgG [oo, oo, oo, oo, oo, oo, oo], rg3, rgG [oo, oo, oo, oo, .op .ir, opI (.ld (qaF x4)), oo, oo, oo, oo, oo, oo, oo], rgG [oo, oo, oo, oo, oo, oo, .op .ir, opI (.st (qaF x6) ((r64.set ((wI6 (t143 + j)).toNat) (wU3 (wU6 ((wU6 ((wU6 x4) - borrow)) - (bits .and .u64 (wU6 ((wU6 (guess * (wU6 x2))) + carry)) (4294967295 : Int)))))).map qaF))], rg3, rg2, .pre [.rl 4 0 r71.length, .rl 12 0 (r64.set ((wI6 (t143 + j)).toNat) (wU3 (wU6 ((wU6 ((wU6 x4) - borrow)) - (bits .and .u64 (wU6 ((wU6 (guess * (wU6 x2))) + carry)) (4294967295 : Int)))))).length, .keep [4,6,10,11,12,13,14,15,16,18,19,141,142,143] [64,71]]] hn (aC h1 <| aC (qb5 h3) <| aC (qfP qaF h3) <| aC (qb5 h5) <| aC (qc1 h5 (by simp) : (wI6 (t143 + j)) < ((r64.length : Nat) : Int)) <| aC (qc2 qaF h5 : (r64.map qaF)[(0 + (wI6 (t143 + j)).toNat)]? = some (qaF x4)) <| aC (qb5 h7) <| aC (qc1 h7 (by simp) : (wI6 (t143 + j)) < ((r64.length : Nat) : Int)) <| aC (qc2 qaF h7 : (r64.map qaF)[(0 + (wI6 (t143 + j)).toNat)]? = some (qaF x6)) <| aC (qe8 _ _ (wU3 (wU6 ((wU6 ((wU6 x4) - borrow)) - (bits .and .u64 (wU6 ((wU6 (guess * (wU6 x2))) + carry)) (4294967295 : Int))))) _ : (r64.map qaF).set (0 + (wI6 (t143 + j)).toNat) (qdH (qaF x6) 0 [(T.int .u32 (wU3 (wU6 ((wU6 ((wU6 x4) - borrow)) - (bits .and .u64 (wU6 ((wU6 (guess * (wU6 x2))) + carry)) (4294967295 : Int))))))]) = (r64.set ((wI6 (t143 + j)).toNat) (wU3 (wU6 ((wU6 ((wU6 x4) - borrow)) - (bits .and .u64 (wU6 ((wU6 (guess * (wU6 x2))) + carry)) (4294967295 : Int)))))).map qaF) <| aC (Nat.zero_le _ : 0 ≤ (0 + (wI6 (t143 + j)).toNat)) <| aC r0 <| aC (lq r71) <| aC r0 <| aC (by simp : r64.length = (r64.set ((wI6 (t143 + j)).toNat) (wU3 (wU6 ((wU6 ((wU6 x4) - borrow)) - (bits .and .u64 (wU6 ((wU6 (guess * (wU6 x2))) + carry)) (4294967295 : Int)))))).length) <| aN) (ih _ _ h cx hn)
 ·obtain ⟨x2, h3, h⟩ := qaU h
  obtain ⟨x4, h5, h⟩ := qaU h
  obtain ⟨x6, h7, h⟩ := qaU h
  rcases qa0 h with ⟨h8, h⟩ | ⟨h8, h⟩
  ·exact wkG [.go, rg1, bFa, rgG [oo, oo, oo, oo, .op .ir, opI (.ld (qaF x2)), oo, oo, oo, oo, oo, oo], rgG [oo, oo, oo, oo, oo, oo, .op .ir, opI (.st (qaF x4) ((r64.set ((wI6 (j + n)).toNat) (wU3 (wU6 ((wU6 ((wU6 x2) - borrow)) - carry)))).map qaF))], rgG [oo, oo, oo, oo, .op .ir, opI (.st (qaF x6) ((r71.set (j.toNat) (wU3 guess)).map qaF))], rg3, bTr, .pre [.rl 4 0 (r71.set (j.toNat) (wU3 guess)).length, .rl 12 0 (r64.set ((wI6 (j + n)).toNat) (wU3 (wU6 ((wU6 ((wU6 x2) - borrow)) - carry)))).length, .keep [4,6,10,11,12,13,14,15] [64,71]]] hn (aC h1 <| aC (qb5 h3) <| aC (qc1 h3 (by simp) : (wI6 (j + n)) < ((r64.length : Nat) : Int)) <| aC (qc2 qaF h3 : (r64.map qaF)[(0 + (wI6 (j + n)).toNat)]? = some (qaF x2)) <| aC (qb5 h5) <| aC (qc1 h5 (by simp) : (wI6 (j + n)) < ((r64.length : Nat) : Int)) <| aC (qc2 qaF h5 : (r64.map qaF)[(0 + (wI6 (j + n)).toNat)]? = some (qaF x4)) <| aC (qe8 _ _ (wU3 (wU6 ((wU6 ((wU6 x2) - borrow)) - carry))) _ : (r64.map qaF).set (0 + (wI6 (j + n)).toNat) (qdH (qaF x4) 0 [(T.int .u32 (wU3 (wU6 ((wU6 ((wU6 x2) - borrow)) - carry))))]) = (r64.set ((wI6 (j + n)).toNat) (wU3 (wU6 ((wU6 ((wU6 x2) - borrow)) - carry)))).map qaF) <| aC (Nat.zero_le _ : 0 ≤ (0 + (wI6 (j + n)).toNat)) <| aC (qb5 h7) <| aC (qc1 h7 (by simp) : j < ((r71.length : Nat) : Int)) <| aC (qc2 qaF h7 : (r71.map qaF)[(0 + j.toNat)]? = some (qaF x6)) <| aC (qe8 _ _ (wU3 guess) _ : (r71.map qaF).set (0 + j.toNat) (qdH (qaF x6) 0 [(T.int .u32 (wU3 guess))]) = (r71.set (j.toNat) (wU3 guess)).map qaF) <| aC (Nat.zero_le _ : 0 ≤ (0 + j.toNat)) <| aC h8 <| aC r0 <| aC (by simp : r71.length = (r71.set (j.toNat) (wU3 guess)).length) <| aC r0 <| aC (by simp : r64.length = (r64.set ((wI6 (j + n)).toNat) (wU3 (wU6 ((wU6 ((wU6 x2) - borrow)) - carry)))).length) <| aN) (ih _ _ h cx hn)
  ·obtain ⟨x9, h10, h⟩ := qaU h
   obtain ⟨x11, h12, h⟩ := qaU h
   exact wkG [.go, rg1, bFa, rgG [oo, oo, oo, oo, .op .ir, opI (.ld (qaF x2)), oo, oo, oo, oo, oo, oo], rgG [oo, oo, oo, oo, oo, oo, .op .ir, opI (.st (qaF x4) ((r64.set ((wI6 (j + n)).toNat) (wU3 (wU6 ((wU6 ((wU6 x2) - borrow)) - carry)))).map qaF))], rgG [oo, oo, oo, oo, .op .ir, opI (.st (qaF x6) ((r71.set (j.toNat) (wU3 guess)).map qaF))], rg3, bFa, rgG [oo, oo, .op .ir, opI (.ld (qaF x9)), oo, .op .ir, opI (.st (qaF x11) (((r71.set (j.toNat) (wU3 guess)).set (j.toNat) (wU3 (x9 - (1 : Int)))).map qaF))], rg1, rgG [oo, opI (.ln (v.length : Int)), oo], .pre [.rl 4 0 ((r71.set (j.toNat) (wU3 guess)).set (j.toNat) (wU3 (x9 - (1 : Int)))).length, .rl 12 0 (r64.set ((wI6 (j + n)).toNat) (wU3 (wU6 ((wU6 ((wU6 x2) - borrow)) - carry)))).length, .keep [4,6,10,11,12,13,14,15,25,210,211,212] [64,71]]] hn (aC h1 <| aC (qb5 h3) <| aC (qc1 h3 (by simp) : (wI6 (j + n)) < ((r64.length : Nat) : Int)) <| aC (qc2 qaF h3 : (r64.map qaF)[(0 + (wI6 (j + n)).toNat)]? = some (qaF x2)) <| aC (qb5 h5) <| aC (qc1 h5 (by simp) : (wI6 (j + n)) < ((r64.length : Nat) : Int)) <| aC (qc2 qaF h5 : (r64.map qaF)[(0 + (wI6 (j + n)).toNat)]? = some (qaF x4)) <| aC (qe8 _ _ (wU3 (wU6 ((wU6 ((wU6 x2) - borrow)) - carry))) _ : (r64.map qaF).set (0 + (wI6 (j + n)).toNat) (qdH (qaF x4) 0 [(T.int .u32 (wU3 (wU6 ((wU6 ((wU6 x2) - borrow)) - carry))))]) = (r64.set ((wI6 (j + n)).toNat) (wU3 (wU6 ((wU6 ((wU6 x2) - borrow)) - carry)))).map qaF) <| aC (Nat.zero_le _ : 0 ≤ (0 + (wI6 (j + n)).toNat)) <| aC (qb5 h7) <| aC (qc1 h7 (by simp) : j < ((r71.length : Nat) : Int)) <| aC (qc2 qaF h7 : (r71.map qaF)[(0 + j.toNat)]? = some (qaF x6)) <| aC (qe8 _ _ (wU3 guess) _ : (r71.map qaF).set (0 + j.toNat) (qdH (qaF x6) 0 [(T.int .u32 (wU3 guess))]) = (r71.set (j.toNat) (wU3 guess)).map qaF) <| aC (Nat.zero_le _ : 0 ≤ (0 + j.toNat)) <| aC h8 <| aC (qb5 h10) <| aC (qc1 h10 (by simp) : j < ((r71.length : Nat) : Int)) <| aC (qc2 qaF h10 : ((r71.set (j.toNat) (wU3 guess)).map qaF)[(0 + j.toNat)]? = some (qaF x9)) <| aC (qb5 h12) <| aC (qc1 h12 (by simp) : j < ((r71.length : Nat) : Int)) <| aC (qc2 qaF h12 : ((r71.set (j.toNat) (wU3 guess)).map qaF)[(0 + j.toNat)]? = some (qaF x11)) <| aC (qe8 _ _ (wU3 (x9 - (1 : Int))) _ : ((r71.set (j.toNat) (wU3 guess)).map qaF).set (0 + j.toNat) (qdH (qaF x11) 0 [(T.int .u32 (wU3 (x9 - (1 : Int))))]) = ((r71.set (j.toNat) (wU3 guess)).set (j.toNat) (wU3 (x9 - (1 : Int)))).map qaF) <| aC (Nat.zero_le _ : 0 ≤ (0 + j.toNat)) <| aC (qdI v qaF) <| aC r0 <| aC (by simp : r71.length = ((r71.set (j.toNat) (wU3 guess)).set (j.toNat) (wU3 (x9 - (1 : Int)))).length) <| aC r0 <| aC (by simp : r64.length = (r64.set ((wI6 (j + n)).toNat) (wU3 (wU6 ((wU6 ((wU6 x2) - borrow)) - carry)))).length) <| aN) (ih _ _ h cx hn)
theorem zfY {K} (ih : qe0 K) {cx} (hn : cx.n = 251) {r66 r71 n shift v top next j} {r} (h : qaX (K + 1) (.c9 r66 r71 n shift v top next j) = some r) : qeZ cx (.c9 r66 r71 n shift v top next j) r := by
 rw [qaX] at h
 exact wkG [rg3, .pre [.rl 4 0 r71.length, .rl 12 0 r66.length, .keep [4,6,10,11,12,13,14,15] [66,71]]] hn (aC r0 <| aC (lq r71) <| aC r0 <| aC (lq r66) <| aN) (ih _ _ h cx hn)
theorem zc9 {K} (ih : qe0 K) {cx} (hn : cx.n = 251) {r66 r71 n shift v top next j sum t210 t211 t212} {r} (h : qaX (K + 1) (.c10 r66 r71 n shift v top next j sum t210 t211 t212) = some r) : qeZ cx (.c10 r66 r71 n shift v top next j sum t210 t211 t212) r := by
 rw [qaX] at h
 rcases qa0 h with ⟨h1, h⟩ | ⟨h1, h⟩
 ·obtain ⟨x2, h3, h⟩ := qaU h
  obtain ⟨x4, h5, h⟩ := qaU h
  obtain ⟨x6, h7, h⟩ := qaU h
  obtain ⟨x8, h9, h⟩ := qaU h
  exact wkG [.go, rg1, bTr, rgG [oo, opI (.ix (qaF x2)), oo, oo, oo], rgG [oo, oo, oo, oo, oo, oo, oo, oo, .op .ir, opI (.ld (qaF x4)), oo, oo, opI (.call [[0], [0], [0]] [(ti .u32 x4), (ti .u32 x2), (ti .u32 sum)] (TV.tup [(false, [(T.int .u32 x6.1)]), (false, [(T.int .u32 x6.2)])])), oo, oo, oo, .op .ir, opI (.st (qaF x8) ((r66.set ((wI6 (t212 + j)).toNat) x6.1).map qaF)), oo], rg2, .pre [.rl 4 0 r71.length, .rl 12 0 (r66.set ((wI6 (t212 + j)).toNat) x6.1).length, .keep [4,6,10,11,12,13,14,15,25,210,211,212] [66,71]]] hn (aC h1 <| aC (qb5 h3) <| aC (qfP qaF h3) <| aC (qb5 h5) <| aC (qc1 h5 (by simp) : (wI6 (t212 + j)) < ((r66.length : Nat) : Int)) <| aC (qc2 qaF h5 : (r66.map qaF)[(0 + (wI6 (t212 + j)).toNat)]? = some (qaF x4)) <| aC (qjA h7) <| aC (qb5 h9) <| aC (qc1 h9 (by simp) : (wI6 (t212 + j)) < ((r66.length : Nat) : Int)) <| aC (qc2 qaF h9 : (r66.map qaF)[(0 + (wI6 (t212 + j)).toNat)]? = some (qaF x8)) <| aC (qe8 _ _ x6.1 _ : (r66.map qaF).set (0 + (wI6 (t212 + j)).toNat) (qdH (qaF x8) 0 [(T.int .u32 x6.1)]) = (r66.set ((wI6 (t212 + j)).toNat) x6.1).map qaF) <| aC (Nat.zero_le _ : 0 ≤ (0 + (wI6 (t212 + j)).toNat)) <| aC r0 <| aC (lq r71) <| aC r0 <| aC (by simp : r66.length = (r66.set ((wI6 (t212 + j)).toNat) x6.1).length) <| aN) (ih _ _ h cx hn)
 ·obtain ⟨x2, h3, h⟩ := qaU h
  obtain ⟨x4, h5, h⟩ := qaU h
  exact wkG [.go, rg1, bFa, rgG [oo, oo, oo, oo, .op .ir, opI (.ld (qaF x2)), oo, oo, .op .ir, opI (.st (qaF x4) ((r66.set ((wI6 (j + n)).toNat) (wU3 (x2 + sum))).map qaF))], .pre [.rl 4 0 r71.length, .rl 12 0 (r66.set ((wI6 (j + n)).toNat) (wU3 (x2 + sum))).length, .keep [4,6,10,11,12,13,14,15] [66,71]]] hn (aC h1 <| aC (qb5 h3) <| aC (qc1 h3 (by simp) : (wI6 (j + n)) < ((r66.length : Nat) : Int)) <| aC (qc2 qaF h3 : (r66.map qaF)[(0 + (wI6 (j + n)).toNat)]? = some (qaF x2)) <| aC (qb5 h5) <| aC (qc1 h5 (by simp) : (wI6 (j + n)) < ((r66.length : Nat) : Int)) <| aC (qc2 qaF h5 : (r66.map qaF)[(0 + (wI6 (j + n)).toNat)]? = some (qaF x4)) <| aC (qe8 _ _ (wU3 (x2 + sum)) _ : (r66.map qaF).set (0 + (wI6 (j + n)).toNat) (qdH (qaF x4) 0 [(T.int .u32 (wU3 (x2 + sum)))]) = (r66.set ((wI6 (j + n)).toNat) (wU3 (x2 + sum))).map qaF) <| aC (Nat.zero_le _ : 0 ≤ (0 + (wI6 (j + n)).toNat)) <| aC r0 <| aC (lq r71) <| aC r0 <| aC (by simp : r66.length = (r66.set ((wI6 (j + n)).toNat) (wU3 (x2 + sum))).length) <| aN) (ih _ _ h cx hn)
theorem zc8 {K} (ih : qe0 K) {cx} (hn : cx.n = 251) {r64 r71 n shift v top next j} {r} (h : qaX (K + 1) (.c11 r64 r71 n shift v top next j) = some r) : qeZ cx (.c11 r64 r71 n shift v top next j) r := by
 rw [qaX] at h
 exact wkG [rg3, .pre [.rl 4 0 r71.length, .rl 12 0 r64.length, .keep [4,6,10,11,12,13,14,15] [64,71]]] hn (aC r0 <| aC (lq r71) <| aC r0 <| aC (lq r64) <| aN) (ih _ _ h cx hn)
theorem zc7 {K} (ih : qe0 K) {cx} (hn : cx.n = 251) {r64 r71 n shift v top next j sum t210 t211 t212} {r} (h : qaX (K + 1) (.c12 r64 r71 n shift v top next j sum t210 t211 t212) = some r) : qeZ cx (.c12 r64 r71 n shift v top next j sum t210 t211 t212) r := by
 rw [qaX] at h
 rcases qa0 h with ⟨h1, h⟩ | ⟨h1, h⟩
 ·obtain ⟨x2, h3, h⟩ := qaU h
  obtain ⟨x4, h5, h⟩ := qaU h
  obtain ⟨x6, h7, h⟩ := qaU h
  obtain ⟨x8, h9, h⟩ := qaU h
  exact wkG [.go, rg1, bTr, rgG [oo, opI (.ix (qaF x2)), oo, oo, oo], rgG [oo, oo, oo, oo, oo, oo, oo, oo, .op .ir, opI (.ld (qaF x4)), oo, oo, opI (.call [[0], [0], [0]] [(ti .u32 x4), (ti .u32 x2), (ti .u32 sum)] (TV.tup [(false, [(T.int .u32 x6.1)]), (false, [(T.int .u32 x6.2)])])), oo, oo, oo, .op .ir, opI (.st (qaF x8) ((r64.set ((wI6 (t212 + j)).toNat) x6.1).map qaF)), oo], rg2, .pre [.rl 4 0 r71.length, .rl 12 0 (r64.set ((wI6 (t212 + j)).toNat) x6.1).length, .keep [4,6,10,11,12,13,14,15,25,210,211,212] [64,71]]] hn (aC h1 <| aC (qb5 h3) <| aC (qfP qaF h3) <| aC (qb5 h5) <| aC (qc1 h5 (by simp) : (wI6 (t212 + j)) < ((r64.length : Nat) : Int)) <| aC (qc2 qaF h5 : (r64.map qaF)[(0 + (wI6 (t212 + j)).toNat)]? = some (qaF x4)) <| aC (qjA h7) <| aC (qb5 h9) <| aC (qc1 h9 (by simp) : (wI6 (t212 + j)) < ((r64.length : Nat) : Int)) <| aC (qc2 qaF h9 : (r64.map qaF)[(0 + (wI6 (t212 + j)).toNat)]? = some (qaF x8)) <| aC (qe8 _ _ x6.1 _ : (r64.map qaF).set (0 + (wI6 (t212 + j)).toNat) (qdH (qaF x8) 0 [(T.int .u32 x6.1)]) = (r64.set ((wI6 (t212 + j)).toNat) x6.1).map qaF) <| aC (Nat.zero_le _ : 0 ≤ (0 + (wI6 (t212 + j)).toNat)) <| aC r0 <| aC (lq r71) <| aC r0 <| aC (by simp : r64.length = (r64.set ((wI6 (t212 + j)).toNat) x6.1).length) <| aN) (ih _ _ h cx hn)
 ·obtain ⟨x2, h3, h⟩ := qaU h
  obtain ⟨x4, h5, h⟩ := qaU h
  exact wkG [.go, rg1, bFa, rgG [oo, oo, oo, oo, .op .ir, opI (.ld (qaF x2)), oo, oo, .op .ir, opI (.st (qaF x4) ((r64.set ((wI6 (j + n)).toNat) (wU3 (x2 + sum))).map qaF))], .pre [.rl 4 0 r71.length, .rl 12 0 (r64.set ((wI6 (j + n)).toNat) (wU3 (x2 + sum))).length, .keep [4,6,10,11,12,13,14,15] [64,71]]] hn (aC h1 <| aC (qb5 h3) <| aC (qc1 h3 (by simp) : (wI6 (j + n)) < ((r64.length : Nat) : Int)) <| aC (qc2 qaF h3 : (r64.map qaF)[(0 + (wI6 (j + n)).toNat)]? = some (qaF x2)) <| aC (qb5 h5) <| aC (qc1 h5 (by simp) : (wI6 (j + n)) < ((r64.length : Nat) : Int)) <| aC (qc2 qaF h5 : (r64.map qaF)[(0 + (wI6 (j + n)).toNat)]? = some (qaF x4)) <| aC (qe8 _ _ (wU3 (x2 + sum)) _ : (r64.map qaF).set (0 + (wI6 (j + n)).toNat) (qdH (qaF x4) 0 [(T.int .u32 (wU3 (x2 + sum)))]) = (r64.set ((wI6 (j + n)).toNat) (wU3 (x2 + sum))).map qaF) <| aC (Nat.zero_le _ : 0 ≤ (0 + (wI6 (j + n)).toNat)) <| aC r0 <| aC (lq r71) <| aC r0 <| aC (by simp : r64.length = (r64.set ((wI6 (j + n)).toNat) (wU3 (x2 + sum))).length) <| aN) (ih _ _ h cx hn)
theorem qeD : ∀ K : Nat, qe0 K
 | 0, c, r, h => by rw [qaX] at h; cases h
 | K + 1, .c0 .., r, h => fun cx hn => zf7 (qeD K) hn h
 | K + 1, .c1 .., r, h => fun cx hn => zf6 (qeD K) hn h
 | K + 1, .c2 .., r, h => fun cx hn => zf5 (qeD K) hn h
 | K + 1, .c3 .., r, h => fun cx hn => zf4 (qeD K) hn h
 | K + 1, .c4 .., r, h => fun cx hn => zf3 (qeD K) hn h
 | K + 1, .c5 .., r, h => fun cx hn => zf2 (qeD K) hn h
 | K + 1, .c6 .., r, h => fun cx hn => zf1 (qeD K) hn h
 | K + 1, .c7 .., r, h => fun cx hn => zf0 (qeD K) hn h
 | K + 1, .c8 .., r, h => fun cx hn => zfZ (qeD K) hn h
 | K + 1, .c9 .., r, h => fun cx hn => zfY (qeD K) hn h
 | K + 1, .c10 .., r, h => fun cx hn => zc9 (qeD K) hn h
 | K + 1, .c11 .., r, h => fun cx hn => zc8 (qeD K) hn h
 | K + 1, .c12 .., r, h => fun cx hn => zc7 (qeD K) hn h
theorem qrT {K : Nat} {a : (List Int)} {b : (List Int)} {r : ((List Int) × (List Int))} (h : qnU K a b = some r) : qc7 prog 170 [(tl 1 a qaF), (tl 1 b qaF)] (TV.tup [(false, [(T.sl 1 (r.1.map qaF))]), (false, [(T.sl 1 (r.2.map qaF))])]) :=
 qbL [[1], [1]] (by kernel_rfl) (by simp) fun cx hn => qeD K (.c0 a b) r h cx hn
def wq (x : Int) : BitVec 64 := BitVec.ofInt 64 x
theorem zqG {x : Int} (h : 0 ≤ x ∧ x < 18446744073709551616) : (wq x).toNat = x.toNat := by
  unfold wq; rw [BitVec.toNat_ofInt]; omega
theorem zwO (v : BitVec 64) : wU6 (v.toNat : Int) = v.toNat := by
  rw [qrY]; have := v.isLt; omega
theorem zuC {x y : Int} : bits .or .u64 x y = ((wq x ||| wq y).toNat : Int) := zwO _
theorem zr6 {x y : Int} : bits .and .u64 x y = ((wq x &&& wq y).toNat : Int) := zwO _
theorem q83 {x y : Int} (hx : 0 ≤ x ∧ x < 4294967296) (hy : 0 ≤ y ∧ y < 4294967296) : bits .or .u64 (qi3 .u64 x 32) y = x * 4294967296 + y := by
  rw [zqU (by decide) (by decide), w_u64k, show ((32 : Int).toNat) = 32 from rfl, show (2 : Int) ^ 32 = 4294967296 by decide, Int.emod_eq_of_lt (by omega) (by omega)]
  rw [zuC, BitVec.toNat_or, zqG (by omega), zqG (by omega)]
  have h1 : (x * 4294967296).toNat = 2 ^ 32 * x.toNat := by omega
  have h2 : y.toNat < 2 ^ 32 := by omega
  rw [h1, ← Nat.two_pow_add_eq_or_of_lt h2]
  omega
theorem zv8 {x : Int} (hx : 0 ≤ x ∧ x < 18446744073709551616) : bits .and .u64 x 4294967295 = x % 4294967296 := by
  rw [zr6, BitVec.toNat_and, zqG hx, zqG (by decide)]
  have : ((4294967295 : Int).toNat) = 2 ^ 32 - 1 := by decide
  rw [this, Nat.and_two_pow_sub_one_eq_mod]
  omega
theorem q9Q {hi lo y : Int} (hh : 0 ≤ hi ∧ hi < y) (hl : 0 ≤ lo ∧ lo < 4294967296) (hy : 0 < y ∧ y < 4294967296) :
    Ev (fun K => qs2 K hi lo y) ((hi * 4294967296 + lo) / y, (hi * 4294967296 + lo) % y) := by
  refine qaW ?_
  simp only [qs2, qjO]
  have e1 : wU6 hi = hi := by rw [qrY]; omega
  have e2 : wU6 lo = lo := by rw [qrY]; omega
  have e3 : wU6 y = y := by rw [qrY]; omega
  rw [e1, e2, e3, q83 (by omega) hl]
  refine ev_t (by simp; omega) (ev_f (by simp; omega) (qgA (by omega) (qgA (by omega) (qe4 (qa6 _) ?_))))
  have h0 : 0 ≤ hi * 4294967296 + lo := by omega
  rw [Int.tdiv_eq_ediv_of_nonneg h0, Int.tmod_eq_emod_of_nonneg h0, q4M, qrY, q4M]
  have h1 : 0 ≤ (hi * 4294967296 + lo) / y := Int.ediv_nonneg h0 (by omega)
  have h2 : (hi * 4294967296 + lo) / y < 4294967296 := Int.ediv_lt_of_lt_mul hy.1 (by
    have := Int.mul_le_mul_of_nonneg_right (show hi + 1 ≤ y by omega) (show (0 : Int) ≤ 4294967296 by decide)
    rw [Int.add_mul, Int.mul_comm y] at this; omega)
  have h3 := Int.emod_nonneg (hi * 4294967296 + lo) (show y ≠ 0 by omega)
  have h4 := Int.emod_lt_of_pos (hi * 4294967296 + lo) hy.1
  rw [Int.emod_eq_of_lt h1 (by omega), Int.emod_eq_of_lt h1 h2, Int.emod_eq_of_lt h3 (by omega)]
theorem q9J {lo y : Int} (hl : 0 ≤ lo ∧ lo < 18446744073709551616) (hy : 0 < y) : Ev (fun K => qpB K 0 lo y) (lo / y, lo % y) := by
  refine qaW ?_
  simp only [qpB, qbW]
  refine ev_f (by simp; omega) (ev_f (by simp; omega) (ev_t rfl (qgA (by omega) (qgA (by omega) (qe4 (qa6 _) ?_)))))
  rw [Int.tdiv_eq_ediv_of_nonneg hl.1, Int.tmod_eq_emod_of_nonneg hl.1, qrY]
  have h1 : 0 ≤ lo / y := Int.ediv_nonneg hl.1 (by omega)
  have h2 : lo / y ≤ lo := Int.ediv_le_self _ hl.1
  rw [Int.emod_eq_of_lt h1 (by omega)]
theorem q3Z {a : List Int} {i : Nat} (h : i < a.length) : val (a.drop i) = a[i] + 4294967296 * val (a.drop (i + 1)) := by
  rw [List.drop_eq_getElem_cons h, qqT]
theorem zvV {a : List Int} {i j : Nat} {x : Int} (h : i < j) : (a.set i x).drop j = a.drop j := by
  rw [List.drop_set, if_pos h]
theorem qwI {a : List Int} {d : Int} (ha : Dig a) (hd : 0 < d ∧ d < 4294967296) (hs : a.length < 4611686018427387904) : ∀ (i : Nat) (r : List Int) (rest : Int), i ≤ a.length → Dig r → r.length = a.length → (0 ≤ rest ∧ rest < d) →
    val (r.drop i) * d + rest = val (a.drop i) → val r = 4294967296 ^ i * val (r.drop i) → (∀ j, j < i → r[j]? = some 0) → Ev (fun K => qd4 K (.c1 r a d rest ((i : Int) - 1))) (digs (val a / d), val a % d, true)
  | 0, r, rest, hi, hr, hl, hre, hv, hz, _ => by
    refine qaW ?_
    simp only [qd4]
    rw [List.drop_zero, List.drop_zero] at hv
    have h1 := qc3 hr (by omega)
    have e1 : val a / d = val r := by
      rw [← hv, Int.add_comm, Int.add_mul_ediv_right _ _ (by omega), Int.ediv_eq_zero_of_lt hre.1 hre.2, Int.zero_add]
    have e2 : val a % d = rest := by
      rw [← hv, Int.add_comm, Int.add_mul_emod_self_right, Int.emod_eq_of_lt hre.1 hre.2]
    rw [e1, e2]
    exact ev_f (by simp) (qaR h1 (qa6 _))
  | i + 1, r, rest, hi, hr, hl, hre, hv, hz, hzz => by
    refine qaW ?_
    simp only [qd4]
    rw [show ((i + 1 : Nat) : Int) - 1 = (i : Int) by omega]
    have hia : i < a.length := by omega
    have hx := qgO ha hia
    have hn0 : 0 ≤ rest * 4294967296 + a[i] := by omega
    have hq0 : 0 ≤ (rest * 4294967296 + a[i]) / d := Int.ediv_nonneg hn0 (by omega)
    have hq1 : (rest * 4294967296 + a[i]) / d < 4294967296 := Int.ediv_lt_of_lt_mul hd.1 (by
      have := Int.mul_le_mul_of_nonneg_right (show rest + 1 ≤ d by omega) (show (0 : Int) ≤ 4294967296 by decide)
      rw [Int.add_mul, Int.mul_comm d] at this; omega)
    have hr0 := Int.emod_nonneg (rest * 4294967296 + a[i]) (show d ≠ 0 by omega)
    have hr1 := Int.emod_lt_of_pos (rest * 4294967296 + a[i]) hd.1
    have hdm := Int.emod_add_mul_ediv (rest * 4294967296 + a[i]) d
    refine ev_t (by simp) (qb8 (qfS hia) (qaR (q9Q hre hx hd) (qb8 (qfS (by omega)) ?_)))
    simp only
    rw [Int.toNat_natCast, qdF (by omega)]
    generalize (rest * 4294967296 + a[i]) / d = q at *
    generalize (rest * 4294967296 + a[i]) % d = t at *
    have hz0 : r[i]'(by omega) = 0 := by
      have := hzz i (by omega)
      rw [List.getElem?_eq_getElem (by omega)] at this
      exact Option.some.inj this
    have e1 : val ((r.set i q).drop i) = q + 4294967296 * val (r.drop (i + 1)) := by
      rw [q3Z (by simp; omega), zvV (by omega)]
      congr 1
      simp
    refine qwI ha hd hs i _ _ (by omega) (qqI hr i ⟨hq0, hq1⟩) (by simpa using hl) ⟨hr0, hr1⟩ ?_ ?_ (fun j hj => by rw [List.getElem?_set_ne (by omega)]; exact hzz j (by omega))
    · rw [e1, q3Z hia, ← hv]; grind
    · rw [e1, qrK (by omega), hz0, hz, Int.pow_succ]; grind
theorem q7B {a : List Int} {d : Int} (ha : Dig a) (hd : 0 < d ∧ d < 4294967296) (hs : a.length ≤ 34359738360) : Ev (fun K => qrB K a d) (digs (val a / d), val a % d, true) := by
  refine qaW ?_
  simp only [qrB, qd4]
  have va := qdP (qb1 ha)
  have la := qe1 ha
  refine ev_f (by simp; omega) (qaR (qc3 ha (by omega)) (qgA (by omega) ?_))
  rw [Int.toNat_natCast, qdF (by omega)]
  have := qwI (qdW (val a)) hd (by omega) (digs (val a)).length (List.replicate (digs (val a)).length 0) 0 (Nat.le_refl _) (q7Y (by decide)) (by simp) ⟨by decide, hd.1⟩
    (by rw [List.drop_of_length_le (by simp), List.drop_of_length_le (by simp)]; simp) (by rw [List.drop_of_length_le (by simp), qzR]; simp) (fun j hj => by rw [List.getElem?_replicate, if_pos hj])
  rw [va] at this
  exact this
theorem zo8 (x y : Int) : bits .or .u32 x y = bits .or .u32 y x := by rw [znO, znO, BitVec.or_comm]
theorem zn5 {x y : Int} {s : Nat} (hx : 0 ≤ x ∧ x < 4294967296) (_ : 0 ≤ y ∧ y < 4294967296) (hs1 : 0 < s) (hs : s < 32) :
    ∃ d : Int, bits .or .u32 (qdG .u32 x s) (qi3 .u32 y (32 - s)) = d ∧ (0 ≤ d ∧ d < 4294967296) ∧ 2 ^ s * d + x % 2 ^ s = x + 4294967296 * (y % 2 ^ s) := by
  rw [zl4 (by omega) (by show (s : Int) ≤ 32; omega), zqU (by omega) (by show (32 : Int) - s ≤ 32; omega), zwN, Int.toNat_natCast, show ((32 : Int) - s).toNat = 32 - s by omega]
  have hP : (0 : Int) < 2 ^ s := Int.pow_pos (by decide)
  have hQ : (0 : Int) < 2 ^ (32 - s) := Int.pow_pos (by decide)
  have hPQ : (2 : Int) ^ s * 2 ^ (32 - s) = 4294967296 := by rw [← Int.pow_add, show s + (32 - s) = 32 by omega]; rfl
  have hmul : y * 2 ^ (32 - s) % 4294967296 = y % 2 ^ s * 2 ^ (32 - s) := by rw [← hPQ, Int.mul_comm y, Int.mul_comm (2 ^ s), Int.mul_emod_mul_of_pos _ _ hQ, Int.mul_comm]
  have hm1 : 0 ≤ y % 2 ^ s := Int.emod_nonneg _ (by omega)
  have hm2 : y % 2 ^ s < 2 ^ s := Int.emod_lt_of_pos _ hP
  have hd1 : y % 2 ^ s * 2 ^ (32 - s) + 2 ^ (32 - s) ≤ 4294967296 := by
    have := Int.mul_le_mul_of_nonneg_right (show y % 2 ^ s + 1 ≤ 2 ^ s by omega) (Int.le_of_lt hQ)
    rw [hPQ, Int.add_mul, Int.one_mul] at this; exact this
  have hd0 : 0 ≤ y % 2 ^ s * 2 ^ (32 - s) := Int.mul_nonneg hm1 (Int.le_of_lt hQ)
  have hx0 : 0 ≤ x / 2 ^ s := Int.ediv_nonneg hx.1 (by omega)
  have hx1 : x / 2 ^ s < 2 ^ (32 - s) := Int.ediv_lt_of_lt_mul hP (by rw [Int.mul_comm, hPQ]; exact hx.2)
  rw [hmul, zo8, zjR (s := 32 - s) ⟨hd0, by omega⟩ (Int.mul_emod_left _ _) ⟨hx0, hx1⟩ (by omega)]
  have hdiv := Int.emod_add_mul_ediv x (2 ^ s)
  refine ⟨_, rfl, ⟨by omega, by omega⟩, ?_⟩
  rw [← hPQ]
  generalize x / 2 ^ s = q at *
  generalize x % 2 ^ s = r at *
  generalize (2 : Int) ^ s = P at *
  generalize (2 : Int) ^ (32 - s) = Q at *
  rw [← hdiv]
  grind
theorem q56 {a : List Int} (ha : Dig a) {s : Nat} (hs1 : 0 < s) (hs : s < 32) (hl : a.length < 4611686018427387904) : ∀ (m i : Nat) (r : List Int), i + m = a.length → Dig r → r.length = a.length →
    2 ^ s * val (r.take i) + a.getD 0 0 % 2 ^ s = val (a.take i) + 4294967296 ^ i * (a.getD i 0 % 2 ^ s) → (∀ j, i ≤ j → r[j]? = a[j]?) → Ev (fun K => qdJ K (.c1 r s a.length i)) (digs (val a / 2 ^ s))
  | 0, i, r, hi, hr, hrl, hv, hz => by
    refine qaW ?_
    simp only [qdJ]
    have h1 := qc3 hr (by omega)
    rw [List.take_of_length_le (by omega), List.take_of_length_le (by omega)] at hv
    have e0 : a.getD i 0 = 0 := by simp [List.getD, List.getElem?_eq_none (show a.length ≤ i by omega)]
    rw [e0] at hv
    have hP : (0 : Int) < 2 ^ s := Int.pow_pos (by decide)
    have hm1 : 0 ≤ a.getD 0 0 % 2 ^ s := Int.emod_nonneg _ (by omega)
    have hm2 : a.getD 0 0 % 2 ^ s < 2 ^ s := Int.emod_lt_of_pos _ hP
    have e1 : val a / 2 ^ s = val r := by
      rw [show val a = a.getD 0 0 % 2 ^ s + 2 ^ s * val r by simp at hv ⊢; omega, Int.add_mul_ediv_left _ _ (by omega), Int.ediv_eq_zero_of_lt hm1 hm2, Int.zero_add]
    rw [e1]
    exact ev_f (by simp; omega) (qaR h1 (qa6 _))
  | m + 1, i, r, hi, hr, hrl, hv, hz => by
    refine qaW ?_
    simp only [qdJ]
    have hia : i < a.length := by omega
    have hir : i < r.length := by omega
    have ei : r[i] = a[i] := by
      have := hz i (Nat.le_refl _)
      rw [List.getElem?_eq_getElem hir, List.getElem?_eq_getElem hia] at this
      exact Option.some.inj this
    have hx := qgO hr hir
    have gi0 : a.getD i 0 = a[i] := by simp [List.getD, List.getElem?_eq_getElem hia]
    have next : ∀ d y : Int, (0 ≤ d ∧ d < 4294967296) → a.getD (i + 1) 0 = y → 2 ^ s * d + a[i] % 2 ^ s = a[i] + 4294967296 * (y % 2 ^ s) → Ev (fun K => qdJ K (.c3 (r.set i d) s a.length i)) (digs (val a / 2 ^ s)) := by
      intro d y hd hy he
      refine qaW ?_
      simp only [qdJ]
      rw [qdF (by omega), show (i : Int) + 1 = ((i + 1 : Nat) : Int) by omega]
      refine q56 ha hs1 hs hl m (i + 1) _ (by omega) (qqI hr i hd) (by simpa using hrl) ?_ (fun j hj => by rw [List.getElem?_set_ne (by omega)]; exact hz j (by omega))
      rw [qeY (by simpa using hir), qeY hia, hy, Int.pow_succ]
      have e3 : (r.set i d).take i = r.take i := by rw [List.take_set_of_le (Nat.le_refl _)]
      rw [e3]
      simp only [List.getElem_set_self]
      rw [gi0] at hv
      generalize (4294967296 : Int) ^ i = A at *
      generalize (2 : Int) ^ s = P at *
      grind
    refine ev_t (by simp; omega) ?_
    rw [qdF (x := (i : Int) + 1) (by omega), qdF (x := (32 : Int) - s) (by omega)]
    by_cases hin : i + 1 < r.length
    · have hin2 : i + 1 < a.length := by omega
      have ej : r[i + 1] = a[i + 1] := by
        have := hz (i + 1) (by omega)
        rw [List.getElem?_eq_getElem hin, List.getElem?_eq_getElem hin2] at this
        exact Option.some.inj this
      have hy := qgO hr hin
      obtain ⟨d, e1, hd, e2⟩ := zn5 hx hy hs1 hs
      rw [show (i : Int) + 1 = ((i + 1 : Nat) : Int) by omega]
      refine ev_t (by simp; omega) (qb8 (qfS hin) (qgA (by omega) (qb8 (qfS hir) (qgA (by omega) (qb8 (qfS hir) ?_)))))
      rw [e1, Int.toNat_natCast]
      rw [ei] at e2
      exact next d _ hd (by rw [ej]; simp [List.getD, List.getElem?_eq_getElem hin2]) e2
    · obtain ⟨d, e1, hd, e2⟩ := zn5 hx (show 0 ≤ (0 : Int) ∧ (0 : Int) < 4294967296 by decide) hs1 hs
      have e4 : qi3 .u32 0 ((32 : Int) - s) = 0 := by rw [zqU (by omega) (by show (32 : Int) - s ≤ 32; omega), Int.zero_mul]; rfl
      rw [e4] at e1
      refine ev_f (by simp; omega) (qb8 (qfS hir) (qgA (by omega) (qb8 (qfS hir) ?_)))
      rw [e1, Int.toNat_natCast]
      rw [ei] at e2
      exact next d 0 hd (by simp [List.getD, List.getElem?_eq_none (show a.length ≤ i + 1 by omega)]) e2
theorem zkN {a : List Int} (ha : Dig a) {s : Nat} (hs : s < 32) (hl : a.length ≤ 34359738360) : Ev (fun K => qwG K a s) (digs (val a / 2 ^ s)) := by
  refine qaW ?_
  simp only [qwG, qdJ]
  have va := qdP (qb1 ha)
  have la := qe1 ha
  have e0 : max (s : Int) 0 = s := by omega
  have e1 : wI6 (Int.tdiv (s : Int) 32) = 0 := by
    rw [Int.tdiv_eq_ediv_of_nonneg (by omega), qdF (by omega)]; omega
  have e2 : Int.tmod (s : Int) 32 = s := by
    rw [Int.tmod_eq_emod_of_nonneg (by omega)]; omega
  rw [e0, e1, e2]
  refine qaR (qc3 ha (by omega)) ?_
  by_cases h : digs (val a) = []
  · refine ev_t (by simp [h]) (qe4 (qa6 _) ?_)
    rw [(qkC (qb1 ha)).1 h, Int.zero_ediv, qhR]
  · have hp := List.length_pos_iff.2 h
    refine ev_f (by simp; omega) (qgA (by simp) ?_)
    rw [show ((0 : Int).toNat) = 0 from rfl, List.drop_zero, List.take_length]
    refine ev_t (by simpa using hp) (qgA (by omega) ?_)
    by_cases h0 : s = 0
    · subst h0
      refine ev_f (by simp) ?_
      have := qyW (val a) (qb1 ha) (by omega)
      rw [Int.pow_zero, Int.ediv_one]
      exact qaR this (qa6 _)
    · refine ev_t (by simp; omega) ?_
      have := q56 (qdW (val a)) (s := s) (by omega) hs (by omega) _ 0 _ (Nat.zero_add _) (qdW (val a)) rfl (by simp) (fun _ _ => rfl)
      rw [va] at this
      rw [List.length_map]
      exact this
theorem zx7 : ∀ i : Fin 256, ∃ t : Fin 9, qcW[i.val]? = some (t.val : Int) ∧ (i.val = 0 ∨ (1 ≤ t.val ∧ 2 ^ (t.val - 1) ≤ i.val ∧ i.val < 2 ^ t.val)) := by decide +kernel
theorem tab_at {i : Int} (h : 0 < i ∧ i < 256) : ∃ t : Nat, gi qcW i = some (t : Int) ∧ 1 ≤ t ∧ t ≤ 8 ∧ (2 : Int) ^ (t - 1) ≤ i ∧ i < 2 ^ t := by
  obtain ⟨t, h1, h2⟩ := zx7 ⟨i.toNat, by omega⟩
  simp only at h1 h2
  have h3 : i = ((i.toNat : Nat) : Int) := by omega
  rcases h2 with h2 | ⟨h4, h5, h6⟩
  · omega
  · refine ⟨t.val, ?_, h4, by have := t.isLt; omega, ?_, ?_⟩
    · unfold gi; rw [if_pos (by omega)]; exact h1
    · rw [h3]; exact_mod_cast h5
    · rw [h3]; exact_mod_cast h6
theorem q9G {x : Int} (hx : 0 < x ∧ x < 4294967296) : ∃ t : Nat, Ev (fun K => qk0 K x) (t : Int) ∧ 1 ≤ t ∧ t ≤ 32 ∧ (2 : Int) ^ (t - 1) ≤ x ∧ x < 2 ^ t := by
  have s16 : qdG .u32 x 16 = x / 65536 := zn4 _ _ _
  have s8 : qdG .u32 x 8 = x / 256 := zn4 _ _ _
  have key : ∀ (k : Nat) (y : Int), y = x / 2 ^ k → 0 < y → y < 256 → k ≤ 24 → ∃ t : Nat, (gi qcW y = some (t : Int)) ∧ 1 ≤ t ∧ t ≤ 8 ∧ (2 : Int) ^ (k + t - 1) ≤ x ∧ x < 2 ^ (k + t) := by
    intro k y e h0 h1 hk
    obtain ⟨t, g1, g2, g3, g4, g5⟩ := tab_at ⟨h0, h1⟩
    have hP : (0 : Int) < 2 ^ k := Int.pow_pos (by decide)
    have hd := Int.emod_add_mul_ediv x (2 ^ k)
    have hm1 := Int.emod_nonneg x (show (2 : Int) ^ k ≠ 0 by omega)
    have hm2 := Int.emod_lt_of_pos x hP
    rw [← e] at hd
    refine ⟨t, g1, g2, g3, ?_, ?_⟩
    · rw [show k + t - 1 = k + (t - 1) by omega, Int.pow_add]
      have := Int.mul_le_mul_of_nonneg_left g4 (Int.le_of_lt hP)
      omega
    · rw [Int.pow_add]
      have := Int.mul_le_mul_of_nonneg_left (show y + 1 ≤ 2 ^ t by omega) (Int.le_of_lt hP)
      rw [Int.mul_add] at this
      omega
  by_cases h1 : 65536 ≤ x
  · by_cases h2 : 256 ≤ x / 65536
    · obtain ⟨t, g1, g2, g3, g4, g5⟩ := key 24 (x / 65536 / 256) (by show x / 65536 / 256 = x / 16777216; omega) (by omega) (by omega) (by omega)
      refine ⟨24 + t, ?_, by omega, by omega, g4, g5⟩
      refine qaW ?_
      simp only [qk0, qfN]
      have s24 : qdG .u32 (x / 65536) 8 = x / 65536 / 256 := zn4 _ _ _
      rw [s16, s24, show wU1 (x / 65536 / 256) = x / 65536 / 256 by rw [w_u8]; omega]
      refine ev_t (by simpa using h1) (ev_t (by simpa using h2) (qb8 g1 (qe4 (qa6 _) ?_)))
      rw [qdF (x := (t : Int)) (by omega), qdF (x := (16 : Int) + 8) (by omega), qdF (by omega)]; omega
    · obtain ⟨t, g1, g2, g3, g4, g5⟩ := key 16 (x / 65536) rfl (by omega) (by omega) (by omega)
      refine ⟨16 + t, ?_, by omega, by omega, g4, g5⟩
      refine qaW ?_
      simp only [qk0, qfN]
      rw [s16, show wU1 (x / 65536) = x / 65536 by rw [w_u8]; omega]
      refine ev_t (by simpa using h1) (ev_f (by simpa using h2) (qb8 g1 (qe4 (qa6 _) ?_)))
      rw [qdF (x := (t : Int)) (by omega), qdF (by omega)]; omega
  · by_cases h2 : 256 ≤ x
    · obtain ⟨t, g1, g2, g3, g4, g5⟩ := key 8 (x / 256) rfl (by omega) (by omega) (by omega)
      refine ⟨8 + t, ?_, by omega, by omega, g4, g5⟩
      refine qaW ?_
      simp only [qk0, qfN]
      rw [s8, show wU1 (x / 256) = x / 256 by rw [w_u8]; omega]
      refine ev_f (by simpa using h1) (ev_t (by simpa using h2) (qb8 g1 (qe4 (qa6 _) ?_)))
      rw [qdF (x := (t : Int)) (by omega), qdF (x := (0 : Int) + 8) (by omega), qdF (by omega)]; omega
    · obtain ⟨t, g1, g2, g3, g4, g5⟩ := key 0 x (by simp) (by omega) (by omega) (by omega)
      refine ⟨0 + t, ?_, by omega, by omega, g4, g5⟩
      refine qaW ?_
      simp only [qk0, qfN]
      rw [show wU1 x = x by rw [w_u8]; omega]
      refine ev_f (by simpa using h1) (ev_f (by simpa using h2) (qb8 g1 (qe4 (qa6 _) ?_)))
      rw [qdF (x := (t : Int)) (by omega), qdF (by omega)]; omega
theorem qwR {x : Int} (hx : 0 < x ∧ x < 4294967296) : ∃ s : Nat, Ev (fun K => qjN K x) (s : Int) ∧ s ≤ 31 ∧ (2147483648 : Int) ≤ x * 2 ^ s ∧ x < 2 ^ (32 - s) := by
  obtain ⟨t, g1, g2, g3, g4, g5⟩ := q9G hx
  refine ⟨32 - t, ?_, by omega, ?_, by rw [show 32 - (32 - t) = t by omega]; exact g5⟩
  · refine qaW ?_
    simp only [qjN, qe9]
    refine qaR g1 (qe4 (qa6 _) ?_)
    rw [qdF (by omega)]; omega
  · have hP : (0 : Int) < 2 ^ (32 - t) := Int.pow_pos (by decide)
    have h1 := Int.mul_le_mul_of_nonneg_right g4 (Int.le_of_lt hP)
    rw [← Int.pow_add, show t - 1 + (32 - t) = 31 by omega] at h1
    exact h1
theorem qwC {r : List Int} {n : Nat} (hn : n ≤ r.length) : Ev (fun K => qb0 K (.c2 r n)) (if n = 0 then none else some n) := by
  refine qaW ?_
  simp only [qb0]
  by_cases h : n = 0
  · subst h; exact ev_t (by simp) (qa6 _)
  · rw [if_neg h]
    refine ev_f (by simpa using h) (qgA (by omega) (qe4 (qa6 _) ?_))
    rw [Int.toNat_natCast, Nat.sub_zero]
theorem qwD {r : List Int} (hd : Dig r) (hs : r.length < 4611686018427387904) : ∀ {n : Nat}, n ≤ r.length → val (r.take n) = val r →
    Ev (fun K => qb0 K (.c1 r n)) (if (digs (val r)).length = 0 then none else some (digs (val r)).length)
  | 0, hn, hv => by
    refine qaW ?_
    simp only [qb0]
    have := qwC (r := r) (Nat.zero_le _)
    rw [List.take_zero, q6R] at hv
    rw [← hv, qhR]
    exact ev_f (by simp) this
  | n + 1, hn, hv => by
    refine qaW ?_
    simp only [qb0]
    refine ev_t (by simp) ?_
    rw [qdF (by omega), show ((n + 1 : Nat) : Int) - 1 = (n : Int) by omega]
    refine qb8 (qfS (by omega)) ?_
    by_cases h : r[n]'(by omega) = 0
    · refine ev_t (by simp [h]) (qwD hd hs (by omega) ?_)
      rw [← hv, qwV (by rw [List.getElem?_eq_getElem (by omega), h])]
    · refine ev_f (by simp [h]) ?_
      have e : digs (val r) = r.take (n + 1) := by
        rw [← hv]
        refine q0D (q70 (qk9 hd _) fun x hx => ?_)
        rw [List.getLast?_take, if_neg (by omega), Nat.add_sub_cancel, List.getElem?_eq_getElem (by omega)] at hx
        simp at hx
        rw [← hx]; exact h
      have el : (digs (val r)).length = n + 1 := by rw [e, List.length_take]; omega
      rw [el]
      exact qwC hn
theorem qwE {r : List Int} (hd : Dig r) (hs : r.length < 4611686018427387904) : Ev (fun K => qkZ K r) (if (digs (val r)).length = 0 then none else some (digs (val r)).length) := by
  refine qaW ?_
  simp only [qkZ, qb0]
  exact qwD hd hs (Nat.le_refl _) (by rw [List.take_length])
theorem zn0 {r : List Int} (hd : Dig r) : r.take (digs (val r)).length = digs (val r) :=
  (congrArg (List.take (digs (val r)).length) (zrC hd)).trans (List.take_left' rfl)
def optD (z : Int) : Option (List Int) := if (digs z).length = 0 then none else some (digs z)
theorem q3H {r0 : List Int} (h0 : Dig r0) {s : Nat} (hs1 : 0 < s) (hs : s < 32) (hl : r0.length < 4611686018427387904) (hlast : val r0 * 2 ^ s < 4294967296 ^ r0.length) : ∀ (m i : Nat) (l : Int) (r : List Int), i + m = r0.length → (0 ≤ l ∧ l < 2 ^ s) → Dig r → r.length = r0.length →
    val r + 4294967296 ^ i * l = 2 ^ s * val (r0.take i) + 4294967296 ^ i * val (r0.drop i) → (∀ j, i ≤ j → r[j]? = r0[j]?) → Ev (fun K => qeP K (.c1 r s l i)) (optD (val r0 * 2 ^ s))
  | 0, i, l, r, hi, hlo, hr, hrl, hv, hz => by
    refine qaW ?_
    simp only [qeP]
    refine ev_f (by simp; omega) ?_
    have h1 := qwE hr (by omega)
    rw [List.take_of_length_le (by omega), List.drop_of_length_le (by omega), q6R, Int.mul_zero, Int.add_zero, Int.mul_comm (2 ^ s)] at hv
    have hp := qfV i
    have hn := qb1 hr
    rw [show r0.length = i by omega] at hlast
    have hl0 : l = 0 := by
      apply Classical.byContradiction; intro hne
      have := Int.mul_le_mul_of_nonneg_left (show 1 ≤ l by omega) (Int.le_of_lt hp)
      omega
    subst hl0
    rw [Int.mul_zero, Int.add_zero] at hv
    refine qaR h1 ?_
    have htd := zn0 hr
    have hle := qe1 hr
    rw [hv] at htd hle ⊢
    unfold optD
    by_cases h : (digs (val r0 * 2 ^ s)).length = 0
    · rw [if_pos h, if_pos h]; exact qa6 _
    · rw [if_neg h, if_neg h]
      refine qgA hle (qe4 (qa6 _) ?_)
      rw [htd]
  | m + 1, i, l, r, hi, hlo, hr, hrl, hv, hz => by
    refine qaW ?_
    simp only [qeP]
    have hir : i < r.length := by omega
    have hi0 : i < r0.length := by omega
    have hx := qgO hr hir
    obtain ⟨d, q, e1, e2, hd, hq, e3⟩ := zn6 hx hlo hs
    refine ev_t (by simp; omega) (qb8 (qfS hir) (qgA (by omega) (qb8 (qfS hir) (qgA (by rw [qdF (by omega)]; omega) ?_))))
    rw [qdF (x := (32 : Int) - s) (by omega), e1, e2, Int.toNat_natCast, qdF (by omega), show (i : Int) + 1 = ((i + 1 : Nat) : Int) by omega]
    refine q3H h0 hs1 hs hl hlast m (i + 1) q _ (by omega) hq (qqI hr i hd) (by simpa using hrl) ?_ (fun j hj => ?_)
    · have e4 : r[i] = r0[i] := by
        have := hz i (Nat.le_refl _)
        rw [List.getElem?_eq_getElem hir, List.getElem?_eq_getElem hi0] at this
        exact Option.some.inj this
      rw [qrK hir, qeY hi0, Int.pow_succ]
      rw [List.drop_eq_getElem_cons hi0, qqT] at hv
      rw [e4] at e3 ⊢
      generalize (4294967296 : Int) ^ i = A at *
      generalize (2 : Int) ^ s = P at *
      grind
    · rw [List.getElem?_set_ne (by omega)]; exact hz j (by omega)
theorem ziA {a : List Int} (ha : Dig a) {n : Nat} (hn : n < 32) (hs : a.length ≤ 34359738360 - 524288) : Ev (fun K => qt5 K a n) (optD (val a * 2 ^ n)) := by
  refine qaW ?_
  simp only [qt5, qeP]
  have va := qdP (qb1 ha)
  have la := qe1 ha
  refine qaR (qc3 ha (by omega)) ?_
  by_cases h1 : digs (val a) = []
  · refine ev_t (by simp [h1]) (qe4 (qa6 _) ?_)
    rw [(qkC (qb1 ha)).1 h1, Int.zero_mul]; simp [optD, qhR]
  · refine ev_f (by simpa using h1) ?_
    have e0 : min (max (n : Int) 0) 16777216 = n := by omega
    have e1 : wI6 (Int.tdiv (n : Int) 32) = 0 := by
      rw [Int.tdiv_eq_ediv_of_nonneg (by omega), qdF (by omega)]; omega
    have e2 : Int.tmod (n : Int) 32 = n := by
      rw [Int.tmod_eq_emod_of_nonneg (by omega)]; omega
    rw [e0, e1, e2, qdF (x := (0 : Int) + ((digs (val a)).length : Int)) (by omega), qdF (by omega),
      show (0 : Int) + ((digs (val a)).length : Int) + 1 = (((digs (val a)).length + 1 : Nat) : Int) by omega]
    simp only [Int.toNat_natCast, List.length_replicate, Nat.zero_add, Int.toNat_zero]
    refine qgA (by omega) (qgA (by omega) (qgA (by omega) ?_))
    have hcp : qhE (List.replicate ((digs (val a)).length + 1) (0 : Int)) 0 ((digs (val a)).length + 1 - 0) (digs (val a)) = digs (val a) ++ [0] := by
      unfold qhE
      rw [if_pos (by simp), List.take_of_length_le (by omega)]
      unfold qdH
      rw [List.take_zero, List.drop_replicate, Nat.zero_add, show (digs (val a)).length + 1 - (digs (val a)).length = 1 by omega]
      rfl
    rw [hcp]
    have hd : Dig (digs (val a) ++ [0]) := q4J.2 ⟨qdW _, qmC.2 ⟨by decide, q32⟩⟩
    have hv : val (digs (val a) ++ [0]) = val a := by rw [qmE, va]; simp
    have hl : (digs (val a) ++ [0]).length = (digs (val a)).length + 1 := by simp
    by_cases h2 : n = 0
    · refine ev_f (by simp [h2]) ?_
      have := qwE hd (by omega)
      refine qaR this ?_
      rw [h2, Int.pow_zero, Int.mul_one]
      have htd := zn0 hd
      have hle := qe1 hd
      rw [hv] at htd hle ⊢
      unfold optD
      by_cases h : (digs (val a)).length = 0
      · rw [if_pos h, if_pos h]; exact qa6 _
      · rw [if_neg h, if_neg h]
        refine qgA hle (qe4 (qa6 _) ?_)
        rw [htd]
    · refine ev_t (by simp; omega) ?_
      have hlast : val (digs (val a) ++ [0]) * 2 ^ n < 4294967296 ^ (digs (val a) ++ [0]).length := by
        rw [hv, hl, Int.pow_succ]
        have h3 := qnX (qdW (val a))
        rw [va] at h3
        have h4 : (2 : Int) ^ n < 4294967296 := by
          have : (2 : Nat) ^ n ≤ 2 ^ 31 := Nat.pow_le_pow_right (by decide) (by omega)
          have : ((2 ^ n : Nat) : Int) ≤ ((2 ^ 31 : Nat) : Int) := by exact_mod_cast this
          simp at this; omega
        have h8 := qb1 ha
        calc val a * 2 ^ n ≤ val a * 4294967296 := Int.mul_le_mul_of_nonneg_left (Int.le_of_lt h4) h8
          _ < 4294967296 ^ (digs (val a)).length * 4294967296 := Int.mul_lt_mul_of_pos_right h3 (by decide)
      have := q3H hd (s := n) (by omega) (by omega) (by omega) hlast _ 0 0 _ (Nat.zero_add _) ⟨Int.le_refl 0, Int.pow_pos (by decide)⟩ hd rfl (by simp) (fun _ _ => rfl)
      rw [hv] at this
      exact this
def Top (k : Nat) (u : List Int) : Prop := ∀ j, k ≤ j → j < u.length → u[j]? = some 0
theorem zgN {k : Nat} {u : List Int} (h : Top k u) : val u = val (u.take k) := by
  by_cases hk : k ≤ u.length
  · rw [qpI u k hk, zqJ (l := u.drop k)]
    · simp
    · intro x hx
      obtain ⟨j, hj, rfl⟩ := List.getElem_of_mem hx
      have := h (k + j) (by omega) (by simp at hj; omega)
      simp only [List.getElem_drop]
      rw [List.getElem?_eq_getElem (by simp at hj; omega)] at this
      exact Option.some.inj this
  · rw [List.take_of_length_le (by omega)]
theorem top_lt {k : Nat} {u : List Int} (hu : Dig u) (h : Top k u) : val u < 4294967296 ^ k := by
  rw [zgN h]
  have h1 := qnX (qk9 hu k)
  have h2 := qw9 (show (u.take k).length ≤ k by rw [List.length_take]; omega)
  omega
theorem znX {k : Nat} {u : List Int} (hu : Dig u) (h : val u < 4294967296 ^ k) : Top k u := by
  intro j hj hjl
  rw [List.getElem?_eq_getElem hjl]
  congr 1
  have h1 := qpI u j (by omega)
  rw [q3Z hjl] at h1
  have h2 := qb1 (qk9 hu j)
  have h3 := qb1 (zvX hu (j + 1))
  have h4 := qgO hu hjl
  have h5 := qw9 hj
  have h6 := qfV j
  apply Classical.byContradiction; intro hne
  have := Int.mul_le_mul_of_nonneg_left (show 1 ≤ u[j] + 4294967296 * val (u.drop (j + 1)) by omega) (Int.le_of_lt h6)
  omega
theorem zgO {k i : Nat} {u : List Int} {x : Int} (h : Top k u) (hi : i < k) : Top k (u.set i x) := by
  intro j hj hjl
  rw [List.getElem?_set_ne (by omega)]
  exact h j hj (by simpa using hjl)
theorem zx2 {u : List Int} {k : Nat} (hk : k + 2 < u.length) (h : Top (k + 3) u) : val u = val (u.take k) + 4294967296 ^ k * (u[k] + 4294967296 * u[k + 1] + 18446744073709551616 * u[k + 2]) := by
  rw [zgN h, qeY (i := k + 2) (by omega), qeY (i := k + 1) (by omega), qeY (i := k) (by omega), show (4294967296 : Int) ^ (k + 2) = 4294967296 ^ k * 18446744073709551616 by rw [Int.pow_add]; rfl, Int.pow_succ]
  generalize (4294967296 : Int) ^ k = A
  grind
structure Dv (v : List Int) (n s : Nat) (top next : Int) : Prop where
  dig : Dig v
  len : v.length = n
  two : 2 ≤ n
  small : n < 2305843009213693952
  sh : s < 32
  htop : v[n - 1]? = some top
  hnext : v[n - 2]? = some next
  great : 2147483648 ≤ top
theorem Dv.form {v : List Int} {n s : Nat} {top next : Int} (h : Dv v n s top next) : ∃ w, val v = w + 4294967296 ^ (n - 2) * (next + 4294967296 * top) ∧ 0 ≤ w ∧ w < 4294967296 ^ (n - 2) ∧ (0 ≤ next ∧ next < 4294967296) ∧ (2147483648 ≤ top ∧ top < 4294967296) := by
  have h1 := h.len
  have h2 := h.two
  obtain ⟨g1, e1⟩ := List.getElem?_eq_some_iff.1 h.htop
  obtain ⟨g2, e2⟩ := List.getElem?_eq_some_iff.1 h.hnext
  have d1 := qgO h.dig g1
  have d2 := qgO h.dig g2
  refine ⟨val (v.take (n - 2)), ?_, qb1 (qk9 h.dig _), ?_, by omega, by have := h.great; omega⟩
  · have e : val v = val (v.take (n - 2 + 1 + 1)) := by rw [List.take_of_length_le (by omega)]
    rw [e, qeY (by omega), qeY (by omega), Int.pow_succ, e2]
    have e3 : v[n - 2 + 1]'(by omega) = top := by rw [← e1]; congr 1; omega
    rw [e3]
    generalize (4294967296 : Int) ^ (n - 2) = A
    grind
  · have := qnX (qk9 h.dig (n - 2))
    rw [List.length_take, Nat.min_eq_left (by omega)] at this
    exact this
theorem zo2 {v : List Int} {n s : Nat} {top next : Int} (h : Dv v n s top next) (j : Nat) :
    (top * 4294967296 + next) * 4294967296 ^ (j + n - 2) ≤ 4294967296 ^ j * val v ∧ 4294967296 ^ j * val v < (top * 4294967296 + next + 1) * 4294967296 ^ (j + n - 2) := by
  obtain ⟨w, e, h0, h1, _, _⟩ := h.form
  have h2 := h.two
  rw [e, show j + n - 2 = j + (n - 2) by omega, Int.pow_add]
  have hA := qfV j
  have hw := Int.mul_nonneg (Int.le_of_lt hA) h0
  have hw2 := Int.mul_lt_mul_of_pos_left h1 hA
  generalize (4294967296 : Int) ^ j = A at *
  generalize (4294967296 : Int) ^ (n - 2) = C at *
  constructor <;> grind
theorem zrY {r71 v u : List Int} {n s j : Nat} {top next : Int} {res : List Int × List Int} (hv : Dv v n s top next) (hu : Dig u) (hl : j + n < u.length) (hls : u.length < 2305843009213693952) (ht : Top (j + n + 1) u)
    (hU : val u < 4294967296 * (4294967296 ^ j * val v))
    (hk : ∀ g : Int, 0 ≤ g → g < 4294967296 → (g - 1) * (4294967296 ^ j * val v) ≤ val u → val u < (g + 1) * (4294967296 ^ j * val v) → Ev (fun K => qaX K (.c6 u r71 n s v top next j g)) res) :
    ∀ (m : Nat) (g rest : Int), g.toNat = m → 0 ≤ g → g < 17179869184 → 0 ≤ rest → rest < 4294967296 → g * top + rest = u[j + n] * 4294967296 + u[j + n - 1]'(by omega) → val u < (g + 1) * (4294967296 ^ j * val v) →
      Ev (fun K => qaX K (.c4 u r71 n s v top next j g rest)) res := by
  have h2 := hv.two
  obtain ⟨w, ev, _, _, hnx, htp⟩ := hv.form
  obtain ⟨b1, b2⟩ := zo2 hv j
  have e3 := zx2 (u := u) (k := j + n - 2) (by omega) (by rw [show j + n - 2 + 3 = j + n + 1 by omega]; exact ht)
  have ei1 : u[j + n - 2 + 1]'(by omega) = u[j + n - 1]'(by omega) := by congr 1; omega
  have ei2 : u[j + n - 2 + 2]'(by omega) = u[j + n] := by congr 1; omega
  rw [ei1, ei2] at e3
  have l1 := qb1 (qk9 hu (j + n - 2))
  have l2 := qnX (qk9 hu (j + n - 2))
  rw [List.length_take, Nat.min_eq_left (by omega)] at l2
  have d0 := qgO hu (show j + n - 2 < u.length by omega)
  have d1 := qgO hu (show j + n - 1 < u.length by omega)
  have d2 := qgO hu (show j + n < u.length by omega)
  have hP := qfV (j + n - 2)
  have hUn := qb1 hu
  have hVn : 0 ≤ 4294967296 ^ j * val v := Int.mul_nonneg (Int.le_of_lt (qfV j)) (qb1 hv.dig)
  generalize hu2 : u[j + n - 2]'(by omega) = u2 at *
  generalize hu1 : u[j + n - 1]'(by omega) = u1 at *
  generalize hu0 : u[j + n]'(by omega) = u0 at *
  generalize (4294967296 : Int) ^ (j + n - 2) = P at *
  generalize 4294967296 ^ j * val v = W at *
  have hlo : ((u0 * 4294967296 + u1) * 4294967296 + u2) * P ≤ val u := by
    have : ((u0 * 4294967296 + u1) * 4294967296 + u2) * P = P * (u2 + 4294967296 * u1 + 18446744073709551616 * u0) := by grind
    omega
  have hhi : val u < ((u0 * 4294967296 + u1) * 4294967296 + u2 + 1) * P := by
    have : ((u0 * 4294967296 + u1) * 4294967296 + u2 + 1) * P = P * (u2 + 4294967296 * u1 + 18446744073709551616 * u0) + P := by grind
    omega
  have hu0t : u0 ≤ top := by
    apply Classical.byContradiction; intro hne
    have h3 : (u0 * 4294967296 * 4294967296) * P ≤ val u := by
      have := Int.mul_le_mul_of_nonneg_right (show u0 * 4294967296 * 4294967296 ≤ (u0 * 4294967296 + u1) * 4294967296 + u2 by omega) (Int.le_of_lt hP)
      omega
    have h4 : ((top * 4294967296 + next + 1) * 4294967296) * P ≤ (u0 * 4294967296 * 4294967296) * P := Int.mul_le_mul_of_nonneg_right (by omega) (Int.le_of_lt hP)
    have h5 : ((top * 4294967296 + next + 1) * 4294967296) * P = 4294967296 * ((top * 4294967296 + next + 1) * P) := by grind
    omega
  -- the end of the loop
  have fin : ∀ g rest : Int, 0 ≤ g → g < 4294967296 → g * top + rest = u0 * 4294967296 + u1 → g * next ≤ rest * 4294967296 + u2 → val u < (g + 1) * W → Ev (fun K => qaX K (.c6 u r71 n s v top next j g)) res := by
    intro g rest g0 g1 e hle hgu
    refine hk g g0 g1 (zyS hP g0 (by omega) hVn hUn b2 hlo ?_) hgu
    have : g * (top * 4294967296 + next) = (g * top) * 4294967296 + g * next := by grind
    omega
  intro m
  induction m with
  | zero =>
    intro g rest hm g0 g1 r0 r1 e hgu
    have : g = 0 := by omega
    subst this
    refine qaW ?_
    simp only [qaX]
    refine ev_f (by simp) ?_
    rw [qdF (x := (j : Int) + n) (by omega), qdF (by omega), show (j : Int) + n - 2 = ((j + n - 2 : Nat) : Int) by omega]
    refine qb8 (qfS (by omega)) (ev_f ?_ (fin 0 rest (by omega) (by omega) e (by omega) hgu))
    rw [hu2, Int.zero_mul, qrY, qrY, Int.emod_eq_of_lt d0.1 (by omega), q83 ⟨r0, r1⟩ d0]
    simp; omega
  | succ m ih =>
    intro g rest hm g0 g1 r0 r1 e hgu
    have dec : val u < g * W → Ev (fun K => bif decide (4294967296 ≤ wU6 (rest + top)) then qaX K (.c6 u r71 n s v top next j (wU6 (g - 1))) else qaX K (.c4 u r71 n s v top next j (wU6 (g - 1)) (wU6 (rest + top)))) res := by
      intro hlt
      rw [qrY, qrY, Int.emod_eq_of_lt (by omega) (by omega), Int.emod_eq_of_lt (by omega) (by omega)]
      have e' : (g - 1) * top + (rest + top) = u0 * 4294967296 + u1 := by rw [Int.sub_mul]; omega
      by_cases hb : 4294967296 ≤ rest + top
      · refine ev_t (by simpa using hb) ?_
        have hg : g - 1 < 4294967296 := by
          apply Classical.byContradiction; intro hne
          have := Int.mul_le_mul_of_nonneg_right (show 4294967296 ≤ g - 1 by omega) (show 0 ≤ top by omega)
          omega
        refine fin (g - 1) (rest + top) (by omega) hg e' ?_ (by rw [Int.sub_add_cancel]; exact hlt)
        have := zb7 ⟨show 0 ≤ g - 1 by omega, hg⟩ hnx
        omega
      · refine ev_f (by simpa using hb) (ih (g - 1) (rest + top) (by omega) (by omega) (by omega) (by omega) (by omega) e' (by rw [Int.sub_add_cancel]; exact hlt))
    refine qaW ?_
    simp only [qaX]
    by_cases hg : 4294967296 ≤ g
    · refine ev_t (by simpa using hg) (dec ?_)
      have := Int.mul_le_mul_of_nonneg_right hg hVn
      omega
    · refine ev_f (by simpa using hg) ?_
      rw [qdF (x := (j : Int) + n) (by omega), qdF (by omega), show (j : Int) + n - 2 = ((j + n - 2 : Nat) : Int) by omega]
      refine qb8 (qfS (by omega)) ?_
      have hgn := zb7 ⟨g0, show g < 4294967296 by omega⟩ hnx
      have e4 : wU6 u2 = u2 := by rw [qrY]; omega
      have e5 : wU6 (g * next) = g * next := by rw [qrY]; omega
      rw [hu2, e4, e5, q83 ⟨r0, r1⟩ d0]
      by_cases hc : rest * 4294967296 + u2 < g * next
      · refine ev_t (by simpa using hc) (dec (zw3 hP g0 b1 hhi ?_))
        have : g * (top * 4294967296 + next) = (g * top) * 4294967296 + g * next := by grind
        omega
      · exact ev_f (by simpa using hc) (fin g rest g0 (by omega) e (by omega) hgu)
theorem zdY {r71 v : List Int} {n s j : Nat} {top next : Int} {res : List Int × List Int} (hv : Dv v n s top next) (L : Nat) (hl : j + n < L) (hls : L < 2305843009213693952) (W0 : Int)
    (hk : ∀ u : List Int, Dig u → u.length = L → Top (j + n + 1) u → (∃ k : Int, 0 ≤ k ∧ val u = W0 + 4294967296 ^ j * val v - 4294967296 ^ (j + n + 1) * k) → Ev (fun K => qaX K (.c11 u r71 n s v top next j)) res) :
    ∀ (m i : Nat) (c : Int) (u : List Int), i + m = n → (c = 0 ∨ c = 1) → Dig u → u.length = L → Top (j + n + 1) u → val u + 4294967296 ^ (i + j) * c = W0 + 4294967296 ^ j * val (v.take i) →
      Ev (fun K => qaX K (.c12 u r71 n s v top next j c v n i)) res
  | 0, i, c, u, hi, hc, hu, hul, ht, hval => by
    have h2 := hv.two
    refine qaW ?_
    simp only [qaX]
    refine ev_f (by simp; omega) ?_
    rw [qdF (by omega), show (j : Int) + n = ((j + n : Nat) : Int) by omega, Int.toNat_natCast]
    refine qb8 (qfS (by omega)) (qb8 (qfS (by omega)) ?_)
    have d := qgO hu (show j + n < u.length by omega)
    rw [q4M]
    refine hk _ (qqI hu _ (by omega)) (by simpa using hul) (zgO ht (by omega)) ⟨(u[j + n]'(by omega) + c) / 4294967296, by omega, ?_⟩
    rw [qrK (by omega)]
    rw [List.take_of_length_le (by have := hv.len; omega), show i + j = j + n by omega] at hval
    have := Int.emod_add_mul_ediv (u[j + n]'(by omega) + c) 4294967296
    rw [Int.pow_succ]
    generalize (u[j + n]'(by omega) + c) % 4294967296 = p at *
    generalize (u[j + n]'(by omega) + c) / 4294967296 = q at *
    generalize (4294967296 : Int) ^ (j + n) = A at *
    grind
  | m + 1, i, c, u, hi, hc, hu, hul, ht, hval => by
    have h2 := hv.two
    have h3 := hv.len
    refine qaW ?_
    simp only [qaX]
    have hiv : i < v.length := by omega
    have hiu : i + j < u.length := by omega
    refine ev_t (by simp; omega) (qb8 (qfS hiv) ?_)
    rw [qdF (x := (i : Int) + j) (by omega), show (i : Int) + j = ((i + j : Nat) : Int) by omega, Int.toNat_natCast]
    have d := qgO hu hiu
    have dv := qgO hv.dig hiv
    refine qb8 (qfS hiu) (qaR (qoT d dv (by omega)) (qb8 (qfS hiu) ?_))
    simp only
    rw [qdF (by omega), show (i : Int) + 1 = ((i + 1 : Nat) : Int) by omega]
    refine zdY hv L hl hls W0 hk m (i + 1) _ _ (by omega) (by omega) (qqI hu _ (by omega)) (by simpa using hul) (zgO ht (by omega)) ?_
    rw [qrK hiu, qeY hiv, show i + 1 + j = i + j + 1 by omega, Int.pow_succ]
    have := Int.emod_add_mul_ediv (u[i + j] + v[i] + c) 4294967296
    generalize (u[i + j] + v[i] + c) % 4294967296 = p at *
    generalize (u[i + j] + v[i] + c) / 4294967296 = q at *
    rw [Int.pow_add] at *
    generalize (4294967296 : Int) ^ i = A at *
    generalize (4294967296 : Int) ^ j = C at *
    grind
theorem zt9 {r71 v u : List Int} {n s j : Nat} {top next : Int} {res : List Int × List Int} (hv : Dv v n s top next) (hl : j + n < u.length) (hls : u.length < 2305843009213693952) (hu : Dig u) (ht : Top (j + n + 1) u)
    (hk : ∀ u' : List Int, Dig u' → u'.length = u.length → Top (j + n + 1) u' → (∃ k : Int, 0 ≤ k ∧ val u' = val u + 4294967296 ^ j * val v - 4294967296 ^ (j + n + 1) * k) → Ev (fun K => qaX K (.c11 u' r71 n s v top next j)) res) :
    Ev (fun K => qaX K (.c12 u r71 n s v top next j 0 v v.length 0)) res := by
  have := zdY hv u.length hl hls (val u) hk n 0 0 u (by omega) (.inl rfl) hu rfl ht (by simp)
  rw [hv.len]
  exact this
theorem ziF {r71 v : List Int} {n s j : Nat} {top next : Int} {res : List Int × List Int} (hv : Dv v n s top next) (L : Nat) (hl : j + n < L) (hls : L < 2305843009213693952) (hj : j < r71.length) (g U : Int) (hg : 0 ≤ g ∧ g < 4294967296) (hU0 : 0 ≤ U)
    (hg1 : (g - 1) * (4294967296 ^ j * val v) ≤ U) (hg2 : U < (g + 1) * (4294967296 ^ j * val v))
    (hk : ∀ (u : List Int) (g' : Int), Dig u → u.length = L → 0 ≤ g' → g' < 4294967296 → val u = U - g' * (4294967296 ^ j * val v) → val u < 4294967296 ^ j * val v → Ev (fun K => qaX K (.c11 u (r71.set j g') n s v top next j)) res) :
    ∀ (m i : Nat) (c b : Int) (u : List Int), i + m = n → (0 ≤ c ∧ c < 4294967296) → (b = 0 ∨ b = 1) → Dig u → u.length = L → Top (j + n + 1) u → val u - 4294967296 ^ (i + j) * (b + c) = U - g * (4294967296 ^ j * val (v.take i)) →
      Ev (fun K => qaX K (.c8 u r71 n s v top next j g c b v n i)) res
  | 0, i, c, b, u, hi, hc, hb, hu, hul, ht, hval => by
    have h2 := hv.two
    have h3 := hv.len
    refine qaW ?_
    simp only [qaX]
    refine ev_f (by simp; omega) ?_
    rw [qdF (by omega), show (j : Int) + n = ((j + n : Nat) : Int) by omega, Int.toNat_natCast, Int.toNat_natCast]
    have d := qgO hu (show j + n < u.length by omega)
    refine qb8 (qfS (by omega)) (qb8 (qfS (by omega)) (qb8 (qfS hj) ?_))
    rw [List.take_of_length_le (by omega), show i + j = j + n by omega] at hval
    have eg : wU3 g = g := by rw [q4M]; omega
    have ex : wU6 (wU6 (wU6 (u[j + n]'(by omega)) - b) - c) = (u[j + n]'(by omega) - (b + c)) % 18446744073709551616 := by simp only [qrY]; omega
    rw [ex, eg, zl4 (by decide) (by decide), q4M, show (2 : Int) ^ ((63 : Int).toNat) = 9223372036854775808 by decide]
    have hvs : ∀ x : Int, val (u.set (j + n) x) = val u + 4294967296 ^ (j + n) * (x - u[j + n]'(by omega)) := fun x => qrK (by omega) x
    have htk := zgN (zgO (x := u[j + n]'(by omega) - (b + c)) ht (show j + n < j + n + 1 by omega))
    have hA := qfV (j + n)
    have hW : 0 ≤ 4294967296 ^ j * val v := Int.mul_nonneg (Int.le_of_lt (qfV j)) (qb1 hv.dig)
    by_cases hD : 0 ≤ u[j + n]'(by omega) - (b + c)
    · refine ev_t (by simp; omega) ?_
      have e1 : (u[j + n]'(by omega) - (b + c)) % 18446744073709551616 % 4294967296 = u[j + n]'(by omega) - (b + c) := by omega
      rw [e1]
      have hdig := qqI hu (j + n) (x := u[j + n]'(by omega) - (b + c)) (by omega)
      have hval2 : val (u.set (j + n) (u[j + n]'(by omega) - (b + c))) = U - g * (4294967296 ^ j * val v) := by
        rw [hvs, ← hval]; grind
      refine hk _ g hdig (by simpa using hul) hg.1 hg.2 hval2 ?_
      rw [hval2, Int.add_mul, Int.one_mul] at *
      omega
    · refine ev_f (by simp; omega) ?_
      have e1 : (u[j + n]'(by omega) - (b + c)) % 18446744073709551616 % 4294967296 = u[j + n]'(by omega) - (b + c) + 4294967296 := by omega
      rw [e1]
      have hdig := qqI hu (j + n) (x := u[j + n]'(by omega) - (b + c) + 4294967296) (by omega)
      have htop := zgO (x := u[j + n]'(by omega) - (b + c) + 4294967296) ht (show j + n < j + n + 1 by omega)
      have hval2 : val (u.set (j + n) (u[j + n]'(by omega) - (b + c) + 4294967296)) = U - g * (4294967296 ^ j * val v) + 4294967296 ^ (j + n + 1) := by
        rw [hvs, ← hval, Int.pow_succ]; grind
      -- the guess was one too many
      have hneg : U - g * (4294967296 ^ j * val v) < 0 := by
        have h4 : val (u.take (j + n)) < 4294967296 ^ (j + n) := by
          have := qnX (qk9 hu (j + n))
          rwa [List.length_take, Nat.min_eq_left (by omega)] at this
        have h5 := zgN ht
        rw [qeY (by omega)] at h5
        have h6 := Int.mul_le_mul_of_nonneg_left (show u[j + n]'(by omega) - (b + c) + 1 ≤ 0 by omega) (Int.le_of_lt hA)
        rw [← hval, h5]
        have h7 : 4294967296 ^ (j + n) * (u[j + n]'(by omega) - (b + c) + 1) = 4294967296 ^ (j + n) * u[j + n]'(by omega) - 4294967296 ^ (j + n) * (b + c) + 4294967296 ^ (j + n) := by grind
        omega
      have hgp : 1 ≤ g := by
        apply Classical.byContradiction; intro hne
        have : g = 0 := by omega
        subst this; simp at hneg; omega
      have hgj : gi (r71.set j g) (j : Int) = some g := zaF (by simp [hj])
      refine qb8 hgj (qb8 hgj ?_)
      have eg1 : wU3 (g - 1) = g - 1 := by rw [q4M]; omega
      rw [q4M, Int.emod_eq_of_lt (by omega) (by omega), List.set_set]
      refine zt9 hv (by simp; omega) (by simp; omega) hdig htop fun u' hu' hul' ht' ⟨k, hk0, hke⟩ => ?_
      rw [hval2] at hke
      have hlt := top_lt hu' ht'
      have hn' := qb1 hu'
      have hX : U - (g - 1) * (4294967296 ^ j * val v) = U - g * (4294967296 ^ j * val v) + 4294967296 ^ j * val v := by grind
      have hB := qfV (j + n + 1)
      have hk1 : k = 1 := by
        have hWB : 4294967296 ^ j * val v < 4294967296 ^ (j + n + 1) := by
          have h4 := qnX hv.dig
          rw [h3] at h4
          have h5 := Int.mul_lt_mul_of_pos_left h4 (qfV j)
          rw [← Int.pow_add] at h5
          have h6 := qw9 (show j + n ≤ j + n + 1 by omega)
          omega
        apply Classical.byContradiction; intro hne
        rcases Int.lt_or_gt_of_ne hne with hlt1 | hgt1
        · have : k = 0 := by omega
          subst this
          omega
        · have := Int.mul_le_mul_of_nonneg_left (show 2 ≤ k by omega) (Int.le_of_lt hB)
          omega
      subst hk1
      refine hk u' (g - 1) hu' (by rw [hul']; simpa using hul) (by omega) (by omega) (by omega) (by omega)
  | m + 1, i, c, b, u, hi, hc, hb, hu, hul, ht, hval => by
    have h2 := hv.two
    have h3 := hv.len
    refine qaW ?_
    simp only [qaX]
    have hiv : i < v.length := by omega
    have hiu : i + j < u.length := by omega
    refine ev_t (by simp; omega) (qb8 (qfS hiv) ?_)
    rw [qdF (x := (i : Int) + j) (by omega), show (i : Int) + j = ((i + j : Nat) : Int) by omega, Int.toNat_natCast]
    have d := qgO hu hiu
    have dv := qgO hv.dig hiv
    have hp := zb7 hg dv
    refine qb8 (qfS hiu) (qb8 (qfS hiu) ?_)
    have e1 : wU6 (wU6 (g * wU6 v[i]) + c) = g * v[i] + c := by
      rw [qrY v[i], Int.emod_eq_of_lt dv.1 (by omega), qrY, qrY, Int.emod_eq_of_lt hp.1 (by omega), Int.emod_eq_of_lt (by omega) (by omega)]
    obtain ⟨c', b', y', q1, q2, q3, hc', hb', hy', he⟩ := zuW hg dv hc hb d
    rw [e1, zv8 (by omega), zgE, zl4 (by decide) (by decide), show (2 : Int) ^ ((63 : Int).toNat) = 9223372036854775808 by decide]
    have e2 : wU6 (wU6 (wU6 u[i + j] - b) - (g * v[i] + c) % 4294967296) = (u[i + j] - b - (g * v[i] + c) % 4294967296) % 18446744073709551616 := by simp only [qrY]; omega
    rw [e2, q4M, q1, q2, q3, qdF (by omega), show (i : Int) + 1 = ((i + 1 : Nat) : Int) by omega]
    refine ziF hv L hl hls hj g U hg hU0 hg1 hg2 hk m (i + 1) c' b' _ (by omega) hc' hb' (qqI hu _ hy') (by simpa using hul) (zgO ht (by omega)) ?_
    rw [qrK hiu, qeY hiv, show i + 1 + j = i + j + 1 by omega, Int.pow_succ]
    rw [Int.pow_add] at *
    generalize (4294967296 : Int) ^ i = A at *
    generalize (4294967296 : Int) ^ j = C at *
    grind
theorem zoR {v : List Int} {n s : Nat} {top next : Int} (hv : Dv v n s top next) (L : Nat) (hnL : n < L) (hls : L < 34359738360) (A : Int) :
    ∀ (jj : Nat) (u q : List Int), jj + n ≤ L → Dig u → u.length = L → Dig q → jj ≤ q.length → q.length = L - n → val u < 4294967296 ^ jj * val v → A = val u + val q * val v → (∀ i, i < jj → q[i]? = some 0) →
      Ev (fun K => qaX K (.c2 u q n s v top next ((jj : Int) - 1))) (digs (A / val v), digs (A % val v / 2 ^ s))
  | 0, u, q, hj, hu, hul, hq, hjq, hql, hU, hA, hz => by
    have h2 := hv.two
    rw [Int.pow_zero, Int.one_mul] at hU
    have hu0 := qb1 hu
    refine qaW ?_
    simp only [qaX]
    have e1 : A / val v = val q := by rw [hA, Int.add_mul_ediv_right _ _ (by omega), Int.ediv_eq_zero_of_lt hu0 hU, Int.zero_add]
    have e2 : A % val v = val u := by rw [hA, Int.add_mul_emod_self_right, Int.emod_eq_of_lt hu0 hU]
    have hvl := qnX hv.dig
    rw [hv.len] at hvl
    have ht := znX hu (show val u < 4294967296 ^ n by omega)
    have hs := zkN (qk9 hu n) hv.sh (by rw [List.length_take]; omega)
    rw [← zgN ht] at hs
    rw [e1, e2]
    refine ev_f (by simp) (qaR (qiS hq (by omega)) (qgA (by omega) ?_))
    rw [Int.toNat_natCast]
    exact qaR hs (qa6 _)
  | j + 1, u, q, hj, hu, hul, hq, hjq, hql, hU, hA, hz => by
    have h2 := hv.two
    have h3 := hv.len
    obtain ⟨w, evv, _, _, hnx, htp⟩ := hv.form
    refine qaW ?_
    simp only [qaX]
    rw [show ((j + 1 : Nat) : Int) - 1 = (j : Int) by omega]
    refine ev_t (by simp) ?_
    rw [qdF (x := (j : Int) + n) (by omega), qdF (x := (j : Int) + n - 1) (by omega), show (j : Int) + n - 1 = ((j + n - 1 : Nat) : Int) by omega, show (j : Int) + n = ((j + n : Nat) : Int) by omega]
    have hU' : val u < 4294967296 * (4294967296 ^ j * val v) := by
      rw [Int.pow_succ] at hU
      have : 4294967296 ^ j * 4294967296 * val v = 4294967296 * (4294967296 ^ j * val v) := by grind
      omega
    have hvl := qnX hv.dig
    rw [h3] at hvl
    have ht : Top (j + n + 1) u := by
      refine znX hu ?_
      have := Int.mul_lt_mul_of_pos_left hvl (qfV (j + 1))
      rw [← Int.pow_add, show j + 1 + n = j + n + 1 by omega] at this
      omega
    have d1 := qgO hu (show j + n - 1 < u.length by omega)
    have d2 := qgO hu (show j + n < u.length by omega)
    refine qb8 (qfS (by omega)) (qb8 (qfS (by omega)) ?_)
    have e1 : wU6 (u[j + n]'(by omega)) = u[j + n]'(by omega) := by rw [qrY]; omega
    have e2 : wU6 (u[j + n - 1]'(by omega)) = u[j + n - 1]'(by omega) := by rw [qrY]; omega
    rw [e1, e2, q83 d2 d1]
    refine qaR (q9J ⟨by omega, by omega⟩ (by omega)) ?_
    simp only
    have hN0 : 0 ≤ u[j + n]'(by omega) * 4294967296 + u[j + n - 1]'(by omega) := by omega
    have hdm := Int.emod_add_mul_ediv (u[j + n]'(by omega) * 4294967296 + u[j + n - 1]'(by omega)) top
    have hr0 := Int.emod_nonneg (u[j + n]'(by omega) * 4294967296 + u[j + n - 1]'(by omega)) (show top ≠ 0 by omega)
    have hr1 := Int.emod_lt_of_pos (u[j + n]'(by omega) * 4294967296 + u[j + n - 1]'(by omega)) (show 0 < top by omega)
    have hq0 : 0 ≤ (u[j + n]'(by omega) * 4294967296 + u[j + n - 1]'(by omega)) / top := Int.ediv_nonneg hN0 (by omega)
    have hq1 : (u[j + n]'(by omega) * 4294967296 + u[j + n - 1]'(by omega)) / top < 17179869184 := Int.ediv_lt_of_lt_mul (by omega) (by
      have := Int.mul_le_mul_of_nonneg_left htp.1 (show (0 : Int) ≤ 17179869184 by decide)
      omega)
    -- the quotient's bound for the first guess
    obtain ⟨b1, _⟩ := zo2 hv j
    have e3 := zx2 (u := u) (k := j + n - 2) (by omega) (by rw [show j + n - 2 + 3 = j + n + 1 by omega]; exact ht)
    have ei1 : u[j + n - 2 + 1]'(by omega) = u[j + n - 1]'(by omega) := by congr 1; omega
    have ei2 : u[j + n - 2 + 2]'(by omega) = u[j + n]'(by omega) := by congr 1; omega
    rw [ei1, ei2] at e3
    have l2 := qnX (qk9 hu (j + n - 2))
    rw [List.length_take, Nat.min_eq_left (by omega)] at l2
    have d0 := qgO hu (show j + n - 2 < u.length by omega)
    have hP := qfV (j + n - 2)
    have hhi : val u < ((u[j + n]'(by omega) * 4294967296 + u[j + n - 1]'(by omega)) * 4294967296 + u[j + n - 2]'(by omega) + 1) * 4294967296 ^ (j + n - 2) := by
      have : ((u[j + n]'(by omega) * 4294967296 + u[j + n - 1]'(by omega)) * 4294967296 + u[j + n - 2]'(by omega) + 1) * 4294967296 ^ (j + n - 2) = 4294967296 ^ (j + n - 2) * (u[j + n - 2]'(by omega) + 4294967296 * u[j + n - 1]'(by omega) + 18446744073709551616 * u[j + n]'(by omega)) + 4294967296 ^ (j + n - 2) := by
        generalize (4294967296 : Int) ^ (j + n - 2) = P
        grind
      omega
    have hfirst : val u < ((u[j + n]'(by omega) * 4294967296 + u[j + n - 1]'(by omega)) / top + 1) * (4294967296 ^ j * val v) := by
      refine zw3 hP (by omega) b1 hhi ?_
      generalize (u[j + n]'(by omega) * 4294967296 + u[j + n - 1]'(by omega)) / top = Q at *
      have h5 : (Q + 1) * (top * 4294967296 + next) = (top * Q + top) * 4294967296 + (Q + 1) * next := by grind
      have h6 : 0 ≤ (Q + 1) * next := Int.mul_nonneg (by omega) hnx.1
      omega
    refine zrY hv hu (by omega) (by omega) ht hU' ?_ _ _ _ rfl hq0 hq1 hr0 (by omega) (by rw [Int.mul_comm]; omega) hfirst
    intro g g0 g1 hg1 hg2
    refine qaW ?_
    simp only [qaX]
    have hqj : q[j]'(by omega) = 0 := by
      have := hz j (by omega)
      rw [List.getElem?_eq_getElem (by omega)] at this
      exact Option.some.inj this
    have := ziF (r71 := q) hv L (by omega) (by omega) (by omega) g (val u) ⟨g0, g1⟩ (qb1 hu) hg1 hg2 (res := (digs (A / val v), digs (A % val v / 2 ^ s))) ?_ n 0 0 0 u (by omega) (by decide) (.inl rfl) hu hul ht (by simp)
    · rw [h3]
      exact this
    · intro u' g' hu' hul' hg0' hg1' hval hlt
      refine qaW ?_
      simp only [qaX]
      rw [qdF (by omega)]
      refine zoR hv L hnL hls A j u' (q.set j g') (by omega) hu' hul' (qqI hq j ⟨hg0', hg1'⟩) (by simp; omega) (by simpa using hql) hlt ?_ (fun i hi => by rw [List.getElem?_set_ne (by omega)]; exact hz i (by omega))
      rw [hA, qrK (by omega), hqj, hval]
      grind
open Go.Proofs.Tryz (prog)
inductive qrH where
 | c0 (a : qaE) (b : qaE)
def qm0 : Nat → qrH → Option (qaE × qaE × Int)
 | 0, _ => none
 | K + 1, .c0 a b =>
  (qs9 K b).bind fun x1 =>
  bif x1 then
   some ((qaE.mk false []), (qaE.mk false []), (2 : Int))
  else
   (qnU K a.Abs b.Abs).bind fun x4 =>
   (qjD K (!(a.Neg == b.Neg)) x4.1).bind fun x6 =>
   (qjD K a.Neg x4.2).bind fun x8 =>
   some (x6, x8, (0 : Int))
def qxY (K : Nat) (a : qaE) (b : qaE) : Option (qaE × qaE × Int) := qm0 K (.c0 a b)
noncomputable def zdA : Code := qcS prog 171
noncomputable def zf8 : qrH → List Fr
 | .c0 .. => [.code zdA]
def zjD : qrH → St
 | .c0 a b => St.init [(TV.agg (qaK a)), (TV.agg (qaK b))]
def q6M (cx : Cx) (c : qrH) (r : (qaE × qaE × Int)) : Prop := Wk prog cx (qd8 prog 171 [[0,1], [0,1], [0]] (TV.tup [(true, qaK r.1), (true, qaK r.2.1), (false, [(T.int .i64 r.2.2)])])) (zf8 c) .normal (zjD c)
abbrev q6N (K : Nat) : Prop := ∀ c r, qm0 K c = some r → ∀ cx : Cx, cx.n = 32 → q6M cx c r
theorem zjF {K} (_ : q6N K) {cx} (hn : cx.n = 32) {a b} {r} (h : qm0 (K + 1) (.c0 a b) = some r) : q6M cx (.c0 a b) r := by
 rw [qm0] at h
 obtain ⟨x1, h2, h⟩ := qaU h
 rcases qa0 h with ⟨h3, h⟩ | ⟨h3, h⟩
 ·have h := oinj h; subst h
  exact wkR [rg5, rgG [oo, opI (.call [[0,1]] [(TV.agg (qaK b))] (TV.c (T.bool x1)))], bTr, .draw [.p, .p, .p] [.op .p, .op .p]] hn (aC (qnT h2) <| aC h3 <| aN)
 ·obtain ⟨x4, h5, h⟩ := qaU h
  obtain ⟨x6, h7, h⟩ := qaU h
  obtain ⟨x8, h9, h⟩ := qaU h
  have h := oinj h; subst h
  exact wkR [rg5, rgG [oo, opI (.call [[0,1]] [(TV.agg (qaK b))] (TV.c (T.bool x1)))], bFa, rgG [oo, oo, oo, oo, opI (.call [[1], [1]] [(TV.c (T.sl 1 (a.Abs.map qaF))), (TV.c (T.sl 1 (b.Abs.map qaF)))] (TV.tup [(false, [(T.sl 1 (x4.1.map qaF))]), (false, [(T.sl 1 (x4.2.map qaF))])])), oo, oo, oo, oo, oo], .draw [.p, .p, .p, .p, .p, .p, (.call [[0], [1]] [(TV.c (T.bool (!(a.Neg == b.Neg)))), (tl 1 x4.1 qaF)] (TV.agg (qaK x6))), .p, .p, .p] [opI (.call [[0], [1]] [(TV.c (T.bool a.Neg)), (tl 1 x4.2 qaF)] (TV.agg (qaK x8))), .op .p, .op .p, .op .p]] hn (aC (qnT h2) <| aC h3 <| aC (qrT h5) <| aC (qfO h7) <| aC (qfO h9) <| aN)
theorem q1U : ∀ K : Nat, q6N K
 | 0, c, r, h => by rw [qm0] at h; cases h
 | K + 1, .c0 .., r, h => fun cx hn => zjF (q1U K) hn h
theorem qtA {K : Nat} {a : qaE} {b : qaE} {r : (qaE × qaE × Int)} (h : qxY K a b = some r) : qc7 prog 171 [(TV.agg (qaK a)), (TV.agg (qaK b))] (TV.tup [(true, qaK r.1), (true, qaK r.2.1), (false, [(T.int .i64 r.2.2)])]) :=
 qbL [[0,1], [0,1], [0]] (by kernel_rfl) (by simp) fun cx hn => q1U K (.c0 a b) r h cx hn
open Go.Proofs.Tryz (prog)
inductive qoY where
 | c0 (a : qaE) (b : qaE)
def qkW : Nat → qoY → Option (qaE × Int)
 | 0, _ => none
 | K + 1, .c0 a b =>
  (qxY K a b).bind fun x1 =>
  bif (decide (x1.2.2 = (0 : Int))) then
   (qs9 K x1.2.1).bind fun x4 =>
   bif (!x4) then
    some ((qaE.mk false []), (3 : Int))
   else
    some (x1.1, x1.2.2)
  else
   some (x1.1, x1.2.2)
def qqS (K : Nat) (a : qaE) (b : qaE) : Option (qaE × Int) := qkW K (.c0 a b)
noncomputable def q7W : Code := qcS prog 110
noncomputable def zaK : qoY → List Fr
 | .c0 .. => [.code q7W]
def zdB : qoY → St
 | .c0 a b => St.init [(TV.agg (qaK a)), (TV.agg (qaK b))]
def q1V (cx : Cx) (c : qoY) (r : (qaE × Int)) : Prop := Wk prog cx (qd8 prog 110 [[0,1], [0]] (TV.tup [(true, qaK r.1), (false, [(T.int .i64 r.2)])])) (zaK c) .normal (zdB c)
abbrev q1W (K : Nat) : Prop := ∀ c r, qkW K c = some r → ∀ cx : Cx, cx.n = 26 → q1V cx c r
theorem zdC {K} (_ : q1W K) {cx} (hn : cx.n = 26) {a b} {r} (h : qkW (K + 1) (.c0 a b) = some r) : q1V cx (.c0 a b) r := by
 rw [qkW] at h
 obtain ⟨x1, h2, h⟩ := qaU h
 rcases qa0 h with ⟨h3, h⟩ | ⟨h3, h⟩
 ·obtain ⟨x4, h5, h⟩ := qaU h
  rcases qa0 h with ⟨h6, h⟩ | ⟨h6, h⟩
  ·have h := oinj h; subst h
   exact wkR [rg4, rgG [oo, oo, opI (.call [[0,1], [0,1]] [(TV.agg (qaK a)), (TV.agg (qaK b))] (TV.tup [(true, qaK x1.1), (true, qaK x1.2.1), (false, [(T.int .i64 x1.2.2)])])), oo, oo, oo, oo, oo, oo, oo, oo, oo], rgG [oo, oo, oo, .sb 18 true, oo, opI (.call [[0,1]] [(TV.agg (qaK x1.2.1))] (TV.c (T.bool x4))), oo, oo], bTr, rg3] hn (aC (qtA h2) <| aC h3 <| aC (qnT h5) <| aC h6 <| aN)
  ·have h := oinj h; subst h
   exact wkR [rg4, rgG [oo, oo, opI (.call [[0,1], [0,1]] [(TV.agg (qaK a)), (TV.agg (qaK b))] (TV.tup [(true, qaK x1.1), (true, qaK x1.2.1), (false, [(T.int .i64 x1.2.2)])])), oo, oo, oo, oo, oo, oo, oo, oo, oo], rgG [oo, oo, oo, .sb 18 true, oo, opI (.call [[0,1]] [(TV.agg (qaK x1.2.1))] (TV.c (T.bool x4))), oo, oo], bFa, rg4] hn (aC (qtA h2) <| aC h3 <| aC (qnT h5) <| aC h6 <| aN)
 ·have h := oinj h; subst h
  exact wkR [rg4, rgG [oo, oo, opI (.call [[0,1], [0,1]] [(TV.agg (qaK a)), (TV.agg (qaK b))] (TV.tup [(true, qaK x1.1), (true, qaK x1.2.1), (false, [(T.int .i64 x1.2.2)])])), oo, oo, oo, oo, oo, oo, oo, oo, oo], rgG [oo, oo, oo, .sb 18 false, oo, oo, oo, oo], bFa, rg4] hn (aC (qtA h2) <| aC h3 <| aC rf <| aN)
theorem qx1 : ∀ K : Nat, q1W K
 | 0, c, r, h => by rw [qkW] at h; cases h
 | K + 1, .c0 .., r, h => fun cx hn => zdC (qx1 K) hn h
theorem qvF {K : Nat} {a : qaE} {b : qaE} {r : (qaE × Int)} (h : qqS K a b = some r) : qc7 prog 110 [(TV.agg (qaK a)), (TV.agg (qaK b))] (TV.tup [(true, qaK r.1), (false, [(T.int .i64 r.2)])]) :=
 qbL [[0,1], [0]] (by kernel_rfl) (by simp) fun cx hn => qx1 K (.c0 a b) r h cx hn
theorem zp6 {z : Int} {n : Nat} (h0 : 0 ≤ z) (h1 : z < 4294967296 ^ (n + 1)) (h2 : 4294967296 ^ n ≤ z) : (digs z).length = n + 1 := by
  have h3 := qk3 h1
  have h4 : ¬ (digs z).length ≤ n := fun h => by have := q7X h0 h; omega
  omega
theorem q1T {a b : List Int} (ha : Dig a) (hb : Dig b) (hs : a.length ≤ 17179869184) (ht : b.length ≤ 17179869184) (h0 : val b ≠ 0) : Ev (fun K => qnU K a b) (digs (val a / val b), digs (val a % val b)) := by
  refine qaW ?_
  simp only [qnU, qaX]
  have na := qb1 ha
  have nb := qb1 hb
  have lb := qe1 hb
  have vb := qdP nb
  have hc := qm3 (val a) (val b)
  have hcmp := qt7 ha (qdW (val b)) (by omega) (by omega)
  rw [vb] at hcmp
  refine qaR (qiS hb (by omega)) (qaR hcmp ?_)
  by_cases hlt : val a < val b
  · refine ev_t (by simp; omega) (qaR (qiS ha (by omega)) (qe4 (qa6 _) ?_))
    rw [Int.ediv_eq_zero_of_lt na hlt, Int.emod_eq_of_lt na hlt, qhR]
  · refine ev_f (by simp; omega) ?_
    have hne : digs (val b) ≠ [] := fun e => h0 ((qkC nb).1 e)
    have hlp := List.length_pos_iff.2 hne
    by_cases h1 : (digs (val b)).length = 1
    · have e1 : gi (digs (val b)) 0 = some (val b) := by
        obtain ⟨x, hd⟩ : ∃ x, digs (val b) = [x] := List.length_eq_one_iff.1 h1
        rw [hd] at vb ⊢
        simp at vb
        rw [← vb]; rfl
      have hlb : val b < 4294967296 := by have := q7X nb (Nat.le_of_eq h1); simpa using this
      refine ev_t (by simp; omega) (qb8 e1 ?_)
      have hr0 := Int.emod_nonneg (val a) h0
      have hr1 := Int.emod_lt_of_pos (val a) (show 0 < val b by omega)
      refine qaR (q7B ha (by omega) (by omega)) ?_
      simp only
      rw [qrY, Int.emod_eq_of_lt hr0 (by omega)]
      exact qaR (qp0 hr0 (by omega)) (qa6 _)
    · -- the long way
      obtain ⟨n, hn⟩ : ∃ n, (digs (val b)).length = n + 2 := ⟨(digs (val b)).length - 2, by omega⟩
      have hdt := qgO (qdW (val b)) (show n + 1 < (digs (val b)).length by omega)
      have hlast := zrI (quD (val b)) hne
      rw [List.getLast_eq_getElem] at hlast
      have el : (digs (val b))[(digs (val b)).length - 1]'(by omega) = (digs (val b))[n + 1]'(by omega) := by congr 1; omega
      rw [el] at hlast
      obtain ⟨s, hsev, hs31, hs1, hs2⟩ := qwR (x := (digs (val b))[n + 1]'(by omega)) (by omega)
      -- the value of b
      have hsplit := qpI (digs (val b)) (n + 1) (by omega)
      rw [q3Z (by omega), List.drop_of_length_le (l := digs (val b)) (i := n + 1 + 1) (by omega), q6R, vb] at hsplit
      have hlow := qnX (qk9 (qdW (val b)) (n + 1))
      rw [List.length_take, Nat.min_eq_left (by omega)] at hlow
      have hlow0 := qb1 (qk9 (qdW (val b)) (n + 1))
      generalize hx : (digs (val b))[n + 1]'(by omega) = x at *
      generalize val ((digs (val b)).take (n + 1)) = w at *
      have hA := qfV (n + 1)
      have hP : (0 : Int) < 2 ^ s := Int.pow_pos (by decide)
      have hPQ : (2 : Int) ^ (32 - s) * 2 ^ s = 4294967296 := by rw [← Int.pow_add, show 32 - s + s = 32 by omega]; rfl
      have hxs : (x + 1) * 2 ^ s ≤ 4294967296 := by
        have := Int.mul_le_mul_of_nonneg_right (show x + 1 ≤ 2 ^ (32 - s) by omega) (Int.le_of_lt hP)
        omega
      have hV : val b * 2 ^ s = w * 2 ^ s + 4294967296 ^ (n + 1) * (x * 2 ^ s) := by
        rw [hsplit]; generalize (4294967296 : Int) ^ (n + 1) = A; generalize (2 : Int) ^ s = P; grind
      have hVhi : val b * 2 ^ s < 4294967296 ^ (n + 2) := by
        have h3 := Int.mul_lt_mul_of_pos_right hlow hP
        have h4 := Int.mul_le_mul_of_nonneg_left hxs (Int.le_of_lt hA)
        rw [Int.pow_succ _ (n + 1)]
        have h5 : 4294967296 ^ (n + 1) * ((x + 1) * 2 ^ s) = 4294967296 ^ (n + 1) * (x * 2 ^ s) + 4294967296 ^ (n + 1) * 2 ^ s := by
          generalize (4294967296 : Int) ^ (n + 1) = A; generalize (2 : Int) ^ s = P; grind
        omega
      have hw0 : 0 ≤ w * 2 ^ s := Int.mul_nonneg hlow0 (Int.le_of_lt hP)
      have hVlo : 4294967296 ^ (n + 1) * 2147483648 ≤ val b * 2 ^ s := by
        have := Int.mul_le_mul_of_nonneg_left hs1 (Int.le_of_lt hA)
        omega
      have hVlo1 : 4294967296 ^ (n + 1) ≤ val b * 2 ^ s := by omega
      have hVn : 0 ≤ val b * 2 ^ s := by omega
      have hvl := zp6 hVn hVhi hVlo1
      have hvv := qdP hVn
      -- the divisor
      have hdtop := qpI (digs (val b * 2 ^ s)) (n + 1) (by omega)
      rw [q3Z (by omega), List.drop_of_length_le (l := digs (val b * 2 ^ s)) (i := n + 1 + 1) (by omega), q6R, hvv] at hdtop
      have hlow' := qnX (qk9 (qdW (val b * 2 ^ s)) (n + 1))
      rw [List.length_take, Nat.min_eq_left (by omega)] at hlow'
      have hgreat : 2147483648 ≤ (digs (val b * 2 ^ s))[n + 1]'(by omega) := by
        apply Classical.byContradiction; intro hne
        have := Int.mul_le_mul_of_nonneg_left (show (digs (val b * 2 ^ s))[n + 1]'(by omega) + 4294967296 * 0 + 1 ≤ 2147483648 by omega) (Int.le_of_lt hA)
        rw [Int.mul_add _ _ 1, Int.mul_one] at this
        omega
      have hDv : Dv (digs (val b * 2 ^ s)) (n + 2) s ((digs (val b * 2 ^ s))[n + 1]'(by omega)) ((digs (val b * 2 ^ s))[n]'(by omega)) :=
        ⟨qdW _, hvl, by omega, by omega, by omega, by rw [show n + 2 - 1 = n + 1 by omega]; exact List.getElem?_eq_getElem (by omega), by rw [Nat.add_sub_cancel]; exact List.getElem?_eq_getElem (by omega), hgreat⟩
      refine ev_f (by simp; omega) ?_
      rw [hn, qdF (x := ((n + 2 : Nat) : Int) - 1) (by omega), qdF (x := ((n + 2 : Nat) : Int) - 2) (by omega), show ((n + 2 : Nat) : Int) - 1 = ((n + 1 : Nat) : Int) by omega, show ((n + 2 : Nat) : Int) - 2 = (n : Int) by omega]
      have hgx : gi (digs (val b)) ((n + 1 : Nat) : Int) = some x := by rw [qfS (by omega), hx]
      have hshl := zkT (qdW (val b)) (n := s) (by omega) (by omega)
      rw [vb] at hshl
      have hshn := ziA ha (n := s) (by omega) (by omega)
      have hAge : val b * 2 ^ s ≤ val a * 2 ^ s := Int.mul_le_mul_of_nonneg_right (by omega) (Int.le_of_lt hP)
      have hAn : 0 ≤ val a * 2 ^ s := by omega
      have hml : n + 2 ≤ (digs (val a * 2 ^ s)).length := by
        apply Classical.byContradiction; intro hne
        have := q7X hAn (show (digs (val a * 2 ^ s)).length ≤ n + 1 by omega)
        omega
      have hopt : optD (val a * 2 ^ s) = some (digs (val a * 2 ^ s)) := by unfold optD; rw [if_neg (by omega)]
      rw [hopt] at hshn
      refine qb8 hgx (qaR hsev (qaR hshl (qaR hshn ?_)))
      have hua : (digs (val a * 2 ^ s)).length ≤ a.length + 1 := by
        refine qk3 ?_
        have h3 := qnX ha
        have h4 : (2 : Int) ^ s < 4294967296 := by
          have : (2 : Nat) ^ s ≤ 2 ^ 31 := Nat.pow_le_pow_right (by decide) (by omega)
          have : ((2 ^ s : Nat) : Int) ≤ ((2 ^ 31 : Nat) : Int) := by exact_mod_cast this
          simp at this; omega
        rw [Int.pow_succ]
        calc val a * 2 ^ s ≤ val a * 4294967296 := Int.mul_le_mul_of_nonneg_left (Int.le_of_lt h4) na
          _ < 4294967296 ^ a.length * 4294967296 := Int.mul_lt_mul_of_pos_right h3 (by decide)
      have hul : (digs (val a * 2 ^ s) ++ [0]).length = (digs (val a * 2 ^ s)).length + 1 := by simp
      have hud : Dig (digs (val a * 2 ^ s) ++ [0]) := q4J.2 ⟨qdW _, qmC.2 ⟨by decide, q32⟩⟩
      have huv : val (digs (val a * 2 ^ s) ++ [0]) = val a * 2 ^ s := by rw [qmE, qdP hAn]; simp
      simp only [List.length_map, hul]
      generalize hM : (digs (val a * 2 ^ s)).length = M at *
      rw [qdF (x := ((M + 1 : Nat) : Int) - ((n + 2 : Nat) : Int)) (by omega), show ((M + 1 : Nat) : Int) - ((n + 2 : Nat) : Int) = ((M - n - 1 : Nat) : Int) by omega]
      refine qgA (by omega) (qgA (by omega) (qb8 (qfS (by omega)) (qb8 (qfS (by omega)) ?_)))
      have dtop := qgO (qdW (val b * 2 ^ s)) (show n + 1 < (digs (val b * 2 ^ s)).length by omega)
      have dnext := qgO (qdW (val b * 2 ^ s)) (show n < (digs (val b * 2 ^ s)).length by omega)
      rw [qrY, Int.emod_eq_of_lt dtop.1 (by omega), qrY, Int.emod_eq_of_lt dnext.1 (by omega), Int.toNat_natCast, qdF (by omega)]
      have hml2 := qnX (qdW (val a * 2 ^ s))
      rw [qdP hAn, hM] at hml2
      have := zoR hDv (M + 1) (by omega) (by omega) (val a * 2 ^ s) (M - n - 1) (digs (val a * 2 ^ s) ++ [0]) (List.replicate (M - n - 1) 0) (by omega) hud (by simp [hM]) (q7Y (by decide)) (by simp) (by simp; omega)
        (by
          rw [huv, hvv]
          have h5 := Int.mul_le_mul_of_nonneg_left hVlo1 (Int.le_of_lt (qfV (M - n - 1)))
          rw [← Int.pow_add, show M - n - 1 + (n + 1) = M by omega] at h5
          omega)
        (by rw [qzR, huv]; simp) (fun i hi => by rw [List.getElem?_replicate, if_pos hi])
      have er : val a * 2 ^ s % (val b * 2 ^ s) / 2 ^ s = val a % val b := by
        rw [Int.mul_comm (val a), Int.mul_comm (val b), Int.mul_emod_mul_of_pos _ _ hP, Int.mul_ediv_cancel_left _ (by omega)]
      rw [hvv, er, Int.mul_ediv_mul_of_pos_left _ _ hP] at this
      exact this
def Sm (a : qaE) : Prop := Dig a.Abs ∧ a.Abs.length ≤ 17179869000
theorem qyJ {z : Int} {n : Nat} (hn : n ≤ 17179869000) (h1 : -(4294967296 ^ n) < z) (h2 : z < 4294967296 ^ n) : Sm (mkI z) := ⟨zpX z, by have := ztG h1 h2; omega⟩
theorem sm_lt {a : qaE} (h : Dig a.Abs) : ((ival a).natAbs : Int) < 4294967296 ^ a.Abs.length := by rw [← qvZ a h]; exact qnX h
theorem sm_le {a : qaE} (h : Sm a) {z : Int} (hz : z.natAbs ≤ (ival a).natAbs) : Sm (mkI z) := by
  have h1 := sm_lt h.1
  exact qyJ h.2 (by omega) (by omega)
theorem q3I : mkI 0 = ⟨false, []⟩ := by rw [qtR (Int.le_refl 0), qhR]
theorem zjE {a b : qaE} (ha : Sm a) (hb : Sm b) (h0 : ival b ≠ 0) : Ev (fun K => qxY K a b) (mkI ((ival a).tdiv (ival b)), mkI ((ival a).tmod (ival b)), 0) := by
  refine qaW ?_
  simp only [qxY, qm0]
  have na := qb1 ha.1
  have nb := qb1 hb.1
  have hvb := qvZ b hb.1
  have hb0 : val b.Abs ≠ 0 := by omega
  have hq0 : 0 ≤ val a.Abs / val b.Abs := Int.ediv_nonneg na nb
  have hr0 := Int.emod_nonneg (val a.Abs) hb0
  have hql : (digs (val a.Abs / val b.Abs)).length ≤ a.Abs.length := by
    refine qk3 ?_
    have := Int.ediv_le_self (val b.Abs) na
    have := qnX ha.1
    omega
  have hrl : (digs (val a.Abs % val b.Abs)).length ≤ b.Abs.length := by
    refine qk3 ?_
    have := Int.emod_lt_of_pos (val a.Abs) (show 0 < val b.Abs by omega)
    have := qnX hb.1
    omega
  have s1 := ha.2
  have s2 := hb.2
  have f1 := qjC (!(a.Neg == b.Neg)) (qdW (val a.Abs / val b.Abs)) (by omega)
  have f2 := qjC a.Neg (qdW (val a.Abs % val b.Abs)) (by omega)
  rw [qdP hq0] at f1
  rw [qdP hr0] at f2
  refine qaR (q1S hb.1 (by omega)) (ev_f (by simpa using h0) (qaR (q1T ha.1 hb.1 (by omega) (by omega) hb0) ?_))
  refine qaR f1 (qaR f2 (qe4 (qa6 _) ?_))
  obtain ⟨s, a⟩ := a
  obtain ⟨t, b⟩ := b
  simp only at na nb hb0
  unfold ival
  have e1 := Int.tdiv_eq_ediv_of_nonneg (b := val b) na
  have e2 := Int.tmod_eq_emod_of_nonneg (b := val b) na
  cases s <;> cases t <;> simp [Int.neg_tdiv, Int.tdiv_neg, Int.neg_tmod, Int.tmod_neg, e1, e2]
theorem qzK {a b : qaE} (ha : Sm a) (hb : Sm b) (h0 : ival b ≠ 0) (hd : ival b ∣ ival a) : Ev (fun K => qqS K a b) (mkI (ival a / ival b), 0) := by
  refine qaW ?_
  simp only [qqS, qkW]
  have hm : (ival a).tmod (ival b) = 0 := Int.dvd_iff_tmod_eq_zero.1 hd
  have hq : (ival a).tdiv (ival b) = ival a / ival b := by
    obtain ⟨c, hc⟩ := hd
    rw [hc, Int.mul_tdiv_cancel_left _ h0, Int.mul_ediv_cancel_left _ h0]
  have := zjE ha hb h0
  rw [hm, hq] at this
  have hz := q1S (a := mkI 0) (zpX 0) (by rw [q3I]; simp)
  rw [qdQ] at hz
  exact qaR this (ev_t rfl (qaR hz (ev_f rfl (qa6 _))))
open Go.Proofs.Tryz (prog)
inductive qoN where
 | c0 (a : (List Int))
def qkK : Nat → qoN → Option (Int × Bool)
 | 0, _ => none
 | K + 1, .c0 a =>
  (qc9 K a).bind fun x1 =>
  bif (decide ((x1.length : Int) = (0 : Int))) then
   some ((0 : Int), true)
  else
   bif (decide ((x1.length : Int) = (1 : Int))) then
    (gi x1 (0 : Int)).bind fun x5 =>
    some ((wU6 x5), true)
   else
    bif (decide ((x1.length : Int) = (2 : Int))) then
     (gi x1 (1 : Int)).bind fun x6 =>
     (gi x1 (0 : Int)).bind fun x8 =>
     some ((bits .or .u64 (qi3 .u64 (wU6 x6) (32 : Int)) (wU6 x8)), true)
    else
     some ((0 : Int), false)
def qqP (K : Nat) (a : (List Int)) : Option (Int × Bool) := qkK K (.c0 a)
noncomputable def q67 : Code := qcS prog 169
noncomputable def q84 : qoN → List Fr
 | .c0 .. => [.code q67]
def zcA : qoN → St
 | .c0 a => St.init [(tl 1 a qaF)]
def q07 (cx : Cx) (c : qoN) (r : (Int × Bool)) : Prop := Wk prog cx (qd8 prog 169 [[0], [0]] (TV.tup [(false, [(T.int .u64 r.1)]), (false, [(T.bool r.2)])])) (q84 c) .normal (zcA c)
abbrev q08 (K : Nat) : Prop := ∀ c r, qkK K c = some r → ∀ cx : Cx, cx.n = 28 → q07 cx c r
theorem zcB {K} (_ : q08 K) {cx} (hn : cx.n = 28) {a} {r} (h : qkK (K + 1) (.c0 a) = some r) : q07 cx (.c0 a) r := by
 rw [qkK] at h
 obtain ⟨x1, h2, h⟩ := qaU h
 rcases qa0 h with ⟨h3, h⟩ | ⟨h3, h⟩
 ·have h := oinj h; subst h
  exact wkR [rg2, rgG [oo, opI (.call [[1]] [(tl 1 a qaF)] (tl 1 x1 qaF)), oo], rgG [oo, opI (.ln (x1.length : Int))], rg2, bTr, rg2] hn (aC (qa5 h2) <| aC (qdI x1 qaF) <| aC h3 <| aN)
 ·rcases qa0 h with ⟨h4, h⟩ | ⟨h4, h⟩
  ·obtain ⟨x5, h6, h⟩ := qaU h
   have h := oinj h; subst h
   exact wkR [rg2, rgG [oo, opI (.call [[1]] [(tl 1 a qaF)] (tl 1 x1 qaF)), oo], rgG [oo, opI (.ln (x1.length : Int))], rg2, bFa, rg2, bTr, rgG [oo, opI (.ix (qaF x5)), oo, oo, oo, oo]] hn (aC (qa5 h2) <| aC (qdI x1 qaF) <| aC h3 <| aC h4 <| aC (qb5 h6) <| aC (qfP qaF h6) <| aN)
  ·rcases qa0 h with ⟨h5, h⟩ | ⟨h5, h⟩
   ·obtain ⟨x6, h7, h⟩ := qaU h
    obtain ⟨x8, h9, h⟩ := qaU h
    have h := oinj h; subst h
    exact wkR [rg2, rgG [oo, opI (.call [[1]] [(tl 1 a qaF)] (tl 1 x1 qaF)), oo], rgG [oo, opI (.ln (x1.length : Int))], rg2, bFa, rg2, bFa, rg2, bTr, .draw [.p, (.ix (qaF x6)), .p, .p, .p, .p, (.ix (qaF x8)), .p, .p] [.op .p, .op .p, .op .p]] hn (aC (qa5 h2) <| aC (qdI x1 qaF) <| aC h3 <| aC h4 <| aC h5 <| aC (qb5 h7) <| aC (qfP qaF h7) <| aC (qb5 h9) <| aC (qfP qaF h9) <| aN)
   ·have h := oinj h; subst h
    exact wkR [rg2, rgG [oo, opI (.call [[1]] [(tl 1 a qaF)] (tl 1 x1 qaF)), oo], rgG [oo, opI (.ln (x1.length : Int))], rg2, bFa, rg2, bFa, rg2, bFa, rg2] hn (aC (qa5 h2) <| aC (qdI x1 qaF) <| aC h3 <| aC h4 <| aC h5 <| aN)
theorem qxP : ∀ K : Nat, q08 K
 | 0, c, r, h => by rw [qkK] at h; cases h
 | K + 1, .c0 .., r, h => fun cx hn => zcB (qxP K) hn h
theorem qj1 {K : Nat} {a : (List Int)} {r : (Int × Bool)} (h : qqP K a = some r) : qc7 prog 169 [(tl 1 a qaF)] (TV.tup [(false, [(T.int .u64 r.1)]), (false, [(T.bool r.2)])]) :=
 qbL [[0], [0]] (by kernel_rfl) (by simp) fun cx hn => qxP K (.c0 a) r h cx hn
open Go.Proofs.Tryz (prog)
inductive qrJ where
 | c0 (a : qaE) (b : qaE)
 | c1 (b4 : qaE) (x : (List Int)) (y : (List Int))
 | c2 (b4 : qaE) (m : Int) (n : Int)
def qdN : Nat → qrJ → Option qaE
 | 0, _ => none
 | K + 1, .c0 a b =>
  (qgN K a.Abs).bind fun x1 =>
  (qgN K b.Abs).bind fun x3 =>
  qdN K (.c1 (qaE.mk false []) x1 x3)
 | K + 1, .c1 b4 x y =>
  bif (decide ((0 : Int) < (y.length : Int))) then
   (qqP K x).bind fun x2 =>
   bif x2.2 then
    (qqP K y).bind fun x5 =>
    bif x5.2 then
     qdN K (.c2 b4 x2.1 x5.1)
    else
     (qnU K x y).bind fun x8 =>
     qdN K (.c1 b4 y x8.2)
   else
    (qnU K x y).bind fun x5 =>
    qdN K (.c1 b4 y x5.2)
  else
   (qjD K false x).bind fun x2 =>
   some x2
 | K + 1, .c2 b4 m n =>
  bif (!decide (n = (0 : Int))) then
   gd (n ≠ 0) <|
   qdN K (.c2 b4 n (Int.tmod m n))
  else
   (qp1 K m).bind fun x2 =>
   (qjD K false x2).bind fun x4 =>
   some x4
def qx0 (K : Nat) (a : qaE) (b : qaE) : Option qaE := qdN K (.c0 a b)
noncomputable def qg3 : Code := qcS prog 109
noncomputable def zf9 : qrJ → List Fr
 | .c0 .. => [.code qg3]
 | .c1 .. => [.code (.loop (atC qg3 [1,1,0,0,0])), .blk 0, .code (atC qg3 [1,1,1])]
 | .c2 .. => [.code (.loop (atC qg3 [1,1,0,0,0,1,0,0,1,1,0,1,1,0,0,0,0])), .blk 2, .code (atC qg3 [1,1,0,0,0,1,0,0,1,1,0,1,1,0,1]), .code (atC qg3 [1,1,0,0,0,1,0,1]), .blk 1, .lp (atC qg3 [1,1,0,0,0]), .blk 0, .code (atC qg3 [1,1,1])]
def zjI : qrJ → St
 | .c0 a b => St.init [(TV.agg (qaK a)), (TV.agg (qaK b))]
 | .c1 b4 x y => ⟨[(4, .c (C.ptr 4 0)), (5, vl 1 x qaF), (6, vl 1 y qaF)], [(4, .var ((qaK b4).map C.t))], []⟩
 | .c2 b4 m n => ⟨[(4, .c (C.ptr 4 0)), (7, vi .u64 m), (9, vi .u64 n)], [(4, .var ((qaK b4).map C.t))], []⟩
def quB (cx : Cx) (c : qrJ) (r : qaE) : Prop := Wk prog cx (qd8 prog 109 [[0,1]] (TV.agg (qaK r))) (zf9 c) .normal (zjI c)
abbrev quC (K : Nat) : Prop := ∀ c r, qdN K c = some r → ∀ cx : Cx, cx.n = 53 → quB cx c r
theorem zjM {K} (ih : quC K) {cx} (hn : cx.n = 53) {a b} {r} (h : qdN (K + 1) (.c0 a b) = some r) : quB cx (.c0 a b) r := by
 rw [qdN] at h
 obtain ⟨x1, h2, h⟩ := qaU h
 obtain ⟨x3, h4, h⟩ := qaU h
 exact wkG [rg3, .draw [.p, .p, (.call [[1]] [(TV.c (T.sl 1 (a.Abs.map qaF)))] (tl 1 x1 qaF)), .p, .p] [opI (.call [[1]] [(TV.c (T.sl 1 (b.Abs.map qaF)))] (tl 1 x3 qaF)), .op .p, .op .p], .pre [.tellB 4 [0,1], .keep [4,5,6] [4]]] hn (aC (qdD h2) <| aC (qdD h4) <| aN) (ih _ _ h cx hn)
theorem zjL {K} (ih : quC K) {cx} (hn : cx.n = 53) {b4 x y} {r} (h : qdN (K + 1) (.c1 b4 x y) = some r) : quB cx (.c1 b4 x y) r := by
 rw [qdN] at h
 rcases qa0 h with ⟨h1, h⟩ | ⟨h1, h⟩
 ·obtain ⟨x2, h3, h⟩ := qaU h
  rcases qa0 h with ⟨h4, h⟩ | ⟨h4, h⟩
  ·obtain ⟨x5, h6, h⟩ := qaU h
   rcases qa0 h with ⟨h7, h⟩ | ⟨h7, h⟩
   ·exact wkG [.go, rgG [oo, opI (.ln (y.length : Int)), oo], bTr, rgG [oo, opI (.call [[1]] [(tl 1 x qaF)] (TV.tup [(false, [(T.int .u64 x2.1)]), (false, [(T.bool x2.2)])])), oo, oo, oo, oo, oo], rg1, bTr, rgG [oo, opI (.call [[1]] [(tl 1 y qaF)] (TV.tup [(false, [(T.int .u64 x5.1)]), (false, [(T.bool x5.2)])])), oo, oo, oo, oo, oo], rg1, bTr, .pre [.keep [4,7,9] [4]]] hn (aC (qdI y qaF) <| aC h1 <| aC (qj1 h3) <| aC h4 <| aC (qj1 h6) <| aC h7 <| aN) (ih _ _ h cx hn)
   ·obtain ⟨x8, h9, h⟩ := qaU h
    exact wkG [.go, rgG [oo, opI (.ln (y.length : Int)), oo], bTr, rgG [oo, opI (.call [[1]] [(tl 1 x qaF)] (TV.tup [(false, [(T.int .u64 x2.1)]), (false, [(T.bool x2.2)])])), oo, oo, oo, oo, oo], rg1, bTr, rgG [oo, opI (.call [[1]] [(tl 1 y qaF)] (TV.tup [(false, [(T.int .u64 x5.1)]), (false, [(T.bool x5.2)])])), oo, oo, oo, oo, oo], rg1, bFa, rgG [oo, oo, opI (.call [[1], [1]] [(tl 1 x qaF), (tl 1 y qaF)] (TV.tup [(false, [(T.sl 1 (x8.1.map qaF))]), (false, [(T.sl 1 (x8.2.map qaF))])])), oo, oo, oo, oo, oo], rg4, .pre [.keep [4,5,6] [4]]] hn (aC (qdI y qaF) <| aC h1 <| aC (qj1 h3) <| aC h4 <| aC (qj1 h6) <| aC h7 <| aC (qrT h9) <| aN) (ih _ _ h cx hn)
  ·obtain ⟨x5, h6, h⟩ := qaU h
   exact wkG [.go, rgG [oo, opI (.ln (y.length : Int)), oo], bTr, rgG [oo, opI (.call [[1]] [(tl 1 x qaF)] (TV.tup [(false, [(T.int .u64 x2.1)]), (false, [(T.bool x2.2)])])), oo, oo, oo, oo, oo], rg1, bFa, rgG [oo, oo, opI (.call [[1], [1]] [(tl 1 x qaF), (tl 1 y qaF)] (TV.tup [(false, [(T.sl 1 (x5.1.map qaF))]), (false, [(T.sl 1 (x5.2.map qaF))])])), oo, oo, oo, oo, oo], rg4, .pre [.keep [4,5,6] [4]]] hn (aC (qdI y qaF) <| aC h1 <| aC (qj1 h3) <| aC h4 <| aC (qrT h6) <| aN) (ih _ _ h cx hn)
 ·obtain ⟨x2, h3, h⟩ := qaU h
  have h := oinj h; subst h
  exact wkR [.go, rgG [oo, opI (.ln (y.length : Int)), oo], bFa, rgG [oo, opI (.call [[0], [1]] [(TV.c (T.bool false)), (tl 1 x qaF)] (TV.agg (qaK x2))), oo]] hn (aC (qdI y qaF) <| aC h1 <| aC (qfO h3) <| aN)
theorem zjK {K} (ih : quC K) {cx} (hn : cx.n = 53) {b4 m n} {r} (h : qdN (K + 1) (.c2 b4 m n) = some r) : quB cx (.c2 b4 m n) r := by
 rw [qdN] at h
 rcases qa0 h with ⟨h1, h⟩ | ⟨h1, h⟩
 ·obtain ⟨h2, h⟩ := qbV h
  exact wkG [.go, rg2, bTr, .draw [.p, .p, .p, .dv, .p] [.op .p], .pre [.keep [4,7,9] [4]]] hn (aC h1 <| aC h2 <| aN) (ih _ _ h cx hn)
 ·obtain ⟨x2, h3, h⟩ := qaU h
  obtain ⟨x4, h5, h⟩ := qaU h
  have h := oinj h; subst h
  exact wkR [.go, rg2, bFa, rgG [oo, opI (.call [[0]] [(ti .u64 m)] (tl 1 x2 qaF)), opI (.call [[0], [1]] [(TV.c (T.bool false)), (tl 1 x2 qaF)] (TV.agg (qaK x4))), oo]] hn (aC h1 <| aC (qlO h3) <| aC (qfO h5) <| aN)
theorem qrI : ∀ K : Nat, quC K
 | 0, c, r, h => by rw [qdN] at h; cases h
 | K + 1, .c0 .., r, h => fun cx hn => zjM (qrI K) hn h
 | K + 1, .c1 .., r, h => fun cx hn => zjL (qrI K) hn h
 | K + 1, .c2 .., r, h => fun cx hn => zjK (qrI K) hn h
theorem qxZ {K : Nat} {a : qaE} {b : qaE} {r : qaE} (h : qx0 K a b = some r) : qc7 prog 109 [(TV.agg (qaK a)), (TV.agg (qaK b))] (TV.agg (qaK r)) :=
 qbL [[0,1]] (by kernel_rfl) (by simp) fun cx hn => qrI K (.c0 a b) r h cx hn
open Go.Proofs.Tryz (prog)
inductive qoM where
 | c0 (a : (List Int))
def qkI : Nat → qoM → Option Bool
 | 0, _ => none
 | _ + 1, .c0 a =>
  bif (decide ((a.length : Int) = (1 : Int))) then
   (gi a (0 : Int)).bind fun x2 =>
   some (decide (x2 = (1 : Int)))
  else
   some false
def qqM (K : Nat) (a : (List Int)) : Option Bool := qkI K (.c0 a)
noncomputable def q63 : Code := qcS prog 108
noncomputable def q8R : qoM → List Fr
 | .c0 .. => [.code q63]
def zbT : qoM → St
 | .c0 a => St.init [(tl 1 a qaF)]
def q0X (cx : Cx) (c : qoM) (r : Bool) : Prop := Wk prog cx (qd8 prog 108 [[0]] (TV.c (T.bool r))) (q8R c) .normal (zbT c)
abbrev q0Y (K : Nat) : Prop := ∀ c r, qkI K c = some r → ∀ cx : Cx, cx.n = 12 → q0X cx c r
theorem zbU {K} (_ : q0Y K) {cx} (hn : cx.n = 12) {a} {r} (h : qkI (K + 1) (.c0 a) = some r) : q0X cx (.c0 a) r := by
 rw [qkI] at h
 rcases qa0 h with ⟨h1, h⟩ | ⟨h1, h⟩
 ·obtain ⟨x2, h3, h⟩ := qaU h
  have h := oinj h; subst h
  exact wkR [rg1, rgG [oo, opI (.ln (a.length : Int)), oo, oo, .sb 6 true, oo, opI (.ix (qaF x2)), oo, oo, oo, oo]] hn (aC (qdI a qaF) <| aC h1 <| aC (qb5 h3) <| aC (qfP qaF h3) <| aN)
 ·have h := oinj h; subst h
  exact wkR [rg1, rgG [oo, opI (.ln (a.length : Int)), oo, oo, .sb 6 false, oo, oo, oo, oo, oo, oo]] hn (aC (qdI a qaF) <| aC h1 <| aN)
theorem qxK : ∀ K : Nat, q0Y K
 | 0, c, r, h => by rw [qkI] at h; cases h
 | K + 1, .c0 .., r, h => fun cx hn => zbU (qxK K) hn h
theorem qj0 {K : Nat} {a : (List Int)} {r : Bool} (h : qqM K a = some r) : qc7 prog 108 [(tl 1 a qaF)] (TV.c (T.bool r)) :=
 qbL [[0]] (by kernel_rfl) (by simp) fun cx hn => qxK K (.c0 a) r h cx hn
open Go.Proofs.Tryz (prog)
inductive qq2 where
 | c0 
def qmN : Nat → qq2 → Option (List Int)
 | 0, _ => none
 | K + 1, .c0  =>
  (qp1 K (1 : Int)).bind fun x1 =>
  some x1
def qo5 (K : Nat)  : Option (List Int) := qmN K .c0
noncomputable def zbR : Code := qcS prog 104
noncomputable def ze1 : qq2 → List Fr
 | .c0  => [.code zbR]
def zhH : qq2 → St
 | .c0  => St.init []
def q5P (cx : Cx) (c : qq2) (r : (List Int)) : Prop := Wk prog cx (qd8 prog 104 [[1]] (tl 1 r qaF)) (ze1 c) .normal (zhH c)
abbrev q5Q (K : Nat) : Prop := ∀ c r, qmN K c = some r → ∀ cx : Cx, cx.n = 2 → q5P cx c r
theorem zhI {K} (_ : q5Q K) {cx} (hn : cx.n = 2)  {r} (h : qmN (K + 1) .c0 = some r) : q5P cx .c0 r := by
 rw [qmN] at h
 obtain ⟨x1, h2, h⟩ := qaU h
 have h := oinj h; subst h
 exact wkR [rg1, rgG [opI (.call [[0]] [(TV.c (T.int .u64 (1 : Int)))] (tl 1 x1 qaF)), oo]] hn (aC (qlO h2) <| aN)
theorem q0W : ∀ K : Nat, q5Q K
 | 0, c, r, h => by rw [qmN] at h; cases h
 | K + 1, .c0, r, h => fun cx hn => zhI (q0W K) hn h
theorem qoL {K : Nat}  {r : (List Int)} (h : qo5 K  = some r) : qc7 prog 104 [] (tl 1 r qaF) :=
 qbL [[1]] (by kernel_rfl) (by simp) fun cx hn => q0W K .c0 r h cx hn
open Go.Proofs.Tryz (prog)
inductive qpS where
 | c0 (num : qaE) (den : (List Int))
def qlJ : Nat → qpS → Option qaJ
 | 0, _ => none
 | K + 1, .c0 num den =>
  (qgN K den).bind fun x1 =>
  bif (decide ((x1.length : Int) = (0 : Int))) then
   (qo5 K ).bind fun x4 =>
   some (qaJ.mk (qaE.mk false []) x4)
  else
   (qi6 K num.Abs).bind fun x4 =>
   bif x4 then
    (qo5 K ).bind fun x7 =>
    some (qaJ.mk (qaE.mk false []) x7)
   else
    (qqM K x1).bind fun x7 =>
    bif x7 then
     (qi7 K num).bind fun x10 =>
     some (qaJ.mk x10 x1)
    else
     (qjD K false x1).bind fun x10 =>
     (qx0 K num x10).bind fun x12 =>
     (qqM K x12.Abs).bind fun x14 =>
     bif x14 then
      (qi7 K num).bind fun x17 =>
      some (qaJ.mk x17 x1)
     else
      (qqS K num x12).bind fun x17 =>
      (qqS K x10 x12).bind fun x19 =>
      some (qaJ.mk x17.1 x19.1.Abs)
def qj5 (K : Nat) (num : qaE) (den : (List Int)) : Option qaJ := qlJ K (.c0 num den)
noncomputable def q8Q : Code := qcS prog 46
noncomputable def zbS : qpS → List Fr
 | .c0 .. => [.code q8Q]
def ze2 : qpS → St
 | .c0 num den => St.init [(TV.agg (qaK num)), (tl 1 den qaF)]
def q21 (cx : Cx) (c : qpS) (r : qaJ) : Prop := Wk prog cx (qd8 prog 46 [[0,1,1]] (TV.agg (qaB r))) (zbS c) .normal (ze2 c)
abbrev q22 (K : Nat) : Prop := ∀ c r, qlJ K c = some r → ∀ cx : Cx, cx.n = 57 → q21 cx c r
theorem ze3 {K} (_ : q22 K) {cx} (hn : cx.n = 57) {num den} {r} (h : qlJ (K + 1) (.c0 num den) = some r) : q21 cx (.c0 num den) r := by
 rw [qlJ] at h
 obtain ⟨x1, h2, h⟩ := qaU h
 rcases qa0 h with ⟨h3, h⟩ | ⟨h3, h⟩
 ·obtain ⟨x4, h5, h⟩ := qaU h
  have h := oinj h; subst h
  exact wkR [rg2, rgG [oo, opI (.call [[1]] [(tl 1 den qaF)] (tl 1 x1 qaF)), oo], rgG [oo, opI (.ln (x1.length : Int)), oo, oo, .sb 16 true, oo, oo, oo, oo], bTr, rgG [opI (.call [] [] (tl 1 x4 qaF)), oo, oo]] hn (aC (qdD h2) <| aC (qdI x1 qaF) <| aC h3 <| aC rt <| aC (qoL h5) <| aN)
 ·obtain ⟨x4, h5, h⟩ := qaU h
  rcases qa0 h with ⟨h6, h⟩ | ⟨h6, h⟩
  ·obtain ⟨x7, h8, h⟩ := qaU h
   have h := oinj h; subst h
   exact wkR [rg2, rgG [oo, opI (.call [[1]] [(tl 1 den qaF)] (tl 1 x1 qaF)), oo], rgG [oo, opI (.ln (x1.length : Int)), oo, oo, .sb 16 false, oo, oo, opI (.call [[1]] [(TV.c (T.sl 1 (num.Abs.map qaF)))] (TV.c (T.bool x4))), oo], bTr, rgG [opI (.call [] [] (tl 1 x7 qaF)), oo, oo]] hn (aC (qdD h2) <| aC (qdI x1 qaF) <| aC h3 <| aC (qdV h5) <| aC h6 <| aC (qoL h8) <| aN)
  ·obtain ⟨x7, h8, h⟩ := qaU h
   rcases qa0 h with ⟨h9, h⟩ | ⟨h9, h⟩
   ·obtain ⟨x10, h11, h⟩ := qaU h
    have h := oinj h; subst h
    exact wkR [rg2, rgG [oo, opI (.call [[1]] [(tl 1 den qaF)] (tl 1 x1 qaF)), oo], rgG [oo, opI (.ln (x1.length : Int)), oo, oo, .sb 16 false, oo, oo, opI (.call [[1]] [(TV.c (T.sl 1 (num.Abs.map qaF)))] (TV.c (T.bool x4))), oo], bFa, rgG [oo, opI (.call [[1]] [(tl 1 x1 qaF)] (TV.c (T.bool x7)))], bTr, rgG [oo, opI (.call [[0,1]] [(TV.agg (qaK num))] (TV.agg (qaK x10))), oo, oo, oo]] hn (aC (qdD h2) <| aC (qdI x1 qaF) <| aC h3 <| aC (qdV h5) <| aC h6 <| aC (qj0 h8) <| aC h9 <| aC (qj3 h11) <| aN)
   ·obtain ⟨x10, h11, h⟩ := qaU h
    obtain ⟨x12, h13, h⟩ := qaU h
    obtain ⟨x14, h15, h⟩ := qaU h
    rcases qa0 h with ⟨h16, h⟩ | ⟨h16, h⟩
    ·obtain ⟨x17, h18, h⟩ := qaU h
     have h := oinj h; subst h
     exact wkR [rg2, rgG [oo, opI (.call [[1]] [(tl 1 den qaF)] (tl 1 x1 qaF)), oo], rgG [oo, opI (.ln (x1.length : Int)), oo, oo, .sb 16 false, oo, oo, opI (.call [[1]] [(TV.c (T.sl 1 (num.Abs.map qaF)))] (TV.c (T.bool x4))), oo], bFa, rgG [oo, opI (.call [[1]] [(tl 1 x1 qaF)] (TV.c (T.bool x7)))], bFa, rgG [oo, opI (.call [[0], [1]] [(TV.c (T.bool false)), (tl 1 x1 qaF)] (TV.agg (qaK x10))), oo, oo], rgG [oo, oo, opI (.call [[0,1], [0,1]] [(TV.agg (qaK num)), (TV.agg (qaK x10))] (TV.agg (qaK x12))), oo, oo], rgG [oo, oo, opI (.call [[1]] [(TV.c (T.sl 1 (x12.Abs.map qaF)))] (TV.c (T.bool x14)))], bTr, rgG [oo, opI (.call [[0,1]] [(TV.agg (qaK num))] (TV.agg (qaK x17))), oo, oo, oo]] hn (aC (qdD h2) <| aC (qdI x1 qaF) <| aC h3 <| aC (qdV h5) <| aC h6 <| aC (qj0 h8) <| aC h9 <| aC (qfO h11) <| aC (qxZ h13) <| aC (qj0 h15) <| aC h16 <| aC (qj3 h18) <| aN)
    ·obtain ⟨x17, h18, h⟩ := qaU h
     obtain ⟨x19, h20, h⟩ := qaU h
     have h := oinj h; subst h
     exact wkR [rg2, rgG [oo, opI (.call [[1]] [(tl 1 den qaF)] (tl 1 x1 qaF)), oo], rgG [oo, opI (.ln (x1.length : Int)), oo, oo, .sb 16 false, oo, oo, opI (.call [[1]] [(TV.c (T.sl 1 (num.Abs.map qaF)))] (TV.c (T.bool x4))), oo], bFa, rgG [oo, opI (.call [[1]] [(tl 1 x1 qaF)] (TV.c (T.bool x7)))], bFa, rgG [oo, opI (.call [[0], [1]] [(TV.c (T.bool false)), (tl 1 x1 qaF)] (TV.agg (qaK x10))), oo, oo], rgG [oo, oo, opI (.call [[0,1], [0,1]] [(TV.agg (qaK num)), (TV.agg (qaK x10))] (TV.agg (qaK x12))), oo, oo], rgG [oo, oo, opI (.call [[1]] [(TV.c (T.sl 1 (x12.Abs.map qaF)))] (TV.c (T.bool x14)))], bFa, rgG [oo, oo, opI (.call [[0,1], [0,1]] [(TV.agg (qaK num)), (TV.agg (qaK x12))] (TV.tup [(true, qaK x17.1), (false, [(T.int .i64 x17.2)])])), oo, oo, oo, oo, oo, oo], rgG [oo, oo, opI (.call [[0,1], [0,1]] [(TV.agg (qaK x10)), (TV.agg (qaK x12))] (TV.tup [(true, qaK x19.1), (false, [(T.int .i64 x19.2)])])), oo, oo, oo, oo, oo, oo], rg5] hn (aC (qdD h2) <| aC (qdI x1 qaF) <| aC h3 <| aC (qdV h5) <| aC h6 <| aC (qj0 h8) <| aC h9 <| aC (qfO h11) <| aC (qxZ h13) <| aC (qj0 h15) <| aC h16 <| aC (qvF h18) <| aC (qvF h20) <| aN)
theorem qyP : ∀ K : Nat, q22 K
 | 0, c, r, h => by rw [qlJ] at h; cases h
 | K + 1, .c0 .., r, h => fun cx hn => ze3 (qyP K) hn h
theorem qiR {K : Nat} {num : qaE} {den : (List Int)} {r : qaJ} (h : qj5 K num den = some r) : qc7 prog 46 [(TV.agg (qaK num)), (tl 1 den qaF)] (TV.agg (qaB r)) :=
 qbL [[0,1,1]] (by kernel_rfl) (by simp) fun cx hn => qyP K (.c0 num den) r h cx hn
open Go.Proofs.Tryz (prog)
inductive qnF where
 | c0 (a : qaJ)
def qjJ : Nat → qnF → Option qaJ
 | 0, _ => none
 | K + 1, .c0 a =>
  (qj5 K a.Num a.Den).bind fun x1 =>
  some x1
def qhK (K : Nat) (a : qaJ) : Option qaJ := qjJ K (.c0 a)
noncomputable def q4V : Code := qcS prog 49
noncomputable def q64 : qnF → List Fr
 | .c0 .. => [.code q4V]
def q8U : qnF → St
 | .c0 a => St.init [(TV.agg (qaB a))]
def qyR (cx : Cx) (c : qnF) (r : qaJ) : Prop := Wk prog cx (qd8 prog 49 [[0,1,1]] (TV.agg (qaB r))) (q64 c) .normal (q8U c)
abbrev qyS (K : Nat) : Prop := ∀ c r, qjJ K c = some r → ∀ cx : Cx, cx.n = 8 → qyR cx c r
theorem q8V {K} (_ : qyS K) {cx} (hn : cx.n = 8) {a} {r} (h : qjJ (K + 1) (.c0 a) = some r) : qyR cx (.c0 a) r := by
 rw [qjJ] at h
 obtain ⟨x1, h2, h⟩ := qaU h
 have h := oinj h; subst h
 exact wkR [rg2, rgG [oo, oo, oo, oo, opI (.call [[0,1], [1]] [(TV.agg (qaK a.Num)), (TV.c (T.sl 1 (a.Den.map qaF)))] (TV.agg (qaB x1))), oo]] hn (aC (qiR h2) <| aN)
theorem qv7 : ∀ K : Nat, qyS K
 | 0, c, r, h => by rw [qjJ] at h; cases h
 | K + 1, .c0 .., r, h => fun cx hn => q8V (qv7 K) hn h
theorem qg0 {K : Nat} {a : qaJ} {r : qaJ} (h : qhK K a = some r) : qc7 prog 49 [(TV.agg (qaB a))] (TV.agg (qaB r)) :=
 qbL [[0,1,1]] (by kernel_rfl) (by simp) fun cx hn => qv7 K (.c0 a) r h cx hn
theorem qyX {x : Int} (h0 : 0 ≤ x) (hs : (digs x).length < 4611686018427387904) : Ev (fun K => qqP K (digs x)) (if x < 18446744073709551616 then (x, true) else (0, false)) := by
  refine qaW ?_
  simp only [qqP, qkK]
  refine qaR (qyW x h0 hs) ?_
  have hd := qdW x
  have hv := qdP h0
  cases hl : digs x with
  | nil =>
    rw [hl] at hv
    refine ev_t (by simp) (qe4 (qa6 _) ?_)
    have : x = 0 := by rw [← hv]; rfl
    rw [if_pos (by omega), this]
  | cons a l =>
    rw [hl] at hv hd
    have ha := hd a (by simp)
    refine ev_f (by simp; omega) ?_
    cases l with
    | nil =>
      have hx : x = a := by rw [← hv]; simp [val]
      refine ev_t (by simp) (qb8 (x := a) rfl (qe4 (qa6 _) ?_))
      rw [if_pos (by omega), qrY, Int.emod_eq_of_lt (by omega) (by omega), hx]
    | cons b l =>
      have hb := hd b (by simp)
      refine ev_f (by simp; omega) ?_
      cases l with
      | nil =>
        have hx : x = b * 4294967296 + a := by rw [← hv]; simp [val]; omega
        refine ev_t (by simp) (qb8 (x := b) rfl (qb8 (x := a) rfl (qe4 (qa6 _) ?_)))
        rw [if_pos (by omega), qrY, qrY, Int.emod_eq_of_lt (show 0 ≤ b by omega) (by omega), Int.emod_eq_of_lt (show 0 ≤ a by omega) (by omega), q83 hb ha, hx]
      | cons c l =>
        refine ev_f (by simp; omega) (qe4 (qa6 _) ?_)
        have : (4294967296 : Int) ^ 2 ≤ 4294967296 ^ ((digs x).length - 1) := qw9 (by rw [hl]; simp)
        have h2 := zrJ (quD x) (by rw [hl]; simp)
        rw [qdP h0] at h2
        rw [if_neg (by have : (4294967296 : Int) ^ 2 = 18446744073709551616 := rfl; omega)]
theorem zpW {n k : Nat} (h : (n : Int) < 4294967296 ^ k) : (digs (n : Int)).length ≤ k := qk3 h
theorem zjG (b4 : qaE) : ∀ (N M : Nat), M < 18446744073709551616 → N < 18446744073709551616 → Ev (fun K => qdN K (.c2 b4 (M : Int) (N : Int))) (mkI (Nat.gcd M N : Nat)) := by
  intro N
  induction N using Nat.strongRecOn with
  | _ N ih =>
    intro M hM hN
    refine qaW ?_
    simp only [qdN]
    by_cases e : N = 0
    · subst e
      refine ev_f (by simp) (qaR (qp0 (by omega) (by omega)) ?_)
      have h1 := qjC false (qdW (M : Int)) (by have : (digs (M : Int)).length ≤ 2 := zpW (by have : (4294967296 : Int) ^ 2 = 18446744073709551616 := rfl; omega); omega)
      rw [qdP (by omega)] at h1
      refine qaR h1 (qe4 (qa6 _) ?_)
      simp
    · refine ev_t (by simpa using e) (qgA (by omega) ?_)
      have h1 : Int.tmod (M : Int) (N : Int) = ((M % N : Nat) : Int) := rfl
      rw [h1]
      have hlt := Nat.mod_lt M (Nat.pos_of_ne_zero e)
      refine qe4 (ih (M % N) hlt N hN (by omega)) ?_
      rw [Nat.gcd_comm M N, Nat.gcd_rec N M, Nat.gcd_comm]
theorem zjH (b4 : qaE) : ∀ (Y X : Nat), (digs (X : Int)).length ≤ 17179869000 → (digs (Y : Int)).length ≤ 17179869000 → Ev (fun K => qdN K (.c1 b4 (digs (X : Int)) (digs (Y : Int)))) (mkI (Nat.gcd X Y : Nat)) := by
  intro Y
  induction Y using Nat.strongRecOn with
  | _ Y ih =>
    intro X hX hY
    refine qaW ?_
    simp only [qdN]
    by_cases e : Y = 0
    · subst e
      refine ev_f (by simp [qhR]) ?_
      have h1 := qjC false (qdW (X : Int)) (by omega)
      rw [qdP (by omega)] at h1
      refine qaR h1 (qe4 (qa6 _) ?_)
      simp
    · have hne : digs (Y : Int) ≠ [] := fun h => e (by have := (qkC (z := (Y : Int)) (by omega)).1 h; omega)
      have hlen : 0 < (digs (Y : Int)).length := List.length_pos_iff.2 hne
      have step : Ev (fun K => (qnU K (digs (X : Int)) (digs (Y : Int))).bind fun x8 => qdN K (.c1 b4 (digs (Y : Int)) x8.2)) (mkI (Nat.gcd X Y : Nat)) := by
        have hl := q1T (qdW (X : Int)) (qdW (Y : Int)) (by omega) (by omega) (by rw [qdP (by omega)]; omega)
        rw [qdP (by omega), qdP (by omega)] at hl
        refine qaR hl ?_
        have hm : (X : Int) % (Y : Int) = ((X % Y : Nat) : Int) := by omega
        simp only [hm]
        have hlt := Nat.mod_lt X (Nat.pos_of_ne_zero e)
        refine qe4 (ih (X % Y) hlt Y hY ?_) ?_
        · refine Nat.le_trans (qk3 (n := (digs (Y : Int)).length) ?_) hY
          have := qnX (qdW (Y : Int))
          rw [qdP (by omega)] at this
          omega
        · rw [Nat.gcd_comm X Y, Nat.gcd_rec Y X, Nat.gcd_comm]
      refine ev_t (by simpa using hlen) (qaR (qyX (by omega) (by omega)) ?_)
      by_cases hx : (X : Int) < 18446744073709551616
      · rw [if_pos hx]
        refine ev_t rfl (qaR (qyX (by omega) (by omega)) ?_)
        by_cases hy : (Y : Int) < 18446744073709551616
        · rw [if_pos hy]
          exact ev_t rfl (zjG b4 Y X (by omega) (by omega))
        · rw [if_neg hy]
          exact ev_f rfl step
      · rw [if_neg hx]
        exact ev_f rfl step
theorem zjJ {a b : qaE} (ha : Sm a) (hb : Sm b) : Ev (fun K => qx0 K a b) (mkI (Int.gcd (ival a) (ival b) : Nat)) := by
  refine qaW ?_
  simp only [qx0, qdN]
  have h1 := qiS ha.1 (by have := ha.2; omega)
  have h2 := qiS hb.1 (by have := hb.2; omega)
  rw [qvZ a ha.1] at h1
  rw [qvZ b hb.1] at h2
  have l1 := qe1 ha.1
  have l2 := qe1 hb.1
  rw [qvZ a ha.1] at l1
  rw [qvZ b hb.1] at l2
  exact qaR h1 (qaR h2 (zjH _ _ _ (by have := ha.2; omega) (by have := hb.2; omega)))
theorem zaI (g : Nat) (n : Int) (h : g ∣ n.natAbs) : (g : Int) ∣ n := Int.dvd_natAbs.1 (Int.natCast_dvd_natCast.2 h)
def mkQ (q : Rat) : qaJ := ⟨mkI q.num, digs (q.den : Int)⟩
theorem qsF : Ev (fun K => qo5 K) (digs 1) := by
  refine qaW ?_
  simp only [qo5, qmN]
  exact qaR (qp0 (by decide) (by decide)) (qa6 _)
theorem zq3 : mkQ 0 = ⟨⟨false, []⟩, digs 1⟩ := by
  show (⟨mkI 0, digs 1⟩ : qaJ) = _
  rw [q3I]
theorem qyQ {x : Int} (h : 0 ≤ x) : Ev (fun K => qqM K (digs x)) (decide (x = 1)) := by
  refine qaW ?_
  simp only [qqM, qkI]
  have hv := qdP h
  cases hl : digs x with
  | nil =>
    rw [hl] at hv
    have : x = 0 := by rw [← hv]; rfl
    exact ev_f (by simp) (qe4 (qa6 _) (by subst this; rfl))
  | cons a l =>
    cases l with
    | nil =>
      rw [hl] at hv
      have hx : x = a := by rw [← hv]; simp [val]
      exact ev_t (by simp) (qb8 (x := a) rfl (qe4 (qa6 _) (by rw [hx])))
    | cons b l =>
      refine ev_f (by simp; omega) (qe4 (qa6 _) ?_)
      have h2 := zrJ (quD x) (by rw [hl]; simp)
      rw [qdP h] at h2
      have : (4294967296 : Int) ^ 1 ≤ 4294967296 ^ ((digs x).length - 1) := qw9 (by rw [hl]; simp)
      symm
      rw [decide_eq_false_iff_not]
      have : (4294967296 : Int) ^ 1 = 4294967296 := rfl
      omega
def SmN (d : List Int) : Prop := Dig d ∧ d.length ≤ 17179869000
theorem qlK {n : qaE} {d : List Int} (hn : Sm n) (hd : SmN d) : Ev (fun K => qj5 K n d) (mkQ (mkRat (ival n) (val d).toNat)) := by
  refine qaW ?_
  simp only [qj5, qlJ]
  have nd := qb1 hd.1
  refine qaR (qiS hd.1 (by have := hd.2; omega)) ?_
  by_cases e : val d = 0
  · rw [e, qhR]
    refine ev_t rfl (qaR qsF (qe4 (qa6 _) ?_))
    rw [← zq3]
    simp [mkRat]
  · have hne : digs (val d) ≠ [] := fun h => e ((qkC nd).1 h)
    refine ev_f (by simpa using hne) ?_
    have sn := hn.2
    refine qaR (qkN hn.1 (by omega)) ?_
    have hva := qvZ n hn.1
    by_cases e2 : ival n = 0
    · refine ev_t (by rw [hva, e2]; rfl) (qaR qsF (qe4 (qa6 _) ?_))
      rw [← zq3, e2]
      simp
    · refine ev_f (by rw [hva]; simp; omega) ?_
      refine qaR (qyQ nd) ?_
      have hnum := Rat.num_mkRat (ival n) (val d).toNat
      have hden := Rat.den_mkRat (ival n) (val d).toNat
      have hd0 : (val d).toNat ≠ 0 := by omega
      rw [if_neg hd0] at hnum hden
      have key : ∀ g : Nat, Nat.gcd (val d).toNat (ival n).natAbs = g → mkQ (mkRat (ival n) (val d).toNat) = ⟨mkI (ival n / (g : Int)), digs (val d / (g : Int))⟩ := fun g hg => by
        unfold mkQ
        rw [hnum, hden, hg]
        congr 2
        rw [Int.natCast_ediv]
        congr 1
        omega
      by_cases e3 : val d = 1
      · refine ev_t (by simp [e3]) (qaR (qkU hn.1 (by omega)) (qe4 (qa6 _) ?_))
        rw [key 1 (by rw [e3]; simp), e3]
        simp
      · refine ev_f (by simpa using e3) ?_
        have hf := qjC false (qdW (val d)) (by have := qe1 hd.1; have := hd.2; omega)
        rw [qdP nd] at hf
        refine qaR hf ?_
        have hsd : Sm (mkI (bif false then -val d else val d)) := by
          refine ⟨zpX _, ?_⟩
          rw [show (bif false then -val d else val d) = val d from rfl, qtR nd]
          have := qe1 hd.1
          have := hd.2
          show (digs (val d)).length ≤ _
          omega
        have hg := zjJ hn hsd
        rw [qdQ] at hg
        refine qaR hg ?_
        have hgv : Int.gcd (ival n) (bif false then -val d else val d) = Nat.gcd (val d).toNat (ival n).natAbs := by
          rw [Nat.gcd_comm]
          show Nat.gcd (ival n).natAbs (val d).natAbs = _
          congr 1
          omega
        rw [hgv]
        have hgpos : 0 < Nat.gcd (val d).toNat (ival n).natAbs := Nat.gcd_pos_of_pos_left _ (by omega)
        have hgn : Nat.gcd (val d).toNat (ival n).natAbs ≤ (ival n).natAbs := Nat.gcd_le_right _ (by omega)
        have hdn : ((Nat.gcd (val d).toNat (ival n).natAbs : Nat) : Int) ∣ ival n := zaI _ _ (Nat.gcd_dvd_right _ _)
        have hdd : ((Nat.gcd (val d).toNat (ival n).natAbs : Nat) : Int) ∣ val d := by
          have := Int.natCast_dvd_natCast.2 (Nat.gcd_dvd_left (val d).toNat (ival n).natAbs)
          rwa [Int.toNat_of_nonneg nd] at this
        generalize hG : Nat.gcd (val d).toNat (ival n).natAbs = g at *
        have hgs : Sm (mkI (g : Int)) := sm_le hn (by rw [Int.natAbs_natCast]; exact hgn)
        have h1 := qyQ (x := (g : Int)) (by omega)
        have habs : (mkI (g : Int)).Abs = digs (g : Int) := by rw [qtR (by omega)]
        rw [habs]
        refine qaR h1 ?_
        by_cases e4 : g = 1
        · refine ev_t (by simp [e4]) (qaR (qkU hn.1 (by omega)) (qe4 (qa6 _) ?_))
          rw [key 1 e4]
          simp
        · refine ev_f (by simp; omega) ?_
          have x1 := qzK hn hgs (by rw [qdQ]; omega) (by rw [qdQ]; exact hdn)
          have x2 := qzK hsd hgs (by rw [qdQ]; omega) (by rw [qdQ, qdQ]; exact hdd)
          rw [qdQ] at x1
          rw [qdQ, qdQ] at x2
          refine qaR x1 (qaR x2 (qe4 (qa6 _) ?_))
          rw [key g rfl]
          congr 1
          show (mkI (val d / (g : Int))).Abs = _
          rw [qtR (Int.ediv_nonneg nd (by omega))]
open Go.Proofs.Tryz (prog)
inductive qoK where
 | c0 (a : qaJ)
def qkG : Nat → qoK → Option (qaE × qaE)
 | 0, _ => none
 | K + 1, .c0 a =>
  (qi6 K a.Den).bind fun x1 =>
  bif x1 then
   (qlQ K (1 : Int)).bind fun x4 =>
   some ((qaE.mk false []), x4)
  else
   some (a.Num, (qaE.mk false a.Den))
def qi5 (K : Nat) (a : qaJ) : Option (qaE × qaE) := qkG K (.c0 a)
noncomputable def q62 : Code := qcS prog 53
noncomputable def q8P : qoK → List Fr
 | .c0 .. => [.code q62]
def zbP : qoK → St
 | .c0 a => St.init [(TV.agg (qaB a))]
def q0U (cx : Cx) (c : qoK) (r : (qaE × qaE)) : Prop := Wk prog cx (qd8 prog 53 [[0,1], [0,1]] (TV.tup [(true, qaK r.1), (true, qaK r.2)])) (q8P c) .normal (zbP c)
abbrev q0V (K : Nat) : Prop := ∀ c r, qkG K c = some r → ∀ cx : Cx, cx.n = 14 → q0U cx c r
theorem zbQ {K} (_ : q0V K) {cx} (hn : cx.n = 14) {a} {r} (h : qkG (K + 1) (.c0 a) = some r) : q0U cx (.c0 a) r := by
 rw [qkG] at h
 obtain ⟨x1, h2, h⟩ := qaU h
 rcases qa0 h with ⟨h3, h⟩ | ⟨h3, h⟩
 ·obtain ⟨x4, h5, h⟩ := qaU h
  have h := oinj h; subst h
  exact wkR [rg3, rgG [oo, oo, opI (.call [[1]] [(TV.c (T.sl 1 (a.Den.map qaF)))] (TV.c (T.bool x1)))], bTr, rgG [oo, opI (.call [[0]] [(TV.c (T.int .i64 (1 : Int)))] (TV.agg (qaK x4))), oo, oo]] hn (aC (qdV h2) <| aC h3 <| aC (qgR h5) <| aN)
 ·have h := oinj h; subst h
  exact wkR [rg3, rgG [oo, oo, opI (.call [[1]] [(TV.c (T.sl 1 (a.Den.map qaF)))] (TV.c (T.bool x1)))], bFa, .draw [.p, .p, .p, .p, .p, .p] [.op .p]] hn (aC (qdV h2) <| aC h3 <| aN)
theorem qxJ : ∀ K : Nat, q0V K
 | 0, c, r, h => by rw [qkG] at h; cases h
 | K + 1, .c0 .., r, h => fun cx hn => zbQ (qxJ K) hn h
theorem qeT {K : Nat} {a : qaJ} {r : (qaE × qaE)} (h : qi5 K a = some r) : qc7 prog 53 [(TV.agg (qaB a))] (TV.tup [(true, qaK r.1), (true, qaK r.2)]) :=
 qbL [[0,1], [0,1]] (by kernel_rfl) (by simp) fun cx hn => qxJ K (.c0 a) r h cx hn
open Go.Proofs.Tryz (prog)
inductive qq7 where
 | c0 (a : qaJ) (b : qaJ)
def qmS : Nat → qq7 → Option qaJ
 | 0, _ => none
 | K + 1, .c0 a b =>
  (qi5 K a).bind fun x1 =>
  (qi5 K b).bind fun x3 =>
  (qnS K x1.1 x3.2).bind fun x5 =>
  (qnS K x3.1 x1.2).bind fun x7 =>
  (qrS K x5 x7).bind fun x9 =>
  (qtQ K x1.2.Abs x3.2.Abs).bind fun x11 =>
  (qj5 K x9 x11).bind fun x13 =>
  some x13
def qfC (K : Nat) (a : qaJ) (b : qaJ) : Option qaJ := qmS K (.c0 a b)
noncomputable def zb5 : Code := qcS prog 14
noncomputable def zfD : qq7 → List Fr
 | .c0 .. => [.code zb5]
def zhT : qq7 → St
 | .c0 a b => St.init [(TV.agg (qaB a)), (TV.agg (qaB b))]
def q5Z (cx : Cx) (c : qq7) (r : qaJ) : Prop := Wk prog cx (qd8 prog 14 [[0,1,1]] (TV.agg (qaB r))) (zfD c) .normal (zhT c)
abbrev q50 (K : Nat) : Prop := ∀ c r, qmS K c = some r → ∀ cx : Cx, cx.n = 32 → q5Z cx c r
theorem zhU {K} (_ : q50 K) {cx} (hn : cx.n = 32) {a b} {r} (h : qmS (K + 1) (.c0 a b) = some r) : q5Z cx (.c0 a b) r := by
 rw [qmS] at h
 obtain ⟨x1, h2, h⟩ := qaU h
 obtain ⟨x3, h4, h⟩ := qaU h
 obtain ⟨x5, h6, h⟩ := qaU h
 obtain ⟨x7, h8, h⟩ := qaU h
 obtain ⟨x9, h10, h⟩ := qaU h
 obtain ⟨x11, h12, h⟩ := qaU h
 obtain ⟨x13, h14, h⟩ := qaU h
 have h := oinj h; subst h
 exact wkR [rg3, rgG [oo, opI (.call [[0,1,1]] [(TV.agg (qaB a))] (TV.tup [(true, qaK x1.1), (true, qaK x1.2)])), oo, oo, oo, oo, oo, oo, oo], rgG [oo, opI (.call [[0,1,1]] [(TV.agg (qaB b))] (TV.tup [(true, qaK x3.1), (true, qaK x3.2)])), oo, oo, oo, oo, oo, oo, oo], .draw [.p, .p, (.call [[0,1], [0,1]] [(TV.agg (qaK x1.1)), (TV.agg (qaK x3.2))] (TV.agg (qaK x5))), .p, .p, (.call [[0,1], [0,1]] [(TV.agg (qaK x3.1)), (TV.agg (qaK x1.2))] (TV.agg (qaK x7))), (.call [[0,1], [0,1]] [(TV.agg (qaK x5)), (TV.agg (qaK x7))] (TV.agg (qaK x9))), .p, .p, .p, .p] [opI (.call [[1], [1]] [(TV.c (T.sl 1 (x1.2.Abs.map qaF))), (TV.c (T.sl 1 (x3.2.Abs.map qaF)))] (tl 1 x11 qaF)), opI (.call [[0,1], [1]] [(TV.agg (qaK x9)), (tl 1 x11 qaF)] (TV.agg (qaB x13))), .op .p]] hn (aC (qeT h2) <| aC (qeT h4) <| aC (qkV h6) <| aC (qkV h8) <| aC (qp3 h10) <| aC (qtP h12) <| aC (qiR h14) <| aN)
theorem q04 : ∀ K : Nat, q50 K
 | 0, c, r, h => by rw [qmS] at h; cases h
 | K + 1, .c0 .., r, h => fun cx hn => zhU (q04 K) hn h
theorem qeC {K : Nat} {a : qaJ} {b : qaJ} {r : qaJ} (h : qfC K a b = some r) : qc7 prog 14 [(TV.agg (qaB a)), (TV.agg (qaB b))] (TV.agg (qaB r)) :=
 qbL [[0,1,1]] (by kernel_rfl) (by simp) fun cx hn => q04 K (.c0 a b) r h cx hn
open Go.Proofs.Tryz (prog)
inductive qq4 where
 | c0 (a : qaJ) (b : qaJ)
def qmP : Nat → qq4 → Option qaJ
 | 0, _ => none
 | K + 1, .c0 a b =>
  (qi5 K a).bind fun x1 =>
  (qi5 K b).bind fun x3 =>
  (qnS K x1.1 x3.1).bind fun x5 =>
  (qtQ K x1.2.Abs x3.2.Abs).bind fun x7 =>
  (qj5 K x5 x7).bind fun x9 =>
  some x9
def qc8 (K : Nat) (a : qaJ) (b : qaJ) : Option qaJ := qmP K (.c0 a b)
noncomputable def zbW : Code := qcS prog 12
noncomputable def ze6 : qq4 → List Fr
 | .c0 .. => [.code zbW]
def zhM : qq4 → St
 | .c0 a b => St.init [(TV.agg (qaB a)), (TV.agg (qaB b))]
def q5T (cx : Cx) (c : qq4) (r : qaJ) : Prop := Wk prog cx (qd8 prog 12 [[0,1,1]] (TV.agg (qaB r))) (ze6 c) .normal (zhM c)
abbrev q5U (K : Nat) : Prop := ∀ c r, qmP K c = some r → ∀ cx : Cx, cx.n = 28 → q5T cx c r
theorem zhN {K} (_ : q5U K) {cx} (hn : cx.n = 28) {a b} {r} (h : qmP (K + 1) (.c0 a b) = some r) : q5T cx (.c0 a b) r := by
 rw [qmP] at h
 obtain ⟨x1, h2, h⟩ := qaU h
 obtain ⟨x3, h4, h⟩ := qaU h
 obtain ⟨x5, h6, h⟩ := qaU h
 obtain ⟨x7, h8, h⟩ := qaU h
 obtain ⟨x9, h10, h⟩ := qaU h
 have h := oinj h; subst h
 exact wkR [rg3, rgG [oo, opI (.call [[0,1,1]] [(TV.agg (qaB a))] (TV.tup [(true, qaK x1.1), (true, qaK x1.2)])), oo, oo, oo, oo, oo, oo, oo], rgG [oo, opI (.call [[0,1,1]] [(TV.agg (qaB b))] (TV.tup [(true, qaK x3.1), (true, qaK x3.2)])), oo, oo, oo, oo, oo, oo, oo], .draw [.p, .p, (.call [[0,1], [0,1]] [(TV.agg (qaK x1.1)), (TV.agg (qaK x3.1))] (TV.agg (qaK x5))), .p, .p, .p, .p] [opI (.call [[1], [1]] [(TV.c (T.sl 1 (x1.2.Abs.map qaF))), (TV.c (T.sl 1 (x3.2.Abs.map qaF)))] (tl 1 x7 qaF)), opI (.call [[0,1], [1]] [(TV.agg (qaK x5)), (tl 1 x7 qaF)] (TV.agg (qaB x9))), .op .p]] hn (aC (qeT h2) <| aC (qeT h4) <| aC (qkV h6) <| aC (qtP h8) <| aC (qiR h10) <| aN)
theorem q00 : ∀ K : Nat, q5U K
 | 0, c, r, h => by rw [qmP] at h; cases h
 | K + 1, .c0 .., r, h => fun cx hn => zhN (q00 K) hn h
theorem qbY {K : Nat} {a : qaJ} {b : qaJ} {r : qaJ} (h : qc8 K a b = some r) : qc7 prog 12 [(TV.agg (qaB a)), (TV.agg (qaB b))] (TV.agg (qaB r)) :=
 qbL [[0,1,1]] (by kernel_rfl) (by simp) fun cx hn => q00 K (.c0 a b) r h cx hn
open Go.Proofs.Tryz (prog)
inductive qq6 where
 | c0 (a : qaJ) (b : qaJ)
def qmR : Nat → qq6 → Option Int
 | 0, _ => none
 | K + 1, .c0 a b =>
  (qi5 K a).bind fun x1 =>
  (qi5 K b).bind fun x3 =>
  (qh4 K x1.1).bind fun x5 =>
  (qh4 K x3.1).bind fun x7 =>
  bif (!decide (x5 = x7)) then
   bif (decide (x7 < x5)) then
    some (1 : Int)
   else
    some (-1 : Int)
  else
   (qnS K x1.1 x3.2).bind fun x10 =>
   (qnS K x3.1 x1.2).bind fun x12 =>
   (q0B K x10 x12).bind fun x14 =>
   some x14
def qo6 (K : Nat) (a : qaJ) (b : qaJ) : Option Int := qmR K (.c0 a b)
noncomputable def zb4 : Code := qcS prog 61
noncomputable def zfC : qq6 → List Fr
 | .c0 .. => [.code zb4]
def zhR : qq6 → St
 | .c0 a b => St.init [(TV.agg (qaB a)), (TV.agg (qaB b))]
def q5X (cx : Cx) (c : qq6) (r : Int) : Prop := Wk prog cx (qd8 prog 61 [[0]] (ti .i64 r)) (zfC c) .normal (zhR c)
abbrev q5Y (K : Nat) : Prop := ∀ c r, qmR K c = some r → ∀ cx : Cx, cx.n = 38 → q5X cx c r
theorem zhS {K} (_ : q5Y K) {cx} (hn : cx.n = 38) {a b} {r} (h : qmR (K + 1) (.c0 a b) = some r) : q5X cx (.c0 a b) r := by
 rw [qmR] at h
 obtain ⟨x1, h2, h⟩ := qaU h
 obtain ⟨x3, h4, h⟩ := qaU h
 obtain ⟨x5, h6, h⟩ := qaU h
 obtain ⟨x7, h8, h⟩ := qaU h
 rcases qa0 h with ⟨h9, h⟩ | ⟨h9, h⟩
 ·rcases qa0 h with ⟨h10, h⟩ | ⟨h10, h⟩
  ·have h := oinj h; subst h
   exact wkR [rg3, rgG [oo, opI (.call [[0,1,1]] [(TV.agg (qaB a))] (TV.tup [(true, qaK x1.1), (true, qaK x1.2)])), oo, oo, oo, oo, oo, oo, oo], rgG [oo, opI (.call [[0,1,1]] [(TV.agg (qaB b))] (TV.tup [(true, qaK x3.1), (true, qaK x3.2)])), oo, oo, oo, oo, oo, oo, oo], .draw [.p, (.call [[0,1]] [(TV.agg (qaK x1.1))] (ti .i64 x5)), .p] [opI (.call [[0,1]] [(TV.agg (qaK x3.1))] (ti .i64 x7)), .op .p, .op .p], rg3, bTr, rg3, bTr, rg1] hn (aC (qeT h2) <| aC (qeT h4) <| aC (qcF h6) <| aC (qcF h8) <| aC h9 <| aC h10 <| aN)
  ·have h := oinj h; subst h
   exact wkR [rg3, rgG [oo, opI (.call [[0,1,1]] [(TV.agg (qaB a))] (TV.tup [(true, qaK x1.1), (true, qaK x1.2)])), oo, oo, oo, oo, oo, oo, oo], rgG [oo, opI (.call [[0,1,1]] [(TV.agg (qaB b))] (TV.tup [(true, qaK x3.1), (true, qaK x3.2)])), oo, oo, oo, oo, oo, oo, oo], .draw [.p, (.call [[0,1]] [(TV.agg (qaK x1.1))] (ti .i64 x5)), .p] [opI (.call [[0,1]] [(TV.agg (qaK x3.1))] (ti .i64 x7)), .op .p, .op .p], rg3, bTr, rg3, bFa, rg1] hn (aC (qeT h2) <| aC (qeT h4) <| aC (qcF h6) <| aC (qcF h8) <| aC h9 <| aC h10 <| aN)
 ·obtain ⟨x10, h11, h⟩ := qaU h
  obtain ⟨x12, h13, h⟩ := qaU h
  obtain ⟨x14, h15, h⟩ := qaU h
  have h := oinj h; subst h
  exact wkR [rg3, rgG [oo, opI (.call [[0,1,1]] [(TV.agg (qaB a))] (TV.tup [(true, qaK x1.1), (true, qaK x1.2)])), oo, oo, oo, oo, oo, oo, oo], rgG [oo, opI (.call [[0,1,1]] [(TV.agg (qaB b))] (TV.tup [(true, qaK x3.1), (true, qaK x3.2)])), oo, oo, oo, oo, oo, oo, oo], .draw [.p, (.call [[0,1]] [(TV.agg (qaK x1.1))] (ti .i64 x5)), .p] [opI (.call [[0,1]] [(TV.agg (qaK x3.1))] (ti .i64 x7)), .op .p, .op .p], rg3, bFa, .draw [.p, .p, (.call [[0,1], [0,1]] [(TV.agg (qaK x1.1)), (TV.agg (qaK x3.2))] (TV.agg (qaK x10))), .p, .p] [opI (.call [[0,1], [0,1]] [(TV.agg (qaK x3.1)), (TV.agg (qaK x1.2))] (TV.agg (qaK x12))), opI (.call [[0,1], [0,1]] [(TV.agg (qaK x10)), (TV.agg (qaK x12))] (ti .i64 x14)), .op .p]] hn (aC (qeT h2) <| aC (qeT h4) <| aC (qcF h6) <| aC (qcF h8) <| aC h9 <| aC (qkV h11) <| aC (qkV h13) <| aC (zc2 h15) <| aN)
theorem q03 : ∀ K : Nat, q5Y K
 | 0, c, r, h => by rw [qmR] at h; cases h
 | K + 1, .c0 .., r, h => fun cx hn => zhS (q03 K) hn h
theorem qhL {K : Nat} {a : qaJ} {b : qaJ} {r : Int} (h : qo6 K a b = some r) : qc7 prog 61 [(TV.agg (qaB a)), (TV.agg (qaB b))] (ti .i64 r) :=
 qbL [[0]] (by kernel_rfl) (by simp) fun cx hn => q03 K (.c0 a b) r h cx hn
open Go.Proofs.Tryz (prog)
inductive qpV where
 | c0 (a : qaE)
def qlL : Nat → qpV → Option qaJ
 | 0, _ => none
 | K + 1, .c0 a =>
  (qi7 K a).bind fun x1 =>
  (qo5 K ).bind fun x3 =>
  some (qaJ.mk x1 x3)
def qsH (K : Nat) (a : qaE) : Option qaJ := qlL K (.c0 a)
noncomputable def q8X : Code := qcS prog 116
noncomputable def zbZ : qpV → List Fr
 | .c0 .. => [.code q8X]
def zfA : qpV → St
 | .c0 a => St.init [(TV.agg (qaK a))]
def q27 (cx : Cx) (c : qpV) (r : qaJ) : Prop := Wk prog cx (qd8 prog 116 [[0,1,1]] (TV.agg (qaB r))) (zbZ c) .normal (zfA c)
abbrev q28 (K : Nat) : Prop := ∀ c r, qlL K c = some r → ∀ cx : Cx, cx.n = 7 → q27 cx c r
theorem zfB {K} (_ : q28 K) {cx} (hn : cx.n = 7) {a} {r} (h : qlL (K + 1) (.c0 a) = some r) : q27 cx (.c0 a) r := by
 rw [qlL] at h
 obtain ⟨x1, h2, h⟩ := qaU h
 obtain ⟨x3, h4, h⟩ := qaU h
 have h := oinj h; subst h
 exact wkR [rg2, rgG [oo, opI (.call [[0,1]] [(TV.agg (qaK a))] (TV.agg (qaK x1))), opI (.call [] [] (tl 1 x3 qaF)), oo, oo]] hn (aC (qj3 h2) <| aC (qoL h4) <| aN)
theorem qyU : ∀ K : Nat, q28 K
 | 0, c, r, h => by rw [qlL] at h; cases h
 | K + 1, .c0 .., r, h => fun cx hn => zfB (qyU K) hn h
theorem qv9 {K : Nat} {a : qaE} {r : qaJ} (h : qsH K a = some r) : qc7 prog 116 [(TV.agg (qaK a))] (TV.agg (qaB r)) :=
 qbL [[0,1,1]] (by kernel_rfl) (by simp) fun cx hn => qyU K (.c0 a) r h cx hn
open Go.Proofs.Tryz (prog)
inductive qsG where
 | c0 (n : Int)
def qn2 : Nat → qsG → Option qaJ
 | 0, _ => none
 | K + 1, .c0 n =>
  (qlQ K n).bind fun x1 =>
  (qo5 K ).bind fun x3 =>
  some (qaJ.mk x1 x3)
def qjX (K : Nat) (n : Int) : Option qaJ := qn2 K (.c0 n)
noncomputable def ze5 : Code := qcS prog 43
noncomputable def zhL : qsG → List Fr
 | .c0 .. => [.code ze5]
def zkE : qsG → St
 | .c0 n => St.init [(ti .i64 n)]
def q8S (cx : Cx) (c : qsG) (r : qaJ) : Prop := Wk prog cx (qd8 prog 43 [[0,1,1]] (TV.agg (qaB r))) (zhL c) .normal (zkE c)
abbrev q8T (K : Nat) : Prop := ∀ c r, qn2 K c = some r → ∀ cx : Cx, cx.n = 7 → q8S cx c r
theorem zkF {K} (_ : q8T K) {cx} (hn : cx.n = 7) {n} {r} (h : qn2 (K + 1) (.c0 n) = some r) : q8S cx (.c0 n) r := by
 rw [qn2] at h
 obtain ⟨x1, h2, h⟩ := qaU h
 obtain ⟨x3, h4, h⟩ := qaU h
 have h := oinj h; subst h
 exact wkR [rg1, rgG [oo, opI (.call [[0]] [(ti .i64 n)] (TV.agg (qaK x1))), opI (.call [] [] (tl 1 x3 qaF)), oo, oo]] hn (aC (qgR h2) <| aC (qoL h4) <| aN)
theorem q24 : ∀ K : Nat, q8T K
 | 0, c, r, h => by rw [qn2] at h; cases h
 | K + 1, .c0 .., r, h => fun cx hn => zkF (q24 K) hn h
theorem qeX {K : Nat} {n : Int} {r : qaJ} (h : qjX K n = some r) : qc7 prog 43 [(ti .i64 n)] (TV.agg (qaB r)) :=
 qbL [[0,1,1]] (by kernel_rfl) (by simp) fun cx hn => q24 K (.c0 n) r h cx hn
end Go.Am.X
