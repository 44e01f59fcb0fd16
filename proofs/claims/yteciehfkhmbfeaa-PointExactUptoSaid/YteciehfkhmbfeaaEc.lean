/- Part 3 of the proof: M9 .. Fn_rational_Of. -/
import Derived.Test.YteciehfkhmbfeaaEb
namespace Go.Am.X
theorem qeT {a : List Int} {i : Nat} (h : i < a.length) : val (a.take (i + 1)) = val (a.take i) + 4294967296 ^ i * a[i] := by
  rw [List.take_add_one, List.getElem?_eq_getElem h, Option.toList_some, ql6, List.length_take, Nat.min_eq_left (by omega)]
  simp
theorem q1N {x y c : Int} (hx : 0 ≤ x ∧ x < 4294967296) (hy : 0 ≤ y ∧ y < 4294967296) (hc : 0 ≤ c ∧ c < 4294967296) : Ev (fun K => qi7 K x y c) ((x + y + c) % 4294967296, (x + y + c) / 4294967296) := by
  unfold qi7
  exact qaP (qoM hx hy hc) (qa3 _)
theorem q6R {a b : List Int} (ha : Dig a) (hs : a.length < 4611686018427387900) : ∀ (m i : Nat) (c : Int) (r : List Int), i + m = a.length → b.length ≤ i → (c = 0 ∨ c = 1) → Dig r → r.length = a.length + 1 →
    val r + 4294967296 ^ i * c = val (a.take i) + val b → (∀ j, i ≤ j → j < r.length → r[j]? = some 0) → Ev (fun K => qdM K (.c2 c r a i)) (digs (val a + val b))
  | 0, i, c, r, hi, hb, hc, hr, hl, hv, hz => by
    refine qaT ?_
    simp only [qdM]
    refine ev_f (by simp; omega) (qb6 (qfN (by omega)) ?_)
    have hia : a.length = i := by omega
    have h1 := qcZ (qqD hr a.length (x := c) (by omega)) (by simp; omega)
    have h2 := hz a.length (by omega) (by omega)
    rw [List.getElem?_eq_getElem (by omega)] at h2
    rw [qrG (by omega), Option.some.inj h2, Int.sub_zero, hia, hv, List.take_of_length_le (Nat.le_of_eq hia)] at h1
    rw [Int.toNat_natCast, hia]
    exact qaP h1 (qa3 _)
  | m + 1, i, c, r, hi, hb, hc, hr, hl, hv, hz => by
    refine qaT ?_
    simp only [qdM]
    have hia : i < a.length := by omega
    have hx := qgF ha hia
    refine ev_t (by simp; omega) (qb6 (qfN hia) (qaP (q1N hx (by decide) (by omega)) (qb6 (qfN (by omega)) ?_)))
    simp only [Int.add_zero]
    rw [Int.toNat_natCast, qdB (by omega), show (i : Int) + 1 = ((i + 1 : Nat) : Int) by omega]
    refine q6R ha hs m (i + 1) _ _ (by omega) (by omega) (by omega) (qqD hr i (by omega)) (by simpa using hl) ?_ (fun j hj hjl => ?_)
    · have h2 := hz i (by omega) (by omega)
      rw [List.getElem?_eq_getElem (by omega)] at h2
      rw [qrG (by omega), Option.some.inj h2, qeT hia, Int.pow_succ]
      have e := Int.emod_add_mul_ediv (a[i] + c) 4294967296
      generalize (a[i] + c) % 4294967296 = p at *
      generalize (a[i] + c) / 4294967296 = q at *
      generalize (4294967296 : Int) ^ i = A at *
      grind
    · rw [List.getElem?_set_ne (by omega)]; exact hz j (by omega) (by simpa using hjl)
theorem qyM {a b : List Int} (ha : Dig a) (hb : Dig b) (hab : b.length ≤ a.length) (hs : a.length < 4611686018427387900) : ∀ (m i : Nat) (c : Int) (r : List Int), i + m = b.length → (c = 0 ∨ c = 1) → Dig r → r.length = a.length + 1 →
    val r + 4294967296 ^ i * c = val (a.take i) + val (b.take i) → (∀ j, i ≤ j → j < r.length → r[j]? = some 0) → Ev (fun K => qdM K (.c1 c r a b b b.length i)) (digs (val a + val b))
  | 0, i, c, r, hi, hc, hr, hl, hv, hz => by
    refine qaT ?_
    simp only [qdM]
    refine ev_f (by simp; omega) ?_
    rw [List.take_of_length_le (l := b) (by omega)] at hv
    have hbi : b.length = i := by omega
    rw [hbi]
    exact q6R ha hs (a.length - i) i c r (by omega) (by omega) hc hr hl hv hz
  | m + 1, i, c, r, hi, hc, hr, hl, hv, hz => by
    refine qaT ?_
    simp only [qdM]
    have hib : i < b.length := by omega
    have hia : i < a.length := by omega
    have hx := qgF ha hia
    have hy := qgF hb hib
    refine ev_t (by simp; omega) (qb6 (qfN hib) (qb6 (qfN hia) (qaP (q1N hx hy (by omega)) (qb6 (qfN (by omega)) ?_))))
    simp only
    rw [Int.toNat_natCast, qdB (by omega), show (i : Int) + 1 = ((i + 1 : Nat) : Int) by omega]
    refine qyM ha hb hab hs m (i + 1) _ _ (by omega) (by omega) (qqD hr i (by omega)) (by simpa using hl) ?_ (fun j hj hjl => ?_)
    · have h2 := hz i (by omega) (by omega)
      rw [List.getElem?_eq_getElem (by omega)] at h2
      rw [qrG (by omega), Option.some.inj h2, qeT hia, qeT hib, Int.pow_succ]
      have e := Int.emod_add_mul_ediv (a[i] + b[i] + c) 4294967296
      generalize (a[i] + b[i] + c) % 4294967296 = p at *
      generalize (a[i] + b[i] + c) / 4294967296 = q at *
      generalize (4294967296 : Int) ^ i = A at *
      grind
    · rw [List.getElem?_set_ne (by omega)]; exact hz j (by omega) (by simpa using hjl)
theorem zlJ {a b : List Int} (ha : Dig a) (hb : Dig b) (hs : a.length ≤ 34359738360) (ht : b.length ≤ 34359738360) : Ev (fun K => q0J K a b) (digs (val a + val b)) := by
  refine qaT ?_
  simp only [q0J, qdM]
  have va := qdN (qbW ha)
  have vb := qdN (qbW hb)
  have la := qeW ha
  have lb := qeW hb
  refine qaP (qcZ ha (by omega)) (qaP (qcZ hb (by omega)) (znX (fun h => ?_) (fun h => ?_)))
  · have h := of_decide_eq_true h
    rw [qdB (by omega)]
    refine qhC (by omega) ?_
    have := qyM (qdX (val b)) (qdX (val a)) (by omega) (by omega) _ 0 0 (List.replicate ((digs (val b)).length + 1) 0) (Nat.zero_add _) (.inl rfl) (q8M (by decide)) (by simp) (by rw [qz1]; simp) (fun j _ hj => by rw [List.getElem?_replicate, if_pos (by simpa using hj)])
    rw [va, vb, Int.add_comm] at this
    rw [show (((digs (val b)).length : Int) + 1).toNat = (digs (val b)).length + 1 by omega]
    exact this
  · have h := of_decide_eq_false h
    rw [qdB (by omega)]
    refine qhC (by omega) ?_
    have := qyM (qdX (val a)) (qdX (val b)) (by omega) (by omega) _ 0 0 (List.replicate ((digs (val a)).length + 1) 0) (Nat.zero_add _) (.inl rfl) (q8M (by decide)) (by simp) (by rw [qz1]; simp) (fun j _ hj => by rw [List.getElem?_replicate, if_pos (by simpa using hj)])
    rw [va, vb] at this
    rw [show (((digs (val a)).length : Int) + 1).toNat = (digs (val a)).length + 1 by omega]
    exact this
def wd (x : Int) : BitVec 32 := BitVec.ofInt 32 x
theorem zqW {x : Int} (h : 0 ≤ x ∧ x < 4294967296) : (wd x).toNat = x.toNat := by
  unfold wd; rw [BitVec.toNat_ofInt]; omega
theorem zsS (v : BitVec 32) : wU3 (v.toNat : Int) = v.toNat := by
  rw [q44]; have := v.isLt; omega
theorem zn2 {x y : Int} : bits .or .u32 x y = ((wd x ||| wd y).toNat : Int) := zsS _
theorem zrU {x y : Int} : bits .and .u32 x y = ((wd x &&& wd y).toNat : Int) := zsS _
theorem zn1 {x y : Int} : bits .xor .u32 x y = ((wd x ^^^ wd y).toNat : Int) := zsS _
theorem q8S (v : BitVec 32) : wd (v.toNat : Int) = v := by
  apply BitVec.eq_of_toNat_eq
  rw [zqW ⟨by omega, by have := v.isLt; omega⟩]; omega
theorem zj7 {x y : Int} {s : Nat} (hx : 0 ≤ x ∧ x < 4294967296) (hd : x % 2 ^ s = 0) (hy : 0 ≤ y ∧ y < 2 ^ s) (hs : s < 32) : bits .or .u32 x y = x + y := by
  have hp : (2 : Int) ^ s ≤ 2 ^ 31 := by
    have : (2 : Nat) ^ s ≤ 2 ^ 31 := Nat.pow_le_pow_right (by decide) (by omega)
    exact_mod_cast this
  rw [zn2, BitVec.toNat_or, zqW hx, zqW (by omega)]
  have h1 : (x.toNat : Int) = x := by omega
  have h2 : (y.toNat : Int) = y := by omega
  have h3 : x.toNat = 2 ^ s * (x.toNat / 2 ^ s) := by
    have h4 : x.toNat % 2 ^ s = 0 := by
      have : ((x.toNat % 2 ^ s : Nat) : Int) = 0 := by rw [Int.natCast_emod, h1]; simpa using hd
      exact_mod_cast this
    have := Nat.div_add_mod x.toNat (2 ^ s)
    omega
  have h5 : y.toNat < 2 ^ s := by
    have : ((y.toNat : Nat) : Int) < ((2 ^ s : Nat) : Int) := by rw [h2]; simpa using hy.2
    exact_mod_cast this
  rw [h3, ← Nat.two_pow_add_eq_or_of_lt h5]
  rw [← h3]; omega
theorem zyH (v : BitVec 32) : ((v.toNat : Int) / 2147483648) = if v.msb then 1 else 0 := by
  rw [BitVec.msb_eq_decide]
  have := v.isLt
  by_cases h : 2 ^ (32 - 1) ≤ v.toNat
  · simp only [h, decide_true, if_true]; omega
  · simp only [h, decide_false]; simp; omega
theorem zsQ {x : Int} (h : 0 ≤ x ∧ x < 4294967296) : (wd x).msb = decide (2147483648 ≤ x) := by
  rw [BitVec.msb_eq_decide, zqW h, decide_eq_decide]; omega
theorem qx3 {x y b : Int} (hx : 0 ≤ x ∧ x < 4294967296) (hy : 0 ≤ y ∧ y < 4294967296) (hb : b = 0 ∨ b = 1) :
    Ev (fun K => qo5 K x y b) ((x - y - b) % 4294967296, if x - y - b < 0 then 1 else 0) := by
  refine qaT ?_
  simp only [qo5, qi8, q44]
  rw [show ((x - y) % 4294967296 - b) % 4294967296 = (x - y - b) % 4294967296 by omega]
  refine qeQ (qa3 _) ?_
  congr 1
  have hd : 0 ≤ (x - y - b) % 4294967296 ∧ (x - y - b) % 4294967296 < 4294967296 := by omega
  generalize hdd : (x - y - b) % 4294967296 = d at *
  rw [zn2, zrU, zrU, zn1, zn1, zn1, q8S, q8S, q8S, q8S, q8S, zmK (by decide) (by decide)]
  show _ / 2147483648 = _
  rw [zyH]
  have hall : ∀ v : BitVec 32, wd (if IntKind.signed .u32 then -1 else IntKind.max .u32) ^^^ v = ~~~v := by
    intro v
    have : wd (if IntKind.signed .u32 then -1 else IntKind.max .u32) = BitVec.allOnes 32 := by decide
    rw [this, BitVec.allOnes_xor]
  simp only [hall, BitVec.msb_or, BitVec.msb_and, BitVec.msb_not, BitVec.msb_xor, zsQ hx, zsQ hy, zsQ hd]
  by_cases h1 : 2147483648 ≤ x <;> by_cases h2 : 2147483648 ≤ y <;> by_cases h3 : 2147483648 ≤ d <;> simp [h1, h2, h3] <;> omega
theorem q6J {a b : List Int} (ha : Dig a) (hb : Dig b) (hba : val b ≤ val a) (hs : a.length < 4611686018427387904) (hlb : b.length ≤ a.length) : ∀ (m i : Nat) (c : Int) (r : List Int), i + m = a.length → (c = 0 ∨ c = 1) → Dig r → r.length = a.length →
    val r - 4294967296 ^ i * c = val (a.take i) - val (b.take i) → (∀ j, i ≤ j → j < r.length → r[j]? = some 0) → Ev (fun K => qd3 K (.c1 r b c a a.length i)) (digs (val a - val b), true)
  | 0, i, c, r, hi, hc, hr, hl, hv, hz => by
    refine qaT ?_
    simp only [qd3]
    refine ev_f (by simp; omega) ?_
    have h1 := qcZ hr (by omega)
    rw [List.take_of_length_le (by omega), List.take_of_length_le (by omega)] at hv
    have h2 := qnN hr
    rw [hl, show a.length = i by omega] at h2
    have hc0 : c = 0 := by
      rcases hc with h | h
      · exact h
      · subst h; omega
    subst hc0
    rw [Int.mul_zero, Int.sub_zero] at hv
    rw [hv] at h1
    exact qaP h1 (qa3 _)
  | m + 1, i, c, r, hi, hc, hr, hl, hv, hz => by
    refine qaT ?_
    simp only [qd3]
    have hia : i < a.length := by omega
    have hx := qgF ha hia
    refine ev_t (by simp; omega) (qb6 (qfN hia) ?_)
    have next : ∀ y : Int, 0 ≤ y ∧ y < 4294967296 → val (b.take (i + 1)) = val (b.take i) + 4294967296 ^ i * y →
        Ev (fun K => qd3 K (.c2 (r.set i ((a[i] - y - c) % 4294967296)) b (if a[i] - y - c < 0 then 1 else 0) a a.length i)) (digs (val a - val b), true) := by
      intro y hy he
      refine qaT ?_
      simp only [qd3]
      rw [qdB (by omega), show (i : Int) + 1 = ((i + 1 : Nat) : Int) by omega]
      refine q6J ha hb hba hs hlb m (i + 1) _ _ (by omega) (by split <;> omega) (qqD hr i (by omega)) (by simpa using hl) ?_ (fun j hj hjl => ?_)
      · have h2 := hz i (by omega) (by omega)
        rw [List.getElem?_eq_getElem (by omega)] at h2
        rw [qrG (by omega), Option.some.inj h2, qeT hia, he, Int.pow_succ]
        have e : (a[i] - y - c) % 4294967296 - 4294967296 * (if a[i] - y - c < 0 then 1 else 0) = a[i] - y - c := by split <;> omega
        generalize (a[i] - y - c) % 4294967296 = p at *
        generalize (if a[i] - y - c < 0 then (1 : Int) else 0) = q at *
        generalize (4294967296 : Int) ^ i = A at *
        grind
      · rw [List.getElem?_set_ne (by omega)]; exact hz j (by omega) (by simpa using hjl)
    by_cases hib : i < b.length
    · refine ev_t (by simpa using hib) (qb6 (qfN hib) (qaP (qx3 hx (qgF hb hib) hc) (qb6 (qfN (by omega)) ?_)))
      rw [Int.toNat_natCast]
      exact next _ (qgF hb hib) (qeT hib)
    · refine ev_f (by simpa using hib) (qaP (qx3 hx (by decide) hc) (qb6 (qfN (by omega)) ?_))
      rw [Int.toNat_natCast]
      exact next 0 (by decide) (by rw [List.take_of_length_le (by omega), List.take_of_length_le (by omega)]; simp)
theorem q6K {a b : List Int} (ha : Dig a) (hb : Dig b) (hs : a.length ≤ 34359738360) (ht : b.length ≤ 34359738360) : Ev (fun K => qwK K a b) (if val a < val b then ([], false) else (digs (val a - val b), true)) := by
  refine qaT ?_
  simp only [qwK, qd3]
  have va := qdN (qbW ha)
  have vb := qdN (qbW hb)
  have la := qeW ha
  have lb := qeW hb
  have hc := qkI (val a) (val b)
  refine qaP (qqL ha hb (by omega) (by omega)) ?_
  by_cases h : val a < val b
  · rw [if_pos h]
    exact ev_t (by simp; omega) (qa3 _)
  · rw [if_neg h]
    refine ev_f (by simp; omega) (qaP (qcZ ha (by omega)) (qaP (qcZ hb (by omega)) (qhC (by omega) ?_)))
    have hlb : (digs (val b)).length ≤ (digs (val a)).length := by
      apply Nat.le_of_not_lt; intro hlt
      have := qz2 (quG (val a)) (quG (val b)) hlt
      omega
    have := q6J (qdX (val a)) (qdX (val b)) (by omega) (by omega) hlb _ 0 0 (List.replicate (digs (val a)).length 0) (Nat.zero_add _) (.inl rfl) (q8M (by decide)) (by simp) (by rw [qz1]; simp) (fun j _ hj => by rw [List.getElem?_replicate, if_pos (by simpa using hj)])
    rw [va, vb] at this
    rw [Int.toNat_natCast]
    exact this
theorem qn0 {a b : qaG} (ha : Dig a.Abs) (hb : Dig b.Abs) (hs : a.Abs.length ≤ 34359738360) (ht : b.Abs.length ≤ 34359738360) : Ev (fun K => qnI K a b) (mkI (ival a + ival b)) := by
  refine qaT ?_
  simp only [qnI, qnZ]
  have na := qbW ha
  have nb := qbW hb
  obtain ⟨s, a⟩ := a
  obtain ⟨t, b⟩ := b
  simp only at ha hb hs ht na nb ⊢
  unfold ival
  by_cases h : s = t
  · subst h
    refine ev_t (by simp) (qaP (zlJ ha hb hs ht) (qaP (qeQ (qiX s (by omega)) ?_) (qa3 _)))
    congr 1; cases s <;> simp; omega
  · refine ev_f (by simpa using h) (qaP (q6K ha hb hs ht) ?_)
    have e : s = !t := by cases s <;> cases t <;> simp at h ⊢
    by_cases hlt : val a < val b
    · simp only [if_pos hlt]
      have := q6K hb ha ht hs
      rw [if_neg (by omega)] at this
      refine ev_f rfl (qaP this (qaP (qeQ (qiX t (by omega)) ?_) (qa3 _)))
      congr 1; subst e; cases t <;> simp <;> omega
    · simp only [if_neg hlt]
      refine ev_t rfl (qaP (qeQ (qiX s (by omega)) ?_) (qa3 _))
      congr 1; subst e; cases t <;> simp <;> omega
theorem zoO {x l : Int} {s : Nat} (hx : 0 ≤ x ∧ x < 4294967296) (hl : 0 ≤ l ∧ l < 2 ^ s) (hs : s < 32) :
    ∃ d q : Int, bits .or .u32 (qiN .u32 x s) l = d ∧ qdC .u32 x (32 - s) = q ∧ (0 ≤ d ∧ d < 4294967296) ∧ (0 ≤ q ∧ q < 2 ^ s) ∧ d + 4294967296 * q = x * 2 ^ s + l := by
  rw [zq7 (by omega) (by show (s : Int) ≤ 32; omega), zmK (by omega) (by show (32 : Int) - s ≤ 32; omega), zwZ, Int.toNat_natCast, show ((32 : Int) - s).toNat = 32 - s by omega]
  have hP : (0 : Int) < 2 ^ s := Int.pow_pos (by decide)
  have hQ : (0 : Int) < 2 ^ (32 - s) := Int.pow_pos (by decide)
  have hPQ : (2 : Int) ^ (32 - s) * 2 ^ s = 4294967296 := by rw [← Int.pow_add, show 32 - s + s = 32 by omega]; rfl
  have hmul : x * 2 ^ s % 4294967296 = x % 2 ^ (32 - s) * 2 ^ s := by rw [← hPQ, Int.mul_comm x, Int.mul_comm (2 ^ (32 - s)), Int.mul_emod_mul_of_pos _ _ hP, Int.mul_comm]
  have hm1 : 0 ≤ x % 2 ^ (32 - s) := Int.emod_nonneg _ (by omega)
  have hm2 : x % 2 ^ (32 - s) < 2 ^ (32 - s) := Int.emod_lt_of_pos _ hQ
  have hd1 : x % 2 ^ (32 - s) * 2 ^ s + 2 ^ s ≤ 4294967296 := by
    have := Int.mul_le_mul_of_nonneg_right (show x % 2 ^ (32 - s) + 1 ≤ 2 ^ (32 - s) by omega) (Int.le_of_lt hP)
    rw [hPQ, Int.add_mul, Int.one_mul] at this; exact this
  have hd0 : 0 ≤ x % 2 ^ (32 - s) * 2 ^ s := Int.mul_nonneg hm1 (Int.le_of_lt hP)
  rw [hmul, zj7 (s := s) ⟨hd0, by omega⟩ (Int.mul_emod_left _ _) hl hs]
  have hdiv := Int.emod_add_mul_ediv x (2 ^ (32 - s))
  refine ⟨_, _, rfl, rfl, ⟨by omega, by omega⟩, ⟨Int.ediv_nonneg hx.1 (by omega), ?_⟩, ?_⟩
  · exact Int.ediv_lt_of_lt_mul hQ (by rw [Int.mul_comm, hPQ]; exact hx.2)
  · rw [← hPQ]
    generalize x / 2 ^ (32 - s) = q at *
    generalize x % 2 ^ (32 - s) = r at *
    generalize (2 : Int) ^ s = P at *
    generalize (2 : Int) ^ (32 - s) = Q at *
    rw [← hdiv]
    grind
theorem q6M {r0 : List Int} (h0 : Dig r0) {s : Nat} (hs1 : 0 < s) (hs : s < 32) (hl : r0.length < 4611686018427387904) (hlast : val r0 * 2 ^ s < 4294967296 ^ r0.length) : ∀ (m i : Nat) (l : Int) (r : List Int), i + m = r0.length → (0 ≤ l ∧ l < 2 ^ s) → Dig r → r.length = r0.length →
    val r + 4294967296 ^ i * l = 2 ^ s * val (r0.take i) + 4294967296 ^ i * val (r0.drop i) → (∀ j, i ≤ j → r[j]? = r0[j]?) → Ev (fun K => qfD K (.c1 r s l i)) (digs (val r0 * 2 ^ s))
  | 0, i, l, r, hi, hlo, hr, hrl, hv, hz => by
    refine qaT ?_
    simp only [qfD]
    refine ev_f (by simp; omega) ?_
    have h1 := qcZ hr (by omega)
    rw [List.take_of_length_le (by omega), List.drop_of_length_le (by omega), q7D, Int.mul_zero, Int.add_zero, Int.mul_comm (2 ^ s)] at hv
    have hp := qfL i
    have hn := qbW hr
    rw [show r0.length = i by omega] at hlast
    have hl0 : l = 0 := by
      apply Classical.byContradiction; intro hne
      have := Int.mul_le_mul_of_nonneg_left (show 1 ≤ l by omega) (Int.le_of_lt hp)
      omega
    subst hl0
    rw [Int.mul_zero, Int.add_zero] at hv
    rw [hv] at h1
    exact qaP h1 (qa3 _)
  | m + 1, i, l, r, hi, hlo, hr, hrl, hv, hz => by
    refine qaT ?_
    simp only [qfD]
    have hir : i < r.length := by omega
    have hi0 : i < r0.length := by omega
    have hx := qgF hr hir
    obtain ⟨d, q, e1, e2, hd, hq, e3⟩ := zoO hx hlo hs
    refine ev_t (by simp; omega) (qb6 (qfN hir) (qhC (by omega) (qb6 (qfN hir) (qhC (by rw [qdB (by omega)]; omega) ?_))))
    rw [qdB (x := (32 : Int) - s) (by omega), e1, e2, Int.toNat_natCast, qdB (by omega), show (i : Int) + 1 = ((i + 1 : Nat) : Int) by omega]
    refine q6M h0 hs1 hs hl hlast m (i + 1) q _ (by omega) hq (qqD hr i hd) (by simpa using hrl) ?_ (fun j hj => ?_)
    · have e4 : r[i] = r0[i] := by
        have := hz i (Nat.le_refl _)
        rw [List.getElem?_eq_getElem hir, List.getElem?_eq_getElem hi0] at this
        exact Option.some.inj this
      rw [qrG hir, qeT hi0, Int.pow_succ]
      rw [List.drop_eq_getElem_cons hi0, qqP] at hv
      rw [e4] at e3 ⊢
      generalize (4294967296 : Int) ^ i = A at *
      generalize (2 : Int) ^ s = P at *
      grind
    · rw [List.getElem?_set_ne (by omega)]; exact hz j (by omega)
theorem zyW (n : Nat) : (2 : Int) ^ n = 2 ^ (n % 32) * 4294967296 ^ (n / 32) := by
  have e : (4294967296 : Int) = 2 ^ 32 := by decide
  rw [e, ← Int.pow_mul, ← Int.pow_add]
  congr 1; omega
theorem qyK {a : List Int} (ha : Dig a) {n : Nat} (hn : n ≤ 16777216) (hs : a.length ≤ 34359738360 - 524288) : Ev (fun K => qtS K a n) (digs (val a * 2 ^ n)) := by
  refine qaT ?_
  simp only [qtS, qfD]
  have va := qdN (qbW ha)
  have la := qeW ha
  refine qaP (qcZ ha (by omega)) ?_
  by_cases h1 : digs (val a) = []
  · refine ev_t (by simp [h1]) (qeQ (qa3 _) ?_)
    rw [(qjY (qbW ha)).1 h1, Int.zero_mul, qhD]
  · refine ev_f (by simpa using h1) ?_
    have e0 : min (max (n : Int) 0) 16777216 = n := by omega
    have e1 : wI6 (Int.tdiv (n : Int) 32) = ((n / 32 : Nat) : Int) := by
      rw [Int.tdiv_eq_ediv_of_nonneg (by omega), qdB (by omega)]; omega
    have e2 : Int.tmod (n : Int) 32 = ((n % 32 : Nat) : Int) := by
      rw [Int.tmod_eq_emod_of_nonneg (by omega)]; omega
    rw [e0, e1, e2, qdB (x := ((n / 32 : Nat) : Int) + ((digs (val a)).length : Int)) (by omega), qdB (by omega),
      show ((n / 32 : Nat) : Int) + ((digs (val a)).length : Int) + 1 = ((n / 32 + (digs (val a)).length + 1 : Nat) : Int) by omega]
    simp only [Int.toNat_natCast, List.length_replicate, Nat.zero_add]
    refine qhC (by omega) (qhC (by omega) (qhC (by omega) ?_))
    have hcp : qg2 (List.replicate (n / 32 + (digs (val a)).length + 1) (0 : Int)) (n / 32) (n / 32 + (digs (val a)).length + 1 - n / 32) (digs (val a)) = List.replicate (n / 32) 0 ++ digs (val a) ++ [0] := by
      unfold qg2
      rw [if_pos (by simp; omega), List.take_of_length_le (by omega)]
      unfold qdE
      rw [List.take_replicate, List.drop_replicate, Nat.min_eq_left (by omega), show n / 32 + (digs (val a)).length + 1 - (n / 32 + (digs (val a)).length) = 1 by omega]
      rfl
    rw [hcp]
    have hd : Dig (List.replicate (n / 32) 0 ++ digs (val a) ++ [0]) := q41.2 ⟨q41.2 ⟨q8M (by decide), qdX _⟩, ql3.2 ⟨by decide, q4I⟩⟩
    have hv : val (List.replicate (n / 32) 0 ++ digs (val a) ++ [0]) = val a * 4294967296 ^ (n / 32) := by
      rw [ql6, ql6, qz1, va]; simp [Int.mul_comm]
    have hl : (List.replicate (n / 32) 0 ++ digs (val a) ++ [0]).length = n / 32 + (digs (val a)).length + 1 := by simp; omega
    have hp : val a * 4294967296 ^ (n / 32) * 2 ^ (n % 32) = val a * 2 ^ n := by rw [zyW n, Int.mul_assoc]; congr 1; rw [Int.mul_comm]
    by_cases h2 : n % 32 = 0
    · refine ev_f (by simp [h2]) ?_
      have := qcZ hd (by omega)
      rw [hv] at this
      rw [h2, Int.pow_zero, Int.mul_one] at hp
      rw [hp] at this
      exact qaP this (qa3 _)
    · refine ev_t (by simp; omega) ?_
      have hlast : val (List.replicate (n / 32) 0 ++ digs (val a) ++ [0]) * 2 ^ (n % 32) < 4294967296 ^ (List.replicate (n / 32) 0 ++ digs (val a) ++ [0]).length := by
        rw [hv, hl, Int.pow_succ, Int.pow_add]
        have h3 := qnN (qdX (val a))
        rw [va] at h3
        have h4 : (2 : Int) ^ (n % 32) < 4294967296 := by
          have : (2 : Nat) ^ (n % 32) ≤ 2 ^ 31 := Nat.pow_le_pow_right (by decide) (by omega)
          have : ((2 ^ (n % 32) : Nat) : Int) ≤ ((2 ^ 31 : Nat) : Int) := by exact_mod_cast this
          simp at this; omega
        have h5 := qfL (n / 32)
        have h6 : (0 : Int) < 2 ^ (n % 32) := Int.pow_pos (by decide)
        have h7 := Int.mul_lt_mul_of_pos_left h3 h5
        have h8 := qbW ha
        have h9 : 0 ≤ val a * 4294967296 ^ (n / 32) := Int.mul_nonneg h8 (Int.le_of_lt h5)
        calc val a * 4294967296 ^ (n / 32) * 2 ^ (n % 32) ≤ val a * 4294967296 ^ (n / 32) * 4294967296 := Int.mul_le_mul_of_nonneg_left (Int.le_of_lt h4) h9
          _ < 4294967296 ^ (n / 32) * 4294967296 ^ (digs (val a)).length * 4294967296 := Int.mul_lt_mul_of_pos_right (by rw [Int.mul_comm (val a)]; exact h7) (by decide)
      have hlen : n / 32 + ((digs (val a)).length + 1) = (List.replicate (n / 32) 0 ++ digs (val a) ++ [0]).length := by rw [hl]; omega
      have := q6M hd (s := n % 32) (by omega) (by omega) (by omega) hlast _ (n / 32) 0 _ hlen ⟨Int.le_refl 0, Int.pow_pos (by decide)⟩ hd rfl (by
        rw [Int.mul_zero, Int.add_zero, List.append_assoc, List.take_left' (by simp), List.drop_left' (by simp), qz1, Int.mul_zero, Int.zero_add, ql6, qz1]
        simp) (fun _ _ => rfl)
      rw [hv, hp] at this
      exact this
theorem zxG {g D N P U V : Int} (hP : 0 < P) (hg : 0 ≤ g) (hV : D * P ≤ V) (hU : U < (N + 1) * P) (h : N < g * D) : U < g * V := by
  have h1 := Int.mul_le_mul_of_nonneg_left hV hg
  have h2 := Int.mul_le_mul_of_nonneg_right (show N + 1 ≤ g * D by omega) (Int.le_of_lt hP)
  rw [Int.mul_assoc] at h2
  omega
theorem zy6 {g D N P U V : Int} (hP : 0 < P) (hg : 0 ≤ g) (hD : g ≤ D + 1) (hV0 : 0 ≤ V) (hU0 : 0 ≤ U) (hV : V < (D + 1) * P) (hU : N * P ≤ U) (h : g * D ≤ N) : (g - 1) * V ≤ U := by
  by_cases h0 : g = 0
  · subst h0; simp only [Int.zero_sub, Int.neg_mul, Int.one_mul]; omega
  · have h1 := Int.mul_le_mul_of_nonneg_left (Int.le_of_lt hV) (show 0 ≤ g - 1 by omega)
    have h2 : (g - 1) * (D + 1) ≤ N := by
      have : (g - 1) * (D + 1) = g * D + g - 1 - D := by grind
      omega
    have h3 := Int.mul_le_mul_of_nonneg_right h2 (Int.le_of_lt hP)
    rw [Int.mul_assoc] at h3
    omega
theorem zvB {g x c b y : Int} (hg : 0 ≤ g ∧ g < 4294967296) (hx : 0 ≤ x ∧ x < 4294967296) (hc : 0 ≤ c ∧ c < 4294967296) (hb : b = 0 ∨ b = 1) (hy : 0 ≤ y ∧ y < 4294967296) :
    ∃ c' b' y' : Int, (g * x + c) / 4294967296 = c' ∧ (y - b - (g * x + c) % 4294967296) % 18446744073709551616 / 9223372036854775808 = b' ∧ (y - b - (g * x + c) % 4294967296) % 18446744073709551616 % 4294967296 = y' ∧
      (0 ≤ c' ∧ c' < 4294967296) ∧ (b' = 0 ∨ b' = 1) ∧ (0 ≤ y' ∧ y' < 4294967296) ∧ y' - 4294967296 * (b' + c') = y - g * x - (b + c) := by
  have := zcN hg hx
  generalize g * x = P at *
  exact ⟨_, _, _, rfl, rfl, rfl, by omega, by omega, by omega, by omega⟩
open Go.Proofs.Try (prog)
inductive qnA where
 | c0 (x : Int)
def qlK : Nat → qnA → Option Int
 | 0, _ => none
 | _ + 1, .c0 x =>
  bif (decide ((4294967296 : Int) ≤ x)) then
   bif (decide ((65536 : Int) ≤ (qdC .u64 x (32 : Int)))) then
    bif (decide ((256 : Int) ≤ (qdC .u64 (qdC .u64 x (32 : Int)) (16 : Int)))) then
     (gi qcS (wU1 (qdC .u64 (qdC .u64 (qdC .u64 x (32 : Int)) (16 : Int)) (8 : Int)))).bind fun x4 =>
     some (wI6 ((wI6 ((wI6 ((32 : Int) + (16 : Int))) + (8 : Int))) + (wI6 x4)))
    else
     (gi qcS (wU1 (qdC .u64 (qdC .u64 x (32 : Int)) (16 : Int)))).bind fun x4 =>
     some (wI6 ((wI6 ((32 : Int) + (16 : Int))) + (wI6 x4)))
   else
    bif (decide ((256 : Int) ≤ (qdC .u64 x (32 : Int)))) then
     (gi qcS (wU1 (qdC .u64 (qdC .u64 x (32 : Int)) (8 : Int)))).bind fun x4 =>
     some (wI6 ((wI6 ((32 : Int) + (8 : Int))) + (wI6 x4)))
    else
     (gi qcS (wU1 (qdC .u64 x (32 : Int)))).bind fun x4 =>
     some (wI6 ((32 : Int) + (wI6 x4)))
  else
   bif (decide ((65536 : Int) ≤ x)) then
    bif (decide ((256 : Int) ≤ (qdC .u64 x (16 : Int)))) then
     (gi qcS (wU1 (qdC .u64 (qdC .u64 x (16 : Int)) (8 : Int)))).bind fun x4 =>
     some (wI6 ((wI6 ((wI6 ((0 : Int) + (16 : Int))) + (8 : Int))) + (wI6 x4)))
    else
     (gi qcS (wU1 (qdC .u64 x (16 : Int)))).bind fun x4 =>
     some (wI6 ((wI6 ((0 : Int) + (16 : Int))) + (wI6 x4)))
   else
    bif (decide ((256 : Int) ≤ x)) then
     (gi qcS (wU1 (qdC .u64 x (8 : Int)))).bind fun x4 =>
     some (wI6 ((wI6 ((0 : Int) + (8 : Int))) + (wI6 x4)))
    else
     (gi qcS (wU1 x)).bind fun x4 =>
     some (wI6 ((0 : Int) + (wI6 x4)))
def q3W (K : Nat) (x : Int) : Option Int := qlK K (.c0 x)
noncomputable def q5J : Code := qcK prog 197
noncomputable def q72 : qnA → List Fr
 | .c0 .. => [.code q5J]
def q91 : qnA → St
 | .c0 x => St.init [(ti .u64 x)]
def qzF (cx : Cx) (c : qnA) (r : Int) : Prop := Wk prog cx (qd0 prog 197 [[0]] (ti .i64 r)) (q72 c) .normal (q91 c)
abbrev qzG (K : Nat) : Prop := ∀ c r, qlK K c = some r → ∀ cx : Cx, cx.n = 25 → qzF cx c r
theorem q92 {K} (_ : qzG K) {cx} (hn : cx.n = 25) {x} {r} (h : qlK (K + 1) (.c0 x) = some r) : qzF cx (.c0 x) r := by
 rw [qlK] at h
 rcases qaY h with ⟨h1, h⟩ | ⟨h1, h⟩
 ·rcases qaY h with ⟨h2, h⟩ | ⟨h2, h⟩
  ·rcases qaY h with ⟨h3, h⟩ | ⟨h3, h⟩
   ·obtain ⟨x4, h5, h⟩ := qaV h
    have h := oinj h; subst h
    exact wkR [rg1, rg2, bTr, rg3, rg1, rg2, bTr, rg3, rg3, rg2, bTr, rg3, rg3, rgG [oo, oo, oo, opI (.sx x4), oo, oo, oo]] hn (aC h1 <| aC h2 <| aC h3 <| aC (qb2 h5) <| aC (qvD h5 : qcS[(wU1 (qdC .u64 (qdC .u64 (qdC .u64 x (32 : Int)) (16 : Int)) (8 : Int))).toNat]? = some x4) <| aN)
   ·obtain ⟨x4, h5, h⟩ := qaV h
    have h := oinj h; subst h
    exact wkR [rg1, rg2, bTr, rg3, rg1, rg2, bTr, rg3, rg3, rg2, bFa, rgG [oo, oo, oo, opI (.sx x4), oo, oo, oo]] hn (aC h1 <| aC h2 <| aC h3 <| aC (qb2 h5) <| aC (qvD h5 : qcS[(wU1 (qdC .u64 (qdC .u64 x (32 : Int)) (16 : Int))).toNat]? = some x4) <| aN)
  ·rcases qaY h with ⟨h3, h⟩ | ⟨h3, h⟩
   ·obtain ⟨x4, h5, h⟩ := qaV h
    have h := oinj h; subst h
    exact wkR [rg1, rg2, bTr, rg3, rg1, rg2, bFa, rg2, bTr, rg3, rg3, rgG [oo, oo, oo, opI (.sx x4), oo, oo, oo]] hn (aC h1 <| aC h2 <| aC h3 <| aC (qb2 h5) <| aC (qvD h5 : qcS[(wU1 (qdC .u64 (qdC .u64 x (32 : Int)) (8 : Int))).toNat]? = some x4) <| aN)
   ·obtain ⟨x4, h5, h⟩ := qaV h
    have h := oinj h; subst h
    exact wkR [rg1, rg2, bTr, rg3, rg1, rg2, bFa, rg2, bFa, rgG [oo, oo, oo, opI (.sx x4), oo, oo, oo]] hn (aC h1 <| aC h2 <| aC h3 <| aC (qb2 h5) <| aC (qvD h5 : qcS[(wU1 (qdC .u64 x (32 : Int))).toNat]? = some x4) <| aN)
 ·rcases qaY h with ⟨h2, h⟩ | ⟨h2, h⟩
  ·rcases qaY h with ⟨h3, h⟩ | ⟨h3, h⟩
   ·obtain ⟨x4, h5, h⟩ := qaV h
    have h := oinj h; subst h
    exact wkR [rg1, rg2, bFa, rg2, bTr, rg3, rg3, rg2, bTr, rg3, rg3, rgG [oo, oo, oo, opI (.sx x4), oo, oo, oo]] hn (aC h1 <| aC h2 <| aC h3 <| aC (qb2 h5) <| aC (qvD h5 : qcS[(wU1 (qdC .u64 (qdC .u64 x (16 : Int)) (8 : Int))).toNat]? = some x4) <| aN)
   ·obtain ⟨x4, h5, h⟩ := qaV h
    have h := oinj h; subst h
    exact wkR [rg1, rg2, bFa, rg2, bTr, rg3, rg3, rg2, bFa, rgG [oo, oo, oo, opI (.sx x4), oo, oo, oo]] hn (aC h1 <| aC h2 <| aC h3 <| aC (qb2 h5) <| aC (qvD h5 : qcS[(wU1 (qdC .u64 x (16 : Int))).toNat]? = some x4) <| aN)
  ·rcases qaY h with ⟨h3, h⟩ | ⟨h3, h⟩
   ·obtain ⟨x4, h5, h⟩ := qaV h
    have h := oinj h; subst h
    exact wkR [rg1, rg2, bFa, rg2, bFa, rg2, bTr, rg3, rg3, rgG [oo, oo, oo, opI (.sx x4), oo, oo, oo]] hn (aC h1 <| aC h2 <| aC h3 <| aC (qb2 h5) <| aC (qvD h5 : qcS[(wU1 (qdC .u64 x (8 : Int))).toNat]? = some x4) <| aN)
   ·obtain ⟨x4, h5, h⟩ := qaV h
    have h := oinj h; subst h
    exact wkR [rg1, rg2, bFa, rg2, bFa, rg2, bFa, rgG [oo, oo, oo, opI (.sx x4), oo, oo, oo]] hn (aC h1 <| aC h2 <| aC h3 <| aC (qb2 h5) <| aC (qvD h5 : qcS[(wU1 x).toNat]? = some x4) <| aN)
theorem qwR : ∀ K : Nat, qzG K
 | 0, c, r, h => by rw [qlK] at h; cases h
 | K + 1, .c0 .., r, h => fun cx hn => q92 (qwR K) hn h
theorem q3V {K : Nat} {x : Int} {r : Int} (h : q3W K x = some r) : qc0 prog 197 [(ti .u64 x)] (ti .i64 r) :=
 qbG [[0]] (by kernel_rfl) (by simp) fun cx hn => qwR K (.c0 x) r h cx hn
open Go.Proofs.Try (prog)
inductive qgU where
 | c0 (x : Int)
def qfT : Nat → qgU → Option Int
 | 0, _ => none
 | K + 1, .c0 x =>
  (q3W K x).bind fun x1 =>
  some (wI6 ((64 : Int) - x1))
def qrW (K : Nat) (x : Int) : Option Int := qfT K (.c0 x)
noncomputable def qvA : Code := qcK prog 195
noncomputable def qvX : qgU → List Fr
 | .c0 .. => [.code qvA]
def qwT : qgU → St
 | .c0 x => St.init [(ti .u64 x)]
def qp2 (cx : Cx) (c : qgU) (r : Int) : Prop := Wk prog cx (qd0 prog 195 [[0]] (ti .i64 r)) (qvX c) .normal (qwT c)
abbrev qp3 (K : Nat) : Prop := ∀ c r, qfT K c = some r → ∀ cx : Cx, cx.n = 6 → qp2 cx c r
theorem qwU {K} (_ : qp3 K) {cx} (hn : cx.n = 6) {x} {r} (h : qfT (K + 1) (.c0 x) = some r) : qp2 cx (.c0 x) r := by
 rw [qfT] at h
 obtain ⟨x1, h2, h⟩ := qaV h
 have h := oinj h; subst h
 exact wkR [rg1, rgG [oo, opI (.call [[0]] [(ti .u64 x)] (ti .i64 x1)), oo, oo]] hn (aC (q3V h2) <| aN)
theorem qoK : ∀ K : Nat, qp3 K
 | 0, c, r, h => by rw [qfT] at h; cases h
 | K + 1, .c0 .., r, h => fun cx hn => qwU (qoK K) hn h
theorem quM {K : Nat} {x : Int} {r : Int} (h : qrW K x = some r) : qc0 prog 195 [(ti .u64 x)] (ti .i64 r) :=
 qbG [[0]] (by kernel_rfl) (by simp) fun cx hn => qoK K (.c0 x) r h cx hn
open Go.Proofs.Try (prog)
inductive qnC where
 | c0 (hi : Int) (lo : Int) (y : Int)
 | c1 (y : Int) (s : Int) (yn1 : Int) (yn0 : Int) (un32 : Int) (un1 : Int) (un0 : Int) (q1 : Int) (rhat : Int)
 | c2 (y : Int) (s : Int) (yn1 : Int) (yn0 : Int) (un32 : Int) (un1 : Int) (un0 : Int) (q1 : Int)
 | c3 (y : Int) (s : Int) (yn1 : Int) (yn0 : Int) (un0 : Int) (q1 : Int) (rhat : Int) (un21 : Int) (q0 : Int)
 | c4 (y : Int) (s : Int) (un0 : Int) (q1 : Int) (un21 : Int) (q0 : Int)
def qbT : Nat → qnC → Option (Int × Int)
 | 0, _ => none
 | K + 1, .c0 hi lo y =>
  bif (decide (y = (0 : Int))) then
   none
  else
   bif (decide (y ≤ hi)) then
    none
   else
    bif (decide (hi = (0 : Int))) then
     gd (y ≠ 0) <|
     gd (y ≠ 0) <|
     some ((wU6 (Int.tdiv lo y)), (Int.tmod lo y))
    else
     (qrW K y).bind fun x4 =>
     gd (0 ≤ (wU6 x4)) <|
     gd (0 ≤ (wU6 x4)) <|
     gd (0 ≤ (wU6 ((64 : Int) - (wU6 x4)))) <|
     gd (0 ≤ (wU6 x4)) <|
     gd ((qdC .u64 (qiN .u64 y (wU6 x4)) (32 : Int)) ≠ 0) <|
     qbT K (.c1 (qiN .u64 y (wU6 x4)) (wU6 x4) (qdC .u64 (qiN .u64 y (wU6 x4)) (32 : Int)) (bits .and .u64 (qiN .u64 y (wU6 x4)) (4294967295 : Int)) (bits .or .u64 (qiN .u64 hi (wU6 x4)) (qdC .u64 lo (wU6 ((64 : Int) - (wU6 x4))))) (qdC .u64 (qiN .u64 lo (wU6 x4)) (32 : Int)) (bits .and .u64 (qiN .u64 lo (wU6 x4)) (4294967295 : Int)) (wU6 (Int.tdiv (bits .or .u64 (qiN .u64 hi (wU6 x4)) (qdC .u64 lo (wU6 ((64 : Int) - (wU6 x4))))) (qdC .u64 (qiN .u64 y (wU6 x4)) (32 : Int)))) (wU6 ((bits .or .u64 (qiN .u64 hi (wU6 x4)) (qdC .u64 lo (wU6 ((64 : Int) - (wU6 x4))))) - (wU6 ((wU6 (Int.tdiv (bits .or .u64 (qiN .u64 hi (wU6 x4)) (qdC .u64 lo (wU6 ((64 : Int) - (wU6 x4))))) (qdC .u64 (qiN .u64 y (wU6 x4)) (32 : Int)))) * (qdC .u64 (qiN .u64 y (wU6 x4)) (32 : Int)))))))
 | K + 1, .c1 y s yn1 yn0 un32 un1 un0 q1 rhat =>
  bif (decide ((4294967296 : Int) ≤ q1)) then
   bif (decide ((4294967296 : Int) ≤ (wU6 (rhat + yn1)))) then
    qbT K (.c2 y s yn1 yn0 un32 un1 un0 (wU6 (q1 - (1 : Int))))
   else
    qbT K (.c1 y s yn1 yn0 un32 un1 un0 (wU6 (q1 - (1 : Int))) (wU6 (rhat + yn1)))
  else
   bif (decide ((wU6 ((wU6 ((4294967296 : Int) * rhat)) + un1)) < (wU6 (q1 * yn0)))) then
    bif (decide ((4294967296 : Int) ≤ (wU6 (rhat + yn1)))) then
     qbT K (.c2 y s yn1 yn0 un32 un1 un0 (wU6 (q1 - (1 : Int))))
    else
     qbT K (.c1 y s yn1 yn0 un32 un1 un0 (wU6 (q1 - (1 : Int))) (wU6 (rhat + yn1)))
   else
    qbT K (.c2 y s yn1 yn0 un32 un1 un0 q1)
 | K + 1, .c2 y s yn1 yn0 un32 un1 un0 q1 =>
  gd (yn1 ≠ 0) <|
  qbT K (.c3 y s yn1 yn0 un0 q1 (wU6 ((wU6 ((wU6 ((wU6 (un32 * (4294967296 : Int))) + un1)) - (wU6 (q1 * y)))) - (wU6 ((wU6 (Int.tdiv (wU6 ((wU6 ((wU6 (un32 * (4294967296 : Int))) + un1)) - (wU6 (q1 * y)))) yn1)) * yn1)))) (wU6 ((wU6 ((wU6 (un32 * (4294967296 : Int))) + un1)) - (wU6 (q1 * y)))) (wU6 (Int.tdiv (wU6 ((wU6 ((wU6 (un32 * (4294967296 : Int))) + un1)) - (wU6 (q1 * y)))) yn1)))
 | K + 1, .c3 y s yn1 yn0 un0 q1 rhat un21 q0 =>
  bif (decide ((4294967296 : Int) ≤ q0)) then
   bif (decide ((4294967296 : Int) ≤ (wU6 (rhat + yn1)))) then
    qbT K (.c4 y s un0 q1 un21 (wU6 (q0 - (1 : Int))))
   else
    qbT K (.c3 y s yn1 yn0 un0 q1 (wU6 (rhat + yn1)) un21 (wU6 (q0 - (1 : Int))))
  else
   bif (decide ((wU6 ((wU6 ((4294967296 : Int) * rhat)) + un0)) < (wU6 (q0 * yn0)))) then
    bif (decide ((4294967296 : Int) ≤ (wU6 (rhat + yn1)))) then
     qbT K (.c4 y s un0 q1 un21 (wU6 (q0 - (1 : Int))))
    else
     qbT K (.c3 y s yn1 yn0 un0 q1 (wU6 (rhat + yn1)) un21 (wU6 (q0 - (1 : Int))))
   else
    qbT K (.c4 y s un0 q1 un21 q0)
 | _ + 1, .c4 y s un0 q1 un21 q0 =>
  gd (0 ≤ s) <|
  some ((wU6 ((wU6 (q1 * (4294967296 : Int))) + q0)), (qdC .u64 (wU6 ((wU6 ((wU6 (un21 * (4294967296 : Int))) + un0)) - (wU6 (q0 * y)))) s))
def qo6 (K : Nat) (hi : Int) (lo : Int) (y : Int) : Option (Int × Int) := qbT K (.c0 hi lo y)
noncomputable def qe0 : Code := qcK prog 188
noncomputable def q74 : qnC → List Fr
 | .c0 .. => [.code qe0]
 | .c1 .. => [.code (.loop (atC qe0 [1,1,1,1,1,1,1,1,1,1,1,1,1,1,0,0,0])), .blk 0, .code (atC qe0 [1,1,1,1,1,1,1,1,1,1,1,1,1,1,1])]
 | .c2 .. => [.code (atC qe0 [1,1,1,1,1,1,1,1,1,1,1,1,1,1,1,0]), .code (atC qe0 [1,1,1,1,1,1,1,1,1,1,1,1,1,1,1,1])]
 | .c3 .. => [.code (.loop (atC qe0 [1,1,1,1,1,1,1,1,1,1,1,1,1,1,1,1,1,1,0,0,0])), .blk 2, .code (atC qe0 [1,1,1,1,1,1,1,1,1,1,1,1,1,1,1,1,1,1,1])]
 | .c4 .. => [.code (atC qe0 [1,1,1,1,1,1,1,1,1,1,1,1,1,1,1,1,1,1,1,0]), .code (atC qe0 [1,1,1,1,1,1,1,1,1,1,1,1,1,1,1,1,1,1,1,1])]
def q96 : qnC → St
 | .c0 hi lo y => St.init [(ti .u64 hi), (ti .u64 lo), (ti .u64 y)]
 | .c1 y s yn1 yn0 un32 un1 un0 q1 rhat => ⟨[(2, vi .u64 y), (8, vi .u64 s), (9, vi .u64 yn1), (10, vi .u64 yn0), (11, vi .u64 un32), (13, vi .u64 un1), (14, vi .u64 un0), (15, vi .u64 q1), (16, vi .u64 rhat)], [], []⟩
 | .c2 y s yn1 yn0 un32 un1 un0 q1 => ⟨[(2, vi .u64 y), (8, vi .u64 s), (9, vi .u64 yn1), (10, vi .u64 yn0), (11, vi .u64 un32), (13, vi .u64 un1), (14, vi .u64 un0), (15, vi .u64 q1)], [], []⟩
 | .c3 y s yn1 yn0 un0 q1 rhat un21 q0 => ⟨[(2, vi .u64 y), (8, vi .u64 s), (9, vi .u64 yn1), (10, vi .u64 yn0), (14, vi .u64 un0), (15, vi .u64 q1), (16, vi .u64 rhat), (17, vi .u64 un21), (18, vi .u64 q0)], [], []⟩
 | .c4 y s un0 q1 un21 q0 => ⟨[(2, vi .u64 y), (8, vi .u64 s), (14, vi .u64 un0), (15, vi .u64 q1), (17, vi .u64 un21), (18, vi .u64 q0)], [], []⟩
def qj9 (cx : Cx) (c : qnC) (r : (Int × Int)) : Prop := Wk prog cx (qd0 prog 188 [[0], [0]] (TV.tup [(false, [(T.int .u64 r.1)]), (false, [(T.int .u64 r.2)])])) (q74 c) .normal (q96 c)
abbrev qkA (K : Nat) : Prop := ∀ c r, qbT K c = some r → ∀ cx : Cx, cx.n = 135 → qj9 cx c r
theorem zaC {K} (ih : qkA K) {cx} (hn : cx.n = 135) {hi lo y} {r} (h : qbT (K + 1) (.c0 hi lo y) = some r) : qj9 cx (.c0 hi lo y) r := by
 rw [qbT] at h
 rcases qaY h with ⟨h1, h⟩ | ⟨h1, h⟩
 ·cases h
 ·rcases qaY h with ⟨h2, h⟩ | ⟨h2, h⟩
  ·cases h
  ·rcases qaY h with ⟨h3, h⟩ | ⟨h3, h⟩
   ·obtain ⟨h4, h⟩ := qb3 h
    obtain ⟨h5, h⟩ := qb3 h
    have h := oinj h; subst h
    exact wkR [rg2, rg2, bFa, rg3, bFa, rg2, bTr, .draw [.p, .p, .dv, .p, .p, .dv, .p] [.op .p]] hn (aC h1 <| aC h2 <| aC h3 <| aC h4 <| aC h5 <| aN)
   ·obtain ⟨x4, h5, h⟩ := qaV h
    obtain ⟨h6, h⟩ := qb3 h
    obtain ⟨h7, h⟩ := qb3 h
    obtain ⟨h8, h⟩ := qb3 h
    obtain ⟨h9, h⟩ := qb3 h
    obtain ⟨h10, h⟩ := qb3 h
    exact wkG [rg2, rg2, bFa, rg3, bFa, rg2, bFa, rgG [oo, opI (.call [[0]] [(ti .u64 y)] (ti .i64 x4)), oo, oo], rgG [oo, oo, .op .dv, oo], rg3, rg3, rgG [oo, oo, .op .dv, oo, oo, oo, .op .dv, oo, oo], rgG [oo, oo, .op .dv, oo], rg3, rg3, rgG [oo, oo, .op .dv, oo], rg6, .pre [.keep [2,8,9,10,11,13,14,15,16] []]] hn (aC h1 <| aC h2 <| aC h3 <| aC (quM h5) <| aC h6 <| aC h7 <| aC h8 <| aC h9 <| aC h10 <| aN) (ih _ _ h cx hn)
theorem zaB {K} (ih : qkA K) {cx} (hn : cx.n = 135) {y s yn1 yn0 un32 un1 un0 q1 rhat} {r} (h : qbT (K + 1) (.c1 y s yn1 yn0 un32 un1 un0 q1 rhat) = some r) : qj9 cx (.c1 y s yn1 yn0 un32 un1 un0 q1 rhat) r := by
 rw [qbT] at h
 rcases qaY h with ⟨h1, h⟩ | ⟨h1, h⟩
 ·rcases qaY h with ⟨h2, h⟩ | ⟨h2, h⟩
  ·exact wkG [.go, rgG [oo, oo, oo, .sb 69 true, oo, oo, oo, oo, oo, oo, oo, oo, oo], bTr, rg3, rg4, rg2, bTr, .pre [.keep [2,8,9,10,11,13,14,15] []]] hn (aC h1 <| aC rt <| aC h2 <| aN) (ih _ _ h cx hn)
  ·exact wkG [.go, rgG [oo, oo, oo, .sb 69 true, oo, oo, oo, oo, oo, oo, oo, oo, oo], bTr, rg3, rg4, rg2, bFa, .pre [.keep [2,8,9,10,11,13,14,15,16] []]] hn (aC h1 <| aC rt <| aC h2 <| aN) (ih _ _ h cx hn)
 ·rcases qaY h with ⟨h2, h⟩ | ⟨h2, h⟩
  ·rcases qaY h with ⟨h3, h⟩ | ⟨h3, h⟩
   ·exact wkG [.go, rgG [oo, oo, oo, .sb 69 false, oo, oo, oo, oo, oo, oo, oo, oo, oo], bTr, rg3, rg4, rg2, bTr, .pre [.keep [2,8,9,10,11,13,14,15] []]] hn (aC h1 <| aC h2 <| aC h3 <| aN) (ih _ _ h cx hn)
   ·exact wkG [.go, rgG [oo, oo, oo, .sb 69 false, oo, oo, oo, oo, oo, oo, oo, oo, oo], bTr, rg3, rg4, rg2, bFa, .pre [.keep [2,8,9,10,11,13,14,15,16] []]] hn (aC h1 <| aC h2 <| aC h3 <| aN) (ih _ _ h cx hn)
  ·exact wkG [.go, rgG [oo, oo, oo, .sb 69 false, oo, oo, oo, oo, oo, oo, oo, oo, oo], bFa, .pre [.keep [2,8,9,10,11,13,14,15] []]] hn (aC h1 <| aC h2 <| aN) (ih _ _ h cx hn)
theorem zaA {K} (ih : qkA K) {cx} (hn : cx.n = 135) {y s yn1 yn0 un32 un1 un0 q1} {r} (h : qbT (K + 1) (.c2 y s yn1 yn0 un32 un1 un0 q1) = some r) : qj9 cx (.c2 y s yn1 yn0 un32 un1 un0 q1) r := by
 rw [qbT] at h
 obtain ⟨h1, h⟩ := qb3 h
 exact wkG [rgG [oo, oo, oo, oo, oo, oo, oo, oo, oo], rgG [oo, oo, .op .dv, oo], rg6, .pre [.keep [2,8,9,10,14,15,16,17,18] []]] hn (aC h1 <| aN) (ih _ _ h cx hn)
theorem q99 {K} (ih : qkA K) {cx} (hn : cx.n = 135) {y s yn1 yn0 un0 q1 rhat un21 q0} {r} (h : qbT (K + 1) (.c3 y s yn1 yn0 un0 q1 rhat un21 q0) = some r) : qj9 cx (.c3 y s yn1 yn0 un0 q1 rhat un21 q0) r := by
 rw [qbT] at h
 rcases qaY h with ⟨h1, h⟩ | ⟨h1, h⟩
 ·rcases qaY h with ⟨h2, h⟩ | ⟨h2, h⟩
  ·exact wkG [.go, rgG [oo, oo, oo, .sb 104 true, oo, oo, oo, oo, oo, oo, oo, oo, oo], bTr, rg3, rg4, rg2, bTr, .pre [.keep [2,8,14,15,17,18] []]] hn (aC h1 <| aC rt <| aC h2 <| aN) (ih _ _ h cx hn)
  ·exact wkG [.go, rgG [oo, oo, oo, .sb 104 true, oo, oo, oo, oo, oo, oo, oo, oo, oo], bTr, rg3, rg4, rg2, bFa, .pre [.keep [2,8,9,10,14,15,16,17,18] []]] hn (aC h1 <| aC rt <| aC h2 <| aN) (ih _ _ h cx hn)
 ·rcases qaY h with ⟨h2, h⟩ | ⟨h2, h⟩
  ·rcases qaY h with ⟨h3, h⟩ | ⟨h3, h⟩
   ·exact wkG [.go, rgG [oo, oo, oo, .sb 104 false, oo, oo, oo, oo, oo, oo, oo, oo, oo], bTr, rg3, rg4, rg2, bTr, .pre [.keep [2,8,14,15,17,18] []]] hn (aC h1 <| aC h2 <| aC h3 <| aN) (ih _ _ h cx hn)
   ·exact wkG [.go, rgG [oo, oo, oo, .sb 104 false, oo, oo, oo, oo, oo, oo, oo, oo, oo], bTr, rg3, rg4, rg2, bFa, .pre [.keep [2,8,9,10,14,15,16,17,18] []]] hn (aC h1 <| aC h2 <| aC h3 <| aN) (ih _ _ h cx hn)
  ·exact wkG [.go, rgG [oo, oo, oo, .sb 104 false, oo, oo, oo, oo, oo, oo, oo, oo, oo], bFa, .pre [.keep [2,8,14,15,17,18] []]] hn (aC h1 <| aC h2 <| aN) (ih _ _ h cx hn)
theorem q98 {K} (_ : qkA K) {cx} (hn : cx.n = 135) {y s un0 q1 un21 q0} {r} (h : qbT (K + 1) (.c4 y s un0 q1 un21 q0) = some r) : qj9 cx (.c4 y s un0 q1 un21 q0) r := by
 rw [qbT] at h
 obtain ⟨h1, h⟩ := qb3 h
 have h := oinj h; subst h
 exact wkR [rgG [oo, oo, oo, oo, oo, oo, oo, oo, oo, oo, oo, oo, oo, .op .dv, oo, oo]] hn (aC h1 <| aN)
theorem qiB : ∀ K : Nat, qkA K
 | 0, c, r, h => by rw [qbT] at h; cases h
 | K + 1, .c0 .., r, h => fun cx hn => zaC (qiB K) hn h
 | K + 1, .c1 .., r, h => fun cx hn => zaB (qiB K) hn h
 | K + 1, .c2 .., r, h => fun cx hn => zaA (qiB K) hn h
 | K + 1, .c3 .., r, h => fun cx hn => q99 (qiB K) hn h
 | K + 1, .c4 .., r, h => fun cx hn => q98 (qiB K) hn h
theorem quN {K : Nat} {hi : Int} {lo : Int} {y : Int} {r : (Int × Int)} (h : qo6 K hi lo y = some r) : qc0 prog 188 [(ti .u64 hi), (ti .u64 lo), (ti .u64 y)] (TV.tup [(false, [(T.int .u64 r.1)]), (false, [(T.int .u64 r.2)])]) :=
 qbG [[0], [0]] (by kernel_rfl) (by simp) fun cx hn => qiB K (.c0 hi lo y) r h cx hn
open Go.Proofs.Try (prog)
inductive qnB where
 | c0 (x : Int)
def qfI : Nat → qnB → Option Int
 | 0, _ => none
 | _ + 1, .c0 x =>
  bif (decide ((65536 : Int) ≤ x)) then
   bif (decide ((256 : Int) ≤ (qdC .u32 x (16 : Int)))) then
    (gi qcS (wU1 (qdC .u32 (qdC .u32 x (16 : Int)) (8 : Int)))).bind fun x3 =>
    some (wI6 ((wI6 ((16 : Int) + (8 : Int))) + (wI6 x3)))
   else
    (gi qcS (wU1 (qdC .u32 x (16 : Int)))).bind fun x3 =>
    some (wI6 ((16 : Int) + (wI6 x3)))
  else
   bif (decide ((256 : Int) ≤ x)) then
    (gi qcS (wU1 (qdC .u32 x (8 : Int)))).bind fun x3 =>
    some (wI6 ((wI6 ((0 : Int) + (8 : Int))) + (wI6 x3)))
   else
    (gi qcS (wU1 x)).bind fun x3 =>
    some (wI6 ((0 : Int) + (wI6 x3)))
def qkN (K : Nat) (x : Int) : Option Int := qfI K (.c0 x)
noncomputable def q5K : Code := qcK prog 194
noncomputable def q73 : qnB → List Fr
 | .c0 .. => [.code q5K]
def q93 : qnB → St
 | .c0 x => St.init [(ti .u32 x)]
def qzH (cx : Cx) (c : qnB) (r : Int) : Prop := Wk prog cx (qd0 prog 194 [[0]] (ti .i64 r)) (q73 c) .normal (q93 c)
abbrev qzI (K : Nat) : Prop := ∀ c r, qfI K c = some r → ∀ cx : Cx, cx.n = 19 → qzH cx c r
theorem q95 {K} (_ : qzI K) {cx} (hn : cx.n = 19) {x} {r} (h : qfI (K + 1) (.c0 x) = some r) : qzH cx (.c0 x) r := by
 rw [qfI] at h
 rcases qaY h with ⟨h1, h⟩ | ⟨h1, h⟩
 ·rcases qaY h with ⟨h2, h⟩ | ⟨h2, h⟩
  ·obtain ⟨x3, h4, h⟩ := qaV h
   have h := oinj h; subst h
   exact wkR [rg1, rg2, bTr, rg3, rg1, rg2, bTr, rg3, rg3, rgG [oo, oo, oo, opI (.sx x3), oo, oo, oo]] hn (aC h1 <| aC h2 <| aC (qb2 h4) <| aC (qvD h4 : qcS[(wU1 (qdC .u32 (qdC .u32 x (16 : Int)) (8 : Int))).toNat]? = some x3) <| aN)
  ·obtain ⟨x3, h4, h⟩ := qaV h
   have h := oinj h; subst h
   exact wkR [rg1, rg2, bTr, rg3, rg1, rg2, bFa, rgG [oo, oo, oo, opI (.sx x3), oo, oo, oo]] hn (aC h1 <| aC h2 <| aC (qb2 h4) <| aC (qvD h4 : qcS[(wU1 (qdC .u32 x (16 : Int))).toNat]? = some x3) <| aN)
 ·rcases qaY h with ⟨h2, h⟩ | ⟨h2, h⟩
  ·obtain ⟨x3, h4, h⟩ := qaV h
   have h := oinj h; subst h
   exact wkR [rg1, rg2, bFa, rg2, bTr, rg3, rg3, rgG [oo, oo, oo, opI (.sx x3), oo, oo, oo]] hn (aC h1 <| aC h2 <| aC (qb2 h4) <| aC (qvD h4 : qcS[(wU1 (qdC .u32 x (8 : Int))).toNat]? = some x3) <| aN)
  ·obtain ⟨x3, h4, h⟩ := qaV h
   have h := oinj h; subst h
   exact wkR [rg1, rg2, bFa, rg2, bFa, rgG [oo, oo, oo, opI (.sx x3), oo, oo, oo]] hn (aC h1 <| aC h2 <| aC (qb2 h4) <| aC (qvD h4 : qcS[(wU1 x).toNat]? = some x3) <| aN)
theorem qwS : ∀ K : Nat, qzI K
 | 0, c, r, h => by rw [qfI] at h; cases h
 | K + 1, .c0 .., r, h => fun cx hn => q95 (qwS K) hn h
theorem q3X {K : Nat} {x : Int} {r : Int} (h : qkN K x = some r) : qc0 prog 194 [(ti .u32 x)] (ti .i64 r) :=
 qbG [[0]] (by kernel_rfl) (by simp) fun cx hn => qwS K (.c0 x) r h cx hn
open Go.Proofs.Try (prog)
inductive qgV where
 | c0 (x : Int)
def qe5 : Nat → qgV → Option Int
 | 0, _ => none
 | K + 1, .c0 x =>
  (qkN K x).bind fun x1 =>
  some (wI6 ((32 : Int) - x1))
def qjA (K : Nat) (x : Int) : Option Int := qe5 K (.c0 x)
noncomputable def qvB : Code := qcK prog 187
noncomputable def qvY : qgV → List Fr
 | .c0 .. => [.code qvB]
def qwV : qgV → St
 | .c0 x => St.init [(ti .u32 x)]
def qp4 (cx : Cx) (c : qgV) (r : Int) : Prop := Wk prog cx (qd0 prog 187 [[0]] (ti .i64 r)) (qvY c) .normal (qwV c)
abbrev qp5 (K : Nat) : Prop := ∀ c r, qe5 K c = some r → ∀ cx : Cx, cx.n = 6 → qp4 cx c r
theorem qwX {K} (_ : qp5 K) {cx} (hn : cx.n = 6) {x} {r} (h : qe5 (K + 1) (.c0 x) = some r) : qp4 cx (.c0 x) r := by
 rw [qe5] at h
 obtain ⟨x1, h2, h⟩ := qaV h
 have h := oinj h; subst h
 exact wkR [rg1, rgG [oo, opI (.call [[0]] [(ti .u32 x)] (ti .i64 x1)), oo, oo]] hn (aC (q3X h2) <| aN)
theorem qoL : ∀ K : Nat, qp5 K
 | 0, c, r, h => by rw [qe5] at h; cases h
 | K + 1, .c0 .., r, h => fun cx hn => qwX (qoL K) hn h
theorem qmW {K : Nat} {x : Int} {r : Int} (h : qjA K x = some r) : qc0 prog 187 [(ti .u32 x)] (ti .i64 r) :=
 qbG [[0]] (by kernel_rfl) (by simp) fun cx hn => qoL K (.c0 x) r h cx hn
open Go.Proofs.Try (prog)
inductive qnD where
 | c0 (hi : Int) (lo : Int) (y : Int)
def qjB : Nat → qnD → Option (Int × Int)
 | 0, _ => none
 | _ + 1, .c0 hi lo y =>
  bif (!decide (y = (0 : Int))) then
   bif (decide (y ≤ hi)) then
    none
   else
    gd ((wU6 y) ≠ 0) <|
    gd ((wU6 y) ≠ 0) <|
    some ((wU3 (wU6 (Int.tdiv (bits .or .u64 (qiN .u64 (wU6 hi) (32 : Int)) (wU6 lo)) (wU6 y)))), (wU3 (Int.tmod (bits .or .u64 (qiN .u64 (wU6 hi) (32 : Int)) (wU6 lo)) (wU6 y))))
  else
   gd ((wU6 y) ≠ 0) <|
   gd ((wU6 y) ≠ 0) <|
   some ((wU3 (wU6 (Int.tdiv (bits .or .u64 (qiN .u64 (wU6 hi) (32 : Int)) (wU6 lo)) (wU6 y)))), (wU3 (Int.tmod (bits .or .u64 (qiN .u64 (wU6 hi) (32 : Int)) (wU6 lo)) (wU6 y))))
def qs4 (K : Nat) (hi : Int) (lo : Int) (y : Int) : Option (Int × Int) := qjB K (.c0 hi lo y)
noncomputable def q5L : Code := qcK prog 166
noncomputable def q75 : qnD → List Fr
 | .c0 .. => [.code q5L]
def zaD : qnD → St
 | .c0 hi lo y => St.init [(ti .u32 hi), (ti .u32 lo), (ti .u32 y)]
def qzJ (cx : Cx) (c : qnD) (r : (Int × Int)) : Prop := Wk prog cx (qd0 prog 166 [[0], [0]] (TV.tup [(false, [(T.int .u32 r.1)]), (false, [(T.int .u32 r.2)])])) (q75 c) .normal (zaD c)
abbrev qzK (K : Nat) : Prop := ∀ c r, qjB K c = some r → ∀ cx : Cx, cx.n = 33 → qzJ cx c r
theorem zaF {K} (_ : qzK K) {cx} (hn : cx.n = 33) {hi lo y} {r} (h : qjB (K + 1) (.c0 hi lo y) = some r) : qzJ cx (.c0 hi lo y) r := by
 rw [qjB] at h
 rcases qaY h with ⟨h1, h⟩ | ⟨h1, h⟩
 ·rcases qaY h with ⟨h2, h⟩ | ⟨h2, h⟩
  ·cases h
  ·obtain ⟨h3, h⟩ := qb3 h
   obtain ⟨h4, h⟩ := qb3 h
   have h := oinj h; subst h
   exact wkR [rg2, rgG [oo, oo, oo, .sb 11 true, oo, oo, oo, oo], bFa, rgG [oo, oo, oo, oo, oo, oo, oo], .draw [.p, .p, .p, .dv, .p, .p, .p, .p, .dv, .p, .p] [.op .p]] hn (aC h1 <| aC h2 <| aC h3 <| aC h4 <| aN)
 ·obtain ⟨h2, h⟩ := qb3 h
  obtain ⟨h3, h⟩ := qb3 h
  have h := oinj h; subst h
  exact wkR [rg2, rgG [oo, oo, oo, .sb 11 false, oo, oo, oo, oo], bFa, rgG [oo, oo, oo, oo, oo, oo, oo], .draw [.p, .p, .p, .dv, .p, .p, .p, .p, .dv, .p, .p] [.op .p]] hn (aC h1 <| aC rf <| aC h2 <| aC h3 <| aN)
theorem qwY : ∀ K : Nat, qzK K
 | 0, c, r, h => by rw [qjB] at h; cases h
 | K + 1, .c0 .., r, h => fun cx hn => zaF (qwY K) hn h
theorem q3Y {K : Nat} {hi : Int} {lo : Int} {y : Int} {r : (Int × Int)} (h : qs4 K hi lo y = some r) : qc0 prog 166 [(ti .u32 hi), (ti .u32 lo), (ti .u32 y)] (TV.tup [(false, [(T.int .u32 r.1)]), (false, [(T.int .u32 r.2)])]) :=
 qbG [[0], [0]] (by kernel_rfl) (by simp) fun cx hn => qwY K (.c0 hi lo y) r h cx hn
open Go.Proofs.Try (prog)
inductive qlZ where
 | c0 (a : (List Int)) (d : Int)
 | c1 (r16 : (List Int)) (a : (List Int)) (d : Int) (rest : Int) (i : Int)
def qdZ : Nat → qlZ → Option ((List Int) × Int × Bool)
 | 0, _ => none
 | K + 1, .c0 a d =>
  bif (decide (d = (0 : Int))) then
   some ([], (0 : Int), false)
  else
   (qc4 K a).bind fun x2 =>
   gd (0 ≤ (x2.length : Int) ∧ (x2.length : Int) ≤ (x2.length : Int) ∧ (4 : Int) * (x2.length : Int) ≤ 140737488355328) <|
   qdZ K (.c1 (List.replicate (x2.length : Int).toNat ((0 : Int) : Int)) x2 d (0 : Int) (wI6 ((x2.length : Int) - (1 : Int))))
 | K + 1, .c1 r16 a d rest i =>
  bif (decide ((0 : Int) ≤ i)) then
   (gi a i).bind fun x2 =>
   (qs4 K rest x2 d).bind fun x4 =>
   (gi r16 i).bind fun _ =>
   qdZ K (.c1 (r16.set (i.toNat) x4.1) a d x4.2 (wI6 (i - (1 : Int))))
  else
   (qc4 K r16).bind fun x2 =>
   some (x2, rest, true)
def qq5 (K : Nat) (a : (List Int)) (d : Int) : Option ((List Int) × Int × Bool) := qdZ K (.c0 a d)
noncomputable def qo3 : Code := qcK prog 123
noncomputable def q5G : qlZ → List Fr
 | .c0 .. => [.code qo3]
 | .c1 .. => [.code (.loop (atC qo3 [1,1,1,1,1,0,1,0,0])), .blk 0, .code (atC qo3 [1,1,1,1,1,1])]
def q7W : qlZ → St
 | .c0 a d => St.init [(tl 1 a qaE), (ti .u32 d)]
 | .c1 r16 a d rest i => ⟨[(0, vl 1 a qaE), (1, vi .u32 d), (7, .c (C.row 16 0 r16.length)), (8, vi .u32 rest), (9, vi .i64 i)], [(16, .row 101 1 (r16.map qaE) 0)], []⟩
def qsY (cx : Cx) (c : qlZ) (r : ((List Int) × Int × Bool)) : Prop := Wk prog cx (qd0 prog 123 [[1], [0], [0]] (TV.tup [(false, [(T.sl 1 (r.1.map qaE))]), (false, [(T.int .u32 r.2.1)]), (false, [(T.bool r.2.2)])])) (q5G c) .normal (q7W c)
abbrev qsZ (K : Nat) : Prop := ∀ c r, qdZ K c = some r → ∀ cx : Cx, cx.n = 40 → qsY cx c r
theorem q7Z {K} (ih : qsZ K) {cx} (hn : cx.n = 40) {a d} {r} (h : qdZ (K + 1) (.c0 a d) = some r) : qsY cx (.c0 a d) r := by
 rw [qdZ] at h
 rcases qaY h with ⟨h1, h⟩ | ⟨h1, h⟩
 ·have h := oinj h; subst h
  exact wkR [rg3, rg2, bTr, rg3] hn (aC h1 <| aN)
 ·obtain ⟨x2, h3, h⟩ := qaV h
  obtain ⟨h4, h⟩ := qb3 h
  exact wkG [rg3, rg2, bFa, rgG [oo, opI (.call [[1]] [(tl 1 a qaE)] (tl 1 x2 qaE)), oo], rgG [oo, opI (.ln (x2.length : Int)), opI (.mk (qaE (0 : Int)) ((List.replicate (x2.length : Int).toNat ((0 : Int) : Int)).map qaE)), oo], rg1, rgG [oo, opI (.ln (x2.length : Int)), oo, oo], .pre [.rl 7 0 (List.replicate (x2.length : Int).toNat ((0 : Int) : Int)).length, .keep [0,1,7,8,9] [16]]] hn (aC h1 <| aC (qa4 h3) <| aC (qdF x2 qaE) <| aC h4.1 <| aC h4.2.1 <| aC h4.2.2 <| aC (qu3 _ _ _ : List.replicate (x2.length : Int).toNat (qaE (0 : Int)) = (List.replicate (x2.length : Int).toNat ((0 : Int) : Int)).map qaE) <| aC (qdF x2 qaE) <| aC r0 <| aC (by simp : (x2.length : Int).toNat = (List.replicate (x2.length : Int).toNat ((0 : Int) : Int)).length) <| aN) (ih _ _ h cx hn)
theorem q7Y {K} (ih : qsZ K) {cx} (hn : cx.n = 40) {r16 a d rest i} {r} (h : qdZ (K + 1) (.c1 r16 a d rest i) = some r) : qsY cx (.c1 r16 a d rest i) r := by
 rw [qdZ] at h
 rcases qaY h with ⟨h1, h⟩ | ⟨h1, h⟩
 ·obtain ⟨x2, h3, h⟩ := qaV h
  obtain ⟨x4, h5, h⟩ := qaV h
  obtain ⟨x6, h7, h⟩ := qaV h
  exact wkG [.go, rg2, bTr, rgG [oo, oo, oo, oo, oo, opI (.ix (qaE x2)), oo, oo, opI (.call [[0], [0], [0]] [(ti .u32 rest), (ti .u32 x2), (ti .u32 d)] (TV.tup [(false, [(T.int .u32 x4.1)]), (false, [(T.int .u32 x4.2)])])), oo, oo, oo, .op .ir, opI (.st (qaE x6) ((r16.set (i.toNat) x4.1).map qaE)), oo], rg3, .pre [.rl 7 0 (r16.set (i.toNat) x4.1).length, .keep [0,1,7,8,9] [16]]] hn (aC h1 <| aC (qb2 h3) <| aC (qfK qaE h3) <| aC (q3Y h5) <| aC (qb2 h7) <| aC (qcW h7 (by simp) : i < ((r16.length : Nat) : Int)) <| aC (qcX qaE h7 : (r16.map qaE)[(0 + i.toNat)]? = some (qaE x6)) <| aC (qe3 _ _ x4.1 _ : (r16.map qaE).set (0 + i.toNat) (qdE (qaE x6) 0 [(T.int .u32 x4.1)]) = (r16.set (i.toNat) x4.1).map qaE) <| aC (Nat.zero_le _ : 0 ≤ (0 + i.toNat)) <| aC r0 <| aC (by simp : r16.length = (r16.set (i.toNat) x4.1).length) <| aN) (ih _ _ h cx hn)
 ·obtain ⟨x2, h3, h⟩ := qaV h
  have h := oinj h; subst h
  exact wkR [.go, rg2, bFa, rgG [oo, .snap 37 (max 0 (0 + r16.length)) (r16.map qaE), opI (.call [[1]] [(tl 1 r16 qaE)] (tl 1 x2 qaE)), oo, oo, oo, oo]] hn (aC h1 <| aC (qfA _ _ _ (by simp) : ((r16.map qaE).drop 0).take r16.length = r16.map qaE) <| aC (rfl : (max 0 (0 + r16.length)) = (max 0 (0 + r16.length))) <| aC (qa4 h3) <| aN)
theorem qqC : ∀ K : Nat, qsZ K
 | 0, c, r, h => by rw [qdZ] at h; cases h
 | K + 1, .c0 .., r, h => fun cx hn => q7Z (qqC K) hn h
 | K + 1, .c1 .., r, h => fun cx hn => q7Y (qqC K) hn h
theorem q2C {K : Nat} {a : (List Int)} {d : Int} {r : ((List Int) × Int × Bool)} (h : qq5 K a d = some r) : qc0 prog 123 [(tl 1 a qaE), (ti .u32 d)] (TV.tup [(false, [(T.sl 1 (r.1.map qaE))]), (false, [(T.int .u32 r.2.1)]), (false, [(T.bool r.2.2)])]) :=
 qbG [[1], [0], [0]] (by kernel_rfl) (by simp) fun cx hn => qqC K (.c0 a d) r h cx hn
open Go.Proofs.Try (prog)
inductive qhA where
 | c0 (row : (List Int))
 | c1 (r28 : (List Int)) (n : Int)
 | c2 (r28 : (List Int)) (n : Int)
def qbY : Nat → qhA → Option (Option Nat)
 | 0, _ => none
 | K + 1, .c0 row =>
  qbY K (.c1 row ((row.length : Nat) : Int))
 | K + 1, .c1 r28 n =>
  bif (decide ((0 : Int) < n)) then
   (gi r28 (wI6 (n - (1 : Int)))).bind fun x2 =>
   bif (decide (x2 = (0 : Int))) then
    qbY K (.c1 r28 (wI6 (n - (1 : Int))))
   else
    qbY K (.c2 r28 n)
  else
   qbY K (.c2 r28 n)
 | _ + 1, .c2 r28 n =>
  bif (decide (n = (0 : Int))) then
   some none
  else
   gd (0 ≤ n ∧ 0 ≤ n.toNat ∧ n.toNat ≤ r28.length ∧ (0 = 0 ∨ 0 < r28.length)) <|
   some (some (n.toNat - 0))
def qkM (K : Nat) (row : (List Int)) : Option (Option Nat) := qbY K (.c0 row)
noncomputable def qfM : Code := qmX prog 144
noncomputable def q0E : qhA → List Fr
 | .c0 .. => [.code qfM]
 | .c1 .. => [.code (.loop (atC qfM [1,1,0,0,0])), .blk 0, .code (atC qfM [1,1,1])]
 | .c2 .. => [.code (atC qfM [1,1,1,0,0]), .code (atC qfM [1,1,1,0,1]), .code (atC qfM [1,1,1,1])]
def q18 (H : List (Nat × Blk)) (exs : List V) : qhA → St
 | .c0 row => ⟨idxV 0 [.c (C.row 28 0 row.length)], [(28, .row 101 1 (row.map qaE) 0)] ++ H, exs⟩
 | .c1 r28 n => ⟨[(0, .c (C.row 28 0 r28.length)), (3, vi .i64 n)], [(28, .row 101 1 (r28.map qaE) 0)] ++ H, exs⟩
 | .c2 r28 n => ⟨[(0, .c (C.row 28 0 r28.length)), (3, vi .i64 n)], [(28, .row 101 1 (r28.map qaE) 0)] ++ H, exs⟩
def q0D : qhA → List Int
 | .c0 row => row
 | .c1 r28 _ => r28
 | .c2 r28 _ => r28
def qlI (cx : Cx) (H : List (Nat × Blk)) (exs : List V) (c : qhA) (r : (Option Nat)) : Prop := Wk prog cx (zl4 prog 144 ([(28, .row 101 1 ((q0D c).map qaE) 0)] ++ H) exs (zxD 28 r)) (q0E c) .normal (q18 H exs c)
abbrev qlJ (K : Nat) : Prop := ∀ c r, qbY K c = some r → ∀ cx : Cx, cx.n = 23 → ∀ H exs, qlI cx H exs c r
theorem q2B {K} (ih : qlJ K) {cx} (hn : cx.n = 23) (H : List (Nat × Blk)) (exs : List V) {row} {r} (h : qbY (K + 1) (.c0 row) = some r) : qlI cx H exs (.c0 row) r := by
 rw [qbY] at h
 exact wkG [rg1, rg3, .pre [.rl 0 0 row.length, .keepT [0,3]]] hn (aC r0 <| aC (lq row) <| aN) (ih _ _ h cx hn H exs)
theorem q2A {K} (ih : qlJ K) {cx} (hn : cx.n = 23) (H : List (Nat × Blk)) (exs : List V) {r28 n} {r} (h : qbY (K + 1) (.c1 r28 n) = some r) : qlI cx H exs (.c1 r28 n) r := by
 rw [qbY] at h
 rcases qaY h with ⟨h1, h⟩ | ⟨h1, h⟩
 ·obtain ⟨x2, h3, h⟩ := qaV h
  rcases qaY h with ⟨h4, h⟩ | ⟨h4, h⟩
  ·exact wkG [.go, rgG [oo, oo, oo, .sb 8 true, oo, oo, oo, .op .ir, opI (.ld (qaE x2)), oo, oo], bTr, rg3, .pre [.rl 0 0 r28.length, .keepT [0,3]]] hn (aC h1 <| aC (qb2 h3) <| aC (qcW h3 (by simp) : (wI6 (n - (1 : Int))) < ((r28.length : Nat) : Int)) <| aC (qcX qaE h3 : (r28.map qaE)[(0 + (wI6 (n - (1 : Int))).toNat)]? = some (qaE x2)) <| aC h4 <| aC r0 <| aC (lq r28) <| aN) (ih _ _ h cx hn H exs)
  ·exact wkG [.go, rgG [oo, oo, oo, .sb 8 true, oo, oo, oo, .op .ir, opI (.ld (qaE x2)), oo, oo], bFa, .pre [.rl 0 0 r28.length, .keepT [0,3]]] hn (aC h1 <| aC (qb2 h3) <| aC (qcW h3 (by simp) : (wI6 (n - (1 : Int))) < ((r28.length : Nat) : Int)) <| aC (qcX qaE h3 : (r28.map qaE)[(0 + (wI6 (n - (1 : Int))).toNat)]? = some (qaE x2)) <| aC h4 <| aC r0 <| aC (lq r28) <| aN) (ih _ _ h cx hn H exs)
 ·exact wkG [.go, rgG [oo, oo, oo, .sb 8 false, oo, oo, oo, oo, oo, oo, oo], bFa, .pre [.rl 0 0 r28.length, .keepT [0,3]]] hn (aC h1 <| aC rf <| aC r0 <| aC (lq r28) <| aN) (ih _ _ h cx hn H exs)
theorem q19 {K} (_ : qlJ K) {cx} (hn : cx.n = 23) (H : List (Nat × Blk)) (exs : List V) {r28 n} {r} (h : qbY (K + 1) (.c2 r28 n) = some r) : qlI cx H exs (.c2 r28 n) r := by
 rw [qbY] at h
 rcases qaY h with ⟨h1, h⟩ | ⟨h1, h⟩
 ·have h := oinj h; subst h
  exact qfG (fuel := 60) [rg2, bTr, rg1]
   _
   ((28, .row 101 1 (r28.map qaE) 0) :: H) hn (by kernel_rfl) (aC h1 <| aN) (fun _ => rfl)
 ·obtain ⟨h2, h⟩ := qb3 h
  have h := oinj h; subst h
  exact qfG (fuel := 60) [rg2, bFa, rgG [oo, oo, opI (.slR 0 n.toNat 0 (n.toNat - 0)), oo]]
   _
   ((28, .row 101 1 (r28.map qaE) 0) :: H) hn (by kernel_rfl) (aC h1 <| aC r0 <| aC (⟨h2.1, rfl⟩ : 0 ≤ n ∧ n.toNat = n.toNat) <| aC h2.2.1 <| aC h2.2.2.1 <| aC h2.2.2.2 <| aC (rfl : 0 + 0 = 0) <| aC (rfl : n.toNat - 0 = (n.toNat - 0)) <| aN) (fun _ => rfl)
theorem qjP : ∀ K : Nat, qlJ K
 | 0, c, r, h => by rw [qbY] at h; cases h
 | K + 1, .c0 .., r, h => fun cx hn H exs => q2B (qjP K) hn H exs h
 | K + 1, .c1 .., r, h => fun cx hn H exs => q2A (qjP K) hn H exs h
 | K + 1, .c2 .., r, h => fun cx hn H exs => q19 (qjP K) hn H exs h
theorem qhY {K : Nat} {row : List Int} {r : Option Nat} (h : qkM K row = some r) : qkQ prog 144 [.c (C.row 28 0 row.length)] [(28, .row 101 1 (row.map qaE) 0)] [(28, .row 101 1 (row.map qaE) 0)] (zxD 28 r) :=
 qtC (n := 23) (by kernel_rfl) (by simp) fun cx hn H exs => qjP K (.c0 row) r h cx hn H exs
open Go.Proofs.Try (prog)
inductive qoH where
 | c0 (a : (List Int)) (n : Int)
 | c1 (r28 : (List Int)) (shift : Int) (low : Int) (i : Int)
def qeI : Nat → qoH → Option (Option (List Int))
 | 0, _ => none
 | K + 1, .c0 a n =>
  (qc4 K a).bind fun x1 =>
  bif (decide ((x1.length : Int) = (0 : Int))) then
   some none
  else
   gd (0 ≤ (wI6 ((wI6 ((wI6 (Int.tdiv (min (max n (0 : Int)) (16777216 : Int)) (32 : Int))) + (x1.length : Int))) + (1 : Int))) ∧ (wI6 ((wI6 ((wI6 (Int.tdiv (min (max n (0 : Int)) (16777216 : Int)) (32 : Int))) + (x1.length : Int))) + (1 : Int))) ≤ (wI6 ((wI6 ((wI6 (Int.tdiv (min (max n (0 : Int)) (16777216 : Int)) (32 : Int))) + (x1.length : Int))) + (1 : Int))) ∧ (4 : Int) * (wI6 ((wI6 ((wI6 (Int.tdiv (min (max n (0 : Int)) (16777216 : Int)) (32 : Int))) + (x1.length : Int))) + (1 : Int))) ≤ 140737488355328) <|
   gd (0 ≤ (wI6 (Int.tdiv (min (max n (0 : Int)) (16777216 : Int)) (32 : Int))) ∧ (wI6 (Int.tdiv (min (max n (0 : Int)) (16777216 : Int)) (32 : Int))).toNat ≤ (wI6 ((wI6 ((wI6 (Int.tdiv (min (max n (0 : Int)) (16777216 : Int)) (32 : Int))) + (x1.length : Int))) + (1 : Int))).toNat ∧ (wI6 ((wI6 ((wI6 (Int.tdiv (min (max n (0 : Int)) (16777216 : Int)) (32 : Int))) + (x1.length : Int))) + (1 : Int))).toNat ≤ (wI6 ((wI6 ((wI6 (Int.tdiv (min (max n (0 : Int)) (16777216 : Int)) (32 : Int))) + (x1.length : Int))) + (1 : Int))).toNat ∧ ((wI6 (Int.tdiv (min (max n (0 : Int)) (16777216 : Int)) (32 : Int))).toNat = 0 ∨ (wI6 (Int.tdiv (min (max n (0 : Int)) (16777216 : Int)) (32 : Int))).toNat < (wI6 ((wI6 ((wI6 (Int.tdiv (min (max n (0 : Int)) (16777216 : Int)) (32 : Int))) + (x1.length : Int))) + (1 : Int))).toNat)) <|
   gd ((0 + (wI6 (Int.tdiv (min (max n (0 : Int)) (16777216 : Int)) (32 : Int))).toNat) + ((wI6 ((wI6 ((wI6 (Int.tdiv (min (max n (0 : Int)) (16777216 : Int)) (32 : Int))) + (x1.length : Int))) + (1 : Int))).toNat - (wI6 (Int.tdiv (min (max n (0 : Int)) (16777216 : Int)) (32 : Int))).toNat) ≤ (List.replicate (wI6 ((wI6 ((wI6 (Int.tdiv (min (max n (0 : Int)) (16777216 : Int)) (32 : Int))) + (x1.length : Int))) + (1 : Int))).toNat ((0 : Int) : Int)).length) <|
   bif (decide ((0 : Int) < (Int.tmod (min (max n (0 : Int)) (16777216 : Int)) (32 : Int)))) then
    qeI K (.c1 (qg2 (List.replicate (wI6 ((wI6 ((wI6 (Int.tdiv (min (max n (0 : Int)) (16777216 : Int)) (32 : Int))) + (x1.length : Int))) + (1 : Int))).toNat ((0 : Int) : Int)) (0 + (wI6 (Int.tdiv (min (max n (0 : Int)) (16777216 : Int)) (32 : Int))).toNat) ((wI6 ((wI6 ((wI6 (Int.tdiv (min (max n (0 : Int)) (16777216 : Int)) (32 : Int))) + (x1.length : Int))) + (1 : Int))).toNat - (wI6 (Int.tdiv (min (max n (0 : Int)) (16777216 : Int)) (32 : Int))).toNat) x1) (Int.tmod (min (max n (0 : Int)) (16777216 : Int)) (32 : Int)) (0 : Int) (wI6 (Int.tdiv (min (max n (0 : Int)) (16777216 : Int)) (32 : Int))))
   else
    (qkM K (qg2 (List.replicate (wI6 ((wI6 ((wI6 (Int.tdiv (min (max n (0 : Int)) (16777216 : Int)) (32 : Int))) + (x1.length : Int))) + (1 : Int))).toNat ((0 : Int) : Int)) (0 + (wI6 (Int.tdiv (min (max n (0 : Int)) (16777216 : Int)) (32 : Int))).toNat) ((wI6 ((wI6 ((wI6 (Int.tdiv (min (max n (0 : Int)) (16777216 : Int)) (32 : Int))) + (x1.length : Int))) + (1 : Int))).toNat - (wI6 (Int.tdiv (min (max n (0 : Int)) (16777216 : Int)) (32 : Int))).toNat) x1)).bind fun x9 => match x9 with
    | none =>
     some none
    | some n10 =>
     gd (n10 ≤ (qg2 (List.replicate (wI6 ((wI6 ((wI6 (Int.tdiv (min (max n (0 : Int)) (16777216 : Int)) (32 : Int))) + (x1.length : Int))) + (1 : Int))).toNat ((0 : Int) : Int)) (0 + (wI6 (Int.tdiv (min (max n (0 : Int)) (16777216 : Int)) (32 : Int))).toNat) ((wI6 ((wI6 ((wI6 (Int.tdiv (min (max n (0 : Int)) (16777216 : Int)) (32 : Int))) + (x1.length : Int))) + (1 : Int))).toNat - (wI6 (Int.tdiv (min (max n (0 : Int)) (16777216 : Int)) (32 : Int))).toNat) x1).length) <|
     some (some ((qg2 (List.replicate (wI6 ((wI6 ((wI6 (Int.tdiv (min (max n (0 : Int)) (16777216 : Int)) (32 : Int))) + (x1.length : Int))) + (1 : Int))).toNat ((0 : Int) : Int)) (0 + (wI6 (Int.tdiv (min (max n (0 : Int)) (16777216 : Int)) (32 : Int))).toNat) ((wI6 ((wI6 ((wI6 (Int.tdiv (min (max n (0 : Int)) (16777216 : Int)) (32 : Int))) + (x1.length : Int))) + (1 : Int))).toNat - (wI6 (Int.tdiv (min (max n (0 : Int)) (16777216 : Int)) (32 : Int))).toNat) x1).take n10))
 | K + 1, .c1 r28 shift low i =>
  bif (decide (i < ((r28.length : Nat) : Int))) then
   (gi r28 i).bind fun x2 =>
   gd (0 ≤ shift) <|
   (gi r28 i).bind fun _ =>
   gd (0 ≤ (wI6 ((32 : Int) - shift))) <|
   qeI K (.c1 (r28.set (i.toNat) (bits .or .u32 (qiN .u32 x2 shift) low)) shift (qdC .u32 x2 (wI6 ((32 : Int) - shift))) (wI6 (i + (1 : Int))))
  else
   (qkM K r28).bind fun x3 => match x3 with
   | none =>
    some none
   | some n4 =>
    gd (n4 ≤ r28.length) <|
    some (some (r28.take n4))
def qt9 (K : Nat) (a : (List Int)) (n : Int) : Option (Option (List Int)) := qeI K (.c0 a n)
noncomputable def qrN : Code := qmX prog 142
noncomputable def q9T : qoH → List Fr
 | .c0 .. => [.code qrN]
 | .c1 .. => [.code (.loop (atC qrN [1,1,1,1,1,1,1,0,1,0,1,1,0,0])), .blk 0, .code (atC qrN [1,1,1,1,1,1,1,1])]
def zcS : qoH → St
 | .c0 a n => St.init [(tl 1 a qaE), (ti .i64 n)]
 | .c1 r28 shift low i => ⟨[(6, vi .i64 shift), (7, .c (C.row 28 0 r28.length)), (8, vi .u32 low), (9, vi .i64 i)], [(28, .row 101 1 (r28.map qaE) 0)], []⟩
def qu7 (cx : Cx) (c : qoH) (r : (Option (List Int))) : Prop := Wk prog cx (zuS prog 142 101 1 (r.map fun l => l.map qaE)) (q9T c) .normal (zcS c)
abbrev qu8 (K : Nat) : Prop := ∀ c r, qeI K c = some r → ∀ cx : Cx, cx.n = 61 → qu7 cx c r
theorem zcU {K} (ih : qu8 K) {cx} (hn : cx.n = 61) {a n} {r} (h : qeI (K + 1) (.c0 a n) = some r) : qu7 cx (.c0 a n) r := by
 rw [qeI] at h
 obtain ⟨x1, h2, h⟩ := qaV h
 rcases qaY h with ⟨h3, h⟩ | ⟨h3, h⟩
 ·have h := oinj h; subst h
  exact zmZ (fuel := 80) [rg1, rgG [oo, opI (.call [[1]] [(tl 1 a qaE)] (tl 1 x1 qaE)), oo], rgG [oo, opI (.ln (x1.length : Int)), oo], bTr, rg1] _ hn (by kernel_rfl) (aC (qa4 h2) <| aC (qdF x1 qaE) <| aC h3 <| aN)
 ·obtain ⟨h4, h⟩ := qb3 h
  obtain ⟨h5, h⟩ := qb3 h
  obtain ⟨h6, h⟩ := qb3 h
  rcases qaY h with ⟨h7, h⟩ | ⟨h7, h⟩
  ·exact wkG [rg1, rgG [oo, opI (.call [[1]] [(tl 1 a qaE)] (tl 1 x1 qaE)), oo], rgG [oo, opI (.ln (x1.length : Int)), oo], bFa, rg4, rg6, rgG [oo, oo, opI (.ln (x1.length : Int)), oo, oo, opI (.mk (qaE (0 : Int)) ((List.replicate (wI6 ((wI6 ((wI6 (Int.tdiv (min (max n (0 : Int)) (16777216 : Int)) (32 : Int))) + (x1.length : Int))) + (1 : Int))).toNat ((0 : Int) : Int)).map qaE)), oo], rgG [oo, oo, opI (.slR ((wI6 (Int.tdiv (min (max n (0 : Int)) (16777216 : Int)) (32 : Int))).toNat) ((wI6 ((wI6 ((wI6 (Int.tdiv (min (max n (0 : Int)) (16777216 : Int)) (32 : Int))) + (x1.length : Int))) + (1 : Int))).toNat) (0 + (wI6 (Int.tdiv (min (max n (0 : Int)) (16777216 : Int)) (32 : Int))).toNat) ((wI6 ((wI6 ((wI6 (Int.tdiv (min (max n (0 : Int)) (16777216 : Int)) (32 : Int))) + (x1.length : Int))) + (1 : Int))).toNat - (wI6 (Int.tdiv (min (max n (0 : Int)) (16777216 : Int)) (32 : Int))).toNat)), oo, opI (.cp (x1.map qaE) ((qg2 (List.replicate (wI6 ((wI6 ((wI6 (Int.tdiv (min (max n (0 : Int)) (16777216 : Int)) (32 : Int))) + (x1.length : Int))) + (1 : Int))).toNat ((0 : Int) : Int)) (0 + (wI6 (Int.tdiv (min (max n (0 : Int)) (16777216 : Int)) (32 : Int))).toNat) ((wI6 ((wI6 ((wI6 (Int.tdiv (min (max n (0 : Int)) (16777216 : Int)) (32 : Int))) + (x1.length : Int))) + (1 : Int))).toNat - (wI6 (Int.tdiv (min (max n (0 : Int)) (16777216 : Int)) (32 : Int))).toNat) x1).map qaE) ((min x1.length ((wI6 ((wI6 ((wI6 (Int.tdiv (min (max n (0 : Int)) (16777216 : Int)) (32 : Int))) + (x1.length : Int))) + (1 : Int))).toNat - (wI6 (Int.tdiv (min (max n (0 : Int)) (16777216 : Int)) (32 : Int))).toNat) : Nat) : Int))], rg2, bTr, rg1, rg2, .pre [.rl 7 0 (qg2 (List.replicate (wI6 ((wI6 ((wI6 (Int.tdiv (min (max n (0 : Int)) (16777216 : Int)) (32 : Int))) + (x1.length : Int))) + (1 : Int))).toNat ((0 : Int) : Int)) (0 + (wI6 (Int.tdiv (min (max n (0 : Int)) (16777216 : Int)) (32 : Int))).toNat) ((wI6 ((wI6 ((wI6 (Int.tdiv (min (max n (0 : Int)) (16777216 : Int)) (32 : Int))) + (x1.length : Int))) + (1 : Int))).toNat - (wI6 (Int.tdiv (min (max n (0 : Int)) (16777216 : Int)) (32 : Int))).toNat) x1).length, .keep [6,7,8,9] [28]]] hn (aC (qa4 h2) <| aC (qdF x1 qaE) <| aC h3 <| aC (qdF x1 qaE) <| aC h4.1 <| aC h4.2.1 <| aC h4.2.2 <| aC (qu3 _ _ _ : List.replicate (wI6 ((wI6 ((wI6 (Int.tdiv (min (max n (0 : Int)) (16777216 : Int)) (32 : Int))) + (x1.length : Int))) + (1 : Int))).toNat (qaE (0 : Int)) = (List.replicate (wI6 ((wI6 ((wI6 (Int.tdiv (min (max n (0 : Int)) (16777216 : Int)) (32 : Int))) + (x1.length : Int))) + (1 : Int))).toNat ((0 : Int) : Int)).map qaE) <| aC (⟨h5.1, rfl⟩ : 0 ≤ (wI6 (Int.tdiv (min (max n (0 : Int)) (16777216 : Int)) (32 : Int))) ∧ (wI6 (Int.tdiv (min (max n (0 : Int)) (16777216 : Int)) (32 : Int))).toNat = (wI6 (Int.tdiv (min (max n (0 : Int)) (16777216 : Int)) (32 : Int))).toNat) <| aC (rfl : (wI6 ((wI6 ((wI6 (Int.tdiv (min (max n (0 : Int)) (16777216 : Int)) (32 : Int))) + (x1.length : Int))) + (1 : Int))).toNat = (wI6 ((wI6 ((wI6 (Int.tdiv (min (max n (0 : Int)) (16777216 : Int)) (32 : Int))) + (x1.length : Int))) + (1 : Int))).toNat) <| aC h5.2.1 <| aC h5.2.2.1 <| aC h5.2.2.2 <| aC (rfl : 0 + (wI6 (Int.tdiv (min (max n (0 : Int)) (16777216 : Int)) (32 : Int))).toNat = (0 + (wI6 (Int.tdiv (min (max n (0 : Int)) (16777216 : Int)) (32 : Int))).toNat)) <| aC (rfl : (wI6 ((wI6 ((wI6 (Int.tdiv (min (max n (0 : Int)) (16777216 : Int)) (32 : Int))) + (x1.length : Int))) + (1 : Int))).toNat - (wI6 (Int.tdiv (min (max n (0 : Int)) (16777216 : Int)) (32 : Int))).toNat = ((wI6 ((wI6 ((wI6 (Int.tdiv (min (max n (0 : Int)) (16777216 : Int)) (32 : Int))) + (x1.length : Int))) + (1 : Int))).toNat - (wI6 (Int.tdiv (min (max n (0 : Int)) (16777216 : Int)) (32 : Int))).toNat)) <| aC (rfl : x1.map qaE = x1.map qaE) <| aC (qzZ _ _ _ _ _ h6 : qdE ((List.replicate (wI6 ((wI6 ((wI6 (Int.tdiv (min (max n (0 : Int)) (16777216 : Int)) (32 : Int))) + (x1.length : Int))) + (1 : Int))).toNat ((0 : Int) : Int)).map qaE) (0 + (wI6 (Int.tdiv (min (max n (0 : Int)) (16777216 : Int)) (32 : Int))).toNat) ((x1.map qaE).take (min (x1.map qaE).length ((wI6 ((wI6 ((wI6 (Int.tdiv (min (max n (0 : Int)) (16777216 : Int)) (32 : Int))) + (x1.length : Int))) + (1 : Int))).toNat - (wI6 (Int.tdiv (min (max n (0 : Int)) (16777216 : Int)) (32 : Int))).toNat))) = (qg2 (List.replicate (wI6 ((wI6 ((wI6 (Int.tdiv (min (max n (0 : Int)) (16777216 : Int)) (32 : Int))) + (x1.length : Int))) + (1 : Int))).toNat ((0 : Int) : Int)) (0 + (wI6 (Int.tdiv (min (max n (0 : Int)) (16777216 : Int)) (32 : Int))).toNat) ((wI6 ((wI6 ((wI6 (Int.tdiv (min (max n (0 : Int)) (16777216 : Int)) (32 : Int))) + (x1.length : Int))) + (1 : Int))).toNat - (wI6 (Int.tdiv (min (max n (0 : Int)) (16777216 : Int)) (32 : Int))).toNat) x1).map qaE) <| aC (by rw [qeG] : ((min (x1.map qaE).length ((wI6 ((wI6 ((wI6 (Int.tdiv (min (max n (0 : Int)) (16777216 : Int)) (32 : Int))) + (x1.length : Int))) + (1 : Int))).toNat - (wI6 (Int.tdiv (min (max n (0 : Int)) (16777216 : Int)) (32 : Int))).toNat) : Nat) : Int) = ((min x1.length ((wI6 ((wI6 ((wI6 (Int.tdiv (min (max n (0 : Int)) (16777216 : Int)) (32 : Int))) + (x1.length : Int))) + (1 : Int))).toNat - (wI6 (Int.tdiv (min (max n (0 : Int)) (16777216 : Int)) (32 : Int))).toNat) : Nat) : Int)) <| aC h7 <| aC r0 <| aC (by simp : (wI6 ((wI6 ((wI6 (Int.tdiv (min (max n (0 : Int)) (16777216 : Int)) (32 : Int))) + (x1.length : Int))) + (1 : Int))).toNat = (qg2 (List.replicate (wI6 ((wI6 ((wI6 (Int.tdiv (min (max n (0 : Int)) (16777216 : Int)) (32 : Int))) + (x1.length : Int))) + (1 : Int))).toNat ((0 : Int) : Int)) (0 + (wI6 (Int.tdiv (min (max n (0 : Int)) (16777216 : Int)) (32 : Int))).toNat) ((wI6 ((wI6 ((wI6 (Int.tdiv (min (max n (0 : Int)) (16777216 : Int)) (32 : Int))) + (x1.length : Int))) + (1 : Int))).toNat - (wI6 (Int.tdiv (min (max n (0 : Int)) (16777216 : Int)) (32 : Int))).toNat) x1).length) <| aN) (ih _ _ h cx hn)
  ·obtain ⟨x9, h8, h⟩ := qaV h
   cases x9 with
   | none =>
    have h := oinj h; subst h
    exact zmZ (fuel := 130) [rg1, rgG [oo, opI (.call [[1]] [(tl 1 a qaE)] (tl 1 x1 qaE)), oo], rgG [oo, opI (.ln (x1.length : Int)), oo], bFa, rg4, rg6, rgG [oo, oo, opI (.ln (x1.length : Int)), oo, oo, opI (.mk (qaE (0 : Int)) ((List.replicate (wI6 ((wI6 ((wI6 (Int.tdiv (min (max n (0 : Int)) (16777216 : Int)) (32 : Int))) + (x1.length : Int))) + (1 : Int))).toNat ((0 : Int) : Int)).map qaE)), oo], rgG [oo, oo, opI (.slR ((wI6 (Int.tdiv (min (max n (0 : Int)) (16777216 : Int)) (32 : Int))).toNat) ((wI6 ((wI6 ((wI6 (Int.tdiv (min (max n (0 : Int)) (16777216 : Int)) (32 : Int))) + (x1.length : Int))) + (1 : Int))).toNat) (0 + (wI6 (Int.tdiv (min (max n (0 : Int)) (16777216 : Int)) (32 : Int))).toNat) ((wI6 ((wI6 ((wI6 (Int.tdiv (min (max n (0 : Int)) (16777216 : Int)) (32 : Int))) + (x1.length : Int))) + (1 : Int))).toNat - (wI6 (Int.tdiv (min (max n (0 : Int)) (16777216 : Int)) (32 : Int))).toNat)), oo, opI (.cp (x1.map qaE) ((qg2 (List.replicate (wI6 ((wI6 ((wI6 (Int.tdiv (min (max n (0 : Int)) (16777216 : Int)) (32 : Int))) + (x1.length : Int))) + (1 : Int))).toNat ((0 : Int) : Int)) (0 + (wI6 (Int.tdiv (min (max n (0 : Int)) (16777216 : Int)) (32 : Int))).toNat) ((wI6 ((wI6 ((wI6 (Int.tdiv (min (max n (0 : Int)) (16777216 : Int)) (32 : Int))) + (x1.length : Int))) + (1 : Int))).toNat - (wI6 (Int.tdiv (min (max n (0 : Int)) (16777216 : Int)) (32 : Int))).toNat) x1).map qaE) ((min x1.length ((wI6 ((wI6 ((wI6 (Int.tdiv (min (max n (0 : Int)) (16777216 : Int)) (32 : Int))) + (x1.length : Int))) + (1 : Int))).toNat - (wI6 (Int.tdiv (min (max n (0 : Int)) (16777216 : Int)) (32 : Int))).toNat) : Nat) : Int))], rg2, bFa, rgG [oo, .rl 59 0 (qg2 (List.replicate (wI6 ((wI6 ((wI6 (Int.tdiv (min (max n (0 : Int)) (16777216 : Int)) (32 : Int))) + (x1.length : Int))) + (1 : Int))).toNat ((0 : Int) : Int)) (0 + (wI6 (Int.tdiv (min (max n (0 : Int)) (16777216 : Int)) (32 : Int))).toNat) ((wI6 ((wI6 ((wI6 (Int.tdiv (min (max n (0 : Int)) (16777216 : Int)) (32 : Int))) + (x1.length : Int))) + (1 : Int))).toNat - (wI6 (Int.tdiv (min (max n (0 : Int)) (16777216 : Int)) (32 : Int))).toNat) x1).length, .callR [28] [(28, .row 101 1 ((qg2 (List.replicate (wI6 ((wI6 ((wI6 (Int.tdiv (min (max n (0 : Int)) (16777216 : Int)) (32 : Int))) + (x1.length : Int))) + (1 : Int))).toNat ((0 : Int) : Int)) (0 + (wI6 (Int.tdiv (min (max n (0 : Int)) (16777216 : Int)) (32 : Int))).toNat) ((wI6 ((wI6 ((wI6 (Int.tdiv (min (max n (0 : Int)) (16777216 : Int)) (32 : Int))) + (x1.length : Int))) + (1 : Int))).toNat - (wI6 (Int.tdiv (min (max n (0 : Int)) (16777216 : Int)) (32 : Int))).toNat) x1).map qaE) 0)] (.c C.nil), oo]] _ hn (by kernel_rfl) (aC (qa4 h2) <| aC (qdF x1 qaE) <| aC h3 <| aC (qdF x1 qaE) <| aC h4.1 <| aC h4.2.1 <| aC h4.2.2 <| aC (qu3 _ _ _ : List.replicate (wI6 ((wI6 ((wI6 (Int.tdiv (min (max n (0 : Int)) (16777216 : Int)) (32 : Int))) + (x1.length : Int))) + (1 : Int))).toNat (qaE (0 : Int)) = (List.replicate (wI6 ((wI6 ((wI6 (Int.tdiv (min (max n (0 : Int)) (16777216 : Int)) (32 : Int))) + (x1.length : Int))) + (1 : Int))).toNat ((0 : Int) : Int)).map qaE) <| aC (⟨h5.1, rfl⟩ : 0 ≤ (wI6 (Int.tdiv (min (max n (0 : Int)) (16777216 : Int)) (32 : Int))) ∧ (wI6 (Int.tdiv (min (max n (0 : Int)) (16777216 : Int)) (32 : Int))).toNat = (wI6 (Int.tdiv (min (max n (0 : Int)) (16777216 : Int)) (32 : Int))).toNat) <| aC (rfl : (wI6 ((wI6 ((wI6 (Int.tdiv (min (max n (0 : Int)) (16777216 : Int)) (32 : Int))) + (x1.length : Int))) + (1 : Int))).toNat = (wI6 ((wI6 ((wI6 (Int.tdiv (min (max n (0 : Int)) (16777216 : Int)) (32 : Int))) + (x1.length : Int))) + (1 : Int))).toNat) <| aC h5.2.1 <| aC h5.2.2.1 <| aC h5.2.2.2 <| aC (rfl : 0 + (wI6 (Int.tdiv (min (max n (0 : Int)) (16777216 : Int)) (32 : Int))).toNat = (0 + (wI6 (Int.tdiv (min (max n (0 : Int)) (16777216 : Int)) (32 : Int))).toNat)) <| aC (rfl : (wI6 ((wI6 ((wI6 (Int.tdiv (min (max n (0 : Int)) (16777216 : Int)) (32 : Int))) + (x1.length : Int))) + (1 : Int))).toNat - (wI6 (Int.tdiv (min (max n (0 : Int)) (16777216 : Int)) (32 : Int))).toNat = ((wI6 ((wI6 ((wI6 (Int.tdiv (min (max n (0 : Int)) (16777216 : Int)) (32 : Int))) + (x1.length : Int))) + (1 : Int))).toNat - (wI6 (Int.tdiv (min (max n (0 : Int)) (16777216 : Int)) (32 : Int))).toNat)) <| aC (rfl : x1.map qaE = x1.map qaE) <| aC (qzZ _ _ _ _ _ h6 : qdE ((List.replicate (wI6 ((wI6 ((wI6 (Int.tdiv (min (max n (0 : Int)) (16777216 : Int)) (32 : Int))) + (x1.length : Int))) + (1 : Int))).toNat ((0 : Int) : Int)).map qaE) (0 + (wI6 (Int.tdiv (min (max n (0 : Int)) (16777216 : Int)) (32 : Int))).toNat) ((x1.map qaE).take (min (x1.map qaE).length ((wI6 ((wI6 ((wI6 (Int.tdiv (min (max n (0 : Int)) (16777216 : Int)) (32 : Int))) + (x1.length : Int))) + (1 : Int))).toNat - (wI6 (Int.tdiv (min (max n (0 : Int)) (16777216 : Int)) (32 : Int))).toNat))) = (qg2 (List.replicate (wI6 ((wI6 ((wI6 (Int.tdiv (min (max n (0 : Int)) (16777216 : Int)) (32 : Int))) + (x1.length : Int))) + (1 : Int))).toNat ((0 : Int) : Int)) (0 + (wI6 (Int.tdiv (min (max n (0 : Int)) (16777216 : Int)) (32 : Int))).toNat) ((wI6 ((wI6 ((wI6 (Int.tdiv (min (max n (0 : Int)) (16777216 : Int)) (32 : Int))) + (x1.length : Int))) + (1 : Int))).toNat - (wI6 (Int.tdiv (min (max n (0 : Int)) (16777216 : Int)) (32 : Int))).toNat) x1).map qaE) <| aC (by rw [qeG] : ((min (x1.map qaE).length ((wI6 ((wI6 ((wI6 (Int.tdiv (min (max n (0 : Int)) (16777216 : Int)) (32 : Int))) + (x1.length : Int))) + (1 : Int))).toNat - (wI6 (Int.tdiv (min (max n (0 : Int)) (16777216 : Int)) (32 : Int))).toNat) : Nat) : Int) = ((min x1.length ((wI6 ((wI6 ((wI6 (Int.tdiv (min (max n (0 : Int)) (16777216 : Int)) (32 : Int))) + (x1.length : Int))) + (1 : Int))).toNat - (wI6 (Int.tdiv (min (max n (0 : Int)) (16777216 : Int)) (32 : Int))).toNat) : Nat) : Int)) <| aC h7 <| aC r0 <| aC (by simp : (wI6 ((wI6 ((wI6 (Int.tdiv (min (max n (0 : Int)) (16777216 : Int)) (32 : Int))) + (x1.length : Int))) + (1 : Int))).toNat = (qg2 (List.replicate (wI6 ((wI6 ((wI6 (Int.tdiv (min (max n (0 : Int)) (16777216 : Int)) (32 : Int))) + (x1.length : Int))) + (1 : Int))).toNat ((0 : Int) : Int)) (0 + (wI6 (Int.tdiv (min (max n (0 : Int)) (16777216 : Int)) (32 : Int))).toNat) ((wI6 ((wI6 ((wI6 (Int.tdiv (min (max n (0 : Int)) (16777216 : Int)) (32 : Int))) + (x1.length : Int))) + (1 : Int))).toNat - (wI6 (Int.tdiv (min (max n (0 : Int)) (16777216 : Int)) (32 : Int))).toNat) x1).length) <| aC (qhY h8) <| aN)
   | some n10 =>
    obtain ⟨h11, h⟩ := qb3 h
    have h := oinj h; subst h
    exact zqV (es := (((qg2 (List.replicate (wI6 ((wI6 ((wI6 (Int.tdiv (min (max n (0 : Int)) (16777216 : Int)) (32 : Int))) + (x1.length : Int))) + (1 : Int))).toNat ((0 : Int) : Int)) (0 + (wI6 (Int.tdiv (min (max n (0 : Int)) (16777216 : Int)) (32 : Int))).toNat) ((wI6 ((wI6 ((wI6 (Int.tdiv (min (max n (0 : Int)) (16777216 : Int)) (32 : Int))) + (x1.length : Int))) + (1 : Int))).toNat - (wI6 (Int.tdiv (min (max n (0 : Int)) (16777216 : Int)) (32 : Int))).toNat) x1).take n10).map qaE)) (m := n10) (es0 := (qg2 (List.replicate (wI6 ((wI6 ((wI6 (Int.tdiv (min (max n (0 : Int)) (16777216 : Int)) (32 : Int))) + (x1.length : Int))) + (1 : Int))).toNat ((0 : Int) : Int)) (0 + (wI6 (Int.tdiv (min (max n (0 : Int)) (16777216 : Int)) (32 : Int))).toNat) ((wI6 ((wI6 ((wI6 (Int.tdiv (min (max n (0 : Int)) (16777216 : Int)) (32 : Int))) + (x1.length : Int))) + (1 : Int))).toNat - (wI6 (Int.tdiv (min (max n (0 : Int)) (16777216 : Int)) (32 : Int))).toNat) x1).map qaE) (fuel := 130) [rg1, rgG [oo, opI (.call [[1]] [(tl 1 a qaE)] (tl 1 x1 qaE)), oo], rgG [oo, opI (.ln (x1.length : Int)), oo], bFa, rg4, rg6, rgG [oo, oo, opI (.ln (x1.length : Int)), oo, oo, opI (.mk (qaE (0 : Int)) ((List.replicate (wI6 ((wI6 ((wI6 (Int.tdiv (min (max n (0 : Int)) (16777216 : Int)) (32 : Int))) + (x1.length : Int))) + (1 : Int))).toNat ((0 : Int) : Int)).map qaE)), oo], rgG [oo, oo, opI (.slR ((wI6 (Int.tdiv (min (max n (0 : Int)) (16777216 : Int)) (32 : Int))).toNat) ((wI6 ((wI6 ((wI6 (Int.tdiv (min (max n (0 : Int)) (16777216 : Int)) (32 : Int))) + (x1.length : Int))) + (1 : Int))).toNat) (0 + (wI6 (Int.tdiv (min (max n (0 : Int)) (16777216 : Int)) (32 : Int))).toNat) ((wI6 ((wI6 ((wI6 (Int.tdiv (min (max n (0 : Int)) (16777216 : Int)) (32 : Int))) + (x1.length : Int))) + (1 : Int))).toNat - (wI6 (Int.tdiv (min (max n (0 : Int)) (16777216 : Int)) (32 : Int))).toNat)), oo, opI (.cp (x1.map qaE) ((qg2 (List.replicate (wI6 ((wI6 ((wI6 (Int.tdiv (min (max n (0 : Int)) (16777216 : Int)) (32 : Int))) + (x1.length : Int))) + (1 : Int))).toNat ((0 : Int) : Int)) (0 + (wI6 (Int.tdiv (min (max n (0 : Int)) (16777216 : Int)) (32 : Int))).toNat) ((wI6 ((wI6 ((wI6 (Int.tdiv (min (max n (0 : Int)) (16777216 : Int)) (32 : Int))) + (x1.length : Int))) + (1 : Int))).toNat - (wI6 (Int.tdiv (min (max n (0 : Int)) (16777216 : Int)) (32 : Int))).toNat) x1).map qaE) ((min x1.length ((wI6 ((wI6 ((wI6 (Int.tdiv (min (max n (0 : Int)) (16777216 : Int)) (32 : Int))) + (x1.length : Int))) + (1 : Int))).toNat - (wI6 (Int.tdiv (min (max n (0 : Int)) (16777216 : Int)) (32 : Int))).toNat) : Nat) : Int))], rg2, bFa, rgG [oo, .rl 59 0 (qg2 (List.replicate (wI6 ((wI6 ((wI6 (Int.tdiv (min (max n (0 : Int)) (16777216 : Int)) (32 : Int))) + (x1.length : Int))) + (1 : Int))).toNat ((0 : Int) : Int)) (0 + (wI6 (Int.tdiv (min (max n (0 : Int)) (16777216 : Int)) (32 : Int))).toNat) ((wI6 ((wI6 ((wI6 (Int.tdiv (min (max n (0 : Int)) (16777216 : Int)) (32 : Int))) + (x1.length : Int))) + (1 : Int))).toNat - (wI6 (Int.tdiv (min (max n (0 : Int)) (16777216 : Int)) (32 : Int))).toNat) x1).length, .callR [28] [(28, .row 101 1 ((qg2 (List.replicate (wI6 ((wI6 ((wI6 (Int.tdiv (min (max n (0 : Int)) (16777216 : Int)) (32 : Int))) + (x1.length : Int))) + (1 : Int))).toNat ((0 : Int) : Int)) (0 + (wI6 (Int.tdiv (min (max n (0 : Int)) (16777216 : Int)) (32 : Int))).toNat) ((wI6 ((wI6 ((wI6 (Int.tdiv (min (max n (0 : Int)) (16777216 : Int)) (32 : Int))) + (x1.length : Int))) + (1 : Int))).toNat - (wI6 (Int.tdiv (min (max n (0 : Int)) (16777216 : Int)) (32 : Int))).toNat) x1).map qaE) 0)] (.c (C.row 28 0 n10)), oo]] _ hn (by kernel_rfl) (aC (qa4 h2) <| aC (qdF x1 qaE) <| aC h3 <| aC (qdF x1 qaE) <| aC h4.1 <| aC h4.2.1 <| aC h4.2.2 <| aC (qu3 _ _ _ : List.replicate (wI6 ((wI6 ((wI6 (Int.tdiv (min (max n (0 : Int)) (16777216 : Int)) (32 : Int))) + (x1.length : Int))) + (1 : Int))).toNat (qaE (0 : Int)) = (List.replicate (wI6 ((wI6 ((wI6 (Int.tdiv (min (max n (0 : Int)) (16777216 : Int)) (32 : Int))) + (x1.length : Int))) + (1 : Int))).toNat ((0 : Int) : Int)).map qaE) <| aC (⟨h5.1, rfl⟩ : 0 ≤ (wI6 (Int.tdiv (min (max n (0 : Int)) (16777216 : Int)) (32 : Int))) ∧ (wI6 (Int.tdiv (min (max n (0 : Int)) (16777216 : Int)) (32 : Int))).toNat = (wI6 (Int.tdiv (min (max n (0 : Int)) (16777216 : Int)) (32 : Int))).toNat) <| aC (rfl : (wI6 ((wI6 ((wI6 (Int.tdiv (min (max n (0 : Int)) (16777216 : Int)) (32 : Int))) + (x1.length : Int))) + (1 : Int))).toNat = (wI6 ((wI6 ((wI6 (Int.tdiv (min (max n (0 : Int)) (16777216 : Int)) (32 : Int))) + (x1.length : Int))) + (1 : Int))).toNat) <| aC h5.2.1 <| aC h5.2.2.1 <| aC h5.2.2.2 <| aC (rfl : 0 + (wI6 (Int.tdiv (min (max n (0 : Int)) (16777216 : Int)) (32 : Int))).toNat = (0 + (wI6 (Int.tdiv (min (max n (0 : Int)) (16777216 : Int)) (32 : Int))).toNat)) <| aC (rfl : (wI6 ((wI6 ((wI6 (Int.tdiv (min (max n (0 : Int)) (16777216 : Int)) (32 : Int))) + (x1.length : Int))) + (1 : Int))).toNat - (wI6 (Int.tdiv (min (max n (0 : Int)) (16777216 : Int)) (32 : Int))).toNat = ((wI6 ((wI6 ((wI6 (Int.tdiv (min (max n (0 : Int)) (16777216 : Int)) (32 : Int))) + (x1.length : Int))) + (1 : Int))).toNat - (wI6 (Int.tdiv (min (max n (0 : Int)) (16777216 : Int)) (32 : Int))).toNat)) <| aC (rfl : x1.map qaE = x1.map qaE) <| aC (qzZ _ _ _ _ _ h6 : qdE ((List.replicate (wI6 ((wI6 ((wI6 (Int.tdiv (min (max n (0 : Int)) (16777216 : Int)) (32 : Int))) + (x1.length : Int))) + (1 : Int))).toNat ((0 : Int) : Int)).map qaE) (0 + (wI6 (Int.tdiv (min (max n (0 : Int)) (16777216 : Int)) (32 : Int))).toNat) ((x1.map qaE).take (min (x1.map qaE).length ((wI6 ((wI6 ((wI6 (Int.tdiv (min (max n (0 : Int)) (16777216 : Int)) (32 : Int))) + (x1.length : Int))) + (1 : Int))).toNat - (wI6 (Int.tdiv (min (max n (0 : Int)) (16777216 : Int)) (32 : Int))).toNat))) = (qg2 (List.replicate (wI6 ((wI6 ((wI6 (Int.tdiv (min (max n (0 : Int)) (16777216 : Int)) (32 : Int))) + (x1.length : Int))) + (1 : Int))).toNat ((0 : Int) : Int)) (0 + (wI6 (Int.tdiv (min (max n (0 : Int)) (16777216 : Int)) (32 : Int))).toNat) ((wI6 ((wI6 ((wI6 (Int.tdiv (min (max n (0 : Int)) (16777216 : Int)) (32 : Int))) + (x1.length : Int))) + (1 : Int))).toNat - (wI6 (Int.tdiv (min (max n (0 : Int)) (16777216 : Int)) (32 : Int))).toNat) x1).map qaE) <| aC (by rw [qeG] : ((min (x1.map qaE).length ((wI6 ((wI6 ((wI6 (Int.tdiv (min (max n (0 : Int)) (16777216 : Int)) (32 : Int))) + (x1.length : Int))) + (1 : Int))).toNat - (wI6 (Int.tdiv (min (max n (0 : Int)) (16777216 : Int)) (32 : Int))).toNat) : Nat) : Int) = ((min x1.length ((wI6 ((wI6 ((wI6 (Int.tdiv (min (max n (0 : Int)) (16777216 : Int)) (32 : Int))) + (x1.length : Int))) + (1 : Int))).toNat - (wI6 (Int.tdiv (min (max n (0 : Int)) (16777216 : Int)) (32 : Int))).toNat) : Nat) : Int)) <| aC h7 <| aC r0 <| aC (by simp : (wI6 ((wI6 ((wI6 (Int.tdiv (min (max n (0 : Int)) (16777216 : Int)) (32 : Int))) + (x1.length : Int))) + (1 : Int))).toNat = (qg2 (List.replicate (wI6 ((wI6 ((wI6 (Int.tdiv (min (max n (0 : Int)) (16777216 : Int)) (32 : Int))) + (x1.length : Int))) + (1 : Int))).toNat ((0 : Int) : Int)) (0 + (wI6 (Int.tdiv (min (max n (0 : Int)) (16777216 : Int)) (32 : Int))).toNat) ((wI6 ((wI6 ((wI6 (Int.tdiv (min (max n (0 : Int)) (16777216 : Int)) (32 : Int))) + (x1.length : Int))) + (1 : Int))).toNat - (wI6 (Int.tdiv (min (max n (0 : Int)) (16777216 : Int)) (32 : Int))).toNat) x1).length) <| aC (qhY h8) <| aN) (by rw [List.length_map, List.length_take, Nat.min_eq_left h11]) (by rw [List.map_take])
theorem zcT {K} (ih : qu8 K) {cx} (hn : cx.n = 61) {r28 shift low i} {r} (h : qeI (K + 1) (.c1 r28 shift low i) = some r) : qu7 cx (.c1 r28 shift low i) r := by
 rw [qeI] at h
 rcases qaY h with ⟨h1, h⟩ | ⟨h1, h⟩
 ·obtain ⟨x2, h3, h⟩ := qaV h
  obtain ⟨h4, h⟩ := qb3 h
  obtain ⟨x5, h6, h⟩ := qaV h
  obtain ⟨h7, h⟩ := qb3 h
  exact wkG [.go, rg4, bTr, rgG [oo, oo, .op .ir, opI (.ld (qaE x2)), oo], rgG [oo, oo, oo, oo, .op .dv, oo, oo, .op .ir, opI (.st (qaE x5) ((r28.set (i.toNat) (bits .or .u32 (qiN .u32 x2 shift) low)).map qaE))], rgG [oo, oo, oo, .op .dv, oo], rg3, .pre [.rl 7 0 (r28.set (i.toNat) (bits .or .u32 (qiN .u32 x2 shift) low)).length, .keep [6,7,8,9] [28]]] hn (aC h1 <| aC (qb2 h3) <| aC (qcW h3 (by simp) : i < ((r28.length : Nat) : Int)) <| aC (qcX qaE h3 : (r28.map qaE)[(0 + i.toNat)]? = some (qaE x2)) <| aC h4 <| aC (qb2 h6) <| aC (qcW h6 (by simp) : i < ((r28.length : Nat) : Int)) <| aC (qcX qaE h6 : (r28.map qaE)[(0 + i.toNat)]? = some (qaE x5)) <| aC (qe3 _ _ (bits .or .u32 (qiN .u32 x2 shift) low) _ : (r28.map qaE).set (0 + i.toNat) (qdE (qaE x5) 0 [(T.int .u32 (bits .or .u32 (qiN .u32 x2 shift) low))]) = (r28.set (i.toNat) (bits .or .u32 (qiN .u32 x2 shift) low)).map qaE) <| aC (Nat.zero_le _ : 0 ≤ (0 + i.toNat)) <| aC h7 <| aC r0 <| aC (by simp : r28.length = (r28.set (i.toNat) (bits .or .u32 (qiN .u32 x2 shift) low)).length) <| aN) (ih _ _ h cx hn)
 ·obtain ⟨x3, h2, h⟩ := qaV h
  cases x3 with
  | none =>
   have h := oinj h; subst h
   exact zmZ (fuel := 78) [.go, rg4, bFa, rgG [oo, .rl 59 0 r28.length, .callR [28] [(28, .row 101 1 (r28.map qaE) 0)] (.c C.nil), oo]] _ hn (by kernel_rfl) (aC h1 <| aC r0 <| aC (lq r28) <| aC (qhY h2) <| aN)
  | some n4 =>
   obtain ⟨h5, h⟩ := qb3 h
   have h := oinj h; subst h
   exact zqV (es := ((r28.take n4).map qaE)) (m := n4) (es0 := r28.map qaE) (fuel := 78) [.go, rg4, bFa, rgG [oo, .rl 59 0 r28.length, .callR [28] [(28, .row 101 1 (r28.map qaE) 0)] (.c (C.row 28 0 n4)), oo]] _ hn (by kernel_rfl) (aC h1 <| aC r0 <| aC (lq r28) <| aC (qhY h2) <| aN) (by rw [List.length_map, List.length_take, Nat.min_eq_left h5]) (by rw [List.map_take])
theorem qsS : ∀ K : Nat, qu8 K
 | 0, c, r, h => by rw [qeI] at h; cases h
 | K + 1, .c0 .., r, h => fun cx hn => zcU (qsS K) hn h
 | K + 1, .c1 .., r, h => fun cx hn => zcT (qsS K) hn h
theorem quK {K : Nat} {a : (List Int)} {n : Int} {r : (Option (List Int))} (h : qt9 K a n = some r) : zpV prog 142 [(tl 1 a qaE), (ti .i64 n)] 101 1 (r.map fun l => l.map qaE) :=
 zt0 (n := 61) (by kernel_rfl) (by simp) fun cx hn => qsS K (.c0 a n) r h cx hn
open Go.Proofs.Try (prog)
inductive qsR where
 | c0 (a : (List Int)) (n : Int)
 | c1 (r25 : (List Int)) (shift : Int) (t29 : Int) (t30 : Int)
 | c2 (shift : Int) (t29 : Int) (t30 : Int)
 | c3 (r25 : (List Int)) (shift : Int) (t29 : Int) (t30 : Int)
def qdH : Nat → qsR → Option (List Int)
 | 0, _ => none
 | K + 1, .c0 a n =>
  (qc4 K a).bind fun x1 =>
  bif (decide ((x1.length : Int) ≤ (wI6 (Int.tdiv (max n (0 : Int)) (32 : Int))))) then
   some []
  else
   gd (0 ≤ (wI6 (Int.tdiv (max n (0 : Int)) (32 : Int))) ∧ (wI6 (Int.tdiv (max n (0 : Int)) (32 : Int))).toNat ≤ x1.length ∧ x1.length ≤ x1.length) <|
   bif (decide (0 < ((x1.take x1.length).drop ((wI6 (Int.tdiv (max n (0 : Int)) (32 : Int))).toNat)).length)) then
    gd (((x1.take x1.length).drop ((wI6 (Int.tdiv (max n (0 : Int)) (32 : Int))).toNat)).length * 4 ≤ 140737488355328) <|
    bif (decide ((0 : Int) < (Int.tmod (max n (0 : Int)) (32 : Int)))) then
     qdH K (.c1 ((x1.take x1.length).drop ((wI6 (Int.tdiv (max n (0 : Int)) (32 : Int))).toNat)) (Int.tmod (max n (0 : Int)) (32 : Int)) (((((x1.take x1.length).drop ((wI6 (Int.tdiv (max n (0 : Int)) (32 : Int))).toNat)).map qaE).length : Nat) : Int) (0 : Int))
    else
     (qc4 K ((x1.take x1.length).drop ((wI6 (Int.tdiv (max n (0 : Int)) (32 : Int))).toNat))).bind fun x8 =>
     some x8
   else
    bif (decide ((0 : Int) < (Int.tmod (max n (0 : Int)) (32 : Int)))) then
     qdH K (.c2 (Int.tmod (max n (0 : Int)) (32 : Int)) (0 : Int) (0 : Int))
    else
     (qc4 K []).bind fun x8 =>
     some x8
 | K + 1, .c1 r25 shift t29 t30 =>
  bif (decide (t30 < t29)) then
   bif (decide ((wI6 (t30 + (1 : Int))) < ((r25.length : Nat) : Int))) then
    (gi r25 (wI6 (t30 + (1 : Int)))).bind fun x3 =>
    gd (0 ≤ (wI6 ((32 : Int) - shift))) <|
    (gi r25 t30).bind fun x6 =>
    gd (0 ≤ shift) <|
    (gi r25 t30).bind fun _ =>
    qdH K (.c3 (r25.set (t30.toNat) (bits .or .u32 (qdC .u32 x6 shift) (qiN .u32 x3 (wI6 ((32 : Int) - shift))))) shift t29 t30)
   else
    (gi r25 t30).bind fun x3 =>
    gd (0 ≤ shift) <|
    (gi r25 t30).bind fun _ =>
    qdH K (.c3 (r25.set (t30.toNat) (bits .or .u32 (qdC .u32 x3 shift) (0 : Int))) shift t29 t30)
  else
   (qc4 K r25).bind fun x2 =>
   some x2
 | K + 1, .c2 _ t29 t30 =>
  bif (decide (t30 < t29)) then
   bif (decide ((wI6 (t30 + (1 : Int))) < (0 : Int))) then
    none
   else
    none
  else
   (qc4 K []).bind fun x2 =>
   some x2
 | K + 1, .c3 r25 shift t29 t30 =>
  qdH K (.c1 r25 shift t29 (wI6 (t30 + (1 : Int))))
def qwL (K : Nat) (a : (List Int)) (n : Int) : Option (List Int) := qdH K (.c0 a n)
noncomputable def qhN : Code := qcK prog 189
noncomputable def ziI : qsR → List Fr
 | .c0 .. => [.code qhN]
 | .c1 .. => [.code (.loop (atC qhN [1,1,1,1,1,1,0,1,0,1,0,0])), .blk 0, .code (atC qhN [1,1,1,1,1,1,1])]
 | .c2 .. => [.code (.loop (atC qhN [1,1,1,1,1,1,0,1,0,1,0,0])), .blk 0, .code (atC qhN [1,1,1,1,1,1,1])]
 | .c3 .. => [.code (atC qhN [1,1,1,1,1,1,0,1,0,1,0,0,1,1,1]), .lp (atC qhN [1,1,1,1,1,1,0,1,0,1,0,0]), .blk 0, .code (atC qhN [1,1,1,1,1,1,1])]
def zk0 : qsR → St
 | .c0 a n => St.init [(tl 1 a qaE), (ti .i64 n)]
 | .c1 r25 shift t29 t30 => ⟨[(6, vi .i64 shift), (7, .c (C.row 25 0 r25.length)), (29, vi .i64 t29), (30, vi .i64 t30)], [(25, .row 101 1 (r25.map qaE) 0)], []⟩
 | .c2 shift t29 t30 => ⟨[(6, vi .i64 shift), (7, .c (C.nil)), (29, vi .i64 t29), (30, vi .i64 t30)], [], []⟩
 | .c3 r25 shift t29 t30 => ⟨[(6, vi .i64 shift), (7, .c (C.row 25 0 r25.length)), (29, vi .i64 t29), (30, vi .i64 t30)], [(25, .row 101 1 (r25.map qaE) 0)], []⟩
def qsP (cx : Cx) (c : qsR) (r : (List Int)) : Prop := Wk prog cx (qd0 prog 189 [[1]] (tl 1 r qaE)) (ziI c) .normal (zk0 c)
abbrev qsQ (K : Nat) : Prop := ∀ c r, qdH K c = some r → ∀ cx : Cx, cx.n = 60 → qsP cx c r
theorem zk5 {K} (ih : qsQ K) {cx} (hn : cx.n = 60) {a n} {r} (h : qdH (K + 1) (.c0 a n) = some r) : qsP cx (.c0 a n) r := by
 rw [qdH] at h
 obtain ⟨x1, h2, h⟩ := qaV h
 rcases qaY h with ⟨h3, h⟩ | ⟨h3, h⟩
 ·have h := oinj h; subst h
  exact wkR [rg1, rgG [oo, opI (.call [[1]] [(tl 1 a qaE)] (tl 1 x1 qaE)), oo], rg3, rg6, rgG [oo, oo, opI (.ln (x1.length : Int)), oo], bTr, rg1] hn (aC (qa4 h2) <| aC (qdF x1 qaE) <| aC h3 <| aN)
 ·obtain ⟨h4, h⟩ := qb3 h
  rcases qaY h with ⟨h6, h⟩ | ⟨h6, h⟩
  ·obtain ⟨h5, h⟩ := qb3 h
   rcases qaY h with ⟨h7, h⟩ | ⟨h7, h⟩
   ·exact wkG [rg1, rgG [oo, opI (.call [[1]] [(tl 1 a qaE)] (tl 1 x1 qaE)), oo], rg3, rg6, rgG [oo, oo, opI (.ln (x1.length : Int)), oo], bFa, rgG [oo, oo, opI (.slT ((wI6 (Int.tdiv (max n (0 : Int)) (32 : Int))).toNat) x1.length (((x1.take x1.length).drop ((wI6 (Int.tdiv (max n (0 : Int)) (32 : Int))).toNat)).map qaE)), opI (.appN (((x1.take x1.length).drop ((wI6 (Int.tdiv (max n (0 : Int)) (32 : Int))).toNat)).map qaE)), oo], rg2, bTr, rg3, .pre [.rl 7 0 ((x1.take x1.length).drop ((wI6 (Int.tdiv (max n (0 : Int)) (32 : Int))).toNat)).length, .keep [6,7,29,30] [25]]] hn (aC (qa4 h2) <| aC (qdF x1 qaE) <| aC h3 <| aC (⟨h4.1, rfl⟩ : 0 ≤ (wI6 (Int.tdiv (max n (0 : Int)) (32 : Int))) ∧ (wI6 (Int.tdiv (max n (0 : Int)) (32 : Int))).toNat = (wI6 (Int.tdiv (max n (0 : Int)) (32 : Int))).toNat) <| aC (by simp : x1.length = (x1.map qaE).length) <| aC h4.2.1 <| aC (znM _ h4.2.2 : x1.length ≤ (x1.map qaE).length) <| aC (zqZ _ _ _ _ : ((x1.map qaE).take x1.length).drop ((wI6 (Int.tdiv (max n (0 : Int)) (32 : Int))).toNat) = ((x1.take x1.length).drop ((wI6 (Int.tdiv (max n (0 : Int)) (32 : Int))).toNat)).map qaE) <| aC (rfl : ((x1.take x1.length).drop ((wI6 (Int.tdiv (max n (0 : Int)) (32 : Int))).toNat)).map qaE = ((x1.take x1.length).drop ((wI6 (Int.tdiv (max n (0 : Int)) (32 : Int))).toNat)).map qaE) <| aC ((qeG _ _).symm ▸ of_decide_eq_true h6 : 0 < (((x1.take x1.length).drop ((wI6 (Int.tdiv (max n (0 : Int)) (32 : Int))).toNat)).map qaE).length) <| aC ((qeG _ _).symm ▸ h5 : (((x1.take x1.length).drop ((wI6 (Int.tdiv (max n (0 : Int)) (32 : Int))).toNat)).map qaE).length * 4 ≤ 140737488355328) <| aC ((qeG _ _).symm ▸ room (by decide) h5 : (((x1.take x1.length).drop ((wI6 (Int.tdiv (max n (0 : Int)) (32 : Int))).toNat)).map qaE).length ≤ maxLen) <| aC h7 <| aC r0 <| aC (by simp : (((x1.take x1.length).drop ((wI6 (Int.tdiv (max n (0 : Int)) (32 : Int))).toNat)).map qaE).length = ((x1.take x1.length).drop ((wI6 (Int.tdiv (max n (0 : Int)) (32 : Int))).toNat)).length) <| aN) (ih _ _ h cx hn)
   ·obtain ⟨x8, h9, h⟩ := qaV h
    have h := oinj h; subst h
    exact wkR [rg1, rgG [oo, opI (.call [[1]] [(tl 1 a qaE)] (tl 1 x1 qaE)), oo], rg3, rg6, rgG [oo, oo, opI (.ln (x1.length : Int)), oo], bFa, rgG [oo, oo, opI (.slT ((wI6 (Int.tdiv (max n (0 : Int)) (32 : Int))).toNat) x1.length (((x1.take x1.length).drop ((wI6 (Int.tdiv (max n (0 : Int)) (32 : Int))).toNat)).map qaE)), opI (.appN (((x1.take x1.length).drop ((wI6 (Int.tdiv (max n (0 : Int)) (32 : Int))).toNat)).map qaE)), oo], rg2, bFa, rgG [oo, .snap 58 (max 0 (0 + (((x1.take x1.length).drop ((wI6 (Int.tdiv (max n (0 : Int)) (32 : Int))).toNat)).map qaE).length)) (((x1.take x1.length).drop ((wI6 (Int.tdiv (max n (0 : Int)) (32 : Int))).toNat)).map qaE), opI (.call [[1]] [(TV.c (T.sl 1 (((x1.take x1.length).drop ((wI6 (Int.tdiv (max n (0 : Int)) (32 : Int))).toNat)).map qaE)))] (tl 1 x8 qaE)), oo]] hn (aC (qa4 h2) <| aC (qdF x1 qaE) <| aC h3 <| aC (⟨h4.1, rfl⟩ : 0 ≤ (wI6 (Int.tdiv (max n (0 : Int)) (32 : Int))) ∧ (wI6 (Int.tdiv (max n (0 : Int)) (32 : Int))).toNat = (wI6 (Int.tdiv (max n (0 : Int)) (32 : Int))).toNat) <| aC (by simp : x1.length = (x1.map qaE).length) <| aC h4.2.1 <| aC (znM _ h4.2.2 : x1.length ≤ (x1.map qaE).length) <| aC (zqZ _ _ _ _ : ((x1.map qaE).take x1.length).drop ((wI6 (Int.tdiv (max n (0 : Int)) (32 : Int))).toNat) = ((x1.take x1.length).drop ((wI6 (Int.tdiv (max n (0 : Int)) (32 : Int))).toNat)).map qaE) <| aC (rfl : ((x1.take x1.length).drop ((wI6 (Int.tdiv (max n (0 : Int)) (32 : Int))).toNat)).map qaE = ((x1.take x1.length).drop ((wI6 (Int.tdiv (max n (0 : Int)) (32 : Int))).toNat)).map qaE) <| aC ((qeG _ _).symm ▸ of_decide_eq_true h6 : 0 < (((x1.take x1.length).drop ((wI6 (Int.tdiv (max n (0 : Int)) (32 : Int))).toNat)).map qaE).length) <| aC ((qeG _ _).symm ▸ h5 : (((x1.take x1.length).drop ((wI6 (Int.tdiv (max n (0 : Int)) (32 : Int))).toNat)).map qaE).length * 4 ≤ 140737488355328) <| aC ((qeG _ _).symm ▸ room (by decide) h5 : (((x1.take x1.length).drop ((wI6 (Int.tdiv (max n (0 : Int)) (32 : Int))).toNat)).map qaE).length ≤ maxLen) <| aC h7 <| aC (qfA _ _ _ (by simp) : ((((x1.take x1.length).drop ((wI6 (Int.tdiv (max n (0 : Int)) (32 : Int))).toNat)).map qaE).drop 0).take ((((x1.take x1.length).drop ((wI6 (Int.tdiv (max n (0 : Int)) (32 : Int))).toNat)).map qaE).length) = ((x1.take x1.length).drop ((wI6 (Int.tdiv (max n (0 : Int)) (32 : Int))).toNat)).map qaE) <| aC (rfl : (max 0 (0 + (((x1.take x1.length).drop ((wI6 (Int.tdiv (max n (0 : Int)) (32 : Int))).toNat)).map qaE).length)) = (max 0 (0 + (((x1.take x1.length).drop ((wI6 (Int.tdiv (max n (0 : Int)) (32 : Int))).toNat)).map qaE).length))) <| aC (qa4 h9) <| aN)
  ·rcases qaY h with ⟨h7, h⟩ | ⟨h7, h⟩
   ·exact wkG [rg1, rgG [oo, opI (.call [[1]] [(tl 1 a qaE)] (tl 1 x1 qaE)), oo], rg3, rg6, rgG [oo, oo, opI (.ln (x1.length : Int)), oo], bFa, rgG [oo, oo, opI (.slT ((wI6 (Int.tdiv (max n (0 : Int)) (32 : Int))).toNat) x1.length (((x1.take x1.length).drop ((wI6 (Int.tdiv (max n (0 : Int)) (32 : Int))).toNat)).map qaE)), .op .app0, oo], rg2, bTr, rg3, .pre [.keep [6,7,29,30] []]] hn (aC (qa4 h2) <| aC (qdF x1 qaE) <| aC h3 <| aC (⟨h4.1, rfl⟩ : 0 ≤ (wI6 (Int.tdiv (max n (0 : Int)) (32 : Int))) ∧ (wI6 (Int.tdiv (max n (0 : Int)) (32 : Int))).toNat = (wI6 (Int.tdiv (max n (0 : Int)) (32 : Int))).toNat) <| aC (by simp : x1.length = (x1.map qaE).length) <| aC h4.2.1 <| aC (znM _ h4.2.2 : x1.length ≤ (x1.map qaE).length) <| aC (zqZ _ _ _ _ : ((x1.map qaE).take x1.length).drop ((wI6 (Int.tdiv (max n (0 : Int)) (32 : Int))).toNat) = ((x1.take x1.length).drop ((wI6 (Int.tdiv (max n (0 : Int)) (32 : Int))).toNat)).map qaE) <| aC (by rw [show ((x1.take x1.length).drop ((wI6 (Int.tdiv (max n (0 : Int)) (32 : Int))).toNat)) = [] from List.eq_nil_of_length_eq_zero (by have := of_decide_eq_false h6; omega)]; simp : ((x1.take x1.length).drop ((wI6 (Int.tdiv (max n (0 : Int)) (32 : Int))).toNat)).map qaE = []) <| aC h7 <| aN) (ih _ _ h cx hn)
   ·obtain ⟨x8, h9, h⟩ := qaV h
    have h := oinj h; subst h
    exact wkR [rg1, rgG [oo, opI (.call [[1]] [(tl 1 a qaE)] (tl 1 x1 qaE)), oo], rg3, rg6, rgG [oo, oo, opI (.ln (x1.length : Int)), oo], bFa, rgG [oo, oo, opI (.slT ((wI6 (Int.tdiv (max n (0 : Int)) (32 : Int))).toNat) x1.length (((x1.take x1.length).drop ((wI6 (Int.tdiv (max n (0 : Int)) (32 : Int))).toNat)).map qaE)), .op .app0, oo], rg2, bFa, rgG [oo, opI (.call [[1]] [(TV.c (T.sl 1 ([].map qaE)))] (tl 1 x8 qaE)), oo]] hn (aC (qa4 h2) <| aC (qdF x1 qaE) <| aC h3 <| aC (⟨h4.1, rfl⟩ : 0 ≤ (wI6 (Int.tdiv (max n (0 : Int)) (32 : Int))) ∧ (wI6 (Int.tdiv (max n (0 : Int)) (32 : Int))).toNat = (wI6 (Int.tdiv (max n (0 : Int)) (32 : Int))).toNat) <| aC (by simp : x1.length = (x1.map qaE).length) <| aC h4.2.1 <| aC (znM _ h4.2.2 : x1.length ≤ (x1.map qaE).length) <| aC (zqZ _ _ _ _ : ((x1.map qaE).take x1.length).drop ((wI6 (Int.tdiv (max n (0 : Int)) (32 : Int))).toNat) = ((x1.take x1.length).drop ((wI6 (Int.tdiv (max n (0 : Int)) (32 : Int))).toNat)).map qaE) <| aC (by rw [show ((x1.take x1.length).drop ((wI6 (Int.tdiv (max n (0 : Int)) (32 : Int))).toNat)) = [] from List.eq_nil_of_length_eq_zero (by have := of_decide_eq_false h6; omega)]; simp : ((x1.take x1.length).drop ((wI6 (Int.tdiv (max n (0 : Int)) (32 : Int))).toNat)).map qaE = []) <| aC h7 <| aC (qa4 h9) <| aN)
theorem zk4 {K} (ih : qsQ K) {cx} (hn : cx.n = 60) {r25 shift t29 t30} {r} (h : qdH (K + 1) (.c1 r25 shift t29 t30) = some r) : qsP cx (.c1 r25 shift t29 t30) r := by
 rw [qdH] at h
 rcases qaY h with ⟨h1, h⟩ | ⟨h1, h⟩
 ·rcases qaY h with ⟨h2, h⟩ | ⟨h2, h⟩
  ·obtain ⟨x3, h4, h⟩ := qaV h
   obtain ⟨h5, h⟩ := qb3 h
   obtain ⟨x6, h7, h⟩ := qaV h
   obtain ⟨h8, h⟩ := qb3 h
   obtain ⟨x9, h10, h⟩ := qaV h
   exact wkG [.go, rg1, bTr, rg2, rg1, rg5, bTr, rgG [oo, oo, oo, .op .ir, opI (.ld (qaE x3)), oo, oo, .op .dv, oo], rgG [oo, oo, oo, oo, .op .ir, opI (.ld (qaE x6)), oo, .op .dv, oo, oo, .op .ir, opI (.st (qaE x9) ((r25.set (t30.toNat) (bits .or .u32 (qdC .u32 x6 shift) (qiN .u32 x3 (wI6 ((32 : Int) - shift))))).map qaE))], .pre [.rl 7 0 (r25.set (t30.toNat) (bits .or .u32 (qdC .u32 x6 shift) (qiN .u32 x3 (wI6 ((32 : Int) - shift))))).length, .keep [6,7,29,30] [25]]] hn (aC h1 <| aC h2 <| aC (qb2 h4) <| aC (qcW h4 (by simp) : (wI6 (t30 + (1 : Int))) < ((r25.length : Nat) : Int)) <| aC (qcX qaE h4 : (r25.map qaE)[(0 + (wI6 (t30 + (1 : Int))).toNat)]? = some (qaE x3)) <| aC h5 <| aC (qb2 h7) <| aC (qcW h7 (by simp) : t30 < ((r25.length : Nat) : Int)) <| aC (qcX qaE h7 : (r25.map qaE)[(0 + t30.toNat)]? = some (qaE x6)) <| aC h8 <| aC (qb2 h10) <| aC (qcW h10 (by simp) : t30 < ((r25.length : Nat) : Int)) <| aC (qcX qaE h10 : (r25.map qaE)[(0 + t30.toNat)]? = some (qaE x9)) <| aC (qe3 _ _ (bits .or .u32 (qdC .u32 x6 shift) (qiN .u32 x3 (wI6 ((32 : Int) - shift)))) _ : (r25.map qaE).set (0 + t30.toNat) (qdE (qaE x9) 0 [(T.int .u32 (bits .or .u32 (qdC .u32 x6 shift) (qiN .u32 x3 (wI6 ((32 : Int) - shift)))))]) = (r25.set (t30.toNat) (bits .or .u32 (qdC .u32 x6 shift) (qiN .u32 x3 (wI6 ((32 : Int) - shift))))).map qaE) <| aC (Nat.zero_le _ : 0 ≤ (0 + t30.toNat)) <| aC r0 <| aC (by simp : r25.length = (r25.set (t30.toNat) (bits .or .u32 (qdC .u32 x6 shift) (qiN .u32 x3 (wI6 ((32 : Int) - shift))))).length) <| aN) (ih _ _ h cx hn)
  ·obtain ⟨x3, h4, h⟩ := qaV h
   obtain ⟨h5, h⟩ := qb3 h
   obtain ⟨x6, h7, h⟩ := qaV h
   exact wkG [.go, rg1, bTr, rg2, rg1, rg5, bFa, rgG [oo, oo, oo, oo, .op .ir, opI (.ld (qaE x3)), oo, .op .dv, oo, oo, .op .ir, opI (.st (qaE x6) ((r25.set (t30.toNat) (bits .or .u32 (qdC .u32 x3 shift) (0 : Int))).map qaE))], .pre [.rl 7 0 (r25.set (t30.toNat) (bits .or .u32 (qdC .u32 x3 shift) (0 : Int))).length, .keep [6,7,29,30] [25]]] hn (aC h1 <| aC h2 <| aC (qb2 h4) <| aC (qcW h4 (by simp) : t30 < ((r25.length : Nat) : Int)) <| aC (qcX qaE h4 : (r25.map qaE)[(0 + t30.toNat)]? = some (qaE x3)) <| aC h5 <| aC (qb2 h7) <| aC (qcW h7 (by simp) : t30 < ((r25.length : Nat) : Int)) <| aC (qcX qaE h7 : (r25.map qaE)[(0 + t30.toNat)]? = some (qaE x6)) <| aC (qe3 _ _ (bits .or .u32 (qdC .u32 x3 shift) (0 : Int)) _ : (r25.map qaE).set (0 + t30.toNat) (qdE (qaE x6) 0 [(T.int .u32 (bits .or .u32 (qdC .u32 x3 shift) (0 : Int)))]) = (r25.set (t30.toNat) (bits .or .u32 (qdC .u32 x3 shift) (0 : Int))).map qaE) <| aC (Nat.zero_le _ : 0 ≤ (0 + t30.toNat)) <| aC r0 <| aC (by simp : r25.length = (r25.set (t30.toNat) (bits .or .u32 (qdC .u32 x3 shift) (0 : Int))).length) <| aN) (ih _ _ h cx hn)
 ·obtain ⟨x2, h3, h⟩ := qaV h
  have h := oinj h; subst h
  exact wkR [.go, rg1, bFa, rgG [oo, .snap 58 (max 0 (0 + r25.length)) (r25.map qaE), opI (.call [[1]] [(tl 1 r25 qaE)] (tl 1 x2 qaE)), oo]] hn (aC h1 <| aC (qfA _ _ _ (by simp) : ((r25.map qaE).drop 0).take r25.length = r25.map qaE) <| aC (rfl : (max 0 (0 + r25.length)) = (max 0 (0 + r25.length))) <| aC (qa4 h3) <| aN)
theorem zk3 {K} (_ : qsQ K) {cx} (hn : cx.n = 60) {shift t29 t30} {r} (h : qdH (K + 1) (.c2 shift t29 t30) = some r) : qsP cx (.c2 shift t29 t30) r := by
 rw [qdH] at h
 rcases qaY h with ⟨h1, h⟩ | ⟨h1, h⟩
 ·rcases qaY h with ⟨h2, h⟩ | ⟨h2, h⟩
  ·cases h
  ·cases h
 ·obtain ⟨x2, h3, h⟩ := qaV h
  have h := oinj h; subst h
  exact wkR [.go, rg1, bFa, rgG [oo, opI (.call [[1]] [(TV.c (T.sl 1 ([].map qaE)))] (tl 1 x2 qaE)), oo]] hn (aC h1 <| aC (qa4 h3) <| aN)
theorem zk2 {K} (ih : qsQ K) {cx} (hn : cx.n = 60) {r25 shift t29 t30} {r} (h : qdH (K + 1) (.c3 r25 shift t29 t30) = some r) : qsP cx (.c3 r25 shift t29 t30) r := by
 rw [qdH] at h
 exact wkG [rg2, .pre [.rl 7 0 r25.length, .keep [6,7,29,30] [25]]] hn (aC r0 <| aC (lq r25) <| aN) (ih _ _ h cx hn)
theorem qo1 : ∀ K : Nat, qsQ K
 | 0, c, r, h => by rw [qdH] at h; cases h
 | K + 1, .c0 .., r, h => fun cx hn => zk5 (qo1 K) hn h
 | K + 1, .c1 .., r, h => fun cx hn => zk4 (qo1 K) hn h
 | K + 1, .c2 .., r, h => fun cx hn => zk3 (qo1 K) hn h
 | K + 1, .c3 .., r, h => fun cx hn => zk2 (qo1 K) hn h
theorem qzA {K : Nat} {a : (List Int)} {n : Int} {r : (List Int)} (h : qwL K a n = some r) : qc0 prog 189 [(tl 1 a qaE), (ti .i64 n)] (tl 1 r qaE) :=
 qbG [[1]] (by kernel_rfl) (by simp) fun cx hn => qo1 K (.c0 a n) r h cx hn
open Go.Proofs.Try (prog)
inductive qpZ where
 | c0 (a : (List Int)) (b : (List Int))
 | c1 (r66 : (List Int)) (r71 : (List Int)) (n : Int) (shift : Int) (v : (List Int)) (top : Int) (next : Int) (j : Int)
 | c2 (r64 : (List Int)) (r71 : (List Int)) (n : Int) (shift : Int) (v : (List Int)) (top : Int) (next : Int) (j : Int)
 | c3 (r66 : (List Int)) (r71 : (List Int)) (n : Int) (shift : Int) (v : (List Int)) (top : Int) (next : Int) (j : Int) (guess : Int) (rest : Int)
 | c4 (r64 : (List Int)) (r71 : (List Int)) (n : Int) (shift : Int) (v : (List Int)) (top : Int) (next : Int) (j : Int) (guess : Int) (rest : Int)
 | c5 (r66 : (List Int)) (r71 : (List Int)) (n : Int) (shift : Int) (v : (List Int)) (top : Int) (next : Int) (j : Int) (guess : Int)
 | c6 (r64 : (List Int)) (r71 : (List Int)) (n : Int) (shift : Int) (v : (List Int)) (top : Int) (next : Int) (j : Int) (guess : Int)
 | c7 (r66 : (List Int)) (r71 : (List Int)) (n : Int) (shift : Int) (v : (List Int)) (top : Int) (next : Int) (j : Int) (guess : Int) (carry : Int) (borrow : Int) (t141 : (List Int)) (t142 : Int) (t143 : Int)
 | c8 (r64 : (List Int)) (r71 : (List Int)) (n : Int) (shift : Int) (v : (List Int)) (top : Int) (next : Int) (j : Int) (guess : Int) (carry : Int) (borrow : Int) (t141 : (List Int)) (t142 : Int) (t143 : Int)
 | c9 (r66 : (List Int)) (r71 : (List Int)) (n : Int) (shift : Int) (v : (List Int)) (top : Int) (next : Int) (j : Int)
 | c10 (r66 : (List Int)) (r71 : (List Int)) (n : Int) (shift : Int) (v : (List Int)) (top : Int) (next : Int) (j : Int) (sum : Int) (t210 : (List Int)) (t211 : Int) (t212 : Int)
 | c11 (r64 : (List Int)) (r71 : (List Int)) (n : Int) (shift : Int) (v : (List Int)) (top : Int) (next : Int) (j : Int)
 | c12 (r64 : (List Int)) (r71 : (List Int)) (n : Int) (shift : Int) (v : (List Int)) (top : Int) (next : Int) (j : Int) (sum : Int) (t210 : (List Int)) (t211 : Int) (t212 : Int)
def qaU : Nat → qpZ → Option ((List Int) × (List Int))
 | 0, _ => none
 | K + 1, .c0 a b =>
  (qgE K b).bind fun x1 =>
  (qo4 K a x1).bind fun x3 =>
  bif (decide (x3 < (0 : Int))) then
   (qgE K a).bind fun x6 =>
   some ([], x6)
  else
   bif (decide ((x1.length : Int) = (1 : Int))) then
    (gi x1 (0 : Int)).bind fun x7 =>
    (qq5 K a x7).bind fun x9 =>
    (qrV K (wU6 x9.2.1)).bind fun x11 =>
    some (x9.1, x11)
   else
    (gi x1 (wI6 ((x1.length : Int) - (1 : Int)))).bind fun x7 =>
    (qjA K x7).bind fun x9 =>
    (qtS K x1 x9).bind fun x11 =>
    (qt9 K a x9).bind fun x13 => match x13 with
    | none =>
     gd (0 ≤ (wI6 ((((([(0 : Int)] : List Int).map qaE).length : Nat) : Int) - (x1.length : Int))) ∧ (wI6 ((((([(0 : Int)] : List Int).map qaE).length : Nat) : Int) - (x1.length : Int))) ≤ (wI6 ((((([(0 : Int)] : List Int).map qaE).length : Nat) : Int) - (x1.length : Int))) ∧ (4 : Int) * (wI6 ((((([(0 : Int)] : List Int).map qaE).length : Nat) : Int) - (x1.length : Int))) ≤ 140737488355328) <|
     (gi x11 (wI6 ((x1.length : Int) - (1 : Int)))).bind fun x17 =>
     (gi x11 (wI6 ((x1.length : Int) - (2 : Int)))).bind fun x19 =>
     qaU K (.c1 ([(0 : Int)] : List Int) (List.replicate (wI6 ((((([(0 : Int)] : List Int).map qaE).length : Nat) : Int) - (x1.length : Int))).toNat ((0 : Int) : Int)) (x1.length : Int) x9 x11 (wU6 x17) (wU6 x19) (wI6 ((wI6 ((((([(0 : Int)] : List Int).map qaE).length : Nat) : Int) - (x1.length : Int))) - (1 : Int))))
    | some l15 =>
     gd ((l15 ++ ([(0 : Int)] : List Int)).length * 4 ≤ 140737488355328) <|
     gd (0 ≤ (wI6 (((((l15 ++ ([(0 : Int)] : List Int)).map qaE).length : Nat) : Int) - (x1.length : Int))) ∧ (wI6 (((((l15 ++ ([(0 : Int)] : List Int)).map qaE).length : Nat) : Int) - (x1.length : Int))) ≤ (wI6 (((((l15 ++ ([(0 : Int)] : List Int)).map qaE).length : Nat) : Int) - (x1.length : Int))) ∧ (4 : Int) * (wI6 (((((l15 ++ ([(0 : Int)] : List Int)).map qaE).length : Nat) : Int) - (x1.length : Int))) ≤ 140737488355328) <|
     (gi x11 (wI6 ((x1.length : Int) - (1 : Int)))).bind fun x18 =>
     (gi x11 (wI6 ((x1.length : Int) - (2 : Int)))).bind fun x20 =>
     qaU K (.c2 (l15 ++ ([(0 : Int)] : List Int)) (List.replicate (wI6 (((((l15 ++ ([(0 : Int)] : List Int)).map qaE).length : Nat) : Int) - (x1.length : Int))).toNat ((0 : Int) : Int)) (x1.length : Int) x9 x11 (wU6 x18) (wU6 x20) (wI6 ((wI6 (((((l15 ++ ([(0 : Int)] : List Int)).map qaE).length : Nat) : Int) - (x1.length : Int))) - (1 : Int))))
 | K + 1, .c1 r66 r71 n shift v top next j =>
  bif (decide ((0 : Int) ≤ j)) then
   (gi r66 (wI6 (j + n))).bind fun x2 =>
   (gi r66 (wI6 ((wI6 (j + n)) - (1 : Int)))).bind fun x4 =>
   (qo6 K (0 : Int) (bits .or .u64 (qiN .u64 (wU6 x2) (32 : Int)) (wU6 x4)) top).bind fun x6 =>
   qaU K (.c3 r66 r71 n shift v top next j x6.1 x6.2)
  else
   (qgE K r71).bind fun x2 =>
   gd (0 ≤ n ∧ 0 ≤ n.toNat ∧ n.toNat ≤ r66.length) <|
   (qwL K (r66.take n.toNat) shift).bind fun x5 =>
   some (x2, x5)
 | K + 1, .c2 r64 r71 n shift v top next j =>
  bif (decide ((0 : Int) ≤ j)) then
   (gi r64 (wI6 (j + n))).bind fun x2 =>
   (gi r64 (wI6 ((wI6 (j + n)) - (1 : Int)))).bind fun x4 =>
   (qo6 K (0 : Int) (bits .or .u64 (qiN .u64 (wU6 x2) (32 : Int)) (wU6 x4)) top).bind fun x6 =>
   qaU K (.c4 r64 r71 n shift v top next j x6.1 x6.2)
  else
   (qgE K r71).bind fun x2 =>
   gd (0 ≤ n ∧ 0 ≤ n.toNat ∧ n.toNat ≤ r64.length) <|
   (qwL K (r64.take n.toNat) shift).bind fun x5 =>
   some (x2, x5)
 | K + 1, .c3 r66 r71 n shift v top next j guess rest =>
  bif (decide ((4294967296 : Int) ≤ guess)) then
   bif (decide ((4294967296 : Int) ≤ (wU6 (rest + top)))) then
    qaU K (.c5 r66 r71 n shift v top next j (wU6 (guess - (1 : Int))))
   else
    qaU K (.c3 r66 r71 n shift v top next j (wU6 (guess - (1 : Int))) (wU6 (rest + top)))
  else
   (gi r66 (wI6 ((wI6 (j + n)) - (2 : Int)))).bind fun x2 =>
   bif (decide ((bits .or .u64 (qiN .u64 rest (32 : Int)) (wU6 x2)) < (wU6 (guess * next)))) then
    bif (decide ((4294967296 : Int) ≤ (wU6 (rest + top)))) then
     qaU K (.c5 r66 r71 n shift v top next j (wU6 (guess - (1 : Int))))
    else
     qaU K (.c3 r66 r71 n shift v top next j (wU6 (guess - (1 : Int))) (wU6 (rest + top)))
   else
    qaU K (.c5 r66 r71 n shift v top next j guess)
 | K + 1, .c4 r64 r71 n shift v top next j guess rest =>
  bif (decide ((4294967296 : Int) ≤ guess)) then
   bif (decide ((4294967296 : Int) ≤ (wU6 (rest + top)))) then
    qaU K (.c6 r64 r71 n shift v top next j (wU6 (guess - (1 : Int))))
   else
    qaU K (.c4 r64 r71 n shift v top next j (wU6 (guess - (1 : Int))) (wU6 (rest + top)))
  else
   (gi r64 (wI6 ((wI6 (j + n)) - (2 : Int)))).bind fun x2 =>
   bif (decide ((bits .or .u64 (qiN .u64 rest (32 : Int)) (wU6 x2)) < (wU6 (guess * next)))) then
    bif (decide ((4294967296 : Int) ≤ (wU6 (rest + top)))) then
     qaU K (.c6 r64 r71 n shift v top next j (wU6 (guess - (1 : Int))))
    else
     qaU K (.c4 r64 r71 n shift v top next j (wU6 (guess - (1 : Int))) (wU6 (rest + top)))
   else
    qaU K (.c6 r64 r71 n shift v top next j guess)
 | K + 1, .c5 r66 r71 n shift v top next j guess =>
  qaU K (.c7 r66 r71 n shift v top next j guess (0 : Int) (0 : Int) v (v.length : Int) (0 : Int))
 | K + 1, .c6 r64 r71 n shift v top next j guess =>
  qaU K (.c8 r64 r71 n shift v top next j guess (0 : Int) (0 : Int) v (v.length : Int) (0 : Int))
 | K + 1, .c7 r66 r71 n shift v top next j guess carry borrow t141 t142 t143 =>
  bif (decide (t143 < t142)) then
   (gi t141 t143).bind fun x2 =>
   (gi r66 (wI6 (t143 + j))).bind fun x4 =>
   (gi r66 (wI6 (t143 + j))).bind fun _ =>
   qaU K (.c7 (r66.set ((wI6 (t143 + j)).toNat) (wU3 (wU6 ((wU6 ((wU6 x4) - borrow)) - (bits .and .u64 (wU6 ((wU6 (guess * (wU6 x2))) + carry)) (4294967295 : Int)))))) r71 n shift v top next j guess (qdC .u64 (wU6 ((wU6 (guess * (wU6 x2))) + carry)) (32 : Int)) (qdC .u64 (wU6 ((wU6 ((wU6 x4) - borrow)) - (bits .and .u64 (wU6 ((wU6 (guess * (wU6 x2))) + carry)) (4294967295 : Int)))) (63 : Int)) t141 t142 (wI6 (t143 + (1 : Int))))
  else
   (gi r66 (wI6 (j + n))).bind fun x2 =>
   (gi r66 (wI6 (j + n))).bind fun _ =>
   (gi r71 j).bind fun _ =>
   bif (decide ((qdC .u64 (wU6 ((wU6 ((wU6 x2) - borrow)) - carry)) (63 : Int)) = (0 : Int))) then
    qaU K (.c9 (r66.set ((wI6 (j + n)).toNat) (wU3 (wU6 ((wU6 ((wU6 x2) - borrow)) - carry)))) (r71.set (j.toNat) (wU3 guess)) n shift v top next j)
   else
    (gi (r71.set (j.toNat) (wU3 guess)) j).bind fun x9 =>
    (gi (r71.set (j.toNat) (wU3 guess)) j).bind fun _ =>
    qaU K (.c10 (r66.set ((wI6 (j + n)).toNat) (wU3 (wU6 ((wU6 ((wU6 x2) - borrow)) - carry)))) ((r71.set (j.toNat) (wU3 guess)).set (j.toNat) (wU3 (x9 - (1 : Int)))) n shift v top next j (0 : Int) v (v.length : Int) (0 : Int))
 | K + 1, .c8 r64 r71 n shift v top next j guess carry borrow t141 t142 t143 =>
  bif (decide (t143 < t142)) then
   (gi t141 t143).bind fun x2 =>
   (gi r64 (wI6 (t143 + j))).bind fun x4 =>
   (gi r64 (wI6 (t143 + j))).bind fun _ =>
   qaU K (.c8 (r64.set ((wI6 (t143 + j)).toNat) (wU3 (wU6 ((wU6 ((wU6 x4) - borrow)) - (bits .and .u64 (wU6 ((wU6 (guess * (wU6 x2))) + carry)) (4294967295 : Int)))))) r71 n shift v top next j guess (qdC .u64 (wU6 ((wU6 (guess * (wU6 x2))) + carry)) (32 : Int)) (qdC .u64 (wU6 ((wU6 ((wU6 x4) - borrow)) - (bits .and .u64 (wU6 ((wU6 (guess * (wU6 x2))) + carry)) (4294967295 : Int)))) (63 : Int)) t141 t142 (wI6 (t143 + (1 : Int))))
  else
   (gi r64 (wI6 (j + n))).bind fun x2 =>
   (gi r64 (wI6 (j + n))).bind fun _ =>
   (gi r71 j).bind fun _ =>
   bif (decide ((qdC .u64 (wU6 ((wU6 ((wU6 x2) - borrow)) - carry)) (63 : Int)) = (0 : Int))) then
    qaU K (.c11 (r64.set ((wI6 (j + n)).toNat) (wU3 (wU6 ((wU6 ((wU6 x2) - borrow)) - carry)))) (r71.set (j.toNat) (wU3 guess)) n shift v top next j)
   else
    (gi (r71.set (j.toNat) (wU3 guess)) j).bind fun x9 =>
    (gi (r71.set (j.toNat) (wU3 guess)) j).bind fun _ =>
    qaU K (.c12 (r64.set ((wI6 (j + n)).toNat) (wU3 (wU6 ((wU6 ((wU6 x2) - borrow)) - carry)))) ((r71.set (j.toNat) (wU3 guess)).set (j.toNat) (wU3 (x9 - (1 : Int)))) n shift v top next j (0 : Int) v (v.length : Int) (0 : Int))
 | K + 1, .c9 r66 r71 n shift v top next j =>
  qaU K (.c1 r66 r71 n shift v top next (wI6 (j - (1 : Int))))
 | K + 1, .c10 r66 r71 n shift v top next j sum t210 t211 t212 =>
  bif (decide (t212 < t211)) then
   (gi t210 t212).bind fun x2 =>
   (gi r66 (wI6 (t212 + j))).bind fun x4 =>
   (qiU K x4 x2 sum).bind fun x6 =>
   (gi r66 (wI6 (t212 + j))).bind fun _ =>
   qaU K (.c10 (r66.set ((wI6 (t212 + j)).toNat) x6.1) r71 n shift v top next j x6.2 t210 t211 (wI6 (t212 + (1 : Int))))
  else
   (gi r66 (wI6 (j + n))).bind fun x2 =>
   (gi r66 (wI6 (j + n))).bind fun _ =>
   qaU K (.c9 (r66.set ((wI6 (j + n)).toNat) (wU3 (x2 + sum))) r71 n shift v top next j)
 | K + 1, .c11 r64 r71 n shift v top next j =>
  qaU K (.c2 r64 r71 n shift v top next (wI6 (j - (1 : Int))))
 | K + 1, .c12 r64 r71 n shift v top next j sum t210 t211 t212 =>
  bif (decide (t212 < t211)) then
   (gi t210 t212).bind fun x2 =>
   (gi r64 (wI6 (t212 + j))).bind fun x4 =>
   (qiU K x4 x2 sum).bind fun x6 =>
   (gi r64 (wI6 (t212 + j))).bind fun _ =>
   qaU K (.c12 (r64.set ((wI6 (t212 + j)).toNat) x6.1) r71 n shift v top next j x6.2 t210 t211 (wI6 (t212 + (1 : Int))))
  else
   (gi r64 (wI6 (j + n))).bind fun x2 =>
   (gi r64 (wI6 (j + n))).bind fun _ =>
   qaU K (.c11 (r64.set ((wI6 (j + n)).toNat) (wU3 (x2 + sum))) r71 n shift v top next j)
def qnJ (K : Nat) (a : (List Int)) (b : (List Int)) : Option ((List Int) × (List Int)) := qaU K (.c0 a b)
noncomputable def qa2 : Code := qcK prog 177
noncomputable def zdK : qpZ → List Fr
 | .c0 .. => [.code qa2]
 | .c1 .. => [.code (.loop (atC qa2 [1,0,1,1,1,1,1,1,1,1,1,1,0,1,0,0])), .blk 0, .code (atC qa2 [1,0,1,1,1,1,1,1,1,1,1,1,1]), .sc]
 | .c2 .. => [.code (.loop (atC qa2 [1,0,1,1,1,1,1,1,1,1,1,1,0,1,0,0])), .blk 0, .code (atC qa2 [1,0,1,1,1,1,1,1,1,1,1,1,1]), .sc]
 | .c3 .. => [.code (.loop (atC qa2 [1,0,1,1,1,1,1,1,1,1,1,1,0,1,0,0,1,0,0,1,0,0,0])), .blk 2, .code (atC qa2 [1,0,1,1,1,1,1,1,1,1,1,1,0,1,0,0,1,0,0,1,1]), .blk 1, .code (atC qa2 [1,0,1,1,1,1,1,1,1,1,1,1,0,1,0,0,1,1]), .lp (atC qa2 [1,0,1,1,1,1,1,1,1,1,1,1,0,1,0,0]), .blk 0, .code (atC qa2 [1,0,1,1,1,1,1,1,1,1,1,1,1]), .sc]
 | .c4 .. => [.code (.loop (atC qa2 [1,0,1,1,1,1,1,1,1,1,1,1,0,1,0,0,1,0,0,1,0,0,0])), .blk 2, .code (atC qa2 [1,0,1,1,1,1,1,1,1,1,1,1,0,1,0,0,1,0,0,1,1]), .blk 1, .code (atC qa2 [1,0,1,1,1,1,1,1,1,1,1,1,0,1,0,0,1,1]), .lp (atC qa2 [1,0,1,1,1,1,1,1,1,1,1,1,0,1,0,0]), .blk 0, .code (atC qa2 [1,0,1,1,1,1,1,1,1,1,1,1,1]), .sc]
 | .c5 .. => [.code (atC qa2 [1,0,1,1,1,1,1,1,1,1,1,1,0,1,0,0,1,0,0,1,1,0]), .code (atC qa2 [1,0,1,1,1,1,1,1,1,1,1,1,0,1,0,0,1,0,0,1,1,1]), .blk 1, .code (atC qa2 [1,0,1,1,1,1,1,1,1,1,1,1,0,1,0,0,1,1]), .lp (atC qa2 [1,0,1,1,1,1,1,1,1,1,1,1,0,1,0,0]), .blk 0, .code (atC qa2 [1,0,1,1,1,1,1,1,1,1,1,1,1]), .sc]
 | .c6 .. => [.code (atC qa2 [1,0,1,1,1,1,1,1,1,1,1,1,0,1,0,0,1,0,0,1,1,0]), .code (atC qa2 [1,0,1,1,1,1,1,1,1,1,1,1,0,1,0,0,1,0,0,1,1,1]), .blk 1, .code (atC qa2 [1,0,1,1,1,1,1,1,1,1,1,1,0,1,0,0,1,1]), .lp (atC qa2 [1,0,1,1,1,1,1,1,1,1,1,1,0,1,0,0]), .blk 0, .code (atC qa2 [1,0,1,1,1,1,1,1,1,1,1,1,1]), .sc]
 | .c7 .. => [.code (.loop (atC qa2 [1,0,1,1,1,1,1,1,1,1,1,1,0,1,0,0,1,0,0,1,1,1,0,1,0,0])), .blk 4, .code (atC qa2 [1,0,1,1,1,1,1,1,1,1,1,1,0,1,0,0,1,0,0,1,1,1,1]), .blk 1, .code (atC qa2 [1,0,1,1,1,1,1,1,1,1,1,1,0,1,0,0,1,1]), .lp (atC qa2 [1,0,1,1,1,1,1,1,1,1,1,1,0,1,0,0]), .blk 0, .code (atC qa2 [1,0,1,1,1,1,1,1,1,1,1,1,1]), .sc]
 | .c8 .. => [.code (.loop (atC qa2 [1,0,1,1,1,1,1,1,1,1,1,1,0,1,0,0,1,0,0,1,1,1,0,1,0,0])), .blk 4, .code (atC qa2 [1,0,1,1,1,1,1,1,1,1,1,1,0,1,0,0,1,0,0,1,1,1,1]), .blk 1, .code (atC qa2 [1,0,1,1,1,1,1,1,1,1,1,1,0,1,0,0,1,1]), .lp (atC qa2 [1,0,1,1,1,1,1,1,1,1,1,1,0,1,0,0]), .blk 0, .code (atC qa2 [1,0,1,1,1,1,1,1,1,1,1,1,1]), .sc]
 | .c9 .. => [.code (atC qa2 [1,0,1,1,1,1,1,1,1,1,1,1,0,1,0,0,1,1]), .lp (atC qa2 [1,0,1,1,1,1,1,1,1,1,1,1,0,1,0,0]), .blk 0, .code (atC qa2 [1,0,1,1,1,1,1,1,1,1,1,1,1]), .sc]
 | .c10 .. => [.code (.loop (atC qa2 [1,0,1,1,1,1,1,1,1,1,1,1,0,1,0,0,1,0,0,1,1,1,1,1,1,1,1,1,1,0,1,0,0])), .blk 6, .code (atC qa2 [1,0,1,1,1,1,1,1,1,1,1,1,0,1,0,0,1,0,0,1,1,1,1,1,1,1,1,1,1,1]), .blk 1, .code (atC qa2 [1,0,1,1,1,1,1,1,1,1,1,1,0,1,0,0,1,1]), .lp (atC qa2 [1,0,1,1,1,1,1,1,1,1,1,1,0,1,0,0]), .blk 0, .code (atC qa2 [1,0,1,1,1,1,1,1,1,1,1,1,1]), .sc]
 | .c11 .. => [.code (atC qa2 [1,0,1,1,1,1,1,1,1,1,1,1,0,1,0,0,1,1]), .lp (atC qa2 [1,0,1,1,1,1,1,1,1,1,1,1,0,1,0,0]), .blk 0, .code (atC qa2 [1,0,1,1,1,1,1,1,1,1,1,1,1]), .sc]
 | .c12 .. => [.code (.loop (atC qa2 [1,0,1,1,1,1,1,1,1,1,1,1,0,1,0,0,1,0,0,1,1,1,1,1,1,1,1,1,1,0,1,0,0])), .blk 6, .code (atC qa2 [1,0,1,1,1,1,1,1,1,1,1,1,0,1,0,0,1,0,0,1,1,1,1,1,1,1,1,1,1,1]), .blk 1, .code (atC qa2 [1,0,1,1,1,1,1,1,1,1,1,1,0,1,0,0,1,1]), .lp (atC qa2 [1,0,1,1,1,1,1,1,1,1,1,1,0,1,0,0]), .blk 0, .code (atC qa2 [1,0,1,1,1,1,1,1,1,1,1,1,1]), .sc]
def zgF : qpZ → St
 | .c0 a b => St.init [(tl 1 a qaE), (tl 1 b qaE)]
 | .c1 r66 r71 n shift v top next j => ⟨[(4, .c (C.row 71 0 r71.length)), (6, vi .i64 n), (10, vi .i64 shift), (11, vl 1 v qaE), (12, .c (C.row 66 0 r66.length)), (13, vi .u64 top), (14, vi .u64 next), (15, vi .i64 j)], [(66, .row 101 1 (r66.map qaE) 0), (71, .row 101 1 (r71.map qaE) 0)], []⟩
 | .c2 r64 r71 n shift v top next j => ⟨[(4, .c (C.row 71 0 r71.length)), (6, vi .i64 n), (10, vi .i64 shift), (11, vl 1 v qaE), (12, .c (C.row 64 0 r64.length)), (13, vi .u64 top), (14, vi .u64 next), (15, vi .i64 j)], [(64, .row 101 1 (r64.map qaE) 0), (71, .row 101 1 (r71.map qaE) 0)], []⟩
 | .c3 r66 r71 n shift v top next j guess rest => ⟨[(4, .c (C.row 71 0 r71.length)), (6, vi .i64 n), (10, vi .i64 shift), (11, vl 1 v qaE), (12, .c (C.row 66 0 r66.length)), (13, vi .u64 top), (14, vi .u64 next), (15, vi .i64 j), (16, vi .u64 guess), (17, vi .u64 rest)], [(66, .row 101 1 (r66.map qaE) 0), (71, .row 101 1 (r71.map qaE) 0)], []⟩
 | .c4 r64 r71 n shift v top next j guess rest => ⟨[(4, .c (C.row 71 0 r71.length)), (6, vi .i64 n), (10, vi .i64 shift), (11, vl 1 v qaE), (12, .c (C.row 64 0 r64.length)), (13, vi .u64 top), (14, vi .u64 next), (15, vi .i64 j), (16, vi .u64 guess), (17, vi .u64 rest)], [(64, .row 101 1 (r64.map qaE) 0), (71, .row 101 1 (r71.map qaE) 0)], []⟩
 | .c5 r66 r71 n shift v top next j guess => ⟨[(4, .c (C.row 71 0 r71.length)), (6, vi .i64 n), (10, vi .i64 shift), (11, vl 1 v qaE), (12, .c (C.row 66 0 r66.length)), (13, vi .u64 top), (14, vi .u64 next), (15, vi .i64 j), (16, vi .u64 guess)], [(66, .row 101 1 (r66.map qaE) 0), (71, .row 101 1 (r71.map qaE) 0)], []⟩
 | .c6 r64 r71 n shift v top next j guess => ⟨[(4, .c (C.row 71 0 r71.length)), (6, vi .i64 n), (10, vi .i64 shift), (11, vl 1 v qaE), (12, .c (C.row 64 0 r64.length)), (13, vi .u64 top), (14, vi .u64 next), (15, vi .i64 j), (16, vi .u64 guess)], [(64, .row 101 1 (r64.map qaE) 0), (71, .row 101 1 (r71.map qaE) 0)], []⟩
 | .c7 r66 r71 n shift v top next j guess carry borrow t141 t142 t143 => ⟨[(4, .c (C.row 71 0 r71.length)), (6, vi .i64 n), (10, vi .i64 shift), (11, vl 1 v qaE), (12, .c (C.row 66 0 r66.length)), (13, vi .u64 top), (14, vi .u64 next), (15, vi .i64 j), (16, vi .u64 guess), (18, vi .u64 carry), (19, vi .u64 borrow), (141, vl 1 t141 qaE), (142, vi .i64 t142), (143, vi .i64 t143)], [(66, .row 101 1 (r66.map qaE) 0), (71, .row 101 1 (r71.map qaE) 0)], []⟩
 | .c8 r64 r71 n shift v top next j guess carry borrow t141 t142 t143 => ⟨[(4, .c (C.row 71 0 r71.length)), (6, vi .i64 n), (10, vi .i64 shift), (11, vl 1 v qaE), (12, .c (C.row 64 0 r64.length)), (13, vi .u64 top), (14, vi .u64 next), (15, vi .i64 j), (16, vi .u64 guess), (18, vi .u64 carry), (19, vi .u64 borrow), (141, vl 1 t141 qaE), (142, vi .i64 t142), (143, vi .i64 t143)], [(64, .row 101 1 (r64.map qaE) 0), (71, .row 101 1 (r71.map qaE) 0)], []⟩
 | .c9 r66 r71 n shift v top next j => ⟨[(4, .c (C.row 71 0 r71.length)), (6, vi .i64 n), (10, vi .i64 shift), (11, vl 1 v qaE), (12, .c (C.row 66 0 r66.length)), (13, vi .u64 top), (14, vi .u64 next), (15, vi .i64 j)], [(66, .row 101 1 (r66.map qaE) 0), (71, .row 101 1 (r71.map qaE) 0)], []⟩
 | .c10 r66 r71 n shift v top next j sum t210 t211 t212 => ⟨[(4, .c (C.row 71 0 r71.length)), (6, vi .i64 n), (10, vi .i64 shift), (11, vl 1 v qaE), (12, .c (C.row 66 0 r66.length)), (13, vi .u64 top), (14, vi .u64 next), (15, vi .i64 j), (25, vi .u32 sum), (210, vl 1 t210 qaE), (211, vi .i64 t211), (212, vi .i64 t212)], [(66, .row 101 1 (r66.map qaE) 0), (71, .row 101 1 (r71.map qaE) 0)], []⟩
 | .c11 r64 r71 n shift v top next j => ⟨[(4, .c (C.row 71 0 r71.length)), (6, vi .i64 n), (10, vi .i64 shift), (11, vl 1 v qaE), (12, .c (C.row 64 0 r64.length)), (13, vi .u64 top), (14, vi .u64 next), (15, vi .i64 j)], [(64, .row 101 1 (r64.map qaE) 0), (71, .row 101 1 (r71.map qaE) 0)], []⟩
 | .c12 r64 r71 n shift v top next j sum t210 t211 t212 => ⟨[(4, .c (C.row 71 0 r71.length)), (6, vi .i64 n), (10, vi .i64 shift), (11, vl 1 v qaE), (12, .c (C.row 64 0 r64.length)), (13, vi .u64 top), (14, vi .u64 next), (15, vi .i64 j), (25, vi .u32 sum), (210, vl 1 t210 qaE), (211, vi .i64 t211), (212, vi .i64 t212)], [(64, .row 101 1 (r64.map qaE) 0), (71, .row 101 1 (r71.map qaE) 0)], []⟩
def qeU (cx : Cx) (c : qpZ) (r : ((List Int) × (List Int))) : Prop := Wk prog cx (qd0 prog 177 [[1], [1]] (TV.tup [(false, [(T.sl 1 (r.1.map qaE))]), (false, [(T.sl 1 (r.2.map qaE))])])) (zdK c) .normal (zgF c)
abbrev qeV (K : Nat) : Prop := ∀ c r, qaU K c = some r → ∀ cx : Cx, cx.n = 251 → qeU cx c r
theorem zgP {K} (ih : qeV K) {cx} (hn : cx.n = 251) {a b} {r} (h : qaU (K + 1) (.c0 a b) = some r) : qeU cx (.c0 a b) r := by
 rw [qaU] at h
 obtain ⟨x1, h2, h⟩ := qaV h
 obtain ⟨x3, h4, h⟩ := qaV h
 rcases qaY h with ⟨h5, h⟩ | ⟨h5, h⟩
 ·obtain ⟨x6, h7, h⟩ := qaV h
  have h := oinj h; subst h
  exact wkR [rg2, rgG [oo, opI (.call [[1]] [(tl 1 b qaE)] (tl 1 x1 qaE)), oo], rgG [oo, oo, opI (.call [[1], [1]] [(tl 1 a qaE), (tl 1 x1 qaE)] (ti .i64 x3)), oo], bTr, rgG [oo, opI (.call [[1]] [(tl 1 a qaE)] (tl 1 x6 qaE)), oo, oo]] hn (aC (qc8 h2) <| aC (qfE h4) <| aC h5 <| aC (qc8 h7) <| aN)
 ·rcases qaY h with ⟨h6, h⟩ | ⟨h6, h⟩
  ·obtain ⟨x7, h8, h⟩ := qaV h
   obtain ⟨x9, h10, h⟩ := qaV h
   obtain ⟨x11, h12, h⟩ := qaV h
   have h := oinj h; subst h
   exact wkR [rg2, rgG [oo, opI (.call [[1]] [(tl 1 b qaE)] (tl 1 x1 qaE)), oo], rgG [oo, oo, opI (.call [[1], [1]] [(tl 1 a qaE), (tl 1 x1 qaE)] (ti .i64 x3)), oo], bFa, rgG [oo, opI (.ln (x1.length : Int)), oo], rg2, bTr, rgG [oo, oo, opI (.ix (qaE x7)), oo, opI (.call [[1], [0]] [(tl 1 a qaE), (ti .u32 x7)] (TV.tup [(false, [(T.sl 1 (x9.1.map qaE))]), (false, [(T.int .u32 x9.2.1)]), (false, [(T.bool x9.2.2)])])), oo, oo, oo, oo, oo, oo, oo], rgG [oo, oo, oo, opI (.call [[0]] [(TV.c (T.int .u64 (wU6 x9.2.1)))] (tl 1 x11 qaE)), oo, oo]] hn (aC (qc8 h2) <| aC (qfE h4) <| aC h5 <| aC (qdF x1 qaE) <| aC h6 <| aC (qb2 h8) <| aC (qfK qaE h8) <| aC (q2C h10) <| aC (qnP h12) <| aN)
  ·obtain ⟨x7, h8, h⟩ := qaV h
   obtain ⟨x9, h10, h⟩ := qaV h
   obtain ⟨x11, h12, h⟩ := qaV h
   obtain ⟨x13, h14, h⟩ := qaV h
   cases x13 with
   | none =>
    obtain ⟨h16, h⟩ := qb3 h
    obtain ⟨x17, h18, h⟩ := qaV h
    obtain ⟨x19, h20, h⟩ := qaV h
    exact wkG [rg2, rgG [oo, opI (.call [[1]] [(tl 1 b qaE)] (tl 1 x1 qaE)), oo], rgG [oo, oo, opI (.call [[1], [1]] [(tl 1 a qaE), (tl 1 x1 qaE)] (ti .i64 x3)), oo], bFa, rgG [oo, opI (.ln (x1.length : Int)), oo], rg2, bFa, rgG [oo, oo, oo, opI (.ix (qaE x7)), oo, opI (.call [[0]] [(ti .u32 x7)] (ti .i64 x9)), oo], rgG [oo, oo, opI (.call [[1], [0]] [(tl 1 x1 qaE), (ti .i64 x9)] (tl 1 x11 qaE)), oo], rgG [oo, oo, .callN [[1], [0]] 101 1 none, opI (.lit (([(0 : Int)] : List Int).map qaE)), opI (.appN (([(0 : Int)] : List Int).map qaE)), oo], rgG [oo, oo, oo, oo, opI (.mk (qaE (0 : Int)) ((List.replicate (wI6 ((((([(0 : Int)] : List Int).map qaE).length : Nat) : Int) - (x1.length : Int))).toNat ((0 : Int) : Int)).map qaE)), oo], .draw [.p, .p, .p, (.ix (qaE x17)), .p, .p, .p, .p, .p, (.ix (qaE x19)), .p, .p, .p] [.op .p], rg6, .pre [.rl 4 0 (List.replicate (wI6 ((((([(0 : Int)] : List Int).map qaE).length : Nat) : Int) - (x1.length : Int))).toNat ((0 : Int) : Int)).length, .rl 12 0 ([(0 : Int)] : List Int).length, .keep [4,6,10,11,12,13,14,15] [66,71]]] hn (aC (qc8 h2) <| aC (qfE h4) <| aC h5 <| aC (qdF x1 qaE) <| aC h6 <| aC (qb2 h8) <| aC (qfK qaE h8) <| aC (qmW h10) <| aC (qmI h12) <| aC (quK h14) <| aC (by kernel_rfl : [(T.int .u32 (0 : Int))] = (([(0 : Int)] : List Int).map qaE).flatten) <| aC (qfA _ _ _ (by simp) : ((([(0 : Int)] : List Int).map qaE).drop 0).take 1 = ([(0 : Int)] : List Int).map qaE) <| aC (by simp : 0 < (([(0 : Int)] : List Int).map qaE).length) <| aC (by simp : (([(0 : Int)] : List Int).map qaE).length * 4 ≤ 140737488355328) <| aC (by simp [maxLen] : (([(0 : Int)] : List Int).map qaE).length ≤ maxLen) <| aC h16.1 <| aC h16.2.1 <| aC h16.2.2 <| aC (qu3 _ _ _ : List.replicate (wI6 ((((([(0 : Int)] : List Int).map qaE).length : Nat) : Int) - (x1.length : Int))).toNat (qaE (0 : Int)) = (List.replicate (wI6 ((((([(0 : Int)] : List Int).map qaE).length : Nat) : Int) - (x1.length : Int))).toNat ((0 : Int) : Int)).map qaE) <| aC (qb2 h18) <| aC (qfK qaE h18) <| aC (qb2 h20) <| aC (qfK qaE h20) <| aC r0 <| aC (by simp : (wI6 ((((([(0 : Int)] : List Int).map qaE).length : Nat) : Int) - (x1.length : Int))).toNat = (List.replicate (wI6 ((((([(0 : Int)] : List Int).map qaE).length : Nat) : Int) - (x1.length : Int))).toNat ((0 : Int) : Int)).length) <| aC r0 <| aC (by simp : (([(0 : Int)] : List Int).map qaE).length = ([(0 : Int)] : List Int).length) <| aN) (ih _ _ h cx hn)
   | some l15 =>
    obtain ⟨h16, h⟩ := qb3 h
    obtain ⟨h17, h⟩ := qb3 h
    obtain ⟨x18, h19, h⟩ := qaV h
    obtain ⟨x20, h21, h⟩ := qaV h
    exact wkG [rg2, rgG [oo, opI (.call [[1]] [(tl 1 b qaE)] (tl 1 x1 qaE)), oo], rgG [oo, oo, opI (.call [[1], [1]] [(tl 1 a qaE), (tl 1 x1 qaE)] (ti .i64 x3)), oo], bFa, rgG [oo, opI (.ln (x1.length : Int)), oo], rg2, bFa, rgG [oo, oo, oo, opI (.ix (qaE x7)), oo, opI (.call [[0]] [(ti .u32 x7)] (ti .i64 x9)), oo], rgG [oo, oo, opI (.call [[1], [0]] [(tl 1 x1 qaE), (ti .i64 x9)] (tl 1 x11 qaE)), oo], rgG [oo, oo, .callN [[1], [0]] 101 1 (some (l15.map qaE)), opI (.lit (([(0 : Int)] : List Int).map qaE)), .appR (([(0 : Int)] : List Int).map qaE) ((l15 ++ ([(0 : Int)] : List Int)).map qaE), oo], rgG [oo, oo, oo, oo, opI (.mk (qaE (0 : Int)) ((List.replicate (wI6 (((((l15 ++ ([(0 : Int)] : List Int)).map qaE).length : Nat) : Int) - (x1.length : Int))).toNat ((0 : Int) : Int)).map qaE)), oo], .draw [.p, .p, .p, (.ix (qaE x18)), .p, .p, .p, .p, .p, (.ix (qaE x20)), .p, .p, .p] [.op .p], rg6, .pre [.rl 4 0 (List.replicate (wI6 (((((l15 ++ ([(0 : Int)] : List Int)).map qaE).length : Nat) : Int) - (x1.length : Int))).toNat ((0 : Int) : Int)).length, .rl 12 0 (l15 ++ ([(0 : Int)] : List Int)).length, .keep [4,6,10,11,12,13,14,15] [64,71]]] hn (aC (qc8 h2) <| aC (qfE h4) <| aC h5 <| aC (qdF x1 qaE) <| aC h6 <| aC (qb2 h8) <| aC (qfK qaE h8) <| aC (qmW h10) <| aC (qmI h12) <| aC (quK h14) <| aC (by kernel_rfl : [(T.int .u32 (0 : Int))] = (([(0 : Int)] : List Int).map qaE).flatten) <| aC (lq (l15.map qaE)) <| aC (qfA _ _ _ (by simp) : ((([(0 : Int)] : List Int).map qaE).drop 0).take 1 = ([(0 : Int)] : List Int).map qaE) <| aC (qxK _ _ _ : l15.map qaE ++ ([(0 : Int)] : List Int).map qaE = (l15 ++ ([(0 : Int)] : List Int)).map qaE) <| aC ((qeG _ _).symm ▸ h16 : ((l15 ++ ([(0 : Int)] : List Int)).map qaE).length * 4 ≤ 140737488355328) <| aC ((qeG _ _).symm ▸ room (by decide) h16 : ((l15 ++ ([(0 : Int)] : List Int)).map qaE).length ≤ maxLen) <| aC h17.1 <| aC h17.2.1 <| aC h17.2.2 <| aC (qu3 _ _ _ : List.replicate (wI6 (((((l15 ++ ([(0 : Int)] : List Int)).map qaE).length : Nat) : Int) - (x1.length : Int))).toNat (qaE (0 : Int)) = (List.replicate (wI6 (((((l15 ++ ([(0 : Int)] : List Int)).map qaE).length : Nat) : Int) - (x1.length : Int))).toNat ((0 : Int) : Int)).map qaE) <| aC (qb2 h19) <| aC (qfK qaE h19) <| aC (qb2 h21) <| aC (qfK qaE h21) <| aC r0 <| aC (by simp : (wI6 (((((l15 ++ ([(0 : Int)] : List Int)).map qaE).length : Nat) : Int) - (x1.length : Int))).toNat = (List.replicate (wI6 (((((l15 ++ ([(0 : Int)] : List Int)).map qaE).length : Nat) : Int) - (x1.length : Int))).toNat ((0 : Int) : Int)).length) <| aC r0 <| aC (by simp : ((l15 ++ ([(0 : Int)] : List Int)).map qaE).length = (l15 ++ ([(0 : Int)] : List Int)).length) <| aN) (ih _ _ h cx hn)
theorem zgO {K} (ih : qeV K) {cx} (hn : cx.n = 251) {r66 r71 n shift v top next j} {r} (h : qaU (K + 1) (.c1 r66 r71 n shift v top next j) = some r) : qeU cx (.c1 r66 r71 n shift v top next j) r := by
 rw [qaU] at h
 rcases qaY h with ⟨h1, h⟩ | ⟨h1, h⟩
 ·obtain ⟨x2, h3, h⟩ := qaV h
  obtain ⟨x4, h5, h⟩ := qaV h
  obtain ⟨x6, h7, h⟩ := qaV h
  exact wkG [.go, rg2, bTr, .draw [.mv, .p, .p, .p, .ir, (.ld (qaE x2)), .p, .p, .mv, .p, .p, .p, .p, .ir, (.ld (qaE x4)), .p, .p, .p, (.call [[0], [0], [0]] [(TV.c (T.int .u64 (0 : Int))), (TV.c (T.int .u64 (bits .or .u64 (qiN .u64 (wU6 x2) (32 : Int)) (wU6 x4)))), (ti .u64 top)] (TV.tup [(false, [(T.int .u64 x6.1)]), (false, [(T.int .u64 x6.2)])])), .p, .p, .p, .p] [.op .p], .pre [.rl 4 0 r71.length, .rl 12 0 r66.length, .keep [4,6,10,11,12,13,14,15,16,17] [66,71]]] hn (aC h1 <| aC (qb2 h3) <| aC (qcW h3 (by simp) : (wI6 (j + n)) < ((r66.length : Nat) : Int)) <| aC (qcX qaE h3 : (r66.map qaE)[(0 + (wI6 (j + n)).toNat)]? = some (qaE x2)) <| aC (qb2 h5) <| aC (qcW h5 (by simp) : (wI6 ((wI6 (j + n)) - (1 : Int))) < ((r66.length : Nat) : Int)) <| aC (qcX qaE h5 : (r66.map qaE)[(0 + (wI6 ((wI6 (j + n)) - (1 : Int))).toNat)]? = some (qaE x4)) <| aC (quN h7) <| aC r0 <| aC (lq r71) <| aC r0 <| aC (lq r66) <| aN) (ih _ _ h cx hn)
 ·obtain ⟨x2, h3, h⟩ := qaV h
  obtain ⟨h4, h⟩ := qb3 h
  obtain ⟨x5, h6, h⟩ := qaV h
  have h := oinj h; subst h
  exact wkR [.go, rg2, bFa, .pre [.snap 4 (max 0 (0 + r71.length)) (r71.map qaE), .snap 12 (max 0 (0 + r66.length)) (r66.map qaE)], .draw [.p, (.call [[1]] [(tl 1 r71 qaE)] (tl 1 x2 qaE)), .p, .p, (.slT 0 n.toNat ((r66.take n.toNat).map qaE)), .p] [opI (.call [[1], [0]] [(TV.c (T.sl 1 ((r66.take n.toNat).map qaE))), (ti .i64 shift)] (tl 1 x5 qaE)), .op .p, .op .p]] hn (aC h1 <| aC (qfA _ _ _ (by simp) : ((r71.map qaE).drop 0).take r71.length = r71.map qaE) <| aC (rfl : (max 0 (0 + r71.length)) = (max 0 (0 + r71.length))) <| aC (qfA _ _ _ (by simp) : ((r66.map qaE).drop 0).take r66.length = r66.map qaE) <| aC (rfl : (max 0 (0 + r66.length)) = (max 0 (0 + r66.length))) <| aC (qc8 h3) <| aC r0 <| aC (⟨h4.1, rfl⟩ : 0 ≤ n ∧ n.toNat = n.toNat) <| aC h4.2.1 <| aC (znM _ h4.2.2 : n.toNat ≤ (r66.map qaE).length) <| aC (zg7 _ _ _ : ((r66.map qaE).take n.toNat).drop 0 = (r66.take n.toNat).map qaE) <| aC (qzA h6) <| aN)
theorem zgN {K} (ih : qeV K) {cx} (hn : cx.n = 251) {r64 r71 n shift v top next j} {r} (h : qaU (K + 1) (.c2 r64 r71 n shift v top next j) = some r) : qeU cx (.c2 r64 r71 n shift v top next j) r := by
 rw [qaU] at h
 rcases qaY h with ⟨h1, h⟩ | ⟨h1, h⟩
 ·obtain ⟨x2, h3, h⟩ := qaV h
  obtain ⟨x4, h5, h⟩ := qaV h
  obtain ⟨x6, h7, h⟩ := qaV h
  exact wkG [.go, rg2, bTr, .draw [.mv, .p, .p, .p, .ir, (.ld (qaE x2)), .p, .p, .mv, .p, .p, .p, .p, .ir, (.ld (qaE x4)), .p, .p, .p, (.call [[0], [0], [0]] [(TV.c (T.int .u64 (0 : Int))), (TV.c (T.int .u64 (bits .or .u64 (qiN .u64 (wU6 x2) (32 : Int)) (wU6 x4)))), (ti .u64 top)] (TV.tup [(false, [(T.int .u64 x6.1)]), (false, [(T.int .u64 x6.2)])])), .p, .p, .p, .p] [.op .p], .pre [.rl 4 0 r71.length, .rl 12 0 r64.length, .keep [4,6,10,11,12,13,14,15,16,17] [64,71]]] hn (aC h1 <| aC (qb2 h3) <| aC (qcW h3 (by simp) : (wI6 (j + n)) < ((r64.length : Nat) : Int)) <| aC (qcX qaE h3 : (r64.map qaE)[(0 + (wI6 (j + n)).toNat)]? = some (qaE x2)) <| aC (qb2 h5) <| aC (qcW h5 (by simp) : (wI6 ((wI6 (j + n)) - (1 : Int))) < ((r64.length : Nat) : Int)) <| aC (qcX qaE h5 : (r64.map qaE)[(0 + (wI6 ((wI6 (j + n)) - (1 : Int))).toNat)]? = some (qaE x4)) <| aC (quN h7) <| aC r0 <| aC (lq r71) <| aC r0 <| aC (lq r64) <| aN) (ih _ _ h cx hn)
 ·obtain ⟨x2, h3, h⟩ := qaV h
  obtain ⟨h4, h⟩ := qb3 h
  obtain ⟨x5, h6, h⟩ := qaV h
  have h := oinj h; subst h
  exact wkR [.go, rg2, bFa, .pre [.snap 4 (max 0 (0 + r71.length)) (r71.map qaE), .snap 12 (max 0 (0 + r64.length)) (r64.map qaE)], .draw [.p, (.call [[1]] [(tl 1 r71 qaE)] (tl 1 x2 qaE)), .p, .p, (.slT 0 n.toNat ((r64.take n.toNat).map qaE)), .p] [opI (.call [[1], [0]] [(TV.c (T.sl 1 ((r64.take n.toNat).map qaE))), (ti .i64 shift)] (tl 1 x5 qaE)), .op .p, .op .p]] hn (aC h1 <| aC (qfA _ _ _ (by simp) : ((r71.map qaE).drop 0).take r71.length = r71.map qaE) <| aC (rfl : (max 0 (0 + r71.length)) = (max 0 (0 + r71.length))) <| aC (qfA _ _ _ (by simp) : ((r64.map qaE).drop 0).take r64.length = r64.map qaE) <| aC (rfl : (max 0 (0 + r64.length)) = (max 0 (0 + r64.length))) <| aC (qc8 h3) <| aC r0 <| aC (⟨h4.1, rfl⟩ : 0 ≤ n ∧ n.toNat = n.toNat) <| aC h4.2.1 <| aC (znM _ h4.2.2 : n.toNat ≤ (r64.map qaE).length) <| aC (zg7 _ _ _ : ((r64.map qaE).take n.toNat).drop 0 = (r64.take n.toNat).map qaE) <| aC (qzA h6) <| aN)
theorem zgM {K} (ih : qeV K) {cx} (hn : cx.n = 251) {r66 r71 n shift v top next j guess rest} {r} (h : qaU (K + 1) (.c3 r66 r71 n shift v top next j guess rest) = some r) : qeU cx (.c3 r66 r71 n shift v top next j guess rest) r := by
 rw [qaU] at h
 rcases qaY h with ⟨h1, h⟩ | ⟨h1, h⟩
 ·rcases qaY h with ⟨h2, h⟩ | ⟨h2, h⟩
  ·exact wkG [.go, rgG [oo, oo, oo, .sb 117 true, oo, oo, oo, oo, oo, oo, oo, oo, oo, oo, oo, oo, oo, oo, oo, oo], bTr, rg3, rg4, rg2, bTr, .pre [.rl 4 0 r71.length, .rl 12 0 r66.length, .keep [4,6,10,11,12,13,14,15,16] [66,71]]] hn (aC h1 <| aC rt <| aC h2 <| aC r0 <| aC (lq r71) <| aC r0 <| aC (lq r66) <| aN) (ih _ _ h cx hn)
  ·exact wkG [.go, rgG [oo, oo, oo, .sb 117 true, oo, oo, oo, oo, oo, oo, oo, oo, oo, oo, oo, oo, oo, oo, oo, oo], bTr, rg3, rg4, rg2, bFa, .pre [.rl 4 0 r71.length, .rl 12 0 r66.length, .keep [4,6,10,11,12,13,14,15,16,17] [66,71]]] hn (aC h1 <| aC rt <| aC h2 <| aC r0 <| aC (lq r71) <| aC r0 <| aC (lq r66) <| aN) (ih _ _ h cx hn)
 ·obtain ⟨x2, h3, h⟩ := qaV h
  rcases qaY h with ⟨h4, h⟩ | ⟨h4, h⟩
  ·rcases qaY h with ⟨h5, h⟩ | ⟨h5, h⟩
   ·exact wkG [.go, rgG [oo, oo, oo, .sb 117 false, oo, oo, oo, oo, oo, oo, oo, oo, oo, oo, .op .ir, opI (.ld (qaE x2)), oo, oo, oo, oo], bTr, rg3, rg4, rg2, bTr, .pre [.rl 4 0 r71.length, .rl 12 0 r66.length, .keep [4,6,10,11,12,13,14,15,16] [66,71]]] hn (aC h1 <| aC (qb2 h3) <| aC (qcW h3 (by simp) : (wI6 ((wI6 (j + n)) - (2 : Int))) < ((r66.length : Nat) : Int)) <| aC (qcX qaE h3 : (r66.map qaE)[(0 + (wI6 ((wI6 (j + n)) - (2 : Int))).toNat)]? = some (qaE x2)) <| aC h4 <| aC h5 <| aC r0 <| aC (lq r71) <| aC r0 <| aC (lq r66) <| aN) (ih _ _ h cx hn)
   ·exact wkG [.go, rgG [oo, oo, oo, .sb 117 false, oo, oo, oo, oo, oo, oo, oo, oo, oo, oo, .op .ir, opI (.ld (qaE x2)), oo, oo, oo, oo], bTr, rg3, rg4, rg2, bFa, .pre [.rl 4 0 r71.length, .rl 12 0 r66.length, .keep [4,6,10,11,12,13,14,15,16,17] [66,71]]] hn (aC h1 <| aC (qb2 h3) <| aC (qcW h3 (by simp) : (wI6 ((wI6 (j + n)) - (2 : Int))) < ((r66.length : Nat) : Int)) <| aC (qcX qaE h3 : (r66.map qaE)[(0 + (wI6 ((wI6 (j + n)) - (2 : Int))).toNat)]? = some (qaE x2)) <| aC h4 <| aC h5 <| aC r0 <| aC (lq r71) <| aC r0 <| aC (lq r66) <| aN) (ih _ _ h cx hn)
  ·exact wkG [.go, rgG [oo, oo, oo, .sb 117 false, oo, oo, oo, oo, oo, oo, oo, oo, oo, oo, .op .ir, opI (.ld (qaE x2)), oo, oo, oo, oo], bFa, .pre [.rl 4 0 r71.length, .rl 12 0 r66.length, .keep [4,6,10,11,12,13,14,15,16] [66,71]]] hn (aC h1 <| aC (qb2 h3) <| aC (qcW h3 (by simp) : (wI6 ((wI6 (j + n)) - (2 : Int))) < ((r66.length : Nat) : Int)) <| aC (qcX qaE h3 : (r66.map qaE)[(0 + (wI6 ((wI6 (j + n)) - (2 : Int))).toNat)]? = some (qaE x2)) <| aC h4 <| aC r0 <| aC (lq r71) <| aC r0 <| aC (lq r66) <| aN) (ih _ _ h cx hn)
theorem zgL {K} (ih : qeV K) {cx} (hn : cx.n = 251) {r64 r71 n shift v top next j guess rest} {r} (h : qaU (K + 1) (.c4 r64 r71 n shift v top next j guess rest) = some r) : qeU cx (.c4 r64 r71 n shift v top next j guess rest) r := by
 rw [qaU] at h
 rcases qaY h with ⟨h1, h⟩ | ⟨h1, h⟩
 ·rcases qaY h with ⟨h2, h⟩ | ⟨h2, h⟩
  ·exact wkG [.go, rgG [oo, oo, oo, .sb 117 true, oo, oo, oo, oo, oo, oo, oo, oo, oo, oo, oo, oo, oo, oo, oo, oo], bTr, rg3, rg4, rg2, bTr, .pre [.rl 4 0 r71.length, .rl 12 0 r64.length, .keep [4,6,10,11,12,13,14,15,16] [64,71]]] hn (aC h1 <| aC rt <| aC h2 <| aC r0 <| aC (lq r71) <| aC r0 <| aC (lq r64) <| aN) (ih _ _ h cx hn)
  ·exact wkG [.go, rgG [oo, oo, oo, .sb 117 true, oo, oo, oo, oo, oo, oo, oo, oo, oo, oo, oo, oo, oo, oo, oo, oo], bTr, rg3, rg4, rg2, bFa, .pre [.rl 4 0 r71.length, .rl 12 0 r64.length, .keep [4,6,10,11,12,13,14,15,16,17] [64,71]]] hn (aC h1 <| aC rt <| aC h2 <| aC r0 <| aC (lq r71) <| aC r0 <| aC (lq r64) <| aN) (ih _ _ h cx hn)
 ·obtain ⟨x2, h3, h⟩ := qaV h
  rcases qaY h with ⟨h4, h⟩ | ⟨h4, h⟩
  ·rcases qaY h with ⟨h5, h⟩ | ⟨h5, h⟩
   ·exact wkG [.go, rgG [oo, oo, oo, .sb 117 false, oo, oo, oo, oo, oo, oo, oo, oo, oo, oo, .op .ir, opI (.ld (qaE x2)), oo, oo, oo, oo], bTr, rg3, rg4, rg2, bTr, .pre [.rl 4 0 r71.length, .rl 12 0 r64.length, .keep [4,6,10,11,12,13,14,15,16] [64,71]]] hn (aC h1 <| aC (qb2 h3) <| aC (qcW h3 (by simp) : (wI6 ((wI6 (j + n)) - (2 : Int))) < ((r64.length : Nat) : Int)) <| aC (qcX qaE h3 : (r64.map qaE)[(0 + (wI6 ((wI6 (j + n)) - (2 : Int))).toNat)]? = some (qaE x2)) <| aC h4 <| aC h5 <| aC r0 <| aC (lq r71) <| aC r0 <| aC (lq r64) <| aN) (ih _ _ h cx hn)
   ·exact wkG [.go, rgG [oo, oo, oo, .sb 117 false, oo, oo, oo, oo, oo, oo, oo, oo, oo, oo, .op .ir, opI (.ld (qaE x2)), oo, oo, oo, oo], bTr, rg3, rg4, rg2, bFa, .pre [.rl 4 0 r71.length, .rl 12 0 r64.length, .keep [4,6,10,11,12,13,14,15,16,17] [64,71]]] hn (aC h1 <| aC (qb2 h3) <| aC (qcW h3 (by simp) : (wI6 ((wI6 (j + n)) - (2 : Int))) < ((r64.length : Nat) : Int)) <| aC (qcX qaE h3 : (r64.map qaE)[(0 + (wI6 ((wI6 (j + n)) - (2 : Int))).toNat)]? = some (qaE x2)) <| aC h4 <| aC h5 <| aC r0 <| aC (lq r71) <| aC r0 <| aC (lq r64) <| aN) (ih _ _ h cx hn)
  ·exact wkG [.go, rgG [oo, oo, oo, .sb 117 false, oo, oo, oo, oo, oo, oo, oo, oo, oo, oo, .op .ir, opI (.ld (qaE x2)), oo, oo, oo, oo], bFa, .pre [.rl 4 0 r71.length, .rl 12 0 r64.length, .keep [4,6,10,11,12,13,14,15,16] [64,71]]] hn (aC h1 <| aC (qb2 h3) <| aC (qcW h3 (by simp) : (wI6 ((wI6 (j + n)) - (2 : Int))) < ((r64.length : Nat) : Int)) <| aC (qcX qaE h3 : (r64.map qaE)[(0 + (wI6 ((wI6 (j + n)) - (2 : Int))).toNat)]? = some (qaE x2)) <| aC h4 <| aC r0 <| aC (lq r71) <| aC r0 <| aC (lq r64) <| aN) (ih _ _ h cx hn)
theorem zgK {K} (ih : qeV K) {cx} (hn : cx.n = 251) {r66 r71 n shift v top next j guess} {r} (h : qaU (K + 1) (.c5 r66 r71 n shift v top next j guess) = some r) : qeU cx (.c5 r66 r71 n shift v top next j guess) r := by
 rw [qaU] at h
 exact wkG [rg2, rgG [oo, opI (.ln (v.length : Int)), oo], .pre [.rl 4 0 r71.length, .rl 12 0 r66.length, .keep [4,6,10,11,12,13,14,15,16,18,19,141,142,143] [66,71]]] hn (aC (qdF v qaE) <| aC r0 <| aC (lq r71) <| aC r0 <| aC (lq r66) <| aN) (ih _ _ h cx hn)
theorem zgJ {K} (ih : qeV K) {cx} (hn : cx.n = 251) {r64 r71 n shift v top next j guess} {r} (h : qaU (K + 1) (.c6 r64 r71 n shift v top next j guess) = some r) : qeU cx (.c6 r64 r71 n shift v top next j guess) r := by
 rw [qaU] at h
 exact wkG [rg2, rgG [oo, opI (.ln (v.length : Int)), oo], .pre [.rl 4 0 r71.length, .rl 12 0 r64.length, .keep [4,6,10,11,12,13,14,15,16,18,19,141,142,143] [64,71]]] hn (aC (qdF v qaE) <| aC r0 <| aC (lq r71) <| aC r0 <| aC (lq r64) <| aN) (ih _ _ h cx hn)
theorem zgI {K} (ih : qeV K) {cx} (hn : cx.n = 251) {r66 r71 n shift v top next j guess carry borrow t141 t142 t143} {r} (h : qaU (K + 1) (.c7 r66 r71 n shift v top next j guess carry borrow t141 t142 t143) = some r) : qeU cx (.c7 r66 r71 n shift v top next j guess carry borrow t141 t142 t143) r := by
 rw [qaU] at h
 rcases qaY h with ⟨h1, h⟩ | ⟨h1, h⟩
 ·obtain ⟨x2, h3, h⟩ := qaV h
  obtain ⟨x4, h5, h⟩ := qaV h
  obtain ⟨x6, h7, h⟩ := qaV h
  exact wkG [.go, rg1, bTr, rgG [oo, opI (.ix (qaE x2)), oo, oo, oo], rgG [oo, oo, oo, oo, oo, oo, oo], rg3, rgG [oo, oo, oo, oo, .op .ir, opI (.ld (qaE x4)), oo, oo, oo, oo, oo, oo, oo], rgG [oo, oo, oo, oo, oo, oo, .op .ir, opI (.st (qaE x6) ((r66.set ((wI6 (t143 + j)).toNat) (wU3 (wU6 ((wU6 ((wU6 x4) - borrow)) - (bits .and .u64 (wU6 ((wU6 (guess * (wU6 x2))) + carry)) (4294967295 : Int)))))).map qaE))], rg3, rg2, .pre [.rl 4 0 r71.length, .rl 12 0 (r66.set ((wI6 (t143 + j)).toNat) (wU3 (wU6 ((wU6 ((wU6 x4) - borrow)) - (bits .and .u64 (wU6 ((wU6 (guess * (wU6 x2))) + carry)) (4294967295 : Int)))))).length, .keep [4,6,10,11,12,13,14,15,16,18,19,141,142,143] [66,71]]] hn (aC h1 <| aC (qb2 h3) <| aC (qfK qaE h3) <| aC (qb2 h5) <| aC (qcW h5 (by simp) : (wI6 (t143 + j)) < ((r66.length : Nat) : Int)) <| aC (qcX qaE h5 : (r66.map qaE)[(0 + (wI6 (t143 + j)).toNat)]? = some (qaE x4)) <| aC (qb2 h7) <| aC (qcW h7 (by simp) : (wI6 (t143 + j)) < ((r66.length : Nat) : Int)) <| aC (qcX qaE h7 : (r66.map qaE)[(0 + (wI6 (t143 + j)).toNat)]? = some (qaE x6)) <| aC (qe3 _ _ (wU3 (wU6 ((wU6 ((wU6 x4) - borrow)) - (bits .and .u64 (wU6 ((wU6 (guess * (wU6 x2))) + carry)) (4294967295 : Int))))) _ : (r66.map qaE).set (0 + (wI6 (t143 + j)).toNat) (qdE (qaE x6) 0 [(T.int .u32 (wU3 (wU6 ((wU6 ((wU6 x4) - borrow)) - (bits .and .u64 (wU6 ((wU6 (guess * (wU6 x2))) + carry)) (4294967295 : Int))))))]) = (r66.set ((wI6 (t143 + j)).toNat) (wU3 (wU6 ((wU6 ((wU6 x4) - borrow)) - (bits .and .u64 (wU6 ((wU6 (guess * (wU6 x2))) + carry)) (4294967295 : Int)))))).map qaE) <| aC (Nat.zero_le _ : 0 ≤ (0 + (wI6 (t143 + j)).toNat)) <| aC r0 <| aC (lq r71) <| aC r0 <| aC (by simp : r66.length = (r66.set ((wI6 (t143 + j)).toNat) (wU3 (wU6 ((wU6 ((wU6 x4) - borrow)) - (bits .and .u64 (wU6 ((wU6 (guess * (wU6 x2))) + carry)) (4294967295 : Int)))))).length) <| aN) (ih _ _ h cx hn)
 ·obtain ⟨x2, h3, h⟩ := qaV h
  obtain ⟨x4, h5, h⟩ := qaV h
  obtain ⟨x6, h7, h⟩ := qaV h
  rcases qaY h with ⟨h8, h⟩ | ⟨h8, h⟩
  ·exact wkG [.go, rg1, bFa, rgG [oo, oo, oo, oo, .op .ir, opI (.ld (qaE x2)), oo, oo, oo, oo, oo, oo], rgG [oo, oo, oo, oo, oo, oo, .op .ir, opI (.st (qaE x4) ((r66.set ((wI6 (j + n)).toNat) (wU3 (wU6 ((wU6 ((wU6 x2) - borrow)) - carry)))).map qaE))], rgG [oo, oo, oo, oo, .op .ir, opI (.st (qaE x6) ((r71.set (j.toNat) (wU3 guess)).map qaE))], rg3, bTr, .pre [.rl 4 0 (r71.set (j.toNat) (wU3 guess)).length, .rl 12 0 (r66.set ((wI6 (j + n)).toNat) (wU3 (wU6 ((wU6 ((wU6 x2) - borrow)) - carry)))).length, .keep [4,6,10,11,12,13,14,15] [66,71]]] hn (aC h1 <| aC (qb2 h3) <| aC (qcW h3 (by simp) : (wI6 (j + n)) < ((r66.length : Nat) : Int)) <| aC (qcX qaE h3 : (r66.map qaE)[(0 + (wI6 (j + n)).toNat)]? = some (qaE x2)) <| aC (qb2 h5) <| aC (qcW h5 (by simp) : (wI6 (j + n)) < ((r66.length : Nat) : Int)) <| aC (qcX qaE h5 : (r66.map qaE)[(0 + (wI6 (j + n)).toNat)]? = some (qaE x4)) <| aC (qe3 _ _ (wU3 (wU6 ((wU6 ((wU6 x2) - borrow)) - carry))) _ : (r66.map qaE).set (0 + (wI6 (j + n)).toNat) (qdE (qaE x4) 0 [(T.int .u32 (wU3 (wU6 ((wU6 ((wU6 x2) - borrow)) - carry))))]) = (r66.set ((wI6 (j + n)).toNat) (wU3 (wU6 ((wU6 ((wU6 x2) - borrow)) - carry)))).map qaE) <| aC (Nat.zero_le _ : 0 ≤ (0 + (wI6 (j + n)).toNat)) <| aC (qb2 h7) <| aC (qcW h7 (by simp) : j < ((r71.length : Nat) : Int)) <| aC (qcX qaE h7 : (r71.map qaE)[(0 + j.toNat)]? = some (qaE x6)) <| aC (qe3 _ _ (wU3 guess) _ : (r71.map qaE).set (0 + j.toNat) (qdE (qaE x6) 0 [(T.int .u32 (wU3 guess))]) = (r71.set (j.toNat) (wU3 guess)).map qaE) <| aC (Nat.zero_le _ : 0 ≤ (0 + j.toNat)) <| aC h8 <| aC r0 <| aC (by simp : r71.length = (r71.set (j.toNat) (wU3 guess)).length) <| aC r0 <| aC (by simp : r66.length = (r66.set ((wI6 (j + n)).toNat) (wU3 (wU6 ((wU6 ((wU6 x2) - borrow)) - carry)))).length) <| aN) (ih _ _ h cx hn)
  ·obtain ⟨x9, h10, h⟩ := qaV h
   obtain ⟨x11, h12, h⟩ := qaV h
   exact wkG [.go, rg1, bFa, rgG [oo, oo, oo, oo, .op .ir, opI (.ld (qaE x2)), oo, oo, oo, oo, oo, oo], rgG [oo, oo, oo, oo, oo, oo, .op .ir, opI (.st (qaE x4) ((r66.set ((wI6 (j + n)).toNat) (wU3 (wU6 ((wU6 ((wU6 x2) - borrow)) - carry)))).map qaE))], rgG [oo, oo, oo, oo, .op .ir, opI (.st (qaE x6) ((r71.set (j.toNat) (wU3 guess)).map qaE))], rg3, bFa, rgG [oo, oo, .op .ir, opI (.ld (qaE x9)), oo, .op .ir, opI (.st (qaE x11) (((r71.set (j.toNat) (wU3 guess)).set (j.toNat) (wU3 (x9 - (1 : Int)))).map qaE))], rg1, rgG [oo, opI (.ln (v.length : Int)), oo], .pre [.rl 4 0 ((r71.set (j.toNat) (wU3 guess)).set (j.toNat) (wU3 (x9 - (1 : Int)))).length, .rl 12 0 (r66.set ((wI6 (j + n)).toNat) (wU3 (wU6 ((wU6 ((wU6 x2) - borrow)) - carry)))).length, .keep [4,6,10,11,12,13,14,15,25,210,211,212] [66,71]]] hn (aC h1 <| aC (qb2 h3) <| aC (qcW h3 (by simp) : (wI6 (j + n)) < ((r66.length : Nat) : Int)) <| aC (qcX qaE h3 : (r66.map qaE)[(0 + (wI6 (j + n)).toNat)]? = some (qaE x2)) <| aC (qb2 h5) <| aC (qcW h5 (by simp) : (wI6 (j + n)) < ((r66.length : Nat) : Int)) <| aC (qcX qaE h5 : (r66.map qaE)[(0 + (wI6 (j + n)).toNat)]? = some (qaE x4)) <| aC (qe3 _ _ (wU3 (wU6 ((wU6 ((wU6 x2) - borrow)) - carry))) _ : (r66.map qaE).set (0 + (wI6 (j + n)).toNat) (qdE (qaE x4) 0 [(T.int .u32 (wU3 (wU6 ((wU6 ((wU6 x2) - borrow)) - carry))))]) = (r66.set ((wI6 (j + n)).toNat) (wU3 (wU6 ((wU6 ((wU6 x2) - borrow)) - carry)))).map qaE) <| aC (Nat.zero_le _ : 0 ≤ (0 + (wI6 (j + n)).toNat)) <| aC (qb2 h7) <| aC (qcW h7 (by simp) : j < ((r71.length : Nat) : Int)) <| aC (qcX qaE h7 : (r71.map qaE)[(0 + j.toNat)]? = some (qaE x6)) <| aC (qe3 _ _ (wU3 guess) _ : (r71.map qaE).set (0 + j.toNat) (qdE (qaE x6) 0 [(T.int .u32 (wU3 guess))]) = (r71.set (j.toNat) (wU3 guess)).map qaE) <| aC (Nat.zero_le _ : 0 ≤ (0 + j.toNat)) <| aC h8 <| aC (qb2 h10) <| aC (qcW h10 (by simp) : j < ((r71.length : Nat) : Int)) <| aC (qcX qaE h10 : ((r71.set (j.toNat) (wU3 guess)).map qaE)[(0 + j.toNat)]? = some (qaE x9)) <| aC (qb2 h12) <| aC (qcW h12 (by simp) : j < ((r71.length : Nat) : Int)) <| aC (qcX qaE h12 : ((r71.set (j.toNat) (wU3 guess)).map qaE)[(0 + j.toNat)]? = some (qaE x11)) <| aC (qe3 _ _ (wU3 (x9 - (1 : Int))) _ : ((r71.set (j.toNat) (wU3 guess)).map qaE).set (0 + j.toNat) (qdE (qaE x11) 0 [(T.int .u32 (wU3 (x9 - (1 : Int))))]) = ((r71.set (j.toNat) (wU3 guess)).set (j.toNat) (wU3 (x9 - (1 : Int)))).map qaE) <| aC (Nat.zero_le _ : 0 ≤ (0 + j.toNat)) <| aC (qdF v qaE) <| aC r0 <| aC (by simp : r71.length = ((r71.set (j.toNat) (wU3 guess)).set (j.toNat) (wU3 (x9 - (1 : Int)))).length) <| aC r0 <| aC (by simp : r66.length = (r66.set ((wI6 (j + n)).toNat) (wU3 (wU6 ((wU6 ((wU6 x2) - borrow)) - carry)))).length) <| aN) (ih _ _ h cx hn)
theorem zgH {K} (ih : qeV K) {cx} (hn : cx.n = 251) {r64 r71 n shift v top next j guess carry borrow t141 t142 t143} {r} (h : qaU (K + 1) (.c8 r64 r71 n shift v top next j guess carry borrow t141 t142 t143) = some r) : qeU cx (.c8 r64 r71 n shift v top next j guess carry borrow t141 t142 t143) r := by
 rw [qaU] at h
 rcases qaY h with ⟨h1, h⟩ | ⟨h1, h⟩
 ·obtain ⟨x2, h3, h⟩ := qaV h
  obtain ⟨x4, h5, h⟩ := qaV h
  obtain ⟨x6, h7, h⟩ := qaV h
  exact wkG [.go, rg1, bTr, rgG [oo, opI (.ix (qaE x2)), oo, oo, oo], rgG [oo, oo, oo, oo, oo, oo, oo], rg3, rgG [oo, oo, oo, oo, .op .ir, opI (.ld (qaE x4)), oo, oo, oo, oo, oo, oo, oo], rgG [oo, oo, oo, oo, oo, oo, .op .ir, opI (.st (qaE x6) ((r64.set ((wI6 (t143 + j)).toNat) (wU3 (wU6 ((wU6 ((wU6 x4) - borrow)) - (bits .and .u64 (wU6 ((wU6 (guess * (wU6 x2))) + carry)) (4294967295 : Int)))))).map qaE))], rg3, rg2, .pre [.rl 4 0 r71.length, .rl 12 0 (r64.set ((wI6 (t143 + j)).toNat) (wU3 (wU6 ((wU6 ((wU6 x4) - borrow)) - (bits .and .u64 (wU6 ((wU6 (guess * (wU6 x2))) + carry)) (4294967295 : Int)))))).length, .keep [4,6,10,11,12,13,14,15,16,18,19,141,142,143] [64,71]]] hn (aC h1 <| aC (qb2 h3) <| aC (qfK qaE h3) <| aC (qb2 h5) <| aC (qcW h5 (by simp) : (wI6 (t143 + j)) < ((r64.length : Nat) : Int)) <| aC (qcX qaE h5 : (r64.map qaE)[(0 + (wI6 (t143 + j)).toNat)]? = some (qaE x4)) <| aC (qb2 h7) <| aC (qcW h7 (by simp) : (wI6 (t143 + j)) < ((r64.length : Nat) : Int)) <| aC (qcX qaE h7 : (r64.map qaE)[(0 + (wI6 (t143 + j)).toNat)]? = some (qaE x6)) <| aC (qe3 _ _ (wU3 (wU6 ((wU6 ((wU6 x4) - borrow)) - (bits .and .u64 (wU6 ((wU6 (guess * (wU6 x2))) + carry)) (4294967295 : Int))))) _ : (r64.map qaE).set (0 + (wI6 (t143 + j)).toNat) (qdE (qaE x6) 0 [(T.int .u32 (wU3 (wU6 ((wU6 ((wU6 x4) - borrow)) - (bits .and .u64 (wU6 ((wU6 (guess * (wU6 x2))) + carry)) (4294967295 : Int))))))]) = (r64.set ((wI6 (t143 + j)).toNat) (wU3 (wU6 ((wU6 ((wU6 x4) - borrow)) - (bits .and .u64 (wU6 ((wU6 (guess * (wU6 x2))) + carry)) (4294967295 : Int)))))).map qaE) <| aC (Nat.zero_le _ : 0 ≤ (0 + (wI6 (t143 + j)).toNat)) <| aC r0 <| aC (lq r71) <| aC r0 <| aC (by simp : r64.length = (r64.set ((wI6 (t143 + j)).toNat) (wU3 (wU6 ((wU6 ((wU6 x4) - borrow)) - (bits .and .u64 (wU6 ((wU6 (guess * (wU6 x2))) + carry)) (4294967295 : Int)))))).length) <| aN) (ih _ _ h cx hn)
 ·obtain ⟨x2, h3, h⟩ := qaV h
  obtain ⟨x4, h5, h⟩ := qaV h
  obtain ⟨x6, h7, h⟩ := qaV h
  rcases qaY h with ⟨h8, h⟩ | ⟨h8, h⟩
  ·exact wkG [.go, rg1, bFa, rgG [oo, oo, oo, oo, .op .ir, opI (.ld (qaE x2)), oo, oo, oo, oo, oo, oo], rgG [oo, oo, oo, oo, oo, oo, .op .ir, opI (.st (qaE x4) ((r64.set ((wI6 (j + n)).toNat) (wU3 (wU6 ((wU6 ((wU6 x2) - borrow)) - carry)))).map qaE))], rgG [oo, oo, oo, oo, .op .ir, opI (.st (qaE x6) ((r71.set (j.toNat) (wU3 guess)).map qaE))], rg3, bTr, .pre [.rl 4 0 (r71.set (j.toNat) (wU3 guess)).length, .rl 12 0 (r64.set ((wI6 (j + n)).toNat) (wU3 (wU6 ((wU6 ((wU6 x2) - borrow)) - carry)))).length, .keep [4,6,10,11,12,13,14,15] [64,71]]] hn (aC h1 <| aC (qb2 h3) <| aC (qcW h3 (by simp) : (wI6 (j + n)) < ((r64.length : Nat) : Int)) <| aC (qcX qaE h3 : (r64.map qaE)[(0 + (wI6 (j + n)).toNat)]? = some (qaE x2)) <| aC (qb2 h5) <| aC (qcW h5 (by simp) : (wI6 (j + n)) < ((r64.length : Nat) : Int)) <| aC (qcX qaE h5 : (r64.map qaE)[(0 + (wI6 (j + n)).toNat)]? = some (qaE x4)) <| aC (qe3 _ _ (wU3 (wU6 ((wU6 ((wU6 x2) - borrow)) - carry))) _ : (r64.map qaE).set (0 + (wI6 (j + n)).toNat) (qdE (qaE x4) 0 [(T.int .u32 (wU3 (wU6 ((wU6 ((wU6 x2) - borrow)) - carry))))]) = (r64.set ((wI6 (j + n)).toNat) (wU3 (wU6 ((wU6 ((wU6 x2) - borrow)) - carry)))).map qaE) <| aC (Nat.zero_le _ : 0 ≤ (0 + (wI6 (j + n)).toNat)) <| aC (qb2 h7) <| aC (qcW h7 (by simp) : j < ((r71.length : Nat) : Int)) <| aC (qcX qaE h7 : (r71.map qaE)[(0 + j.toNat)]? = some (qaE x6)) <| aC (qe3 _ _ (wU3 guess) _ : (r71.map qaE).set (0 + j.toNat) (qdE (qaE x6) 0 [(T.int .u32 (wU3 guess))]) = (r71.set (j.toNat) (wU3 guess)).map qaE) <| aC (Nat.zero_le _ : 0 ≤ (0 + j.toNat)) <| aC h8 <| aC r0 <| aC (by simp : r71.length = (r71.set (j.toNat) (wU3 guess)).length) <| aC r0 <| aC (by simp : r64.length = (r64.set ((wI6 (j + n)).toNat) (wU3 (wU6 ((wU6 ((wU6 x2) - borrow)) - carry)))).length) <| aN) (ih _ _ h cx hn)
  ·obtain ⟨x9, h10, h⟩ := qaV h
   obtain ⟨x11, h12, h⟩ := qaV h
   exact wkG [.go, rg1, bFa, rgG [oo, oo, oo, oo, .op .ir, opI (.ld (qaE x2)), oo, oo, oo, oo, oo, oo], rgG [oo, oo, oo, oo, oo, oo, .op .ir, opI (.st (qaE x4) ((r64.set ((wI6 (j + n)).toNat) (wU3 (wU6 ((wU6 ((wU6 x2) - borrow)) - carry)))).map qaE))], rgG [oo, oo, oo, oo, .op .ir, opI (.st (qaE x6) ((r71.set (j.toNat) (wU3 guess)).map qaE))], rg3, bFa, rgG [oo, oo, .op .ir, opI (.ld (qaE x9)), oo, .op .ir, opI (.st (qaE x11) (((r71.set (j.toNat) (wU3 guess)).set (j.toNat) (wU3 (x9 - (1 : Int)))).map qaE))], rg1, rgG [oo, opI (.ln (v.length : Int)), oo], .pre [.rl 4 0 ((r71.set (j.toNat) (wU3 guess)).set (j.toNat) (wU3 (x9 - (1 : Int)))).length, .rl 12 0 (r64.set ((wI6 (j + n)).toNat) (wU3 (wU6 ((wU6 ((wU6 x2) - borrow)) - carry)))).length, .keep [4,6,10,11,12,13,14,15,25,210,211,212] [64,71]]] hn (aC h1 <| aC (qb2 h3) <| aC (qcW h3 (by simp) : (wI6 (j + n)) < ((r64.length : Nat) : Int)) <| aC (qcX qaE h3 : (r64.map qaE)[(0 + (wI6 (j + n)).toNat)]? = some (qaE x2)) <| aC (qb2 h5) <| aC (qcW h5 (by simp) : (wI6 (j + n)) < ((r64.length : Nat) : Int)) <| aC (qcX qaE h5 : (r64.map qaE)[(0 + (wI6 (j + n)).toNat)]? = some (qaE x4)) <| aC (qe3 _ _ (wU3 (wU6 ((wU6 ((wU6 x2) - borrow)) - carry))) _ : (r64.map qaE).set (0 + (wI6 (j + n)).toNat) (qdE (qaE x4) 0 [(T.int .u32 (wU3 (wU6 ((wU6 ((wU6 x2) - borrow)) - carry))))]) = (r64.set ((wI6 (j + n)).toNat) (wU3 (wU6 ((wU6 ((wU6 x2) - borrow)) - carry)))).map qaE) <| aC (Nat.zero_le _ : 0 ≤ (0 + (wI6 (j + n)).toNat)) <| aC (qb2 h7) <| aC (qcW h7 (by simp) : j < ((r71.length : Nat) : Int)) <| aC (qcX qaE h7 : (r71.map qaE)[(0 + j.toNat)]? = some (qaE x6)) <| aC (qe3 _ _ (wU3 guess) _ : (r71.map qaE).set (0 + j.toNat) (qdE (qaE x6) 0 [(T.int .u32 (wU3 guess))]) = (r71.set (j.toNat) (wU3 guess)).map qaE) <| aC (Nat.zero_le _ : 0 ≤ (0 + j.toNat)) <| aC h8 <| aC (qb2 h10) <| aC (qcW h10 (by simp) : j < ((r71.length : Nat) : Int)) <| aC (qcX qaE h10 : ((r71.set (j.toNat) (wU3 guess)).map qaE)[(0 + j.toNat)]? = some (qaE x9)) <| aC (qb2 h12) <| aC (qcW h12 (by simp) : j < ((r71.length : Nat) : Int)) <| aC (qcX qaE h12 : ((r71.set (j.toNat) (wU3 guess)).map qaE)[(0 + j.toNat)]? = some (qaE x11)) <| aC (qe3 _ _ (wU3 (x9 - (1 : Int))) _ : ((r71.set (j.toNat) (wU3 guess)).map qaE).set (0 + j.toNat) (qdE (qaE x11) 0 [(T.int .u32 (wU3 (x9 - (1 : Int))))]) = ((r71.set (j.toNat) (wU3 guess)).set (j.toNat) (wU3 (x9 - (1 : Int)))).map qaE) <| aC (Nat.zero_le _ : 0 ≤ (0 + j.toNat)) <| aC (qdF v qaE) <| aC r0 <| aC (by simp : r71.length = ((r71.set (j.toNat) (wU3 guess)).set (j.toNat) (wU3 (x9 - (1 : Int)))).length) <| aC r0 <| aC (by simp : r64.length = (r64.set ((wI6 (j + n)).toNat) (wU3 (wU6 ((wU6 ((wU6 x2) - borrow)) - carry)))).length) <| aN) (ih _ _ h cx hn)
theorem zgG {K} (ih : qeV K) {cx} (hn : cx.n = 251) {r66 r71 n shift v top next j} {r} (h : qaU (K + 1) (.c9 r66 r71 n shift v top next j) = some r) : qeU cx (.c9 r66 r71 n shift v top next j) r := by
 rw [qaU] at h
 exact wkG [rg3, .pre [.rl 4 0 r71.length, .rl 12 0 r66.length, .keep [4,6,10,11,12,13,14,15] [66,71]]] hn (aC r0 <| aC (lq r71) <| aC r0 <| aC (lq r66) <| aN) (ih _ _ h cx hn)
theorem zdN {K} (ih : qeV K) {cx} (hn : cx.n = 251) {r66 r71 n shift v top next j sum t210 t211 t212} {r} (h : qaU (K + 1) (.c10 r66 r71 n shift v top next j sum t210 t211 t212) = some r) : qeU cx (.c10 r66 r71 n shift v top next j sum t210 t211 t212) r := by
 rw [qaU] at h
 rcases qaY h with ⟨h1, h⟩ | ⟨h1, h⟩
 ·obtain ⟨x2, h3, h⟩ := qaV h
  obtain ⟨x4, h5, h⟩ := qaV h
  obtain ⟨x6, h7, h⟩ := qaV h
  obtain ⟨x8, h9, h⟩ := qaV h
  exact wkG [.go, rg1, bTr, rgG [oo, opI (.ix (qaE x2)), oo, oo, oo], rgG [oo, oo, oo, oo, oo, oo, oo, oo, .op .ir, opI (.ld (qaE x4)), oo, oo, opI (.call [[0], [0], [0]] [(ti .u32 x4), (ti .u32 x2), (ti .u32 sum)] (TV.tup [(false, [(T.int .u32 x6.1)]), (false, [(T.int .u32 x6.2)])])), oo, oo, oo, .op .ir, opI (.st (qaE x8) ((r66.set ((wI6 (t212 + j)).toNat) x6.1).map qaE)), oo], rg2, .pre [.rl 4 0 r71.length, .rl 12 0 (r66.set ((wI6 (t212 + j)).toNat) x6.1).length, .keep [4,6,10,11,12,13,14,15,25,210,211,212] [66,71]]] hn (aC h1 <| aC (qb2 h3) <| aC (qfK qaE h3) <| aC (qb2 h5) <| aC (qcW h5 (by simp) : (wI6 (t212 + j)) < ((r66.length : Nat) : Int)) <| aC (qcX qaE h5 : (r66.map qaE)[(0 + (wI6 (t212 + j)).toNat)]? = some (qaE x4)) <| aC (qiT h7) <| aC (qb2 h9) <| aC (qcW h9 (by simp) : (wI6 (t212 + j)) < ((r66.length : Nat) : Int)) <| aC (qcX qaE h9 : (r66.map qaE)[(0 + (wI6 (t212 + j)).toNat)]? = some (qaE x8)) <| aC (qe3 _ _ x6.1 _ : (r66.map qaE).set (0 + (wI6 (t212 + j)).toNat) (qdE (qaE x8) 0 [(T.int .u32 x6.1)]) = (r66.set ((wI6 (t212 + j)).toNat) x6.1).map qaE) <| aC (Nat.zero_le _ : 0 ≤ (0 + (wI6 (t212 + j)).toNat)) <| aC r0 <| aC (lq r71) <| aC r0 <| aC (by simp : r66.length = (r66.set ((wI6 (t212 + j)).toNat) x6.1).length) <| aN) (ih _ _ h cx hn)
 ·obtain ⟨x2, h3, h⟩ := qaV h
  obtain ⟨x4, h5, h⟩ := qaV h
  exact wkG [.go, rg1, bFa, rgG [oo, oo, oo, oo, .op .ir, opI (.ld (qaE x2)), oo, oo, .op .ir, opI (.st (qaE x4) ((r66.set ((wI6 (j + n)).toNat) (wU3 (x2 + sum))).map qaE))], .pre [.rl 4 0 r71.length, .rl 12 0 (r66.set ((wI6 (j + n)).toNat) (wU3 (x2 + sum))).length, .keep [4,6,10,11,12,13,14,15] [66,71]]] hn (aC h1 <| aC (qb2 h3) <| aC (qcW h3 (by simp) : (wI6 (j + n)) < ((r66.length : Nat) : Int)) <| aC (qcX qaE h3 : (r66.map qaE)[(0 + (wI6 (j + n)).toNat)]? = some (qaE x2)) <| aC (qb2 h5) <| aC (qcW h5 (by simp) : (wI6 (j + n)) < ((r66.length : Nat) : Int)) <| aC (qcX qaE h5 : (r66.map qaE)[(0 + (wI6 (j + n)).toNat)]? = some (qaE x4)) <| aC (qe3 _ _ (wU3 (x2 + sum)) _ : (r66.map qaE).set (0 + (wI6 (j + n)).toNat) (qdE (qaE x4) 0 [(T.int .u32 (wU3 (x2 + sum)))]) = (r66.set ((wI6 (j + n)).toNat) (wU3 (x2 + sum))).map qaE) <| aC (Nat.zero_le _ : 0 ≤ (0 + (wI6 (j + n)).toNat)) <| aC r0 <| aC (lq r71) <| aC r0 <| aC (by simp : r66.length = (r66.set ((wI6 (j + n)).toNat) (wU3 (x2 + sum))).length) <| aN) (ih _ _ h cx hn)
theorem zdM {K} (ih : qeV K) {cx} (hn : cx.n = 251) {r64 r71 n shift v top next j} {r} (h : qaU (K + 1) (.c11 r64 r71 n shift v top next j) = some r) : qeU cx (.c11 r64 r71 n shift v top next j) r := by
 rw [qaU] at h
 exact wkG [rg3, .pre [.rl 4 0 r71.length, .rl 12 0 r64.length, .keep [4,6,10,11,12,13,14,15] [64,71]]] hn (aC r0 <| aC (lq r71) <| aC r0 <| aC (lq r64) <| aN) (ih _ _ h cx hn)
theorem zdL {K} (ih : qeV K) {cx} (hn : cx.n = 251) {r64 r71 n shift v top next j sum t210 t211 t212} {r} (h : qaU (K + 1) (.c12 r64 r71 n shift v top next j sum t210 t211 t212) = some r) : qeU cx (.c12 r64 r71 n shift v top next j sum t210 t211 t212) r := by
 rw [qaU] at h
 rcases qaY h with ⟨h1, h⟩ | ⟨h1, h⟩
 ·obtain ⟨x2, h3, h⟩ := qaV h
  obtain ⟨x4, h5, h⟩ := qaV h
  obtain ⟨x6, h7, h⟩ := qaV h
  obtain ⟨x8, h9, h⟩ := qaV h
  exact wkG [.go, rg1, bTr, rgG [oo, opI (.ix (qaE x2)), oo, oo, oo], rgG [oo, oo, oo, oo, oo, oo, oo, oo, .op .ir, opI (.ld (qaE x4)), oo, oo, opI (.call [[0], [0], [0]] [(ti .u32 x4), (ti .u32 x2), (ti .u32 sum)] (TV.tup [(false, [(T.int .u32 x6.1)]), (false, [(T.int .u32 x6.2)])])), oo, oo, oo, .op .ir, opI (.st (qaE x8) ((r64.set ((wI6 (t212 + j)).toNat) x6.1).map qaE)), oo], rg2, .pre [.rl 4 0 r71.length, .rl 12 0 (r64.set ((wI6 (t212 + j)).toNat) x6.1).length, .keep [4,6,10,11,12,13,14,15,25,210,211,212] [64,71]]] hn (aC h1 <| aC (qb2 h3) <| aC (qfK qaE h3) <| aC (qb2 h5) <| aC (qcW h5 (by simp) : (wI6 (t212 + j)) < ((r64.length : Nat) : Int)) <| aC (qcX qaE h5 : (r64.map qaE)[(0 + (wI6 (t212 + j)).toNat)]? = some (qaE x4)) <| aC (qiT h7) <| aC (qb2 h9) <| aC (qcW h9 (by simp) : (wI6 (t212 + j)) < ((r64.length : Nat) : Int)) <| aC (qcX qaE h9 : (r64.map qaE)[(0 + (wI6 (t212 + j)).toNat)]? = some (qaE x8)) <| aC (qe3 _ _ x6.1 _ : (r64.map qaE).set (0 + (wI6 (t212 + j)).toNat) (qdE (qaE x8) 0 [(T.int .u32 x6.1)]) = (r64.set ((wI6 (t212 + j)).toNat) x6.1).map qaE) <| aC (Nat.zero_le _ : 0 ≤ (0 + (wI6 (t212 + j)).toNat)) <| aC r0 <| aC (lq r71) <| aC r0 <| aC (by simp : r64.length = (r64.set ((wI6 (t212 + j)).toNat) x6.1).length) <| aN) (ih _ _ h cx hn)
 ·obtain ⟨x2, h3, h⟩ := qaV h
  obtain ⟨x4, h5, h⟩ := qaV h
  exact wkG [.go, rg1, bFa, rgG [oo, oo, oo, oo, .op .ir, opI (.ld (qaE x2)), oo, oo, .op .ir, opI (.st (qaE x4) ((r64.set ((wI6 (j + n)).toNat) (wU3 (x2 + sum))).map qaE))], .pre [.rl 4 0 r71.length, .rl 12 0 (r64.set ((wI6 (j + n)).toNat) (wU3 (x2 + sum))).length, .keep [4,6,10,11,12,13,14,15] [64,71]]] hn (aC h1 <| aC (qb2 h3) <| aC (qcW h3 (by simp) : (wI6 (j + n)) < ((r64.length : Nat) : Int)) <| aC (qcX qaE h3 : (r64.map qaE)[(0 + (wI6 (j + n)).toNat)]? = some (qaE x2)) <| aC (qb2 h5) <| aC (qcW h5 (by simp) : (wI6 (j + n)) < ((r64.length : Nat) : Int)) <| aC (qcX qaE h5 : (r64.map qaE)[(0 + (wI6 (j + n)).toNat)]? = some (qaE x4)) <| aC (qe3 _ _ (wU3 (x2 + sum)) _ : (r64.map qaE).set (0 + (wI6 (j + n)).toNat) (qdE (qaE x4) 0 [(T.int .u32 (wU3 (x2 + sum)))]) = (r64.set ((wI6 (j + n)).toNat) (wU3 (x2 + sum))).map qaE) <| aC (Nat.zero_le _ : 0 ≤ (0 + (wI6 (j + n)).toNat)) <| aC r0 <| aC (lq r71) <| aC r0 <| aC (by simp : r64.length = (r64.set ((wI6 (j + n)).toNat) (wU3 (x2 + sum))).length) <| aN) (ih _ _ h cx hn)
theorem qd6 : ∀ K : Nat, qeV K
 | 0, c, r, h => by rw [qaU] at h; cases h
 | K + 1, .c0 .., r, h => fun cx hn => zgP (qd6 K) hn h
 | K + 1, .c1 .., r, h => fun cx hn => zgO (qd6 K) hn h
 | K + 1, .c2 .., r, h => fun cx hn => zgN (qd6 K) hn h
 | K + 1, .c3 .., r, h => fun cx hn => zgM (qd6 K) hn h
 | K + 1, .c4 .., r, h => fun cx hn => zgL (qd6 K) hn h
 | K + 1, .c5 .., r, h => fun cx hn => zgK (qd6 K) hn h
 | K + 1, .c6 .., r, h => fun cx hn => zgJ (qd6 K) hn h
 | K + 1, .c7 .., r, h => fun cx hn => zgI (qd6 K) hn h
 | K + 1, .c8 .., r, h => fun cx hn => zgH (qd6 K) hn h
 | K + 1, .c9 .., r, h => fun cx hn => zgG (qd6 K) hn h
 | K + 1, .c10 .., r, h => fun cx hn => zdN (qd6 K) hn h
 | K + 1, .c11 .., r, h => fun cx hn => zdM (qd6 K) hn h
 | K + 1, .c12 .., r, h => fun cx hn => zdL (qd6 K) hn h
theorem qrP {K : Nat} {a : (List Int)} {b : (List Int)} {r : ((List Int) × (List Int))} (h : qnJ K a b = some r) : qc0 prog 177 [(tl 1 a qaE), (tl 1 b qaE)] (TV.tup [(false, [(T.sl 1 (r.1.map qaE))]), (false, [(T.sl 1 (r.2.map qaE))])]) :=
 qbG [[1], [1]] (by kernel_rfl) (by simp) fun cx hn => qd6 K (.c0 a b) r h cx hn
def wq (x : Int) : BitVec 64 := BitVec.ofInt 64 x
theorem zqU {x : Int} (h : 0 ≤ x ∧ x < 18446744073709551616) : (wq x).toNat = x.toNat := by
  unfold wq; rw [BitVec.toNat_ofInt]; omega
theorem zw0 (v : BitVec 64) : wU6 (v.toNat : Int) = v.toNat := by
  rw [qrY]; have := v.isLt; omega
theorem zuM {x y : Int} : bits .or .u64 x y = ((wq x ||| wq y).toNat : Int) := zw0 _
theorem zsG {x y : Int} : bits .and .u64 x y = ((wq x &&& wq y).toNat : Int) := zw0 _
theorem q9Q {x y : Int} (hx : 0 ≤ x ∧ x < 4294967296) (hy : 0 ≤ y ∧ y < 4294967296) : bits .or .u64 (qiN .u64 x 32) y = x * 4294967296 + y := by
  rw [zq7 (by decide) (by decide), w_u64k, show ((32 : Int).toNat) = 32 from rfl, show (2 : Int) ^ 32 = 4294967296 by decide, Int.emod_eq_of_lt (by omega) (by omega)]
  rw [zuM, BitVec.toNat_or, zqU (by omega), zqU (by omega)]
  have h1 : (x * 4294967296).toNat = 2 ^ 32 * x.toNat := by omega
  have h2 : y.toNat < 2 ^ 32 := by omega
  rw [h1, ← Nat.two_pow_add_eq_or_of_lt h2]
  omega
theorem zwM {x : Int} (hx : 0 ≤ x ∧ x < 18446744073709551616) : bits .and .u64 x 4294967295 = x % 4294967296 := by
  rw [zsG, BitVec.toNat_and, zqU hx, zqU (by decide)]
  have : ((4294967295 : Int).toNat) = 2 ^ 32 - 1 := by decide
  rw [this, Nat.and_two_pow_sub_one_eq_mod]
  omega
theorem zaE {hi lo y : Int} (hh : 0 ≤ hi ∧ hi < y) (hl : 0 ≤ lo ∧ lo < 4294967296) (hy : 0 < y ∧ y < 4294967296) :
    Ev (fun K => qs4 K hi lo y) ((hi * 4294967296 + lo) / y, (hi * 4294967296 + lo) % y) := by
  refine qaT ?_
  simp only [qs4, qjB]
  have e1 : wU6 hi = hi := by rw [qrY]; omega
  have e2 : wU6 lo = lo := by rw [qrY]; omega
  have e3 : wU6 y = y := by rw [qrY]; omega
  rw [e1, e2, e3, q9Q (by omega) hl]
  refine ev_t (by simp; omega) (ev_f (by simp; omega) (qhC (by omega) (qhC (by omega) (qeQ (qa3 _) ?_))))
  have h0 : 0 ≤ hi * 4294967296 + lo := by omega
  rw [Int.tdiv_eq_ediv_of_nonneg h0, Int.tmod_eq_emod_of_nonneg h0, q44, qrY, q44]
  have h1 : 0 ≤ (hi * 4294967296 + lo) / y := Int.ediv_nonneg h0 (by omega)
  have h2 : (hi * 4294967296 + lo) / y < 4294967296 := Int.ediv_lt_of_lt_mul hy.1 (by
    have := Int.mul_le_mul_of_nonneg_right (show hi + 1 ≤ y by omega) (show (0 : Int) ≤ 4294967296 by decide)
    rw [Int.add_mul, Int.mul_comm y] at this; omega)
  have h3 := Int.emod_nonneg (hi * 4294967296 + lo) (show y ≠ 0 by omega)
  have h4 := Int.emod_lt_of_pos (hi * 4294967296 + lo) hy.1
  rw [Int.emod_eq_of_lt h1 (by omega), Int.emod_eq_of_lt h1 h2, Int.emod_eq_of_lt h3 (by omega)]
theorem q97 {lo y : Int} (hl : 0 ≤ lo ∧ lo < 18446744073709551616) (hy : 0 < y) : Ev (fun K => qo6 K 0 lo y) (lo / y, lo % y) := by
  refine qaT ?_
  simp only [qo6, qbT]
  refine ev_f (by simp; omega) (ev_f (by simp; omega) (ev_t rfl (qhC (by omega) (qhC (by omega) (qeQ (qa3 _) ?_)))))
  rw [Int.tdiv_eq_ediv_of_nonneg hl.1, Int.tmod_eq_emod_of_nonneg hl.1, qrY]
  have h1 : 0 ≤ lo / y := Int.ediv_nonneg hl.1 (by omega)
  have h2 : lo / y ≤ lo := Int.ediv_le_self _ hl.1
  rw [Int.emod_eq_of_lt h1 (by omega)]
theorem q4C {a : List Int} {i : Nat} (h : i < a.length) : val (a.drop i) = a[i] + 4294967296 * val (a.drop (i + 1)) := by
  rw [List.drop_eq_getElem_cons h, qqP]
theorem zv6 {a : List Int} {i j : Nat} {x : Int} (h : i < j) : (a.set i x).drop j = a.drop j := by
  rw [List.drop_set, if_pos h]
theorem qwN {a : List Int} {d : Int} (ha : Dig a) (hd : 0 < d ∧ d < 4294967296) (hs : a.length < 4611686018427387904) : ∀ (i : Nat) (r : List Int) (rest : Int), i ≤ a.length → Dig r → r.length = a.length → (0 ≤ rest ∧ rest < d) →
    val (r.drop i) * d + rest = val (a.drop i) → val r = 4294967296 ^ i * val (r.drop i) → (∀ j, j < i → r[j]? = some 0) → Ev (fun K => qdZ K (.c1 r a d rest ((i : Int) - 1))) (digs (val a / d), val a % d, true)
  | 0, r, rest, hi, hr, hl, hre, hv, hz, _ => by
    refine qaT ?_
    simp only [qdZ]
    rw [List.drop_zero, List.drop_zero] at hv
    have h1 := qcZ hr (by omega)
    have e1 : val a / d = val r := by
      rw [← hv, Int.add_comm, Int.add_mul_ediv_right _ _ (by omega), Int.ediv_eq_zero_of_lt hre.1 hre.2, Int.zero_add]
    have e2 : val a % d = rest := by
      rw [← hv, Int.add_comm, Int.add_mul_emod_self_right, Int.emod_eq_of_lt hre.1 hre.2]
    rw [e1, e2]
    exact ev_f (by simp) (qaP h1 (qa3 _))
  | i + 1, r, rest, hi, hr, hl, hre, hv, hz, hzz => by
    refine qaT ?_
    simp only [qdZ]
    rw [show ((i + 1 : Nat) : Int) - 1 = (i : Int) by omega]
    have hia : i < a.length := by omega
    have hx := qgF ha hia
    have hn0 : 0 ≤ rest * 4294967296 + a[i] := by omega
    have hq0 : 0 ≤ (rest * 4294967296 + a[i]) / d := Int.ediv_nonneg hn0 (by omega)
    have hq1 : (rest * 4294967296 + a[i]) / d < 4294967296 := Int.ediv_lt_of_lt_mul hd.1 (by
      have := Int.mul_le_mul_of_nonneg_right (show rest + 1 ≤ d by omega) (show (0 : Int) ≤ 4294967296 by decide)
      rw [Int.add_mul, Int.mul_comm d] at this; omega)
    have hr0 := Int.emod_nonneg (rest * 4294967296 + a[i]) (show d ≠ 0 by omega)
    have hr1 := Int.emod_lt_of_pos (rest * 4294967296 + a[i]) hd.1
    have hdm := Int.emod_add_mul_ediv (rest * 4294967296 + a[i]) d
    refine ev_t (by simp) (qb6 (qfN hia) (qaP (zaE hre hx hd) (qb6 (qfN (by omega)) ?_)))
    simp only
    rw [Int.toNat_natCast, qdB (by omega)]
    generalize (rest * 4294967296 + a[i]) / d = q at *
    generalize (rest * 4294967296 + a[i]) % d = t at *
    have hz0 : r[i]'(by omega) = 0 := by
      have := hzz i (by omega)
      rw [List.getElem?_eq_getElem (by omega)] at this
      exact Option.some.inj this
    have e1 : val ((r.set i q).drop i) = q + 4294967296 * val (r.drop (i + 1)) := by
      rw [q4C (by simp; omega), zv6 (by omega)]
      congr 1
      simp
    refine qwN ha hd hs i _ _ (by omega) (qqD hr i ⟨hq0, hq1⟩) (by simpa using hl) ⟨hr0, hr1⟩ ?_ ?_ (fun j hj => by rw [List.getElem?_set_ne (by omega)]; exact hzz j (by omega))
    · rw [e1, q4C hia, ← hv]; grind
    · rw [e1, qrG (by omega), hz0, hz, Int.pow_succ]; grind
theorem q7X {a : List Int} {d : Int} (ha : Dig a) (hd : 0 < d ∧ d < 4294967296) (hs : a.length ≤ 34359738360) : Ev (fun K => qq5 K a d) (digs (val a / d), val a % d, true) := by
  refine qaT ?_
  simp only [qq5, qdZ]
  have va := qdN (qbW ha)
  have la := qeW ha
  refine ev_f (by simp; omega) (qaP (qcZ ha (by omega)) (qhC (by omega) ?_))
  rw [Int.toNat_natCast, qdB (by omega)]
  have := qwN (qdX (val a)) hd (by omega) (digs (val a)).length (List.replicate (digs (val a)).length 0) 0 (Nat.le_refl _) (q8M (by decide)) (by simp) ⟨by decide, hd.1⟩
    (by rw [List.drop_of_length_le (by simp), List.drop_of_length_le (by simp)]; simp) (by rw [List.drop_of_length_le (by simp), qz1]; simp) (fun j hj => by rw [List.getElem?_replicate, if_pos hj])
  rw [va] at this
  exact this
theorem zpP (x y : Int) : bits .or .u32 x y = bits .or .u32 y x := by rw [zn2, zn2, BitVec.or_comm]
theorem zoN {x y : Int} {s : Nat} (hx : 0 ≤ x ∧ x < 4294967296) (_ : 0 ≤ y ∧ y < 4294967296) (hs1 : 0 < s) (hs : s < 32) :
    ∃ d : Int, bits .or .u32 (qdC .u32 x s) (qiN .u32 y (32 - s)) = d ∧ (0 ≤ d ∧ d < 4294967296) ∧ 2 ^ s * d + x % 2 ^ s = x + 4294967296 * (y % 2 ^ s) := by
  rw [zmK (by omega) (by show (s : Int) ≤ 32; omega), zq7 (by omega) (by show (32 : Int) - s ≤ 32; omega), zwZ, Int.toNat_natCast, show ((32 : Int) - s).toNat = 32 - s by omega]
  have hP : (0 : Int) < 2 ^ s := Int.pow_pos (by decide)
  have hQ : (0 : Int) < 2 ^ (32 - s) := Int.pow_pos (by decide)
  have hPQ : (2 : Int) ^ s * 2 ^ (32 - s) = 4294967296 := by rw [← Int.pow_add, show s + (32 - s) = 32 by omega]; rfl
  have hmul : y * 2 ^ (32 - s) % 4294967296 = y % 2 ^ s * 2 ^ (32 - s) := by rw [← hPQ, Int.mul_comm y, Int.mul_comm (2 ^ s), Int.mul_emod_mul_of_pos _ _ hQ, Int.mul_comm]
  have hm1 : 0 ≤ y % 2 ^ s := Int.emod_nonneg _ (by omega)
  have hm2 : y % 2 ^ s < 2 ^ s := Int.emod_lt_of_pos _ hP
  have hd1 : y % 2 ^ s * 2 ^ (32 - s) + 2 ^ (32 - s) ≤ 4294967296 := by
    have := Int.mul_le_mul_of_nonneg_right (show y % 2 ^ s + 1 ≤ 2 ^ s by omega) (Int.le_of_lt hQ)
    rw [hPQ, Int.add_mul, Int.one_mul] at this; exact this
  have hd0 : 0 ≤ y % 2 ^ s * 2 ^ (32 - s) := Int.mul_nonneg hm1 (Int.le_of_lt hQ)
  have hx0 : 0 ≤ x / 2 ^ s := Int.ediv_nonneg hx.1 (by omega)
  have hx1 : x / 2 ^ s < 2 ^ (32 - s) := Int.ediv_lt_of_lt_mul hP (by rw [Int.mul_comm, hPQ]; exact hx.2)
  rw [hmul, zpP, zj7 (s := 32 - s) ⟨hd0, by omega⟩ (Int.mul_emod_left _ _) ⟨hx0, hx1⟩ (by omega)]
  have hdiv := Int.emod_add_mul_ediv x (2 ^ s)
  refine ⟨_, rfl, ⟨by omega, by omega⟩, ?_⟩
  rw [← hPQ]
  generalize x / 2 ^ s = q at *
  generalize x % 2 ^ s = r at *
  generalize (2 : Int) ^ s = P at *
  generalize (2 : Int) ^ (32 - s) = Q at *
  rw [← hdiv]
  grind
theorem q6L {a : List Int} (ha : Dig a) {s : Nat} (hs1 : 0 < s) (hs : s < 32) (hl : a.length < 4611686018427387904) : ∀ (m i : Nat) (r : List Int), i + m = a.length → Dig r → r.length = a.length →
    2 ^ s * val (r.take i) + a.getD 0 0 % 2 ^ s = val (a.take i) + 4294967296 ^ i * (a.getD i 0 % 2 ^ s) → (∀ j, i ≤ j → r[j]? = a[j]?) → Ev (fun K => qdH K (.c1 r s a.length i)) (digs (val a / 2 ^ s))
  | 0, i, r, hi, hr, hrl, hv, hz => by
    refine qaT ?_
    simp only [qdH]
    have h1 := qcZ hr (by omega)
    rw [List.take_of_length_le (by omega), List.take_of_length_le (by omega)] at hv
    have e0 : a.getD i 0 = 0 := by simp [List.getD, List.getElem?_eq_none (show a.length ≤ i by omega)]
    rw [e0] at hv
    have hP : (0 : Int) < 2 ^ s := Int.pow_pos (by decide)
    have hm1 : 0 ≤ a.getD 0 0 % 2 ^ s := Int.emod_nonneg _ (by omega)
    have hm2 : a.getD 0 0 % 2 ^ s < 2 ^ s := Int.emod_lt_of_pos _ hP
    have e1 : val a / 2 ^ s = val r := by
      rw [show val a = a.getD 0 0 % 2 ^ s + 2 ^ s * val r by simp at hv ⊢; omega, Int.add_mul_ediv_left _ _ (by omega), Int.ediv_eq_zero_of_lt hm1 hm2, Int.zero_add]
    rw [e1]
    exact ev_f (by simp; omega) (qaP h1 (qa3 _))
  | m + 1, i, r, hi, hr, hrl, hv, hz => by
    refine qaT ?_
    simp only [qdH]
    have hia : i < a.length := by omega
    have hir : i < r.length := by omega
    have ei : r[i] = a[i] := by
      have := hz i (Nat.le_refl _)
      rw [List.getElem?_eq_getElem hir, List.getElem?_eq_getElem hia] at this
      exact Option.some.inj this
    have hx := qgF hr hir
    have gi0 : a.getD i 0 = a[i] := by simp [List.getD, List.getElem?_eq_getElem hia]
    have next : ∀ d y : Int, (0 ≤ d ∧ d < 4294967296) → a.getD (i + 1) 0 = y → 2 ^ s * d + a[i] % 2 ^ s = a[i] + 4294967296 * (y % 2 ^ s) → Ev (fun K => qdH K (.c3 (r.set i d) s a.length i)) (digs (val a / 2 ^ s)) := by
      intro d y hd hy he
      refine qaT ?_
      simp only [qdH]
      rw [qdB (by omega), show (i : Int) + 1 = ((i + 1 : Nat) : Int) by omega]
      refine q6L ha hs1 hs hl m (i + 1) _ (by omega) (qqD hr i hd) (by simpa using hrl) ?_ (fun j hj => by rw [List.getElem?_set_ne (by omega)]; exact hz j (by omega))
      rw [qeT (by simpa using hir), qeT hia, hy, Int.pow_succ]
      have e3 : (r.set i d).take i = r.take i := by rw [List.take_set_of_le (Nat.le_refl _)]
      rw [e3]
      simp only [List.getElem_set_self]
      rw [gi0] at hv
      generalize (4294967296 : Int) ^ i = A at *
      generalize (2 : Int) ^ s = P at *
      grind
    refine ev_t (by simp; omega) ?_
    rw [qdB (x := (i : Int) + 1) (by omega), qdB (x := (32 : Int) - s) (by omega)]
    by_cases hin : i + 1 < r.length
    · have hin2 : i + 1 < a.length := by omega
      have ej : r[i + 1] = a[i + 1] := by
        have := hz (i + 1) (by omega)
        rw [List.getElem?_eq_getElem hin, List.getElem?_eq_getElem hin2] at this
        exact Option.some.inj this
      have hy := qgF hr hin
      obtain ⟨d, e1, hd, e2⟩ := zoN hx hy hs1 hs
      rw [show (i : Int) + 1 = ((i + 1 : Nat) : Int) by omega]
      refine ev_t (by simp; omega) (qb6 (qfN hin) (qhC (by omega) (qb6 (qfN hir) (qhC (by omega) (qb6 (qfN hir) ?_)))))
      rw [e1, Int.toNat_natCast]
      rw [ei] at e2
      exact next d _ hd (by rw [ej]; simp [List.getD, List.getElem?_eq_getElem hin2]) e2
    · obtain ⟨d, e1, hd, e2⟩ := zoN hx (show 0 ≤ (0 : Int) ∧ (0 : Int) < 4294967296 by decide) hs1 hs
      have e4 : qiN .u32 0 ((32 : Int) - s) = 0 := by rw [zq7 (by omega) (by show (32 : Int) - s ≤ 32; omega), Int.zero_mul]; rfl
      rw [e4] at e1
      refine ev_f (by simp; omega) (qb6 (qfN hir) (qhC (by omega) (qb6 (qfN hir) ?_)))
      rw [e1, Int.toNat_natCast]
      rw [ei] at e2
      exact next d 0 hd (by simp [List.getD, List.getElem?_eq_none (show a.length ≤ i + 1 by omega)]) e2
theorem zk1 {a : List Int} (ha : Dig a) {s : Nat} (hs : s < 32) (hl : a.length ≤ 34359738360) : Ev (fun K => qwL K a s) (digs (val a / 2 ^ s)) := by
  refine qaT ?_
  simp only [qwL, qdH]
  have va := qdN (qbW ha)
  have la := qeW ha
  have e0 : max (s : Int) 0 = s := by omega
  have e1 : wI6 (Int.tdiv (s : Int) 32) = 0 := by
    rw [Int.tdiv_eq_ediv_of_nonneg (by omega), qdB (by omega)]; omega
  have e2 : Int.tmod (s : Int) 32 = s := by
    rw [Int.tmod_eq_emod_of_nonneg (by omega)]; omega
  rw [e0, e1, e2]
  refine qaP (qcZ ha (by omega)) ?_
  by_cases h : digs (val a) = []
  · refine ev_t (by simp [h]) (qeQ (qa3 _) ?_)
    rw [(qjY (qbW ha)).1 h, Int.zero_ediv, qhD]
  · have hp := List.length_pos_iff.2 h
    refine ev_f (by simp; omega) (qhC (by simp) ?_)
    rw [show ((0 : Int).toNat) = 0 from rfl, List.drop_zero, List.take_length]
    refine ev_t (by simpa using hp) (qhC (by omega) ?_)
    by_cases h0 : s = 0
    · subst h0
      refine ev_f (by simp) ?_
      have := qy8 (val a) (qbW ha) (by omega)
      rw [Int.pow_zero, Int.ediv_one]
      exact qaP this (qa3 _)
    · refine ev_t (by simp; omega) ?_
      have := q6L (qdX (val a)) (s := s) (by omega) hs (by omega) _ 0 _ (Nat.zero_add _) (qdX (val a)) rfl (by simp) (fun _ _ => rfl)
      rw [va] at this
      rw [List.length_map]
      exact this
theorem zyM : ∀ i : Fin 256, ∃ t : Fin 9, qcS[i.val]? = some (t.val : Int) ∧ (i.val = 0 ∨ (1 ≤ t.val ∧ 2 ^ (t.val - 1) ≤ i.val ∧ i.val < 2 ^ t.val)) := by decide +kernel
theorem tab_at {i : Int} (h : 0 < i ∧ i < 256) : ∃ t : Nat, gi qcS i = some (t : Int) ∧ 1 ≤ t ∧ t ≤ 8 ∧ (2 : Int) ^ (t - 1) ≤ i ∧ i < 2 ^ t := by
  obtain ⟨t, h1, h2⟩ := zyM ⟨i.toNat, by omega⟩
  simp only at h1 h2
  have h3 : i = ((i.toNat : Nat) : Int) := by omega
  rcases h2 with h2 | ⟨h4, h5, h6⟩
  · omega
  · refine ⟨t.val, ?_, h4, by have := t.isLt; omega, ?_, ?_⟩
    · unfold gi; rw [if_pos (by omega)]; exact h1
    · rw [h3]; exact_mod_cast h5
    · rw [h3]; exact_mod_cast h6
theorem q94 {x : Int} (hx : 0 < x ∧ x < 4294967296) : ∃ t : Nat, Ev (fun K => qkN K x) (t : Int) ∧ 1 ≤ t ∧ t ≤ 32 ∧ (2 : Int) ^ (t - 1) ≤ x ∧ x < 2 ^ t := by
  have s16 : qdC .u32 x 16 = x / 65536 := zoM _ _ _
  have s8 : qdC .u32 x 8 = x / 256 := zoM _ _ _
  have key : ∀ (k : Nat) (y : Int), y = x / 2 ^ k → 0 < y → y < 256 → k ≤ 24 → ∃ t : Nat, (gi qcS y = some (t : Int)) ∧ 1 ≤ t ∧ t ≤ 8 ∧ (2 : Int) ^ (k + t - 1) ≤ x ∧ x < 2 ^ (k + t) := by
    intro k y e h0 h1 hk
    obtain ⟨t, g1, g2, g3, g4, g5⟩ := tab_at ⟨h0, h1⟩
    have hP : (0 : Int) < 2 ^ k := Int.pow_pos (by decide)
    have hd := Int.emod_add_mul_ediv x (2 ^ k)
    have hm1 := Int.emod_nonneg x (show (2 : Int) ^ k ≠ 0 by omega)
    have hm2 := Int.emod_lt_of_pos x hP
    rw [← e] at hd
    refine ⟨t, g1, g2, g3, ?_, ?_⟩
    · rw [show k + t - 1 = k + (t - 1) by omega, Int.pow_add]
      have := Int.mul_le_mul_of_nonneg_left g4 (Int.le_of_lt hP)
      omega
    · rw [Int.pow_add]
      have := Int.mul_le_mul_of_nonneg_left (show y + 1 ≤ 2 ^ t by omega) (Int.le_of_lt hP)
      rw [Int.mul_add] at this
      omega
  by_cases h1 : 65536 ≤ x
  · by_cases h2 : 256 ≤ x / 65536
    · obtain ⟨t, g1, g2, g3, g4, g5⟩ := key 24 (x / 65536 / 256) (by show x / 65536 / 256 = x / 16777216; omega) (by omega) (by omega) (by omega)
      refine ⟨24 + t, ?_, by omega, by omega, g4, g5⟩
      refine qaT ?_
      simp only [qkN, qfI]
      have s24 : qdC .u32 (x / 65536) 8 = x / 65536 / 256 := zoM _ _ _
      rw [s16, s24, show wU1 (x / 65536 / 256) = x / 65536 / 256 by rw [w_u8]; omega]
      refine ev_t (by simpa using h1) (ev_t (by simpa using h2) (qb6 g1 (qeQ (qa3 _) ?_)))
      rw [qdB (x := (t : Int)) (by omega), qdB (x := (16 : Int) + 8) (by omega), qdB (by omega)]; omega
    · obtain ⟨t, g1, g2, g3, g4, g5⟩ := key 16 (x / 65536) rfl (by omega) (by omega) (by omega)
      refine ⟨16 + t, ?_, by omega, by omega, g4, g5⟩
      refine qaT ?_
      simp only [qkN, qfI]
      rw [s16, show wU1 (x / 65536) = x / 65536 by rw [w_u8]; omega]
      refine ev_t (by simpa using h1) (ev_f (by simpa using h2) (qb6 g1 (qeQ (qa3 _) ?_)))
      rw [qdB (x := (t : Int)) (by omega), qdB (by omega)]; omega
  · by_cases h2 : 256 ≤ x
    · obtain ⟨t, g1, g2, g3, g4, g5⟩ := key 8 (x / 256) rfl (by omega) (by omega) (by omega)
      refine ⟨8 + t, ?_, by omega, by omega, g4, g5⟩
      refine qaT ?_
      simp only [qkN, qfI]
      rw [s8, show wU1 (x / 256) = x / 256 by rw [w_u8]; omega]
      refine ev_f (by simpa using h1) (ev_t (by simpa using h2) (qb6 g1 (qeQ (qa3 _) ?_)))
      rw [qdB (x := (t : Int)) (by omega), qdB (x := (0 : Int) + 8) (by omega), qdB (by omega)]; omega
    · obtain ⟨t, g1, g2, g3, g4, g5⟩ := key 0 x (by simp) (by omega) (by omega) (by omega)
      refine ⟨0 + t, ?_, by omega, by omega, g4, g5⟩
      refine qaT ?_
      simp only [qkN, qfI]
      rw [show wU1 x = x by rw [w_u8]; omega]
      refine ev_f (by simpa using h1) (ev_f (by simpa using h2) (qb6 g1 (qeQ (qa3 _) ?_)))
      rw [qdB (x := (t : Int)) (by omega), qdB (by omega)]; omega
theorem qwW {x : Int} (hx : 0 < x ∧ x < 4294967296) : ∃ s : Nat, Ev (fun K => qjA K x) (s : Int) ∧ s ≤ 31 ∧ (2147483648 : Int) ≤ x * 2 ^ s ∧ x < 2 ^ (32 - s) := by
  obtain ⟨t, g1, g2, g3, g4, g5⟩ := q94 hx
  refine ⟨32 - t, ?_, by omega, ?_, by rw [show 32 - (32 - t) = t by omega]; exact g5⟩
  · refine qaT ?_
    simp only [qjA, qe5]
    refine qaP g1 (qeQ (qa3 _) ?_)
    rw [qdB (by omega)]; omega
  · have hP : (0 : Int) < 2 ^ (32 - t) := Int.pow_pos (by decide)
    have h1 := Int.mul_le_mul_of_nonneg_right g4 (Int.le_of_lt hP)
    rw [← Int.pow_add, show t - 1 + (32 - t) = 31 by omega] at h1
    exact h1
theorem qwH {r : List Int} {n : Nat} (hn : n ≤ r.length) : Ev (fun K => qbY K (.c2 r n)) (if n = 0 then none else some n) := by
  refine qaT ?_
  simp only [qbY]
  by_cases h : n = 0
  · subst h; exact ev_t (by simp) (qa3 _)
  · rw [if_neg h]
    refine ev_f (by simpa using h) (qhC (by omega) (qeQ (qa3 _) ?_))
    rw [Int.toNat_natCast, Nat.sub_zero]
theorem qwI {r : List Int} (hd : Dig r) (hs : r.length < 4611686018427387904) : ∀ {n : Nat}, n ≤ r.length → val (r.take n) = val r →
    Ev (fun K => qbY K (.c1 r n)) (if (digs (val r)).length = 0 then none else some (digs (val r)).length)
  | 0, hn, hv => by
    refine qaT ?_
    simp only [qbY]
    have := qwH (r := r) (Nat.zero_le _)
    rw [List.take_zero, q7D] at hv
    rw [← hv, qhD]
    exact ev_f (by simp) this
  | n + 1, hn, hv => by
    refine qaT ?_
    simp only [qbY]
    refine ev_t (by simp) ?_
    rw [qdB (by omega), show ((n + 1 : Nat) : Int) - 1 = (n : Int) by omega]
    refine qb6 (qfN (by omega)) ?_
    by_cases h : r[n]'(by omega) = 0
    · refine ev_t (by simp [h]) (qwI hd hs (by omega) ?_)
      rw [← hv, qw0 (by rw [List.getElem?_eq_getElem (by omega), h])]
    · refine ev_f (by simp [h]) ?_
      have e : digs (val r) = r.take (n + 1) := by
        rw [← hv]
        refine q0N (q8O (qkT hd _) fun x hx => ?_)
        rw [List.getLast?_take, if_neg (by omega), Nat.add_sub_cancel, List.getElem?_eq_getElem (by omega)] at hx
        simp at hx
        rw [← hx]; exact h
      have el : (digs (val r)).length = n + 1 := by rw [e, List.length_take]; omega
      rw [el]
      exact qwH hn
theorem qwJ {r : List Int} (hd : Dig r) (hs : r.length < 4611686018427387904) : Ev (fun K => qkM K r) (if (digs (val r)).length = 0 then none else some (digs (val r)).length) := by
  refine qaT ?_
  simp only [qkM, qbY]
  exact qwI hd hs (Nat.le_refl _) (by rw [List.take_length])
theorem zoH {r : List Int} (hd : Dig r) : r.take (digs (val r)).length = digs (val r) :=
  (congrArg (List.take (digs (val r)).length) (zrL hd)).trans (List.take_left' rfl)
def optD (z : Int) : Option (List Int) := if (digs z).length = 0 then none else some (digs z)
theorem q3S {r0 : List Int} (h0 : Dig r0) {s : Nat} (hs1 : 0 < s) (hs : s < 32) (hl : r0.length < 4611686018427387904) (hlast : val r0 * 2 ^ s < 4294967296 ^ r0.length) : ∀ (m i : Nat) (l : Int) (r : List Int), i + m = r0.length → (0 ≤ l ∧ l < 2 ^ s) → Dig r → r.length = r0.length →
    val r + 4294967296 ^ i * l = 2 ^ s * val (r0.take i) + 4294967296 ^ i * val (r0.drop i) → (∀ j, i ≤ j → r[j]? = r0[j]?) → Ev (fun K => qeI K (.c1 r s l i)) (optD (val r0 * 2 ^ s))
  | 0, i, l, r, hi, hlo, hr, hrl, hv, hz => by
    refine qaT ?_
    simp only [qeI]
    refine ev_f (by simp; omega) ?_
    have h1 := qwJ hr (by omega)
    rw [List.take_of_length_le (by omega), List.drop_of_length_le (by omega), q7D, Int.mul_zero, Int.add_zero, Int.mul_comm (2 ^ s)] at hv
    have hp := qfL i
    have hn := qbW hr
    rw [show r0.length = i by omega] at hlast
    have hl0 : l = 0 := by
      apply Classical.byContradiction; intro hne
      have := Int.mul_le_mul_of_nonneg_left (show 1 ≤ l by omega) (Int.le_of_lt hp)
      omega
    subst hl0
    rw [Int.mul_zero, Int.add_zero] at hv
    refine qaP h1 ?_
    have htd := zoH hr
    have hle := qeW hr
    rw [hv] at htd hle ⊢
    unfold optD
    by_cases h : (digs (val r0 * 2 ^ s)).length = 0
    · rw [if_pos h, if_pos h]; exact qa3 _
    · rw [if_neg h, if_neg h]
      refine qhC hle (qeQ (qa3 _) ?_)
      rw [htd]
  | m + 1, i, l, r, hi, hlo, hr, hrl, hv, hz => by
    refine qaT ?_
    simp only [qeI]
    have hir : i < r.length := by omega
    have hi0 : i < r0.length := by omega
    have hx := qgF hr hir
    obtain ⟨d, q, e1, e2, hd, hq, e3⟩ := zoO hx hlo hs
    refine ev_t (by simp; omega) (qb6 (qfN hir) (qhC (by omega) (qb6 (qfN hir) (qhC (by rw [qdB (by omega)]; omega) ?_))))
    rw [qdB (x := (32 : Int) - s) (by omega), e1, e2, Int.toNat_natCast, qdB (by omega), show (i : Int) + 1 = ((i + 1 : Nat) : Int) by omega]
    refine q3S h0 hs1 hs hl hlast m (i + 1) q _ (by omega) hq (qqD hr i hd) (by simpa using hrl) ?_ (fun j hj => ?_)
    · have e4 : r[i] = r0[i] := by
        have := hz i (Nat.le_refl _)
        rw [List.getElem?_eq_getElem hir, List.getElem?_eq_getElem hi0] at this
        exact Option.some.inj this
      rw [qrG hir, qeT hi0, Int.pow_succ]
      rw [List.drop_eq_getElem_cons hi0, qqP] at hv
      rw [e4] at e3 ⊢
      generalize (4294967296 : Int) ^ i = A at *
      generalize (2 : Int) ^ s = P at *
      grind
    · rw [List.getElem?_set_ne (by omega)]; exact hz j (by omega)
theorem ziK {a : List Int} (ha : Dig a) {n : Nat} (hn : n < 32) (hs : a.length ≤ 34359738360 - 524288) : Ev (fun K => qt9 K a n) (optD (val a * 2 ^ n)) := by
  refine qaT ?_
  simp only [qt9, qeI]
  have va := qdN (qbW ha)
  have la := qeW ha
  refine qaP (qcZ ha (by omega)) ?_
  by_cases h1 : digs (val a) = []
  · refine ev_t (by simp [h1]) (qeQ (qa3 _) ?_)
    rw [(qjY (qbW ha)).1 h1, Int.zero_mul]; simp [optD, qhD]
  · refine ev_f (by simpa using h1) ?_
    have e0 : min (max (n : Int) 0) 16777216 = n := by omega
    have e1 : wI6 (Int.tdiv (n : Int) 32) = 0 := by
      rw [Int.tdiv_eq_ediv_of_nonneg (by omega), qdB (by omega)]; omega
    have e2 : Int.tmod (n : Int) 32 = n := by
      rw [Int.tmod_eq_emod_of_nonneg (by omega)]; omega
    rw [e0, e1, e2, qdB (x := (0 : Int) + ((digs (val a)).length : Int)) (by omega), qdB (by omega),
      show (0 : Int) + ((digs (val a)).length : Int) + 1 = (((digs (val a)).length + 1 : Nat) : Int) by omega]
    simp only [Int.toNat_natCast, List.length_replicate, Nat.zero_add, Int.toNat_zero]
    refine qhC (by omega) (qhC (by omega) (qhC (by omega) ?_))
    have hcp : qg2 (List.replicate ((digs (val a)).length + 1) (0 : Int)) 0 ((digs (val a)).length + 1 - 0) (digs (val a)) = digs (val a) ++ [0] := by
      unfold qg2
      rw [if_pos (by simp), List.take_of_length_le (by omega)]
      unfold qdE
      rw [List.take_zero, List.drop_replicate, Nat.zero_add, show (digs (val a)).length + 1 - (digs (val a)).length = 1 by omega]
      rfl
    rw [hcp]
    have hd : Dig (digs (val a) ++ [0]) := q41.2 ⟨qdX _, ql3.2 ⟨by decide, q4I⟩⟩
    have hv : val (digs (val a) ++ [0]) = val a := by rw [ql6, va]; simp
    have hl : (digs (val a) ++ [0]).length = (digs (val a)).length + 1 := by simp
    by_cases h2 : n = 0
    · refine ev_f (by simp [h2]) ?_
      have := qwJ hd (by omega)
      refine qaP this ?_
      rw [h2, Int.pow_zero, Int.mul_one]
      have htd := zoH hd
      have hle := qeW hd
      rw [hv] at htd hle ⊢
      unfold optD
      by_cases h : (digs (val a)).length = 0
      · rw [if_pos h, if_pos h]; exact qa3 _
      · rw [if_neg h, if_neg h]
        refine qhC hle (qeQ (qa3 _) ?_)
        rw [htd]
    · refine ev_t (by simp; omega) ?_
      have hlast : val (digs (val a) ++ [0]) * 2 ^ n < 4294967296 ^ (digs (val a) ++ [0]).length := by
        rw [hv, hl, Int.pow_succ]
        have h3 := qnN (qdX (val a))
        rw [va] at h3
        have h4 : (2 : Int) ^ n < 4294967296 := by
          have : (2 : Nat) ^ n ≤ 2 ^ 31 := Nat.pow_le_pow_right (by decide) (by omega)
          have : ((2 ^ n : Nat) : Int) ≤ ((2 ^ 31 : Nat) : Int) := by exact_mod_cast this
          simp at this; omega
        have h8 := qbW ha
        calc val a * 2 ^ n ≤ val a * 4294967296 := Int.mul_le_mul_of_nonneg_left (Int.le_of_lt h4) h8
          _ < 4294967296 ^ (digs (val a)).length * 4294967296 := Int.mul_lt_mul_of_pos_right h3 (by decide)
      have := q3S hd (s := n) (by omega) (by omega) (by omega) hlast _ 0 0 _ (Nat.zero_add _) ⟨Int.le_refl 0, Int.pow_pos (by decide)⟩ hd rfl (by simp) (fun _ _ => rfl)
      rw [hv] at this
      exact this
def Top (k : Nat) (u : List Int) : Prop := ∀ j, k ≤ j → j < u.length → u[j]? = some 0
theorem zg5 {k : Nat} {u : List Int} (h : Top k u) : val u = val (u.take k) := by
  by_cases hk : k ≤ u.length
  · rw [qpE u k hk, zqX (l := u.drop k)]
    · simp
    · intro x hx
      obtain ⟨j, hj, rfl⟩ := List.getElem_of_mem hx
      have := h (k + j) (by omega) (by simp at hj; omega)
      simp only [List.getElem_drop]
      rw [List.getElem?_eq_getElem (by simp at hj; omega)] at this
      exact Option.some.inj this
  · rw [List.take_of_length_le (by omega)]
theorem top_lt {k : Nat} {u : List Int} (hu : Dig u) (h : Top k u) : val u < 4294967296 ^ k := by
  rw [zg5 h]
  have h1 := qnN (qkT hu k)
  have h2 := qxJ (show (u.take k).length ≤ k by rw [List.length_take]; omega)
  omega
theorem zoE {k : Nat} {u : List Int} (hu : Dig u) (h : val u < 4294967296 ^ k) : Top k u := by
  intro j hj hjl
  rw [List.getElem?_eq_getElem hjl]
  congr 1
  have h1 := qpE u j (by omega)
  rw [q4C hjl] at h1
  have h2 := qbW (qkT hu j)
  have h3 := qbW (zv8 hu (j + 1))
  have h4 := qgF hu hjl
  have h5 := qxJ hj
  have h6 := qfL j
  apply Classical.byContradiction; intro hne
  have := Int.mul_le_mul_of_nonneg_left (show 1 ≤ u[j] + 4294967296 * val (u.drop (j + 1)) by omega) (Int.le_of_lt h6)
  omega
theorem zg6 {k i : Nat} {u : List Int} {x : Int} (h : Top k u) (hi : i < k) : Top k (u.set i x) := by
  intro j hj hjl
  rw [List.getElem?_set_ne (by omega)]
  exact h j hj (by simpa using hjl)
theorem zyI {u : List Int} {k : Nat} (hk : k + 2 < u.length) (h : Top (k + 3) u) : val u = val (u.take k) + 4294967296 ^ k * (u[k] + 4294967296 * u[k + 1] + 18446744073709551616 * u[k + 2]) := by
  rw [zg5 h, qeT (i := k + 2) (by omega), qeT (i := k + 1) (by omega), qeT (i := k) (by omega), show (4294967296 : Int) ^ (k + 2) = 4294967296 ^ k * 18446744073709551616 by rw [Int.pow_add]; rfl, Int.pow_succ]
  generalize (4294967296 : Int) ^ k = A
  grind
structure Dv (v : List Int) (n s : Nat) (top next : Int) : Prop where
  dig : Dig v
  len : v.length = n
  two : 2 ≤ n
  small : n < 2305843009213693952
  sh : s < 32
  htop : v[n - 1]? = some top
  hnext : v[n - 2]? = some next
  great : 2147483648 ≤ top
theorem Dv.form {v : List Int} {n s : Nat} {top next : Int} (h : Dv v n s top next) : ∃ w, val v = w + 4294967296 ^ (n - 2) * (next + 4294967296 * top) ∧ 0 ≤ w ∧ w < 4294967296 ^ (n - 2) ∧ (0 ≤ next ∧ next < 4294967296) ∧ (2147483648 ≤ top ∧ top < 4294967296) := by
  have h1 := h.len
  have h2 := h.two
  obtain ⟨g1, e1⟩ := List.getElem?_eq_some_iff.1 h.htop
  obtain ⟨g2, e2⟩ := List.getElem?_eq_some_iff.1 h.hnext
  have d1 := qgF h.dig g1
  have d2 := qgF h.dig g2
  refine ⟨val (v.take (n - 2)), ?_, qbW (qkT h.dig _), ?_, by omega, by have := h.great; omega⟩
  · have e : val v = val (v.take (n - 2 + 1 + 1)) := by rw [List.take_of_length_le (by omega)]
    rw [e, qeT (by omega), qeT (by omega), Int.pow_succ, e2]
    have e3 : v[n - 2 + 1]'(by omega) = top := by rw [← e1]; congr 1; omega
    rw [e3]
    generalize (4294967296 : Int) ^ (n - 2) = A
    grind
  · have := qnN (qkT h.dig (n - 2))
    rw [List.length_take, Nat.min_eq_left (by omega)] at this
    exact this
theorem zpI {v : List Int} {n s : Nat} {top next : Int} (h : Dv v n s top next) (j : Nat) :
    (top * 4294967296 + next) * 4294967296 ^ (j + n - 2) ≤ 4294967296 ^ j * val v ∧ 4294967296 ^ j * val v < (top * 4294967296 + next + 1) * 4294967296 ^ (j + n - 2) := by
  obtain ⟨w, e, h0, h1, _, _⟩ := h.form
  have h2 := h.two
  rw [e, show j + n - 2 = j + (n - 2) by omega, Int.pow_add]
  have hA := qfL j
  have hw := Int.mul_nonneg (Int.le_of_lt hA) h0
  have hw2 := Int.mul_lt_mul_of_pos_left h1 hA
  generalize (4294967296 : Int) ^ j = A at *
  generalize (4294967296 : Int) ^ (n - 2) = C at *
  constructor <;> grind
theorem zr8 {r71 v u : List Int} {n s j : Nat} {top next : Int} {res : List Int × List Int} (hv : Dv v n s top next) (hu : Dig u) (hl : j + n < u.length) (hls : u.length < 2305843009213693952) (ht : Top (j + n + 1) u)
    (hU : val u < 4294967296 * (4294967296 ^ j * val v))
    (hk : ∀ g : Int, 0 ≤ g → g < 4294967296 → (g - 1) * (4294967296 ^ j * val v) ≤ val u → val u < (g + 1) * (4294967296 ^ j * val v) → Ev (fun K => qaU K (.c6 u r71 n s v top next j g)) res) :
    ∀ (m : Nat) (g rest : Int), g.toNat = m → 0 ≤ g → g < 17179869184 → 0 ≤ rest → rest < 4294967296 → g * top + rest = u[j + n] * 4294967296 + u[j + n - 1]'(by omega) → val u < (g + 1) * (4294967296 ^ j * val v) →
      Ev (fun K => qaU K (.c4 u r71 n s v top next j g rest)) res := by
  have h2 := hv.two
  obtain ⟨w, ev, _, _, hnx, htp⟩ := hv.form
  obtain ⟨b1, b2⟩ := zpI hv j
  have e3 := zyI (u := u) (k := j + n - 2) (by omega) (by rw [show j + n - 2 + 3 = j + n + 1 by omega]; exact ht)
  have ei1 : u[j + n - 2 + 1]'(by omega) = u[j + n - 1]'(by omega) := by congr 1; omega
  have ei2 : u[j + n - 2 + 2]'(by omega) = u[j + n] := by congr 1; omega
  rw [ei1, ei2] at e3
  have l1 := qbW (qkT hu (j + n - 2))
  have l2 := qnN (qkT hu (j + n - 2))
  rw [List.length_take, Nat.min_eq_left (by omega)] at l2
  have d0 := qgF hu (show j + n - 2 < u.length by omega)
  have d1 := qgF hu (show j + n - 1 < u.length by omega)
  have d2 := qgF hu (show j + n < u.length by omega)
  have hP := qfL (j + n - 2)
  have hUn := qbW hu
  have hVn : 0 ≤ 4294967296 ^ j * val v := Int.mul_nonneg (Int.le_of_lt (qfL j)) (qbW hv.dig)
  generalize hu2 : u[j + n - 2]'(by omega) = u2 at *
  generalize hu1 : u[j + n - 1]'(by omega) = u1 at *
  generalize hu0 : u[j + n]'(by omega) = u0 at *
  generalize (4294967296 : Int) ^ (j + n - 2) = P at *
  generalize 4294967296 ^ j * val v = W at *
  have hlo : ((u0 * 4294967296 + u1) * 4294967296 + u2) * P ≤ val u := by
    have : ((u0 * 4294967296 + u1) * 4294967296 + u2) * P = P * (u2 + 4294967296 * u1 + 18446744073709551616 * u0) := by grind
    omega
  have hhi : val u < ((u0 * 4294967296 + u1) * 4294967296 + u2 + 1) * P := by
    have : ((u0 * 4294967296 + u1) * 4294967296 + u2 + 1) * P = P * (u2 + 4294967296 * u1 + 18446744073709551616 * u0) + P := by grind
    omega
  have hu0t : u0 ≤ top := by
    apply Classical.byContradiction; intro hne
    have h3 : (u0 * 4294967296 * 4294967296) * P ≤ val u := by
      have := Int.mul_le_mul_of_nonneg_right (show u0 * 4294967296 * 4294967296 ≤ (u0 * 4294967296 + u1) * 4294967296 + u2 by omega) (Int.le_of_lt hP)
      omega
    have h4 : ((top * 4294967296 + next + 1) * 4294967296) * P ≤ (u0 * 4294967296 * 4294967296) * P := Int.mul_le_mul_of_nonneg_right (by omega) (Int.le_of_lt hP)
    have h5 : ((top * 4294967296 + next + 1) * 4294967296) * P = 4294967296 * ((top * 4294967296 + next + 1) * P) := by grind
    omega
  -- the end of the loop
  have fin : ∀ g rest : Int, 0 ≤ g → g < 4294967296 → g * top + rest = u0 * 4294967296 + u1 → g * next ≤ rest * 4294967296 + u2 → val u < (g + 1) * W → Ev (fun K => qaU K (.c6 u r71 n s v top next j g)) res := by
    intro g rest g0 g1 e hle hgu
    refine hk g g0 g1 (zy6 hP g0 (by omega) hVn hUn b2 hlo ?_) hgu
    have : g * (top * 4294967296 + next) = (g * top) * 4294967296 + g * next := by grind
    omega
  intro m
  induction m with
  | zero =>
    intro g rest hm g0 g1 r0 r1 e hgu
    have : g = 0 := by omega
    subst this
    refine qaT ?_
    simp only [qaU]
    refine ev_f (by simp) ?_
    rw [qdB (x := (j : Int) + n) (by omega), qdB (by omega), show (j : Int) + n - 2 = ((j + n - 2 : Nat) : Int) by omega]
    refine qb6 (qfN (by omega)) (ev_f ?_ (fin 0 rest (by omega) (by omega) e (by omega) hgu))
    rw [hu2, Int.zero_mul, qrY, qrY, Int.emod_eq_of_lt d0.1 (by omega), q9Q ⟨r0, r1⟩ d0]
    simp; omega
  | succ m ih =>
    intro g rest hm g0 g1 r0 r1 e hgu
    have dec : val u < g * W → Ev (fun K => bif decide (4294967296 ≤ wU6 (rest + top)) then qaU K (.c6 u r71 n s v top next j (wU6 (g - 1))) else qaU K (.c4 u r71 n s v top next j (wU6 (g - 1)) (wU6 (rest + top)))) res := by
      intro hlt
      rw [qrY, qrY, Int.emod_eq_of_lt (by omega) (by omega), Int.emod_eq_of_lt (by omega) (by omega)]
      have e' : (g - 1) * top + (rest + top) = u0 * 4294967296 + u1 := by rw [Int.sub_mul]; omega
      by_cases hb : 4294967296 ≤ rest + top
      · refine ev_t (by simpa using hb) ?_
        have hg : g - 1 < 4294967296 := by
          apply Classical.byContradiction; intro hne
          have := Int.mul_le_mul_of_nonneg_right (show 4294967296 ≤ g - 1 by omega) (show 0 ≤ top by omega)
          omega
        refine fin (g - 1) (rest + top) (by omega) hg e' ?_ (by rw [Int.sub_add_cancel]; exact hlt)
        have := zcN ⟨show 0 ≤ g - 1 by omega, hg⟩ hnx
        omega
      · refine ev_f (by simpa using hb) (ih (g - 1) (rest + top) (by omega) (by omega) (by omega) (by omega) (by omega) e' (by rw [Int.sub_add_cancel]; exact hlt))
    refine qaT ?_
    simp only [qaU]
    by_cases hg : 4294967296 ≤ g
    · refine ev_t (by simpa using hg) (dec ?_)
      have := Int.mul_le_mul_of_nonneg_right hg hVn
      omega
    · refine ev_f (by simpa using hg) ?_
      rw [qdB (x := (j : Int) + n) (by omega), qdB (by omega), show (j : Int) + n - 2 = ((j + n - 2 : Nat) : Int) by omega]
      refine qb6 (qfN (by omega)) ?_
      have hgn := zcN ⟨g0, show g < 4294967296 by omega⟩ hnx
      have e4 : wU6 u2 = u2 := by rw [qrY]; omega
      have e5 : wU6 (g * next) = g * next := by rw [qrY]; omega
      rw [hu2, e4, e5, q9Q ⟨r0, r1⟩ d0]
      by_cases hc : rest * 4294967296 + u2 < g * next
      · refine ev_t (by simpa using hc) (dec (zxG hP g0 b1 hhi ?_))
        have : g * (top * 4294967296 + next) = (g * top) * 4294967296 + g * next := by grind
        omega
      · exact ev_f (by simpa using hc) (fin g rest g0 (by omega) e (by omega) hgu)
theorem zeF {r71 v : List Int} {n s j : Nat} {top next : Int} {res : List Int × List Int} (hv : Dv v n s top next) (L : Nat) (hl : j + n < L) (hls : L < 2305843009213693952) (W0 : Int)
    (hk : ∀ u : List Int, Dig u → u.length = L → Top (j + n + 1) u → (∃ k : Int, 0 ≤ k ∧ val u = W0 + 4294967296 ^ j * val v - 4294967296 ^ (j + n + 1) * k) → Ev (fun K => qaU K (.c11 u r71 n s v top next j)) res) :
    ∀ (m i : Nat) (c : Int) (u : List Int), i + m = n → (c = 0 ∨ c = 1) → Dig u → u.length = L → Top (j + n + 1) u → val u + 4294967296 ^ (i + j) * c = W0 + 4294967296 ^ j * val (v.take i) →
      Ev (fun K => qaU K (.c12 u r71 n s v top next j c v n i)) res
  | 0, i, c, u, hi, hc, hu, hul, ht, hval => by
    have h2 := hv.two
    refine qaT ?_
    simp only [qaU]
    refine ev_f (by simp; omega) ?_
    rw [qdB (by omega), show (j : Int) + n = ((j + n : Nat) : Int) by omega, Int.toNat_natCast]
    refine qb6 (qfN (by omega)) (qb6 (qfN (by omega)) ?_)
    have d := qgF hu (show j + n < u.length by omega)
    rw [q44]
    refine hk _ (qqD hu _ (by omega)) (by simpa using hul) (zg6 ht (by omega)) ⟨(u[j + n]'(by omega) + c) / 4294967296, by omega, ?_⟩
    rw [qrG (by omega)]
    rw [List.take_of_length_le (by have := hv.len; omega), show i + j = j + n by omega] at hval
    have := Int.emod_add_mul_ediv (u[j + n]'(by omega) + c) 4294967296
    rw [Int.pow_succ]
    generalize (u[j + n]'(by omega) + c) % 4294967296 = p at *
    generalize (u[j + n]'(by omega) + c) / 4294967296 = q at *
    generalize (4294967296 : Int) ^ (j + n) = A at *
    grind
  | m + 1, i, c, u, hi, hc, hu, hul, ht, hval => by
    have h2 := hv.two
    have h3 := hv.len
    refine qaT ?_
    simp only [qaU]
    have hiv : i < v.length := by omega
    have hiu : i + j < u.length := by omega
    refine ev_t (by simp; omega) (qb6 (qfN hiv) ?_)
    rw [qdB (x := (i : Int) + j) (by omega), show (i : Int) + j = ((i + j : Nat) : Int) by omega, Int.toNat_natCast]
    have d := qgF hu hiu
    have dv := qgF hv.dig hiv
    refine qb6 (qfN hiu) (qaP (qoM d dv (by omega)) (qb6 (qfN hiu) ?_))
    simp only
    rw [qdB (by omega), show (i : Int) + 1 = ((i + 1 : Nat) : Int) by omega]
    refine zeF hv L hl hls W0 hk m (i + 1) _ _ (by omega) (by omega) (qqD hu _ (by omega)) (by simpa using hul) (zg6 ht (by omega)) ?_
    rw [qrG hiu, qeT hiv, show i + 1 + j = i + j + 1 by omega, Int.pow_succ]
    have := Int.emod_add_mul_ediv (u[i + j] + v[i] + c) 4294967296
    generalize (u[i + j] + v[i] + c) % 4294967296 = p at *
    generalize (u[i + j] + v[i] + c) / 4294967296 = q at *
    rw [Int.pow_add] at *
    generalize (4294967296 : Int) ^ i = A at *
    generalize (4294967296 : Int) ^ j = C at *
    grind
theorem zuK {r71 v u : List Int} {n s j : Nat} {top next : Int} {res : List Int × List Int} (hv : Dv v n s top next) (hl : j + n < u.length) (hls : u.length < 2305843009213693952) (hu : Dig u) (ht : Top (j + n + 1) u)
    (hk : ∀ u' : List Int, Dig u' → u'.length = u.length → Top (j + n + 1) u' → (∃ k : Int, 0 ≤ k ∧ val u' = val u + 4294967296 ^ j * val v - 4294967296 ^ (j + n + 1) * k) → Ev (fun K => qaU K (.c11 u' r71 n s v top next j)) res) :
    Ev (fun K => qaU K (.c12 u r71 n s v top next j 0 v v.length 0)) res := by
  have := zeF hv u.length hl hls (val u) hk n 0 0 u (by omega) (.inl rfl) hu rfl ht (by simp)
  rw [hv.len]
  exact this
theorem ziP {r71 v : List Int} {n s j : Nat} {top next : Int} {res : List Int × List Int} (hv : Dv v n s top next) (L : Nat) (hl : j + n < L) (hls : L < 2305843009213693952) (hj : j < r71.length) (g U : Int) (hg : 0 ≤ g ∧ g < 4294967296) (hU0 : 0 ≤ U)
    (hg1 : (g - 1) * (4294967296 ^ j * val v) ≤ U) (hg2 : U < (g + 1) * (4294967296 ^ j * val v))
    (hk : ∀ (u : List Int) (g' : Int), Dig u → u.length = L → 0 ≤ g' → g' < 4294967296 → val u = U - g' * (4294967296 ^ j * val v) → val u < 4294967296 ^ j * val v → Ev (fun K => qaU K (.c11 u (r71.set j g') n s v top next j)) res) :
    ∀ (m i : Nat) (c b : Int) (u : List Int), i + m = n → (0 ≤ c ∧ c < 4294967296) → (b = 0 ∨ b = 1) → Dig u → u.length = L → Top (j + n + 1) u → val u - 4294967296 ^ (i + j) * (b + c) = U - g * (4294967296 ^ j * val (v.take i)) →
      Ev (fun K => qaU K (.c8 u r71 n s v top next j g c b v n i)) res
  | 0, i, c, b, u, hi, hc, hb, hu, hul, ht, hval => by
    have h2 := hv.two
    have h3 := hv.len
    refine qaT ?_
    simp only [qaU]
    refine ev_f (by simp; omega) ?_
    rw [qdB (by omega), show (j : Int) + n = ((j + n : Nat) : Int) by omega, Int.toNat_natCast, Int.toNat_natCast]
    have d := qgF hu (show j + n < u.length by omega)
    refine qb6 (qfN (by omega)) (qb6 (qfN (by omega)) (qb6 (qfN hj) ?_))
    rw [List.take_of_length_le (by omega), show i + j = j + n by omega] at hval
    have eg : wU3 g = g := by rw [q44]; omega
    have ex : wU6 (wU6 (wU6 (u[j + n]'(by omega)) - b) - c) = (u[j + n]'(by omega) - (b + c)) % 18446744073709551616 := by simp only [qrY]; omega
    rw [ex, eg, zmK (by decide) (by decide), q44, show (2 : Int) ^ ((63 : Int).toNat) = 9223372036854775808 by decide]
    have hvs : ∀ x : Int, val (u.set (j + n) x) = val u + 4294967296 ^ (j + n) * (x - u[j + n]'(by omega)) := fun x => qrG (by omega) x
    have htk := zg5 (zg6 (x := u[j + n]'(by omega) - (b + c)) ht (show j + n < j + n + 1 by omega))
    have hA := qfL (j + n)
    have hW : 0 ≤ 4294967296 ^ j * val v := Int.mul_nonneg (Int.le_of_lt (qfL j)) (qbW hv.dig)
    by_cases hD : 0 ≤ u[j + n]'(by omega) - (b + c)
    · refine ev_t (by simp; omega) ?_
      have e1 : (u[j + n]'(by omega) - (b + c)) % 18446744073709551616 % 4294967296 = u[j + n]'(by omega) - (b + c) := by omega
      rw [e1]
      have hdig := qqD hu (j + n) (x := u[j + n]'(by omega) - (b + c)) (by omega)
      have hval2 : val (u.set (j + n) (u[j + n]'(by omega) - (b + c))) = U - g * (4294967296 ^ j * val v) := by
        rw [hvs, ← hval]; grind
      refine hk _ g hdig (by simpa using hul) hg.1 hg.2 hval2 ?_
      rw [hval2, Int.add_mul, Int.one_mul] at *
      omega
    · refine ev_f (by simp; omega) ?_
      have e1 : (u[j + n]'(by omega) - (b + c)) % 18446744073709551616 % 4294967296 = u[j + n]'(by omega) - (b + c) + 4294967296 := by omega
      rw [e1]
      have hdig := qqD hu (j + n) (x := u[j + n]'(by omega) - (b + c) + 4294967296) (by omega)
      have htop := zg6 (x := u[j + n]'(by omega) - (b + c) + 4294967296) ht (show j + n < j + n + 1 by omega)
      have hval2 : val (u.set (j + n) (u[j + n]'(by omega) - (b + c) + 4294967296)) = U - g * (4294967296 ^ j * val v) + 4294967296 ^ (j + n + 1) := by
        rw [hvs, ← hval, Int.pow_succ]; grind
      -- the guess was one too many
      have hneg : U - g * (4294967296 ^ j * val v) < 0 := by
        have h4 : val (u.take (j + n)) < 4294967296 ^ (j + n) := by
          have := qnN (qkT hu (j + n))
          rwa [List.length_take, Nat.min_eq_left (by omega)] at this
        have h5 := zg5 ht
        rw [qeT (by omega)] at h5
        have h6 := Int.mul_le_mul_of_nonneg_left (show u[j + n]'(by omega) - (b + c) + 1 ≤ 0 by omega) (Int.le_of_lt hA)
        rw [← hval, h5]
        have h7 : 4294967296 ^ (j + n) * (u[j + n]'(by omega) - (b + c) + 1) = 4294967296 ^ (j + n) * u[j + n]'(by omega) - 4294967296 ^ (j + n) * (b + c) + 4294967296 ^ (j + n) := by grind
        omega
      have hgp : 1 ≤ g := by
        apply Classical.byContradiction; intro hne
        have : g = 0 := by omega
        subst this; simp at hneg; omega
      have hgj : gi (r71.set j g) (j : Int) = some g := za3 (by simp [hj])
      refine qb6 hgj (qb6 hgj ?_)
      have eg1 : wU3 (g - 1) = g - 1 := by rw [q44]; omega
      rw [q44, Int.emod_eq_of_lt (by omega) (by omega), List.set_set]
      refine zuK hv (by simp; omega) (by simp; omega) hdig htop fun u' hu' hul' ht' ⟨k, hk0, hke⟩ => ?_
      rw [hval2] at hke
      have hlt := top_lt hu' ht'
      have hn' := qbW hu'
      have hX : U - (g - 1) * (4294967296 ^ j * val v) = U - g * (4294967296 ^ j * val v) + 4294967296 ^ j * val v := by grind
      have hB := qfL (j + n + 1)
      have hk1 : k = 1 := by
        have hWB : 4294967296 ^ j * val v < 4294967296 ^ (j + n + 1) := by
          have h4 := qnN hv.dig
          rw [h3] at h4
          have h5 := Int.mul_lt_mul_of_pos_left h4 (qfL j)
          rw [← Int.pow_add] at h5
          have h6 := qxJ (show j + n ≤ j + n + 1 by omega)
          omega
        apply Classical.byContradiction; intro hne
        rcases Int.lt_or_gt_of_ne hne with hlt1 | hgt1
        · have : k = 0 := by omega
          subst this
          omega
        · have := Int.mul_le_mul_of_nonneg_left (show 2 ≤ k by omega) (Int.le_of_lt hB)
          omega
      subst hk1
      refine hk u' (g - 1) hu' (by rw [hul']; simpa using hul) (by omega) (by omega) (by omega) (by omega)
  | m + 1, i, c, b, u, hi, hc, hb, hu, hul, ht, hval => by
    have h2 := hv.two
    have h3 := hv.len
    refine qaT ?_
    simp only [qaU]
    have hiv : i < v.length := by omega
    have hiu : i + j < u.length := by omega
    refine ev_t (by simp; omega) (qb6 (qfN hiv) ?_)
    rw [qdB (x := (i : Int) + j) (by omega), show (i : Int) + j = ((i + j : Nat) : Int) by omega, Int.toNat_natCast]
    have d := qgF hu hiu
    have dv := qgF hv.dig hiv
    have hp := zcN hg dv
    refine qb6 (qfN hiu) (qb6 (qfN hiu) ?_)
    have e1 : wU6 (wU6 (g * wU6 v[i]) + c) = g * v[i] + c := by
      rw [qrY v[i], Int.emod_eq_of_lt dv.1 (by omega), qrY, qrY, Int.emod_eq_of_lt hp.1 (by omega), Int.emod_eq_of_lt (by omega) (by omega)]
    obtain ⟨c', b', y', q1, q2, q3, hc', hb', hy', he⟩ := zvB hg dv hc hb d
    rw [e1, zwM (by omega), zgX, zmK (by decide) (by decide), show (2 : Int) ^ ((63 : Int).toNat) = 9223372036854775808 by decide]
    have e2 : wU6 (wU6 (wU6 u[i + j] - b) - (g * v[i] + c) % 4294967296) = (u[i + j] - b - (g * v[i] + c) % 4294967296) % 18446744073709551616 := by simp only [qrY]; omega
    rw [e2, q44, q1, q2, q3, qdB (by omega), show (i : Int) + 1 = ((i + 1 : Nat) : Int) by omega]
    refine ziP hv L hl hls hj g U hg hU0 hg1 hg2 hk m (i + 1) c' b' _ (by omega) hc' hb' (qqD hu _ hy') (by simpa using hul) (zg6 ht (by omega)) ?_
    rw [qrG hiu, qeT hiv, show i + 1 + j = i + j + 1 by omega, Int.pow_succ]
    rw [Int.pow_add] at *
    generalize (4294967296 : Int) ^ i = A at *
    generalize (4294967296 : Int) ^ j = C at *
    grind
theorem zo9 {v : List Int} {n s : Nat} {top next : Int} (hv : Dv v n s top next) (L : Nat) (hnL : n < L) (hls : L < 34359738360) (A : Int) :
    ∀ (jj : Nat) (u q : List Int), jj + n ≤ L → Dig u → u.length = L → Dig q → jj ≤ q.length → q.length = L - n → val u < 4294967296 ^ jj * val v → A = val u + val q * val v → (∀ i, i < jj → q[i]? = some 0) →
      Ev (fun K => qaU K (.c2 u q n s v top next ((jj : Int) - 1))) (digs (A / val v), digs (A % val v / 2 ^ s))
  | 0, u, q, hj, hu, hul, hq, hjq, hql, hU, hA, hz => by
    have h2 := hv.two
    rw [Int.pow_zero, Int.one_mul] at hU
    have hu0 := qbW hu
    refine qaT ?_
    simp only [qaU]
    have e1 : A / val v = val q := by rw [hA, Int.add_mul_ediv_right _ _ (by omega), Int.ediv_eq_zero_of_lt hu0 hU, Int.zero_add]
    have e2 : A % val v = val u := by rw [hA, Int.add_mul_emod_self_right, Int.emod_eq_of_lt hu0 hU]
    have hvl := qnN hv.dig
    rw [hv.len] at hvl
    have ht := zoE hu (show val u < 4294967296 ^ n by omega)
    have hs := zk1 (qkT hu n) hv.sh (by rw [List.length_take]; omega)
    rw [← zg5 ht] at hs
    rw [e1, e2]
    refine ev_f (by simp) (qaP (qiA hq (by omega)) (qhC (by omega) ?_))
    rw [Int.toNat_natCast]
    exact qaP hs (qa3 _)
  | j + 1, u, q, hj, hu, hul, hq, hjq, hql, hU, hA, hz => by
    have h2 := hv.two
    have h3 := hv.len
    obtain ⟨w, evv, _, _, hnx, htp⟩ := hv.form
    refine qaT ?_
    simp only [qaU]
    rw [show ((j + 1 : Nat) : Int) - 1 = (j : Int) by omega]
    refine ev_t (by simp) ?_
    rw [qdB (x := (j : Int) + n) (by omega), qdB (x := (j : Int) + n - 1) (by omega), show (j : Int) + n - 1 = ((j + n - 1 : Nat) : Int) by omega, show (j : Int) + n = ((j + n : Nat) : Int) by omega]
    have hU' : val u < 4294967296 * (4294967296 ^ j * val v) := by
      rw [Int.pow_succ] at hU
      have : 4294967296 ^ j * 4294967296 * val v = 4294967296 * (4294967296 ^ j * val v) := by grind
      omega
    have hvl := qnN hv.dig
    rw [h3] at hvl
    have ht : Top (j + n + 1) u := by
      refine zoE hu ?_
      have := Int.mul_lt_mul_of_pos_left hvl (qfL (j + 1))
      rw [← Int.pow_add, show j + 1 + n = j + n + 1 by omega] at this
      omega
    have d1 := qgF hu (show j + n - 1 < u.length by omega)
    have d2 := qgF hu (show j + n < u.length by omega)
    refine qb6 (qfN (by omega)) (qb6 (qfN (by omega)) ?_)
    have e1 : wU6 (u[j + n]'(by omega)) = u[j + n]'(by omega) := by rw [qrY]; omega
    have e2 : wU6 (u[j + n - 1]'(by omega)) = u[j + n - 1]'(by omega) := by rw [qrY]; omega
    rw [e1, e2, q9Q d2 d1]
    refine qaP (q97 ⟨by omega, by omega⟩ (by omega)) ?_
    simp only
    have hN0 : 0 ≤ u[j + n]'(by omega) * 4294967296 + u[j + n - 1]'(by omega) := by omega
    have hdm := Int.emod_add_mul_ediv (u[j + n]'(by omega) * 4294967296 + u[j + n - 1]'(by omega)) top
    have hr0 := Int.emod_nonneg (u[j + n]'(by omega) * 4294967296 + u[j + n - 1]'(by omega)) (show top ≠ 0 by omega)
    have hr1 := Int.emod_lt_of_pos (u[j + n]'(by omega) * 4294967296 + u[j + n - 1]'(by omega)) (show 0 < top by omega)
    have hq0 : 0 ≤ (u[j + n]'(by omega) * 4294967296 + u[j + n - 1]'(by omega)) / top := Int.ediv_nonneg hN0 (by omega)
    have hq1 : (u[j + n]'(by omega) * 4294967296 + u[j + n - 1]'(by omega)) / top < 17179869184 := Int.ediv_lt_of_lt_mul (by omega) (by
      have := Int.mul_le_mul_of_nonneg_left htp.1 (show (0 : Int) ≤ 17179869184 by decide)
      omega)
    -- the quotient's bound for the first guess
    obtain ⟨b1, _⟩ := zpI hv j
    have e3 := zyI (u := u) (k := j + n - 2) (by omega) (by rw [show j + n - 2 + 3 = j + n + 1 by omega]; exact ht)
    have ei1 : u[j + n - 2 + 1]'(by omega) = u[j + n - 1]'(by omega) := by congr 1; omega
    have ei2 : u[j + n - 2 + 2]'(by omega) = u[j + n]'(by omega) := by congr 1; omega
    rw [ei1, ei2] at e3
    have l2 := qnN (qkT hu (j + n - 2))
    rw [List.length_take, Nat.min_eq_left (by omega)] at l2
    have d0 := qgF hu (show j + n - 2 < u.length by omega)
    have hP := qfL (j + n - 2)
    have hhi : val u < ((u[j + n]'(by omega) * 4294967296 + u[j + n - 1]'(by omega)) * 4294967296 + u[j + n - 2]'(by omega) + 1) * 4294967296 ^ (j + n - 2) := by
      have : ((u[j + n]'(by omega) * 4294967296 + u[j + n - 1]'(by omega)) * 4294967296 + u[j + n - 2]'(by omega) + 1) * 4294967296 ^ (j + n - 2) = 4294967296 ^ (j + n - 2) * (u[j + n - 2]'(by omega) + 4294967296 * u[j + n - 1]'(by omega) + 18446744073709551616 * u[j + n]'(by omega)) + 4294967296 ^ (j + n - 2) := by
        generalize (4294967296 : Int) ^ (j + n - 2) = P
        grind
      omega
    have hfirst : val u < ((u[j + n]'(by omega) * 4294967296 + u[j + n - 1]'(by omega)) / top + 1) * (4294967296 ^ j * val v) := by
      refine zxG hP (by omega) b1 hhi ?_
      generalize (u[j + n]'(by omega) * 4294967296 + u[j + n - 1]'(by omega)) / top = Q at *
      have h5 : (Q + 1) * (top * 4294967296 + next) = (top * Q + top) * 4294967296 + (Q + 1) * next := by grind
      have h6 : 0 ≤ (Q + 1) * next := Int.mul_nonneg (by omega) hnx.1
      omega
    refine zr8 hv hu (by omega) (by omega) ht hU' ?_ _ _ _ rfl hq0 hq1 hr0 (by omega) (by rw [Int.mul_comm]; omega) hfirst
    intro g g0 g1 hg1 hg2
    refine qaT ?_
    simp only [qaU]
    have hqj : q[j]'(by omega) = 0 := by
      have := hz j (by omega)
      rw [List.getElem?_eq_getElem (by omega)] at this
      exact Option.some.inj this
    have := ziP (r71 := q) hv L (by omega) (by omega) (by omega) g (val u) ⟨g0, g1⟩ (qbW hu) hg1 hg2 (res := (digs (A / val v), digs (A % val v / 2 ^ s))) ?_ n 0 0 0 u (by omega) (by decide) (.inl rfl) hu hul ht (by simp)
    · rw [h3]
      exact this
    · intro u' g' hu' hul' hg0' hg1' hval hlt
      refine qaT ?_
      simp only [qaU]
      rw [qdB (by omega)]
      refine zo9 hv L hnL hls A j u' (q.set j g') (by omega) hu' hul' (qqD hq j ⟨hg0', hg1'⟩) (by simp; omega) (by simpa using hql) hlt ?_ (fun i hi => by rw [List.getElem?_set_ne (by omega)]; exact hz i (by omega))
      rw [hA, qrG (by omega), hqj, hval]
      grind
open Go.Proofs.Try (prog)
inductive qrC where
 | c0 (a : qaG) (b : qaG)
def qmP : Nat → qrC → Option (qaG × qaG × Int)
 | 0, _ => none
 | K + 1, .c0 a b =>
  (qjT K b).bind fun x1 =>
  bif x1 then
   some ((qaG.mk false []), (qaG.mk false []), (2 : Int))
  else
   (qnJ K a.Abs b.Abs).bind fun x4 =>
   (qi0 K (!(a.Neg == b.Neg)) x4.1).bind fun x6 =>
   (qi0 K a.Neg x4.2).bind fun x8 =>
   some (x6, x8, (0 : Int))
def qrX (K : Nat) (a : qaG) (b : qaG) : Option (qaG × qaG × Int) := qmP K (.c0 a b)
noncomputable def zdO : Code := qcK prog 147
noncomputable def zgQ : qrC → List Fr
 | .c0 .. => [.code zdO]
def zjR : qrC → St
 | .c0 a b => St.init [(TV.agg (qaD a)), (TV.agg (qaD b))]
def q66 (cx : Cx) (c : qrC) (r : (qaG × qaG × Int)) : Prop := Wk prog cx (qd0 prog 147 [[0,1], [0,1], [0]] (TV.tup [(true, qaD r.1), (true, qaD r.2.1), (false, [(T.int .i64 r.2.2)])])) (zgQ c) .normal (zjR c)
abbrev q67 (K : Nat) : Prop := ∀ c r, qmP K c = some r → ∀ cx : Cx, cx.n = 32 → q66 cx c r
theorem zjS {K} (_ : q67 K) {cx} (hn : cx.n = 32) {a b} {r} (h : qmP (K + 1) (.c0 a b) = some r) : q66 cx (.c0 a b) r := by
 rw [qmP] at h
 obtain ⟨x1, h2, h⟩ := qaV h
 rcases qaY h with ⟨h3, h⟩ | ⟨h3, h⟩
 ·have h := oinj h; subst h
  exact wkR [rg5, rgG [oo, opI (.call [[0,1]] [(TV.agg (qaD b))] (TV.c (T.bool x1)))], bTr, .draw [.p, .p, .p] [.op .p, .op .p]] hn (aC (qeL h2) <| aC h3 <| aN)
 ·obtain ⟨x4, h5, h⟩ := qaV h
  obtain ⟨x6, h7, h⟩ := qaV h
  obtain ⟨x8, h9, h⟩ := qaV h
  have h := oinj h; subst h
  exact wkR [rg5, rgG [oo, opI (.call [[0,1]] [(TV.agg (qaD b))] (TV.c (T.bool x1)))], bFa, rgG [oo, oo, oo, oo, opI (.call [[1], [1]] [(TV.c (T.sl 1 (a.Abs.map qaE))), (TV.c (T.sl 1 (b.Abs.map qaE)))] (TV.tup [(false, [(T.sl 1 (x4.1.map qaE))]), (false, [(T.sl 1 (x4.2.map qaE))])])), oo, oo, oo, oo, oo], .draw [.p, .p, .p, .p, .p, .p, (.call [[0], [1]] [(TV.c (T.bool (!(a.Neg == b.Neg)))), (tl 1 x4.1 qaE)] (TV.agg (qaD x6))), .p, .p, .p] [opI (.call [[0], [1]] [(TV.c (T.bool a.Neg)), (tl 1 x4.2 qaE)] (TV.agg (qaD x8))), .op .p, .op .p, .op .p]] hn (aC (qeL h2) <| aC h3 <| aC (qrP h5) <| aC (qfJ h7) <| aC (qfJ h9) <| aN)
theorem q11 : ∀ K : Nat, q67 K
 | 0, c, r, h => by rw [qmP] at h; cases h
 | K + 1, .c0 .., r, h => fun cx hn => zjS (q11 K) hn h
theorem qf9 {K : Nat} {a : qaG} {b : qaG} {r : (qaG × qaG × Int)} (h : qrX K a b = some r) : qc0 prog 147 [(TV.agg (qaD a)), (TV.agg (qaD b))] (TV.tup [(true, qaD r.1), (true, qaD r.2.1), (false, [(T.int .i64 r.2.2)])]) :=
 qbG [[0,1], [0,1], [0]] (by kernel_rfl) (by simp) fun cx hn => q11 K (.c0 a b) r h cx hn
open Go.Proofs.Try (prog)
open Go.Proofs.Try (prog)
open Go.Proofs.Try (prog)
inductive qoR where
 | c0 (a : qaG) (b : qaG)
def qkH : Nat → qoR → Option (qaG × Int)
 | 0, _ => none
 | K + 1, .c0 a b =>
  (qrX K a b).bind fun x1 =>
  bif (decide (x1.2.2 = (0 : Int))) then
   (qjT K x1.2.1).bind fun x4 =>
   bif (!x4) then
    some ((qaG.mk false []), (3 : Int))
   else
    some (x1.1, x1.2.2)
  else
   some (x1.1, x1.2.2)
def qqO (K : Nat) (a : qaG) (b : qaG) : Option (qaG × Int) := qkH K (.c0 a b)
noncomputable def q8I : Code := qcK prog 117
noncomputable def za9 : qoR → List Fr
 | .c0 .. => [.code q8I]
def zdT : qoR → St
 | .c0 a b => St.init [(TV.agg (qaD a)), (TV.agg (qaD b))]
def q15 (cx : Cx) (c : qoR) (r : (qaG × Int)) : Prop := Wk prog cx (qd0 prog 117 [[0,1], [0]] (TV.tup [(true, qaD r.1), (false, [(T.int .i64 r.2)])])) (za9 c) .normal (zdT c)
abbrev q16 (K : Nat) : Prop := ∀ c r, qkH K c = some r → ∀ cx : Cx, cx.n = 26 → q15 cx c r
theorem zdU {K} (_ : q16 K) {cx} (hn : cx.n = 26) {a b} {r} (h : qkH (K + 1) (.c0 a b) = some r) : q15 cx (.c0 a b) r := by
 rw [qkH] at h
 obtain ⟨x1, h2, h⟩ := qaV h
 rcases qaY h with ⟨h3, h⟩ | ⟨h3, h⟩
 ·obtain ⟨x4, h5, h⟩ := qaV h
  rcases qaY h with ⟨h6, h⟩ | ⟨h6, h⟩
  ·have h := oinj h; subst h
   exact wkR [rg4, rgG [oo, oo, opI (.call [[0,1], [0,1]] [(TV.agg (qaD a)), (TV.agg (qaD b))] (TV.tup [(true, qaD x1.1), (true, qaD x1.2.1), (false, [(T.int .i64 x1.2.2)])])), oo, oo, oo, oo, oo, oo, oo, oo, oo], rgG [oo, oo, oo, .sb 18 true, oo, opI (.call [[0,1]] [(TV.agg (qaD x1.2.1))] (TV.c (T.bool x4))), oo, oo], bTr, rg3] hn (aC (qf9 h2) <| aC h3 <| aC (qeL h5) <| aC h6 <| aN)
  ·have h := oinj h; subst h
   exact wkR [rg4, rgG [oo, oo, opI (.call [[0,1], [0,1]] [(TV.agg (qaD a)), (TV.agg (qaD b))] (TV.tup [(true, qaD x1.1), (true, qaD x1.2.1), (false, [(T.int .i64 x1.2.2)])])), oo, oo, oo, oo, oo, oo, oo, oo, oo], rgG [oo, oo, oo, .sb 18 true, oo, opI (.call [[0,1]] [(TV.agg (qaD x1.2.1))] (TV.c (T.bool x4))), oo, oo], bFa, rg4] hn (aC (qf9 h2) <| aC h3 <| aC (qeL h5) <| aC h6 <| aN)
 ·have h := oinj h; subst h
  exact wkR [rg4, rgG [oo, oo, opI (.call [[0,1], [0,1]] [(TV.agg (qaD a)), (TV.agg (qaD b))] (TV.tup [(true, qaD x1.1), (true, qaD x1.2.1), (false, [(T.int .i64 x1.2.2)])])), oo, oo, oo, oo, oo, oo, oo, oo, oo], rgG [oo, oo, oo, .sb 18 false, oo, oo, oo, oo], bFa, rg4] hn (aC (qf9 h2) <| aC h3 <| aC rf <| aN)
theorem qyC : ∀ K : Nat, q16 K
 | 0, c, r, h => by rw [qkH] at h; cases h
 | K + 1, .c0 .., r, h => fun cx hn => zdU (qyC K) hn h
theorem qvI {K : Nat} {a : qaG} {b : qaG} {r : (qaG × Int)} (h : qqO K a b = some r) : qc0 prog 117 [(TV.agg (qaD a)), (TV.agg (qaD b))] (TV.tup [(true, qaD r.1), (false, [(T.int .i64 r.2)])]) :=
 qbG [[0,1], [0]] (by kernel_rfl) (by simp) fun cx hn => qyC K (.c0 a b) r h cx hn
open Go.Proofs.Try (prog)
open Go.Proofs.Try (prog)
open Go.Proofs.Try (prog)
theorem zqM {z : Int} {n : Nat} (h0 : 0 ≤ z) (h1 : z < 4294967296 ^ (n + 1)) (h2 : 4294967296 ^ n ≤ z) : (digs z).length = n + 1 := by
  have h3 := qjJ h1
  have h4 : ¬ (digs z).length ≤ n := fun h => by have := q8L h0 h; omega
  omega
theorem q10 {a b : List Int} (ha : Dig a) (hb : Dig b) (hs : a.length ≤ 17179869184) (ht : b.length ≤ 17179869184) (h0 : val b ≠ 0) : Ev (fun K => qnJ K a b) (digs (val a / val b), digs (val a % val b)) := by
  refine qaT ?_
  simp only [qnJ, qaU]
  have na := qbW ha
  have nb := qbW hb
  have lb := qeW hb
  have vb := qdN nb
  have hc := qkI (val a) (val b)
  have hcmp := qqL ha (qdX (val b)) (by omega) (by omega)
  rw [vb] at hcmp
  refine qaP (qiA hb (by omega)) (qaP hcmp ?_)
  by_cases hlt : val a < val b
  · refine ev_t (by simp; omega) (qaP (qiA ha (by omega)) (qeQ (qa3 _) ?_))
    rw [Int.ediv_eq_zero_of_lt na hlt, Int.emod_eq_of_lt na hlt, qhD]
  · refine ev_f (by simp; omega) ?_
    have hne : digs (val b) ≠ [] := fun e => h0 ((qjY nb).1 e)
    have hlp := List.length_pos_iff.2 hne
    by_cases h1 : (digs (val b)).length = 1
    · have e1 : gi (digs (val b)) 0 = some (val b) := by
        obtain ⟨x, hd⟩ : ∃ x, digs (val b) = [x] := List.length_eq_one_iff.1 h1
        rw [hd] at vb ⊢
        simp at vb
        rw [← vb]; rfl
      have hlb : val b < 4294967296 := by have := q8L nb (Nat.le_of_eq h1); simpa using this
      refine ev_t (by simp; omega) (qb6 e1 ?_)
      have hr0 := Int.emod_nonneg (val a) h0
      have hr1 := Int.emod_lt_of_pos (val a) (show 0 < val b by omega)
      refine qaP (q7X ha (by omega) (by omega)) ?_
      simp only
      rw [qrY, Int.emod_eq_of_lt hr0 (by omega)]
      exact qaP (qsU hr0 (by omega)) (qa3 _)
    · -- the long way
      obtain ⟨n, hn⟩ : ∃ n, (digs (val b)).length = n + 2 := ⟨(digs (val b)).length - 2, by omega⟩
      have hdt := qgF (qdX (val b)) (show n + 1 < (digs (val b)).length by omega)
      have hlast := zrS (quG (val b)) hne
      rw [List.getLast_eq_getElem] at hlast
      have el : (digs (val b))[(digs (val b)).length - 1]'(by omega) = (digs (val b))[n + 1]'(by omega) := by congr 1; omega
      rw [el] at hlast
      obtain ⟨s, hsev, hs31, hs1, hs2⟩ := qwW (x := (digs (val b))[n + 1]'(by omega)) (by omega)
      -- the value of b
      have hsplit := qpE (digs (val b)) (n + 1) (by omega)
      rw [q4C (by omega), List.drop_of_length_le (l := digs (val b)) (i := n + 1 + 1) (by omega), q7D, vb] at hsplit
      have hlow := qnN (qkT (qdX (val b)) (n + 1))
      rw [List.length_take, Nat.min_eq_left (by omega)] at hlow
      have hlow0 := qbW (qkT (qdX (val b)) (n + 1))
      generalize hx : (digs (val b))[n + 1]'(by omega) = x at *
      generalize val ((digs (val b)).take (n + 1)) = w at *
      have hA := qfL (n + 1)
      have hP : (0 : Int) < 2 ^ s := Int.pow_pos (by decide)
      have hPQ : (2 : Int) ^ (32 - s) * 2 ^ s = 4294967296 := by rw [← Int.pow_add, show 32 - s + s = 32 by omega]; rfl
      have hxs : (x + 1) * 2 ^ s ≤ 4294967296 := by
        have := Int.mul_le_mul_of_nonneg_right (show x + 1 ≤ 2 ^ (32 - s) by omega) (Int.le_of_lt hP)
        omega
      have hV : val b * 2 ^ s = w * 2 ^ s + 4294967296 ^ (n + 1) * (x * 2 ^ s) := by
        rw [hsplit]; generalize (4294967296 : Int) ^ (n + 1) = A; generalize (2 : Int) ^ s = P; grind
      have hVhi : val b * 2 ^ s < 4294967296 ^ (n + 2) := by
        have h3 := Int.mul_lt_mul_of_pos_right hlow hP
        have h4 := Int.mul_le_mul_of_nonneg_left hxs (Int.le_of_lt hA)
        rw [Int.pow_succ _ (n + 1)]
        have h5 : 4294967296 ^ (n + 1) * ((x + 1) * 2 ^ s) = 4294967296 ^ (n + 1) * (x * 2 ^ s) + 4294967296 ^ (n + 1) * 2 ^ s := by
          generalize (4294967296 : Int) ^ (n + 1) = A; generalize (2 : Int) ^ s = P; grind
        omega
      have hw0 : 0 ≤ w * 2 ^ s := Int.mul_nonneg hlow0 (Int.le_of_lt hP)
      have hVlo : 4294967296 ^ (n + 1) * 2147483648 ≤ val b * 2 ^ s := by
        have := Int.mul_le_mul_of_nonneg_left hs1 (Int.le_of_lt hA)
        omega
      have hVlo1 : 4294967296 ^ (n + 1) ≤ val b * 2 ^ s := by omega
      have hVn : 0 ≤ val b * 2 ^ s := by omega
      have hvl := zqM hVn hVhi hVlo1
      have hvv := qdN hVn
      -- the divisor
      have hdtop := qpE (digs (val b * 2 ^ s)) (n + 1) (by omega)
      rw [q4C (by omega), List.drop_of_length_le (l := digs (val b * 2 ^ s)) (i := n + 1 + 1) (by omega), q7D, hvv] at hdtop
      have hlow' := qnN (qkT (qdX (val b * 2 ^ s)) (n + 1))
      rw [List.length_take, Nat.min_eq_left (by omega)] at hlow'
      have hgreat : 2147483648 ≤ (digs (val b * 2 ^ s))[n + 1]'(by omega) := by
        apply Classical.byContradiction; intro hne
        have := Int.mul_le_mul_of_nonneg_left (show (digs (val b * 2 ^ s))[n + 1]'(by omega) + 4294967296 * 0 + 1 ≤ 2147483648 by omega) (Int.le_of_lt hA)
        rw [Int.mul_add _ _ 1, Int.mul_one] at this
        omega
      have hDv : Dv (digs (val b * 2 ^ s)) (n + 2) s ((digs (val b * 2 ^ s))[n + 1]'(by omega)) ((digs (val b * 2 ^ s))[n]'(by omega)) :=
        ⟨qdX _, hvl, by omega, by omega, by omega, by rw [show n + 2 - 1 = n + 1 by omega]; exact List.getElem?_eq_getElem (by omega), by rw [Nat.add_sub_cancel]; exact List.getElem?_eq_getElem (by omega), hgreat⟩
      refine ev_f (by simp; omega) ?_
      rw [hn, qdB (x := ((n + 2 : Nat) : Int) - 1) (by omega), qdB (x := ((n + 2 : Nat) : Int) - 2) (by omega), show ((n + 2 : Nat) : Int) - 1 = ((n + 1 : Nat) : Int) by omega, show ((n + 2 : Nat) : Int) - 2 = (n : Int) by omega]
      have hgx : gi (digs (val b)) ((n + 1 : Nat) : Int) = some x := by rw [qfN (by omega), hx]
      have hshl := qyK (qdX (val b)) (n := s) (by omega) (by omega)
      rw [vb] at hshl
      have hshn := ziK ha (n := s) (by omega) (by omega)
      have hAge : val b * 2 ^ s ≤ val a * 2 ^ s := Int.mul_le_mul_of_nonneg_right (by omega) (Int.le_of_lt hP)
      have hAn : 0 ≤ val a * 2 ^ s := by omega
      have hml : n + 2 ≤ (digs (val a * 2 ^ s)).length := by
        apply Classical.byContradiction; intro hne
        have := q8L hAn (show (digs (val a * 2 ^ s)).length ≤ n + 1 by omega)
        omega
      have hopt : optD (val a * 2 ^ s) = some (digs (val a * 2 ^ s)) := by unfold optD; rw [if_neg (by omega)]
      rw [hopt] at hshn
      refine qb6 hgx (qaP hsev (qaP hshl (qaP hshn ?_)))
      have hua : (digs (val a * 2 ^ s)).length ≤ a.length + 1 := by
        refine qjJ ?_
        have h3 := qnN ha
        have h4 : (2 : Int) ^ s < 4294967296 := by
          have : (2 : Nat) ^ s ≤ 2 ^ 31 := Nat.pow_le_pow_right (by decide) (by omega)
          have : ((2 ^ s : Nat) : Int) ≤ ((2 ^ 31 : Nat) : Int) := by exact_mod_cast this
          simp at this; omega
        rw [Int.pow_succ]
        calc val a * 2 ^ s ≤ val a * 4294967296 := Int.mul_le_mul_of_nonneg_left (Int.le_of_lt h4) na
          _ < 4294967296 ^ a.length * 4294967296 := Int.mul_lt_mul_of_pos_right h3 (by decide)
      have hul : (digs (val a * 2 ^ s) ++ [0]).length = (digs (val a * 2 ^ s)).length + 1 := by simp
      have hud : Dig (digs (val a * 2 ^ s) ++ [0]) := q41.2 ⟨qdX _, ql3.2 ⟨by decide, q4I⟩⟩
      have huv : val (digs (val a * 2 ^ s) ++ [0]) = val a * 2 ^ s := by rw [ql6, qdN hAn]; simp
      simp only [List.length_map, hul]
      generalize hM : (digs (val a * 2 ^ s)).length = M at *
      rw [qdB (x := ((M + 1 : Nat) : Int) - ((n + 2 : Nat) : Int)) (by omega), show ((M + 1 : Nat) : Int) - ((n + 2 : Nat) : Int) = ((M - n - 1 : Nat) : Int) by omega]
      refine qhC (by omega) (qhC (by omega) (qb6 (qfN (by omega)) (qb6 (qfN (by omega)) ?_)))
      have dtop := qgF (qdX (val b * 2 ^ s)) (show n + 1 < (digs (val b * 2 ^ s)).length by omega)
      have dnext := qgF (qdX (val b * 2 ^ s)) (show n < (digs (val b * 2 ^ s)).length by omega)
      rw [qrY, Int.emod_eq_of_lt dtop.1 (by omega), qrY, Int.emod_eq_of_lt dnext.1 (by omega), Int.toNat_natCast, qdB (by omega)]
      have hml2 := qnN (qdX (val a * 2 ^ s))
      rw [qdN hAn, hM] at hml2
      have := zo9 hDv (M + 1) (by omega) (by omega) (val a * 2 ^ s) (M - n - 1) (digs (val a * 2 ^ s) ++ [0]) (List.replicate (M - n - 1) 0) (by omega) hud (by simp [hM]) (q8M (by decide)) (by simp) (by simp; omega)
        (by
          rw [huv, hvv]
          have h5 := Int.mul_le_mul_of_nonneg_left hVlo1 (Int.le_of_lt (qfL (M - n - 1)))
          rw [← Int.pow_add, show M - n - 1 + (n + 1) = M by omega] at h5
          omega)
        (by rw [qz1, huv]; simp) (fun i hi => by rw [List.getElem?_replicate, if_pos hi])
      have er : val a * 2 ^ s % (val b * 2 ^ s) / 2 ^ s = val a % val b := by
        rw [Int.mul_comm (val a), Int.mul_comm (val b), Int.mul_emod_mul_of_pos _ _ hP, Int.mul_ediv_cancel_left _ (by omega)]
      rw [hvv, er, Int.mul_ediv_mul_of_pos_left _ _ hP] at this
      exact this
def Sm (a : qaG) : Prop := Dig a.Abs ∧ a.Abs.length ≤ 17179869000
theorem qxP {z : Int} {n : Nat} (hn : n ≤ 17179869000) (h1 : -(4294967296 ^ n) < z) (h2 : z < 4294967296 ^ n) : Sm (mkI z) := ⟨ziQ z, by have := ztO h1 h2; omega⟩
theorem sm_lt {a : qaG} (h : Dig a.Abs) : ((ival a).natAbs : Int) < 4294967296 ^ a.Abs.length := by rw [← quZ a h]; exact qnN h
theorem zoL {a : qaG} (h : Sm a) {z : Int} (hz : z.natAbs ≤ (ival a).natAbs) : Sm (mkI z) := by
  have h1 := sm_lt h.1
  exact qxP h.2 (by omega) (by omega)
theorem q3T : mkI 0 = ⟨false, []⟩ := by rw [qrO (Int.le_refl 0), qhD]
theorem qw8 {a b : qaG} (ha : Sm a) (hb : Sm b) (h0 : ival b ≠ 0) : Ev (fun K => qrX K a b) (mkI ((ival a).tdiv (ival b)), mkI ((ival a).tmod (ival b)), 0) := by
  refine qaT ?_
  simp only [qrX, qmP]
  have na := qbW ha.1
  have nb := qbW hb.1
  have hvb := quZ b hb.1
  have hb0 : val b.Abs ≠ 0 := by omega
  have hq0 : 0 ≤ val a.Abs / val b.Abs := Int.ediv_nonneg na nb
  have hr0 := Int.emod_nonneg (val a.Abs) hb0
  have hql : (digs (val a.Abs / val b.Abs)).length ≤ a.Abs.length := by
    refine qjJ ?_
    have := Int.ediv_le_self (val b.Abs) na
    have := qnN ha.1
    omega
  have hrl : (digs (val a.Abs % val b.Abs)).length ≤ b.Abs.length := by
    refine qjJ ?_
    have := Int.emod_lt_of_pos (val a.Abs) (show 0 < val b.Abs by omega)
    have := qnN hb.1
    omega
  have s1 := ha.2
  have s2 := hb.2
  have f1 := qiZ (!(a.Neg == b.Neg)) (qdX (val a.Abs / val b.Abs)) (by omega)
  have f2 := qiZ a.Neg (qdX (val a.Abs % val b.Abs)) (by omega)
  rw [qdN hq0] at f1
  rw [qdN hr0] at f2
  refine qaP (qlB hb.1 (by omega)) (ev_f (by simpa using h0) (qaP (q10 ha.1 hb.1 (by omega) (by omega) hb0) ?_))
  refine qaP f1 (qaP f2 (qeQ (qa3 _) ?_))
  obtain ⟨s, a⟩ := a
  obtain ⟨t, b⟩ := b
  simp only at na nb hb0
  unfold ival
  have e1 := Int.tdiv_eq_ediv_of_nonneg (b := val b) na
  have e2 := Int.tmod_eq_emod_of_nonneg (b := val b) na
  cases s <;> cases t <;> simp [Int.neg_tdiv, Int.tdiv_neg, Int.neg_tmod, Int.tmod_neg, e1, e2]
theorem qzU {a b : qaG} (ha : Sm a) (hb : Sm b) (h0 : ival b ≠ 0) (hd : ival b ∣ ival a) : Ev (fun K => qqO K a b) (mkI (ival a / ival b), 0) := by
  refine qaT ?_
  simp only [qqO, qkH]
  have hm : (ival a).tmod (ival b) = 0 := Int.dvd_iff_tmod_eq_zero.1 hd
  have hq : (ival a).tdiv (ival b) = ival a / ival b := by
    obtain ⟨c, hc⟩ := hd
    rw [hc, Int.mul_tdiv_cancel_left _ h0, Int.mul_ediv_cancel_left _ h0]
  have := qw8 ha hb h0
  rw [hm, hq] at this
  have hz := qlB (a := mkI 0) (ziQ 0) (by rw [q3T]; simp)
  rw [qcY] at hz
  exact qaP this (ev_t rfl (qaP hz (ev_f rfl (qa3 _))))
open Go.Proofs.Try (prog)
inductive qoG where
 | c0 (a : (List Int))
def qj6 : Nat → qoG → Option (Int × Bool)
 | 0, _ => none
 | K + 1, .c0 a =>
  (qc4 K a).bind fun x1 =>
  bif (decide ((x1.length : Int) = (0 : Int))) then
   some ((0 : Int), true)
  else
   bif (decide ((x1.length : Int) = (1 : Int))) then
    (gi x1 (0 : Int)).bind fun x5 =>
    some ((wU6 x5), true)
   else
    bif (decide ((x1.length : Int) = (2 : Int))) then
     (gi x1 (1 : Int)).bind fun x6 =>
     (gi x1 (0 : Int)).bind fun x8 =>
     some ((bits .or .u64 (qiN .u64 (wU6 x6) (32 : Int)) (wU6 x8)), true)
    else
     some ((0 : Int), false)
def qqK (K : Nat) (a : (List Int)) : Option (Int × Bool) := qj6 K (.c0 a)
noncomputable def q7T : Code := qcK prog 186
noncomputable def q9S : qoG → List Fr
 | .c0 .. => [.code q7T]
def zcQ : qoG → St
 | .c0 a => St.init [(tl 1 a qaE)]
def q1H (cx : Cx) (c : qoG) (r : (Int × Bool)) : Prop := Wk prog cx (qd0 prog 186 [[0], [0]] (TV.tup [(false, [(T.int .u64 r.1)]), (false, [(T.bool r.2)])])) (q9S c) .normal (zcQ c)
abbrev q1I (K : Nat) : Prop := ∀ c r, qj6 K c = some r → ∀ cx : Cx, cx.n = 28 → q1H cx c r
theorem zcR {K} (_ : q1I K) {cx} (hn : cx.n = 28) {a} {r} (h : qj6 (K + 1) (.c0 a) = some r) : q1H cx (.c0 a) r := by
 rw [qj6] at h
 obtain ⟨x1, h2, h⟩ := qaV h
 rcases qaY h with ⟨h3, h⟩ | ⟨h3, h⟩
 ·have h := oinj h; subst h
  exact wkR [rg2, rgG [oo, opI (.call [[1]] [(tl 1 a qaE)] (tl 1 x1 qaE)), oo], rgG [oo, opI (.ln (x1.length : Int))], rg2, bTr, rg2] hn (aC (qa4 h2) <| aC (qdF x1 qaE) <| aC h3 <| aN)
 ·rcases qaY h with ⟨h4, h⟩ | ⟨h4, h⟩
  ·obtain ⟨x5, h6, h⟩ := qaV h
   have h := oinj h; subst h
   exact wkR [rg2, rgG [oo, opI (.call [[1]] [(tl 1 a qaE)] (tl 1 x1 qaE)), oo], rgG [oo, opI (.ln (x1.length : Int))], rg2, bFa, rg2, bTr, rgG [oo, opI (.ix (qaE x5)), oo, oo, oo, oo]] hn (aC (qa4 h2) <| aC (qdF x1 qaE) <| aC h3 <| aC h4 <| aC (qb2 h6) <| aC (qfK qaE h6) <| aN)
  ·rcases qaY h with ⟨h5, h⟩ | ⟨h5, h⟩
   ·obtain ⟨x6, h7, h⟩ := qaV h
    obtain ⟨x8, h9, h⟩ := qaV h
    have h := oinj h; subst h
    exact wkR [rg2, rgG [oo, opI (.call [[1]] [(tl 1 a qaE)] (tl 1 x1 qaE)), oo], rgG [oo, opI (.ln (x1.length : Int))], rg2, bFa, rg2, bFa, rg2, bTr, .draw [.p, (.ix (qaE x6)), .p, .p, .p, .p, (.ix (qaE x8)), .p, .p] [.op .p, .op .p, .op .p]] hn (aC (qa4 h2) <| aC (qdF x1 qaE) <| aC h3 <| aC h4 <| aC h5 <| aC (qb2 h7) <| aC (qfK qaE h7) <| aC (qb2 h9) <| aC (qfK qaE h9) <| aN)
   ·have h := oinj h; subst h
    exact wkR [rg2, rgG [oo, opI (.call [[1]] [(tl 1 a qaE)] (tl 1 x1 qaE)), oo], rgG [oo, opI (.ln (x1.length : Int))], rg2, bFa, rg2, bFa, rg2, bFa, rg2] hn (aC (qa4 h2) <| aC (qdF x1 qaE) <| aC h3 <| aC h4 <| aC h5 <| aN)
theorem qx0 : ∀ K : Nat, q1I K
 | 0, c, r, h => by rw [qj6] at h; cases h
 | K + 1, .c0 .., r, h => fun cx hn => zcR (qx0 K) hn h
theorem qjM {K : Nat} {a : (List Int)} {r : (Int × Bool)} (h : qqK K a = some r) : qc0 prog 186 [(tl 1 a qaE)] (TV.tup [(false, [(T.int .u64 r.1)]), (false, [(T.bool r.2)])]) :=
 qbG [[0], [0]] (by kernel_rfl) (by simp) fun cx hn => qx0 K (.c0 a) r h cx hn
open Go.Proofs.Try (prog)
inductive qrF where
 | c0 (a : qaG) (b : qaG)
 | c1 (b4 : qaG) (x : (List Int)) (y : (List Int))
 | c2 (b4 : qaG) (m : Int) (n : Int)
def qdK : Nat → qrF → Option qaG
 | 0, _ => none
 | K + 1, .c0 a b =>
  (qgE K a.Abs).bind fun x1 =>
  (qgE K b.Abs).bind fun x3 =>
  qdK K (.c1 (qaG.mk false []) x1 x3)
 | K + 1, .c1 b4 x y =>
  bif (decide ((0 : Int) < (y.length : Int))) then
   (qqK K x).bind fun x2 =>
   bif x2.2 then
    (qqK K y).bind fun x5 =>
    bif x5.2 then
     qdK K (.c2 b4 x2.1 x5.1)
    else
     (qnJ K x y).bind fun x8 =>
     qdK K (.c1 b4 y x8.2)
   else
    (qnJ K x y).bind fun x5 =>
    qdK K (.c1 b4 y x5.2)
  else
   (qi0 K false x).bind fun x2 =>
   some x2
 | K + 1, .c2 b4 m n =>
  bif (!decide (n = (0 : Int))) then
   gd (n ≠ 0) <|
   qdK K (.c2 b4 n (Int.tmod m n))
  else
   (qrV K m).bind fun x2 =>
   (qi0 K false x2).bind fun x4 =>
   some x4
def qyA (K : Nat) (a : qaG) (b : qaG) : Option qaG := qdK K (.c0 a b)
noncomputable def qgR : Code := qcK prog 173
noncomputable def zgS : qrF → List Fr
 | .c0 .. => [.code qgR]
 | .c1 .. => [.code (.loop (atC qgR [1,1,0,0,0])), .blk 0, .code (atC qgR [1,1,1])]
 | .c2 .. => [.code (.loop (atC qgR [1,1,0,0,0,1,0,0,1,1,0,1,1,0,0,0,0])), .blk 2, .code (atC qgR [1,1,0,0,0,1,0,0,1,1,0,1,1,0,1]), .code (atC qgR [1,1,0,0,0,1,0,1]), .blk 1, .lp (atC qgR [1,1,0,0,0]), .blk 0, .code (atC qgR [1,1,1])]
def zjY : qrF → St
 | .c0 a b => St.init [(TV.agg (qaD a)), (TV.agg (qaD b))]
 | .c1 b4 x y => ⟨[(4, .c (C.ptr 4 0)), (5, vl 1 x qaE), (6, vl 1 y qaE)], [(4, .var ((qaD b4).map C.t))], []⟩
 | .c2 b4 m n => ⟨[(4, .c (C.ptr 4 0)), (7, vi .u64 m), (9, vi .u64 n)], [(4, .var ((qaD b4).map C.t))], []⟩
def quD (cx : Cx) (c : qrF) (r : qaG) : Prop := Wk prog cx (qd0 prog 173 [[0,1]] (TV.agg (qaD r))) (zgS c) .normal (zjY c)
abbrev quE (K : Nat) : Prop := ∀ c r, qdK K c = some r → ∀ cx : Cx, cx.n = 53 → quD cx c r
theorem zj2 {K} (ih : quE K) {cx} (hn : cx.n = 53) {a b} {r} (h : qdK (K + 1) (.c0 a b) = some r) : quD cx (.c0 a b) r := by
 rw [qdK] at h
 obtain ⟨x1, h2, h⟩ := qaV h
 obtain ⟨x3, h4, h⟩ := qaV h
 exact wkG [rg3, .draw [.p, .p, (.call [[1]] [(TV.c (T.sl 1 (a.Abs.map qaE)))] (tl 1 x1 qaE)), .p, .p] [opI (.call [[1]] [(TV.c (T.sl 1 (b.Abs.map qaE)))] (tl 1 x3 qaE)), .op .p, .op .p], .pre [.tellB 4 [0,1], .keep [4,5,6] [4]]] hn (aC (qc8 h2) <| aC (qc8 h4) <| aN) (ih _ _ h cx hn)
theorem zj1 {K} (ih : quE K) {cx} (hn : cx.n = 53) {b4 x y} {r} (h : qdK (K + 1) (.c1 b4 x y) = some r) : quD cx (.c1 b4 x y) r := by
 rw [qdK] at h
 rcases qaY h with ⟨h1, h⟩ | ⟨h1, h⟩
 ·obtain ⟨x2, h3, h⟩ := qaV h
  rcases qaY h with ⟨h4, h⟩ | ⟨h4, h⟩
  ·obtain ⟨x5, h6, h⟩ := qaV h
   rcases qaY h with ⟨h7, h⟩ | ⟨h7, h⟩
   ·exact wkG [.go, rgG [oo, opI (.ln (y.length : Int)), oo], bTr, rgG [oo, opI (.call [[1]] [(tl 1 x qaE)] (TV.tup [(false, [(T.int .u64 x2.1)]), (false, [(T.bool x2.2)])])), oo, oo, oo, oo, oo], rg1, bTr, rgG [oo, opI (.call [[1]] [(tl 1 y qaE)] (TV.tup [(false, [(T.int .u64 x5.1)]), (false, [(T.bool x5.2)])])), oo, oo, oo, oo, oo], rg1, bTr, .pre [.keep [4,7,9] [4]]] hn (aC (qdF y qaE) <| aC h1 <| aC (qjM h3) <| aC h4 <| aC (qjM h6) <| aC h7 <| aN) (ih _ _ h cx hn)
   ·obtain ⟨x8, h9, h⟩ := qaV h
    exact wkG [.go, rgG [oo, opI (.ln (y.length : Int)), oo], bTr, rgG [oo, opI (.call [[1]] [(tl 1 x qaE)] (TV.tup [(false, [(T.int .u64 x2.1)]), (false, [(T.bool x2.2)])])), oo, oo, oo, oo, oo], rg1, bTr, rgG [oo, opI (.call [[1]] [(tl 1 y qaE)] (TV.tup [(false, [(T.int .u64 x5.1)]), (false, [(T.bool x5.2)])])), oo, oo, oo, oo, oo], rg1, bFa, rgG [oo, oo, opI (.call [[1], [1]] [(tl 1 x qaE), (tl 1 y qaE)] (TV.tup [(false, [(T.sl 1 (x8.1.map qaE))]), (false, [(T.sl 1 (x8.2.map qaE))])])), oo, oo, oo, oo, oo], rg4, .pre [.keep [4,5,6] [4]]] hn (aC (qdF y qaE) <| aC h1 <| aC (qjM h3) <| aC h4 <| aC (qjM h6) <| aC h7 <| aC (qrP h9) <| aN) (ih _ _ h cx hn)
  ·obtain ⟨x5, h6, h⟩ := qaV h
   exact wkG [.go, rgG [oo, opI (.ln (y.length : Int)), oo], bTr, rgG [oo, opI (.call [[1]] [(tl 1 x qaE)] (TV.tup [(false, [(T.int .u64 x2.1)]), (false, [(T.bool x2.2)])])), oo, oo, oo, oo, oo], rg1, bFa, rgG [oo, oo, opI (.call [[1], [1]] [(tl 1 x qaE), (tl 1 y qaE)] (TV.tup [(false, [(T.sl 1 (x5.1.map qaE))]), (false, [(T.sl 1 (x5.2.map qaE))])])), oo, oo, oo, oo, oo], rg4, .pre [.keep [4,5,6] [4]]] hn (aC (qdF y qaE) <| aC h1 <| aC (qjM h3) <| aC h4 <| aC (qrP h6) <| aN) (ih _ _ h cx hn)
 ·obtain ⟨x2, h3, h⟩ := qaV h
  have h := oinj h; subst h
  exact wkR [.go, rgG [oo, opI (.ln (y.length : Int)), oo], bFa, rgG [oo, opI (.call [[0], [1]] [(TV.c (T.bool false)), (tl 1 x qaE)] (TV.agg (qaD x2))), oo]] hn (aC (qdF y qaE) <| aC h1 <| aC (qfJ h3) <| aN)
theorem zj0 {K} (ih : quE K) {cx} (hn : cx.n = 53) {b4 m n} {r} (h : qdK (K + 1) (.c2 b4 m n) = some r) : quD cx (.c2 b4 m n) r := by
 rw [qdK] at h
 rcases qaY h with ⟨h1, h⟩ | ⟨h1, h⟩
 ·obtain ⟨h2, h⟩ := qb3 h
  exact wkG [.go, rg2, bTr, .draw [.p, .p, .p, .dv, .p] [.op .p], .pre [.keep [4,7,9] [4]]] hn (aC h1 <| aC h2 <| aN) (ih _ _ h cx hn)
 ·obtain ⟨x2, h3, h⟩ := qaV h
  obtain ⟨x4, h5, h⟩ := qaV h
  have h := oinj h; subst h
  exact wkR [.go, rg2, bFa, rgG [oo, opI (.call [[0]] [(ti .u64 m)] (tl 1 x2 qaE)), opI (.call [[0], [1]] [(TV.c (T.bool false)), (tl 1 x2 qaE)] (TV.agg (qaD x4))), oo]] hn (aC h1 <| aC (qnP h3) <| aC (qfJ h5) <| aN)
theorem qrE : ∀ K : Nat, quE K
 | 0, c, r, h => by rw [qdK] at h; cases h
 | K + 1, .c0 .., r, h => fun cx hn => zj2 (qrE K) hn h
 | K + 1, .c1 .., r, h => fun cx hn => zj1 (qrE K) hn h
 | K + 1, .c2 .., r, h => fun cx hn => zj0 (qrE K) hn h
theorem qx9 {K : Nat} {a : qaG} {b : qaG} {r : qaG} (h : qyA K a b = some r) : qc0 prog 173 [(TV.agg (qaD a)), (TV.agg (qaD b))] (TV.agg (qaD r)) :=
 qbG [[0,1]] (by kernel_rfl) (by simp) fun cx hn => qrE K (.c0 a b) r h cx hn
open Go.Proofs.Try (prog)
inductive qoF where
 | c0 (a : (List Int))
def qj4 : Nat → qoF → Option Bool
 | 0, _ => none
 | _ + 1, .c0 a =>
  bif (decide ((a.length : Int) = (1 : Int))) then
   (gi a (0 : Int)).bind fun x2 =>
   some (decide (x2 = (1 : Int)))
  else
   some false
def qqH (K : Nat) (a : (List Int)) : Option Bool := qj4 K (.c0 a)
noncomputable def q7O : Code := qcK prog 172
noncomputable def q9E : qoF → List Fr
 | .c0 .. => [.code q7O]
def zcG : qoF → St
 | .c0 a => St.init [(tl 1 a qaE)]
def q1B (cx : Cx) (c : qoF) (r : Bool) : Prop := Wk prog cx (qd0 prog 172 [[0]] (TV.c (T.bool r))) (q9E c) .normal (zcG c)
abbrev q1C (K : Nat) : Prop := ∀ c r, qj4 K c = some r → ∀ cx : Cx, cx.n = 12 → q1B cx c r
theorem zcH {K} (_ : q1C K) {cx} (hn : cx.n = 12) {a} {r} (h : qj4 (K + 1) (.c0 a) = some r) : q1B cx (.c0 a) r := by
 rw [qj4] at h
 rcases qaY h with ⟨h1, h⟩ | ⟨h1, h⟩
 ·obtain ⟨x2, h3, h⟩ := qaV h
  have h := oinj h; subst h
  exact wkR [rg1, rgG [oo, opI (.ln (a.length : Int)), oo, oo, .sb 6 true, oo, opI (.ix (qaE x2)), oo, oo, oo, oo]] hn (aC (qdF a qaE) <| aC h1 <| aC (qb2 h3) <| aC (qfK qaE h3) <| aN)
 ·have h := oinj h; subst h
  exact wkR [rg1, rgG [oo, opI (.ln (a.length : Int)), oo, oo, .sb 6 false, oo, oo, oo, oo, oo, oo]] hn (aC (qdF a qaE) <| aC h1 <| aN)
theorem qxV : ∀ K : Nat, q1C K
 | 0, c, r, h => by rw [qj4] at h; cases h
 | K + 1, .c0 .., r, h => fun cx hn => zcH (qxV K) hn h
theorem qjL {K : Nat} {a : (List Int)} {r : Bool} (h : qqH K a = some r) : qc0 prog 172 [(tl 1 a qaE)] (TV.c (T.bool r)) :=
 qbG [[0]] (by kernel_rfl) (by simp) fun cx hn => qxV K (.c0 a) r h cx hn
open Go.Proofs.Try (prog)
inductive qqY where
 | c0 
def qmE : Nat → qqY → Option (List Int)
 | 0, _ => none
 | K + 1, .c0  =>
  (qrV K (1 : Int)).bind fun x1 =>
  some x1
def qoZ (K : Nat)  : Option (List Int) := qmE K .c0
noncomputable def zcE : Code := qcK prog 77
noncomputable def zfI : qqY → List Fr
 | .c0  => [.code zcE]
def zhY : qqY → St
 | .c0  => St.init []
def q6A (cx : Cx) (c : qqY) (r : (List Int)) : Prop := Wk prog cx (qd0 prog 77 [[1]] (tl 1 r qaE)) (zfI c) .normal (zhY c)
abbrev q6B (K : Nat) : Prop := ∀ c r, qmE K c = some r → ∀ cx : Cx, cx.n = 2 → q6A cx c r
theorem zhZ {K} (_ : q6B K) {cx} (hn : cx.n = 2)  {r} (h : qmE (K + 1) .c0 = some r) : q6A cx .c0 r := by
 rw [qmE] at h
 obtain ⟨x1, h2, h⟩ := qaV h
 have h := oinj h; subst h
 exact wkR [rg1, rgG [opI (.call [[0]] [(TV.c (T.int .u64 (1 : Int)))] (tl 1 x1 qaE)), oo]] hn (aC (qnP h2) <| aN)
theorem q1A : ∀ K : Nat, q6B K
 | 0, c, r, h => by rw [qmE] at h; cases h
 | K + 1, .c0, r, h => fun cx hn => zhZ (q1A K) hn h
theorem qoE {K : Nat}  {r : (List Int)} (h : qoZ K  = some r) : qc0 prog 77 [] (tl 1 r qaE) :=
 qbG [[1]] (by kernel_rfl) (by simp) fun cx hn => q1A K .c0 r h cx hn
open Go.Proofs.Try (prog)
inductive qpO where
 | c0 (num : qaG) (den : (List Int))
def qk3 : Nat → qpO → Option qaK
 | 0, _ => none
 | K + 1, .c0 num den =>
  (qgE K den).bind fun x1 =>
  bif (decide ((x1.length : Int) = (0 : Int))) then
   (qoZ K ).bind fun x4 =>
   some (qaK.mk (qaG.mk false []) x4)
  else
   (qjX K num.Abs).bind fun x4 =>
   bif x4 then
    (qoZ K ).bind fun x7 =>
    some (qaK.mk (qaG.mk false []) x7)
   else
    (qqH K x1).bind fun x7 =>
    bif x7 then
     (qiQ K num).bind fun x10 =>
     some (qaK.mk x10 x1)
    else
     (qi0 K false x1).bind fun x10 =>
     (qyA K num x10).bind fun x12 =>
     (qqH K x12.Abs).bind fun x14 =>
     bif x14 then
      (qiQ K num).bind fun x17 =>
      some (qaK.mk x17 x1)
     else
      (qqO K num x12).bind fun x17 =>
      (qqO K x10 x12).bind fun x19 =>
      some (qaK.mk x17.1 x19.1.Abs)
def qlG (K : Nat) (num : qaG) (den : (List Int)) : Option qaK := qk3 K (.c0 num den)
noncomputable def q9D : Code := qcK prog 128
noncomputable def zcF : qpO → List Fr
 | .c0 .. => [.code q9D]
def zfJ : qpO → St
 | .c0 num den => St.init [(TV.agg (qaD num)), (tl 1 den qaE)]
def q3D (cx : Cx) (c : qpO) (r : qaK) : Prop := Wk prog cx (qd0 prog 128 [[0,1,1]] (TV.agg (qaC r))) (zcF c) .normal (zfJ c)
abbrev q3E (K : Nat) : Prop := ∀ c r, qk3 K c = some r → ∀ cx : Cx, cx.n = 57 → q3D cx c r
theorem zfK {K} (_ : q3E K) {cx} (hn : cx.n = 57) {num den} {r} (h : qk3 (K + 1) (.c0 num den) = some r) : q3D cx (.c0 num den) r := by
 rw [qk3] at h
 obtain ⟨x1, h2, h⟩ := qaV h
 rcases qaY h with ⟨h3, h⟩ | ⟨h3, h⟩
 ·obtain ⟨x4, h5, h⟩ := qaV h
  have h := oinj h; subst h
  exact wkR [rg2, rgG [oo, opI (.call [[1]] [(tl 1 den qaE)] (tl 1 x1 qaE)), oo], rgG [oo, opI (.ln (x1.length : Int)), oo, oo, .sb 16 true, oo, oo, oo, oo], bTr, rgG [opI (.call [] [] (tl 1 x4 qaE)), oo, oo]] hn (aC (qc8 h2) <| aC (qdF x1 qaE) <| aC h3 <| aC rt <| aC (qoE h5) <| aN)
 ·obtain ⟨x4, h5, h⟩ := qaV h
  rcases qaY h with ⟨h6, h⟩ | ⟨h6, h⟩
  ·obtain ⟨x7, h8, h⟩ := qaV h
   have h := oinj h; subst h
   exact wkR [rg2, rgG [oo, opI (.call [[1]] [(tl 1 den qaE)] (tl 1 x1 qaE)), oo], rgG [oo, opI (.ln (x1.length : Int)), oo, oo, .sb 16 false, oo, oo, opI (.call [[1]] [(TV.c (T.sl 1 (num.Abs.map qaE)))] (TV.c (T.bool x4))), oo], bTr, rgG [opI (.call [] [] (tl 1 x7 qaE)), oo, oo]] hn (aC (qc8 h2) <| aC (qdF x1 qaE) <| aC h3 <| aC (qdR h5) <| aC h6 <| aC (qoE h8) <| aN)
  ·obtain ⟨x7, h8, h⟩ := qaV h
   rcases qaY h with ⟨h9, h⟩ | ⟨h9, h⟩
   ·obtain ⟨x10, h11, h⟩ := qaV h
    have h := oinj h; subst h
    exact wkR [rg2, rgG [oo, opI (.call [[1]] [(tl 1 den qaE)] (tl 1 x1 qaE)), oo], rgG [oo, opI (.ln (x1.length : Int)), oo, oo, .sb 16 false, oo, oo, opI (.call [[1]] [(TV.c (T.sl 1 (num.Abs.map qaE)))] (TV.c (T.bool x4))), oo], bFa, rgG [oo, opI (.call [[1]] [(tl 1 x1 qaE)] (TV.c (T.bool x7)))], bTr, rgG [oo, opI (.call [[0,1]] [(TV.agg (qaD num))] (TV.agg (qaD x10))), oo, oo, oo]] hn (aC (qc8 h2) <| aC (qdF x1 qaE) <| aC h3 <| aC (qdR h5) <| aC h6 <| aC (qjL h8) <| aC h9 <| aC (qjN h11) <| aN)
   ·obtain ⟨x10, h11, h⟩ := qaV h
    obtain ⟨x12, h13, h⟩ := qaV h
    obtain ⟨x14, h15, h⟩ := qaV h
    rcases qaY h with ⟨h16, h⟩ | ⟨h16, h⟩
    ·obtain ⟨x17, h18, h⟩ := qaV h
     have h := oinj h; subst h
     exact wkR [rg2, rgG [oo, opI (.call [[1]] [(tl 1 den qaE)] (tl 1 x1 qaE)), oo], rgG [oo, opI (.ln (x1.length : Int)), oo, oo, .sb 16 false, oo, oo, opI (.call [[1]] [(TV.c (T.sl 1 (num.Abs.map qaE)))] (TV.c (T.bool x4))), oo], bFa, rgG [oo, opI (.call [[1]] [(tl 1 x1 qaE)] (TV.c (T.bool x7)))], bFa, rgG [oo, opI (.call [[0], [1]] [(TV.c (T.bool false)), (tl 1 x1 qaE)] (TV.agg (qaD x10))), oo, oo], rgG [oo, oo, opI (.call [[0,1], [0,1]] [(TV.agg (qaD num)), (TV.agg (qaD x10))] (TV.agg (qaD x12))), oo, oo], rgG [oo, oo, opI (.call [[1]] [(TV.c (T.sl 1 (x12.Abs.map qaE)))] (TV.c (T.bool x14)))], bTr, rgG [oo, opI (.call [[0,1]] [(TV.agg (qaD num))] (TV.agg (qaD x17))), oo, oo, oo]] hn (aC (qc8 h2) <| aC (qdF x1 qaE) <| aC h3 <| aC (qdR h5) <| aC h6 <| aC (qjL h8) <| aC h9 <| aC (qfJ h11) <| aC (qx9 h13) <| aC (qjL h15) <| aC h16 <| aC (qjN h18) <| aN)
    ·obtain ⟨x17, h18, h⟩ := qaV h
     obtain ⟨x19, h20, h⟩ := qaV h
     have h := oinj h; subst h
     exact wkR [rg2, rgG [oo, opI (.call [[1]] [(tl 1 den qaE)] (tl 1 x1 qaE)), oo], rgG [oo, opI (.ln (x1.length : Int)), oo, oo, .sb 16 false, oo, oo, opI (.call [[1]] [(TV.c (T.sl 1 (num.Abs.map qaE)))] (TV.c (T.bool x4))), oo], bFa, rgG [oo, opI (.call [[1]] [(tl 1 x1 qaE)] (TV.c (T.bool x7)))], bFa, rgG [oo, opI (.call [[0], [1]] [(TV.c (T.bool false)), (tl 1 x1 qaE)] (TV.agg (qaD x10))), oo, oo], rgG [oo, oo, opI (.call [[0,1], [0,1]] [(TV.agg (qaD num)), (TV.agg (qaD x10))] (TV.agg (qaD x12))), oo, oo], rgG [oo, oo, opI (.call [[1]] [(TV.c (T.sl 1 (x12.Abs.map qaE)))] (TV.c (T.bool x14)))], bFa, rgG [oo, oo, opI (.call [[0,1], [0,1]] [(TV.agg (qaD num)), (TV.agg (qaD x12))] (TV.tup [(true, qaD x17.1), (false, [(T.int .i64 x17.2)])])), oo, oo, oo, oo, oo, oo], rgG [oo, oo, opI (.call [[0,1], [0,1]] [(TV.agg (qaD x10)), (TV.agg (qaD x12))] (TV.tup [(true, qaD x19.1), (false, [(T.int .i64 x19.2)])])), oo, oo, oo, oo, oo, oo], rg5] hn (aC (qc8 h2) <| aC (qdF x1 qaE) <| aC h3 <| aC (qdR h5) <| aC h6 <| aC (qjL h8) <| aC h9 <| aC (qfJ h11) <| aC (qx9 h13) <| aC (qjL h15) <| aC h16 <| aC (qvI h18) <| aC (qvI h20) <| aN)
theorem qy1 : ∀ K : Nat, q3E K
 | 0, c, r, h => by rw [qk3] at h; cases h
 | K + 1, .c0 .., r, h => fun cx hn => zfK (qy1 K) hn h
theorem qkL {K : Nat} {num : qaG} {den : (List Int)} {r : qaK} (h : qlG K num den = some r) : qc0 prog 128 [(TV.agg (qaD num)), (tl 1 den qaE)] (TV.agg (qaC r)) :=
 qbG [[0,1,1]] (by kernel_rfl) (by simp) fun cx hn => qy1 K (.c0 num den) r h cx hn
open Go.Proofs.Try (prog)
inductive qm7 where
 | c0 (a : qaK)
def qi6 : Nat → qm7 → Option qaK
 | 0, _ => none
 | K + 1, .c0 a =>
  (qlG K a.Num a.Den).bind fun x1 =>
  some x1
def qg8 (K : Nat) (a : qaK) : Option qaK := qi6 K (.c0 a)
noncomputable def q5F : Code := qcK prog 72
noncomputable def q7P : qm7 → List Fr
 | .c0 .. => [.code q5F]
def q9H : qm7 → St
 | .c0 a => St.init [(TV.agg (qaC a))]
def qy3 (cx : Cx) (c : qm7) (r : qaK) : Prop := Wk prog cx (qd0 prog 72 [[0,1,1]] (TV.agg (qaC r))) (q7P c) .normal (q9H c)
abbrev qy4 (K : Nat) : Prop := ∀ c r, qi6 K c = some r → ∀ cx : Cx, cx.n = 8 → qy3 cx c r
theorem q9I {K} (_ : qy4 K) {cx} (hn : cx.n = 8) {a} {r} (h : qi6 (K + 1) (.c0 a) = some r) : qy3 cx (.c0 a) r := by
 rw [qi6] at h
 obtain ⟨x1, h2, h⟩ := qaV h
 have h := oinj h; subst h
 exact wkR [rg2, rgG [oo, oo, oo, oo, opI (.call [[0,1], [1]] [(TV.agg (qaD a.Num)), (TV.c (T.sl 1 (a.Den.map qaE)))] (TV.agg (qaC x1))), oo]] hn (aC (qkL h2) <| aN)
theorem qwB : ∀ K : Nat, qy4 K
 | 0, c, r, h => by rw [qi6] at h; cases h
 | K + 1, .c0 .., r, h => fun cx hn => q9I (qwB K) hn h
theorem qgP {K : Nat} {a : qaK} {r : qaK} (h : qg8 K a = some r) : qc0 prog 72 [(TV.agg (qaC a))] (TV.agg (qaC r)) :=
 qbG [[0,1,1]] (by kernel_rfl) (by simp) fun cx hn => qwB K (.c0 a) r h cx hn
theorem qy9 {x : Int} (h0 : 0 ≤ x) (hs : (digs x).length < 4611686018427387904) : Ev (fun K => qqK K (digs x)) (if x < 18446744073709551616 then (x, true) else (0, false)) := by
  refine qaT ?_
  simp only [qqK, qj6]
  refine qaP (qy8 x h0 hs) ?_
  have hd := qdX x
  have hv := qdN h0
  cases hl : digs x with
  | nil =>
    rw [hl] at hv
    refine ev_t (by simp) (qeQ (qa3 _) ?_)
    have : x = 0 := by rw [← hv]; rfl
    rw [if_pos (by omega), this]
  | cons a l =>
    rw [hl] at hv hd
    have ha := hd a (by simp)
    refine ev_f (by simp; omega) ?_
    cases l with
    | nil =>
      have hx : x = a := by rw [← hv]; simp [val]
      refine ev_t (by simp) (qb6 (x := a) rfl (qeQ (qa3 _) ?_))
      rw [if_pos (by omega), qrY, Int.emod_eq_of_lt (by omega) (by omega), hx]
    | cons b l =>
      have hb := hd b (by simp)
      refine ev_f (by simp; omega) ?_
      cases l with
      | nil =>
        have hx : x = b * 4294967296 + a := by rw [← hv]; simp [val]; omega
        refine ev_t (by simp) (qb6 (x := b) rfl (qb6 (x := a) rfl (qeQ (qa3 _) ?_)))
        rw [if_pos (by omega), qrY, qrY, Int.emod_eq_of_lt (show 0 ≤ b by omega) (by omega), Int.emod_eq_of_lt (show 0 ≤ a by omega) (by omega), q9Q hb ha, hx]
      | cons c l =>
        refine ev_f (by simp; omega) (qeQ (qa3 _) ?_)
        have : (4294967296 : Int) ^ 2 ≤ 4294967296 ^ ((digs x).length - 1) := qxJ (by rw [hl]; simp)
        have h2 := zrT (quG x) (by rw [hl]; simp)
        rw [qdN h0] at h2
        rw [if_neg (by have : (4294967296 : Int) ^ 2 = 18446744073709551616 := rfl; omega)]
theorem zqE {n k : Nat} (h : (n : Int) < 4294967296 ^ k) : (digs (n : Int)).length ≤ k := qjJ h
theorem zjW (b4 : qaG) : ∀ (N M : Nat), M < 18446744073709551616 → N < 18446744073709551616 → Ev (fun K => qdK K (.c2 b4 (M : Int) (N : Int))) (mkI (Nat.gcd M N : Nat)) := by
  intro N
  induction N using Nat.strongRecOn with
  | _ N ih =>
    intro M hM hN
    refine qaT ?_
    simp only [qdK]
    by_cases e : N = 0
    · subst e
      refine ev_f (by simp) (qaP (qsU (by omega) (by omega)) ?_)
      have h1 := qiZ false (qdX (M : Int)) (by have : (digs (M : Int)).length ≤ 2 := zqE (by have : (4294967296 : Int) ^ 2 = 18446744073709551616 := rfl; omega); omega)
      rw [qdN (by omega)] at h1
      refine qaP h1 (qeQ (qa3 _) ?_)
      simp
    · refine ev_t (by simpa using e) (qhC (by omega) ?_)
      have h1 : Int.tmod (M : Int) (N : Int) = ((M % N : Nat) : Int) := rfl
      rw [h1]
      have hlt := Nat.mod_lt M (Nat.pos_of_ne_zero e)
      refine qeQ (ih (M % N) hlt N hN (by omega)) ?_
      rw [Nat.gcd_comm M N, Nat.gcd_rec N M, Nat.gcd_comm]
theorem zjX (b4 : qaG) : ∀ (Y X : Nat), (digs (X : Int)).length ≤ 17179869000 → (digs (Y : Int)).length ≤ 17179869000 → Ev (fun K => qdK K (.c1 b4 (digs (X : Int)) (digs (Y : Int)))) (mkI (Nat.gcd X Y : Nat)) := by
  intro Y
  induction Y using Nat.strongRecOn with
  | _ Y ih =>
    intro X hX hY
    refine qaT ?_
    simp only [qdK]
    by_cases e : Y = 0
    · subst e
      refine ev_f (by simp [qhD]) ?_
      have h1 := qiZ false (qdX (X : Int)) (by omega)
      rw [qdN (by omega)] at h1
      refine qaP h1 (qeQ (qa3 _) ?_)
      simp
    · have hne : digs (Y : Int) ≠ [] := fun h => e (by have := (qjY (z := (Y : Int)) (by omega)).1 h; omega)
      have hlen : 0 < (digs (Y : Int)).length := List.length_pos_iff.2 hne
      have step : Ev (fun K => (qnJ K (digs (X : Int)) (digs (Y : Int))).bind fun x8 => qdK K (.c1 b4 (digs (Y : Int)) x8.2)) (mkI (Nat.gcd X Y : Nat)) := by
        have hl := q10 (qdX (X : Int)) (qdX (Y : Int)) (by omega) (by omega) (by rw [qdN (by omega)]; omega)
        rw [qdN (by omega), qdN (by omega)] at hl
        refine qaP hl ?_
        have hm : (X : Int) % (Y : Int) = ((X % Y : Nat) : Int) := by omega
        simp only [hm]
        have hlt := Nat.mod_lt X (Nat.pos_of_ne_zero e)
        refine qeQ (ih (X % Y) hlt Y hY ?_) ?_
        · refine Nat.le_trans (qjJ (n := (digs (Y : Int)).length) ?_) hY
          have := qnN (qdX (Y : Int))
          rw [qdN (by omega)] at this
          omega
        · rw [Nat.gcd_comm X Y, Nat.gcd_rec Y X, Nat.gcd_comm]
      refine ev_t (by simpa using hlen) (qaP (qy9 (by omega) (by omega)) ?_)
      by_cases hx : (X : Int) < 18446744073709551616
      · rw [if_pos hx]
        refine ev_t rfl (qaP (qy9 (by omega) (by omega)) ?_)
        by_cases hy : (Y : Int) < 18446744073709551616
        · rw [if_pos hy]
          exact ev_t rfl (zjW b4 Y X (by omega) (by omega))
        · rw [if_neg hy]
          exact ev_f rfl step
      · rw [if_neg hx]
        exact ev_f rfl step
theorem zjZ {a b : qaG} (ha : Sm a) (hb : Sm b) : Ev (fun K => qyA K a b) (mkI (Int.gcd (ival a) (ival b) : Nat)) := by
  refine qaT ?_
  simp only [qyA, qdK]
  have h1 := qiA ha.1 (by have := ha.2; omega)
  have h2 := qiA hb.1 (by have := hb.2; omega)
  rw [quZ a ha.1] at h1
  rw [quZ b hb.1] at h2
  have l1 := qeW ha.1
  have l2 := qeW hb.1
  rw [quZ a ha.1] at l1
  rw [quZ b hb.1] at l2
  exact qaP h1 (qaP h2 (zjX _ _ _ (by have := ha.2; omega) (by have := hb.2; omega)))
theorem za6 (g : Nat) (n : Int) (h : g ∣ n.natAbs) : (g : Int) ∣ n := Int.dvd_natAbs.1 (Int.natCast_dvd_natCast.2 h)
def mkQ (q : Rat) : qaK := ⟨mkI q.num, digs (q.den : Int)⟩
theorem qsG : Ev (fun K => qoZ K) (digs 1) := by
  refine qaT ?_
  simp only [qoZ, qmE]
  exact qaP (qsU (by decide) (by decide)) (qa3 _)
theorem zrF : mkQ 0 = ⟨⟨false, []⟩, digs 1⟩ := by
  show (⟨mkI 0, digs 1⟩ : qaK) = _
  rw [q3T]
theorem qy2 {x : Int} (h : 0 ≤ x) : Ev (fun K => qqH K (digs x)) (decide (x = 1)) := by
  refine qaT ?_
  simp only [qqH, qj4]
  have hv := qdN h
  cases hl : digs x with
  | nil =>
    rw [hl] at hv
    have : x = 0 := by rw [← hv]; rfl
    exact ev_f (by simp) (qeQ (qa3 _) (by subst this; rfl))
  | cons a l =>
    cases l with
    | nil =>
      rw [hl] at hv
      have hx : x = a := by rw [← hv]; simp [val]
      exact ev_t (by simp) (qb6 (x := a) rfl (qeQ (qa3 _) (by rw [hx])))
    | cons b l =>
      refine ev_f (by simp; omega) (qeQ (qa3 _) ?_)
      have h2 := zrT (quG x) (by rw [hl]; simp)
      rw [qdN h] at h2
      have : (4294967296 : Int) ^ 1 ≤ 4294967296 ^ ((digs x).length - 1) := qxJ (by rw [hl]; simp)
      symm
      rw [decide_eq_false_iff_not]
      have : (4294967296 : Int) ^ 1 = 4294967296 := rfl
      omega
def SmN (d : List Int) : Prop := Dig d ∧ d.length ≤ 17179869000
theorem qqZ {n : qaG} {d : List Int} (hn : Sm n) (hd : SmN d) : Ev (fun K => qlG K n d) (mkQ (mkRat (ival n) (val d).toNat)) := by
  refine qaT ?_
  simp only [qlG, qk3]
  have nd := qbW hd.1
  refine qaP (qiA hd.1 (by have := hd.2; omega)) ?_
  by_cases e : val d = 0
  · rw [e, qhD]
    refine ev_t rfl (qaP qsG (qeQ (qa3 _) ?_))
    rw [← zrF]
    simp [mkRat]
  · have hne : digs (val d) ≠ [] := fun h => e ((qjY nd).1 h)
    refine ev_f (by simpa using hne) ?_
    have sn := hn.2
    refine qaP (qmJ hn.1 (by omega)) ?_
    have hva := quZ n hn.1
    by_cases e2 : ival n = 0
    · refine ev_t (by rw [hva, e2]; rfl) (qaP qsG (qeQ (qa3 _) ?_))
      rw [← zrF, e2]
      simp
    · refine ev_f (by rw [hva]; simp; omega) ?_
      refine qaP (qy2 nd) ?_
      have hnum := Rat.num_mkRat (ival n) (val d).toNat
      have hden := Rat.den_mkRat (ival n) (val d).toNat
      have hd0 : (val d).toNat ≠ 0 := by omega
      rw [if_neg hd0] at hnum hden
      have key : ∀ g : Nat, Nat.gcd (val d).toNat (ival n).natAbs = g → mkQ (mkRat (ival n) (val d).toNat) = ⟨mkI (ival n / (g : Int)), digs (val d / (g : Int))⟩ := fun g hg => by
        unfold mkQ
        rw [hnum, hden, hg]
        congr 2
        rw [Int.natCast_ediv]
        congr 1
        omega
      by_cases e3 : val d = 1
      · refine ev_t (by simp [e3]) (qaP (qkE hn.1 (by omega)) (qeQ (qa3 _) ?_))
        rw [key 1 (by rw [e3]; simp), e3]
        simp
      · refine ev_f (by simpa using e3) ?_
        have hf := qiZ false (qdX (val d)) (by have := qeW hd.1; have := hd.2; omega)
        rw [qdN nd] at hf
        refine qaP hf ?_
        have hsd : Sm (mkI (bif false then -val d else val d)) := by
          refine ⟨ziQ _, ?_⟩
          rw [show (bif false then -val d else val d) = val d from rfl, qrO nd]
          have := qeW hd.1
          have := hd.2
          show (digs (val d)).length ≤ _
          omega
        have hg := zjZ hn hsd
        rw [qcY] at hg
        refine qaP hg ?_
        have hgv : Int.gcd (ival n) (bif false then -val d else val d) = Nat.gcd (val d).toNat (ival n).natAbs := by
          rw [Nat.gcd_comm]
          show Nat.gcd (ival n).natAbs (val d).natAbs = _
          congr 1
          omega
        rw [hgv]
        have hgpos : 0 < Nat.gcd (val d).toNat (ival n).natAbs := Nat.gcd_pos_of_pos_left _ (by omega)
        have hgn : Nat.gcd (val d).toNat (ival n).natAbs ≤ (ival n).natAbs := Nat.gcd_le_right _ (by omega)
        have hdn : ((Nat.gcd (val d).toNat (ival n).natAbs : Nat) : Int) ∣ ival n := za6 _ _ (Nat.gcd_dvd_right _ _)
        have hdd : ((Nat.gcd (val d).toNat (ival n).natAbs : Nat) : Int) ∣ val d := by
          have := Int.natCast_dvd_natCast.2 (Nat.gcd_dvd_left (val d).toNat (ival n).natAbs)
          rwa [Int.toNat_of_nonneg nd] at this
        generalize hG : Nat.gcd (val d).toNat (ival n).natAbs = g at *
        have hgs : Sm (mkI (g : Int)) := zoL hn (by rw [Int.natAbs_natCast]; exact hgn)
        have h1 := qy2 (x := (g : Int)) (by omega)
        have habs : (mkI (g : Int)).Abs = digs (g : Int) := by rw [qrO (by omega)]
        rw [habs]
        refine qaP h1 ?_
        by_cases e4 : g = 1
        · refine ev_t (by simp [e4]) (qaP (qkE hn.1 (by omega)) (qeQ (qa3 _) ?_))
          rw [key 1 e4]
          simp
        · refine ev_f (by simp; omega) ?_
          have x1 := qzU hn hgs (by rw [qcY]; omega) (by rw [qcY]; exact hdn)
          have x2 := qzU hsd hgs (by rw [qcY]; omega) (by rw [qcY, qcY]; exact hdd)
          rw [qcY] at x1
          rw [qcY, qcY] at x2
          refine qaP x1 (qaP x2 (qeQ (qa3 _) ?_))
          rw [key g rfl]
          congr 1
          show (mkI (val d / (g : Int))).Abs = _
          rw [qrO (Int.ediv_nonneg nd (by omega))]
open Go.Proofs.Try (prog)
inductive qoD where
 | c0 (a : qaK)
def qj2 : Nat → qoD → Option (qaG × qaG)
 | 0, _ => none
 | K + 1, .c0 a =>
  (qjX K a.Den).bind fun x1 =>
  bif x1 then
   (qk9 K (1 : Int)).bind fun x4 =>
   some ((qaG.mk false []), x4)
  else
   some (a.Num, (qaG.mk false a.Den))
def qiP (K : Nat) (a : qaK) : Option (qaG × qaG) := qj2 K (.c0 a)
noncomputable def q7N : Code := qcK prog 73
noncomputable def q9C : qoD → List Fr
 | .c0 .. => [.code q7N]
def zcC : qoD → St
 | .c0 a => St.init [(TV.agg (qaC a))]
def q08 (cx : Cx) (c : qoD) (r : (qaG × qaG)) : Prop := Wk prog cx (qd0 prog 73 [[0,1], [0,1]] (TV.tup [(true, qaD r.1), (true, qaD r.2)])) (q9C c) .normal (zcC c)
abbrev q09 (K : Nat) : Prop := ∀ c r, qj2 K c = some r → ∀ cx : Cx, cx.n = 14 → q08 cx c r
theorem zcD {K} (_ : q09 K) {cx} (hn : cx.n = 14) {a} {r} (h : qj2 (K + 1) (.c0 a) = some r) : q08 cx (.c0 a) r := by
 rw [qj2] at h
 obtain ⟨x1, h2, h⟩ := qaV h
 rcases qaY h with ⟨h3, h⟩ | ⟨h3, h⟩
 ·obtain ⟨x4, h5, h⟩ := qaV h
  have h := oinj h; subst h
  exact wkR [rg3, rgG [oo, oo, opI (.call [[1]] [(TV.c (T.sl 1 (a.Den.map qaE)))] (TV.c (T.bool x1)))], bTr, rgG [oo, opI (.call [[0]] [(TV.c (T.int .i64 (1 : Int)))] (TV.agg (qaD x4))), oo, oo]] hn (aC (qdR h2) <| aC h3 <| aC (qgH h5) <| aN)
 ·have h := oinj h; subst h
  exact wkR [rg3, rgG [oo, oo, opI (.call [[1]] [(TV.c (T.sl 1 (a.Den.map qaE)))] (TV.c (T.bool x1)))], bFa, .draw [.p, .p, .p, .p, .p, .p] [.op .p]] hn (aC (qdR h2) <| aC h3 <| aN)
theorem qxU : ∀ K : Nat, q09 K
 | 0, c, r, h => by rw [qj2] at h; cases h
 | K + 1, .c0 .., r, h => fun cx hn => zcD (qxU K) hn h
theorem qeN {K : Nat} {a : qaK} {r : (qaG × qaG)} (h : qiP K a = some r) : qc0 prog 73 [(TV.agg (qaC a))] (TV.tup [(true, qaD r.1), (true, qaD r.2)]) :=
 qbG [[0,1], [0,1]] (by kernel_rfl) (by simp) fun cx hn => qxU K (.c0 a) r h cx hn
open Go.Proofs.Try (prog)
inductive qq2 where
 | c0 (a : qaK) (b : qaK)
def qmH : Nat → qq2 → Option qaK
 | 0, _ => none
 | K + 1, .c0 a b =>
  (qiP K a).bind fun x1 =>
  (qiP K b).bind fun x3 =>
  (qlY K x1.1 x3.2).bind fun x5 =>
  (qlY K x3.1 x1.2).bind fun x7 =>
  (qnI K x5 x7).bind fun x9 =>
  (qtU K x1.2.Abs x3.2.Abs).bind fun x11 =>
  (qlG K x9 x11).bind fun x13 =>
  some x13
def qrT (K : Nat) (a : qaK) (b : qaK) : Option qaK := qmH K (.c0 a b)
noncomputable def zcM : Code := qcK prog 133
noncomputable def zfS : qq2 → List Fr
 | .c0 .. => [.code zcM]
def zh5 : qq2 → St
 | .c0 a b => St.init [(TV.agg (qaC a)), (TV.agg (qaC b))]
def q6G (cx : Cx) (c : qq2) (r : qaK) : Prop := Wk prog cx (qd0 prog 133 [[0,1,1]] (TV.agg (qaC r))) (zfS c) .normal (zh5 c)
abbrev q6H (K : Nat) : Prop := ∀ c r, qmH K c = some r → ∀ cx : Cx, cx.n = 32 → q6G cx c r
theorem zh6 {K} (_ : q6H K) {cx} (hn : cx.n = 32) {a b} {r} (h : qmH (K + 1) (.c0 a b) = some r) : q6G cx (.c0 a b) r := by
 rw [qmH] at h
 obtain ⟨x1, h2, h⟩ := qaV h
 obtain ⟨x3, h4, h⟩ := qaV h
 obtain ⟨x5, h6, h⟩ := qaV h
 obtain ⟨x7, h8, h⟩ := qaV h
 obtain ⟨x9, h10, h⟩ := qaV h
 obtain ⟨x11, h12, h⟩ := qaV h
 obtain ⟨x13, h14, h⟩ := qaV h
 have h := oinj h; subst h
 exact wkR [rg3, rgG [oo, opI (.call [[0,1,1]] [(TV.agg (qaC a))] (TV.tup [(true, qaD x1.1), (true, qaD x1.2)])), oo, oo, oo, oo, oo, oo, oo], rgG [oo, opI (.call [[0,1,1]] [(TV.agg (qaC b))] (TV.tup [(true, qaD x3.1), (true, qaD x3.2)])), oo, oo, oo, oo, oo, oo, oo], .draw [.p, .p, (.call [[0,1], [0,1]] [(TV.agg (qaD x1.1)), (TV.agg (qaD x3.2))] (TV.agg (qaD x5))), .p, .p, (.call [[0,1], [0,1]] [(TV.agg (qaD x3.1)), (TV.agg (qaD x1.2))] (TV.agg (qaD x7))), (.call [[0,1], [0,1]] [(TV.agg (qaD x5)), (TV.agg (qaD x7))] (TV.agg (qaD x9))), .p, .p, .p, .p] [opI (.call [[1], [1]] [(TV.c (T.sl 1 (x1.2.Abs.map qaE))), (TV.c (T.sl 1 (x3.2.Abs.map qaE)))] (tl 1 x11 qaE)), opI (.call [[0,1], [1]] [(TV.agg (qaD x9)), (tl 1 x11 qaE)] (TV.agg (qaC x13))), .op .p]] hn (aC (qeN h2) <| aC (qeN h4) <| aC (qiD h6) <| aC (qiD h8) <| aC (qkF h10) <| aC (qtT h12) <| aC (qkL h14) <| aN)
theorem q1G : ∀ K : Nat, q6H K
 | 0, c, r, h => by rw [qmH] at h; cases h
 | K + 1, .c0 .., r, h => fun cx hn => zh6 (q1G K) hn h
theorem qsJ {K : Nat} {a : qaK} {b : qaK} {r : qaK} (h : qrT K a b = some r) : qc0 prog 133 [(TV.agg (qaC a)), (TV.agg (qaC b))] (TV.agg (qaC r)) :=
 qbG [[0,1,1]] (by kernel_rfl) (by simp) fun cx hn => q1G K (.c0 a b) r h cx hn
open Go.Proofs.Try (prog)
inductive qq0 where
 | c0 (a : qaK) (b : qaK)
def qmF : Nat → qq0 → Option qaK
 | 0, _ => none
 | K + 1, .c0 a b =>
  (qiP K a).bind fun x1 =>
  (qiP K b).bind fun x3 =>
  (qlY K x1.1 x3.1).bind fun x5 =>
  (qtU K x1.2.Abs x3.2.Abs).bind fun x7 =>
  (qlG K x5 x7).bind fun x9 =>
  some x9
def qeM (K : Nat) (a : qaK) (b : qaK) : Option qaK := qmF K (.c0 a b)
noncomputable def zcI : Code := qcK prog 134
noncomputable def zfM : qq0 → List Fr
 | .c0 .. => [.code zcI]
def zh1 : qq0 → St
 | .c0 a b => St.init [(TV.agg (qaC a)), (TV.agg (qaC b))]
def q6C (cx : Cx) (c : qq0) (r : qaK) : Prop := Wk prog cx (qd0 prog 134 [[0,1,1]] (TV.agg (qaC r))) (zfM c) .normal (zh1 c)
abbrev q6D (K : Nat) : Prop := ∀ c r, qmF K c = some r → ∀ cx : Cx, cx.n = 28 → q6C cx c r
theorem zh2 {K} (_ : q6D K) {cx} (hn : cx.n = 28) {a b} {r} (h : qmF (K + 1) (.c0 a b) = some r) : q6C cx (.c0 a b) r := by
 rw [qmF] at h
 obtain ⟨x1, h2, h⟩ := qaV h
 obtain ⟨x3, h4, h⟩ := qaV h
 obtain ⟨x5, h6, h⟩ := qaV h
 obtain ⟨x7, h8, h⟩ := qaV h
 obtain ⟨x9, h10, h⟩ := qaV h
 have h := oinj h; subst h
 exact wkR [rg3, rgG [oo, opI (.call [[0,1,1]] [(TV.agg (qaC a))] (TV.tup [(true, qaD x1.1), (true, qaD x1.2)])), oo, oo, oo, oo, oo, oo, oo], rgG [oo, opI (.call [[0,1,1]] [(TV.agg (qaC b))] (TV.tup [(true, qaD x3.1), (true, qaD x3.2)])), oo, oo, oo, oo, oo, oo, oo], .draw [.p, .p, (.call [[0,1], [0,1]] [(TV.agg (qaD x1.1)), (TV.agg (qaD x3.1))] (TV.agg (qaD x5))), .p, .p, .p, .p] [opI (.call [[1], [1]] [(TV.c (T.sl 1 (x1.2.Abs.map qaE))), (TV.c (T.sl 1 (x3.2.Abs.map qaE)))] (tl 1 x7 qaE)), opI (.call [[0,1], [1]] [(TV.agg (qaD x5)), (tl 1 x7 qaE)] (TV.agg (qaC x9))), .op .p]] hn (aC (qeN h2) <| aC (qeN h4) <| aC (qiD h6) <| aC (qtT h8) <| aC (qkL h10) <| aN)
theorem q1D : ∀ K : Nat, q6D K
 | 0, c, r, h => by rw [qmF] at h; cases h
 | K + 1, .c0 .., r, h => fun cx hn => zh2 (q1D K) hn h
theorem qdG {K : Nat} {a : qaK} {b : qaK} {r : qaK} (h : qeM K a b = some r) : qc0 prog 134 [(TV.agg (qaC a)), (TV.agg (qaC b))] (TV.agg (qaC r)) :=
 qbG [[0,1,1]] (by kernel_rfl) (by simp) fun cx hn => q1D K (.c0 a b) r h cx hn
open Go.Proofs.Try (prog)
inductive qq1 where
 | c0 (a : qaK) (b : qaK)
def qmG : Nat → qq1 → Option Int
 | 0, _ => none
 | K + 1, .c0 a b =>
  (qiP K a).bind fun x1 =>
  (qiP K b).bind fun x3 =>
  (qhO K x1.1).bind fun x5 =>
  (qhO K x3.1).bind fun x7 =>
  bif (!decide (x5 = x7)) then
   bif (decide (x7 < x5)) then
    some (1 : Int)
   else
    some (-1 : Int)
  else
   (qlY K x1.1 x3.2).bind fun x10 =>
   (qlY K x3.1 x1.2).bind fun x12 =>
   (qw5 K x10 x12).bind fun x14 =>
   some x14
def qo0 (K : Nat) (a : qaK) (b : qaK) : Option Int := qmG K (.c0 a b)
noncomputable def zcL : Code := qcK prog 22
noncomputable def zfR : qq1 → List Fr
 | .c0 .. => [.code zcL]
def zh3 : qq1 → St
 | .c0 a b => St.init [(TV.agg (qaC a)), (TV.agg (qaC b))]
def q6E (cx : Cx) (c : qq1) (r : Int) : Prop := Wk prog cx (qd0 prog 22 [[0]] (ti .i64 r)) (zfR c) .normal (zh3 c)
abbrev q6F (K : Nat) : Prop := ∀ c r, qmG K c = some r → ∀ cx : Cx, cx.n = 38 → q6E cx c r
theorem zh4 {K} (_ : q6F K) {cx} (hn : cx.n = 38) {a b} {r} (h : qmG (K + 1) (.c0 a b) = some r) : q6E cx (.c0 a b) r := by
 rw [qmG] at h
 obtain ⟨x1, h2, h⟩ := qaV h
 obtain ⟨x3, h4, h⟩ := qaV h
 obtain ⟨x5, h6, h⟩ := qaV h
 obtain ⟨x7, h8, h⟩ := qaV h
 rcases qaY h with ⟨h9, h⟩ | ⟨h9, h⟩
 ·rcases qaY h with ⟨h10, h⟩ | ⟨h10, h⟩
  ·have h := oinj h; subst h
   exact wkR [rg3, rgG [oo, opI (.call [[0,1,1]] [(TV.agg (qaC a))] (TV.tup [(true, qaD x1.1), (true, qaD x1.2)])), oo, oo, oo, oo, oo, oo, oo], rgG [oo, opI (.call [[0,1,1]] [(TV.agg (qaC b))] (TV.tup [(true, qaD x3.1), (true, qaD x3.2)])), oo, oo, oo, oo, oo, oo, oo], .draw [.p, (.call [[0,1]] [(TV.agg (qaD x1.1))] (ti .i64 x5)), .p] [opI (.call [[0,1]] [(TV.agg (qaD x3.1))] (ti .i64 x7)), .op .p, .op .p], rg3, bTr, rg3, bTr, rg1] hn (aC (qeN h2) <| aC (qeN h4) <| aC (qcD h6) <| aC (qcD h8) <| aC h9 <| aC h10 <| aN)
  ·have h := oinj h; subst h
   exact wkR [rg3, rgG [oo, opI (.call [[0,1,1]] [(TV.agg (qaC a))] (TV.tup [(true, qaD x1.1), (true, qaD x1.2)])), oo, oo, oo, oo, oo, oo, oo], rgG [oo, opI (.call [[0,1,1]] [(TV.agg (qaC b))] (TV.tup [(true, qaD x3.1), (true, qaD x3.2)])), oo, oo, oo, oo, oo, oo, oo], .draw [.p, (.call [[0,1]] [(TV.agg (qaD x1.1))] (ti .i64 x5)), .p] [opI (.call [[0,1]] [(TV.agg (qaD x3.1))] (ti .i64 x7)), .op .p, .op .p], rg3, bTr, rg3, bFa, rg1] hn (aC (qeN h2) <| aC (qeN h4) <| aC (qcD h6) <| aC (qcD h8) <| aC h9 <| aC h10 <| aN)
 ·obtain ⟨x10, h11, h⟩ := qaV h
  obtain ⟨x12, h13, h⟩ := qaV h
  obtain ⟨x14, h15, h⟩ := qaV h
  have h := oinj h; subst h
  exact wkR [rg3, rgG [oo, opI (.call [[0,1,1]] [(TV.agg (qaC a))] (TV.tup [(true, qaD x1.1), (true, qaD x1.2)])), oo, oo, oo, oo, oo, oo, oo], rgG [oo, opI (.call [[0,1,1]] [(TV.agg (qaC b))] (TV.tup [(true, qaD x3.1), (true, qaD x3.2)])), oo, oo, oo, oo, oo, oo, oo], .draw [.p, (.call [[0,1]] [(TV.agg (qaD x1.1))] (ti .i64 x5)), .p] [opI (.call [[0,1]] [(TV.agg (qaD x3.1))] (ti .i64 x7)), .op .p, .op .p], rg3, bFa, .draw [.p, .p, (.call [[0,1], [0,1]] [(TV.agg (qaD x1.1)), (TV.agg (qaD x3.2))] (TV.agg (qaD x10))), .p, .p] [opI (.call [[0,1], [0,1]] [(TV.agg (qaD x3.1)), (TV.agg (qaD x1.2))] (TV.agg (qaD x12))), opI (.call [[0,1], [0,1]] [(TV.agg (qaD x10)), (TV.agg (qaD x12))] (ti .i64 x14)), .op .p]] hn (aC (qeN h2) <| aC (qeN h4) <| aC (qcD h6) <| aC (qcD h8) <| aC h9 <| aC (qiD h11) <| aC (qiD h13) <| aC (qzR h15) <| aN)
theorem q1F : ∀ K : Nat, q6F K
 | 0, c, r, h => by rw [qmG] at h; cases h
 | K + 1, .c0 .., r, h => fun cx hn => zh4 (q1F K) hn h
theorem qg9 {K : Nat} {a : qaK} {b : qaK} {r : Int} (h : qo0 K a b = some r) : qc0 prog 22 [(TV.agg (qaC a)), (TV.agg (qaC b))] (ti .i64 r) :=
 qbG [[0]] (by kernel_rfl) (by simp) fun cx hn => q1F K (.c0 a b) r h cx hn
open Go.Proofs.Try (prog)
inductive qpQ where
 | c0 (a : qaG)
def qk5 : Nat → qpQ → Option qaK
 | 0, _ => none
 | K + 1, .c0 a =>
  (qiQ K a).bind fun x1 =>
  (qoZ K ).bind fun x3 =>
  some (qaK.mk x1 x3)
def qsI (K : Nat) (a : qaG) : Option qaK := qk5 K (.c0 a)
noncomputable def q9K : Code := qcK prog 84
noncomputable def zcK : qpQ → List Fr
 | .c0 .. => [.code q9K]
def zfP : qpQ → St
 | .c0 a => St.init [(TV.agg (qaD a))]
def q3I (cx : Cx) (c : qpQ) (r : qaK) : Prop := Wk prog cx (qd0 prog 84 [[0,1,1]] (TV.agg (qaC r))) (zcK c) .normal (zfP c)
abbrev q3J (K : Nat) : Prop := ∀ c r, qk5 K c = some r → ∀ cx : Cx, cx.n = 7 → q3I cx c r
theorem zfQ {K} (_ : q3J K) {cx} (hn : cx.n = 7) {a} {r} (h : qk5 (K + 1) (.c0 a) = some r) : q3I cx (.c0 a) r := by
 rw [qk5] at h
 obtain ⟨x1, h2, h⟩ := qaV h
 obtain ⟨x3, h4, h⟩ := qaV h
 have h := oinj h; subst h
 exact wkR [rg2, rgG [oo, opI (.call [[0,1]] [(TV.agg (qaD a))] (TV.agg (qaD x1))), opI (.call [] [] (tl 1 x3 qaE)), oo, oo]] hn (aC (qjN h2) <| aC (qoE h4) <| aN)
theorem qy6 : ∀ K : Nat, q3J K
 | 0, c, r, h => by rw [qk5] at h; cases h
 | K + 1, .c0 .., r, h => fun cx hn => zfQ (qy6 K) hn h
theorem qwC {K : Nat} {a : qaG} {r : qaK} (h : qsI K a = some r) : qc0 prog 84 [(TV.agg (qaD a))] (TV.agg (qaC r)) :=
 qbG [[0,1,1]] (by kernel_rfl) (by simp) fun cx hn => qy6 K (.c0 a) r h cx hn
open Go.Proofs.Try (prog)
inductive qsH where
 | c0 (n : Int)
def qnT : Nat → qsH → Option qaK
 | 0, _ => none
 | K + 1, .c0 n =>
  (qk9 K n).bind fun x1 =>
  (qoZ K ).bind fun x3 =>
  some (qaK.mk x1 x3)
def qjI (K : Nat) (n : Int) : Option qaK := qnT K (.c0 n)
noncomputable def zfL : Code := qcK prog 30
noncomputable def zh0 : qsH → List Fr
 | .c0 .. => [.code zfL]
def zkT : qsH → St
 | .c0 n => St.init [(ti .i64 n)]
def q9F (cx : Cx) (c : qsH) (r : qaK) : Prop := Wk prog cx (qd0 prog 30 [[0,1,1]] (TV.agg (qaC r))) (zh0 c) .normal (zkT c)
abbrev q9G (K : Nat) : Prop := ∀ c r, qnT K c = some r → ∀ cx : Cx, cx.n = 7 → q9F cx c r
theorem zkU {K} (_ : q9G K) {cx} (hn : cx.n = 7) {n} {r} (h : qnT (K + 1) (.c0 n) = some r) : q9F cx (.c0 n) r := by
 rw [qnT] at h
 obtain ⟨x1, h2, h⟩ := qaV h
 obtain ⟨x3, h4, h⟩ := qaV h
 have h := oinj h; subst h
 exact wkR [rg1, rgG [oo, opI (.call [[0]] [(ti .i64 n)] (TV.agg (qaD x1))), opI (.call [] [] (tl 1 x3 qaE)), oo, oo]] hn (aC (qgH h2) <| aC (qoE h4) <| aN)
theorem q3F : ∀ K : Nat, q9G K
 | 0, c, r, h => by rw [qnT] at h; cases h
 | K + 1, .c0 .., r, h => fun cx hn => zkU (q3F K) hn h
theorem qeS {K : Nat} {n : Int} {r : qaK} (h : qjI K n = some r) : qc0 prog 30 [(ti .i64 n)] (TV.agg (qaC r)) :=
 qbG [[0,1,1]] (by kernel_rfl) (by simp) fun cx hn => q3F K (.c0 n) r h cx hn
end Go.Am.X
