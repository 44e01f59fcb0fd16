/- Part 3 of the proof: Fn_integer_Shl .. Fn_modular_wide. -/
import Derived.Test.YteciehfkhmbfeaaCb
namespace Go.Am.X
open Go.Proofs.Try (prog)


inductive integer_Shl_Cut where
  | c0 (a : integer_Int) (n : Int)

def integer_Shl_go : Nat → integer_Shl_Cut → Option integer_Int
  | 0, _ => none
  | K + 1, .c0 a n =>
    (natural_Shl K a.Abs n).bind fun x1 =>
    (integer_made K a.Neg x1).bind fun x3 =>
    some x3

def integer_Shl (K : Nat) (a : integer_Int) (n : Int) : Option integer_Int := integer_Shl_go K (.c0 a n)

noncomputable def integer_Shl_body : Code := bodyOf prog 103
noncomputable def integer_Shl_pos : integer_Shl_Cut → List Fr
  | .c0 .. => [.code integer_Shl_body]
def integer_Shl_st : integer_Shl_Cut → St
  | .c0 a n => St.init [(TV.agg (ce_integer_Int a)), (ti .i64 n)]

def integer_Shl_S (cx : Cx) (c : integer_Shl_Cut) (r : integer_Int) : Prop := Wk prog cx (EndsF prog 103 [[0,1]] (TV.agg (ce_integer_Int r))) (integer_Shl_pos c) .normal (integer_Shl_st c)
abbrev integer_Shl_H (K : Nat) : Prop := ∀ c r, integer_Shl_go K c = some r → ∀ cx : Cx, cx.n = 12 → integer_Shl_S cx c r

theorem integer_Shl_c0 {K} (_ : integer_Shl_H K) {cx} (hn : cx.n = 12) {a n} {r} (h : integer_Shl_go (K + 1) (.c0 a n) = some r) : integer_Shl_S cx (.c0 a n) r := by
  rw [integer_Shl_go] at h
  obtain ⟨x1, h2, h⟩ := obind h
  obtain ⟨x3, h4, h⟩ := obind h
  have h := Option.some.inj h; subst h
  exact wk_ret (fuel := 54) [.reg [oo, oo], .draw [.p, .p, .p, .p, .p, (.call [[1], [0]] [(TV.c (T.sl 1 (a.Abs.map ce_u32))), (ti .i64 n)] (tl 1 x1 ce_u32))] [.op (.call [[0], [1]] [(TV.c (T.bool a.Neg)), (tl 1 x1 ce_u32)] (TV.agg (ce_integer_Int x3))), .op .p]] _ hn (by kernel_rfl) (aC (natural_Shl_holds h2) <| aC (integer_made_holds h4) <| aN)

theorem integer_Shl_all : ∀ K : Nat, integer_Shl_H K
  | 0, c, r, h => by rw [integer_Shl_go] at h; cases h
  | K + 1, .c0 .., r, h => fun cx hn => integer_Shl_c0 (integer_Shl_all K) hn h

theorem integer_Shl_holds {K : Nat} {a : integer_Int} {n : Int} {r : integer_Int} (h : integer_Shl K a n = some r) : Holds prog 103 [(TV.agg (ce_integer_Int a)), (ti .i64 n)] (TV.agg (ce_integer_Int r)) :=
  holds_wk [[0,1]] (by kernel_rfl) (by simp) fun cx hn => integer_Shl_all K (.c0 a n) r h cx hn
end Go.Am.X
namespace Go.Am.X

theorem val_take_succ {a : List Int} {i : Nat} (h : i < a.length) : val (a.take (i + 1)) = val (a.take i) + 4294967296 ^ i * a[i] := by
  rw [List.take_add_one, List.getElem?_eq_getElem h, Option.toList_some, val_append, List.length_take, Nat.min_eq_left (by omega)]
  simp

theorem natural_Add_1_ev {x y c : Int} (hx : 0 ≤ x ∧ x < 4294967296) (hy : 0 ≤ y ∧ y < 4294967296) (hc : 0 ≤ c ∧ c < 4294967296) : Ev (fun K => natural_Add_1__at6 K x y c) ((x + y + c) % 4294967296, (x + y + c) / 4294967296) := by
  unfold natural_Add_1__at6
  exact ev_bind (math_bits_Add32_ev hx hy hc) (ev_some _)

theorem natural_Add_v2 {a b : List Int} (ha : Dig a) (hs : a.length < 4611686018427387900) : ∀ (m i : Nat) (c : Int) (r : List Int), i + m = a.length → b.length ≤ i → (c = 0 ∨ c = 1) → Dig r → r.length = a.length + 1 →
    val r + 4294967296 ^ i * c = val (a.take i) + val b → (∀ j, i ≤ j → j < r.length → r[j]? = some 0) → Ev (fun K => natural_Add_go K (.c2 c r a i)) (digs (val a + val b))
  | 0, i, c, r, hi, hb, hc, hr, hl, hv, hz => by
    refine ev_succ ?_
    simp only [natural_Add_go]
    refine ev_f (by simp; omega) (ev_one (gi_nat (by omega)) ?_)
    have hia : a.length = i := by omega
    have h1 := natural_trim_ev (dig_set hr a.length (x := c) (by omega)) (by simp; omega)
    have h2 := hz a.length (by omega) (by omega)
    rw [List.getElem?_eq_getElem (by omega)] at h2
    rw [val_set (by omega), Option.some.inj h2, Int.sub_zero, hia, hv, List.take_of_length_le (Nat.le_of_eq hia)] at h1
    rw [Int.toNat_natCast, hia]
    exact ev_bind h1 (ev_some _)
  | m + 1, i, c, r, hi, hb, hc, hr, hl, hv, hz => by
    refine ev_succ ?_
    simp only [natural_Add_go]
    have hia : i < a.length := by omega
    have hx := dig_get ha hia
    refine ev_t (by simp; omega) (ev_one (gi_nat hia) (ev_bind (natural_Add_1_ev hx (by decide) (by omega)) (ev_one (gi_nat (by omega)) ?_)))
    simp only [Int.add_zero]
    rw [Int.toNat_natCast, w_i64 (by omega), show (i : Int) + 1 = ((i + 1 : Nat) : Int) by omega]
    refine natural_Add_v2 ha hs m (i + 1) _ _ (by omega) (by omega) (by omega) (dig_set hr i (by omega)) (by simpa using hl) ?_ (fun j hj hjl => ?_)
    · have h2 := hz i (by omega) (by omega)
      rw [List.getElem?_eq_getElem (by omega)] at h2
      rw [val_set (by omega), Option.some.inj h2, val_take_succ hia, Int.pow_succ]
      have e := Int.emod_add_mul_ediv (a[i] + c) 4294967296
      generalize (a[i] + c) % 4294967296 = p at *
      generalize (a[i] + c) / 4294967296 = q at *
      generalize (4294967296 : Int) ^ i = A at *
      grind
    · rw [List.getElem?_set_ne (by omega)]; exact hz j (by omega) (by simpa using hjl)

theorem natural_Add_v1 {a b : List Int} (ha : Dig a) (hb : Dig b) (hab : b.length ≤ a.length) (hs : a.length < 4611686018427387900) : ∀ (m i : Nat) (c : Int) (r : List Int), i + m = b.length → (c = 0 ∨ c = 1) → Dig r → r.length = a.length + 1 →
    val r + 4294967296 ^ i * c = val (a.take i) + val (b.take i) → (∀ j, i ≤ j → j < r.length → r[j]? = some 0) → Ev (fun K => natural_Add_go K (.c1 c r a b b b.length i)) (digs (val a + val b))
  | 0, i, c, r, hi, hc, hr, hl, hv, hz => by
    refine ev_succ ?_
    simp only [natural_Add_go]
    refine ev_f (by simp; omega) ?_
    rw [List.take_of_length_le (l := b) (by omega)] at hv
    have hbi : b.length = i := by omega
    rw [hbi]
    exact natural_Add_v2 ha hs (a.length - i) i c r (by omega) (by omega) hc hr hl hv hz
  | m + 1, i, c, r, hi, hc, hr, hl, hv, hz => by
    refine ev_succ ?_
    simp only [natural_Add_go]
    have hib : i < b.length := by omega
    have hia : i < a.length := by omega
    have hx := dig_get ha hia
    have hy := dig_get hb hib
    refine ev_t (by simp; omega) (ev_one (gi_nat hib) (ev_one (gi_nat hia) (ev_bind (natural_Add_1_ev hx hy (by omega)) (ev_one (gi_nat (by omega)) ?_))))
    simp only
    rw [Int.toNat_natCast, w_i64 (by omega), show (i : Int) + 1 = ((i + 1 : Nat) : Int) by omega]
    refine natural_Add_v1 ha hb hab hs m (i + 1) _ _ (by omega) (by omega) (dig_set hr i (by omega)) (by simpa using hl) ?_ (fun j hj hjl => ?_)
    · have h2 := hz i (by omega) (by omega)
      rw [List.getElem?_eq_getElem (by omega)] at h2
      rw [val_set (by omega), Option.some.inj h2, val_take_succ hia, val_take_succ hib, Int.pow_succ]
      have e := Int.emod_add_mul_ediv (a[i] + b[i] + c) 4294967296
      generalize (a[i] + b[i] + c) % 4294967296 = p at *
      generalize (a[i] + b[i] + c) / 4294967296 = q at *
      generalize (4294967296 : Int) ^ i = A at *
      grind
    · rw [List.getElem?_set_ne (by omega)]; exact hz j (by omega) (by simpa using hjl)

theorem natural_Add_ev {a b : List Int} (ha : Dig a) (hb : Dig b) (hs : a.length ≤ 34359738360) (ht : b.length ≤ 34359738360) : Ev (fun K => natural_Add K a b) (digs (val a + val b)) := by
  refine ev_succ ?_
  simp only [natural_Add, natural_Add_go]
  have va := val_digs (val_nonneg ha)
  have vb := val_digs (val_nonneg hb)
  have la := digs_len_le' ha
  have lb := digs_len_le' hb
  refine ev_bind (natural_trim_ev ha (by omega)) (ev_bind (natural_trim_ev hb (by omega)) (ev_if (fun h => ?_) (fun h => ?_)))
  · have h := of_decide_eq_true h
    rw [w_i64 (by omega)]
    refine ev_gd (by omega) ?_
    have := natural_Add_v1 (dig_digs (val b)) (dig_digs (val a)) (by omega) (by omega) _ 0 0 (List.replicate ((digs (val b)).length + 1) 0) (Nat.zero_add _) (.inl rfl) (dig_rep (by decide)) (by simp) (by rw [val_rep]; simp) (fun j _ hj => by rw [List.getElem?_replicate, if_pos (by simpa using hj)])
    rw [va, vb, Int.add_comm] at this
    rw [show (((digs (val b)).length : Int) + 1).toNat = (digs (val b)).length + 1 by omega]
    exact this
  · have h := of_decide_eq_false h
    rw [w_i64 (by omega)]
    refine ev_gd (by omega) ?_
    have := natural_Add_v1 (dig_digs (val a)) (dig_digs (val b)) (by omega) (by omega) _ 0 0 (List.replicate ((digs (val a)).length + 1) 0) (Nat.zero_add _) (.inl rfl) (dig_rep (by decide)) (by simp) (by rw [val_rep]; simp) (fun j _ hj => by rw [List.getElem?_replicate, if_pos (by simpa using hj)])
    rw [va, vb] at this
    rw [show (((digs (val a)).length : Int) + 1).toNat = (digs (val a)).length + 1 by omega]
    exact this

/- Words as bits. -/
def wd (x : Int) : BitVec 32 := BitVec.ofInt 32 x
theorem wd_nat {x : Int} (h : 0 ≤ x ∧ x < 4294967296) : (wd x).toNat = x.toNat := by
  unfold wd; rw [BitVec.toNat_ofInt]; omega
theorem u32_bv (v : BitVec 32) : IntKind.u32.wrap (v.toNat : Int) = v.toNat := by
  rw [w_u32]; have := v.isLt; omega
theorem bits_or {x y : Int} : bits .or .u32 x y = ((wd x ||| wd y).toNat : Int) := u32_bv _
theorem bits_and {x y : Int} : bits .and .u32 x y = ((wd x &&& wd y).toNat : Int) := u32_bv _
theorem bits_xor {x y : Int} : bits .xor .u32 x y = ((wd x ^^^ wd y).toNat : Int) := u32_bv _
theorem wd_toNat (v : BitVec 32) : wd (v.toNat : Int) = v := by
  apply BitVec.eq_of_toNat_eq
  rw [wd_nat ⟨by omega, by have := v.isLt; omega⟩]; omega
theorem bits_or_add {x y : Int} {s : Nat} (hx : 0 ≤ x ∧ x < 4294967296) (hd : x % 2 ^ s = 0) (hy : 0 ≤ y ∧ y < 2 ^ s) (hs : s < 32) : bits .or .u32 x y = x + y := by
  have hp : (2 : Int) ^ s ≤ 2 ^ 31 := by
    have : (2 : Nat) ^ s ≤ 2 ^ 31 := Nat.pow_le_pow_right (by decide) (by omega)
    exact_mod_cast this
  rw [bits_or, BitVec.toNat_or, wd_nat hx, wd_nat (by omega)]
  have h1 : (x.toNat : Int) = x := by omega
  have h2 : (y.toNat : Int) = y := by omega
  have h3 : x.toNat = 2 ^ s * (x.toNat / 2 ^ s) := by
    have h4 : x.toNat % 2 ^ s = 0 := by
      have : ((x.toNat % 2 ^ s : Nat) : Int) = 0 := by rw [Int.natCast_emod, h1]; simpa using hd
      exact_mod_cast this
    have := Nat.div_add_mod x.toNat (2 ^ s)
    omega
  have h5 : y.toNat < 2 ^ s := by
    have : ((y.toNat : Nat) : Int) < ((2 ^ s : Nat) : Int) := by rw [h2]; simpa using hy.2
    exact_mod_cast this
  rw [h3, ← Nat.two_pow_add_eq_or_of_lt h5]
  rw [← h3]; omega
theorem top_bit (v : BitVec 32) : ((v.toNat : Int) / 2147483648) = if v.msb then 1 else 0 := by
  rw [BitVec.msb_eq_decide]
  have := v.isLt
  by_cases h : 2 ^ (32 - 1) ≤ v.toNat
  · simp only [h, decide_true, if_true]; omega
  · simp only [h, decide_false]; simp; omega
theorem wd_msb {x : Int} (h : 0 ≤ x ∧ x < 4294967296) : (wd x).msb = decide (2147483648 ≤ x) := by
  rw [BitVec.msb_eq_decide, wd_nat h, decide_eq_decide]; omega

theorem math_bits_Sub32_ev {x y b : Int} (hx : 0 ≤ x ∧ x < 4294967296) (hy : 0 ≤ y ∧ y < 4294967296) (hb : b = 0 ∨ b = 1) :
    Ev (fun K => math_bits_Sub32 K x y b) ((x - y - b) % 4294967296, if x - y - b < 0 then 1 else 0) := by
  refine ev_succ ?_
  simp only [math_bits_Sub32, math_bits_Sub32_go, w_u32]
  rw [show ((x - y) % 4294967296 - b) % 4294967296 = (x - y - b) % 4294967296 by omega]
  refine ev_eq (ev_some _) ?_
  congr 1
  have hd : 0 ≤ (x - y - b) % 4294967296 ∧ (x - y - b) % 4294967296 < 4294967296 := by omega
  generalize hdd : (x - y - b) % 4294967296 = d at *
  rw [bits_or, bits_and, bits_and, bits_xor, bits_xor, bits_xor, wd_toNat, wd_toNat, wd_toNat, wd_toNat, wd_toNat, shr_le (by decide) (by decide)]
  show _ / 2147483648 = _
  rw [top_bit]
  have hall : ∀ v : BitVec 32, wd (if IntKind.signed .u32 then -1 else IntKind.max .u32) ^^^ v = ~~~v := by
    intro v
    have : wd (if IntKind.signed .u32 then -1 else IntKind.max .u32) = BitVec.allOnes 32 := by decide
    rw [this, BitVec.allOnes_xor]
  simp only [hall, BitVec.msb_or, BitVec.msb_and, BitVec.msb_not, BitVec.msb_xor, wd_msb hx, wd_msb hy, wd_msb hd]
  by_cases h1 : 2147483648 ≤ x <;> by_cases h2 : 2147483648 ≤ y <;> by_cases h3 : 2147483648 ≤ d <;> simp [h1, h2, h3] <;> omega

theorem natural_Sub_v1 {a b : List Int} (ha : Dig a) (hb : Dig b) (hba : val b ≤ val a) (hs : a.length < 4611686018427387904) (hlb : b.length ≤ a.length) : ∀ (m i : Nat) (c : Int) (r : List Int), i + m = a.length → (c = 0 ∨ c = 1) → Dig r → r.length = a.length →
    val r - 4294967296 ^ i * c = val (a.take i) - val (b.take i) → (∀ j, i ≤ j → j < r.length → r[j]? = some 0) → Ev (fun K => natural_Sub_go K (.c1 r b c a a.length i)) (digs (val a - val b), true)
  | 0, i, c, r, hi, hc, hr, hl, hv, hz => by
    refine ev_succ ?_
    simp only [natural_Sub_go]
    refine ev_f (by simp; omega) ?_
    have h1 := natural_trim_ev hr (by omega)
    rw [List.take_of_length_le (by omega), List.take_of_length_le (by omega)] at hv
    have h2 := val_lt hr
    rw [hl, show a.length = i by omega] at h2
    have hc0 : c = 0 := by
      rcases hc with h | h
      · exact h
      · subst h; omega
    subst hc0
    rw [Int.mul_zero, Int.sub_zero] at hv
    rw [hv] at h1
    exact ev_bind h1 (ev_some _)
  | m + 1, i, c, r, hi, hc, hr, hl, hv, hz => by
    refine ev_succ ?_
    simp only [natural_Sub_go]
    have hia : i < a.length := by omega
    have hx := dig_get ha hia
    refine ev_t (by simp; omega) (ev_one (gi_nat hia) ?_)
    have next : ∀ y : Int, 0 ≤ y ∧ y < 4294967296 → val (b.take (i + 1)) = val (b.take i) + 4294967296 ^ i * y →
        Ev (fun K => natural_Sub_go K (.c2 (r.set i ((a[i] - y - c) % 4294967296)) b (if a[i] - y - c < 0 then 1 else 0) a a.length i)) (digs (val a - val b), true) := by
      intro y hy he
      refine ev_succ ?_
      simp only [natural_Sub_go]
      rw [w_i64 (by omega), show (i : Int) + 1 = ((i + 1 : Nat) : Int) by omega]
      refine natural_Sub_v1 ha hb hba hs hlb m (i + 1) _ _ (by omega) (by split <;> omega) (dig_set hr i (by omega)) (by simpa using hl) ?_ (fun j hj hjl => ?_)
      · have h2 := hz i (by omega) (by omega)
        rw [List.getElem?_eq_getElem (by omega)] at h2
        rw [val_set (by omega), Option.some.inj h2, val_take_succ hia, he, Int.pow_succ]
        have e : (a[i] - y - c) % 4294967296 - 4294967296 * (if a[i] - y - c < 0 then 1 else 0) = a[i] - y - c := by split <;> omega
        generalize (a[i] - y - c) % 4294967296 = p at *
        generalize (if a[i] - y - c < 0 then (1 : Int) else 0) = q at *
        generalize (4294967296 : Int) ^ i = A at *
        grind
      · rw [List.getElem?_set_ne (by omega)]; exact hz j (by omega) (by simpa using hjl)
    by_cases hib : i < b.length
    · refine ev_t (by simpa using hib) (ev_one (gi_nat hib) (ev_bind (math_bits_Sub32_ev hx (dig_get hb hib) hc) (ev_one (gi_nat (by omega)) ?_)))
      rw [Int.toNat_natCast]
      exact next _ (dig_get hb hib) (val_take_succ hib)
    · refine ev_f (by simpa using hib) (ev_bind (math_bits_Sub32_ev hx (by decide) hc) (ev_one (gi_nat (by omega)) ?_))
      rw [Int.toNat_natCast]
      exact next 0 (by decide) (by rw [List.take_of_length_le (by omega), List.take_of_length_le (by omega)]; simp)

theorem natural_Sub_ev {a b : List Int} (ha : Dig a) (hb : Dig b) (hs : a.length ≤ 34359738360) (ht : b.length ≤ 34359738360) : Ev (fun K => natural_Sub K a b) (if val a < val b then ([], false) else (digs (val a - val b), true)) := by
  refine ev_succ ?_
  simp only [natural_Sub, natural_Sub_go]
  have va := val_digs (val_nonneg ha)
  have vb := val_digs (val_nonneg hb)
  have la := digs_len_le' ha
  have lb := digs_len_le' hb
  have hc := cmpI_cases (val a) (val b)
  refine ev_bind (natural_Cmp_ev ha hb (by omega) (by omega)) ?_
  by_cases h : val a < val b
  · rw [if_pos h]
    exact ev_t (by simp; omega) (ev_some _)
  · rw [if_neg h]
    refine ev_f (by simp; omega) (ev_bind (natural_trim_ev ha (by omega)) (ev_bind (natural_trim_ev hb (by omega)) (ev_gd (by omega) ?_)))
    have hlb : (digs (val b)).length ≤ (digs (val a)).length := by
      apply Nat.le_of_not_lt; intro hlt
      have := val_lt_of_len (can_digs (val a)) (can_digs (val b)) hlt
      omega
    have := natural_Sub_v1 (dig_digs (val a)) (dig_digs (val b)) (by omega) (by omega) hlb _ 0 0 (List.replicate (digs (val a)).length 0) (Nat.zero_add _) (.inl rfl) (dig_rep (by decide)) (by simp) (by rw [val_rep]; simp) (fun j _ hj => by rw [List.getElem?_replicate, if_pos (by simpa using hj)])
    rw [va, vb] at this
    rw [Int.toNat_natCast]
    exact this

theorem integer_Add_ev {a b : integer_Int} (ha : Dig a.Abs) (hb : Dig b.Abs) (hs : a.Abs.length ≤ 34359738360) (ht : b.Abs.length ≤ 34359738360) : Ev (fun K => integer_Add K a b) (mkI (ival a + ival b)) := by
  refine ev_succ ?_
  simp only [integer_Add, integer_Add_go]
  have na := val_nonneg ha
  have nb := val_nonneg hb
  obtain ⟨s, a⟩ := a
  obtain ⟨t, b⟩ := b
  simp only at ha hb hs ht na nb ⊢
  unfold ival
  by_cases h : s = t
  · subst h
    refine ev_t (by simp) (ev_bind (natural_Add_ev ha hb hs ht) (ev_bind (ev_eq (integer_made_ev s (by omega)) ?_) (ev_some _)))
    congr 1; cases s <;> simp; omega
  · refine ev_f (by simpa using h) (ev_bind (natural_Sub_ev ha hb hs ht) ?_)
    have e : s = !t := by cases s <;> cases t <;> simp at h ⊢
    by_cases hlt : val a < val b
    · simp only [if_pos hlt]
      have := natural_Sub_ev hb ha ht hs
      rw [if_neg (by omega)] at this
      refine ev_f rfl (ev_bind this (ev_bind (ev_eq (integer_made_ev t (by omega)) ?_) (ev_some _)))
      congr 1; subst e; cases t <;> simp <;> omega
    · simp only [if_neg hlt]
      refine ev_t rfl (ev_bind (ev_eq (integer_made_ev s (by omega)) ?_) (ev_some _))
      congr 1; subst e; cases t <;> simp <;> omega

theorem shl_digit {x l : Int} {s : Nat} (hx : 0 ≤ x ∧ x < 4294967296) (hl : 0 ≤ l ∧ l < 2 ^ s) (hs : s < 32) :
    ∃ d q : Int, bits .or .u32 (shlOp .u32 x s) l = d ∧ shrOp .u32 x (32 - s) = q ∧ (0 ≤ d ∧ d < 4294967296) ∧ (0 ≤ q ∧ q < 2 ^ s) ∧ d + 4294967296 * q = x * 2 ^ s + l := by
  rw [shl_le (by omega) (by show (s : Int) ≤ 32; omega), shr_le (by omega) (by show (32 : Int) - s ≤ 32; omega), w_u32, Int.toNat_natCast, show ((32 : Int) - s).toNat = 32 - s by omega]
  have hP : (0 : Int) < 2 ^ s := Int.pow_pos (by decide)
  have hQ : (0 : Int) < 2 ^ (32 - s) := Int.pow_pos (by decide)
  have hPQ : (2 : Int) ^ (32 - s) * 2 ^ s = 4294967296 := by rw [← Int.pow_add, show 32 - s + s = 32 by omega]; rfl
  have hmul : x * 2 ^ s % 4294967296 = x % 2 ^ (32 - s) * 2 ^ s := by rw [← hPQ, Int.mul_comm x, Int.mul_comm (2 ^ (32 - s)), Int.mul_emod_mul_of_pos _ _ hP, Int.mul_comm]
  have hm1 : 0 ≤ x % 2 ^ (32 - s) := Int.emod_nonneg _ (by omega)
  have hm2 : x % 2 ^ (32 - s) < 2 ^ (32 - s) := Int.emod_lt_of_pos _ hQ
  have hd1 : x % 2 ^ (32 - s) * 2 ^ s + 2 ^ s ≤ 4294967296 := by
    have := Int.mul_le_mul_of_nonneg_right (show x % 2 ^ (32 - s) + 1 ≤ 2 ^ (32 - s) by omega) (Int.le_of_lt hP)
    rw [hPQ, Int.add_mul, Int.one_mul] at this; exact this
  have hd0 : 0 ≤ x % 2 ^ (32 - s) * 2 ^ s := Int.mul_nonneg hm1 (Int.le_of_lt hP)
  rw [hmul, bits_or_add (s := s) ⟨hd0, by omega⟩ (Int.mul_emod_left _ _) hl hs]
  have hdiv := Int.emod_add_mul_ediv x (2 ^ (32 - s))
  refine ⟨_, _, rfl, rfl, ⟨by omega, by omega⟩, ⟨Int.ediv_nonneg hx.1 (by omega), ?_⟩, ?_⟩
  · exact Int.ediv_lt_of_lt_mul hQ (by rw [Int.mul_comm, hPQ]; exact hx.2)
  · rw [← hPQ]
    generalize x / 2 ^ (32 - s) = q at *
    generalize x % 2 ^ (32 - s) = r at *
    generalize (2 : Int) ^ s = P at *
    generalize (2 : Int) ^ (32 - s) = Q at *
    rw [← hdiv]
    grind

theorem natural_Shl_v1 {r0 : List Int} (h0 : Dig r0) {s : Nat} (hs1 : 0 < s) (hs : s < 32) (hl : r0.length < 4611686018427387904) (hlast : val r0 * 2 ^ s < 4294967296 ^ r0.length) : ∀ (m i : Nat) (l : Int) (r : List Int), i + m = r0.length → (0 ≤ l ∧ l < 2 ^ s) → Dig r → r.length = r0.length →
    val r + 4294967296 ^ i * l = 2 ^ s * val (r0.take i) + 4294967296 ^ i * val (r0.drop i) → (∀ j, i ≤ j → r[j]? = r0[j]?) → Ev (fun K => natural_Shl_go K (.c1 r s l i)) (digs (val r0 * 2 ^ s))
  | 0, i, l, r, hi, hlo, hr, hrl, hv, hz => by
    refine ev_succ ?_
    simp only [natural_Shl_go]
    refine ev_f (by simp; omega) ?_
    have h1 := natural_trim_ev hr (by omega)
    rw [List.take_of_length_le (by omega), List.drop_of_length_le (by omega), val_nil, Int.mul_zero, Int.add_zero, Int.mul_comm (2 ^ s)] at hv
    have hp := bpow_pos i
    have hn := val_nonneg hr
    rw [show r0.length = i by omega] at hlast
    have hl0 : l = 0 := by
      apply Classical.byContradiction; intro hne
      have := Int.mul_le_mul_of_nonneg_left (show 1 ≤ l by omega) (Int.le_of_lt hp)
      omega
    subst hl0
    rw [Int.mul_zero, Int.add_zero] at hv
    rw [hv] at h1
    exact ev_bind h1 (ev_some _)
  | m + 1, i, l, r, hi, hlo, hr, hrl, hv, hz => by
    refine ev_succ ?_
    simp only [natural_Shl_go]
    have hir : i < r.length := by omega
    have hi0 : i < r0.length := by omega
    have hx := dig_get hr hir
    obtain ⟨d, q, e1, e2, hd, hq, e3⟩ := shl_digit hx hlo hs
    refine ev_t (by simp; omega) (ev_one (gi_nat hir) (ev_gd (by omega) (ev_one (gi_nat hir) (ev_gd (by rw [w_i64 (by omega)]; omega) ?_))))
    rw [w_i64 (x := (32 : Int) - s) (by omega), e1, e2, Int.toNat_natCast, w_i64 (by omega), show (i : Int) + 1 = ((i + 1 : Nat) : Int) by omega]
    refine natural_Shl_v1 h0 hs1 hs hl hlast m (i + 1) q _ (by omega) hq (dig_set hr i hd) (by simpa using hrl) ?_ (fun j hj => ?_)
    · have e4 : r[i] = r0[i] := by
        have := hz i (Nat.le_refl _)
        rw [List.getElem?_eq_getElem hir, List.getElem?_eq_getElem hi0] at this
        exact Option.some.inj this
      rw [val_set hir, val_take_succ hi0, Int.pow_succ]
      rw [List.drop_eq_getElem_cons hi0, val_cons] at hv
      rw [e4] at e3 ⊢
      generalize (4294967296 : Int) ^ i = A at *
      generalize (2 : Int) ^ s = P at *
      grind
    · rw [List.getElem?_set_ne (by omega)]; exact hz j (by omega)

theorem pow2_32 (n : Nat) : (2 : Int) ^ n = 2 ^ (n % 32) * 4294967296 ^ (n / 32) := by
  have e : (4294967296 : Int) = 2 ^ 32 := by decide
  rw [e, ← Int.pow_mul, ← Int.pow_add]
  congr 1; omega

theorem natural_Shl_ev {a : List Int} (ha : Dig a) {n : Nat} (hn : n ≤ 16777216) (hs : a.length ≤ 34359738360 - 524288) : Ev (fun K => natural_Shl K a n) (digs (val a * 2 ^ n)) := by
  refine ev_succ ?_
  simp only [natural_Shl, natural_Shl_go]
  have va := val_digs (val_nonneg ha)
  have la := digs_len_le' ha
  refine ev_bind (natural_trim_ev ha (by omega)) ?_
  by_cases h1 : digs (val a) = []
  · refine ev_t (by simp [h1]) (ev_eq (ev_some _) ?_)
    rw [(digs_nil_iff (val_nonneg ha)).1 h1, Int.zero_mul, digs_zero]
  · refine ev_f (by simpa using h1) ?_
    have e0 : min (max (n : Int) 0) 16777216 = n := by omega
    have e1 : IntKind.i64.wrap (Int.tdiv (n : Int) 32) = ((n / 32 : Nat) : Int) := by
      rw [Int.tdiv_eq_ediv_of_nonneg (by omega), w_i64 (by omega)]; omega
    have e2 : Int.tmod (n : Int) 32 = ((n % 32 : Nat) : Int) := by
      rw [Int.tmod_eq_emod_of_nonneg (by omega)]; omega
    rw [e0, e1, e2, w_i64 (x := ((n / 32 : Nat) : Int) + ((digs (val a)).length : Int)) (by omega), w_i64 (by omega),
      show ((n / 32 : Nat) : Int) + ((digs (val a)).length : Int) + 1 = ((n / 32 + (digs (val a)).length + 1 : Nat) : Int) by omega]
    simp only [Int.toNat_natCast, List.length_replicate, Nat.zero_add]
    refine ev_gd (by omega) (ev_gd (by omega) (ev_gd (by omega) ?_))
    have hcp : copied (List.replicate (n / 32 + (digs (val a)).length + 1) (0 : Int)) (n / 32) (n / 32 + (digs (val a)).length + 1 - n / 32) (digs (val a)) = List.replicate (n / 32) 0 ++ digs (val a) ++ [0] := by
      unfold copied
      rw [if_pos (by simp; omega), List.take_of_length_le (by omega)]
      unfold splice
      rw [List.take_replicate, List.drop_replicate, Nat.min_eq_left (by omega), show n / 32 + (digs (val a)).length + 1 - (n / 32 + (digs (val a)).length) = 1 by omega]
      rfl
    rw [hcp]
    have hd : Dig (List.replicate (n / 32) 0 ++ digs (val a) ++ [0]) := dig_append.2 ⟨dig_append.2 ⟨dig_rep (by decide), dig_digs _⟩, dig_cons.2 ⟨by decide, dig_nil⟩⟩
    have hv : val (List.replicate (n / 32) 0 ++ digs (val a) ++ [0]) = val a * 4294967296 ^ (n / 32) := by
      rw [val_append, val_append, val_rep, va]; simp [Int.mul_comm]
    have hl : (List.replicate (n / 32) 0 ++ digs (val a) ++ [0]).length = n / 32 + (digs (val a)).length + 1 := by simp; omega
    have hp : val a * 4294967296 ^ (n / 32) * 2 ^ (n % 32) = val a * 2 ^ n := by rw [pow2_32 n, Int.mul_assoc]; congr 1; rw [Int.mul_comm]
    by_cases h2 : n % 32 = 0
    · refine ev_f (by simp [h2]) ?_
      have := natural_trim_ev hd (by omega)
      rw [hv] at this
      rw [h2, Int.pow_zero, Int.mul_one] at hp
      rw [hp] at this
      exact ev_bind this (ev_some _)
    · refine ev_t (by simp; omega) ?_
      have hlast : val (List.replicate (n / 32) 0 ++ digs (val a) ++ [0]) * 2 ^ (n % 32) < 4294967296 ^ (List.replicate (n / 32) 0 ++ digs (val a) ++ [0]).length := by
        rw [hv, hl, Int.pow_succ, Int.pow_add]
        have h3 := val_lt (dig_digs (val a))
        rw [va] at h3
        have h4 : (2 : Int) ^ (n % 32) < 4294967296 := by
          have : (2 : Nat) ^ (n % 32) ≤ 2 ^ 31 := Nat.pow_le_pow_right (by decide) (by omega)
          have : ((2 ^ (n % 32) : Nat) : Int) ≤ ((2 ^ 31 : Nat) : Int) := by exact_mod_cast this
          simp at this; omega
        have h5 := bpow_pos (n / 32)
        have h6 : (0 : Int) < 2 ^ (n % 32) := Int.pow_pos (by decide)
        have h7 := Int.mul_lt_mul_of_pos_left h3 h5
        have h8 := val_nonneg ha
        have h9 : 0 ≤ val a * 4294967296 ^ (n / 32) := Int.mul_nonneg h8 (Int.le_of_lt h5)
        calc val a * 4294967296 ^ (n / 32) * 2 ^ (n % 32) ≤ val a * 4294967296 ^ (n / 32) * 4294967296 := Int.mul_le_mul_of_nonneg_left (Int.le_of_lt h4) h9
          _ < 4294967296 ^ (n / 32) * 4294967296 ^ (digs (val a)).length * 4294967296 := Int.mul_lt_mul_of_pos_right (by rw [Int.mul_comm (val a)]; exact h7) (by decide)
      have hlen : n / 32 + ((digs (val a)).length + 1) = (List.replicate (n / 32) 0 ++ digs (val a) ++ [0]).length := by rw [hl]; omega
      have := natural_Shl_v1 hd (s := n % 32) (by omega) (by omega) (by omega) hlast _ (n / 32) 0 _ hlen ⟨Int.le_refl 0, Int.pow_pos (by decide)⟩ hd rfl (by
        rw [Int.mul_zero, Int.add_zero, List.append_assoc, List.take_left' (by simp), List.drop_left' (by simp), val_rep, Int.mul_zero, Int.zero_add, val_append, val_rep]
        simp) (fun _ _ => rfl)
      rw [hv, hp] at this
      exact this

theorem integer_Shl_ev {a : integer_Int} (ha : Dig a.Abs) {n : Nat} (hn : n ≤ 16777216) (hs : a.Abs.length ≤ 34359738360 - 524288) : Ev (fun K => integer_Shl K a n) (mkI (ival a * 2 ^ n)) := by
  refine ev_succ ?_
  simp only [integer_Shl, integer_Shl_go]
  refine ev_bind (natural_Shl_ev ha hn hs) (ev_bind (ev_eq (integer_made_ev _ (Int.mul_nonneg (val_nonneg ha) (Int.le_of_lt (Int.pow_pos (by decide))))) ?_) (ev_some _))
  congr 1
  unfold ival
  cases a.Neg <;> simp [Int.neg_mul]
end Go.Am.X
namespace Go.Am.X
open Go.Proofs.Try (prog)


inductive math_bits_Len64_Cut where
  | c0 (x : Int)

def math_bits_Len64_go : Nat → math_bits_Len64_Cut → Option Int
  | 0, _ => none
  | _ + 1, .c0 x =>
    bif (decide ((4294967296 : Int) ≤ x)) then
      bif (decide ((65536 : Int) ≤ (shrOp .u64 x (32 : Int)))) then
        bif (decide ((256 : Int) ≤ (shrOp .u64 (shrOp .u64 x (32 : Int)) (16 : Int)))) then
          (gi strtab_256_325 (IntKind.u8.wrap (shrOp .u64 (shrOp .u64 (shrOp .u64 x (32 : Int)) (16 : Int)) (8 : Int)))).bind fun x4 =>
          some (IntKind.i64.wrap ((IntKind.i64.wrap ((IntKind.i64.wrap ((32 : Int) + (16 : Int))) + (8 : Int))) + (IntKind.i64.wrap x4)))
        else
          (gi strtab_256_325 (IntKind.u8.wrap (shrOp .u64 (shrOp .u64 x (32 : Int)) (16 : Int)))).bind fun x4 =>
          some (IntKind.i64.wrap ((IntKind.i64.wrap ((32 : Int) + (16 : Int))) + (IntKind.i64.wrap x4)))
      else
        bif (decide ((256 : Int) ≤ (shrOp .u64 x (32 : Int)))) then
          (gi strtab_256_325 (IntKind.u8.wrap (shrOp .u64 (shrOp .u64 x (32 : Int)) (8 : Int)))).bind fun x4 =>
          some (IntKind.i64.wrap ((IntKind.i64.wrap ((32 : Int) + (8 : Int))) + (IntKind.i64.wrap x4)))
        else
          (gi strtab_256_325 (IntKind.u8.wrap (shrOp .u64 x (32 : Int)))).bind fun x4 =>
          some (IntKind.i64.wrap ((32 : Int) + (IntKind.i64.wrap x4)))
    else
      bif (decide ((65536 : Int) ≤ x)) then
        bif (decide ((256 : Int) ≤ (shrOp .u64 x (16 : Int)))) then
          (gi strtab_256_325 (IntKind.u8.wrap (shrOp .u64 (shrOp .u64 x (16 : Int)) (8 : Int)))).bind fun x4 =>
          some (IntKind.i64.wrap ((IntKind.i64.wrap ((IntKind.i64.wrap ((0 : Int) + (16 : Int))) + (8 : Int))) + (IntKind.i64.wrap x4)))
        else
          (gi strtab_256_325 (IntKind.u8.wrap (shrOp .u64 x (16 : Int)))).bind fun x4 =>
          some (IntKind.i64.wrap ((IntKind.i64.wrap ((0 : Int) + (16 : Int))) + (IntKind.i64.wrap x4)))
      else
        bif (decide ((256 : Int) ≤ x)) then
          (gi strtab_256_325 (IntKind.u8.wrap (shrOp .u64 x (8 : Int)))).bind fun x4 =>
          some (IntKind.i64.wrap ((IntKind.i64.wrap ((0 : Int) + (8 : Int))) + (IntKind.i64.wrap x4)))
        else
          (gi strtab_256_325 (IntKind.u8.wrap x)).bind fun x4 =>
          some (IntKind.i64.wrap ((0 : Int) + (IntKind.i64.wrap x4)))

def math_bits_Len64 (K : Nat) (x : Int) : Option Int := math_bits_Len64_go K (.c0 x)

noncomputable def math_bits_Len64_body : Code := bodyOf prog 197
noncomputable def math_bits_Len64_pos : math_bits_Len64_Cut → List Fr
  | .c0 .. => [.code math_bits_Len64_body]
def math_bits_Len64_st : math_bits_Len64_Cut → St
  | .c0 x => St.init [(ti .u64 x)]

def math_bits_Len64_S (cx : Cx) (c : math_bits_Len64_Cut) (r : Int) : Prop := Wk prog cx (EndsF prog 197 [[0]] (ti .i64 r)) (math_bits_Len64_pos c) .normal (math_bits_Len64_st c)
abbrev math_bits_Len64_H (K : Nat) : Prop := ∀ c r, math_bits_Len64_go K c = some r → ∀ cx : Cx, cx.n = 25 → math_bits_Len64_S cx c r

theorem math_bits_Len64_c0 {K} (_ : math_bits_Len64_H K) {cx} (hn : cx.n = 25) {x} {r} (h : math_bits_Len64_go (K + 1) (.c0 x) = some r) : math_bits_Len64_S cx (.c0 x) r := by
  rw [math_bits_Len64_go] at h
  rcases bcases h with ⟨h1, h⟩ | ⟨h1, h⟩
  · skip
    rcases bcases h with ⟨h2, h⟩ | ⟨h2, h⟩
    · skip
      rcases bcases h with ⟨h3, h⟩ | ⟨h3, h⟩
      · skip
        obtain ⟨x4, h5, h⟩ := obind h
        have h := Option.some.inj h; subst h
        exact wk_ret (fuel := 144) [.reg [oo], .reg [oo, oo], .br true, .reg [oo, oo, oo], .reg [oo], .reg [oo, oo], .br true, .reg [oo, oo, oo], .reg [oo, oo, oo], .reg [oo, oo], .br true, .reg [oo, oo, oo], .reg [oo, oo, oo], .reg [oo, oo, oo, .op (.sx x4), oo, oo, oo]] _ hn (by kernel_rfl) (aC h1 <| aC h2 <| aC h3 <| aC (gi_nn h5) <| aC (gi_some h5 : strtab_256_325[(IntKind.u8.wrap (shrOp .u64 (shrOp .u64 (shrOp .u64 x (32 : Int)) (16 : Int)) (8 : Int))).toNat]? = some x4) <| aN)
      · skip
        obtain ⟨x4, h5, h⟩ := obind h
        have h := Option.some.inj h; subst h
        exact wk_ret (fuel := 132) [.reg [oo], .reg [oo, oo], .br true, .reg [oo, oo, oo], .reg [oo], .reg [oo, oo], .br true, .reg [oo, oo, oo], .reg [oo, oo, oo], .reg [oo, oo], .br false, .reg [oo, oo, oo, .op (.sx x4), oo, oo, oo]] _ hn (by kernel_rfl) (aC h1 <| aC h2 <| aC h3 <| aC (gi_nn h5) <| aC (gi_some h5 : strtab_256_325[(IntKind.u8.wrap (shrOp .u64 (shrOp .u64 x (32 : Int)) (16 : Int))).toNat]? = some x4) <| aN)
    · skip
      rcases bcases h with ⟨h3, h⟩ | ⟨h3, h⟩
      · skip
        obtain ⟨x4, h5, h⟩ := obind h
        have h := Option.some.inj h; subst h
        exact wk_ret (fuel := 132) [.reg [oo], .reg [oo, oo], .br true, .reg [oo, oo, oo], .reg [oo], .reg [oo, oo], .br false, .reg [oo, oo], .br true, .reg [oo, oo, oo], .reg [oo, oo, oo], .reg [oo, oo, oo, .op (.sx x4), oo, oo, oo]] _ hn (by kernel_rfl) (aC h1 <| aC h2 <| aC h3 <| aC (gi_nn h5) <| aC (gi_some h5 : strtab_256_325[(IntKind.u8.wrap (shrOp .u64 (shrOp .u64 x (32 : Int)) (8 : Int))).toNat]? = some x4) <| aN)
      · skip
        obtain ⟨x4, h5, h⟩ := obind h
        have h := Option.some.inj h; subst h
        exact wk_ret (fuel := 120) [.reg [oo], .reg [oo, oo], .br true, .reg [oo, oo, oo], .reg [oo], .reg [oo, oo], .br false, .reg [oo, oo], .br false, .reg [oo, oo, oo, .op (.sx x4), oo, oo, oo]] _ hn (by kernel_rfl) (aC h1 <| aC h2 <| aC h3 <| aC (gi_nn h5) <| aC (gi_some h5 : strtab_256_325[(IntKind.u8.wrap (shrOp .u64 x (32 : Int))).toNat]? = some x4) <| aN)
  · skip
    rcases bcases h with ⟨h2, h⟩ | ⟨h2, h⟩
    · skip
      rcases bcases h with ⟨h3, h⟩ | ⟨h3, h⟩
      · skip
        obtain ⟨x4, h5, h⟩ := obind h
        have h := Option.some.inj h; subst h
        exact wk_ret (fuel := 132) [.reg [oo], .reg [oo, oo], .br false, .reg [oo, oo], .br true, .reg [oo, oo, oo], .reg [oo, oo, oo], .reg [oo, oo], .br true, .reg [oo, oo, oo], .reg [oo, oo, oo], .reg [oo, oo, oo, .op (.sx x4), oo, oo, oo]] _ hn (by kernel_rfl) (aC h1 <| aC h2 <| aC h3 <| aC (gi_nn h5) <| aC (gi_some h5 : strtab_256_325[(IntKind.u8.wrap (shrOp .u64 (shrOp .u64 x (16 : Int)) (8 : Int))).toNat]? = some x4) <| aN)
      · skip
        obtain ⟨x4, h5, h⟩ := obind h
        have h := Option.some.inj h; subst h
        exact wk_ret (fuel := 120) [.reg [oo], .reg [oo, oo], .br false, .reg [oo, oo], .br true, .reg [oo, oo, oo], .reg [oo, oo, oo], .reg [oo, oo], .br false, .reg [oo, oo, oo, .op (.sx x4), oo, oo, oo]] _ hn (by kernel_rfl) (aC h1 <| aC h2 <| aC h3 <| aC (gi_nn h5) <| aC (gi_some h5 : strtab_256_325[(IntKind.u8.wrap (shrOp .u64 x (16 : Int))).toNat]? = some x4) <| aN)
    · skip
      rcases bcases h with ⟨h3, h⟩ | ⟨h3, h⟩
      · skip
        obtain ⟨x4, h5, h⟩ := obind h
        have h := Option.some.inj h; subst h
        exact wk_ret (fuel := 120) [.reg [oo], .reg [oo, oo], .br false, .reg [oo, oo], .br false, .reg [oo, oo], .br true, .reg [oo, oo, oo], .reg [oo, oo, oo], .reg [oo, oo, oo, .op (.sx x4), oo, oo, oo]] _ hn (by kernel_rfl) (aC h1 <| aC h2 <| aC h3 <| aC (gi_nn h5) <| aC (gi_some h5 : strtab_256_325[(IntKind.u8.wrap (shrOp .u64 x (8 : Int))).toNat]? = some x4) <| aN)
      · skip
        obtain ⟨x4, h5, h⟩ := obind h
        have h := Option.some.inj h; subst h
        exact wk_ret (fuel := 108) [.reg [oo], .reg [oo, oo], .br false, .reg [oo, oo], .br false, .reg [oo, oo], .br false, .reg [oo, oo, oo, .op (.sx x4), oo, oo, oo]] _ hn (by kernel_rfl) (aC h1 <| aC h2 <| aC h3 <| aC (gi_nn h5) <| aC (gi_some h5 : strtab_256_325[(IntKind.u8.wrap x).toNat]? = some x4) <| aN)

theorem math_bits_Len64_all : ∀ K : Nat, math_bits_Len64_H K
  | 0, c, r, h => by rw [math_bits_Len64_go] at h; cases h
  | K + 1, .c0 .., r, h => fun cx hn => math_bits_Len64_c0 (math_bits_Len64_all K) hn h

theorem math_bits_Len64_holds {K : Nat} {x : Int} {r : Int} (h : math_bits_Len64 K x = some r) : Holds prog 197 [(ti .u64 x)] (ti .i64 r) :=
  holds_wk [[0]] (by kernel_rfl) (by simp) fun cx hn => math_bits_Len64_all K (.c0 x) r h cx hn
end Go.Am.X
namespace Go.Am.X
open Go.Proofs.Try (prog)


inductive math_bits_LeadingZeros64_Cut where
  | c0 (x : Int)

def math_bits_LeadingZeros64_go : Nat → math_bits_LeadingZeros64_Cut → Option Int
  | 0, _ => none
  | K + 1, .c0 x =>
    (math_bits_Len64 K x).bind fun x1 =>
    some (IntKind.i64.wrap ((64 : Int) - x1))

def math_bits_LeadingZeros64 (K : Nat) (x : Int) : Option Int := math_bits_LeadingZeros64_go K (.c0 x)

noncomputable def math_bits_LeadingZeros64_body : Code := bodyOf prog 195
noncomputable def math_bits_LeadingZeros64_pos : math_bits_LeadingZeros64_Cut → List Fr
  | .c0 .. => [.code math_bits_LeadingZeros64_body]
def math_bits_LeadingZeros64_st : math_bits_LeadingZeros64_Cut → St
  | .c0 x => St.init [(ti .u64 x)]

def math_bits_LeadingZeros64_S (cx : Cx) (c : math_bits_LeadingZeros64_Cut) (r : Int) : Prop := Wk prog cx (EndsF prog 195 [[0]] (ti .i64 r)) (math_bits_LeadingZeros64_pos c) .normal (math_bits_LeadingZeros64_st c)
abbrev math_bits_LeadingZeros64_H (K : Nat) : Prop := ∀ c r, math_bits_LeadingZeros64_go K c = some r → ∀ cx : Cx, cx.n = 6 → math_bits_LeadingZeros64_S cx c r

theorem math_bits_LeadingZeros64_c0 {K} (_ : math_bits_LeadingZeros64_H K) {cx} (hn : cx.n = 6) {x} {r} (h : math_bits_LeadingZeros64_go (K + 1) (.c0 x) = some r) : math_bits_LeadingZeros64_S cx (.c0 x) r := by
  rw [math_bits_LeadingZeros64_go] at h
  obtain ⟨x1, h2, h⟩ := obind h
  have h := Option.some.inj h; subst h
  exact wk_ret (fuel := 54) [.reg [oo], .reg [oo, .op (.call [[0]] [(ti .u64 x)] (ti .i64 x1)), oo, oo]] _ hn (by kernel_rfl) (aC (math_bits_Len64_holds h2) <| aN)

theorem math_bits_LeadingZeros64_all : ∀ K : Nat, math_bits_LeadingZeros64_H K
  | 0, c, r, h => by rw [math_bits_LeadingZeros64_go] at h; cases h
  | K + 1, .c0 .., r, h => fun cx hn => math_bits_LeadingZeros64_c0 (math_bits_LeadingZeros64_all K) hn h

theorem math_bits_LeadingZeros64_holds {K : Nat} {x : Int} {r : Int} (h : math_bits_LeadingZeros64 K x = some r) : Holds prog 195 [(ti .u64 x)] (ti .i64 r) :=
  holds_wk [[0]] (by kernel_rfl) (by simp) fun cx hn => math_bits_LeadingZeros64_all K (.c0 x) r h cx hn
end Go.Am.X
namespace Go.Am.X
open Go.Proofs.Try (prog)


inductive math_bits_Div64_Cut where
  | c0 (hi : Int) (lo : Int) (y : Int)
  | c1 (y : Int) (s : Int) (yn1 : Int) (yn0 : Int) (un32 : Int) (un1 : Int) (un0 : Int) (q1 : Int) (rhat : Int)
  | c2 (y : Int) (s : Int) (yn1 : Int) (yn0 : Int) (un32 : Int) (un1 : Int) (un0 : Int) (q1 : Int)
  | c3 (y : Int) (s : Int) (yn1 : Int) (yn0 : Int) (un0 : Int) (q1 : Int) (rhat : Int) (un21 : Int) (q0 : Int)
  | c4 (y : Int) (s : Int) (un0 : Int) (q1 : Int) (un21 : Int) (q0 : Int)

def math_bits_Div64_go : Nat → math_bits_Div64_Cut → Option (Int × Int)
  | 0, _ => none
  | K + 1, .c0 hi lo y =>
    bif (decide (y = (0 : Int))) then
      none
    else
      bif (decide (y ≤ hi)) then
        none
      else
        bif (decide (hi = (0 : Int))) then
          gd (y ≠ 0) <|
          gd (y ≠ 0) <|
          some ((IntKind.u64.wrap (Int.tdiv lo y)), (Int.tmod lo y))
        else
          (math_bits_LeadingZeros64 K y).bind fun x4 =>
          gd (0 ≤ (IntKind.u64.wrap x4)) <|
          gd (0 ≤ (IntKind.u64.wrap x4)) <|
          gd (0 ≤ (IntKind.u64.wrap ((64 : Int) - (IntKind.u64.wrap x4)))) <|
          gd (0 ≤ (IntKind.u64.wrap x4)) <|
          gd ((shrOp .u64 (shlOp .u64 y (IntKind.u64.wrap x4)) (32 : Int)) ≠ 0) <|
          math_bits_Div64_go K (.c1 (shlOp .u64 y (IntKind.u64.wrap x4)) (IntKind.u64.wrap x4) (shrOp .u64 (shlOp .u64 y (IntKind.u64.wrap x4)) (32 : Int)) (bits .and .u64 (shlOp .u64 y (IntKind.u64.wrap x4)) (4294967295 : Int)) (bits .or .u64 (shlOp .u64 hi (IntKind.u64.wrap x4)) (shrOp .u64 lo (IntKind.u64.wrap ((64 : Int) - (IntKind.u64.wrap x4))))) (shrOp .u64 (shlOp .u64 lo (IntKind.u64.wrap x4)) (32 : Int)) (bits .and .u64 (shlOp .u64 lo (IntKind.u64.wrap x4)) (4294967295 : Int)) (IntKind.u64.wrap (Int.tdiv (bits .or .u64 (shlOp .u64 hi (IntKind.u64.wrap x4)) (shrOp .u64 lo (IntKind.u64.wrap ((64 : Int) - (IntKind.u64.wrap x4))))) (shrOp .u64 (shlOp .u64 y (IntKind.u64.wrap x4)) (32 : Int)))) (IntKind.u64.wrap ((bits .or .u64 (shlOp .u64 hi (IntKind.u64.wrap x4)) (shrOp .u64 lo (IntKind.u64.wrap ((64 : Int) - (IntKind.u64.wrap x4))))) - (IntKind.u64.wrap ((IntKind.u64.wrap (Int.tdiv (bits .or .u64 (shlOp .u64 hi (IntKind.u64.wrap x4)) (shrOp .u64 lo (IntKind.u64.wrap ((64 : Int) - (IntKind.u64.wrap x4))))) (shrOp .u64 (shlOp .u64 y (IntKind.u64.wrap x4)) (32 : Int)))) * (shrOp .u64 (shlOp .u64 y (IntKind.u64.wrap x4)) (32 : Int)))))))
  | K + 1, .c1 y s yn1 yn0 un32 un1 un0 q1 rhat =>
    bif (decide ((4294967296 : Int) ≤ q1)) then
      bif (decide ((4294967296 : Int) ≤ (IntKind.u64.wrap (rhat + yn1)))) then
        math_bits_Div64_go K (.c2 y s yn1 yn0 un32 un1 un0 (IntKind.u64.wrap (q1 - (1 : Int))))
      else
        math_bits_Div64_go K (.c1 y s yn1 yn0 un32 un1 un0 (IntKind.u64.wrap (q1 - (1 : Int))) (IntKind.u64.wrap (rhat + yn1)))
    else
      bif (decide ((IntKind.u64.wrap ((IntKind.u64.wrap ((4294967296 : Int) * rhat)) + un1)) < (IntKind.u64.wrap (q1 * yn0)))) then
        bif (decide ((4294967296 : Int) ≤ (IntKind.u64.wrap (rhat + yn1)))) then
          math_bits_Div64_go K (.c2 y s yn1 yn0 un32 un1 un0 (IntKind.u64.wrap (q1 - (1 : Int))))
        else
          math_bits_Div64_go K (.c1 y s yn1 yn0 un32 un1 un0 (IntKind.u64.wrap (q1 - (1 : Int))) (IntKind.u64.wrap (rhat + yn1)))
      else
        math_bits_Div64_go K (.c2 y s yn1 yn0 un32 un1 un0 q1)
  | K + 1, .c2 y s yn1 yn0 un32 un1 un0 q1 =>
    gd (yn1 ≠ 0) <|
    math_bits_Div64_go K (.c3 y s yn1 yn0 un0 q1 (IntKind.u64.wrap ((IntKind.u64.wrap ((IntKind.u64.wrap ((IntKind.u64.wrap (un32 * (4294967296 : Int))) + un1)) - (IntKind.u64.wrap (q1 * y)))) - (IntKind.u64.wrap ((IntKind.u64.wrap (Int.tdiv (IntKind.u64.wrap ((IntKind.u64.wrap ((IntKind.u64.wrap (un32 * (4294967296 : Int))) + un1)) - (IntKind.u64.wrap (q1 * y)))) yn1)) * yn1)))) (IntKind.u64.wrap ((IntKind.u64.wrap ((IntKind.u64.wrap (un32 * (4294967296 : Int))) + un1)) - (IntKind.u64.wrap (q1 * y)))) (IntKind.u64.wrap (Int.tdiv (IntKind.u64.wrap ((IntKind.u64.wrap ((IntKind.u64.wrap (un32 * (4294967296 : Int))) + un1)) - (IntKind.u64.wrap (q1 * y)))) yn1)))
  | K + 1, .c3 y s yn1 yn0 un0 q1 rhat un21 q0 =>
    bif (decide ((4294967296 : Int) ≤ q0)) then
      bif (decide ((4294967296 : Int) ≤ (IntKind.u64.wrap (rhat + yn1)))) then
        math_bits_Div64_go K (.c4 y s un0 q1 un21 (IntKind.u64.wrap (q0 - (1 : Int))))
      else
        math_bits_Div64_go K (.c3 y s yn1 yn0 un0 q1 (IntKind.u64.wrap (rhat + yn1)) un21 (IntKind.u64.wrap (q0 - (1 : Int))))
    else
      bif (decide ((IntKind.u64.wrap ((IntKind.u64.wrap ((4294967296 : Int) * rhat)) + un0)) < (IntKind.u64.wrap (q0 * yn0)))) then
        bif (decide ((4294967296 : Int) ≤ (IntKind.u64.wrap (rhat + yn1)))) then
          math_bits_Div64_go K (.c4 y s un0 q1 un21 (IntKind.u64.wrap (q0 - (1 : Int))))
        else
          math_bits_Div64_go K (.c3 y s yn1 yn0 un0 q1 (IntKind.u64.wrap (rhat + yn1)) un21 (IntKind.u64.wrap (q0 - (1 : Int))))
      else
        math_bits_Div64_go K (.c4 y s un0 q1 un21 q0)
  | _ + 1, .c4 y s un0 q1 un21 q0 =>
    gd (0 ≤ s) <|
    some ((IntKind.u64.wrap ((IntKind.u64.wrap (q1 * (4294967296 : Int))) + q0)), (shrOp .u64 (IntKind.u64.wrap ((IntKind.u64.wrap ((IntKind.u64.wrap (un21 * (4294967296 : Int))) + un0)) - (IntKind.u64.wrap (q0 * y)))) s))

def math_bits_Div64 (K : Nat) (hi : Int) (lo : Int) (y : Int) : Option (Int × Int) := math_bits_Div64_go K (.c0 hi lo y)

noncomputable def math_bits_Div64_body : Code := bodyOf prog 188
noncomputable def math_bits_Div64_pos : math_bits_Div64_Cut → List Fr
  | .c0 .. => [.code math_bits_Div64_body]
  | .c1 .. => [.code (.loop (atC math_bits_Div64_body [1,1,1,1,1,1,1,1,1,1,1,1,1,1,0,0,0])), .blk 0, .code (atC math_bits_Div64_body [1,1,1,1,1,1,1,1,1,1,1,1,1,1,1])]
  | .c2 .. => [.code (atC math_bits_Div64_body [1,1,1,1,1,1,1,1,1,1,1,1,1,1,1,0]), .code (atC math_bits_Div64_body [1,1,1,1,1,1,1,1,1,1,1,1,1,1,1,1])]
  | .c3 .. => [.code (.loop (atC math_bits_Div64_body [1,1,1,1,1,1,1,1,1,1,1,1,1,1,1,1,1,1,0,0,0])), .blk 2, .code (atC math_bits_Div64_body [1,1,1,1,1,1,1,1,1,1,1,1,1,1,1,1,1,1,1])]
  | .c4 .. => [.code (atC math_bits_Div64_body [1,1,1,1,1,1,1,1,1,1,1,1,1,1,1,1,1,1,1,0]), .code (atC math_bits_Div64_body [1,1,1,1,1,1,1,1,1,1,1,1,1,1,1,1,1,1,1,1])]
def math_bits_Div64_st : math_bits_Div64_Cut → St
  | .c0 hi lo y => St.init [(ti .u64 hi), (ti .u64 lo), (ti .u64 y)]
  | .c1 y s yn1 yn0 un32 un1 un0 q1 rhat => ⟨[(2, vi .u64 y), (8, vi .u64 s), (9, vi .u64 yn1), (10, vi .u64 yn0), (11, vi .u64 un32), (13, vi .u64 un1), (14, vi .u64 un0), (15, vi .u64 q1), (16, vi .u64 rhat)], [], []⟩
  | .c2 y s yn1 yn0 un32 un1 un0 q1 => ⟨[(2, vi .u64 y), (8, vi .u64 s), (9, vi .u64 yn1), (10, vi .u64 yn0), (11, vi .u64 un32), (13, vi .u64 un1), (14, vi .u64 un0), (15, vi .u64 q1)], [], []⟩
  | .c3 y s yn1 yn0 un0 q1 rhat un21 q0 => ⟨[(2, vi .u64 y), (8, vi .u64 s), (9, vi .u64 yn1), (10, vi .u64 yn0), (14, vi .u64 un0), (15, vi .u64 q1), (16, vi .u64 rhat), (17, vi .u64 un21), (18, vi .u64 q0)], [], []⟩
  | .c4 y s un0 q1 un21 q0 => ⟨[(2, vi .u64 y), (8, vi .u64 s), (14, vi .u64 un0), (15, vi .u64 q1), (17, vi .u64 un21), (18, vi .u64 q0)], [], []⟩

def math_bits_Div64_S (cx : Cx) (c : math_bits_Div64_Cut) (r : (Int × Int)) : Prop := Wk prog cx (EndsF prog 188 [[0], [0]] (TV.tup [(false, [(T.int .u64 r.1)]), (false, [(T.int .u64 r.2)])])) (math_bits_Div64_pos c) .normal (math_bits_Div64_st c)
abbrev math_bits_Div64_H (K : Nat) : Prop := ∀ c r, math_bits_Div64_go K c = some r → ∀ cx : Cx, cx.n = 135 → math_bits_Div64_S cx c r

theorem math_bits_Div64_c0 {K} (ih : math_bits_Div64_H K) {cx} (hn : cx.n = 135) {hi lo y} {r} (h : math_bits_Div64_go (K + 1) (.c0 hi lo y) = some r) : math_bits_Div64_S cx (.c0 hi lo y) r := by
  rw [math_bits_Div64_go] at h
  rcases bcases h with ⟨h1, h⟩ | ⟨h1, h⟩
  · skip
    cases h
  · skip
    rcases bcases h with ⟨h2, h⟩ | ⟨h2, h⟩
    · skip
      cases h
    · skip
      rcases bcases h with ⟨h3, h⟩ | ⟨h3, h⟩
      · skip
        obtain ⟨h4, h⟩ := gd_some h
        obtain ⟨h5, h⟩ := gd_some h
        have h := Option.some.inj h; subst h
        exact wk_ret (fuel := 108) [.reg [oo, oo], .reg [oo, oo], .br false, .reg [oo, oo, oo], .br false, .reg [oo, oo], .br true, .draw [.p, .p, .dv, .p, .p, .dv, .p] [.op .p]] _ hn (by kernel_rfl) (aC h1 <| aC h2 <| aC h3 <| aC h4 <| aC h5 <| aN)
      · skip
        obtain ⟨x4, h5, h⟩ := obind h
        obtain ⟨h6, h⟩ := gd_some h
        obtain ⟨h7, h⟩ := gd_some h
        obtain ⟨h8, h⟩ := gd_some h
        obtain ⟨h9, h⟩ := gd_some h
        obtain ⟨h10, h⟩ := gd_some h
        exact wk_go (fuel := 182) [.reg [oo, oo], .reg [oo, oo], .br false, .reg [oo, oo, oo], .br false, .reg [oo, oo], .br false, .reg [oo, .op (.call [[0]] [(ti .u64 y)] (ti .i64 x4)), oo, oo], .reg [oo, oo, .op .dv, oo], .reg [oo, oo, oo], .reg [oo, oo, oo], .reg [oo, oo, .op .dv, oo, oo, oo, .op .dv, oo, oo], .reg [oo, oo, .op .dv, oo], .reg [oo, oo, oo], .reg [oo, oo, oo], .reg [oo, oo, .op .dv, oo], .reg [oo, oo, oo, oo, oo, oo], .pre [.keep [2,8,9,10,11,13,14,15,16] []]] _ hn (by kernel_rfl) (aC h1 <| aC h2 <| aC h3 <| aC (math_bits_LeadingZeros64_holds h5) <| aC h6 <| aC h7 <| aC h8 <| aC h9 <| aC h10 <| aN) (ih _ _ h cx hn)

theorem math_bits_Div64_c1 {K} (ih : math_bits_Div64_H K) {cx} (hn : cx.n = 135) {y s yn1 yn0 un32 un1 un0 q1 rhat} {r} (h : math_bits_Div64_go (K + 1) (.c1 y s yn1 yn0 un32 un1 un0 q1 rhat) = some r) : math_bits_Div64_S cx (.c1 y s yn1 yn0 un32 un1 un0 q1 rhat) r := by
  rw [math_bits_Div64_go] at h
  rcases bcases h with ⟨h1, h⟩ | ⟨h1, h⟩
  · skip
    rcases bcases h with ⟨h2, h⟩ | ⟨h2, h⟩
    · skip
      exact wk_go (fuel := 104) [.go, .reg [oo, oo, oo, .sb 69 true, oo, oo, oo, oo, oo, oo, oo, oo, oo], .br true, .reg [oo, oo, oo], .reg [oo, oo, oo, oo], .reg [oo, oo], .br true, .pre [.keep [2,8,9,10,11,13,14,15] []]] _ hn (by kernel_rfl) (aC h1 <| aC rt <| aC h2 <| aN) (ih _ _ h cx hn)
    · skip
      exact wk_go (fuel := 100) [.go, .reg [oo, oo, oo, .sb 69 true, oo, oo, oo, oo, oo, oo, oo, oo, oo], .br true, .reg [oo, oo, oo], .reg [oo, oo, oo, oo], .reg [oo, oo], .br false, .pre [.keep [2,8,9,10,11,13,14,15,16] []]] _ hn (by kernel_rfl) (aC h1 <| aC rt <| aC h2 <| aN) (ih _ _ h cx hn)
  · skip
    rcases bcases h with ⟨h2, h⟩ | ⟨h2, h⟩
    · skip
      rcases bcases h with ⟨h3, h⟩ | ⟨h3, h⟩
      · skip
        exact wk_go (fuel := 104) [.go, .reg [oo, oo, oo, .sb 69 false, oo, oo, oo, oo, oo, oo, oo, oo, oo], .br true, .reg [oo, oo, oo], .reg [oo, oo, oo, oo], .reg [oo, oo], .br true, .pre [.keep [2,8,9,10,11,13,14,15] []]] _ hn (by kernel_rfl) (aC h1 <| aC h2 <| aC h3 <| aN) (ih _ _ h cx hn)
      · skip
        exact wk_go (fuel := 100) [.go, .reg [oo, oo, oo, .sb 69 false, oo, oo, oo, oo, oo, oo, oo, oo, oo], .br true, .reg [oo, oo, oo], .reg [oo, oo, oo, oo], .reg [oo, oo], .br false, .pre [.keep [2,8,9,10,11,13,14,15,16] []]] _ hn (by kernel_rfl) (aC h1 <| aC h2 <| aC h3 <| aN) (ih _ _ h cx hn)
    · skip
      exact wk_go (fuel := 70) [.go, .reg [oo, oo, oo, .sb 69 false, oo, oo, oo, oo, oo, oo, oo, oo, oo], .br false, .pre [.keep [2,8,9,10,11,13,14,15] []]] _ hn (by kernel_rfl) (aC h1 <| aC h2 <| aN) (ih _ _ h cx hn)

theorem math_bits_Div64_c2 {K} (ih : math_bits_Div64_H K) {cx} (hn : cx.n = 135) {y s yn1 yn0 un32 un1 un0 q1} {r} (h : math_bits_Div64_go (K + 1) (.c2 y s yn1 yn0 un32 un1 un0 q1) = some r) : math_bits_Div64_S cx (.c2 y s yn1 yn0 un32 un1 un0 q1) r := by
  rw [math_bits_Div64_go] at h
  obtain ⟨h1, h⟩ := gd_some h
  exact wk_go (fuel := 62) [.reg [oo, oo, oo, oo, oo, oo, oo, oo, oo], .reg [oo, oo, .op .dv, oo], .reg [oo, oo, oo, oo, oo, oo], .pre [.keep [2,8,9,10,14,15,16,17,18] []]] _ hn (by kernel_rfl) (aC h1 <| aN) (ih _ _ h cx hn)

theorem math_bits_Div64_c3 {K} (ih : math_bits_Div64_H K) {cx} (hn : cx.n = 135) {y s yn1 yn0 un0 q1 rhat un21 q0} {r} (h : math_bits_Div64_go (K + 1) (.c3 y s yn1 yn0 un0 q1 rhat un21 q0) = some r) : math_bits_Div64_S cx (.c3 y s yn1 yn0 un0 q1 rhat un21 q0) r := by
  rw [math_bits_Div64_go] at h
  rcases bcases h with ⟨h1, h⟩ | ⟨h1, h⟩
  · skip
    rcases bcases h with ⟨h2, h⟩ | ⟨h2, h⟩
    · skip
      exact wk_go (fuel := 104) [.go, .reg [oo, oo, oo, .sb 104 true, oo, oo, oo, oo, oo, oo, oo, oo, oo], .br true, .reg [oo, oo, oo], .reg [oo, oo, oo, oo], .reg [oo, oo], .br true, .pre [.keep [2,8,14,15,17,18] []]] _ hn (by kernel_rfl) (aC h1 <| aC rt <| aC h2 <| aN) (ih _ _ h cx hn)
    · skip
      exact wk_go (fuel := 100) [.go, .reg [oo, oo, oo, .sb 104 true, oo, oo, oo, oo, oo, oo, oo, oo, oo], .br true, .reg [oo, oo, oo], .reg [oo, oo, oo, oo], .reg [oo, oo], .br false, .pre [.keep [2,8,9,10,14,15,16,17,18] []]] _ hn (by kernel_rfl) (aC h1 <| aC rt <| aC h2 <| aN) (ih _ _ h cx hn)
  · skip
    rcases bcases h with ⟨h2, h⟩ | ⟨h2, h⟩
    · skip
      rcases bcases h with ⟨h3, h⟩ | ⟨h3, h⟩
      · skip
        exact wk_go (fuel := 104) [.go, .reg [oo, oo, oo, .sb 104 false, oo, oo, oo, oo, oo, oo, oo, oo, oo], .br true, .reg [oo, oo, oo], .reg [oo, oo, oo, oo], .reg [oo, oo], .br true, .pre [.keep [2,8,14,15,17,18] []]] _ hn (by kernel_rfl) (aC h1 <| aC h2 <| aC h3 <| aN) (ih _ _ h cx hn)
      · skip
        exact wk_go (fuel := 100) [.go, .reg [oo, oo, oo, .sb 104 false, oo, oo, oo, oo, oo, oo, oo, oo, oo], .br true, .reg [oo, oo, oo], .reg [oo, oo, oo, oo], .reg [oo, oo], .br false, .pre [.keep [2,8,9,10,14,15,16,17,18] []]] _ hn (by kernel_rfl) (aC h1 <| aC h2 <| aC h3 <| aN) (ih _ _ h cx hn)
    · skip
      exact wk_go (fuel := 70) [.go, .reg [oo, oo, oo, .sb 104 false, oo, oo, oo, oo, oo, oo, oo, oo, oo], .br false, .pre [.keep [2,8,14,15,17,18] []]] _ hn (by kernel_rfl) (aC h1 <| aC h2 <| aN) (ih _ _ h cx hn)

theorem math_bits_Div64_c4 {K} (_ : math_bits_Div64_H K) {cx} (hn : cx.n = 135) {y s un0 q1 un21 q0} {r} (h : math_bits_Div64_go (K + 1) (.c4 y s un0 q1 un21 q0) = some r) : math_bits_Div64_S cx (.c4 y s un0 q1 un21 q0) r := by
  rw [math_bits_Div64_go] at h
  obtain ⟨h1, h⟩ := gd_some h
  have h := Option.some.inj h; subst h
  exact wk_ret (fuel := 44) [.reg [oo, oo, oo, oo, oo, oo, oo, oo, oo, oo, oo, oo, oo, .op .dv, oo, oo]] _ hn (by kernel_rfl) (aC h1 <| aN)

theorem math_bits_Div64_all : ∀ K : Nat, math_bits_Div64_H K
  | 0, c, r, h => by rw [math_bits_Div64_go] at h; cases h
  | K + 1, .c0 .., r, h => fun cx hn => math_bits_Div64_c0 (math_bits_Div64_all K) hn h
  | K + 1, .c1 .., r, h => fun cx hn => math_bits_Div64_c1 (math_bits_Div64_all K) hn h
  | K + 1, .c2 .., r, h => fun cx hn => math_bits_Div64_c2 (math_bits_Div64_all K) hn h
  | K + 1, .c3 .., r, h => fun cx hn => math_bits_Div64_c3 (math_bits_Div64_all K) hn h
  | K + 1, .c4 .., r, h => fun cx hn => math_bits_Div64_c4 (math_bits_Div64_all K) hn h

theorem math_bits_Div64_holds {K : Nat} {hi : Int} {lo : Int} {y : Int} {r : (Int × Int)} (h : math_bits_Div64 K hi lo y = some r) : Holds prog 188 [(ti .u64 hi), (ti .u64 lo), (ti .u64 y)] (TV.tup [(false, [(T.int .u64 r.1)]), (false, [(T.int .u64 r.2)])]) :=
  holds_wk [[0], [0]] (by kernel_rfl) (by simp) fun cx hn => math_bits_Div64_all K (.c0 hi lo y) r h cx hn
end Go.Am.X
namespace Go.Am.X
open Go.Proofs.Try (prog)


inductive math_bits_Len32_Cut where
  | c0 (x : Int)

def math_bits_Len32_go : Nat → math_bits_Len32_Cut → Option Int
  | 0, _ => none
  | _ + 1, .c0 x =>
    bif (decide ((65536 : Int) ≤ x)) then
      bif (decide ((256 : Int) ≤ (shrOp .u32 x (16 : Int)))) then
        (gi strtab_256_325 (IntKind.u8.wrap (shrOp .u32 (shrOp .u32 x (16 : Int)) (8 : Int)))).bind fun x3 =>
        some (IntKind.i64.wrap ((IntKind.i64.wrap ((16 : Int) + (8 : Int))) + (IntKind.i64.wrap x3)))
      else
        (gi strtab_256_325 (IntKind.u8.wrap (shrOp .u32 x (16 : Int)))).bind fun x3 =>
        some (IntKind.i64.wrap ((16 : Int) + (IntKind.i64.wrap x3)))
    else
      bif (decide ((256 : Int) ≤ x)) then
        (gi strtab_256_325 (IntKind.u8.wrap (shrOp .u32 x (8 : Int)))).bind fun x3 =>
        some (IntKind.i64.wrap ((IntKind.i64.wrap ((0 : Int) + (8 : Int))) + (IntKind.i64.wrap x3)))
      else
        (gi strtab_256_325 (IntKind.u8.wrap x)).bind fun x3 =>
        some (IntKind.i64.wrap ((0 : Int) + (IntKind.i64.wrap x3)))

def math_bits_Len32 (K : Nat) (x : Int) : Option Int := math_bits_Len32_go K (.c0 x)

noncomputable def math_bits_Len32_body : Code := bodyOf prog 194
noncomputable def math_bits_Len32_pos : math_bits_Len32_Cut → List Fr
  | .c0 .. => [.code math_bits_Len32_body]
def math_bits_Len32_st : math_bits_Len32_Cut → St
  | .c0 x => St.init [(ti .u32 x)]

def math_bits_Len32_S (cx : Cx) (c : math_bits_Len32_Cut) (r : Int) : Prop := Wk prog cx (EndsF prog 194 [[0]] (ti .i64 r)) (math_bits_Len32_pos c) .normal (math_bits_Len32_st c)
abbrev math_bits_Len32_H (K : Nat) : Prop := ∀ c r, math_bits_Len32_go K c = some r → ∀ cx : Cx, cx.n = 19 → math_bits_Len32_S cx c r

theorem math_bits_Len32_c0 {K} (_ : math_bits_Len32_H K) {cx} (hn : cx.n = 19) {x} {r} (h : math_bits_Len32_go (K + 1) (.c0 x) = some r) : math_bits_Len32_S cx (.c0 x) r := by
  rw [math_bits_Len32_go] at h
  rcases bcases h with ⟨h1, h⟩ | ⟨h1, h⟩
  · skip
    rcases bcases h with ⟨h2, h⟩ | ⟨h2, h⟩
    · skip
      obtain ⟨x3, h4, h⟩ := obind h
      have h := Option.some.inj h; subst h
      exact wk_ret (fuel := 114) [.reg [oo], .reg [oo, oo], .br true, .reg [oo, oo, oo], .reg [oo], .reg [oo, oo], .br true, .reg [oo, oo, oo], .reg [oo, oo, oo], .reg [oo, oo, oo, .op (.sx x3), oo, oo, oo]] _ hn (by kernel_rfl) (aC h1 <| aC h2 <| aC (gi_nn h4) <| aC (gi_some h4 : strtab_256_325[(IntKind.u8.wrap (shrOp .u32 (shrOp .u32 x (16 : Int)) (8 : Int))).toNat]? = some x3) <| aN)
    · skip
      obtain ⟨x3, h4, h⟩ := obind h
      have h := Option.some.inj h; subst h
      exact wk_ret (fuel := 102) [.reg [oo], .reg [oo, oo], .br true, .reg [oo, oo, oo], .reg [oo], .reg [oo, oo], .br false, .reg [oo, oo, oo, .op (.sx x3), oo, oo, oo]] _ hn (by kernel_rfl) (aC h1 <| aC h2 <| aC (gi_nn h4) <| aC (gi_some h4 : strtab_256_325[(IntKind.u8.wrap (shrOp .u32 x (16 : Int))).toNat]? = some x3) <| aN)
  · skip
    rcases bcases h with ⟨h2, h⟩ | ⟨h2, h⟩
    · skip
      obtain ⟨x3, h4, h⟩ := obind h
      have h := Option.some.inj h; subst h
      exact wk_ret (fuel := 102) [.reg [oo], .reg [oo, oo], .br false, .reg [oo, oo], .br true, .reg [oo, oo, oo], .reg [oo, oo, oo], .reg [oo, oo, oo, .op (.sx x3), oo, oo, oo]] _ hn (by kernel_rfl) (aC h1 <| aC h2 <| aC (gi_nn h4) <| aC (gi_some h4 : strtab_256_325[(IntKind.u8.wrap (shrOp .u32 x (8 : Int))).toNat]? = some x3) <| aN)
    · skip
      obtain ⟨x3, h4, h⟩ := obind h
      have h := Option.some.inj h; subst h
      exact wk_ret (fuel := 90) [.reg [oo], .reg [oo, oo], .br false, .reg [oo, oo], .br false, .reg [oo, oo, oo, .op (.sx x3), oo, oo, oo]] _ hn (by kernel_rfl) (aC h1 <| aC h2 <| aC (gi_nn h4) <| aC (gi_some h4 : strtab_256_325[(IntKind.u8.wrap x).toNat]? = some x3) <| aN)

theorem math_bits_Len32_all : ∀ K : Nat, math_bits_Len32_H K
  | 0, c, r, h => by rw [math_bits_Len32_go] at h; cases h
  | K + 1, .c0 .., r, h => fun cx hn => math_bits_Len32_c0 (math_bits_Len32_all K) hn h

theorem math_bits_Len32_holds {K : Nat} {x : Int} {r : Int} (h : math_bits_Len32 K x = some r) : Holds prog 194 [(ti .u32 x)] (ti .i64 r) :=
  holds_wk [[0]] (by kernel_rfl) (by simp) fun cx hn => math_bits_Len32_all K (.c0 x) r h cx hn
end Go.Am.X
namespace Go.Am.X
open Go.Proofs.Try (prog)


inductive math_bits_LeadingZeros32_Cut where
  | c0 (x : Int)

def math_bits_LeadingZeros32_go : Nat → math_bits_LeadingZeros32_Cut → Option Int
  | 0, _ => none
  | K + 1, .c0 x =>
    (math_bits_Len32 K x).bind fun x1 =>
    some (IntKind.i64.wrap ((32 : Int) - x1))

def math_bits_LeadingZeros32 (K : Nat) (x : Int) : Option Int := math_bits_LeadingZeros32_go K (.c0 x)

noncomputable def math_bits_LeadingZeros32_body : Code := bodyOf prog 187
noncomputable def math_bits_LeadingZeros32_pos : math_bits_LeadingZeros32_Cut → List Fr
  | .c0 .. => [.code math_bits_LeadingZeros32_body]
def math_bits_LeadingZeros32_st : math_bits_LeadingZeros32_Cut → St
  | .c0 x => St.init [(ti .u32 x)]

def math_bits_LeadingZeros32_S (cx : Cx) (c : math_bits_LeadingZeros32_Cut) (r : Int) : Prop := Wk prog cx (EndsF prog 187 [[0]] (ti .i64 r)) (math_bits_LeadingZeros32_pos c) .normal (math_bits_LeadingZeros32_st c)
abbrev math_bits_LeadingZeros32_H (K : Nat) : Prop := ∀ c r, math_bits_LeadingZeros32_go K c = some r → ∀ cx : Cx, cx.n = 6 → math_bits_LeadingZeros32_S cx c r

theorem math_bits_LeadingZeros32_c0 {K} (_ : math_bits_LeadingZeros32_H K) {cx} (hn : cx.n = 6) {x} {r} (h : math_bits_LeadingZeros32_go (K + 1) (.c0 x) = some r) : math_bits_LeadingZeros32_S cx (.c0 x) r := by
  rw [math_bits_LeadingZeros32_go] at h
  obtain ⟨x1, h2, h⟩ := obind h
  have h := Option.some.inj h; subst h
  exact wk_ret (fuel := 54) [.reg [oo], .reg [oo, .op (.call [[0]] [(ti .u32 x)] (ti .i64 x1)), oo, oo]] _ hn (by kernel_rfl) (aC (math_bits_Len32_holds h2) <| aN)

theorem math_bits_LeadingZeros32_all : ∀ K : Nat, math_bits_LeadingZeros32_H K
  | 0, c, r, h => by rw [math_bits_LeadingZeros32_go] at h; cases h
  | K + 1, .c0 .., r, h => fun cx hn => math_bits_LeadingZeros32_c0 (math_bits_LeadingZeros32_all K) hn h

theorem math_bits_LeadingZeros32_holds {K : Nat} {x : Int} {r : Int} (h : math_bits_LeadingZeros32 K x = some r) : Holds prog 187 [(ti .u32 x)] (ti .i64 r) :=
  holds_wk [[0]] (by kernel_rfl) (by simp) fun cx hn => math_bits_LeadingZeros32_all K (.c0 x) r h cx hn
end Go.Am.X
namespace Go.Am.X
open Go.Proofs.Try (prog)


inductive math_bits_Div32_Cut where
  | c0 (hi : Int) (lo : Int) (y : Int)

def math_bits_Div32_go : Nat → math_bits_Div32_Cut → Option (Int × Int)
  | 0, _ => none
  | _ + 1, .c0 hi lo y =>
    bif (!decide (y = (0 : Int))) then
      bif (decide (y ≤ hi)) then
        none
      else
        gd ((IntKind.u64.wrap y) ≠ 0) <|
        gd ((IntKind.u64.wrap y) ≠ 0) <|
        some ((IntKind.u32.wrap (IntKind.u64.wrap (Int.tdiv (bits .or .u64 (shlOp .u64 (IntKind.u64.wrap hi) (32 : Int)) (IntKind.u64.wrap lo)) (IntKind.u64.wrap y)))), (IntKind.u32.wrap (Int.tmod (bits .or .u64 (shlOp .u64 (IntKind.u64.wrap hi) (32 : Int)) (IntKind.u64.wrap lo)) (IntKind.u64.wrap y))))
    else
      gd ((IntKind.u64.wrap y) ≠ 0) <|
      gd ((IntKind.u64.wrap y) ≠ 0) <|
      some ((IntKind.u32.wrap (IntKind.u64.wrap (Int.tdiv (bits .or .u64 (shlOp .u64 (IntKind.u64.wrap hi) (32 : Int)) (IntKind.u64.wrap lo)) (IntKind.u64.wrap y)))), (IntKind.u32.wrap (Int.tmod (bits .or .u64 (shlOp .u64 (IntKind.u64.wrap hi) (32 : Int)) (IntKind.u64.wrap lo)) (IntKind.u64.wrap y))))

def math_bits_Div32 (K : Nat) (hi : Int) (lo : Int) (y : Int) : Option (Int × Int) := math_bits_Div32_go K (.c0 hi lo y)

noncomputable def math_bits_Div32_body : Code := bodyOf prog 166
noncomputable def math_bits_Div32_pos : math_bits_Div32_Cut → List Fr
  | .c0 .. => [.code math_bits_Div32_body]
def math_bits_Div32_st : math_bits_Div32_Cut → St
  | .c0 hi lo y => St.init [(ti .u32 hi), (ti .u32 lo), (ti .u32 y)]

def math_bits_Div32_S (cx : Cx) (c : math_bits_Div32_Cut) (r : (Int × Int)) : Prop := Wk prog cx (EndsF prog 166 [[0], [0]] (TV.tup [(false, [(T.int .u32 r.1)]), (false, [(T.int .u32 r.2)])])) (math_bits_Div32_pos c) .normal (math_bits_Div32_st c)
abbrev math_bits_Div32_H (K : Nat) : Prop := ∀ c r, math_bits_Div32_go K c = some r → ∀ cx : Cx, cx.n = 33 → math_bits_Div32_S cx c r

theorem math_bits_Div32_c0 {K} (_ : math_bits_Div32_H K) {cx} (hn : cx.n = 33) {hi lo y} {r} (h : math_bits_Div32_go (K + 1) (.c0 hi lo y) = some r) : math_bits_Div32_S cx (.c0 hi lo y) r := by
  rw [math_bits_Div32_go] at h
  rcases bcases h with ⟨h1, h⟩ | ⟨h1, h⟩
  · skip
    rcases bcases h with ⟨h2, h⟩ | ⟨h2, h⟩
    · skip
      cases h
    · skip
      obtain ⟨h3, h⟩ := gd_some h
      obtain ⟨h4, h⟩ := gd_some h
      have h := Option.some.inj h; subst h
      exact wk_ret (fuel := 80) [.reg [oo, oo], .reg [oo, oo, oo, .sb 11 true, oo, oo, oo, oo], .br false, .reg [oo, oo, oo, oo, oo, oo, oo], .draw [.p, .p, .p, .dv, .p, .p, .p, .p, .dv, .p, .p] [.op .p]] _ hn (by kernel_rfl) (aC h1 <| aC h2 <| aC h3 <| aC h4 <| aN)
  · skip
    obtain ⟨h2, h⟩ := gd_some h
    obtain ⟨h3, h⟩ := gd_some h
    have h := Option.some.inj h; subst h
    exact wk_ret (fuel := 80) [.reg [oo, oo], .reg [oo, oo, oo, .sb 11 false, oo, oo, oo, oo], .br false, .reg [oo, oo, oo, oo, oo, oo, oo], .draw [.p, .p, .p, .dv, .p, .p, .p, .p, .dv, .p, .p] [.op .p]] _ hn (by kernel_rfl) (aC h1 <| aC rf <| aC h2 <| aC h3 <| aN)

theorem math_bits_Div32_all : ∀ K : Nat, math_bits_Div32_H K
  | 0, c, r, h => by rw [math_bits_Div32_go] at h; cases h
  | K + 1, .c0 .., r, h => fun cx hn => math_bits_Div32_c0 (math_bits_Div32_all K) hn h

theorem math_bits_Div32_holds {K : Nat} {hi : Int} {lo : Int} {y : Int} {r : (Int × Int)} (h : math_bits_Div32 K hi lo y = some r) : Holds prog 166 [(ti .u32 hi), (ti .u32 lo), (ti .u32 y)] (TV.tup [(false, [(T.int .u32 r.1)]), (false, [(T.int .u32 r.2)])]) :=
  holds_wk [[0], [0]] (by kernel_rfl) (by simp) fun cx hn => math_bits_Div32_all K (.c0 hi lo y) r h cx hn
end Go.Am.X
namespace Go.Am.X
open Go.Proofs.Try (prog)


inductive natural_DivSmall_Cut where
  | c0 (a : (List Int)) (d : Int)
  | c1 (r16 : (List Int)) (a : (List Int)) (d : Int) (rest : Int) (i : Int)

def natural_DivSmall_go : Nat → natural_DivSmall_Cut → Option ((List Int) × Int × Bool)
  | 0, _ => none
  | K + 1, .c0 a d =>
    bif (decide (d = (0 : Int))) then
      some ([], (0 : Int), false)
    else
      (natural_trim K a).bind fun x2 =>
      gd (0 ≤ (x2.length : Int) ∧ (x2.length : Int) ≤ (x2.length : Int) ∧ (4 : Int) * (x2.length : Int) ≤ 140737488355328) <|
      natural_DivSmall_go K (.c1 (List.replicate (x2.length : Int).toNat ((0 : Int) : Int)) x2 d (0 : Int) (IntKind.i64.wrap ((x2.length : Int) - (1 : Int))))
  | K + 1, .c1 r16 a d rest i =>
    bif (decide ((0 : Int) ≤ i)) then
      (gi a i).bind fun x2 =>
      (math_bits_Div32 K rest x2 d).bind fun x4 =>
      (gi r16 i).bind fun _ =>
      natural_DivSmall_go K (.c1 (r16.set (i.toNat) x4.1) a d x4.2 (IntKind.i64.wrap (i - (1 : Int))))
    else
      (natural_trim K r16).bind fun x2 =>
      some (x2, rest, true)

def natural_DivSmall (K : Nat) (a : (List Int)) (d : Int) : Option ((List Int) × Int × Bool) := natural_DivSmall_go K (.c0 a d)

noncomputable def natural_DivSmall_body : Code := bodyOf prog 123
noncomputable def natural_DivSmall_pos : natural_DivSmall_Cut → List Fr
  | .c0 .. => [.code natural_DivSmall_body]
  | .c1 .. => [.code (.loop (atC natural_DivSmall_body [1,1,1,1,1,0,1,0,0])), .blk 0, .code (atC natural_DivSmall_body [1,1,1,1,1,1])]
def natural_DivSmall_st : natural_DivSmall_Cut → St
  | .c0 a d => St.init [(tl 1 a ce_u32), (ti .u32 d)]
  | .c1 r16 a d rest i => ⟨[(0, vl 1 a ce_u32), (1, vi .u32 d), (7, .c (C.row 16 0 r16.length)), (8, vi .u32 rest), (9, vi .i64 i)], [(16, .row 101 1 (r16.map ce_u32) 0)], []⟩

def natural_DivSmall_S (cx : Cx) (c : natural_DivSmall_Cut) (r : ((List Int) × Int × Bool)) : Prop := Wk prog cx (EndsF prog 123 [[1], [0], [0]] (TV.tup [(false, [(T.sl 1 (r.1.map ce_u32))]), (false, [(T.int .u32 r.2.1)]), (false, [(T.bool r.2.2)])])) (natural_DivSmall_pos c) .normal (natural_DivSmall_st c)
abbrev natural_DivSmall_H (K : Nat) : Prop := ∀ c r, natural_DivSmall_go K c = some r → ∀ cx : Cx, cx.n = 40 → natural_DivSmall_S cx c r

theorem natural_DivSmall_c0 {K} (ih : natural_DivSmall_H K) {cx} (hn : cx.n = 40) {a d} {r} (h : natural_DivSmall_go (K + 1) (.c0 a d) = some r) : natural_DivSmall_S cx (.c0 a d) r := by
  rw [natural_DivSmall_go] at h
  rcases bcases h with ⟨h1, h⟩ | ⟨h1, h⟩
  · skip
    have h := Option.some.inj h; subst h
    exact wk_ret (fuel := 72) [.reg [oo, oo, oo], .reg [oo, oo], .br true, .reg [oo, oo, oo]] _ hn (by kernel_rfl) (aC h1 <| aN)
  · skip
    obtain ⟨x2, h3, h⟩ := obind h
    obtain ⟨h4, h⟩ := gd_some h
    exact wk_go (fuel := 98) [.reg [oo, oo, oo], .reg [oo, oo], .br false, .reg [oo, .op (.call [[1]] [(tl 1 a ce_u32)] (tl 1 x2 ce_u32)), oo], .reg [oo, .op (.ln (x2.length : Int)), .op (.mk (ce_u32 (0 : Int)) ((List.replicate (x2.length : Int).toNat ((0 : Int) : Int)).map ce_u32)), oo], .reg [oo], .reg [oo, .op (.ln (x2.length : Int)), oo, oo], .pre [.rl 7 0 (List.replicate (x2.length : Int).toNat ((0 : Int) : Int)).length, .keep [0,1,7,8,9] [16]]] _ hn (by kernel_rfl) (aC h1 <| aC (natural_trim_holds h3) <| aC (ln_eq x2 ce_u32) <| aC h4.1 <| aC h4.2.1 <| aC h4.2.2 <| aC (rep_map _ _ _ : List.replicate (x2.length : Int).toNat (ce_u32 (0 : Int)) = (List.replicate (x2.length : Int).toNat ((0 : Int) : Int)).map ce_u32) <| aC (ln_eq x2 ce_u32) <| aC r0 <| aC (by simp : (x2.length : Int).toNat = (List.replicate (x2.length : Int).toNat ((0 : Int) : Int)).length) <| aN) (ih _ _ h cx hn)

theorem natural_DivSmall_c1 {K} (ih : natural_DivSmall_H K) {cx} (hn : cx.n = 40) {r16 a d rest i} {r} (h : natural_DivSmall_go (K + 1) (.c1 r16 a d rest i) = some r) : natural_DivSmall_S cx (.c1 r16 a d rest i) r := by
  rw [natural_DivSmall_go] at h
  rcases bcases h with ⟨h1, h⟩ | ⟨h1, h⟩
  · skip
    obtain ⟨x2, h3, h⟩ := obind h
    obtain ⟨x4, h5, h⟩ := obind h
    obtain ⟨x6, h7, h⟩ := obind h
    exact wk_go (fuel := 82) [.go, .reg [oo, oo], .br true, .reg [oo, oo, oo, oo, oo, .op (.ix (ce_u32 x2)), oo, oo, .op (.call [[0], [0], [0]] [(ti .u32 rest), (ti .u32 x2), (ti .u32 d)] (TV.tup [(false, [(T.int .u32 x4.1)]), (false, [(T.int .u32 x4.2)])])), oo, oo, oo, .op .ir, .op (.st (ce_u32 x6) ((r16.set (i.toNat) x4.1).map ce_u32)), oo], .reg [oo, oo, oo], .pre [.rl 7 0 (r16.set (i.toNat) x4.1).length, .keep [0,1,7,8,9] [16]]] _ hn (by kernel_rfl) (aC h1 <| aC (gi_nn h3) <| aC (gi_at ce_u32 h3) <| aC (math_bits_Div32_holds h5) <| aC (gi_nn h7) <| aC (gi_lt2 h7 (by simp) : i < ((r16.length : Nat) : Int)) <| aC (gi_row ce_u32 h7 : (r16.map ce_u32)[(0 + i.toNat)]? = some (ce_u32 x6)) <| aC (set_map _ _ x4.1 _ : (r16.map ce_u32).set (0 + i.toNat) (splice (ce_u32 x6) 0 [(T.int .u32 x4.1)]) = (r16.set (i.toNat) x4.1).map ce_u32) <| aC (Nat.zero_le _ : 0 ≤ (0 + i.toNat)) <| aC r0 <| aC (by simp : r16.length = (r16.set (i.toNat) x4.1).length) <| aN) (ih _ _ h cx hn)
  · skip
    obtain ⟨x2, h3, h⟩ := obind h
    have h := Option.some.inj h; subst h
    exact wk_ret (fuel := 78) [.go, .reg [oo, oo], .br false, .reg [oo, .snap 37 (max 0 (0 + r16.length)) (r16.map ce_u32), .op (.call [[1]] [(tl 1 r16 ce_u32)] (tl 1 x2 ce_u32)), oo, oo, oo, oo]] _ hn (by kernel_rfl) (aC h1 <| aC (sn_map _ _ _ (by simp) : ((r16.map ce_u32).drop 0).take r16.length = r16.map ce_u32) <| aC (rfl : (max 0 (0 + r16.length)) = (max 0 (0 + r16.length))) <| aC (natural_trim_holds h3) <| aN)

theorem natural_DivSmall_all : ∀ K : Nat, natural_DivSmall_H K
  | 0, c, r, h => by rw [natural_DivSmall_go] at h; cases h
  | K + 1, .c0 .., r, h => fun cx hn => natural_DivSmall_c0 (natural_DivSmall_all K) hn h
  | K + 1, .c1 .., r, h => fun cx hn => natural_DivSmall_c1 (natural_DivSmall_all K) hn h

theorem natural_DivSmall_holds {K : Nat} {a : (List Int)} {d : Int} {r : ((List Int) × Int × Bool)} (h : natural_DivSmall K a d = some r) : Holds prog 123 [(tl 1 a ce_u32), (ti .u32 d)] (TV.tup [(false, [(T.sl 1 (r.1.map ce_u32))]), (false, [(T.int .u32 r.2.1)]), (false, [(T.bool r.2.2)])]) :=
  holds_wk [[1], [0], [0]] (by kernel_rfl) (by simp) fun cx hn => natural_DivSmall_all K (.c0 a d) r h cx hn
end Go.Am.X
namespace Go.Am.X
open Go.Proofs.Try (prog)


inductive natural_trim__row28_Cut where
  | c0 (row : (List Int))
  | c1 (r28 : (List Int)) (n : Int)
  | c2 (r28 : (List Int)) (n : Int)

def natural_trim__row28_go : Nat → natural_trim__row28_Cut → Option (Option Nat)
  | 0, _ => none
  | K + 1, .c0 row =>
    natural_trim__row28_go K (.c1 row ((row.length : Nat) : Int))
  | K + 1, .c1 r28 n =>
    bif (decide ((0 : Int) < n)) then
      (gi r28 (IntKind.i64.wrap (n - (1 : Int)))).bind fun x2 =>
      bif (decide (x2 = (0 : Int))) then
        natural_trim__row28_go K (.c1 r28 (IntKind.i64.wrap (n - (1 : Int))))
      else
        natural_trim__row28_go K (.c2 r28 n)
    else
      natural_trim__row28_go K (.c2 r28 n)
  | _ + 1, .c2 r28 n =>
    bif (decide (n = (0 : Int))) then
      some none
    else
      gd (0 ≤ n ∧ 0 ≤ n.toNat ∧ n.toNat ≤ r28.length ∧ (0 = 0 ∨ 0 < r28.length)) <|
      some (some (n.toNat - 0))

def natural_trim__row28 (K : Nat) (row : (List Int)) : Option (Option Nat) := natural_trim__row28_go K (.c0 row)

noncomputable def natural_trim__row28_body : Code := codeOf prog 144
noncomputable def natural_trim__row28_pos : natural_trim__row28_Cut → List Fr
  | .c0 .. => [.code natural_trim__row28_body]
  | .c1 .. => [.code (.loop (atC natural_trim__row28_body [1,1,0,0,0])), .blk 0, .code (atC natural_trim__row28_body [1,1,1])]
  | .c2 .. => [.code (atC natural_trim__row28_body [1,1,1,0,0]), .code (atC natural_trim__row28_body [1,1,1,0,1]), .code (atC natural_trim__row28_body [1,1,1,1])]
def natural_trim__row28_st (H : List (Nat × Blk)) (exs : List V) : natural_trim__row28_Cut → St
  | .c0 row => ⟨idxV 0 [.c (C.row 28 0 row.length)], [(28, .row 101 1 (row.map ce_u32) 0)] ++ H, exs⟩
  | .c1 r28 n => ⟨[(0, .c (C.row 28 0 r28.length)), (3, vi .i64 n)], [(28, .row 101 1 (r28.map ce_u32) 0)] ++ H, exs⟩
  | .c2 r28 n => ⟨[(0, .c (C.row 28 0 r28.length)), (3, vi .i64 n)], [(28, .row 101 1 (r28.map ce_u32) 0)] ++ H, exs⟩
def natural_trim__row28_row : natural_trim__row28_Cut → List Int
  | .c0 row => row
  | .c1 r28 _ => r28
  | .c2 r28 _ => r28

def natural_trim__row28_S (cx : Cx) (H : List (Nat × Blk)) (exs : List V) (c : natural_trim__row28_Cut) (r : (Option Nat)) : Prop := Wk prog cx (EndsR prog 144 ([(28, .row 101 1 ((natural_trim__row28_row c).map ce_u32) 0)] ++ H) exs (rowRes 28 r)) (natural_trim__row28_pos c) .normal (natural_trim__row28_st H exs c)
abbrev natural_trim__row28_H (K : Nat) : Prop := ∀ c r, natural_trim__row28_go K c = some r → ∀ cx : Cx, cx.n = 23 → ∀ H exs, natural_trim__row28_S cx H exs c r

theorem natural_trim__row28_c0 {K} (ih : natural_trim__row28_H K) {cx} (hn : cx.n = 23) (H : List (Nat × Blk)) (exs : List V) {row} {r} (h : natural_trim__row28_go (K + 1) (.c0 row) = some r) : natural_trim__row28_S cx H exs (.c0 row) r := by
  rw [natural_trim__row28_go] at h
  exact wk_go (fuel := 56) [.reg [oo], .reg [oo, oo, oo], .pre [.rl 0 0 row.length, .keepT [0,3]]] _ hn (by kernel_rfl) (aC r0 <| aC (lq row) <| aN) (ih _ _ h cx hn H exs)

theorem natural_trim__row28_c1 {K} (ih : natural_trim__row28_H K) {cx} (hn : cx.n = 23) (H : List (Nat × Blk)) (exs : List V) {r28 n} {r} (h : natural_trim__row28_go (K + 1) (.c1 r28 n) = some r) : natural_trim__row28_S cx H exs (.c1 r28 n) r := by
  rw [natural_trim__row28_go] at h
  rcases bcases h with ⟨h1, h⟩ | ⟨h1, h⟩
  · skip
    obtain ⟨x2, h3, h⟩ := obind h
    rcases bcases h with ⟨h4, h⟩ | ⟨h4, h⟩
    · skip
      exact wk_go (fuel := 74) [.go, .reg [oo, oo, oo, .sb 8 true, oo, oo, oo, .op .ir, .op (.ld (ce_u32 x2)), oo, oo], .br true, .reg [oo, oo, oo], .pre [.rl 0 0 r28.length, .keepT [0,3]]] _ hn (by kernel_rfl) (aC h1 <| aC (gi_nn h3) <| aC (gi_lt2 h3 (by simp) : (IntKind.i64.wrap (n - (1 : Int))) < ((r28.length : Nat) : Int)) <| aC (gi_row ce_u32 h3 : (r28.map ce_u32)[(0 + (IntKind.i64.wrap (n - (1 : Int))).toNat)]? = some (ce_u32 x2)) <| aC h4 <| aC r0 <| aC (lq r28) <| aN) (ih _ _ h cx hn H exs)
    · skip
      exact wk_go (fuel := 72) [.go, .reg [oo, oo, oo, .sb 8 true, oo, oo, oo, .op .ir, .op (.ld (ce_u32 x2)), oo, oo], .br false, .pre [.rl 0 0 r28.length, .keepT [0,3]]] _ hn (by kernel_rfl) (aC h1 <| aC (gi_nn h3) <| aC (gi_lt2 h3 (by simp) : (IntKind.i64.wrap (n - (1 : Int))) < ((r28.length : Nat) : Int)) <| aC (gi_row ce_u32 h3 : (r28.map ce_u32)[(0 + (IntKind.i64.wrap (n - (1 : Int))).toNat)]? = some (ce_u32 x2)) <| aC h4 <| aC r0 <| aC (lq r28) <| aN) (ih _ _ h cx hn H exs)
  · skip
    exact wk_go (fuel := 72) [.go, .reg [oo, oo, oo, .sb 8 false, oo, oo, oo, oo, oo, oo, oo], .br false, .pre [.rl 0 0 r28.length, .keepT [0,3]]] _ hn (by kernel_rfl) (aC h1 <| aC rf <| aC r0 <| aC (lq r28) <| aN) (ih _ _ h cx hn H exs)

theorem natural_trim__row28_c2 {K} (_ : natural_trim__row28_H K) {cx} (hn : cx.n = 23) (H : List (Nat × Blk)) (exs : List V) {r28 n} {r} (h : natural_trim__row28_go (K + 1) (.c2 r28 n) = some r) : natural_trim__row28_S cx H exs (.c2 r28 n) r := by
  rw [natural_trim__row28_go] at h
  rcases bcases h with ⟨h1, h⟩ | ⟨h1, h⟩
  · skip
    have h := Option.some.inj h; subst h
    exact wk_retR (fuel := 60) [.reg [oo, oo], .br true, .reg [oo]]
      _
      ((28, .row 101 1 (r28.map ce_u32) 0) :: H) hn (by kernel_rfl) (aC h1 <| aN) (fun _ => rfl)
  · skip
    obtain ⟨h2, h⟩ := gd_some h
    have h := Option.some.inj h; subst h
    exact wk_retR (fuel := 60) [.reg [oo, oo], .br false, .reg [oo, oo, .op (.slR 0 n.toNat 0 (n.toNat - 0)), oo]]
      _
      ((28, .row 101 1 (r28.map ce_u32) 0) :: H) hn (by kernel_rfl) (aC h1 <| aC r0 <| aC (⟨h2.1, rfl⟩ : 0 ≤ n ∧ n.toNat = n.toNat) <| aC h2.2.1 <| aC h2.2.2.1 <| aC h2.2.2.2 <| aC (rfl : 0 + 0 = 0) <| aC (rfl : n.toNat - 0 = (n.toNat - 0)) <| aN) (fun _ => rfl)

theorem natural_trim__row28_all : ∀ K : Nat, natural_trim__row28_H K
  | 0, c, r, h => by rw [natural_trim__row28_go] at h; cases h
  | K + 1, .c0 .., r, h => fun cx hn H exs => natural_trim__row28_c0 (natural_trim__row28_all K) hn H exs h
  | K + 1, .c1 .., r, h => fun cx hn H exs => natural_trim__row28_c1 (natural_trim__row28_all K) hn H exs h
  | K + 1, .c2 .., r, h => fun cx hn H exs => natural_trim__row28_c2 (natural_trim__row28_all K) hn H exs h

theorem natural_trim__row28_holdsR {K : Nat} {row : List Int} {r : Option Nat} (h : natural_trim__row28 K row = some r) : HoldsR prog 144 [.c (C.row 28 0 row.length)] [(28, .row 101 1 (row.map ce_u32) 0)] [(28, .row 101 1 (row.map ce_u32) 0)] (rowRes 28 r) :=
  holdsR_wk (n := 23) (by kernel_rfl) (by simp) fun cx hn H exs => natural_trim__row28_all K (.c0 row) r h cx hn H exs
end Go.Am.X
namespace Go.Am.X
open Go.Proofs.Try (prog)


inductive natural_Shl__N_Cut where
  | c0 (a : (List Int)) (n : Int)
  | c1 (r28 : (List Int)) (shift : Int) (low : Int) (i : Int)

def natural_Shl__N_go : Nat → natural_Shl__N_Cut → Option (Option (List Int))
  | 0, _ => none
  | K + 1, .c0 a n =>
    (natural_trim K a).bind fun x1 =>
    bif (decide ((x1.length : Int) = (0 : Int))) then
      some none
    else
      gd (0 ≤ (IntKind.i64.wrap ((IntKind.i64.wrap ((IntKind.i64.wrap (Int.tdiv (min (max n (0 : Int)) (16777216 : Int)) (32 : Int))) + (x1.length : Int))) + (1 : Int))) ∧ (IntKind.i64.wrap ((IntKind.i64.wrap ((IntKind.i64.wrap (Int.tdiv (min (max n (0 : Int)) (16777216 : Int)) (32 : Int))) + (x1.length : Int))) + (1 : Int))) ≤ (IntKind.i64.wrap ((IntKind.i64.wrap ((IntKind.i64.wrap (Int.tdiv (min (max n (0 : Int)) (16777216 : Int)) (32 : Int))) + (x1.length : Int))) + (1 : Int))) ∧ (4 : Int) * (IntKind.i64.wrap ((IntKind.i64.wrap ((IntKind.i64.wrap (Int.tdiv (min (max n (0 : Int)) (16777216 : Int)) (32 : Int))) + (x1.length : Int))) + (1 : Int))) ≤ 140737488355328) <|
      gd (0 ≤ (IntKind.i64.wrap (Int.tdiv (min (max n (0 : Int)) (16777216 : Int)) (32 : Int))) ∧ (IntKind.i64.wrap (Int.tdiv (min (max n (0 : Int)) (16777216 : Int)) (32 : Int))).toNat ≤ (IntKind.i64.wrap ((IntKind.i64.wrap ((IntKind.i64.wrap (Int.tdiv (min (max n (0 : Int)) (16777216 : Int)) (32 : Int))) + (x1.length : Int))) + (1 : Int))).toNat ∧ (IntKind.i64.wrap ((IntKind.i64.wrap ((IntKind.i64.wrap (Int.tdiv (min (max n (0 : Int)) (16777216 : Int)) (32 : Int))) + (x1.length : Int))) + (1 : Int))).toNat ≤ (IntKind.i64.wrap ((IntKind.i64.wrap ((IntKind.i64.wrap (Int.tdiv (min (max n (0 : Int)) (16777216 : Int)) (32 : Int))) + (x1.length : Int))) + (1 : Int))).toNat ∧ ((IntKind.i64.wrap (Int.tdiv (min (max n (0 : Int)) (16777216 : Int)) (32 : Int))).toNat = 0 ∨ (IntKind.i64.wrap (Int.tdiv (min (max n (0 : Int)) (16777216 : Int)) (32 : Int))).toNat < (IntKind.i64.wrap ((IntKind.i64.wrap ((IntKind.i64.wrap (Int.tdiv (min (max n (0 : Int)) (16777216 : Int)) (32 : Int))) + (x1.length : Int))) + (1 : Int))).toNat)) <|
      gd ((0 + (IntKind.i64.wrap (Int.tdiv (min (max n (0 : Int)) (16777216 : Int)) (32 : Int))).toNat) + ((IntKind.i64.wrap ((IntKind.i64.wrap ((IntKind.i64.wrap (Int.tdiv (min (max n (0 : Int)) (16777216 : Int)) (32 : Int))) + (x1.length : Int))) + (1 : Int))).toNat - (IntKind.i64.wrap (Int.tdiv (min (max n (0 : Int)) (16777216 : Int)) (32 : Int))).toNat) ≤ (List.replicate (IntKind.i64.wrap ((IntKind.i64.wrap ((IntKind.i64.wrap (Int.tdiv (min (max n (0 : Int)) (16777216 : Int)) (32 : Int))) + (x1.length : Int))) + (1 : Int))).toNat ((0 : Int) : Int)).length) <|
      bif (decide ((0 : Int) < (Int.tmod (min (max n (0 : Int)) (16777216 : Int)) (32 : Int)))) then
        natural_Shl__N_go K (.c1 (copied (List.replicate (IntKind.i64.wrap ((IntKind.i64.wrap ((IntKind.i64.wrap (Int.tdiv (min (max n (0 : Int)) (16777216 : Int)) (32 : Int))) + (x1.length : Int))) + (1 : Int))).toNat ((0 : Int) : Int)) (0 + (IntKind.i64.wrap (Int.tdiv (min (max n (0 : Int)) (16777216 : Int)) (32 : Int))).toNat) ((IntKind.i64.wrap ((IntKind.i64.wrap ((IntKind.i64.wrap (Int.tdiv (min (max n (0 : Int)) (16777216 : Int)) (32 : Int))) + (x1.length : Int))) + (1 : Int))).toNat - (IntKind.i64.wrap (Int.tdiv (min (max n (0 : Int)) (16777216 : Int)) (32 : Int))).toNat) x1) (Int.tmod (min (max n (0 : Int)) (16777216 : Int)) (32 : Int)) (0 : Int) (IntKind.i64.wrap (Int.tdiv (min (max n (0 : Int)) (16777216 : Int)) (32 : Int))))
      else
        (natural_trim__row28 K (copied (List.replicate (IntKind.i64.wrap ((IntKind.i64.wrap ((IntKind.i64.wrap (Int.tdiv (min (max n (0 : Int)) (16777216 : Int)) (32 : Int))) + (x1.length : Int))) + (1 : Int))).toNat ((0 : Int) : Int)) (0 + (IntKind.i64.wrap (Int.tdiv (min (max n (0 : Int)) (16777216 : Int)) (32 : Int))).toNat) ((IntKind.i64.wrap ((IntKind.i64.wrap ((IntKind.i64.wrap (Int.tdiv (min (max n (0 : Int)) (16777216 : Int)) (32 : Int))) + (x1.length : Int))) + (1 : Int))).toNat - (IntKind.i64.wrap (Int.tdiv (min (max n (0 : Int)) (16777216 : Int)) (32 : Int))).toNat) x1)).bind fun x9 => match x9 with
        | none =>
          some none
        | some n10 =>
          gd (n10 ≤ (copied (List.replicate (IntKind.i64.wrap ((IntKind.i64.wrap ((IntKind.i64.wrap (Int.tdiv (min (max n (0 : Int)) (16777216 : Int)) (32 : Int))) + (x1.length : Int))) + (1 : Int))).toNat ((0 : Int) : Int)) (0 + (IntKind.i64.wrap (Int.tdiv (min (max n (0 : Int)) (16777216 : Int)) (32 : Int))).toNat) ((IntKind.i64.wrap ((IntKind.i64.wrap ((IntKind.i64.wrap (Int.tdiv (min (max n (0 : Int)) (16777216 : Int)) (32 : Int))) + (x1.length : Int))) + (1 : Int))).toNat - (IntKind.i64.wrap (Int.tdiv (min (max n (0 : Int)) (16777216 : Int)) (32 : Int))).toNat) x1).length) <|
          some (some ((copied (List.replicate (IntKind.i64.wrap ((IntKind.i64.wrap ((IntKind.i64.wrap (Int.tdiv (min (max n (0 : Int)) (16777216 : Int)) (32 : Int))) + (x1.length : Int))) + (1 : Int))).toNat ((0 : Int) : Int)) (0 + (IntKind.i64.wrap (Int.tdiv (min (max n (0 : Int)) (16777216 : Int)) (32 : Int))).toNat) ((IntKind.i64.wrap ((IntKind.i64.wrap ((IntKind.i64.wrap (Int.tdiv (min (max n (0 : Int)) (16777216 : Int)) (32 : Int))) + (x1.length : Int))) + (1 : Int))).toNat - (IntKind.i64.wrap (Int.tdiv (min (max n (0 : Int)) (16777216 : Int)) (32 : Int))).toNat) x1).take n10))
  | K + 1, .c1 r28 shift low i =>
    bif (decide (i < ((r28.length : Nat) : Int))) then
      (gi r28 i).bind fun x2 =>
      gd (0 ≤ shift) <|
      (gi r28 i).bind fun _ =>
      gd (0 ≤ (IntKind.i64.wrap ((32 : Int) - shift))) <|
      natural_Shl__N_go K (.c1 (r28.set (i.toNat) (bits .or .u32 (shlOp .u32 x2 shift) low)) shift (shrOp .u32 x2 (IntKind.i64.wrap ((32 : Int) - shift))) (IntKind.i64.wrap (i + (1 : Int))))
    else
      (natural_trim__row28 K r28).bind fun x3 => match x3 with
      | none =>
        some none
      | some n4 =>
        gd (n4 ≤ r28.length) <|
        some (some (r28.take n4))

def natural_Shl__N (K : Nat) (a : (List Int)) (n : Int) : Option (Option (List Int)) := natural_Shl__N_go K (.c0 a n)

noncomputable def natural_Shl__N_body : Code := codeOf prog 142
noncomputable def natural_Shl__N_pos : natural_Shl__N_Cut → List Fr
  | .c0 .. => [.code natural_Shl__N_body]
  | .c1 .. => [.code (.loop (atC natural_Shl__N_body [1,1,1,1,1,1,1,0,1,0,1,1,0,0])), .blk 0, .code (atC natural_Shl__N_body [1,1,1,1,1,1,1,1])]
def natural_Shl__N_st : natural_Shl__N_Cut → St
  | .c0 a n => St.init [(tl 1 a ce_u32), (ti .i64 n)]
  | .c1 r28 shift low i => ⟨[(6, vi .i64 shift), (7, .c (C.row 28 0 r28.length)), (8, vi .u32 low), (9, vi .i64 i)], [(28, .row 101 1 (r28.map ce_u32) 0)], []⟩

def natural_Shl__N_S (cx : Cx) (c : natural_Shl__N_Cut) (r : (Option (List Int))) : Prop := Wk prog cx (EndsN prog 142 101 1 (r.map fun l => l.map ce_u32)) (natural_Shl__N_pos c) .normal (natural_Shl__N_st c)
abbrev natural_Shl__N_H (K : Nat) : Prop := ∀ c r, natural_Shl__N_go K c = some r → ∀ cx : Cx, cx.n = 61 → natural_Shl__N_S cx c r

theorem natural_Shl__N_c0 {K} (ih : natural_Shl__N_H K) {cx} (hn : cx.n = 61) {a n} {r} (h : natural_Shl__N_go (K + 1) (.c0 a n) = some r) : natural_Shl__N_S cx (.c0 a n) r := by
  rw [natural_Shl__N_go] at h
  obtain ⟨x1, h2, h⟩ := obind h
  rcases bcases h with ⟨h3, h⟩ | ⟨h3, h⟩
  · skip
    have h := Option.some.inj h; subst h
    exact wk_retN0 (fuel := 80) [.reg [oo], .reg [oo, .op (.call [[1]] [(tl 1 a ce_u32)] (tl 1 x1 ce_u32)), oo], .reg [oo, .op (.ln (x1.length : Int)), oo], .br true, .reg [oo]] _ hn (by kernel_rfl) (aC (natural_trim_holds h2) <| aC (ln_eq x1 ce_u32) <| aC h3 <| aN)
  · skip
    obtain ⟨h4, h⟩ := gd_some h
    obtain ⟨h5, h⟩ := gd_some h
    obtain ⟨h6, h⟩ := gd_some h
    rcases bcases h with ⟨h7, h⟩ | ⟨h7, h⟩
    · skip
      exact wk_go (fuel := 136) [.reg [oo], .reg [oo, .op (.call [[1]] [(tl 1 a ce_u32)] (tl 1 x1 ce_u32)), oo], .reg [oo, .op (.ln (x1.length : Int)), oo], .br false, .reg [oo, oo, oo, oo], .reg [oo, oo, oo, oo, oo, oo], .reg [oo, oo, .op (.ln (x1.length : Int)), oo, oo, .op (.mk (ce_u32 (0 : Int)) ((List.replicate (IntKind.i64.wrap ((IntKind.i64.wrap ((IntKind.i64.wrap (Int.tdiv (min (max n (0 : Int)) (16777216 : Int)) (32 : Int))) + (x1.length : Int))) + (1 : Int))).toNat ((0 : Int) : Int)).map ce_u32)), oo], .reg [oo, oo, .op (.slR ((IntKind.i64.wrap (Int.tdiv (min (max n (0 : Int)) (16777216 : Int)) (32 : Int))).toNat) ((IntKind.i64.wrap ((IntKind.i64.wrap ((IntKind.i64.wrap (Int.tdiv (min (max n (0 : Int)) (16777216 : Int)) (32 : Int))) + (x1.length : Int))) + (1 : Int))).toNat) (0 + (IntKind.i64.wrap (Int.tdiv (min (max n (0 : Int)) (16777216 : Int)) (32 : Int))).toNat) ((IntKind.i64.wrap ((IntKind.i64.wrap ((IntKind.i64.wrap (Int.tdiv (min (max n (0 : Int)) (16777216 : Int)) (32 : Int))) + (x1.length : Int))) + (1 : Int))).toNat - (IntKind.i64.wrap (Int.tdiv (min (max n (0 : Int)) (16777216 : Int)) (32 : Int))).toNat)), oo, .op (.cp (x1.map ce_u32) ((copied (List.replicate (IntKind.i64.wrap ((IntKind.i64.wrap ((IntKind.i64.wrap (Int.tdiv (min (max n (0 : Int)) (16777216 : Int)) (32 : Int))) + (x1.length : Int))) + (1 : Int))).toNat ((0 : Int) : Int)) (0 + (IntKind.i64.wrap (Int.tdiv (min (max n (0 : Int)) (16777216 : Int)) (32 : Int))).toNat) ((IntKind.i64.wrap ((IntKind.i64.wrap ((IntKind.i64.wrap (Int.tdiv (min (max n (0 : Int)) (16777216 : Int)) (32 : Int))) + (x1.length : Int))) + (1 : Int))).toNat - (IntKind.i64.wrap (Int.tdiv (min (max n (0 : Int)) (16777216 : Int)) (32 : Int))).toNat) x1).map ce_u32) ((min x1.length ((IntKind.i64.wrap ((IntKind.i64.wrap ((IntKind.i64.wrap (Int.tdiv (min (max n (0 : Int)) (16777216 : Int)) (32 : Int))) + (x1.length : Int))) + (1 : Int))).toNat - (IntKind.i64.wrap (Int.tdiv (min (max n (0 : Int)) (16777216 : Int)) (32 : Int))).toNat) : Nat) : Int))], .reg [oo, oo], .br true, .reg [oo], .reg [oo, oo], .pre [.rl 7 0 (copied (List.replicate (IntKind.i64.wrap ((IntKind.i64.wrap ((IntKind.i64.wrap (Int.tdiv (min (max n (0 : Int)) (16777216 : Int)) (32 : Int))) + (x1.length : Int))) + (1 : Int))).toNat ((0 : Int) : Int)) (0 + (IntKind.i64.wrap (Int.tdiv (min (max n (0 : Int)) (16777216 : Int)) (32 : Int))).toNat) ((IntKind.i64.wrap ((IntKind.i64.wrap ((IntKind.i64.wrap (Int.tdiv (min (max n (0 : Int)) (16777216 : Int)) (32 : Int))) + (x1.length : Int))) + (1 : Int))).toNat - (IntKind.i64.wrap (Int.tdiv (min (max n (0 : Int)) (16777216 : Int)) (32 : Int))).toNat) x1).length, .keep [6,7,8,9] [28]]] _ hn (by kernel_rfl) (aC (natural_trim_holds h2) <| aC (ln_eq x1 ce_u32) <| aC h3 <| aC (ln_eq x1 ce_u32) <| aC h4.1 <| aC h4.2.1 <| aC h4.2.2 <| aC (rep_map _ _ _ : List.replicate (IntKind.i64.wrap ((IntKind.i64.wrap ((IntKind.i64.wrap (Int.tdiv (min (max n (0 : Int)) (16777216 : Int)) (32 : Int))) + (x1.length : Int))) + (1 : Int))).toNat (ce_u32 (0 : Int)) = (List.replicate (IntKind.i64.wrap ((IntKind.i64.wrap ((IntKind.i64.wrap (Int.tdiv (min (max n (0 : Int)) (16777216 : Int)) (32 : Int))) + (x1.length : Int))) + (1 : Int))).toNat ((0 : Int) : Int)).map ce_u32) <| aC (⟨h5.1, rfl⟩ : 0 ≤ (IntKind.i64.wrap (Int.tdiv (min (max n (0 : Int)) (16777216 : Int)) (32 : Int))) ∧ (IntKind.i64.wrap (Int.tdiv (min (max n (0 : Int)) (16777216 : Int)) (32 : Int))).toNat = (IntKind.i64.wrap (Int.tdiv (min (max n (0 : Int)) (16777216 : Int)) (32 : Int))).toNat) <| aC (rfl : (IntKind.i64.wrap ((IntKind.i64.wrap ((IntKind.i64.wrap (Int.tdiv (min (max n (0 : Int)) (16777216 : Int)) (32 : Int))) + (x1.length : Int))) + (1 : Int))).toNat = (IntKind.i64.wrap ((IntKind.i64.wrap ((IntKind.i64.wrap (Int.tdiv (min (max n (0 : Int)) (16777216 : Int)) (32 : Int))) + (x1.length : Int))) + (1 : Int))).toNat) <| aC h5.2.1 <| aC h5.2.2.1 <| aC h5.2.2.2 <| aC (rfl : 0 + (IntKind.i64.wrap (Int.tdiv (min (max n (0 : Int)) (16777216 : Int)) (32 : Int))).toNat = (0 + (IntKind.i64.wrap (Int.tdiv (min (max n (0 : Int)) (16777216 : Int)) (32 : Int))).toNat)) <| aC (rfl : (IntKind.i64.wrap ((IntKind.i64.wrap ((IntKind.i64.wrap (Int.tdiv (min (max n (0 : Int)) (16777216 : Int)) (32 : Int))) + (x1.length : Int))) + (1 : Int))).toNat - (IntKind.i64.wrap (Int.tdiv (min (max n (0 : Int)) (16777216 : Int)) (32 : Int))).toNat = ((IntKind.i64.wrap ((IntKind.i64.wrap ((IntKind.i64.wrap (Int.tdiv (min (max n (0 : Int)) (16777216 : Int)) (32 : Int))) + (x1.length : Int))) + (1 : Int))).toNat - (IntKind.i64.wrap (Int.tdiv (min (max n (0 : Int)) (16777216 : Int)) (32 : Int))).toNat)) <| aC (rfl : x1.map ce_u32 = x1.map ce_u32) <| aC (copied_map _ _ _ _ _ h6 : splice ((List.replicate (IntKind.i64.wrap ((IntKind.i64.wrap ((IntKind.i64.wrap (Int.tdiv (min (max n (0 : Int)) (16777216 : Int)) (32 : Int))) + (x1.length : Int))) + (1 : Int))).toNat ((0 : Int) : Int)).map ce_u32) (0 + (IntKind.i64.wrap (Int.tdiv (min (max n (0 : Int)) (16777216 : Int)) (32 : Int))).toNat) ((x1.map ce_u32).take (min (x1.map ce_u32).length ((IntKind.i64.wrap ((IntKind.i64.wrap ((IntKind.i64.wrap (Int.tdiv (min (max n (0 : Int)) (16777216 : Int)) (32 : Int))) + (x1.length : Int))) + (1 : Int))).toNat - (IntKind.i64.wrap (Int.tdiv (min (max n (0 : Int)) (16777216 : Int)) (32 : Int))).toNat))) = (copied (List.replicate (IntKind.i64.wrap ((IntKind.i64.wrap ((IntKind.i64.wrap (Int.tdiv (min (max n (0 : Int)) (16777216 : Int)) (32 : Int))) + (x1.length : Int))) + (1 : Int))).toNat ((0 : Int) : Int)) (0 + (IntKind.i64.wrap (Int.tdiv (min (max n (0 : Int)) (16777216 : Int)) (32 : Int))).toNat) ((IntKind.i64.wrap ((IntKind.i64.wrap ((IntKind.i64.wrap (Int.tdiv (min (max n (0 : Int)) (16777216 : Int)) (32 : Int))) + (x1.length : Int))) + (1 : Int))).toNat - (IntKind.i64.wrap (Int.tdiv (min (max n (0 : Int)) (16777216 : Int)) (32 : Int))).toNat) x1).map ce_u32) <| aC (by rw [len_map] : ((min (x1.map ce_u32).length ((IntKind.i64.wrap ((IntKind.i64.wrap ((IntKind.i64.wrap (Int.tdiv (min (max n (0 : Int)) (16777216 : Int)) (32 : Int))) + (x1.length : Int))) + (1 : Int))).toNat - (IntKind.i64.wrap (Int.tdiv (min (max n (0 : Int)) (16777216 : Int)) (32 : Int))).toNat) : Nat) : Int) = ((min x1.length ((IntKind.i64.wrap ((IntKind.i64.wrap ((IntKind.i64.wrap (Int.tdiv (min (max n (0 : Int)) (16777216 : Int)) (32 : Int))) + (x1.length : Int))) + (1 : Int))).toNat - (IntKind.i64.wrap (Int.tdiv (min (max n (0 : Int)) (16777216 : Int)) (32 : Int))).toNat) : Nat) : Int)) <| aC h7 <| aC r0 <| aC (by simp : (IntKind.i64.wrap ((IntKind.i64.wrap ((IntKind.i64.wrap (Int.tdiv (min (max n (0 : Int)) (16777216 : Int)) (32 : Int))) + (x1.length : Int))) + (1 : Int))).toNat = (copied (List.replicate (IntKind.i64.wrap ((IntKind.i64.wrap ((IntKind.i64.wrap (Int.tdiv (min (max n (0 : Int)) (16777216 : Int)) (32 : Int))) + (x1.length : Int))) + (1 : Int))).toNat ((0 : Int) : Int)) (0 + (IntKind.i64.wrap (Int.tdiv (min (max n (0 : Int)) (16777216 : Int)) (32 : Int))).toNat) ((IntKind.i64.wrap ((IntKind.i64.wrap ((IntKind.i64.wrap (Int.tdiv (min (max n (0 : Int)) (16777216 : Int)) (32 : Int))) + (x1.length : Int))) + (1 : Int))).toNat - (IntKind.i64.wrap (Int.tdiv (min (max n (0 : Int)) (16777216 : Int)) (32 : Int))).toNat) x1).length) <| aN) (ih _ _ h cx hn)
    · skip
      obtain ⟨x9, h8, h⟩ := obind h
      cases x9 with
      | none =>
        have h := Option.some.inj h; subst h
        exact wk_retN0 (fuel := 130) [.reg [oo], .reg [oo, .op (.call [[1]] [(tl 1 a ce_u32)] (tl 1 x1 ce_u32)), oo], .reg [oo, .op (.ln (x1.length : Int)), oo], .br false, .reg [oo, oo, oo, oo], .reg [oo, oo, oo, oo, oo, oo], .reg [oo, oo, .op (.ln (x1.length : Int)), oo, oo, .op (.mk (ce_u32 (0 : Int)) ((List.replicate (IntKind.i64.wrap ((IntKind.i64.wrap ((IntKind.i64.wrap (Int.tdiv (min (max n (0 : Int)) (16777216 : Int)) (32 : Int))) + (x1.length : Int))) + (1 : Int))).toNat ((0 : Int) : Int)).map ce_u32)), oo], .reg [oo, oo, .op (.slR ((IntKind.i64.wrap (Int.tdiv (min (max n (0 : Int)) (16777216 : Int)) (32 : Int))).toNat) ((IntKind.i64.wrap ((IntKind.i64.wrap ((IntKind.i64.wrap (Int.tdiv (min (max n (0 : Int)) (16777216 : Int)) (32 : Int))) + (x1.length : Int))) + (1 : Int))).toNat) (0 + (IntKind.i64.wrap (Int.tdiv (min (max n (0 : Int)) (16777216 : Int)) (32 : Int))).toNat) ((IntKind.i64.wrap ((IntKind.i64.wrap ((IntKind.i64.wrap (Int.tdiv (min (max n (0 : Int)) (16777216 : Int)) (32 : Int))) + (x1.length : Int))) + (1 : Int))).toNat - (IntKind.i64.wrap (Int.tdiv (min (max n (0 : Int)) (16777216 : Int)) (32 : Int))).toNat)), oo, .op (.cp (x1.map ce_u32) ((copied (List.replicate (IntKind.i64.wrap ((IntKind.i64.wrap ((IntKind.i64.wrap (Int.tdiv (min (max n (0 : Int)) (16777216 : Int)) (32 : Int))) + (x1.length : Int))) + (1 : Int))).toNat ((0 : Int) : Int)) (0 + (IntKind.i64.wrap (Int.tdiv (min (max n (0 : Int)) (16777216 : Int)) (32 : Int))).toNat) ((IntKind.i64.wrap ((IntKind.i64.wrap ((IntKind.i64.wrap (Int.tdiv (min (max n (0 : Int)) (16777216 : Int)) (32 : Int))) + (x1.length : Int))) + (1 : Int))).toNat - (IntKind.i64.wrap (Int.tdiv (min (max n (0 : Int)) (16777216 : Int)) (32 : Int))).toNat) x1).map ce_u32) ((min x1.length ((IntKind.i64.wrap ((IntKind.i64.wrap ((IntKind.i64.wrap (Int.tdiv (min (max n (0 : Int)) (16777216 : Int)) (32 : Int))) + (x1.length : Int))) + (1 : Int))).toNat - (IntKind.i64.wrap (Int.tdiv (min (max n (0 : Int)) (16777216 : Int)) (32 : Int))).toNat) : Nat) : Int))], .reg [oo, oo], .br false, .reg [oo, .rl 59 0 (copied (List.replicate (IntKind.i64.wrap ((IntKind.i64.wrap ((IntKind.i64.wrap (Int.tdiv (min (max n (0 : Int)) (16777216 : Int)) (32 : Int))) + (x1.length : Int))) + (1 : Int))).toNat ((0 : Int) : Int)) (0 + (IntKind.i64.wrap (Int.tdiv (min (max n (0 : Int)) (16777216 : Int)) (32 : Int))).toNat) ((IntKind.i64.wrap ((IntKind.i64.wrap ((IntKind.i64.wrap (Int.tdiv (min (max n (0 : Int)) (16777216 : Int)) (32 : Int))) + (x1.length : Int))) + (1 : Int))).toNat - (IntKind.i64.wrap (Int.tdiv (min (max n (0 : Int)) (16777216 : Int)) (32 : Int))).toNat) x1).length, .callR [28] [(28, .row 101 1 ((copied (List.replicate (IntKind.i64.wrap ((IntKind.i64.wrap ((IntKind.i64.wrap (Int.tdiv (min (max n (0 : Int)) (16777216 : Int)) (32 : Int))) + (x1.length : Int))) + (1 : Int))).toNat ((0 : Int) : Int)) (0 + (IntKind.i64.wrap (Int.tdiv (min (max n (0 : Int)) (16777216 : Int)) (32 : Int))).toNat) ((IntKind.i64.wrap ((IntKind.i64.wrap ((IntKind.i64.wrap (Int.tdiv (min (max n (0 : Int)) (16777216 : Int)) (32 : Int))) + (x1.length : Int))) + (1 : Int))).toNat - (IntKind.i64.wrap (Int.tdiv (min (max n (0 : Int)) (16777216 : Int)) (32 : Int))).toNat) x1).map ce_u32) 0)] (.c C.nil), oo]] _ hn (by kernel_rfl) (aC (natural_trim_holds h2) <| aC (ln_eq x1 ce_u32) <| aC h3 <| aC (ln_eq x1 ce_u32) <| aC h4.1 <| aC h4.2.1 <| aC h4.2.2 <| aC (rep_map _ _ _ : List.replicate (IntKind.i64.wrap ((IntKind.i64.wrap ((IntKind.i64.wrap (Int.tdiv (min (max n (0 : Int)) (16777216 : Int)) (32 : Int))) + (x1.length : Int))) + (1 : Int))).toNat (ce_u32 (0 : Int)) = (List.replicate (IntKind.i64.wrap ((IntKind.i64.wrap ((IntKind.i64.wrap (Int.tdiv (min (max n (0 : Int)) (16777216 : Int)) (32 : Int))) + (x1.length : Int))) + (1 : Int))).toNat ((0 : Int) : Int)).map ce_u32) <| aC (⟨h5.1, rfl⟩ : 0 ≤ (IntKind.i64.wrap (Int.tdiv (min (max n (0 : Int)) (16777216 : Int)) (32 : Int))) ∧ (IntKind.i64.wrap (Int.tdiv (min (max n (0 : Int)) (16777216 : Int)) (32 : Int))).toNat = (IntKind.i64.wrap (Int.tdiv (min (max n (0 : Int)) (16777216 : Int)) (32 : Int))).toNat) <| aC (rfl : (IntKind.i64.wrap ((IntKind.i64.wrap ((IntKind.i64.wrap (Int.tdiv (min (max n (0 : Int)) (16777216 : Int)) (32 : Int))) + (x1.length : Int))) + (1 : Int))).toNat = (IntKind.i64.wrap ((IntKind.i64.wrap ((IntKind.i64.wrap (Int.tdiv (min (max n (0 : Int)) (16777216 : Int)) (32 : Int))) + (x1.length : Int))) + (1 : Int))).toNat) <| aC h5.2.1 <| aC h5.2.2.1 <| aC h5.2.2.2 <| aC (rfl : 0 + (IntKind.i64.wrap (Int.tdiv (min (max n (0 : Int)) (16777216 : Int)) (32 : Int))).toNat = (0 + (IntKind.i64.wrap (Int.tdiv (min (max n (0 : Int)) (16777216 : Int)) (32 : Int))).toNat)) <| aC (rfl : (IntKind.i64.wrap ((IntKind.i64.wrap ((IntKind.i64.wrap (Int.tdiv (min (max n (0 : Int)) (16777216 : Int)) (32 : Int))) + (x1.length : Int))) + (1 : Int))).toNat - (IntKind.i64.wrap (Int.tdiv (min (max n (0 : Int)) (16777216 : Int)) (32 : Int))).toNat = ((IntKind.i64.wrap ((IntKind.i64.wrap ((IntKind.i64.wrap (Int.tdiv (min (max n (0 : Int)) (16777216 : Int)) (32 : Int))) + (x1.length : Int))) + (1 : Int))).toNat - (IntKind.i64.wrap (Int.tdiv (min (max n (0 : Int)) (16777216 : Int)) (32 : Int))).toNat)) <| aC (rfl : x1.map ce_u32 = x1.map ce_u32) <| aC (copied_map _ _ _ _ _ h6 : splice ((List.replicate (IntKind.i64.wrap ((IntKind.i64.wrap ((IntKind.i64.wrap (Int.tdiv (min (max n (0 : Int)) (16777216 : Int)) (32 : Int))) + (x1.length : Int))) + (1 : Int))).toNat ((0 : Int) : Int)).map ce_u32) (0 + (IntKind.i64.wrap (Int.tdiv (min (max n (0 : Int)) (16777216 : Int)) (32 : Int))).toNat) ((x1.map ce_u32).take (min (x1.map ce_u32).length ((IntKind.i64.wrap ((IntKind.i64.wrap ((IntKind.i64.wrap (Int.tdiv (min (max n (0 : Int)) (16777216 : Int)) (32 : Int))) + (x1.length : Int))) + (1 : Int))).toNat - (IntKind.i64.wrap (Int.tdiv (min (max n (0 : Int)) (16777216 : Int)) (32 : Int))).toNat))) = (copied (List.replicate (IntKind.i64.wrap ((IntKind.i64.wrap ((IntKind.i64.wrap (Int.tdiv (min (max n (0 : Int)) (16777216 : Int)) (32 : Int))) + (x1.length : Int))) + (1 : Int))).toNat ((0 : Int) : Int)) (0 + (IntKind.i64.wrap (Int.tdiv (min (max n (0 : Int)) (16777216 : Int)) (32 : Int))).toNat) ((IntKind.i64.wrap ((IntKind.i64.wrap ((IntKind.i64.wrap (Int.tdiv (min (max n (0 : Int)) (16777216 : Int)) (32 : Int))) + (x1.length : Int))) + (1 : Int))).toNat - (IntKind.i64.wrap (Int.tdiv (min (max n (0 : Int)) (16777216 : Int)) (32 : Int))).toNat) x1).map ce_u32) <| aC (by rw [len_map] : ((min (x1.map ce_u32).length ((IntKind.i64.wrap ((IntKind.i64.wrap ((IntKind.i64.wrap (Int.tdiv (min (max n (0 : Int)) (16777216 : Int)) (32 : Int))) + (x1.length : Int))) + (1 : Int))).toNat - (IntKind.i64.wrap (Int.tdiv (min (max n (0 : Int)) (16777216 : Int)) (32 : Int))).toNat) : Nat) : Int) = ((min x1.length ((IntKind.i64.wrap ((IntKind.i64.wrap ((IntKind.i64.wrap (Int.tdiv (min (max n (0 : Int)) (16777216 : Int)) (32 : Int))) + (x1.length : Int))) + (1 : Int))).toNat - (IntKind.i64.wrap (Int.tdiv (min (max n (0 : Int)) (16777216 : Int)) (32 : Int))).toNat) : Nat) : Int)) <| aC h7 <| aC r0 <| aC (by simp : (IntKind.i64.wrap ((IntKind.i64.wrap ((IntKind.i64.wrap (Int.tdiv (min (max n (0 : Int)) (16777216 : Int)) (32 : Int))) + (x1.length : Int))) + (1 : Int))).toNat = (copied (List.replicate (IntKind.i64.wrap ((IntKind.i64.wrap ((IntKind.i64.wrap (Int.tdiv (min (max n (0 : Int)) (16777216 : Int)) (32 : Int))) + (x1.length : Int))) + (1 : Int))).toNat ((0 : Int) : Int)) (0 + (IntKind.i64.wrap (Int.tdiv (min (max n (0 : Int)) (16777216 : Int)) (32 : Int))).toNat) ((IntKind.i64.wrap ((IntKind.i64.wrap ((IntKind.i64.wrap (Int.tdiv (min (max n (0 : Int)) (16777216 : Int)) (32 : Int))) + (x1.length : Int))) + (1 : Int))).toNat - (IntKind.i64.wrap (Int.tdiv (min (max n (0 : Int)) (16777216 : Int)) (32 : Int))).toNat) x1).length) <| aC (natural_trim__row28_holdsR h8) <| aN)
      | some n10 =>
        obtain ⟨h11, h⟩ := gd_some h
        have h := Option.some.inj h; subst h
        exact wk_retN1 (es := (((copied (List.replicate (IntKind.i64.wrap ((IntKind.i64.wrap ((IntKind.i64.wrap (Int.tdiv (min (max n (0 : Int)) (16777216 : Int)) (32 : Int))) + (x1.length : Int))) + (1 : Int))).toNat ((0 : Int) : Int)) (0 + (IntKind.i64.wrap (Int.tdiv (min (max n (0 : Int)) (16777216 : Int)) (32 : Int))).toNat) ((IntKind.i64.wrap ((IntKind.i64.wrap ((IntKind.i64.wrap (Int.tdiv (min (max n (0 : Int)) (16777216 : Int)) (32 : Int))) + (x1.length : Int))) + (1 : Int))).toNat - (IntKind.i64.wrap (Int.tdiv (min (max n (0 : Int)) (16777216 : Int)) (32 : Int))).toNat) x1).take n10).map ce_u32)) (m := n10) (es0 := (copied (List.replicate (IntKind.i64.wrap ((IntKind.i64.wrap ((IntKind.i64.wrap (Int.tdiv (min (max n (0 : Int)) (16777216 : Int)) (32 : Int))) + (x1.length : Int))) + (1 : Int))).toNat ((0 : Int) : Int)) (0 + (IntKind.i64.wrap (Int.tdiv (min (max n (0 : Int)) (16777216 : Int)) (32 : Int))).toNat) ((IntKind.i64.wrap ((IntKind.i64.wrap ((IntKind.i64.wrap (Int.tdiv (min (max n (0 : Int)) (16777216 : Int)) (32 : Int))) + (x1.length : Int))) + (1 : Int))).toNat - (IntKind.i64.wrap (Int.tdiv (min (max n (0 : Int)) (16777216 : Int)) (32 : Int))).toNat) x1).map ce_u32) (fuel := 130) [.reg [oo], .reg [oo, .op (.call [[1]] [(tl 1 a ce_u32)] (tl 1 x1 ce_u32)), oo], .reg [oo, .op (.ln (x1.length : Int)), oo], .br false, .reg [oo, oo, oo, oo], .reg [oo, oo, oo, oo, oo, oo], .reg [oo, oo, .op (.ln (x1.length : Int)), oo, oo, .op (.mk (ce_u32 (0 : Int)) ((List.replicate (IntKind.i64.wrap ((IntKind.i64.wrap ((IntKind.i64.wrap (Int.tdiv (min (max n (0 : Int)) (16777216 : Int)) (32 : Int))) + (x1.length : Int))) + (1 : Int))).toNat ((0 : Int) : Int)).map ce_u32)), oo], .reg [oo, oo, .op (.slR ((IntKind.i64.wrap (Int.tdiv (min (max n (0 : Int)) (16777216 : Int)) (32 : Int))).toNat) ((IntKind.i64.wrap ((IntKind.i64.wrap ((IntKind.i64.wrap (Int.tdiv (min (max n (0 : Int)) (16777216 : Int)) (32 : Int))) + (x1.length : Int))) + (1 : Int))).toNat) (0 + (IntKind.i64.wrap (Int.tdiv (min (max n (0 : Int)) (16777216 : Int)) (32 : Int))).toNat) ((IntKind.i64.wrap ((IntKind.i64.wrap ((IntKind.i64.wrap (Int.tdiv (min (max n (0 : Int)) (16777216 : Int)) (32 : Int))) + (x1.length : Int))) + (1 : Int))).toNat - (IntKind.i64.wrap (Int.tdiv (min (max n (0 : Int)) (16777216 : Int)) (32 : Int))).toNat)), oo, .op (.cp (x1.map ce_u32) ((copied (List.replicate (IntKind.i64.wrap ((IntKind.i64.wrap ((IntKind.i64.wrap (Int.tdiv (min (max n (0 : Int)) (16777216 : Int)) (32 : Int))) + (x1.length : Int))) + (1 : Int))).toNat ((0 : Int) : Int)) (0 + (IntKind.i64.wrap (Int.tdiv (min (max n (0 : Int)) (16777216 : Int)) (32 : Int))).toNat) ((IntKind.i64.wrap ((IntKind.i64.wrap ((IntKind.i64.wrap (Int.tdiv (min (max n (0 : Int)) (16777216 : Int)) (32 : Int))) + (x1.length : Int))) + (1 : Int))).toNat - (IntKind.i64.wrap (Int.tdiv (min (max n (0 : Int)) (16777216 : Int)) (32 : Int))).toNat) x1).map ce_u32) ((min x1.length ((IntKind.i64.wrap ((IntKind.i64.wrap ((IntKind.i64.wrap (Int.tdiv (min (max n (0 : Int)) (16777216 : Int)) (32 : Int))) + (x1.length : Int))) + (1 : Int))).toNat - (IntKind.i64.wrap (Int.tdiv (min (max n (0 : Int)) (16777216 : Int)) (32 : Int))).toNat) : Nat) : Int))], .reg [oo, oo], .br false, .reg [oo, .rl 59 0 (copied (List.replicate (IntKind.i64.wrap ((IntKind.i64.wrap ((IntKind.i64.wrap (Int.tdiv (min (max n (0 : Int)) (16777216 : Int)) (32 : Int))) + (x1.length : Int))) + (1 : Int))).toNat ((0 : Int) : Int)) (0 + (IntKind.i64.wrap (Int.tdiv (min (max n (0 : Int)) (16777216 : Int)) (32 : Int))).toNat) ((IntKind.i64.wrap ((IntKind.i64.wrap ((IntKind.i64.wrap (Int.tdiv (min (max n (0 : Int)) (16777216 : Int)) (32 : Int))) + (x1.length : Int))) + (1 : Int))).toNat - (IntKind.i64.wrap (Int.tdiv (min (max n (0 : Int)) (16777216 : Int)) (32 : Int))).toNat) x1).length, .callR [28] [(28, .row 101 1 ((copied (List.replicate (IntKind.i64.wrap ((IntKind.i64.wrap ((IntKind.i64.wrap (Int.tdiv (min (max n (0 : Int)) (16777216 : Int)) (32 : Int))) + (x1.length : Int))) + (1 : Int))).toNat ((0 : Int) : Int)) (0 + (IntKind.i64.wrap (Int.tdiv (min (max n (0 : Int)) (16777216 : Int)) (32 : Int))).toNat) ((IntKind.i64.wrap ((IntKind.i64.wrap ((IntKind.i64.wrap (Int.tdiv (min (max n (0 : Int)) (16777216 : Int)) (32 : Int))) + (x1.length : Int))) + (1 : Int))).toNat - (IntKind.i64.wrap (Int.tdiv (min (max n (0 : Int)) (16777216 : Int)) (32 : Int))).toNat) x1).map ce_u32) 0)] (.c (C.row 28 0 n10)), oo]] _ hn (by kernel_rfl) (aC (natural_trim_holds h2) <| aC (ln_eq x1 ce_u32) <| aC h3 <| aC (ln_eq x1 ce_u32) <| aC h4.1 <| aC h4.2.1 <| aC h4.2.2 <| aC (rep_map _ _ _ : List.replicate (IntKind.i64.wrap ((IntKind.i64.wrap ((IntKind.i64.wrap (Int.tdiv (min (max n (0 : Int)) (16777216 : Int)) (32 : Int))) + (x1.length : Int))) + (1 : Int))).toNat (ce_u32 (0 : Int)) = (List.replicate (IntKind.i64.wrap ((IntKind.i64.wrap ((IntKind.i64.wrap (Int.tdiv (min (max n (0 : Int)) (16777216 : Int)) (32 : Int))) + (x1.length : Int))) + (1 : Int))).toNat ((0 : Int) : Int)).map ce_u32) <| aC (⟨h5.1, rfl⟩ : 0 ≤ (IntKind.i64.wrap (Int.tdiv (min (max n (0 : Int)) (16777216 : Int)) (32 : Int))) ∧ (IntKind.i64.wrap (Int.tdiv (min (max n (0 : Int)) (16777216 : Int)) (32 : Int))).toNat = (IntKind.i64.wrap (Int.tdiv (min (max n (0 : Int)) (16777216 : Int)) (32 : Int))).toNat) <| aC (rfl : (IntKind.i64.wrap ((IntKind.i64.wrap ((IntKind.i64.wrap (Int.tdiv (min (max n (0 : Int)) (16777216 : Int)) (32 : Int))) + (x1.length : Int))) + (1 : Int))).toNat = (IntKind.i64.wrap ((IntKind.i64.wrap ((IntKind.i64.wrap (Int.tdiv (min (max n (0 : Int)) (16777216 : Int)) (32 : Int))) + (x1.length : Int))) + (1 : Int))).toNat) <| aC h5.2.1 <| aC h5.2.2.1 <| aC h5.2.2.2 <| aC (rfl : 0 + (IntKind.i64.wrap (Int.tdiv (min (max n (0 : Int)) (16777216 : Int)) (32 : Int))).toNat = (0 + (IntKind.i64.wrap (Int.tdiv (min (max n (0 : Int)) (16777216 : Int)) (32 : Int))).toNat)) <| aC (rfl : (IntKind.i64.wrap ((IntKind.i64.wrap ((IntKind.i64.wrap (Int.tdiv (min (max n (0 : Int)) (16777216 : Int)) (32 : Int))) + (x1.length : Int))) + (1 : Int))).toNat - (IntKind.i64.wrap (Int.tdiv (min (max n (0 : Int)) (16777216 : Int)) (32 : Int))).toNat = ((IntKind.i64.wrap ((IntKind.i64.wrap ((IntKind.i64.wrap (Int.tdiv (min (max n (0 : Int)) (16777216 : Int)) (32 : Int))) + (x1.length : Int))) + (1 : Int))).toNat - (IntKind.i64.wrap (Int.tdiv (min (max n (0 : Int)) (16777216 : Int)) (32 : Int))).toNat)) <| aC (rfl : x1.map ce_u32 = x1.map ce_u32) <| aC (copied_map _ _ _ _ _ h6 : splice ((List.replicate (IntKind.i64.wrap ((IntKind.i64.wrap ((IntKind.i64.wrap (Int.tdiv (min (max n (0 : Int)) (16777216 : Int)) (32 : Int))) + (x1.length : Int))) + (1 : Int))).toNat ((0 : Int) : Int)).map ce_u32) (0 + (IntKind.i64.wrap (Int.tdiv (min (max n (0 : Int)) (16777216 : Int)) (32 : Int))).toNat) ((x1.map ce_u32).take (min (x1.map ce_u32).length ((IntKind.i64.wrap ((IntKind.i64.wrap ((IntKind.i64.wrap (Int.tdiv (min (max n (0 : Int)) (16777216 : Int)) (32 : Int))) + (x1.length : Int))) + (1 : Int))).toNat - (IntKind.i64.wrap (Int.tdiv (min (max n (0 : Int)) (16777216 : Int)) (32 : Int))).toNat))) = (copied (List.replicate (IntKind.i64.wrap ((IntKind.i64.wrap ((IntKind.i64.wrap (Int.tdiv (min (max n (0 : Int)) (16777216 : Int)) (32 : Int))) + (x1.length : Int))) + (1 : Int))).toNat ((0 : Int) : Int)) (0 + (IntKind.i64.wrap (Int.tdiv (min (max n (0 : Int)) (16777216 : Int)) (32 : Int))).toNat) ((IntKind.i64.wrap ((IntKind.i64.wrap ((IntKind.i64.wrap (Int.tdiv (min (max n (0 : Int)) (16777216 : Int)) (32 : Int))) + (x1.length : Int))) + (1 : Int))).toNat - (IntKind.i64.wrap (Int.tdiv (min (max n (0 : Int)) (16777216 : Int)) (32 : Int))).toNat) x1).map ce_u32) <| aC (by rw [len_map] : ((min (x1.map ce_u32).length ((IntKind.i64.wrap ((IntKind.i64.wrap ((IntKind.i64.wrap (Int.tdiv (min (max n (0 : Int)) (16777216 : Int)) (32 : Int))) + (x1.length : Int))) + (1 : Int))).toNat - (IntKind.i64.wrap (Int.tdiv (min (max n (0 : Int)) (16777216 : Int)) (32 : Int))).toNat) : Nat) : Int) = ((min x1.length ((IntKind.i64.wrap ((IntKind.i64.wrap ((IntKind.i64.wrap (Int.tdiv (min (max n (0 : Int)) (16777216 : Int)) (32 : Int))) + (x1.length : Int))) + (1 : Int))).toNat - (IntKind.i64.wrap (Int.tdiv (min (max n (0 : Int)) (16777216 : Int)) (32 : Int))).toNat) : Nat) : Int)) <| aC h7 <| aC r0 <| aC (by simp : (IntKind.i64.wrap ((IntKind.i64.wrap ((IntKind.i64.wrap (Int.tdiv (min (max n (0 : Int)) (16777216 : Int)) (32 : Int))) + (x1.length : Int))) + (1 : Int))).toNat = (copied (List.replicate (IntKind.i64.wrap ((IntKind.i64.wrap ((IntKind.i64.wrap (Int.tdiv (min (max n (0 : Int)) (16777216 : Int)) (32 : Int))) + (x1.length : Int))) + (1 : Int))).toNat ((0 : Int) : Int)) (0 + (IntKind.i64.wrap (Int.tdiv (min (max n (0 : Int)) (16777216 : Int)) (32 : Int))).toNat) ((IntKind.i64.wrap ((IntKind.i64.wrap ((IntKind.i64.wrap (Int.tdiv (min (max n (0 : Int)) (16777216 : Int)) (32 : Int))) + (x1.length : Int))) + (1 : Int))).toNat - (IntKind.i64.wrap (Int.tdiv (min (max n (0 : Int)) (16777216 : Int)) (32 : Int))).toNat) x1).length) <| aC (natural_trim__row28_holdsR h8) <| aN) (by rw [List.length_map, List.length_take, Nat.min_eq_left h11]) (by rw [List.map_take])

theorem natural_Shl__N_c1 {K} (ih : natural_Shl__N_H K) {cx} (hn : cx.n = 61) {r28 shift low i} {r} (h : natural_Shl__N_go (K + 1) (.c1 r28 shift low i) = some r) : natural_Shl__N_S cx (.c1 r28 shift low i) r := by
  rw [natural_Shl__N_go] at h
  rcases bcases h with ⟨h1, h⟩ | ⟨h1, h⟩
  · skip
    obtain ⟨x2, h3, h⟩ := obind h
    obtain ⟨h4, h⟩ := gd_some h
    obtain ⟨x5, h6, h⟩ := obind h
    obtain ⟨h7, h⟩ := gd_some h
    exact wk_go (fuel := 98) [.go, .reg [oo, oo, oo, oo], .br true, .reg [oo, oo, .op .ir, .op (.ld (ce_u32 x2)), oo], .reg [oo, oo, oo, oo, .op .dv, oo, oo, .op .ir, .op (.st (ce_u32 x5) ((r28.set (i.toNat) (bits .or .u32 (shlOp .u32 x2 shift) low)).map ce_u32))], .reg [oo, oo, oo, .op .dv, oo], .reg [oo, oo, oo], .pre [.rl 7 0 (r28.set (i.toNat) (bits .or .u32 (shlOp .u32 x2 shift) low)).length, .keep [6,7,8,9] [28]]] _ hn (by kernel_rfl) (aC h1 <| aC (gi_nn h3) <| aC (gi_lt2 h3 (by simp) : i < ((r28.length : Nat) : Int)) <| aC (gi_row ce_u32 h3 : (r28.map ce_u32)[(0 + i.toNat)]? = some (ce_u32 x2)) <| aC h4 <| aC (gi_nn h6) <| aC (gi_lt2 h6 (by simp) : i < ((r28.length : Nat) : Int)) <| aC (gi_row ce_u32 h6 : (r28.map ce_u32)[(0 + i.toNat)]? = some (ce_u32 x5)) <| aC (set_map _ _ (bits .or .u32 (shlOp .u32 x2 shift) low) _ : (r28.map ce_u32).set (0 + i.toNat) (splice (ce_u32 x5) 0 [(T.int .u32 (bits .or .u32 (shlOp .u32 x2 shift) low))]) = (r28.set (i.toNat) (bits .or .u32 (shlOp .u32 x2 shift) low)).map ce_u32) <| aC (Nat.zero_le _ : 0 ≤ (0 + i.toNat)) <| aC h7 <| aC r0 <| aC (by simp : r28.length = (r28.set (i.toNat) (bits .or .u32 (shlOp .u32 x2 shift) low)).length) <| aN) (ih _ _ h cx hn)
  · skip
    obtain ⟨x3, h2, h⟩ := obind h
    cases x3 with
    | none =>
      have h := Option.some.inj h; subst h
      exact wk_retN0 (fuel := 78) [.go, .reg [oo, oo, oo, oo], .br false, .reg [oo, .rl 59 0 r28.length, .callR [28] [(28, .row 101 1 (r28.map ce_u32) 0)] (.c C.nil), oo]] _ hn (by kernel_rfl) (aC h1 <| aC r0 <| aC (lq r28) <| aC (natural_trim__row28_holdsR h2) <| aN)
    | some n4 =>
      obtain ⟨h5, h⟩ := gd_some h
      have h := Option.some.inj h; subst h
      exact wk_retN1 (es := ((r28.take n4).map ce_u32)) (m := n4) (es0 := r28.map ce_u32) (fuel := 78) [.go, .reg [oo, oo, oo, oo], .br false, .reg [oo, .rl 59 0 r28.length, .callR [28] [(28, .row 101 1 (r28.map ce_u32) 0)] (.c (C.row 28 0 n4)), oo]] _ hn (by kernel_rfl) (aC h1 <| aC r0 <| aC (lq r28) <| aC (natural_trim__row28_holdsR h2) <| aN) (by rw [List.length_map, List.length_take, Nat.min_eq_left h5]) (by rw [List.map_take])

theorem natural_Shl__N_all : ∀ K : Nat, natural_Shl__N_H K
  | 0, c, r, h => by rw [natural_Shl__N_go] at h; cases h
  | K + 1, .c0 .., r, h => fun cx hn => natural_Shl__N_c0 (natural_Shl__N_all K) hn h
  | K + 1, .c1 .., r, h => fun cx hn => natural_Shl__N_c1 (natural_Shl__N_all K) hn h

theorem natural_Shl__N_holdsN {K : Nat} {a : (List Int)} {n : Int} {r : (Option (List Int))} (h : natural_Shl__N K a n = some r) : HoldsN prog 142 [(tl 1 a ce_u32), (ti .i64 n)] 101 1 (r.map fun l => l.map ce_u32) :=
  holdsN_wk (n := 61) (by kernel_rfl) (by simp) fun cx hn => natural_Shl__N_all K (.c0 a n) r h cx hn
end Go.Am.X
namespace Go.Am.X
open Go.Proofs.Try (prog)


inductive natural_Shr_Cut where
  | c0 (a : (List Int)) (n : Int)
  | c1 (r25 : (List Int)) (shift : Int) (t29 : Int) (t30 : Int)
  | c2 (shift : Int) (t29 : Int) (t30 : Int)
  | c3 (r25 : (List Int)) (shift : Int) (t29 : Int) (t30 : Int)

def natural_Shr_go : Nat → natural_Shr_Cut → Option (List Int)
  | 0, _ => none
  | K + 1, .c0 a n =>
    (natural_trim K a).bind fun x1 =>
    bif (decide ((x1.length : Int) ≤ (IntKind.i64.wrap (Int.tdiv (max n (0 : Int)) (32 : Int))))) then
      some []
    else
      gd (0 ≤ (IntKind.i64.wrap (Int.tdiv (max n (0 : Int)) (32 : Int))) ∧ (IntKind.i64.wrap (Int.tdiv (max n (0 : Int)) (32 : Int))).toNat ≤ x1.length ∧ x1.length ≤ x1.length) <|
      bif (decide (0 < ((x1.take x1.length).drop ((IntKind.i64.wrap (Int.tdiv (max n (0 : Int)) (32 : Int))).toNat)).length)) then
        gd (((x1.take x1.length).drop ((IntKind.i64.wrap (Int.tdiv (max n (0 : Int)) (32 : Int))).toNat)).length * 4 ≤ 140737488355328) <|
        bif (decide ((0 : Int) < (Int.tmod (max n (0 : Int)) (32 : Int)))) then
          natural_Shr_go K (.c1 ((x1.take x1.length).drop ((IntKind.i64.wrap (Int.tdiv (max n (0 : Int)) (32 : Int))).toNat)) (Int.tmod (max n (0 : Int)) (32 : Int)) (((((x1.take x1.length).drop ((IntKind.i64.wrap (Int.tdiv (max n (0 : Int)) (32 : Int))).toNat)).map ce_u32).length : Nat) : Int) (0 : Int))
        else
          (natural_trim K ((x1.take x1.length).drop ((IntKind.i64.wrap (Int.tdiv (max n (0 : Int)) (32 : Int))).toNat))).bind fun x8 =>
          some x8
      else
        bif (decide ((0 : Int) < (Int.tmod (max n (0 : Int)) (32 : Int)))) then
          natural_Shr_go K (.c2 (Int.tmod (max n (0 : Int)) (32 : Int)) (0 : Int) (0 : Int))
        else
          (natural_trim K []).bind fun x8 =>
          some x8
  | K + 1, .c1 r25 shift t29 t30 =>
    bif (decide (t30 < t29)) then
      bif (decide ((IntKind.i64.wrap (t30 + (1 : Int))) < ((r25.length : Nat) : Int))) then
        (gi r25 (IntKind.i64.wrap (t30 + (1 : Int)))).bind fun x3 =>
        gd (0 ≤ (IntKind.i64.wrap ((32 : Int) - shift))) <|
        (gi r25 t30).bind fun x6 =>
        gd (0 ≤ shift) <|
        (gi r25 t30).bind fun _ =>
        natural_Shr_go K (.c3 (r25.set (t30.toNat) (bits .or .u32 (shrOp .u32 x6 shift) (shlOp .u32 x3 (IntKind.i64.wrap ((32 : Int) - shift))))) shift t29 t30)
      else
        (gi r25 t30).bind fun x3 =>
        gd (0 ≤ shift) <|
        (gi r25 t30).bind fun _ =>
        natural_Shr_go K (.c3 (r25.set (t30.toNat) (bits .or .u32 (shrOp .u32 x3 shift) (0 : Int))) shift t29 t30)
    else
      (natural_trim K r25).bind fun x2 =>
      some x2
  | K + 1, .c2 _ t29 t30 =>
    bif (decide (t30 < t29)) then
      bif (decide ((IntKind.i64.wrap (t30 + (1 : Int))) < (0 : Int))) then
        none
      else
        none
    else
      (natural_trim K []).bind fun x2 =>
      some x2
  | K + 1, .c3 r25 shift t29 t30 =>
    natural_Shr_go K (.c1 r25 shift t29 (IntKind.i64.wrap (t30 + (1 : Int))))

def natural_Shr (K : Nat) (a : (List Int)) (n : Int) : Option (List Int) := natural_Shr_go K (.c0 a n)

noncomputable def natural_Shr_body : Code := bodyOf prog 189
noncomputable def natural_Shr_pos : natural_Shr_Cut → List Fr
  | .c0 .. => [.code natural_Shr_body]
  | .c1 .. => [.code (.loop (atC natural_Shr_body [1,1,1,1,1,1,0,1,0,1,0,0])), .blk 0, .code (atC natural_Shr_body [1,1,1,1,1,1,1])]
  | .c2 .. => [.code (.loop (atC natural_Shr_body [1,1,1,1,1,1,0,1,0,1,0,0])), .blk 0, .code (atC natural_Shr_body [1,1,1,1,1,1,1])]
  | .c3 .. => [.code (atC natural_Shr_body [1,1,1,1,1,1,0,1,0,1,0,0,1,1,1]), .lp (atC natural_Shr_body [1,1,1,1,1,1,0,1,0,1,0,0]), .blk 0, .code (atC natural_Shr_body [1,1,1,1,1,1,1])]
def natural_Shr_st : natural_Shr_Cut → St
  | .c0 a n => St.init [(tl 1 a ce_u32), (ti .i64 n)]
  | .c1 r25 shift t29 t30 => ⟨[(6, vi .i64 shift), (7, .c (C.row 25 0 r25.length)), (29, vi .i64 t29), (30, vi .i64 t30)], [(25, .row 101 1 (r25.map ce_u32) 0)], []⟩
  | .c2 shift t29 t30 => ⟨[(6, vi .i64 shift), (7, .c (C.nil)), (29, vi .i64 t29), (30, vi .i64 t30)], [], []⟩
  | .c3 r25 shift t29 t30 => ⟨[(6, vi .i64 shift), (7, .c (C.row 25 0 r25.length)), (29, vi .i64 t29), (30, vi .i64 t30)], [(25, .row 101 1 (r25.map ce_u32) 0)], []⟩

def natural_Shr_S (cx : Cx) (c : natural_Shr_Cut) (r : (List Int)) : Prop := Wk prog cx (EndsF prog 189 [[1]] (tl 1 r ce_u32)) (natural_Shr_pos c) .normal (natural_Shr_st c)
abbrev natural_Shr_H (K : Nat) : Prop := ∀ c r, natural_Shr_go K c = some r → ∀ cx : Cx, cx.n = 60 → natural_Shr_S cx c r

theorem natural_Shr_c0 {K} (ih : natural_Shr_H K) {cx} (hn : cx.n = 60) {a n} {r} (h : natural_Shr_go (K + 1) (.c0 a n) = some r) : natural_Shr_S cx (.c0 a n) r := by
  rw [natural_Shr_go] at h
  obtain ⟨x1, h2, h⟩ := obind h
  rcases bcases h with ⟨h3, h⟩ | ⟨h3, h⟩
  · skip
    have h := Option.some.inj h; subst h
    exact wk_ret (fuel := 96) [.reg [oo], .reg [oo, .op (.call [[1]] [(tl 1 a ce_u32)] (tl 1 x1 ce_u32)), oo], .reg [oo, oo, oo], .reg [oo, oo, oo, oo, oo, oo], .reg [oo, oo, .op (.ln (x1.length : Int)), oo], .br true, .reg [oo]] _ hn (by kernel_rfl) (aC (natural_trim_holds h2) <| aC (ln_eq x1 ce_u32) <| aC h3 <| aN)
  · skip
    obtain ⟨h4, h⟩ := gd_some h
    rcases bcases h with ⟨h6, h⟩ | ⟨h6, h⟩
    · skip
      obtain ⟨h5, h⟩ := gd_some h
      rcases bcases h with ⟨h7, h⟩ | ⟨h7, h⟩
      · skip
        exact wk_go (fuel := 120) [.reg [oo], .reg [oo, .op (.call [[1]] [(tl 1 a ce_u32)] (tl 1 x1 ce_u32)), oo], .reg [oo, oo, oo], .reg [oo, oo, oo, oo, oo, oo], .reg [oo, oo, .op (.ln (x1.length : Int)), oo], .br false, .reg [oo, oo, .op (.slT ((IntKind.i64.wrap (Int.tdiv (max n (0 : Int)) (32 : Int))).toNat) x1.length (((x1.take x1.length).drop ((IntKind.i64.wrap (Int.tdiv (max n (0 : Int)) (32 : Int))).toNat)).map ce_u32)), .op (.appN (((x1.take x1.length).drop ((IntKind.i64.wrap (Int.tdiv (max n (0 : Int)) (32 : Int))).toNat)).map ce_u32)), oo], .reg [oo, oo], .br true, .reg [oo, oo, oo], .pre [.rl 7 0 ((x1.take x1.length).drop ((IntKind.i64.wrap (Int.tdiv (max n (0 : Int)) (32 : Int))).toNat)).length, .keep [6,7,29,30] [25]]] _ hn (by kernel_rfl) (aC (natural_trim_holds h2) <| aC (ln_eq x1 ce_u32) <| aC h3 <| aC (⟨h4.1, rfl⟩ : 0 ≤ (IntKind.i64.wrap (Int.tdiv (max n (0 : Int)) (32 : Int))) ∧ (IntKind.i64.wrap (Int.tdiv (max n (0 : Int)) (32 : Int))).toNat = (IntKind.i64.wrap (Int.tdiv (max n (0 : Int)) (32 : Int))).toNat) <| aC (by simp : x1.length = (x1.map ce_u32).length) <| aC h4.2.1 <| aC (ln_le _ h4.2.2 : x1.length ≤ (x1.map ce_u32).length) <| aC (tk_map _ _ _ _ : ((x1.map ce_u32).take x1.length).drop ((IntKind.i64.wrap (Int.tdiv (max n (0 : Int)) (32 : Int))).toNat) = ((x1.take x1.length).drop ((IntKind.i64.wrap (Int.tdiv (max n (0 : Int)) (32 : Int))).toNat)).map ce_u32) <| aC (rfl : ((x1.take x1.length).drop ((IntKind.i64.wrap (Int.tdiv (max n (0 : Int)) (32 : Int))).toNat)).map ce_u32 = ((x1.take x1.length).drop ((IntKind.i64.wrap (Int.tdiv (max n (0 : Int)) (32 : Int))).toNat)).map ce_u32) <| aC ((len_map _ _).symm ▸ of_decide_eq_true h6 : 0 < (((x1.take x1.length).drop ((IntKind.i64.wrap (Int.tdiv (max n (0 : Int)) (32 : Int))).toNat)).map ce_u32).length) <| aC ((len_map _ _).symm ▸ h5 : (((x1.take x1.length).drop ((IntKind.i64.wrap (Int.tdiv (max n (0 : Int)) (32 : Int))).toNat)).map ce_u32).length * 4 ≤ 140737488355328) <| aC ((len_map _ _).symm ▸ room (by decide) h5 : (((x1.take x1.length).drop ((IntKind.i64.wrap (Int.tdiv (max n (0 : Int)) (32 : Int))).toNat)).map ce_u32).length ≤ maxLen) <| aC h7 <| aC r0 <| aC (by simp : (((x1.take x1.length).drop ((IntKind.i64.wrap (Int.tdiv (max n (0 : Int)) (32 : Int))).toNat)).map ce_u32).length = ((x1.take x1.length).drop ((IntKind.i64.wrap (Int.tdiv (max n (0 : Int)) (32 : Int))).toNat)).length) <| aN) (ih _ _ h cx hn)
      · skip
        obtain ⟨x8, h9, h⟩ := obind h
        have h := Option.some.inj h; subst h
        exact wk_ret (fuel := 122) [.reg [oo], .reg [oo, .op (.call [[1]] [(tl 1 a ce_u32)] (tl 1 x1 ce_u32)), oo], .reg [oo, oo, oo], .reg [oo, oo, oo, oo, oo, oo], .reg [oo, oo, .op (.ln (x1.length : Int)), oo], .br false, .reg [oo, oo, .op (.slT ((IntKind.i64.wrap (Int.tdiv (max n (0 : Int)) (32 : Int))).toNat) x1.length (((x1.take x1.length).drop ((IntKind.i64.wrap (Int.tdiv (max n (0 : Int)) (32 : Int))).toNat)).map ce_u32)), .op (.appN (((x1.take x1.length).drop ((IntKind.i64.wrap (Int.tdiv (max n (0 : Int)) (32 : Int))).toNat)).map ce_u32)), oo], .reg [oo, oo], .br false, .reg [oo, .snap 58 (max 0 (0 + (((x1.take x1.length).drop ((IntKind.i64.wrap (Int.tdiv (max n (0 : Int)) (32 : Int))).toNat)).map ce_u32).length)) (((x1.take x1.length).drop ((IntKind.i64.wrap (Int.tdiv (max n (0 : Int)) (32 : Int))).toNat)).map ce_u32), .op (.call [[1]] [(TV.c (T.sl 1 (((x1.take x1.length).drop ((IntKind.i64.wrap (Int.tdiv (max n (0 : Int)) (32 : Int))).toNat)).map ce_u32)))] (tl 1 x8 ce_u32)), oo]] _ hn (by kernel_rfl) (aC (natural_trim_holds h2) <| aC (ln_eq x1 ce_u32) <| aC h3 <| aC (⟨h4.1, rfl⟩ : 0 ≤ (IntKind.i64.wrap (Int.tdiv (max n (0 : Int)) (32 : Int))) ∧ (IntKind.i64.wrap (Int.tdiv (max n (0 : Int)) (32 : Int))).toNat = (IntKind.i64.wrap (Int.tdiv (max n (0 : Int)) (32 : Int))).toNat) <| aC (by simp : x1.length = (x1.map ce_u32).length) <| aC h4.2.1 <| aC (ln_le _ h4.2.2 : x1.length ≤ (x1.map ce_u32).length) <| aC (tk_map _ _ _ _ : ((x1.map ce_u32).take x1.length).drop ((IntKind.i64.wrap (Int.tdiv (max n (0 : Int)) (32 : Int))).toNat) = ((x1.take x1.length).drop ((IntKind.i64.wrap (Int.tdiv (max n (0 : Int)) (32 : Int))).toNat)).map ce_u32) <| aC (rfl : ((x1.take x1.length).drop ((IntKind.i64.wrap (Int.tdiv (max n (0 : Int)) (32 : Int))).toNat)).map ce_u32 = ((x1.take x1.length).drop ((IntKind.i64.wrap (Int.tdiv (max n (0 : Int)) (32 : Int))).toNat)).map ce_u32) <| aC ((len_map _ _).symm ▸ of_decide_eq_true h6 : 0 < (((x1.take x1.length).drop ((IntKind.i64.wrap (Int.tdiv (max n (0 : Int)) (32 : Int))).toNat)).map ce_u32).length) <| aC ((len_map _ _).symm ▸ h5 : (((x1.take x1.length).drop ((IntKind.i64.wrap (Int.tdiv (max n (0 : Int)) (32 : Int))).toNat)).map ce_u32).length * 4 ≤ 140737488355328) <| aC ((len_map _ _).symm ▸ room (by decide) h5 : (((x1.take x1.length).drop ((IntKind.i64.wrap (Int.tdiv (max n (0 : Int)) (32 : Int))).toNat)).map ce_u32).length ≤ maxLen) <| aC h7 <| aC (sn_map _ _ _ (by simp) : ((((x1.take x1.length).drop ((IntKind.i64.wrap (Int.tdiv (max n (0 : Int)) (32 : Int))).toNat)).map ce_u32).drop 0).take ((((x1.take x1.length).drop ((IntKind.i64.wrap (Int.tdiv (max n (0 : Int)) (32 : Int))).toNat)).map ce_u32).length) = ((x1.take x1.length).drop ((IntKind.i64.wrap (Int.tdiv (max n (0 : Int)) (32 : Int))).toNat)).map ce_u32) <| aC (rfl : (max 0 (0 + (((x1.take x1.length).drop ((IntKind.i64.wrap (Int.tdiv (max n (0 : Int)) (32 : Int))).toNat)).map ce_u32).length)) = (max 0 (0 + (((x1.take x1.length).drop ((IntKind.i64.wrap (Int.tdiv (max n (0 : Int)) (32 : Int))).toNat)).map ce_u32).length))) <| aC (natural_trim_holds h9) <| aN)
    · skip
      rcases bcases h with ⟨h7, h⟩ | ⟨h7, h⟩
      · skip
        exact wk_go (fuel := 120) [.reg [oo], .reg [oo, .op (.call [[1]] [(tl 1 a ce_u32)] (tl 1 x1 ce_u32)), oo], .reg [oo, oo, oo], .reg [oo, oo, oo, oo, oo, oo], .reg [oo, oo, .op (.ln (x1.length : Int)), oo], .br false, .reg [oo, oo, .op (.slT ((IntKind.i64.wrap (Int.tdiv (max n (0 : Int)) (32 : Int))).toNat) x1.length (((x1.take x1.length).drop ((IntKind.i64.wrap (Int.tdiv (max n (0 : Int)) (32 : Int))).toNat)).map ce_u32)), .op .app0, oo], .reg [oo, oo], .br true, .reg [oo, oo, oo], .pre [.keep [6,7,29,30] []]] _ hn (by kernel_rfl) (aC (natural_trim_holds h2) <| aC (ln_eq x1 ce_u32) <| aC h3 <| aC (⟨h4.1, rfl⟩ : 0 ≤ (IntKind.i64.wrap (Int.tdiv (max n (0 : Int)) (32 : Int))) ∧ (IntKind.i64.wrap (Int.tdiv (max n (0 : Int)) (32 : Int))).toNat = (IntKind.i64.wrap (Int.tdiv (max n (0 : Int)) (32 : Int))).toNat) <| aC (by simp : x1.length = (x1.map ce_u32).length) <| aC h4.2.1 <| aC (ln_le _ h4.2.2 : x1.length ≤ (x1.map ce_u32).length) <| aC (tk_map _ _ _ _ : ((x1.map ce_u32).take x1.length).drop ((IntKind.i64.wrap (Int.tdiv (max n (0 : Int)) (32 : Int))).toNat) = ((x1.take x1.length).drop ((IntKind.i64.wrap (Int.tdiv (max n (0 : Int)) (32 : Int))).toNat)).map ce_u32) <| aC (by rw [show ((x1.take x1.length).drop ((IntKind.i64.wrap (Int.tdiv (max n (0 : Int)) (32 : Int))).toNat)) = [] from List.eq_nil_of_length_eq_zero (by have := of_decide_eq_false h6; omega)]; simp : ((x1.take x1.length).drop ((IntKind.i64.wrap (Int.tdiv (max n (0 : Int)) (32 : Int))).toNat)).map ce_u32 = []) <| aC h7 <| aN) (ih _ _ h cx hn)
      · skip
        obtain ⟨x8, h9, h⟩ := obind h
        have h := Option.some.inj h; subst h
        exact wk_ret (fuel := 122) [.reg [oo], .reg [oo, .op (.call [[1]] [(tl 1 a ce_u32)] (tl 1 x1 ce_u32)), oo], .reg [oo, oo, oo], .reg [oo, oo, oo, oo, oo, oo], .reg [oo, oo, .op (.ln (x1.length : Int)), oo], .br false, .reg [oo, oo, .op (.slT ((IntKind.i64.wrap (Int.tdiv (max n (0 : Int)) (32 : Int))).toNat) x1.length (((x1.take x1.length).drop ((IntKind.i64.wrap (Int.tdiv (max n (0 : Int)) (32 : Int))).toNat)).map ce_u32)), .op .app0, oo], .reg [oo, oo], .br false, .reg [oo, .op (.call [[1]] [(TV.c (T.sl 1 ([].map ce_u32)))] (tl 1 x8 ce_u32)), oo]] _ hn (by kernel_rfl) (aC (natural_trim_holds h2) <| aC (ln_eq x1 ce_u32) <| aC h3 <| aC (⟨h4.1, rfl⟩ : 0 ≤ (IntKind.i64.wrap (Int.tdiv (max n (0 : Int)) (32 : Int))) ∧ (IntKind.i64.wrap (Int.tdiv (max n (0 : Int)) (32 : Int))).toNat = (IntKind.i64.wrap (Int.tdiv (max n (0 : Int)) (32 : Int))).toNat) <| aC (by simp : x1.length = (x1.map ce_u32).length) <| aC h4.2.1 <| aC (ln_le _ h4.2.2 : x1.length ≤ (x1.map ce_u32).length) <| aC (tk_map _ _ _ _ : ((x1.map ce_u32).take x1.length).drop ((IntKind.i64.wrap (Int.tdiv (max n (0 : Int)) (32 : Int))).toNat) = ((x1.take x1.length).drop ((IntKind.i64.wrap (Int.tdiv (max n (0 : Int)) (32 : Int))).toNat)).map ce_u32) <| aC (by rw [show ((x1.take x1.length).drop ((IntKind.i64.wrap (Int.tdiv (max n (0 : Int)) (32 : Int))).toNat)) = [] from List.eq_nil_of_length_eq_zero (by have := of_decide_eq_false h6; omega)]; simp : ((x1.take x1.length).drop ((IntKind.i64.wrap (Int.tdiv (max n (0 : Int)) (32 : Int))).toNat)).map ce_u32 = []) <| aC h7 <| aC (natural_trim_holds h9) <| aN)

theorem natural_Shr_c1 {K} (ih : natural_Shr_H K) {cx} (hn : cx.n = 60) {r25 shift t29 t30} {r} (h : natural_Shr_go (K + 1) (.c1 r25 shift t29 t30) = some r) : natural_Shr_S cx (.c1 r25 shift t29 t30) r := by
  rw [natural_Shr_go] at h
  rcases bcases h with ⟨h1, h⟩ | ⟨h1, h⟩
  · skip
    rcases bcases h with ⟨h2, h⟩ | ⟨h2, h⟩
    · skip
      obtain ⟨x3, h4, h⟩ := obind h
      obtain ⟨h5, h⟩ := gd_some h
      obtain ⟨x6, h7, h⟩ := obind h
      obtain ⟨h8, h⟩ := gd_some h
      obtain ⟨x9, h10, h⟩ := obind h
      exact wk_go (fuel := 112) [.go, .reg [oo], .br true, .reg [oo, oo], .reg [oo], .reg [oo, oo, oo, oo, oo], .br true, .reg [oo, oo, oo, .op .ir, .op (.ld (ce_u32 x3)), oo, oo, .op .dv, oo], .reg [oo, oo, oo, oo, .op .ir, .op (.ld (ce_u32 x6)), oo, .op .dv, oo, oo, .op .ir, .op (.st (ce_u32 x9) ((r25.set (t30.toNat) (bits .or .u32 (shrOp .u32 x6 shift) (shlOp .u32 x3 (IntKind.i64.wrap ((32 : Int) - shift))))).map ce_u32))], .pre [.rl 7 0 (r25.set (t30.toNat) (bits .or .u32 (shrOp .u32 x6 shift) (shlOp .u32 x3 (IntKind.i64.wrap ((32 : Int) - shift))))).length, .keep [6,7,29,30] [25]]] _ hn (by kernel_rfl) (aC h1 <| aC h2 <| aC (gi_nn h4) <| aC (gi_lt2 h4 (by simp) : (IntKind.i64.wrap (t30 + (1 : Int))) < ((r25.length : Nat) : Int)) <| aC (gi_row ce_u32 h4 : (r25.map ce_u32)[(0 + (IntKind.i64.wrap (t30 + (1 : Int))).toNat)]? = some (ce_u32 x3)) <| aC h5 <| aC (gi_nn h7) <| aC (gi_lt2 h7 (by simp) : t30 < ((r25.length : Nat) : Int)) <| aC (gi_row ce_u32 h7 : (r25.map ce_u32)[(0 + t30.toNat)]? = some (ce_u32 x6)) <| aC h8 <| aC (gi_nn h10) <| aC (gi_lt2 h10 (by simp) : t30 < ((r25.length : Nat) : Int)) <| aC (gi_row ce_u32 h10 : (r25.map ce_u32)[(0 + t30.toNat)]? = some (ce_u32 x9)) <| aC (set_map _ _ (bits .or .u32 (shrOp .u32 x6 shift) (shlOp .u32 x3 (IntKind.i64.wrap ((32 : Int) - shift)))) _ : (r25.map ce_u32).set (0 + t30.toNat) (splice (ce_u32 x9) 0 [(T.int .u32 (bits .or .u32 (shrOp .u32 x6 shift) (shlOp .u32 x3 (IntKind.i64.wrap ((32 : Int) - shift)))))]) = (r25.set (t30.toNat) (bits .or .u32 (shrOp .u32 x6 shift) (shlOp .u32 x3 (IntKind.i64.wrap ((32 : Int) - shift))))).map ce_u32) <| aC (Nat.zero_le _ : 0 ≤ (0 + t30.toNat)) <| aC r0 <| aC (by simp : r25.length = (r25.set (t30.toNat) (bits .or .u32 (shrOp .u32 x6 shift) (shlOp .u32 x3 (IntKind.i64.wrap ((32 : Int) - shift))))).length) <| aN) (ih _ _ h cx hn)
    · skip
      obtain ⟨x3, h4, h⟩ := obind h
      obtain ⟨h5, h⟩ := gd_some h
      obtain ⟨x6, h7, h⟩ := obind h
      exact wk_go (fuel := 108) [.go, .reg [oo], .br true, .reg [oo, oo], .reg [oo], .reg [oo, oo, oo, oo, oo], .br false, .reg [oo, oo, oo, oo, .op .ir, .op (.ld (ce_u32 x3)), oo, .op .dv, oo, oo, .op .ir, .op (.st (ce_u32 x6) ((r25.set (t30.toNat) (bits .or .u32 (shrOp .u32 x3 shift) (0 : Int))).map ce_u32))], .pre [.rl 7 0 (r25.set (t30.toNat) (bits .or .u32 (shrOp .u32 x3 shift) (0 : Int))).length, .keep [6,7,29,30] [25]]] _ hn (by kernel_rfl) (aC h1 <| aC h2 <| aC (gi_nn h4) <| aC (gi_lt2 h4 (by simp) : t30 < ((r25.length : Nat) : Int)) <| aC (gi_row ce_u32 h4 : (r25.map ce_u32)[(0 + t30.toNat)]? = some (ce_u32 x3)) <| aC h5 <| aC (gi_nn h7) <| aC (gi_lt2 h7 (by simp) : t30 < ((r25.length : Nat) : Int)) <| aC (gi_row ce_u32 h7 : (r25.map ce_u32)[(0 + t30.toNat)]? = some (ce_u32 x6)) <| aC (set_map _ _ (bits .or .u32 (shrOp .u32 x3 shift) (0 : Int)) _ : (r25.map ce_u32).set (0 + t30.toNat) (splice (ce_u32 x6) 0 [(T.int .u32 (bits .or .u32 (shrOp .u32 x3 shift) (0 : Int)))]) = (r25.set (t30.toNat) (bits .or .u32 (shrOp .u32 x3 shift) (0 : Int))).map ce_u32) <| aC (Nat.zero_le _ : 0 ≤ (0 + t30.toNat)) <| aC r0 <| aC (by simp : r25.length = (r25.set (t30.toNat) (bits .or .u32 (shrOp .u32 x3 shift) (0 : Int))).length) <| aN) (ih _ _ h cx hn)
  · skip
    obtain ⟨x2, h3, h⟩ := obind h
    have h := Option.some.inj h; subst h
    exact wk_ret (fuel := 78) [.go, .reg [oo], .br false, .reg [oo, .snap 58 (max 0 (0 + r25.length)) (r25.map ce_u32), .op (.call [[1]] [(tl 1 r25 ce_u32)] (tl 1 x2 ce_u32)), oo]] _ hn (by kernel_rfl) (aC h1 <| aC (sn_map _ _ _ (by simp) : ((r25.map ce_u32).drop 0).take r25.length = r25.map ce_u32) <| aC (rfl : (max 0 (0 + r25.length)) = (max 0 (0 + r25.length))) <| aC (natural_trim_holds h3) <| aN)

theorem natural_Shr_c2 {K} (_ : natural_Shr_H K) {cx} (hn : cx.n = 60) {shift t29 t30} {r} (h : natural_Shr_go (K + 1) (.c2 shift t29 t30) = some r) : natural_Shr_S cx (.c2 shift t29 t30) r := by
  rw [natural_Shr_go] at h
  rcases bcases h with ⟨h1, h⟩ | ⟨h1, h⟩
  · skip
    rcases bcases h with ⟨h2, h⟩ | ⟨h2, h⟩
    · skip
      cases h
    · skip
      cases h
  · skip
    obtain ⟨x2, h3, h⟩ := obind h
    have h := Option.some.inj h; subst h
    exact wk_ret (fuel := 78) [.go, .reg [oo], .br false, .reg [oo, .op (.call [[1]] [(TV.c (T.sl 1 ([].map ce_u32)))] (tl 1 x2 ce_u32)), oo]] _ hn (by kernel_rfl) (aC h1 <| aC (natural_trim_holds h3) <| aN)

theorem natural_Shr_c3 {K} (ih : natural_Shr_H K) {cx} (hn : cx.n = 60) {r25 shift t29 t30} {r} (h : natural_Shr_go (K + 1) (.c3 r25 shift t29 t30) = some r) : natural_Shr_S cx (.c3 r25 shift t29 t30) r := by
  rw [natural_Shr_go] at h
  exact wk_go (fuel := 44) [.reg [oo, oo], .pre [.rl 7 0 r25.length, .keep [6,7,29,30] [25]]] _ hn (by kernel_rfl) (aC r0 <| aC (lq r25) <| aN) (ih _ _ h cx hn)

theorem natural_Shr_all : ∀ K : Nat, natural_Shr_H K
  | 0, c, r, h => by rw [natural_Shr_go] at h; cases h
  | K + 1, .c0 .., r, h => fun cx hn => natural_Shr_c0 (natural_Shr_all K) hn h
  | K + 1, .c1 .., r, h => fun cx hn => natural_Shr_c1 (natural_Shr_all K) hn h
  | K + 1, .c2 .., r, h => fun cx hn => natural_Shr_c2 (natural_Shr_all K) hn h
  | K + 1, .c3 .., r, h => fun cx hn => natural_Shr_c3 (natural_Shr_all K) hn h

theorem natural_Shr_holds {K : Nat} {a : (List Int)} {n : Int} {r : (List Int)} (h : natural_Shr K a n = some r) : Holds prog 189 [(tl 1 a ce_u32), (ti .i64 n)] (tl 1 r ce_u32) :=
  holds_wk [[1]] (by kernel_rfl) (by simp) fun cx hn => natural_Shr_all K (.c0 a n) r h cx hn
end Go.Am.X
namespace Go.Am.X
open Go.Proofs.Try (prog)


inductive division_long_Cut where
  | c0 (a : (List Int)) (b : (List Int))
  | c1 (r66 : (List Int)) (r71 : (List Int)) (n : Int) (shift : Int) (v : (List Int)) (top : Int) (next : Int) (j : Int)
  | c2 (r64 : (List Int)) (r71 : (List Int)) (n : Int) (shift : Int) (v : (List Int)) (top : Int) (next : Int) (j : Int)
  | c3 (r66 : (List Int)) (r71 : (List Int)) (n : Int) (shift : Int) (v : (List Int)) (top : Int) (next : Int) (j : Int) (guess : Int) (rest : Int)
  | c4 (r64 : (List Int)) (r71 : (List Int)) (n : Int) (shift : Int) (v : (List Int)) (top : Int) (next : Int) (j : Int) (guess : Int) (rest : Int)
  | c5 (r66 : (List Int)) (r71 : (List Int)) (n : Int) (shift : Int) (v : (List Int)) (top : Int) (next : Int) (j : Int) (guess : Int)
  | c6 (r64 : (List Int)) (r71 : (List Int)) (n : Int) (shift : Int) (v : (List Int)) (top : Int) (next : Int) (j : Int) (guess : Int)
  | c7 (r66 : (List Int)) (r71 : (List Int)) (n : Int) (shift : Int) (v : (List Int)) (top : Int) (next : Int) (j : Int) (guess : Int) (carry : Int) (borrow : Int) (t141 : (List Int)) (t142 : Int) (t143 : Int)
  | c8 (r64 : (List Int)) (r71 : (List Int)) (n : Int) (shift : Int) (v : (List Int)) (top : Int) (next : Int) (j : Int) (guess : Int) (carry : Int) (borrow : Int) (t141 : (List Int)) (t142 : Int) (t143 : Int)
  | c9 (r66 : (List Int)) (r71 : (List Int)) (n : Int) (shift : Int) (v : (List Int)) (top : Int) (next : Int) (j : Int)
  | c10 (r66 : (List Int)) (r71 : (List Int)) (n : Int) (shift : Int) (v : (List Int)) (top : Int) (next : Int) (j : Int) (sum : Int) (t210 : (List Int)) (t211 : Int) (t212 : Int)
  | c11 (r64 : (List Int)) (r71 : (List Int)) (n : Int) (shift : Int) (v : (List Int)) (top : Int) (next : Int) (j : Int)
  | c12 (r64 : (List Int)) (r71 : (List Int)) (n : Int) (shift : Int) (v : (List Int)) (top : Int) (next : Int) (j : Int) (sum : Int) (t210 : (List Int)) (t211 : Int) (t212 : Int)

def division_long_go : Nat → division_long_Cut → Option ((List Int) × (List Int))
  | 0, _ => none
  | K + 1, .c0 a b =>
    (natural_Normal K b).bind fun x1 =>
    (natural_Cmp K a x1).bind fun x3 =>
    bif (decide (x3 < (0 : Int))) then
      (natural_Normal K a).bind fun x6 =>
      some ([], x6)
    else
      bif (decide ((x1.length : Int) = (1 : Int))) then
        (gi x1 (0 : Int)).bind fun x7 =>
        (natural_DivSmall K a x7).bind fun x9 =>
        (natural_Of K (IntKind.u64.wrap x9.2.1)).bind fun x11 =>
        some (x9.1, x11)
      else
        (gi x1 (IntKind.i64.wrap ((x1.length : Int) - (1 : Int)))).bind fun x7 =>
        (math_bits_LeadingZeros32 K x7).bind fun x9 =>
        (natural_Shl K x1 x9).bind fun x11 =>
        (natural_Shl__N K a x9).bind fun x13 => match x13 with
        | none =>
          gd (0 ≤ (IntKind.i64.wrap ((((([(0 : Int)] : List Int).map ce_u32).length : Nat) : Int) - (x1.length : Int))) ∧ (IntKind.i64.wrap ((((([(0 : Int)] : List Int).map ce_u32).length : Nat) : Int) - (x1.length : Int))) ≤ (IntKind.i64.wrap ((((([(0 : Int)] : List Int).map ce_u32).length : Nat) : Int) - (x1.length : Int))) ∧ (4 : Int) * (IntKind.i64.wrap ((((([(0 : Int)] : List Int).map ce_u32).length : Nat) : Int) - (x1.length : Int))) ≤ 140737488355328) <|
          (gi x11 (IntKind.i64.wrap ((x1.length : Int) - (1 : Int)))).bind fun x17 =>
          (gi x11 (IntKind.i64.wrap ((x1.length : Int) - (2 : Int)))).bind fun x19 =>
          division_long_go K (.c1 ([(0 : Int)] : List Int) (List.replicate (IntKind.i64.wrap ((((([(0 : Int)] : List Int).map ce_u32).length : Nat) : Int) - (x1.length : Int))).toNat ((0 : Int) : Int)) (x1.length : Int) x9 x11 (IntKind.u64.wrap x17) (IntKind.u64.wrap x19) (IntKind.i64.wrap ((IntKind.i64.wrap ((((([(0 : Int)] : List Int).map ce_u32).length : Nat) : Int) - (x1.length : Int))) - (1 : Int))))
        | some l15 =>
          gd ((l15 ++ ([(0 : Int)] : List Int)).length * 4 ≤ 140737488355328) <|
          gd (0 ≤ (IntKind.i64.wrap (((((l15 ++ ([(0 : Int)] : List Int)).map ce_u32).length : Nat) : Int) - (x1.length : Int))) ∧ (IntKind.i64.wrap (((((l15 ++ ([(0 : Int)] : List Int)).map ce_u32).length : Nat) : Int) - (x1.length : Int))) ≤ (IntKind.i64.wrap (((((l15 ++ ([(0 : Int)] : List Int)).map ce_u32).length : Nat) : Int) - (x1.length : Int))) ∧ (4 : Int) * (IntKind.i64.wrap (((((l15 ++ ([(0 : Int)] : List Int)).map ce_u32).length : Nat) : Int) - (x1.length : Int))) ≤ 140737488355328) <|
          (gi x11 (IntKind.i64.wrap ((x1.length : Int) - (1 : Int)))).bind fun x18 =>
          (gi x11 (IntKind.i64.wrap ((x1.length : Int) - (2 : Int)))).bind fun x20 =>
          division_long_go K (.c2 (l15 ++ ([(0 : Int)] : List Int)) (List.replicate (IntKind.i64.wrap (((((l15 ++ ([(0 : Int)] : List Int)).map ce_u32).length : Nat) : Int) - (x1.length : Int))).toNat ((0 : Int) : Int)) (x1.length : Int) x9 x11 (IntKind.u64.wrap x18) (IntKind.u64.wrap x20) (IntKind.i64.wrap ((IntKind.i64.wrap (((((l15 ++ ([(0 : Int)] : List Int)).map ce_u32).length : Nat) : Int) - (x1.length : Int))) - (1 : Int))))
  | K + 1, .c1 r66 r71 n shift v top next j =>
    bif (decide ((0 : Int) ≤ j)) then
      (gi r66 (IntKind.i64.wrap (j + n))).bind fun x2 =>
      (gi r66 (IntKind.i64.wrap ((IntKind.i64.wrap (j + n)) - (1 : Int)))).bind fun x4 =>
      (math_bits_Div64 K (0 : Int) (bits .or .u64 (shlOp .u64 (IntKind.u64.wrap x2) (32 : Int)) (IntKind.u64.wrap x4)) top).bind fun x6 =>
      division_long_go K (.c3 r66 r71 n shift v top next j x6.1 x6.2)
    else
      (natural_Normal K r71).bind fun x2 =>
      gd (0 ≤ n ∧ 0 ≤ n.toNat ∧ n.toNat ≤ r66.length) <|
      (natural_Shr K (r66.take n.toNat) shift).bind fun x5 =>
      some (x2, x5)
  | K + 1, .c2 r64 r71 n shift v top next j =>
    bif (decide ((0 : Int) ≤ j)) then
      (gi r64 (IntKind.i64.wrap (j + n))).bind fun x2 =>
      (gi r64 (IntKind.i64.wrap ((IntKind.i64.wrap (j + n)) - (1 : Int)))).bind fun x4 =>
      (math_bits_Div64 K (0 : Int) (bits .or .u64 (shlOp .u64 (IntKind.u64.wrap x2) (32 : Int)) (IntKind.u64.wrap x4)) top).bind fun x6 =>
      division_long_go K (.c4 r64 r71 n shift v top next j x6.1 x6.2)
    else
      (natural_Normal K r71).bind fun x2 =>
      gd (0 ≤ n ∧ 0 ≤ n.toNat ∧ n.toNat ≤ r64.length) <|
      (natural_Shr K (r64.take n.toNat) shift).bind fun x5 =>
      some (x2, x5)
  | K + 1, .c3 r66 r71 n shift v top next j guess rest =>
    bif (decide ((4294967296 : Int) ≤ guess)) then
      bif (decide ((4294967296 : Int) ≤ (IntKind.u64.wrap (rest + top)))) then
        division_long_go K (.c5 r66 r71 n shift v top next j (IntKind.u64.wrap (guess - (1 : Int))))
      else
        division_long_go K (.c3 r66 r71 n shift v top next j (IntKind.u64.wrap (guess - (1 : Int))) (IntKind.u64.wrap (rest + top)))
    else
      (gi r66 (IntKind.i64.wrap ((IntKind.i64.wrap (j + n)) - (2 : Int)))).bind fun x2 =>
      bif (decide ((bits .or .u64 (shlOp .u64 rest (32 : Int)) (IntKind.u64.wrap x2)) < (IntKind.u64.wrap (guess * next)))) then
        bif (decide ((4294967296 : Int) ≤ (IntKind.u64.wrap (rest + top)))) then
          division_long_go K (.c5 r66 r71 n shift v top next j (IntKind.u64.wrap (guess - (1 : Int))))
        else
          division_long_go K (.c3 r66 r71 n shift v top next j (IntKind.u64.wrap (guess - (1 : Int))) (IntKind.u64.wrap (rest + top)))
      else
        division_long_go K (.c5 r66 r71 n shift v top next j guess)
  | K + 1, .c4 r64 r71 n shift v top next j guess rest =>
    bif (decide ((4294967296 : Int) ≤ guess)) then
      bif (decide ((4294967296 : Int) ≤ (IntKind.u64.wrap (rest + top)))) then
        division_long_go K (.c6 r64 r71 n shift v top next j (IntKind.u64.wrap (guess - (1 : Int))))
      else
        division_long_go K (.c4 r64 r71 n shift v top next j (IntKind.u64.wrap (guess - (1 : Int))) (IntKind.u64.wrap (rest + top)))
    else
      (gi r64 (IntKind.i64.wrap ((IntKind.i64.wrap (j + n)) - (2 : Int)))).bind fun x2 =>
      bif (decide ((bits .or .u64 (shlOp .u64 rest (32 : Int)) (IntKind.u64.wrap x2)) < (IntKind.u64.wrap (guess * next)))) then
        bif (decide ((4294967296 : Int) ≤ (IntKind.u64.wrap (rest + top)))) then
          division_long_go K (.c6 r64 r71 n shift v top next j (IntKind.u64.wrap (guess - (1 : Int))))
        else
          division_long_go K (.c4 r64 r71 n shift v top next j (IntKind.u64.wrap (guess - (1 : Int))) (IntKind.u64.wrap (rest + top)))
      else
        division_long_go K (.c6 r64 r71 n shift v top next j guess)
  | K + 1, .c5 r66 r71 n shift v top next j guess =>
    division_long_go K (.c7 r66 r71 n shift v top next j guess (0 : Int) (0 : Int) v (v.length : Int) (0 : Int))
  | K + 1, .c6 r64 r71 n shift v top next j guess =>
    division_long_go K (.c8 r64 r71 n shift v top next j guess (0 : Int) (0 : Int) v (v.length : Int) (0 : Int))
  | K + 1, .c7 r66 r71 n shift v top next j guess carry borrow t141 t142 t143 =>
    bif (decide (t143 < t142)) then
      (gi t141 t143).bind fun x2 =>
      (gi r66 (IntKind.i64.wrap (t143 + j))).bind fun x4 =>
      (gi r66 (IntKind.i64.wrap (t143 + j))).bind fun _ =>
      division_long_go K (.c7 (r66.set ((IntKind.i64.wrap (t143 + j)).toNat) (IntKind.u32.wrap (IntKind.u64.wrap ((IntKind.u64.wrap ((IntKind.u64.wrap x4) - borrow)) - (bits .and .u64 (IntKind.u64.wrap ((IntKind.u64.wrap (guess * (IntKind.u64.wrap x2))) + carry)) (4294967295 : Int)))))) r71 n shift v top next j guess (shrOp .u64 (IntKind.u64.wrap ((IntKind.u64.wrap (guess * (IntKind.u64.wrap x2))) + carry)) (32 : Int)) (shrOp .u64 (IntKind.u64.wrap ((IntKind.u64.wrap ((IntKind.u64.wrap x4) - borrow)) - (bits .and .u64 (IntKind.u64.wrap ((IntKind.u64.wrap (guess * (IntKind.u64.wrap x2))) + carry)) (4294967295 : Int)))) (63 : Int)) t141 t142 (IntKind.i64.wrap (t143 + (1 : Int))))
    else
      (gi r66 (IntKind.i64.wrap (j + n))).bind fun x2 =>
      (gi r66 (IntKind.i64.wrap (j + n))).bind fun _ =>
      (gi r71 j).bind fun _ =>
      bif (decide ((shrOp .u64 (IntKind.u64.wrap ((IntKind.u64.wrap ((IntKind.u64.wrap x2) - borrow)) - carry)) (63 : Int)) = (0 : Int))) then
        division_long_go K (.c9 (r66.set ((IntKind.i64.wrap (j + n)).toNat) (IntKind.u32.wrap (IntKind.u64.wrap ((IntKind.u64.wrap ((IntKind.u64.wrap x2) - borrow)) - carry)))) (r71.set (j.toNat) (IntKind.u32.wrap guess)) n shift v top next j)
      else
        (gi (r71.set (j.toNat) (IntKind.u32.wrap guess)) j).bind fun x9 =>
        (gi (r71.set (j.toNat) (IntKind.u32.wrap guess)) j).bind fun _ =>
        division_long_go K (.c10 (r66.set ((IntKind.i64.wrap (j + n)).toNat) (IntKind.u32.wrap (IntKind.u64.wrap ((IntKind.u64.wrap ((IntKind.u64.wrap x2) - borrow)) - carry)))) ((r71.set (j.toNat) (IntKind.u32.wrap guess)).set (j.toNat) (IntKind.u32.wrap (x9 - (1 : Int)))) n shift v top next j (0 : Int) v (v.length : Int) (0 : Int))
  | K + 1, .c8 r64 r71 n shift v top next j guess carry borrow t141 t142 t143 =>
    bif (decide (t143 < t142)) then
      (gi t141 t143).bind fun x2 =>
      (gi r64 (IntKind.i64.wrap (t143 + j))).bind fun x4 =>
      (gi r64 (IntKind.i64.wrap (t143 + j))).bind fun _ =>
      division_long_go K (.c8 (r64.set ((IntKind.i64.wrap (t143 + j)).toNat) (IntKind.u32.wrap (IntKind.u64.wrap ((IntKind.u64.wrap ((IntKind.u64.wrap x4) - borrow)) - (bits .and .u64 (IntKind.u64.wrap ((IntKind.u64.wrap (guess * (IntKind.u64.wrap x2))) + carry)) (4294967295 : Int)))))) r71 n shift v top next j guess (shrOp .u64 (IntKind.u64.wrap ((IntKind.u64.wrap (guess * (IntKind.u64.wrap x2))) + carry)) (32 : Int)) (shrOp .u64 (IntKind.u64.wrap ((IntKind.u64.wrap ((IntKind.u64.wrap x4) - borrow)) - (bits .and .u64 (IntKind.u64.wrap ((IntKind.u64.wrap (guess * (IntKind.u64.wrap x2))) + carry)) (4294967295 : Int)))) (63 : Int)) t141 t142 (IntKind.i64.wrap (t143 + (1 : Int))))
    else
      (gi r64 (IntKind.i64.wrap (j + n))).bind fun x2 =>
      (gi r64 (IntKind.i64.wrap (j + n))).bind fun _ =>
      (gi r71 j).bind fun _ =>
      bif (decide ((shrOp .u64 (IntKind.u64.wrap ((IntKind.u64.wrap ((IntKind.u64.wrap x2) - borrow)) - carry)) (63 : Int)) = (0 : Int))) then
        division_long_go K (.c11 (r64.set ((IntKind.i64.wrap (j + n)).toNat) (IntKind.u32.wrap (IntKind.u64.wrap ((IntKind.u64.wrap ((IntKind.u64.wrap x2) - borrow)) - carry)))) (r71.set (j.toNat) (IntKind.u32.wrap guess)) n shift v top next j)
      else
        (gi (r71.set (j.toNat) (IntKind.u32.wrap guess)) j).bind fun x9 =>
        (gi (r71.set (j.toNat) (IntKind.u32.wrap guess)) j).bind fun _ =>
        division_long_go K (.c12 (r64.set ((IntKind.i64.wrap (j + n)).toNat) (IntKind.u32.wrap (IntKind.u64.wrap ((IntKind.u64.wrap ((IntKind.u64.wrap x2) - borrow)) - carry)))) ((r71.set (j.toNat) (IntKind.u32.wrap guess)).set (j.toNat) (IntKind.u32.wrap (x9 - (1 : Int)))) n shift v top next j (0 : Int) v (v.length : Int) (0 : Int))
  | K + 1, .c9 r66 r71 n shift v top next j =>
    division_long_go K (.c1 r66 r71 n shift v top next (IntKind.i64.wrap (j - (1 : Int))))
  | K + 1, .c10 r66 r71 n shift v top next j sum t210 t211 t212 =>
    bif (decide (t212 < t211)) then
      (gi t210 t212).bind fun x2 =>
      (gi r66 (IntKind.i64.wrap (t212 + j))).bind fun x4 =>
      (math_bits_Add32 K x4 x2 sum).bind fun x6 =>
      (gi r66 (IntKind.i64.wrap (t212 + j))).bind fun _ =>
      division_long_go K (.c10 (r66.set ((IntKind.i64.wrap (t212 + j)).toNat) x6.1) r71 n shift v top next j x6.2 t210 t211 (IntKind.i64.wrap (t212 + (1 : Int))))
    else
      (gi r66 (IntKind.i64.wrap (j + n))).bind fun x2 =>
      (gi r66 (IntKind.i64.wrap (j + n))).bind fun _ =>
      division_long_go K (.c9 (r66.set ((IntKind.i64.wrap (j + n)).toNat) (IntKind.u32.wrap (x2 + sum))) r71 n shift v top next j)
  | K + 1, .c11 r64 r71 n shift v top next j =>
    division_long_go K (.c2 r64 r71 n shift v top next (IntKind.i64.wrap (j - (1 : Int))))
  | K + 1, .c12 r64 r71 n shift v top next j sum t210 t211 t212 =>
    bif (decide (t212 < t211)) then
      (gi t210 t212).bind fun x2 =>
      (gi r64 (IntKind.i64.wrap (t212 + j))).bind fun x4 =>
      (math_bits_Add32 K x4 x2 sum).bind fun x6 =>
      (gi r64 (IntKind.i64.wrap (t212 + j))).bind fun _ =>
      division_long_go K (.c12 (r64.set ((IntKind.i64.wrap (t212 + j)).toNat) x6.1) r71 n shift v top next j x6.2 t210 t211 (IntKind.i64.wrap (t212 + (1 : Int))))
    else
      (gi r64 (IntKind.i64.wrap (j + n))).bind fun x2 =>
      (gi r64 (IntKind.i64.wrap (j + n))).bind fun _ =>
      division_long_go K (.c11 (r64.set ((IntKind.i64.wrap (j + n)).toNat) (IntKind.u32.wrap (x2 + sum))) r71 n shift v top next j)

def division_long (K : Nat) (a : (List Int)) (b : (List Int)) : Option ((List Int) × (List Int)) := division_long_go K (.c0 a b)

noncomputable def division_long_body : Code := bodyOf prog 177
noncomputable def division_long_pos : division_long_Cut → List Fr
  | .c0 .. => [.code division_long_body]
  | .c1 .. => [.code (.loop (atC division_long_body [1,0,1,1,1,1,1,1,1,1,1,1,0,1,0,0])), .blk 0, .code (atC division_long_body [1,0,1,1,1,1,1,1,1,1,1,1,1]), .sc]
  | .c2 .. => [.code (.loop (atC division_long_body [1,0,1,1,1,1,1,1,1,1,1,1,0,1,0,0])), .blk 0, .code (atC division_long_body [1,0,1,1,1,1,1,1,1,1,1,1,1]), .sc]
  | .c3 .. => [.code (.loop (atC division_long_body [1,0,1,1,1,1,1,1,1,1,1,1,0,1,0,0,1,0,0,1,0,0,0])), .blk 2, .code (atC division_long_body [1,0,1,1,1,1,1,1,1,1,1,1,0,1,0,0,1,0,0,1,1]), .blk 1, .code (atC division_long_body [1,0,1,1,1,1,1,1,1,1,1,1,0,1,0,0,1,1]), .lp (atC division_long_body [1,0,1,1,1,1,1,1,1,1,1,1,0,1,0,0]), .blk 0, .code (atC division_long_body [1,0,1,1,1,1,1,1,1,1,1,1,1]), .sc]
  | .c4 .. => [.code (.loop (atC division_long_body [1,0,1,1,1,1,1,1,1,1,1,1,0,1,0,0,1,0,0,1,0,0,0])), .blk 2, .code (atC division_long_body [1,0,1,1,1,1,1,1,1,1,1,1,0,1,0,0,1,0,0,1,1]), .blk 1, .code (atC division_long_body [1,0,1,1,1,1,1,1,1,1,1,1,0,1,0,0,1,1]), .lp (atC division_long_body [1,0,1,1,1,1,1,1,1,1,1,1,0,1,0,0]), .blk 0, .code (atC division_long_body [1,0,1,1,1,1,1,1,1,1,1,1,1]), .sc]
  | .c5 .. => [.code (atC division_long_body [1,0,1,1,1,1,1,1,1,1,1,1,0,1,0,0,1,0,0,1,1,0]), .code (atC division_long_body [1,0,1,1,1,1,1,1,1,1,1,1,0,1,0,0,1,0,0,1,1,1]), .blk 1, .code (atC division_long_body [1,0,1,1,1,1,1,1,1,1,1,1,0,1,0,0,1,1]), .lp (atC division_long_body [1,0,1,1,1,1,1,1,1,1,1,1,0,1,0,0]), .blk 0, .code (atC division_long_body [1,0,1,1,1,1,1,1,1,1,1,1,1]), .sc]
  | .c6 .. => [.code (atC division_long_body [1,0,1,1,1,1,1,1,1,1,1,1,0,1,0,0,1,0,0,1,1,0]), .code (atC division_long_body [1,0,1,1,1,1,1,1,1,1,1,1,0,1,0,0,1,0,0,1,1,1]), .blk 1, .code (atC division_long_body [1,0,1,1,1,1,1,1,1,1,1,1,0,1,0,0,1,1]), .lp (atC division_long_body [1,0,1,1,1,1,1,1,1,1,1,1,0,1,0,0]), .blk 0, .code (atC division_long_body [1,0,1,1,1,1,1,1,1,1,1,1,1]), .sc]
  | .c7 .. => [.code (.loop (atC division_long_body [1,0,1,1,1,1,1,1,1,1,1,1,0,1,0,0,1,0,0,1,1,1,0,1,0,0])), .blk 4, .code (atC division_long_body [1,0,1,1,1,1,1,1,1,1,1,1,0,1,0,0,1,0,0,1,1,1,1]), .blk 1, .code (atC division_long_body [1,0,1,1,1,1,1,1,1,1,1,1,0,1,0,0,1,1]), .lp (atC division_long_body [1,0,1,1,1,1,1,1,1,1,1,1,0,1,0,0]), .blk 0, .code (atC division_long_body [1,0,1,1,1,1,1,1,1,1,1,1,1]), .sc]
  | .c8 .. => [.code (.loop (atC division_long_body [1,0,1,1,1,1,1,1,1,1,1,1,0,1,0,0,1,0,0,1,1,1,0,1,0,0])), .blk 4, .code (atC division_long_body [1,0,1,1,1,1,1,1,1,1,1,1,0,1,0,0,1,0,0,1,1,1,1]), .blk 1, .code (atC division_long_body [1,0,1,1,1,1,1,1,1,1,1,1,0,1,0,0,1,1]), .lp (atC division_long_body [1,0,1,1,1,1,1,1,1,1,1,1,0,1,0,0]), .blk 0, .code (atC division_long_body [1,0,1,1,1,1,1,1,1,1,1,1,1]), .sc]
  | .c9 .. => [.code (atC division_long_body [1,0,1,1,1,1,1,1,1,1,1,1,0,1,0,0,1,1]), .lp (atC division_long_body [1,0,1,1,1,1,1,1,1,1,1,1,0,1,0,0]), .blk 0, .code (atC division_long_body [1,0,1,1,1,1,1,1,1,1,1,1,1]), .sc]
  | .c10 .. => [.code (.loop (atC division_long_body [1,0,1,1,1,1,1,1,1,1,1,1,0,1,0,0,1,0,0,1,1,1,1,1,1,1,1,1,1,0,1,0,0])), .blk 6, .code (atC division_long_body [1,0,1,1,1,1,1,1,1,1,1,1,0,1,0,0,1,0,0,1,1,1,1,1,1,1,1,1,1,1]), .blk 1, .code (atC division_long_body [1,0,1,1,1,1,1,1,1,1,1,1,0,1,0,0,1,1]), .lp (atC division_long_body [1,0,1,1,1,1,1,1,1,1,1,1,0,1,0,0]), .blk 0, .code (atC division_long_body [1,0,1,1,1,1,1,1,1,1,1,1,1]), .sc]
  | .c11 .. => [.code (atC division_long_body [1,0,1,1,1,1,1,1,1,1,1,1,0,1,0,0,1,1]), .lp (atC division_long_body [1,0,1,1,1,1,1,1,1,1,1,1,0,1,0,0]), .blk 0, .code (atC division_long_body [1,0,1,1,1,1,1,1,1,1,1,1,1]), .sc]
  | .c12 .. => [.code (.loop (atC division_long_body [1,0,1,1,1,1,1,1,1,1,1,1,0,1,0,0,1,0,0,1,1,1,1,1,1,1,1,1,1,0,1,0,0])), .blk 6, .code (atC division_long_body [1,0,1,1,1,1,1,1,1,1,1,1,0,1,0,0,1,0,0,1,1,1,1,1,1,1,1,1,1,1]), .blk 1, .code (atC division_long_body [1,0,1,1,1,1,1,1,1,1,1,1,0,1,0,0,1,1]), .lp (atC division_long_body [1,0,1,1,1,1,1,1,1,1,1,1,0,1,0,0]), .blk 0, .code (atC division_long_body [1,0,1,1,1,1,1,1,1,1,1,1,1]), .sc]
def division_long_st : division_long_Cut → St
  | .c0 a b => St.init [(tl 1 a ce_u32), (tl 1 b ce_u32)]
  | .c1 r66 r71 n shift v top next j => ⟨[(4, .c (C.row 71 0 r71.length)), (6, vi .i64 n), (10, vi .i64 shift), (11, vl 1 v ce_u32), (12, .c (C.row 66 0 r66.length)), (13, vi .u64 top), (14, vi .u64 next), (15, vi .i64 j)], [(66, .row 101 1 (r66.map ce_u32) 0), (71, .row 101 1 (r71.map ce_u32) 0)], []⟩
  | .c2 r64 r71 n shift v top next j => ⟨[(4, .c (C.row 71 0 r71.length)), (6, vi .i64 n), (10, vi .i64 shift), (11, vl 1 v ce_u32), (12, .c (C.row 64 0 r64.length)), (13, vi .u64 top), (14, vi .u64 next), (15, vi .i64 j)], [(64, .row 101 1 (r64.map ce_u32) 0), (71, .row 101 1 (r71.map ce_u32) 0)], []⟩
  | .c3 r66 r71 n shift v top next j guess rest => ⟨[(4, .c (C.row 71 0 r71.length)), (6, vi .i64 n), (10, vi .i64 shift), (11, vl 1 v ce_u32), (12, .c (C.row 66 0 r66.length)), (13, vi .u64 top), (14, vi .u64 next), (15, vi .i64 j), (16, vi .u64 guess), (17, vi .u64 rest)], [(66, .row 101 1 (r66.map ce_u32) 0), (71, .row 101 1 (r71.map ce_u32) 0)], []⟩
  | .c4 r64 r71 n shift v top next j guess rest => ⟨[(4, .c (C.row 71 0 r71.length)), (6, vi .i64 n), (10, vi .i64 shift), (11, vl 1 v ce_u32), (12, .c (C.row 64 0 r64.length)), (13, vi .u64 top), (14, vi .u64 next), (15, vi .i64 j), (16, vi .u64 guess), (17, vi .u64 rest)], [(64, .row 101 1 (r64.map ce_u32) 0), (71, .row 101 1 (r71.map ce_u32) 0)], []⟩
  | .c5 r66 r71 n shift v top next j guess => ⟨[(4, .c (C.row 71 0 r71.length)), (6, vi .i64 n), (10, vi .i64 shift), (11, vl 1 v ce_u32), (12, .c (C.row 66 0 r66.length)), (13, vi .u64 top), (14, vi .u64 next), (15, vi .i64 j), (16, vi .u64 guess)], [(66, .row 101 1 (r66.map ce_u32) 0), (71, .row 101 1 (r71.map ce_u32) 0)], []⟩
  | .c6 r64 r71 n shift v top next j guess => ⟨[(4, .c (C.row 71 0 r71.length)), (6, vi .i64 n), (10, vi .i64 shift), (11, vl 1 v ce_u32), (12, .c (C.row 64 0 r64.length)), (13, vi .u64 top), (14, vi .u64 next), (15, vi .i64 j), (16, vi .u64 guess)], [(64, .row 101 1 (r64.map ce_u32) 0), (71, .row 101 1 (r71.map ce_u32) 0)], []⟩
  | .c7 r66 r71 n shift v top next j guess carry borrow t141 t142 t143 => ⟨[(4, .c (C.row 71 0 r71.length)), (6, vi .i64 n), (10, vi .i64 shift), (11, vl 1 v ce_u32), (12, .c (C.row 66 0 r66.length)), (13, vi .u64 top), (14, vi .u64 next), (15, vi .i64 j), (16, vi .u64 guess), (18, vi .u64 carry), (19, vi .u64 borrow), (141, vl 1 t141 ce_u32), (142, vi .i64 t142), (143, vi .i64 t143)], [(66, .row 101 1 (r66.map ce_u32) 0), (71, .row 101 1 (r71.map ce_u32) 0)], []⟩
  | .c8 r64 r71 n shift v top next j guess carry borrow t141 t142 t143 => ⟨[(4, .c (C.row 71 0 r71.length)), (6, vi .i64 n), (10, vi .i64 shift), (11, vl 1 v ce_u32), (12, .c (C.row 64 0 r64.length)), (13, vi .u64 top), (14, vi .u64 next), (15, vi .i64 j), (16, vi .u64 guess), (18, vi .u64 carry), (19, vi .u64 borrow), (141, vl 1 t141 ce_u32), (142, vi .i64 t142), (143, vi .i64 t143)], [(64, .row 101 1 (r64.map ce_u32) 0), (71, .row 101 1 (r71.map ce_u32) 0)], []⟩
  | .c9 r66 r71 n shift v top next j => ⟨[(4, .c (C.row 71 0 r71.length)), (6, vi .i64 n), (10, vi .i64 shift), (11, vl 1 v ce_u32), (12, .c (C.row 66 0 r66.length)), (13, vi .u64 top), (14, vi .u64 next), (15, vi .i64 j)], [(66, .row 101 1 (r66.map ce_u32) 0), (71, .row 101 1 (r71.map ce_u32) 0)], []⟩
  | .c10 r66 r71 n shift v top next j sum t210 t211 t212 => ⟨[(4, .c (C.row 71 0 r71.length)), (6, vi .i64 n), (10, vi .i64 shift), (11, vl 1 v ce_u32), (12, .c (C.row 66 0 r66.length)), (13, vi .u64 top), (14, vi .u64 next), (15, vi .i64 j), (25, vi .u32 sum), (210, vl 1 t210 ce_u32), (211, vi .i64 t211), (212, vi .i64 t212)], [(66, .row 101 1 (r66.map ce_u32) 0), (71, .row 101 1 (r71.map ce_u32) 0)], []⟩
  | .c11 r64 r71 n shift v top next j => ⟨[(4, .c (C.row 71 0 r71.length)), (6, vi .i64 n), (10, vi .i64 shift), (11, vl 1 v ce_u32), (12, .c (C.row 64 0 r64.length)), (13, vi .u64 top), (14, vi .u64 next), (15, vi .i64 j)], [(64, .row 101 1 (r64.map ce_u32) 0), (71, .row 101 1 (r71.map ce_u32) 0)], []⟩
  | .c12 r64 r71 n shift v top next j sum t210 t211 t212 => ⟨[(4, .c (C.row 71 0 r71.length)), (6, vi .i64 n), (10, vi .i64 shift), (11, vl 1 v ce_u32), (12, .c (C.row 64 0 r64.length)), (13, vi .u64 top), (14, vi .u64 next), (15, vi .i64 j), (25, vi .u32 sum), (210, vl 1 t210 ce_u32), (211, vi .i64 t211), (212, vi .i64 t212)], [(64, .row 101 1 (r64.map ce_u32) 0), (71, .row 101 1 (r71.map ce_u32) 0)], []⟩

def division_long_S (cx : Cx) (c : division_long_Cut) (r : ((List Int) × (List Int))) : Prop := Wk prog cx (EndsF prog 177 [[1], [1]] (TV.tup [(false, [(T.sl 1 (r.1.map ce_u32))]), (false, [(T.sl 1 (r.2.map ce_u32))])])) (division_long_pos c) .normal (division_long_st c)
abbrev division_long_H (K : Nat) : Prop := ∀ c r, division_long_go K c = some r → ∀ cx : Cx, cx.n = 251 → division_long_S cx c r

theorem division_long_c0 {K} (ih : division_long_H K) {cx} (hn : cx.n = 251) {a b} {r} (h : division_long_go (K + 1) (.c0 a b) = some r) : division_long_S cx (.c0 a b) r := by
  rw [division_long_go] at h
  obtain ⟨x1, h2, h⟩ := obind h
  obtain ⟨x3, h4, h⟩ := obind h
  rcases bcases h with ⟨h5, h⟩ | ⟨h5, h⟩
  · skip
    obtain ⟨x6, h7, h⟩ := obind h
    have h := Option.some.inj h; subst h
    exact wk_ret (fuel := 84) [.reg [oo, oo], .reg [oo, .op (.call [[1]] [(tl 1 b ce_u32)] (tl 1 x1 ce_u32)), oo], .reg [oo, oo, .op (.call [[1], [1]] [(tl 1 a ce_u32), (tl 1 x1 ce_u32)] (ti .i64 x3)), oo], .br true, .reg [oo, .op (.call [[1]] [(tl 1 a ce_u32)] (tl 1 x6 ce_u32)), oo, oo]] _ hn (by kernel_rfl) (aC (natural_Normal_holds h2) <| aC (natural_Cmp_holds h4) <| aC h5 <| aC (natural_Normal_holds h7) <| aN)
  · skip
    rcases bcases h with ⟨h6, h⟩ | ⟨h6, h⟩
    · skip
      obtain ⟨x7, h8, h⟩ := obind h
      obtain ⟨x9, h10, h⟩ := obind h
      obtain ⟨x11, h12, h⟩ := obind h
      have h := Option.some.inj h; subst h
      exact wk_ret (fuel := 118) [.reg [oo, oo], .reg [oo, .op (.call [[1]] [(tl 1 b ce_u32)] (tl 1 x1 ce_u32)), oo], .reg [oo, oo, .op (.call [[1], [1]] [(tl 1 a ce_u32), (tl 1 x1 ce_u32)] (ti .i64 x3)), oo], .br false, .reg [oo, .op (.ln (x1.length : Int)), oo], .reg [oo, oo], .br true, .reg [oo, oo, .op (.ix (ce_u32 x7)), oo, .op (.call [[1], [0]] [(tl 1 a ce_u32), (ti .u32 x7)] (TV.tup [(false, [(T.sl 1 (x9.1.map ce_u32))]), (false, [(T.int .u32 x9.2.1)]), (false, [(T.bool x9.2.2)])])), oo, oo, oo, oo, oo, oo, oo], .reg [oo, oo, oo, .op (.call [[0]] [(TV.c (T.int .u64 (IntKind.u64.wrap x9.2.1)))] (tl 1 x11 ce_u32)), oo, oo]] _ hn (by kernel_rfl) (aC (natural_Normal_holds h2) <| aC (natural_Cmp_holds h4) <| aC h5 <| aC (ln_eq x1 ce_u32) <| aC h6 <| aC (gi_nn h8) <| aC (gi_at ce_u32 h8) <| aC (natural_DivSmall_holds h10) <| aC (natural_Of_holds h12) <| aN)
    · skip
      obtain ⟨x7, h8, h⟩ := obind h
      obtain ⟨x9, h10, h⟩ := obind h
      obtain ⟨x11, h12, h⟩ := obind h
      obtain ⟨x13, h14, h⟩ := obind h
      cases x13 with
      | none =>
        obtain ⟨h16, h⟩ := gd_some h
        obtain ⟨x17, h18, h⟩ := obind h
        obtain ⟨x19, h20, h⟩ := obind h
        exact wk_go (fuel := 154) [.reg [oo, oo], .reg [oo, .op (.call [[1]] [(tl 1 b ce_u32)] (tl 1 x1 ce_u32)), oo], .reg [oo, oo, .op (.call [[1], [1]] [(tl 1 a ce_u32), (tl 1 x1 ce_u32)] (ti .i64 x3)), oo], .br false, .reg [oo, .op (.ln (x1.length : Int)), oo], .reg [oo, oo], .br false, .reg [oo, oo, oo, .op (.ix (ce_u32 x7)), oo, .op (.call [[0]] [(ti .u32 x7)] (ti .i64 x9)), oo], .reg [oo, oo, .op (.call [[1], [0]] [(tl 1 x1 ce_u32), (ti .i64 x9)] (tl 1 x11 ce_u32)), oo], .reg [oo, oo, .callN [[1], [0]] 101 1 none, .op (.lit (([(0 : Int)] : List Int).map ce_u32)), .op (.appN (([(0 : Int)] : List Int).map ce_u32)), oo], .reg [oo, oo, oo, oo, .op (.mk (ce_u32 (0 : Int)) ((List.replicate (IntKind.i64.wrap ((((([(0 : Int)] : List Int).map ce_u32).length : Nat) : Int) - (x1.length : Int))).toNat ((0 : Int) : Int)).map ce_u32)), oo], .draw [.p, .p, .p, (.ix (ce_u32 x17)), .p, .p, .p, .p, .p, (.ix (ce_u32 x19)), .p, .p, .p] [.op .p], .reg [oo, oo, oo, oo, oo, oo], .pre [.rl 4 0 (List.replicate (IntKind.i64.wrap ((((([(0 : Int)] : List Int).map ce_u32).length : Nat) : Int) - (x1.length : Int))).toNat ((0 : Int) : Int)).length, .rl 12 0 ([(0 : Int)] : List Int).length, .keep [4,6,10,11,12,13,14,15] [66,71]]] _ hn (by kernel_rfl) (aC (natural_Normal_holds h2) <| aC (natural_Cmp_holds h4) <| aC h5 <| aC (ln_eq x1 ce_u32) <| aC h6 <| aC (gi_nn h8) <| aC (gi_at ce_u32 h8) <| aC (math_bits_LeadingZeros32_holds h10) <| aC (natural_Shl_holds h12) <| aC (natural_Shl__N_holdsN h14) <| aC (by kernel_rfl : [(T.int .u32 (0 : Int))] = (([(0 : Int)] : List Int).map ce_u32).flatten) <| aC (sn_map _ _ _ (by simp) : ((([(0 : Int)] : List Int).map ce_u32).drop 0).take 1 = ([(0 : Int)] : List Int).map ce_u32) <| aC (by simp : 0 < (([(0 : Int)] : List Int).map ce_u32).length) <| aC (by simp : (([(0 : Int)] : List Int).map ce_u32).length * 4 ≤ 140737488355328) <| aC (by simp [maxLen] : (([(0 : Int)] : List Int).map ce_u32).length ≤ maxLen) <| aC h16.1 <| aC h16.2.1 <| aC h16.2.2 <| aC (rep_map _ _ _ : List.replicate (IntKind.i64.wrap ((((([(0 : Int)] : List Int).map ce_u32).length : Nat) : Int) - (x1.length : Int))).toNat (ce_u32 (0 : Int)) = (List.replicate (IntKind.i64.wrap ((((([(0 : Int)] : List Int).map ce_u32).length : Nat) : Int) - (x1.length : Int))).toNat ((0 : Int) : Int)).map ce_u32) <| aC (gi_nn h18) <| aC (gi_at ce_u32 h18) <| aC (gi_nn h20) <| aC (gi_at ce_u32 h20) <| aC r0 <| aC (by simp : (IntKind.i64.wrap ((((([(0 : Int)] : List Int).map ce_u32).length : Nat) : Int) - (x1.length : Int))).toNat = (List.replicate (IntKind.i64.wrap ((((([(0 : Int)] : List Int).map ce_u32).length : Nat) : Int) - (x1.length : Int))).toNat ((0 : Int) : Int)).length) <| aC r0 <| aC (by simp : (([(0 : Int)] : List Int).map ce_u32).length = ([(0 : Int)] : List Int).length) <| aN) (ih _ _ h cx hn)
      | some l15 =>
        obtain ⟨h16, h⟩ := gd_some h
        obtain ⟨h17, h⟩ := gd_some h
        obtain ⟨x18, h19, h⟩ := obind h
        obtain ⟨x20, h21, h⟩ := obind h
        exact wk_go (fuel := 154) [.reg [oo, oo], .reg [oo, .op (.call [[1]] [(tl 1 b ce_u32)] (tl 1 x1 ce_u32)), oo], .reg [oo, oo, .op (.call [[1], [1]] [(tl 1 a ce_u32), (tl 1 x1 ce_u32)] (ti .i64 x3)), oo], .br false, .reg [oo, .op (.ln (x1.length : Int)), oo], .reg [oo, oo], .br false, .reg [oo, oo, oo, .op (.ix (ce_u32 x7)), oo, .op (.call [[0]] [(ti .u32 x7)] (ti .i64 x9)), oo], .reg [oo, oo, .op (.call [[1], [0]] [(tl 1 x1 ce_u32), (ti .i64 x9)] (tl 1 x11 ce_u32)), oo], .reg [oo, oo, .callN [[1], [0]] 101 1 (some (l15.map ce_u32)), .op (.lit (([(0 : Int)] : List Int).map ce_u32)), .appR (([(0 : Int)] : List Int).map ce_u32) ((l15 ++ ([(0 : Int)] : List Int)).map ce_u32), oo], .reg [oo, oo, oo, oo, .op (.mk (ce_u32 (0 : Int)) ((List.replicate (IntKind.i64.wrap (((((l15 ++ ([(0 : Int)] : List Int)).map ce_u32).length : Nat) : Int) - (x1.length : Int))).toNat ((0 : Int) : Int)).map ce_u32)), oo], .draw [.p, .p, .p, (.ix (ce_u32 x18)), .p, .p, .p, .p, .p, (.ix (ce_u32 x20)), .p, .p, .p] [.op .p], .reg [oo, oo, oo, oo, oo, oo], .pre [.rl 4 0 (List.replicate (IntKind.i64.wrap (((((l15 ++ ([(0 : Int)] : List Int)).map ce_u32).length : Nat) : Int) - (x1.length : Int))).toNat ((0 : Int) : Int)).length, .rl 12 0 (l15 ++ ([(0 : Int)] : List Int)).length, .keep [4,6,10,11,12,13,14,15] [64,71]]] _ hn (by kernel_rfl) (aC (natural_Normal_holds h2) <| aC (natural_Cmp_holds h4) <| aC h5 <| aC (ln_eq x1 ce_u32) <| aC h6 <| aC (gi_nn h8) <| aC (gi_at ce_u32 h8) <| aC (math_bits_LeadingZeros32_holds h10) <| aC (natural_Shl_holds h12) <| aC (natural_Shl__N_holdsN h14) <| aC (by kernel_rfl : [(T.int .u32 (0 : Int))] = (([(0 : Int)] : List Int).map ce_u32).flatten) <| aC (lq (l15.map ce_u32)) <| aC (sn_map _ _ _ (by simp) : ((([(0 : Int)] : List Int).map ce_u32).drop 0).take 1 = ([(0 : Int)] : List Int).map ce_u32) <| aC (app_map _ _ _ : l15.map ce_u32 ++ ([(0 : Int)] : List Int).map ce_u32 = (l15 ++ ([(0 : Int)] : List Int)).map ce_u32) <| aC ((len_map _ _).symm ▸ h16 : ((l15 ++ ([(0 : Int)] : List Int)).map ce_u32).length * 4 ≤ 140737488355328) <| aC ((len_map _ _).symm ▸ room (by decide) h16 : ((l15 ++ ([(0 : Int)] : List Int)).map ce_u32).length ≤ maxLen) <| aC h17.1 <| aC h17.2.1 <| aC h17.2.2 <| aC (rep_map _ _ _ : List.replicate (IntKind.i64.wrap (((((l15 ++ ([(0 : Int)] : List Int)).map ce_u32).length : Nat) : Int) - (x1.length : Int))).toNat (ce_u32 (0 : Int)) = (List.replicate (IntKind.i64.wrap (((((l15 ++ ([(0 : Int)] : List Int)).map ce_u32).length : Nat) : Int) - (x1.length : Int))).toNat ((0 : Int) : Int)).map ce_u32) <| aC (gi_nn h19) <| aC (gi_at ce_u32 h19) <| aC (gi_nn h21) <| aC (gi_at ce_u32 h21) <| aC r0 <| aC (by simp : (IntKind.i64.wrap (((((l15 ++ ([(0 : Int)] : List Int)).map ce_u32).length : Nat) : Int) - (x1.length : Int))).toNat = (List.replicate (IntKind.i64.wrap (((((l15 ++ ([(0 : Int)] : List Int)).map ce_u32).length : Nat) : Int) - (x1.length : Int))).toNat ((0 : Int) : Int)).length) <| aC r0 <| aC (by simp : ((l15 ++ ([(0 : Int)] : List Int)).map ce_u32).length = (l15 ++ ([(0 : Int)] : List Int)).length) <| aN) (ih _ _ h cx hn)

theorem division_long_c1 {K} (ih : division_long_H K) {cx} (hn : cx.n = 251) {r66 r71 n shift v top next j} {r} (h : division_long_go (K + 1) (.c1 r66 r71 n shift v top next j) = some r) : division_long_S cx (.c1 r66 r71 n shift v top next j) r := by
  rw [division_long_go] at h
  rcases bcases h with ⟨h1, h⟩ | ⟨h1, h⟩
  · skip
    obtain ⟨x2, h3, h⟩ := obind h
    obtain ⟨x4, h5, h⟩ := obind h
    obtain ⟨x6, h7, h⟩ := obind h
    exact wk_go (fuel := 78) [.go, .reg [oo, oo], .br true, .draw [.p, .p, .p, .p, .ir, (.ld (ce_u32 x2)), .p, .p, .p, .p, .p, .p, .p, .ir, (.ld (ce_u32 x4)), .p, .p, .p, (.call [[0], [0], [0]] [(TV.c (T.int .u64 (0 : Int))), (TV.c (T.int .u64 (bits .or .u64 (shlOp .u64 (IntKind.u64.wrap x2) (32 : Int)) (IntKind.u64.wrap x4)))), (ti .u64 top)] (TV.tup [(false, [(T.int .u64 x6.1)]), (false, [(T.int .u64 x6.2)])])), .p, .p, .p, .p] [.op .p], .pre [.rl 4 0 r71.length, .rl 12 0 r66.length, .keep [4,6,10,11,12,13,14,15,16,17] [66,71]]] _ hn (by kernel_rfl) (aC h1 <| aC (gi_nn h3) <| aC (gi_lt2 h3 (by simp) : (IntKind.i64.wrap (j + n)) < ((r66.length : Nat) : Int)) <| aC (gi_row ce_u32 h3 : (r66.map ce_u32)[(0 + (IntKind.i64.wrap (j + n)).toNat)]? = some (ce_u32 x2)) <| aC (gi_nn h5) <| aC (gi_lt2 h5 (by simp) : (IntKind.i64.wrap ((IntKind.i64.wrap (j + n)) - (1 : Int))) < ((r66.length : Nat) : Int)) <| aC (gi_row ce_u32 h5 : (r66.map ce_u32)[(0 + (IntKind.i64.wrap ((IntKind.i64.wrap (j + n)) - (1 : Int))).toNat)]? = some (ce_u32 x4)) <| aC (math_bits_Div64_holds h7) <| aC r0 <| aC (lq r71) <| aC r0 <| aC (lq r66) <| aN) (ih _ _ h cx hn)
  · skip
    obtain ⟨x2, h3, h⟩ := obind h
    obtain ⟨h4, h⟩ := gd_some h
    obtain ⟨x5, h6, h⟩ := obind h
    have h := Option.some.inj h; subst h
    exact wk_ret (fuel := 80) [.go, .reg [oo, oo], .br false, .pre [.snap 4 (max 0 (0 + r71.length)) (r71.map ce_u32), .snap 12 (max 0 (0 + r66.length)) (r66.map ce_u32)], .draw [.p, (.call [[1]] [(tl 1 r71 ce_u32)] (tl 1 x2 ce_u32)), .p, .p, (.slT 0 n.toNat ((r66.take n.toNat).map ce_u32)), .p] [.op (.call [[1], [0]] [(TV.c (T.sl 1 ((r66.take n.toNat).map ce_u32))), (ti .i64 shift)] (tl 1 x5 ce_u32)), .op .p, .op .p]] _ hn (by kernel_rfl) (aC h1 <| aC (sn_map _ _ _ (by simp) : ((r71.map ce_u32).drop 0).take r71.length = r71.map ce_u32) <| aC (rfl : (max 0 (0 + r71.length)) = (max 0 (0 + r71.length))) <| aC (sn_map _ _ _ (by simp) : ((r66.map ce_u32).drop 0).take r66.length = r66.map ce_u32) <| aC (rfl : (max 0 (0 + r66.length)) = (max 0 (0 + r66.length))) <| aC (natural_Normal_holds h3) <| aC r0 <| aC (⟨h4.1, rfl⟩ : 0 ≤ n ∧ n.toNat = n.toNat) <| aC h4.2.1 <| aC (ln_le _ h4.2.2 : n.toNat ≤ (r66.map ce_u32).length) <| aC (tk0_map _ _ _ : ((r66.map ce_u32).take n.toNat).drop 0 = (r66.take n.toNat).map ce_u32) <| aC (natural_Shr_holds h6) <| aN)

theorem division_long_c2 {K} (ih : division_long_H K) {cx} (hn : cx.n = 251) {r64 r71 n shift v top next j} {r} (h : division_long_go (K + 1) (.c2 r64 r71 n shift v top next j) = some r) : division_long_S cx (.c2 r64 r71 n shift v top next j) r := by
  rw [division_long_go] at h
  rcases bcases h with ⟨h1, h⟩ | ⟨h1, h⟩
  · skip
    obtain ⟨x2, h3, h⟩ := obind h
    obtain ⟨x4, h5, h⟩ := obind h
    obtain ⟨x6, h7, h⟩ := obind h
    exact wk_go (fuel := 78) [.go, .reg [oo, oo], .br true, .draw [.p, .p, .p, .p, .ir, (.ld (ce_u32 x2)), .p, .p, .p, .p, .p, .p, .p, .ir, (.ld (ce_u32 x4)), .p, .p, .p, (.call [[0], [0], [0]] [(TV.c (T.int .u64 (0 : Int))), (TV.c (T.int .u64 (bits .or .u64 (shlOp .u64 (IntKind.u64.wrap x2) (32 : Int)) (IntKind.u64.wrap x4)))), (ti .u64 top)] (TV.tup [(false, [(T.int .u64 x6.1)]), (false, [(T.int .u64 x6.2)])])), .p, .p, .p, .p] [.op .p], .pre [.rl 4 0 r71.length, .rl 12 0 r64.length, .keep [4,6,10,11,12,13,14,15,16,17] [64,71]]] _ hn (by kernel_rfl) (aC h1 <| aC (gi_nn h3) <| aC (gi_lt2 h3 (by simp) : (IntKind.i64.wrap (j + n)) < ((r64.length : Nat) : Int)) <| aC (gi_row ce_u32 h3 : (r64.map ce_u32)[(0 + (IntKind.i64.wrap (j + n)).toNat)]? = some (ce_u32 x2)) <| aC (gi_nn h5) <| aC (gi_lt2 h5 (by simp) : (IntKind.i64.wrap ((IntKind.i64.wrap (j + n)) - (1 : Int))) < ((r64.length : Nat) : Int)) <| aC (gi_row ce_u32 h5 : (r64.map ce_u32)[(0 + (IntKind.i64.wrap ((IntKind.i64.wrap (j + n)) - (1 : Int))).toNat)]? = some (ce_u32 x4)) <| aC (math_bits_Div64_holds h7) <| aC r0 <| aC (lq r71) <| aC r0 <| aC (lq r64) <| aN) (ih _ _ h cx hn)
  · skip
    obtain ⟨x2, h3, h⟩ := obind h
    obtain ⟨h4, h⟩ := gd_some h
    obtain ⟨x5, h6, h⟩ := obind h
    have h := Option.some.inj h; subst h
    exact wk_ret (fuel := 80) [.go, .reg [oo, oo], .br false, .pre [.snap 4 (max 0 (0 + r71.length)) (r71.map ce_u32), .snap 12 (max 0 (0 + r64.length)) (r64.map ce_u32)], .draw [.p, (.call [[1]] [(tl 1 r71 ce_u32)] (tl 1 x2 ce_u32)), .p, .p, (.slT 0 n.toNat ((r64.take n.toNat).map ce_u32)), .p] [.op (.call [[1], [0]] [(TV.c (T.sl 1 ((r64.take n.toNat).map ce_u32))), (ti .i64 shift)] (tl 1 x5 ce_u32)), .op .p, .op .p]] _ hn (by kernel_rfl) (aC h1 <| aC (sn_map _ _ _ (by simp) : ((r71.map ce_u32).drop 0).take r71.length = r71.map ce_u32) <| aC (rfl : (max 0 (0 + r71.length)) = (max 0 (0 + r71.length))) <| aC (sn_map _ _ _ (by simp) : ((r64.map ce_u32).drop 0).take r64.length = r64.map ce_u32) <| aC (rfl : (max 0 (0 + r64.length)) = (max 0 (0 + r64.length))) <| aC (natural_Normal_holds h3) <| aC r0 <| aC (⟨h4.1, rfl⟩ : 0 ≤ n ∧ n.toNat = n.toNat) <| aC h4.2.1 <| aC (ln_le _ h4.2.2 : n.toNat ≤ (r64.map ce_u32).length) <| aC (tk0_map _ _ _ : ((r64.map ce_u32).take n.toNat).drop 0 = (r64.take n.toNat).map ce_u32) <| aC (natural_Shr_holds h6) <| aN)

theorem division_long_c3 {K} (ih : division_long_H K) {cx} (hn : cx.n = 251) {r66 r71 n shift v top next j guess rest} {r} (h : division_long_go (K + 1) (.c3 r66 r71 n shift v top next j guess rest) = some r) : division_long_S cx (.c3 r66 r71 n shift v top next j guess rest) r := by
  rw [division_long_go] at h
  rcases bcases h with ⟨h1, h⟩ | ⟨h1, h⟩
  · skip
    rcases bcases h with ⟨h2, h⟩ | ⟨h2, h⟩
    · skip
      exact wk_go (fuel := 104) [.go, .reg [oo, oo, oo, .sb 117 true, oo, oo, oo, oo, oo, oo, oo, oo, oo, oo, oo, oo, oo, oo, oo, oo], .br true, .reg [oo, oo, oo], .reg [oo, oo, oo, oo], .reg [oo, oo], .br true, .pre [.rl 4 0 r71.length, .rl 12 0 r66.length, .keep [4,6,10,11,12,13,14,15,16] [66,71]]] _ hn (by kernel_rfl) (aC h1 <| aC rt <| aC h2 <| aC r0 <| aC (lq r71) <| aC r0 <| aC (lq r66) <| aN) (ih _ _ h cx hn)
    · skip
      exact wk_go (fuel := 100) [.go, .reg [oo, oo, oo, .sb 117 true, oo, oo, oo, oo, oo, oo, oo, oo, oo, oo, oo, oo, oo, oo, oo, oo], .br true, .reg [oo, oo, oo], .reg [oo, oo, oo, oo], .reg [oo, oo], .br false, .pre [.rl 4 0 r71.length, .rl 12 0 r66.length, .keep [4,6,10,11,12,13,14,15,16,17] [66,71]]] _ hn (by kernel_rfl) (aC h1 <| aC rt <| aC h2 <| aC r0 <| aC (lq r71) <| aC r0 <| aC (lq r66) <| aN) (ih _ _ h cx hn)
  · skip
    obtain ⟨x2, h3, h⟩ := obind h
    rcases bcases h with ⟨h4, h⟩ | ⟨h4, h⟩
    · skip
      rcases bcases h with ⟨h5, h⟩ | ⟨h5, h⟩
      · skip
        exact wk_go (fuel := 104) [.go, .reg [oo, oo, oo, .sb 117 false, oo, oo, oo, oo, oo, oo, oo, oo, oo, oo, .op .ir, .op (.ld (ce_u32 x2)), oo, oo, oo, oo], .br true, .reg [oo, oo, oo], .reg [oo, oo, oo, oo], .reg [oo, oo], .br true, .pre [.rl 4 0 r71.length, .rl 12 0 r66.length, .keep [4,6,10,11,12,13,14,15,16] [66,71]]] _ hn (by kernel_rfl) (aC h1 <| aC (gi_nn h3) <| aC (gi_lt2 h3 (by simp) : (IntKind.i64.wrap ((IntKind.i64.wrap (j + n)) - (2 : Int))) < ((r66.length : Nat) : Int)) <| aC (gi_row ce_u32 h3 : (r66.map ce_u32)[(0 + (IntKind.i64.wrap ((IntKind.i64.wrap (j + n)) - (2 : Int))).toNat)]? = some (ce_u32 x2)) <| aC h4 <| aC h5 <| aC r0 <| aC (lq r71) <| aC r0 <| aC (lq r66) <| aN) (ih _ _ h cx hn)
      · skip
        exact wk_go (fuel := 100) [.go, .reg [oo, oo, oo, .sb 117 false, oo, oo, oo, oo, oo, oo, oo, oo, oo, oo, .op .ir, .op (.ld (ce_u32 x2)), oo, oo, oo, oo], .br true, .reg [oo, oo, oo], .reg [oo, oo, oo, oo], .reg [oo, oo], .br false, .pre [.rl 4 0 r71.length, .rl 12 0 r66.length, .keep [4,6,10,11,12,13,14,15,16,17] [66,71]]] _ hn (by kernel_rfl) (aC h1 <| aC (gi_nn h3) <| aC (gi_lt2 h3 (by simp) : (IntKind.i64.wrap ((IntKind.i64.wrap (j + n)) - (2 : Int))) < ((r66.length : Nat) : Int)) <| aC (gi_row ce_u32 h3 : (r66.map ce_u32)[(0 + (IntKind.i64.wrap ((IntKind.i64.wrap (j + n)) - (2 : Int))).toNat)]? = some (ce_u32 x2)) <| aC h4 <| aC h5 <| aC r0 <| aC (lq r71) <| aC r0 <| aC (lq r66) <| aN) (ih _ _ h cx hn)
    · skip
      exact wk_go (fuel := 70) [.go, .reg [oo, oo, oo, .sb 117 false, oo, oo, oo, oo, oo, oo, oo, oo, oo, oo, .op .ir, .op (.ld (ce_u32 x2)), oo, oo, oo, oo], .br false, .pre [.rl 4 0 r71.length, .rl 12 0 r66.length, .keep [4,6,10,11,12,13,14,15,16] [66,71]]] _ hn (by kernel_rfl) (aC h1 <| aC (gi_nn h3) <| aC (gi_lt2 h3 (by simp) : (IntKind.i64.wrap ((IntKind.i64.wrap (j + n)) - (2 : Int))) < ((r66.length : Nat) : Int)) <| aC (gi_row ce_u32 h3 : (r66.map ce_u32)[(0 + (IntKind.i64.wrap ((IntKind.i64.wrap (j + n)) - (2 : Int))).toNat)]? = some (ce_u32 x2)) <| aC h4 <| aC r0 <| aC (lq r71) <| aC r0 <| aC (lq r66) <| aN) (ih _ _ h cx hn)

theorem division_long_c4 {K} (ih : division_long_H K) {cx} (hn : cx.n = 251) {r64 r71 n shift v top next j guess rest} {r} (h : division_long_go (K + 1) (.c4 r64 r71 n shift v top next j guess rest) = some r) : division_long_S cx (.c4 r64 r71 n shift v top next j guess rest) r := by
  rw [division_long_go] at h
  rcases bcases h with ⟨h1, h⟩ | ⟨h1, h⟩
  · skip
    rcases bcases h with ⟨h2, h⟩ | ⟨h2, h⟩
    · skip
      exact wk_go (fuel := 104) [.go, .reg [oo, oo, oo, .sb 117 true, oo, oo, oo, oo, oo, oo, oo, oo, oo, oo, oo, oo, oo, oo, oo, oo], .br true, .reg [oo, oo, oo], .reg [oo, oo, oo, oo], .reg [oo, oo], .br true, .pre [.rl 4 0 r71.length, .rl 12 0 r64.length, .keep [4,6,10,11,12,13,14,15,16] [64,71]]] _ hn (by kernel_rfl) (aC h1 <| aC rt <| aC h2 <| aC r0 <| aC (lq r71) <| aC r0 <| aC (lq r64) <| aN) (ih _ _ h cx hn)
    · skip
      exact wk_go (fuel := 100) [.go, .reg [oo, oo, oo, .sb 117 true, oo, oo, oo, oo, oo, oo, oo, oo, oo, oo, oo, oo, oo, oo, oo, oo], .br true, .reg [oo, oo, oo], .reg [oo, oo, oo, oo], .reg [oo, oo], .br false, .pre [.rl 4 0 r71.length, .rl 12 0 r64.length, .keep [4,6,10,11,12,13,14,15,16,17] [64,71]]] _ hn (by kernel_rfl) (aC h1 <| aC rt <| aC h2 <| aC r0 <| aC (lq r71) <| aC r0 <| aC (lq r64) <| aN) (ih _ _ h cx hn)
  · skip
    obtain ⟨x2, h3, h⟩ := obind h
    rcases bcases h with ⟨h4, h⟩ | ⟨h4, h⟩
    · skip
      rcases bcases h with ⟨h5, h⟩ | ⟨h5, h⟩
      · skip
        exact wk_go (fuel := 104) [.go, .reg [oo, oo, oo, .sb 117 false, oo, oo, oo, oo, oo, oo, oo, oo, oo, oo, .op .ir, .op (.ld (ce_u32 x2)), oo, oo, oo, oo], .br true, .reg [oo, oo, oo], .reg [oo, oo, oo, oo], .reg [oo, oo], .br true, .pre [.rl 4 0 r71.length, .rl 12 0 r64.length, .keep [4,6,10,11,12,13,14,15,16] [64,71]]] _ hn (by kernel_rfl) (aC h1 <| aC (gi_nn h3) <| aC (gi_lt2 h3 (by simp) : (IntKind.i64.wrap ((IntKind.i64.wrap (j + n)) - (2 : Int))) < ((r64.length : Nat) : Int)) <| aC (gi_row ce_u32 h3 : (r64.map ce_u32)[(0 + (IntKind.i64.wrap ((IntKind.i64.wrap (j + n)) - (2 : Int))).toNat)]? = some (ce_u32 x2)) <| aC h4 <| aC h5 <| aC r0 <| aC (lq r71) <| aC r0 <| aC (lq r64) <| aN) (ih _ _ h cx hn)
      · skip
        exact wk_go (fuel := 100) [.go, .reg [oo, oo, oo, .sb 117 false, oo, oo, oo, oo, oo, oo, oo, oo, oo, oo, .op .ir, .op (.ld (ce_u32 x2)), oo, oo, oo, oo], .br true, .reg [oo, oo, oo], .reg [oo, oo, oo, oo], .reg [oo, oo], .br false, .pre [.rl 4 0 r71.length, .rl 12 0 r64.length, .keep [4,6,10,11,12,13,14,15,16,17] [64,71]]] _ hn (by kernel_rfl) (aC h1 <| aC (gi_nn h3) <| aC (gi_lt2 h3 (by simp) : (IntKind.i64.wrap ((IntKind.i64.wrap (j + n)) - (2 : Int))) < ((r64.length : Nat) : Int)) <| aC (gi_row ce_u32 h3 : (r64.map ce_u32)[(0 + (IntKind.i64.wrap ((IntKind.i64.wrap (j + n)) - (2 : Int))).toNat)]? = some (ce_u32 x2)) <| aC h4 <| aC h5 <| aC r0 <| aC (lq r71) <| aC r0 <| aC (lq r64) <| aN) (ih _ _ h cx hn)
    · skip
      exact wk_go (fuel := 70) [.go, .reg [oo, oo, oo, .sb 117 false, oo, oo, oo, oo, oo, oo, oo, oo, oo, oo, .op .ir, .op (.ld (ce_u32 x2)), oo, oo, oo, oo], .br false, .pre [.rl 4 0 r71.length, .rl 12 0 r64.length, .keep [4,6,10,11,12,13,14,15,16] [64,71]]] _ hn (by kernel_rfl) (aC h1 <| aC (gi_nn h3) <| aC (gi_lt2 h3 (by simp) : (IntKind.i64.wrap ((IntKind.i64.wrap (j + n)) - (2 : Int))) < ((r64.length : Nat) : Int)) <| aC (gi_row ce_u32 h3 : (r64.map ce_u32)[(0 + (IntKind.i64.wrap ((IntKind.i64.wrap (j + n)) - (2 : Int))).toNat)]? = some (ce_u32 x2)) <| aC h4 <| aC r0 <| aC (lq r71) <| aC r0 <| aC (lq r64) <| aN) (ih _ _ h cx hn)

theorem division_long_c5 {K} (ih : division_long_H K) {cx} (hn : cx.n = 251) {r66 r71 n shift v top next j guess} {r} (h : division_long_go (K + 1) (.c5 r66 r71 n shift v top next j guess) = some r) : division_long_S cx (.c5 r66 r71 n shift v top next j guess) r := by
  rw [division_long_go] at h
  exact wk_go (fuel := 54) [.reg [oo, oo], .reg [oo, .op (.ln (v.length : Int)), oo], .pre [.rl 4 0 r71.length, .rl 12 0 r66.length, .keep [4,6,10,11,12,13,14,15,16,18,19,141,142,143] [66,71]]] _ hn (by kernel_rfl) (aC (ln_eq v ce_u32) <| aC r0 <| aC (lq r71) <| aC r0 <| aC (lq r66) <| aN) (ih _ _ h cx hn)

theorem division_long_c6 {K} (ih : division_long_H K) {cx} (hn : cx.n = 251) {r64 r71 n shift v top next j guess} {r} (h : division_long_go (K + 1) (.c6 r64 r71 n shift v top next j guess) = some r) : division_long_S cx (.c6 r64 r71 n shift v top next j guess) r := by
  rw [division_long_go] at h
  exact wk_go (fuel := 54) [.reg [oo, oo], .reg [oo, .op (.ln (v.length : Int)), oo], .pre [.rl 4 0 r71.length, .rl 12 0 r64.length, .keep [4,6,10,11,12,13,14,15,16,18,19,141,142,143] [64,71]]] _ hn (by kernel_rfl) (aC (ln_eq v ce_u32) <| aC r0 <| aC (lq r71) <| aC r0 <| aC (lq r64) <| aN) (ih _ _ h cx hn)

theorem division_long_c7 {K} (ih : division_long_H K) {cx} (hn : cx.n = 251) {r66 r71 n shift v top next j guess carry borrow t141 t142 t143} {r} (h : division_long_go (K + 1) (.c7 r66 r71 n shift v top next j guess carry borrow t141 t142 t143) = some r) : division_long_S cx (.c7 r66 r71 n shift v top next j guess carry borrow t141 t142 t143) r := by
  rw [division_long_go] at h
  rcases bcases h with ⟨h1, h⟩ | ⟨h1, h⟩
  · skip
    obtain ⟨x2, h3, h⟩ := obind h
    obtain ⟨x4, h5, h⟩ := obind h
    obtain ⟨x6, h7, h⟩ := obind h
    exact wk_go (fuel := 122) [.go, .reg [oo], .br true, .reg [oo, .op (.ix (ce_u32 x2)), oo, oo, oo], .reg [oo, oo, oo, oo, oo, oo, oo], .reg [oo, oo, oo], .reg [oo, oo, oo, oo, .op .ir, .op (.ld (ce_u32 x4)), oo, oo, oo, oo, oo, oo, oo], .reg [oo, oo, oo, oo, oo, oo, .op .ir, .op (.st (ce_u32 x6) ((r66.set ((IntKind.i64.wrap (t143 + j)).toNat) (IntKind.u32.wrap (IntKind.u64.wrap ((IntKind.u64.wrap ((IntKind.u64.wrap x4) - borrow)) - (bits .and .u64 (IntKind.u64.wrap ((IntKind.u64.wrap (guess * (IntKind.u64.wrap x2))) + carry)) (4294967295 : Int)))))).map ce_u32))], .reg [oo, oo, oo], .reg [oo, oo], .pre [.rl 4 0 r71.length, .rl 12 0 (r66.set ((IntKind.i64.wrap (t143 + j)).toNat) (IntKind.u32.wrap (IntKind.u64.wrap ((IntKind.u64.wrap ((IntKind.u64.wrap x4) - borrow)) - (bits .and .u64 (IntKind.u64.wrap ((IntKind.u64.wrap (guess * (IntKind.u64.wrap x2))) + carry)) (4294967295 : Int)))))).length, .keep [4,6,10,11,12,13,14,15,16,18,19,141,142,143] [66,71]]] _ hn (by kernel_rfl) (aC h1 <| aC (gi_nn h3) <| aC (gi_at ce_u32 h3) <| aC (gi_nn h5) <| aC (gi_lt2 h5 (by simp) : (IntKind.i64.wrap (t143 + j)) < ((r66.length : Nat) : Int)) <| aC (gi_row ce_u32 h5 : (r66.map ce_u32)[(0 + (IntKind.i64.wrap (t143 + j)).toNat)]? = some (ce_u32 x4)) <| aC (gi_nn h7) <| aC (gi_lt2 h7 (by simp) : (IntKind.i64.wrap (t143 + j)) < ((r66.length : Nat) : Int)) <| aC (gi_row ce_u32 h7 : (r66.map ce_u32)[(0 + (IntKind.i64.wrap (t143 + j)).toNat)]? = some (ce_u32 x6)) <| aC (set_map _ _ (IntKind.u32.wrap (IntKind.u64.wrap ((IntKind.u64.wrap ((IntKind.u64.wrap x4) - borrow)) - (bits .and .u64 (IntKind.u64.wrap ((IntKind.u64.wrap (guess * (IntKind.u64.wrap x2))) + carry)) (4294967295 : Int))))) _ : (r66.map ce_u32).set (0 + (IntKind.i64.wrap (t143 + j)).toNat) (splice (ce_u32 x6) 0 [(T.int .u32 (IntKind.u32.wrap (IntKind.u64.wrap ((IntKind.u64.wrap ((IntKind.u64.wrap x4) - borrow)) - (bits .and .u64 (IntKind.u64.wrap ((IntKind.u64.wrap (guess * (IntKind.u64.wrap x2))) + carry)) (4294967295 : Int))))))]) = (r66.set ((IntKind.i64.wrap (t143 + j)).toNat) (IntKind.u32.wrap (IntKind.u64.wrap ((IntKind.u64.wrap ((IntKind.u64.wrap x4) - borrow)) - (bits .and .u64 (IntKind.u64.wrap ((IntKind.u64.wrap (guess * (IntKind.u64.wrap x2))) + carry)) (4294967295 : Int)))))).map ce_u32) <| aC (Nat.zero_le _ : 0 ≤ (0 + (IntKind.i64.wrap (t143 + j)).toNat)) <| aC r0 <| aC (lq r71) <| aC r0 <| aC (by simp : r66.length = (r66.set ((IntKind.i64.wrap (t143 + j)).toNat) (IntKind.u32.wrap (IntKind.u64.wrap ((IntKind.u64.wrap ((IntKind.u64.wrap x4) - borrow)) - (bits .and .u64 (IntKind.u64.wrap ((IntKind.u64.wrap (guess * (IntKind.u64.wrap x2))) + carry)) (4294967295 : Int)))))).length) <| aN) (ih _ _ h cx hn)
  · skip
    obtain ⟨x2, h3, h⟩ := obind h
    obtain ⟨x4, h5, h⟩ := obind h
    obtain ⟨x6, h7, h⟩ := obind h
    rcases bcases h with ⟨h8, h⟩ | ⟨h8, h⟩
    · skip
      exact wk_go (fuel := 114) [.go, .reg [oo], .br false, .reg [oo, oo, oo, oo, .op .ir, .op (.ld (ce_u32 x2)), oo, oo, oo, oo, oo, oo], .reg [oo, oo, oo, oo, oo, oo, .op .ir, .op (.st (ce_u32 x4) ((r66.set ((IntKind.i64.wrap (j + n)).toNat) (IntKind.u32.wrap (IntKind.u64.wrap ((IntKind.u64.wrap ((IntKind.u64.wrap x2) - borrow)) - carry)))).map ce_u32))], .reg [oo, oo, oo, oo, .op .ir, .op (.st (ce_u32 x6) ((r71.set (j.toNat) (IntKind.u32.wrap guess)).map ce_u32))], .reg [oo, oo, oo], .br true, .pre [.rl 4 0 (r71.set (j.toNat) (IntKind.u32.wrap guess)).length, .rl 12 0 (r66.set ((IntKind.i64.wrap (j + n)).toNat) (IntKind.u32.wrap (IntKind.u64.wrap ((IntKind.u64.wrap ((IntKind.u64.wrap x2) - borrow)) - carry)))).length, .keep [4,6,10,11,12,13,14,15] [66,71]]] _ hn (by kernel_rfl) (aC h1 <| aC (gi_nn h3) <| aC (gi_lt2 h3 (by simp) : (IntKind.i64.wrap (j + n)) < ((r66.length : Nat) : Int)) <| aC (gi_row ce_u32 h3 : (r66.map ce_u32)[(0 + (IntKind.i64.wrap (j + n)).toNat)]? = some (ce_u32 x2)) <| aC (gi_nn h5) <| aC (gi_lt2 h5 (by simp) : (IntKind.i64.wrap (j + n)) < ((r66.length : Nat) : Int)) <| aC (gi_row ce_u32 h5 : (r66.map ce_u32)[(0 + (IntKind.i64.wrap (j + n)).toNat)]? = some (ce_u32 x4)) <| aC (set_map _ _ (IntKind.u32.wrap (IntKind.u64.wrap ((IntKind.u64.wrap ((IntKind.u64.wrap x2) - borrow)) - carry))) _ : (r66.map ce_u32).set (0 + (IntKind.i64.wrap (j + n)).toNat) (splice (ce_u32 x4) 0 [(T.int .u32 (IntKind.u32.wrap (IntKind.u64.wrap ((IntKind.u64.wrap ((IntKind.u64.wrap x2) - borrow)) - carry))))]) = (r66.set ((IntKind.i64.wrap (j + n)).toNat) (IntKind.u32.wrap (IntKind.u64.wrap ((IntKind.u64.wrap ((IntKind.u64.wrap x2) - borrow)) - carry)))).map ce_u32) <| aC (Nat.zero_le _ : 0 ≤ (0 + (IntKind.i64.wrap (j + n)).toNat)) <| aC (gi_nn h7) <| aC (gi_lt2 h7 (by simp) : j < ((r71.length : Nat) : Int)) <| aC (gi_row ce_u32 h7 : (r71.map ce_u32)[(0 + j.toNat)]? = some (ce_u32 x6)) <| aC (set_map _ _ (IntKind.u32.wrap guess) _ : (r71.map ce_u32).set (0 + j.toNat) (splice (ce_u32 x6) 0 [(T.int .u32 (IntKind.u32.wrap guess))]) = (r71.set (j.toNat) (IntKind.u32.wrap guess)).map ce_u32) <| aC (Nat.zero_le _ : 0 ≤ (0 + j.toNat)) <| aC h8 <| aC r0 <| aC (by simp : r71.length = (r71.set (j.toNat) (IntKind.u32.wrap guess)).length) <| aC r0 <| aC (by simp : r66.length = (r66.set ((IntKind.i64.wrap (j + n)).toNat) (IntKind.u32.wrap (IntKind.u64.wrap ((IntKind.u64.wrap ((IntKind.u64.wrap x2) - borrow)) - carry)))).length) <| aN) (ih _ _ h cx hn)
    · skip
      obtain ⟨x9, h10, h⟩ := obind h
      obtain ⟨x11, h12, h⟩ := obind h
      exact wk_go (fuel := 138) [.go, .reg [oo], .br false, .reg [oo, oo, oo, oo, .op .ir, .op (.ld (ce_u32 x2)), oo, oo, oo, oo, oo, oo], .reg [oo, oo, oo, oo, oo, oo, .op .ir, .op (.st (ce_u32 x4) ((r66.set ((IntKind.i64.wrap (j + n)).toNat) (IntKind.u32.wrap (IntKind.u64.wrap ((IntKind.u64.wrap ((IntKind.u64.wrap x2) - borrow)) - carry)))).map ce_u32))], .reg [oo, oo, oo, oo, .op .ir, .op (.st (ce_u32 x6) ((r71.set (j.toNat) (IntKind.u32.wrap guess)).map ce_u32))], .reg [oo, oo, oo], .br false, .reg [oo, oo, .op .ir, .op (.ld (ce_u32 x9)), oo, .op .ir, .op (.st (ce_u32 x11) (((r71.set (j.toNat) (IntKind.u32.wrap guess)).set (j.toNat) (IntKind.u32.wrap (x9 - (1 : Int)))).map ce_u32))], .reg [oo], .reg [oo, .op (.ln (v.length : Int)), oo], .pre [.rl 4 0 ((r71.set (j.toNat) (IntKind.u32.wrap guess)).set (j.toNat) (IntKind.u32.wrap (x9 - (1 : Int)))).length, .rl 12 0 (r66.set ((IntKind.i64.wrap (j + n)).toNat) (IntKind.u32.wrap (IntKind.u64.wrap ((IntKind.u64.wrap ((IntKind.u64.wrap x2) - borrow)) - carry)))).length, .keep [4,6,10,11,12,13,14,15,25,210,211,212] [66,71]]] _ hn (by kernel_rfl) (aC h1 <| aC (gi_nn h3) <| aC (gi_lt2 h3 (by simp) : (IntKind.i64.wrap (j + n)) < ((r66.length : Nat) : Int)) <| aC (gi_row ce_u32 h3 : (r66.map ce_u32)[(0 + (IntKind.i64.wrap (j + n)).toNat)]? = some (ce_u32 x2)) <| aC (gi_nn h5) <| aC (gi_lt2 h5 (by simp) : (IntKind.i64.wrap (j + n)) < ((r66.length : Nat) : Int)) <| aC (gi_row ce_u32 h5 : (r66.map ce_u32)[(0 + (IntKind.i64.wrap (j + n)).toNat)]? = some (ce_u32 x4)) <| aC (set_map _ _ (IntKind.u32.wrap (IntKind.u64.wrap ((IntKind.u64.wrap ((IntKind.u64.wrap x2) - borrow)) - carry))) _ : (r66.map ce_u32).set (0 + (IntKind.i64.wrap (j + n)).toNat) (splice (ce_u32 x4) 0 [(T.int .u32 (IntKind.u32.wrap (IntKind.u64.wrap ((IntKind.u64.wrap ((IntKind.u64.wrap x2) - borrow)) - carry))))]) = (r66.set ((IntKind.i64.wrap (j + n)).toNat) (IntKind.u32.wrap (IntKind.u64.wrap ((IntKind.u64.wrap ((IntKind.u64.wrap x2) - borrow)) - carry)))).map ce_u32) <| aC (Nat.zero_le _ : 0 ≤ (0 + (IntKind.i64.wrap (j + n)).toNat)) <| aC (gi_nn h7) <| aC (gi_lt2 h7 (by simp) : j < ((r71.length : Nat) : Int)) <| aC (gi_row ce_u32 h7 : (r71.map ce_u32)[(0 + j.toNat)]? = some (ce_u32 x6)) <| aC (set_map _ _ (IntKind.u32.wrap guess) _ : (r71.map ce_u32).set (0 + j.toNat) (splice (ce_u32 x6) 0 [(T.int .u32 (IntKind.u32.wrap guess))]) = (r71.set (j.toNat) (IntKind.u32.wrap guess)).map ce_u32) <| aC (Nat.zero_le _ : 0 ≤ (0 + j.toNat)) <| aC h8 <| aC (gi_nn h10) <| aC (gi_lt2 h10 (by simp) : j < ((r71.length : Nat) : Int)) <| aC (gi_row ce_u32 h10 : ((r71.set (j.toNat) (IntKind.u32.wrap guess)).map ce_u32)[(0 + j.toNat)]? = some (ce_u32 x9)) <| aC (gi_nn h12) <| aC (gi_lt2 h12 (by simp) : j < ((r71.length : Nat) : Int)) <| aC (gi_row ce_u32 h12 : ((r71.set (j.toNat) (IntKind.u32.wrap guess)).map ce_u32)[(0 + j.toNat)]? = some (ce_u32 x11)) <| aC (set_map _ _ (IntKind.u32.wrap (x9 - (1 : Int))) _ : ((r71.set (j.toNat) (IntKind.u32.wrap guess)).map ce_u32).set (0 + j.toNat) (splice (ce_u32 x11) 0 [(T.int .u32 (IntKind.u32.wrap (x9 - (1 : Int))))]) = ((r71.set (j.toNat) (IntKind.u32.wrap guess)).set (j.toNat) (IntKind.u32.wrap (x9 - (1 : Int)))).map ce_u32) <| aC (Nat.zero_le _ : 0 ≤ (0 + j.toNat)) <| aC (ln_eq v ce_u32) <| aC r0 <| aC (by simp : r71.length = ((r71.set (j.toNat) (IntKind.u32.wrap guess)).set (j.toNat) (IntKind.u32.wrap (x9 - (1 : Int)))).length) <| aC r0 <| aC (by simp : r66.length = (r66.set ((IntKind.i64.wrap (j + n)).toNat) (IntKind.u32.wrap (IntKind.u64.wrap ((IntKind.u64.wrap ((IntKind.u64.wrap x2) - borrow)) - carry)))).length) <| aN) (ih _ _ h cx hn)

theorem division_long_c8 {K} (ih : division_long_H K) {cx} (hn : cx.n = 251) {r64 r71 n shift v top next j guess carry borrow t141 t142 t143} {r} (h : division_long_go (K + 1) (.c8 r64 r71 n shift v top next j guess carry borrow t141 t142 t143) = some r) : division_long_S cx (.c8 r64 r71 n shift v top next j guess carry borrow t141 t142 t143) r := by
  rw [division_long_go] at h
  rcases bcases h with ⟨h1, h⟩ | ⟨h1, h⟩
  · skip
    obtain ⟨x2, h3, h⟩ := obind h
    obtain ⟨x4, h5, h⟩ := obind h
    obtain ⟨x6, h7, h⟩ := obind h
    exact wk_go (fuel := 122) [.go, .reg [oo], .br true, .reg [oo, .op (.ix (ce_u32 x2)), oo, oo, oo], .reg [oo, oo, oo, oo, oo, oo, oo], .reg [oo, oo, oo], .reg [oo, oo, oo, oo, .op .ir, .op (.ld (ce_u32 x4)), oo, oo, oo, oo, oo, oo, oo], .reg [oo, oo, oo, oo, oo, oo, .op .ir, .op (.st (ce_u32 x6) ((r64.set ((IntKind.i64.wrap (t143 + j)).toNat) (IntKind.u32.wrap (IntKind.u64.wrap ((IntKind.u64.wrap ((IntKind.u64.wrap x4) - borrow)) - (bits .and .u64 (IntKind.u64.wrap ((IntKind.u64.wrap (guess * (IntKind.u64.wrap x2))) + carry)) (4294967295 : Int)))))).map ce_u32))], .reg [oo, oo, oo], .reg [oo, oo], .pre [.rl 4 0 r71.length, .rl 12 0 (r64.set ((IntKind.i64.wrap (t143 + j)).toNat) (IntKind.u32.wrap (IntKind.u64.wrap ((IntKind.u64.wrap ((IntKind.u64.wrap x4) - borrow)) - (bits .and .u64 (IntKind.u64.wrap ((IntKind.u64.wrap (guess * (IntKind.u64.wrap x2))) + carry)) (4294967295 : Int)))))).length, .keep [4,6,10,11,12,13,14,15,16,18,19,141,142,143] [64,71]]] _ hn (by kernel_rfl) (aC h1 <| aC (gi_nn h3) <| aC (gi_at ce_u32 h3) <| aC (gi_nn h5) <| aC (gi_lt2 h5 (by simp) : (IntKind.i64.wrap (t143 + j)) < ((r64.length : Nat) : Int)) <| aC (gi_row ce_u32 h5 : (r64.map ce_u32)[(0 + (IntKind.i64.wrap (t143 + j)).toNat)]? = some (ce_u32 x4)) <| aC (gi_nn h7) <| aC (gi_lt2 h7 (by simp) : (IntKind.i64.wrap (t143 + j)) < ((r64.length : Nat) : Int)) <| aC (gi_row ce_u32 h7 : (r64.map ce_u32)[(0 + (IntKind.i64.wrap (t143 + j)).toNat)]? = some (ce_u32 x6)) <| aC (set_map _ _ (IntKind.u32.wrap (IntKind.u64.wrap ((IntKind.u64.wrap ((IntKind.u64.wrap x4) - borrow)) - (bits .and .u64 (IntKind.u64.wrap ((IntKind.u64.wrap (guess * (IntKind.u64.wrap x2))) + carry)) (4294967295 : Int))))) _ : (r64.map ce_u32).set (0 + (IntKind.i64.wrap (t143 + j)).toNat) (splice (ce_u32 x6) 0 [(T.int .u32 (IntKind.u32.wrap (IntKind.u64.wrap ((IntKind.u64.wrap ((IntKind.u64.wrap x4) - borrow)) - (bits .and .u64 (IntKind.u64.wrap ((IntKind.u64.wrap (guess * (IntKind.u64.wrap x2))) + carry)) (4294967295 : Int))))))]) = (r64.set ((IntKind.i64.wrap (t143 + j)).toNat) (IntKind.u32.wrap (IntKind.u64.wrap ((IntKind.u64.wrap ((IntKind.u64.wrap x4) - borrow)) - (bits .and .u64 (IntKind.u64.wrap ((IntKind.u64.wrap (guess * (IntKind.u64.wrap x2))) + carry)) (4294967295 : Int)))))).map ce_u32) <| aC (Nat.zero_le _ : 0 ≤ (0 + (IntKind.i64.wrap (t143 + j)).toNat)) <| aC r0 <| aC (lq r71) <| aC r0 <| aC (by simp : r64.length = (r64.set ((IntKind.i64.wrap (t143 + j)).toNat) (IntKind.u32.wrap (IntKind.u64.wrap ((IntKind.u64.wrap ((IntKind.u64.wrap x4) - borrow)) - (bits .and .u64 (IntKind.u64.wrap ((IntKind.u64.wrap (guess * (IntKind.u64.wrap x2))) + carry)) (4294967295 : Int)))))).length) <| aN) (ih _ _ h cx hn)
  · skip
    obtain ⟨x2, h3, h⟩ := obind h
    obtain ⟨x4, h5, h⟩ := obind h
    obtain ⟨x6, h7, h⟩ := obind h
    rcases bcases h with ⟨h8, h⟩ | ⟨h8, h⟩
    · skip
      exact wk_go (fuel := 114) [.go, .reg [oo], .br false, .reg [oo, oo, oo, oo, .op .ir, .op (.ld (ce_u32 x2)), oo, oo, oo, oo, oo, oo], .reg [oo, oo, oo, oo, oo, oo, .op .ir, .op (.st (ce_u32 x4) ((r64.set ((IntKind.i64.wrap (j + n)).toNat) (IntKind.u32.wrap (IntKind.u64.wrap ((IntKind.u64.wrap ((IntKind.u64.wrap x2) - borrow)) - carry)))).map ce_u32))], .reg [oo, oo, oo, oo, .op .ir, .op (.st (ce_u32 x6) ((r71.set (j.toNat) (IntKind.u32.wrap guess)).map ce_u32))], .reg [oo, oo, oo], .br true, .pre [.rl 4 0 (r71.set (j.toNat) (IntKind.u32.wrap guess)).length, .rl 12 0 (r64.set ((IntKind.i64.wrap (j + n)).toNat) (IntKind.u32.wrap (IntKind.u64.wrap ((IntKind.u64.wrap ((IntKind.u64.wrap x2) - borrow)) - carry)))).length, .keep [4,6,10,11,12,13,14,15] [64,71]]] _ hn (by kernel_rfl) (aC h1 <| aC (gi_nn h3) <| aC (gi_lt2 h3 (by simp) : (IntKind.i64.wrap (j + n)) < ((r64.length : Nat) : Int)) <| aC (gi_row ce_u32 h3 : (r64.map ce_u32)[(0 + (IntKind.i64.wrap (j + n)).toNat)]? = some (ce_u32 x2)) <| aC (gi_nn h5) <| aC (gi_lt2 h5 (by simp) : (IntKind.i64.wrap (j + n)) < ((r64.length : Nat) : Int)) <| aC (gi_row ce_u32 h5 : (r64.map ce_u32)[(0 + (IntKind.i64.wrap (j + n)).toNat)]? = some (ce_u32 x4)) <| aC (set_map _ _ (IntKind.u32.wrap (IntKind.u64.wrap ((IntKind.u64.wrap ((IntKind.u64.wrap x2) - borrow)) - carry))) _ : (r64.map ce_u32).set (0 + (IntKind.i64.wrap (j + n)).toNat) (splice (ce_u32 x4) 0 [(T.int .u32 (IntKind.u32.wrap (IntKind.u64.wrap ((IntKind.u64.wrap ((IntKind.u64.wrap x2) - borrow)) - carry))))]) = (r64.set ((IntKind.i64.wrap (j + n)).toNat) (IntKind.u32.wrap (IntKind.u64.wrap ((IntKind.u64.wrap ((IntKind.u64.wrap x2) - borrow)) - carry)))).map ce_u32) <| aC (Nat.zero_le _ : 0 ≤ (0 + (IntKind.i64.wrap (j + n)).toNat)) <| aC (gi_nn h7) <| aC (gi_lt2 h7 (by simp) : j < ((r71.length : Nat) : Int)) <| aC (gi_row ce_u32 h7 : (r71.map ce_u32)[(0 + j.toNat)]? = some (ce_u32 x6)) <| aC (set_map _ _ (IntKind.u32.wrap guess) _ : (r71.map ce_u32).set (0 + j.toNat) (splice (ce_u32 x6) 0 [(T.int .u32 (IntKind.u32.wrap guess))]) = (r71.set (j.toNat) (IntKind.u32.wrap guess)).map ce_u32) <| aC (Nat.zero_le _ : 0 ≤ (0 + j.toNat)) <| aC h8 <| aC r0 <| aC (by simp : r71.length = (r71.set (j.toNat) (IntKind.u32.wrap guess)).length) <| aC r0 <| aC (by simp : r64.length = (r64.set ((IntKind.i64.wrap (j + n)).toNat) (IntKind.u32.wrap (IntKind.u64.wrap ((IntKind.u64.wrap ((IntKind.u64.wrap x2) - borrow)) - carry)))).length) <| aN) (ih _ _ h cx hn)
    · skip
      obtain ⟨x9, h10, h⟩ := obind h
      obtain ⟨x11, h12, h⟩ := obind h
      exact wk_go (fuel := 138) [.go, .reg [oo], .br false, .reg [oo, oo, oo, oo, .op .ir, .op (.ld (ce_u32 x2)), oo, oo, oo, oo, oo, oo], .reg [oo, oo, oo, oo, oo, oo, .op .ir, .op (.st (ce_u32 x4) ((r64.set ((IntKind.i64.wrap (j + n)).toNat) (IntKind.u32.wrap (IntKind.u64.wrap ((IntKind.u64.wrap ((IntKind.u64.wrap x2) - borrow)) - carry)))).map ce_u32))], .reg [oo, oo, oo, oo, .op .ir, .op (.st (ce_u32 x6) ((r71.set (j.toNat) (IntKind.u32.wrap guess)).map ce_u32))], .reg [oo, oo, oo], .br false, .reg [oo, oo, .op .ir, .op (.ld (ce_u32 x9)), oo, .op .ir, .op (.st (ce_u32 x11) (((r71.set (j.toNat) (IntKind.u32.wrap guess)).set (j.toNat) (IntKind.u32.wrap (x9 - (1 : Int)))).map ce_u32))], .reg [oo], .reg [oo, .op (.ln (v.length : Int)), oo], .pre [.rl 4 0 ((r71.set (j.toNat) (IntKind.u32.wrap guess)).set (j.toNat) (IntKind.u32.wrap (x9 - (1 : Int)))).length, .rl 12 0 (r64.set ((IntKind.i64.wrap (j + n)).toNat) (IntKind.u32.wrap (IntKind.u64.wrap ((IntKind.u64.wrap ((IntKind.u64.wrap x2) - borrow)) - carry)))).length, .keep [4,6,10,11,12,13,14,15,25,210,211,212] [64,71]]] _ hn (by kernel_rfl) (aC h1 <| aC (gi_nn h3) <| aC (gi_lt2 h3 (by simp) : (IntKind.i64.wrap (j + n)) < ((r64.length : Nat) : Int)) <| aC (gi_row ce_u32 h3 : (r64.map ce_u32)[(0 + (IntKind.i64.wrap (j + n)).toNat)]? = some (ce_u32 x2)) <| aC (gi_nn h5) <| aC (gi_lt2 h5 (by simp) : (IntKind.i64.wrap (j + n)) < ((r64.length : Nat) : Int)) <| aC (gi_row ce_u32 h5 : (r64.map ce_u32)[(0 + (IntKind.i64.wrap (j + n)).toNat)]? = some (ce_u32 x4)) <| aC (set_map _ _ (IntKind.u32.wrap (IntKind.u64.wrap ((IntKind.u64.wrap ((IntKind.u64.wrap x2) - borrow)) - carry))) _ : (r64.map ce_u32).set (0 + (IntKind.i64.wrap (j + n)).toNat) (splice (ce_u32 x4) 0 [(T.int .u32 (IntKind.u32.wrap (IntKind.u64.wrap ((IntKind.u64.wrap ((IntKind.u64.wrap x2) - borrow)) - carry))))]) = (r64.set ((IntKind.i64.wrap (j + n)).toNat) (IntKind.u32.wrap (IntKind.u64.wrap ((IntKind.u64.wrap ((IntKind.u64.wrap x2) - borrow)) - carry)))).map ce_u32) <| aC (Nat.zero_le _ : 0 ≤ (0 + (IntKind.i64.wrap (j + n)).toNat)) <| aC (gi_nn h7) <| aC (gi_lt2 h7 (by simp) : j < ((r71.length : Nat) : Int)) <| aC (gi_row ce_u32 h7 : (r71.map ce_u32)[(0 + j.toNat)]? = some (ce_u32 x6)) <| aC (set_map _ _ (IntKind.u32.wrap guess) _ : (r71.map ce_u32).set (0 + j.toNat) (splice (ce_u32 x6) 0 [(T.int .u32 (IntKind.u32.wrap guess))]) = (r71.set (j.toNat) (IntKind.u32.wrap guess)).map ce_u32) <| aC (Nat.zero_le _ : 0 ≤ (0 + j.toNat)) <| aC h8 <| aC (gi_nn h10) <| aC (gi_lt2 h10 (by simp) : j < ((r71.length : Nat) : Int)) <| aC (gi_row ce_u32 h10 : ((r71.set (j.toNat) (IntKind.u32.wrap guess)).map ce_u32)[(0 + j.toNat)]? = some (ce_u32 x9)) <| aC (gi_nn h12) <| aC (gi_lt2 h12 (by simp) : j < ((r71.length : Nat) : Int)) <| aC (gi_row ce_u32 h12 : ((r71.set (j.toNat) (IntKind.u32.wrap guess)).map ce_u32)[(0 + j.toNat)]? = some (ce_u32 x11)) <| aC (set_map _ _ (IntKind.u32.wrap (x9 - (1 : Int))) _ : ((r71.set (j.toNat) (IntKind.u32.wrap guess)).map ce_u32).set (0 + j.toNat) (splice (ce_u32 x11) 0 [(T.int .u32 (IntKind.u32.wrap (x9 - (1 : Int))))]) = ((r71.set (j.toNat) (IntKind.u32.wrap guess)).set (j.toNat) (IntKind.u32.wrap (x9 - (1 : Int)))).map ce_u32) <| aC (Nat.zero_le _ : 0 ≤ (0 + j.toNat)) <| aC (ln_eq v ce_u32) <| aC r0 <| aC (by simp : r71.length = ((r71.set (j.toNat) (IntKind.u32.wrap guess)).set (j.toNat) (IntKind.u32.wrap (x9 - (1 : Int)))).length) <| aC r0 <| aC (by simp : r64.length = (r64.set ((IntKind.i64.wrap (j + n)).toNat) (IntKind.u32.wrap (IntKind.u64.wrap ((IntKind.u64.wrap ((IntKind.u64.wrap x2) - borrow)) - carry)))).length) <| aN) (ih _ _ h cx hn)

theorem division_long_c9 {K} (ih : division_long_H K) {cx} (hn : cx.n = 251) {r66 r71 n shift v top next j} {r} (h : division_long_go (K + 1) (.c9 r66 r71 n shift v top next j) = some r) : division_long_S cx (.c9 r66 r71 n shift v top next j) r := by
  rw [division_long_go] at h
  exact wk_go (fuel := 44) [.reg [oo, oo, oo], .pre [.rl 4 0 r71.length, .rl 12 0 r66.length, .keep [4,6,10,11,12,13,14,15] [66,71]]] _ hn (by kernel_rfl) (aC r0 <| aC (lq r71) <| aC r0 <| aC (lq r66) <| aN) (ih _ _ h cx hn)

theorem division_long_c10 {K} (ih : division_long_H K) {cx} (hn : cx.n = 251) {r66 r71 n shift v top next j sum t210 t211 t212} {r} (h : division_long_go (K + 1) (.c10 r66 r71 n shift v top next j sum t210 t211 t212) = some r) : division_long_S cx (.c10 r66 r71 n shift v top next j sum t210 t211 t212) r := by
  rw [division_long_go] at h
  rcases bcases h with ⟨h1, h⟩ | ⟨h1, h⟩
  · skip
    obtain ⟨x2, h3, h⟩ := obind h
    obtain ⟨x4, h5, h⟩ := obind h
    obtain ⟨x6, h7, h⟩ := obind h
    obtain ⟨x8, h9, h⟩ := obind h
    exact wk_go (fuel := 90) [.go, .reg [oo], .br true, .reg [oo, .op (.ix (ce_u32 x2)), oo, oo, oo], .reg [oo, oo, oo, oo, oo, oo, oo, oo, .op .ir, .op (.ld (ce_u32 x4)), oo, oo, .op (.call [[0], [0], [0]] [(ti .u32 x4), (ti .u32 x2), (ti .u32 sum)] (TV.tup [(false, [(T.int .u32 x6.1)]), (false, [(T.int .u32 x6.2)])])), oo, oo, oo, .op .ir, .op (.st (ce_u32 x8) ((r66.set ((IntKind.i64.wrap (t212 + j)).toNat) x6.1).map ce_u32)), oo], .reg [oo, oo], .pre [.rl 4 0 r71.length, .rl 12 0 (r66.set ((IntKind.i64.wrap (t212 + j)).toNat) x6.1).length, .keep [4,6,10,11,12,13,14,15,25,210,211,212] [66,71]]] _ hn (by kernel_rfl) (aC h1 <| aC (gi_nn h3) <| aC (gi_at ce_u32 h3) <| aC (gi_nn h5) <| aC (gi_lt2 h5 (by simp) : (IntKind.i64.wrap (t212 + j)) < ((r66.length : Nat) : Int)) <| aC (gi_row ce_u32 h5 : (r66.map ce_u32)[(0 + (IntKind.i64.wrap (t212 + j)).toNat)]? = some (ce_u32 x4)) <| aC (math_bits_Add32_holds h7) <| aC (gi_nn h9) <| aC (gi_lt2 h9 (by simp) : (IntKind.i64.wrap (t212 + j)) < ((r66.length : Nat) : Int)) <| aC (gi_row ce_u32 h9 : (r66.map ce_u32)[(0 + (IntKind.i64.wrap (t212 + j)).toNat)]? = some (ce_u32 x8)) <| aC (set_map _ _ x6.1 _ : (r66.map ce_u32).set (0 + (IntKind.i64.wrap (t212 + j)).toNat) (splice (ce_u32 x8) 0 [(T.int .u32 x6.1)]) = (r66.set ((IntKind.i64.wrap (t212 + j)).toNat) x6.1).map ce_u32) <| aC (Nat.zero_le _ : 0 ≤ (0 + (IntKind.i64.wrap (t212 + j)).toNat)) <| aC r0 <| aC (lq r71) <| aC r0 <| aC (by simp : r66.length = (r66.set ((IntKind.i64.wrap (t212 + j)).toNat) x6.1).length) <| aN) (ih _ _ h cx hn)
  · skip
    obtain ⟨x2, h3, h⟩ := obind h
    obtain ⟨x4, h5, h⟩ := obind h
    exact wk_go (fuel := 76) [.go, .reg [oo], .br false, .reg [oo, oo, oo, oo, .op .ir, .op (.ld (ce_u32 x2)), oo, oo, .op .ir, .op (.st (ce_u32 x4) ((r66.set ((IntKind.i64.wrap (j + n)).toNat) (IntKind.u32.wrap (x2 + sum))).map ce_u32))], .pre [.rl 4 0 r71.length, .rl 12 0 (r66.set ((IntKind.i64.wrap (j + n)).toNat) (IntKind.u32.wrap (x2 + sum))).length, .keep [4,6,10,11,12,13,14,15] [66,71]]] _ hn (by kernel_rfl) (aC h1 <| aC (gi_nn h3) <| aC (gi_lt2 h3 (by simp) : (IntKind.i64.wrap (j + n)) < ((r66.length : Nat) : Int)) <| aC (gi_row ce_u32 h3 : (r66.map ce_u32)[(0 + (IntKind.i64.wrap (j + n)).toNat)]? = some (ce_u32 x2)) <| aC (gi_nn h5) <| aC (gi_lt2 h5 (by simp) : (IntKind.i64.wrap (j + n)) < ((r66.length : Nat) : Int)) <| aC (gi_row ce_u32 h5 : (r66.map ce_u32)[(0 + (IntKind.i64.wrap (j + n)).toNat)]? = some (ce_u32 x4)) <| aC (set_map _ _ (IntKind.u32.wrap (x2 + sum)) _ : (r66.map ce_u32).set (0 + (IntKind.i64.wrap (j + n)).toNat) (splice (ce_u32 x4) 0 [(T.int .u32 (IntKind.u32.wrap (x2 + sum)))]) = (r66.set ((IntKind.i64.wrap (j + n)).toNat) (IntKind.u32.wrap (x2 + sum))).map ce_u32) <| aC (Nat.zero_le _ : 0 ≤ (0 + (IntKind.i64.wrap (j + n)).toNat)) <| aC r0 <| aC (lq r71) <| aC r0 <| aC (by simp : r66.length = (r66.set ((IntKind.i64.wrap (j + n)).toNat) (IntKind.u32.wrap (x2 + sum))).length) <| aN) (ih _ _ h cx hn)

theorem division_long_c11 {K} (ih : division_long_H K) {cx} (hn : cx.n = 251) {r64 r71 n shift v top next j} {r} (h : division_long_go (K + 1) (.c11 r64 r71 n shift v top next j) = some r) : division_long_S cx (.c11 r64 r71 n shift v top next j) r := by
  rw [division_long_go] at h
  exact wk_go (fuel := 44) [.reg [oo, oo, oo], .pre [.rl 4 0 r71.length, .rl 12 0 r64.length, .keep [4,6,10,11,12,13,14,15] [64,71]]] _ hn (by kernel_rfl) (aC r0 <| aC (lq r71) <| aC r0 <| aC (lq r64) <| aN) (ih _ _ h cx hn)

theorem division_long_c12 {K} (ih : division_long_H K) {cx} (hn : cx.n = 251) {r64 r71 n shift v top next j sum t210 t211 t212} {r} (h : division_long_go (K + 1) (.c12 r64 r71 n shift v top next j sum t210 t211 t212) = some r) : division_long_S cx (.c12 r64 r71 n shift v top next j sum t210 t211 t212) r := by
  rw [division_long_go] at h
  rcases bcases h with ⟨h1, h⟩ | ⟨h1, h⟩
  · skip
    obtain ⟨x2, h3, h⟩ := obind h
    obtain ⟨x4, h5, h⟩ := obind h
    obtain ⟨x6, h7, h⟩ := obind h
    obtain ⟨x8, h9, h⟩ := obind h
    exact wk_go (fuel := 90) [.go, .reg [oo], .br true, .reg [oo, .op (.ix (ce_u32 x2)), oo, oo, oo], .reg [oo, oo, oo, oo, oo, oo, oo, oo, .op .ir, .op (.ld (ce_u32 x4)), oo, oo, .op (.call [[0], [0], [0]] [(ti .u32 x4), (ti .u32 x2), (ti .u32 sum)] (TV.tup [(false, [(T.int .u32 x6.1)]), (false, [(T.int .u32 x6.2)])])), oo, oo, oo, .op .ir, .op (.st (ce_u32 x8) ((r64.set ((IntKind.i64.wrap (t212 + j)).toNat) x6.1).map ce_u32)), oo], .reg [oo, oo], .pre [.rl 4 0 r71.length, .rl 12 0 (r64.set ((IntKind.i64.wrap (t212 + j)).toNat) x6.1).length, .keep [4,6,10,11,12,13,14,15,25,210,211,212] [64,71]]] _ hn (by kernel_rfl) (aC h1 <| aC (gi_nn h3) <| aC (gi_at ce_u32 h3) <| aC (gi_nn h5) <| aC (gi_lt2 h5 (by simp) : (IntKind.i64.wrap (t212 + j)) < ((r64.length : Nat) : Int)) <| aC (gi_row ce_u32 h5 : (r64.map ce_u32)[(0 + (IntKind.i64.wrap (t212 + j)).toNat)]? = some (ce_u32 x4)) <| aC (math_bits_Add32_holds h7) <| aC (gi_nn h9) <| aC (gi_lt2 h9 (by simp) : (IntKind.i64.wrap (t212 + j)) < ((r64.length : Nat) : Int)) <| aC (gi_row ce_u32 h9 : (r64.map ce_u32)[(0 + (IntKind.i64.wrap (t212 + j)).toNat)]? = some (ce_u32 x8)) <| aC (set_map _ _ x6.1 _ : (r64.map ce_u32).set (0 + (IntKind.i64.wrap (t212 + j)).toNat) (splice (ce_u32 x8) 0 [(T.int .u32 x6.1)]) = (r64.set ((IntKind.i64.wrap (t212 + j)).toNat) x6.1).map ce_u32) <| aC (Nat.zero_le _ : 0 ≤ (0 + (IntKind.i64.wrap (t212 + j)).toNat)) <| aC r0 <| aC (lq r71) <| aC r0 <| aC (by simp : r64.length = (r64.set ((IntKind.i64.wrap (t212 + j)).toNat) x6.1).length) <| aN) (ih _ _ h cx hn)
  · skip
    obtain ⟨x2, h3, h⟩ := obind h
    obtain ⟨x4, h5, h⟩ := obind h
    exact wk_go (fuel := 76) [.go, .reg [oo], .br false, .reg [oo, oo, oo, oo, .op .ir, .op (.ld (ce_u32 x2)), oo, oo, .op .ir, .op (.st (ce_u32 x4) ((r64.set ((IntKind.i64.wrap (j + n)).toNat) (IntKind.u32.wrap (x2 + sum))).map ce_u32))], .pre [.rl 4 0 r71.length, .rl 12 0 (r64.set ((IntKind.i64.wrap (j + n)).toNat) (IntKind.u32.wrap (x2 + sum))).length, .keep [4,6,10,11,12,13,14,15] [64,71]]] _ hn (by kernel_rfl) (aC h1 <| aC (gi_nn h3) <| aC (gi_lt2 h3 (by simp) : (IntKind.i64.wrap (j + n)) < ((r64.length : Nat) : Int)) <| aC (gi_row ce_u32 h3 : (r64.map ce_u32)[(0 + (IntKind.i64.wrap (j + n)).toNat)]? = some (ce_u32 x2)) <| aC (gi_nn h5) <| aC (gi_lt2 h5 (by simp) : (IntKind.i64.wrap (j + n)) < ((r64.length : Nat) : Int)) <| aC (gi_row ce_u32 h5 : (r64.map ce_u32)[(0 + (IntKind.i64.wrap (j + n)).toNat)]? = some (ce_u32 x4)) <| aC (set_map _ _ (IntKind.u32.wrap (x2 + sum)) _ : (r64.map ce_u32).set (0 + (IntKind.i64.wrap (j + n)).toNat) (splice (ce_u32 x4) 0 [(T.int .u32 (IntKind.u32.wrap (x2 + sum)))]) = (r64.set ((IntKind.i64.wrap (j + n)).toNat) (IntKind.u32.wrap (x2 + sum))).map ce_u32) <| aC (Nat.zero_le _ : 0 ≤ (0 + (IntKind.i64.wrap (j + n)).toNat)) <| aC r0 <| aC (lq r71) <| aC r0 <| aC (by simp : r64.length = (r64.set ((IntKind.i64.wrap (j + n)).toNat) (IntKind.u32.wrap (x2 + sum))).length) <| aN) (ih _ _ h cx hn)

theorem division_long_all : ∀ K : Nat, division_long_H K
  | 0, c, r, h => by rw [division_long_go] at h; cases h
  | K + 1, .c0 .., r, h => fun cx hn => division_long_c0 (division_long_all K) hn h
  | K + 1, .c1 .., r, h => fun cx hn => division_long_c1 (division_long_all K) hn h
  | K + 1, .c2 .., r, h => fun cx hn => division_long_c2 (division_long_all K) hn h
  | K + 1, .c3 .., r, h => fun cx hn => division_long_c3 (division_long_all K) hn h
  | K + 1, .c4 .., r, h => fun cx hn => division_long_c4 (division_long_all K) hn h
  | K + 1, .c5 .., r, h => fun cx hn => division_long_c5 (division_long_all K) hn h
  | K + 1, .c6 .., r, h => fun cx hn => division_long_c6 (division_long_all K) hn h
  | K + 1, .c7 .., r, h => fun cx hn => division_long_c7 (division_long_all K) hn h
  | K + 1, .c8 .., r, h => fun cx hn => division_long_c8 (division_long_all K) hn h
  | K + 1, .c9 .., r, h => fun cx hn => division_long_c9 (division_long_all K) hn h
  | K + 1, .c10 .., r, h => fun cx hn => division_long_c10 (division_long_all K) hn h
  | K + 1, .c11 .., r, h => fun cx hn => division_long_c11 (division_long_all K) hn h
  | K + 1, .c12 .., r, h => fun cx hn => division_long_c12 (division_long_all K) hn h

theorem division_long_holds {K : Nat} {a : (List Int)} {b : (List Int)} {r : ((List Int) × (List Int))} (h : division_long K a b = some r) : Holds prog 177 [(tl 1 a ce_u32), (tl 1 b ce_u32)] (TV.tup [(false, [(T.sl 1 (r.1.map ce_u32))]), (false, [(T.sl 1 (r.2.map ce_u32))])]) :=
  holds_wk [[1], [1]] (by kernel_rfl) (by simp) fun cx hn => division_long_all K (.c0 a b) r h cx hn
end Go.Am.X
namespace Go.Am.X
open Go.Proofs.Try (prog)


inductive division_Quo_Cut where
  | c0 (a : integer_Int) (b : integer_Int)

def division_Quo_go : Nat → division_Quo_Cut → Option (integer_Int × integer_Int × Int)
  | 0, _ => none
  | K + 1, .c0 a b =>
    (division_zero K b).bind fun x1 =>
    bif x1 then
      some ((integer_Int.mk false []), (integer_Int.mk false []), (2 : Int))
    else
      (division_long K a.Abs b.Abs).bind fun x4 =>
      (integer_From K (!(a.Neg == b.Neg)) x4.1).bind fun x6 =>
      (integer_From K a.Neg x4.2).bind fun x8 =>
      some (x6, x8, (0 : Int))

def division_Quo (K : Nat) (a : integer_Int) (b : integer_Int) : Option (integer_Int × integer_Int × Int) := division_Quo_go K (.c0 a b)

noncomputable def division_Quo_body : Code := bodyOf prog 147
noncomputable def division_Quo_pos : division_Quo_Cut → List Fr
  | .c0 .. => [.code division_Quo_body]
def division_Quo_st : division_Quo_Cut → St
  | .c0 a b => St.init [(TV.agg (ce_integer_Int a)), (TV.agg (ce_integer_Int b))]

def division_Quo_S (cx : Cx) (c : division_Quo_Cut) (r : (integer_Int × integer_Int × Int)) : Prop := Wk prog cx (EndsF prog 147 [[0,1], [0,1], [0]] (TV.tup [(true, ce_integer_Int r.1), (true, ce_integer_Int r.2.1), (false, [(T.int .i64 r.2.2)])])) (division_Quo_pos c) .normal (division_Quo_st c)
abbrev division_Quo_H (K : Nat) : Prop := ∀ c r, division_Quo_go K c = some r → ∀ cx : Cx, cx.n = 32 → division_Quo_S cx c r

theorem division_Quo_c0 {K} (_ : division_Quo_H K) {cx} (hn : cx.n = 32) {a b} {r} (h : division_Quo_go (K + 1) (.c0 a b) = some r) : division_Quo_S cx (.c0 a b) r := by
  rw [division_Quo_go] at h
  obtain ⟨x1, h2, h⟩ := obind h
  rcases bcases h with ⟨h3, h⟩ | ⟨h3, h⟩
  · skip
    have h := Option.some.inj h; subst h
    exact wk_ret (fuel := 72) [.reg [oo, oo, oo, oo, oo], .reg [oo, .op (.call [[0,1]] [(TV.agg (ce_integer_Int b))] (TV.c (T.bool x1)))], .br true, .draw [.p, .p, .p] [.op .p, .op .p]] _ hn (by kernel_rfl) (aC (division_zero_holds h2) <| aC h3 <| aN)
  · skip
    obtain ⟨x4, h5, h⟩ := obind h
    obtain ⟨x6, h7, h⟩ := obind h
    obtain ⟨x8, h9, h⟩ := obind h
    have h := Option.some.inj h; subst h
    exact wk_ret (fuel := 80) [.reg [oo, oo, oo, oo, oo], .reg [oo, .op (.call [[0,1]] [(TV.agg (ce_integer_Int b))] (TV.c (T.bool x1)))], .br false, .reg [oo, oo, oo, oo, .op (.call [[1], [1]] [(TV.c (T.sl 1 (a.Abs.map ce_u32))), (TV.c (T.sl 1 (b.Abs.map ce_u32)))] (TV.tup [(false, [(T.sl 1 (x4.1.map ce_u32))]), (false, [(T.sl 1 (x4.2.map ce_u32))])])), oo, oo, oo, oo, oo], .draw [.p, .p, .p, .p, .p, .p, (.call [[0], [1]] [(TV.c (T.bool (!(a.Neg == b.Neg)))), (tl 1 x4.1 ce_u32)] (TV.agg (ce_integer_Int x6))), .p, .p, .p] [.op (.call [[0], [1]] [(TV.c (T.bool a.Neg)), (tl 1 x4.2 ce_u32)] (TV.agg (ce_integer_Int x8))), .op .p, .op .p, .op .p]] _ hn (by kernel_rfl) (aC (division_zero_holds h2) <| aC h3 <| aC (division_long_holds h5) <| aC (integer_From_holds h7) <| aC (integer_From_holds h9) <| aN)

theorem division_Quo_all : ∀ K : Nat, division_Quo_H K
  | 0, c, r, h => by rw [division_Quo_go] at h; cases h
  | K + 1, .c0 .., r, h => fun cx hn => division_Quo_c0 (division_Quo_all K) hn h

theorem division_Quo_holds {K : Nat} {a : integer_Int} {b : integer_Int} {r : (integer_Int × integer_Int × Int)} (h : division_Quo K a b = some r) : Holds prog 147 [(TV.agg (ce_integer_Int a)), (TV.agg (ce_integer_Int b))] (TV.tup [(true, ce_integer_Int r.1), (true, ce_integer_Int r.2.1), (false, [(T.int .i64 r.2.2)])]) :=
  holds_wk [[0,1], [0,1], [0]] (by kernel_rfl) (by simp) fun cx hn => division_Quo_all K (.c0 a b) r h cx hn
end Go.Am.X
namespace Go.Am.X
open Go.Proofs.Try (prog)


inductive division_Exact_Cut where
  | c0 (a : integer_Int) (b : integer_Int)

def division_Exact_go : Nat → division_Exact_Cut → Option (integer_Int × Int)
  | 0, _ => none
  | K + 1, .c0 a b =>
    (division_Quo K a b).bind fun x1 =>
    bif (decide (x1.2.2 = (0 : Int))) then
      (division_zero K x1.2.1).bind fun x4 =>
      bif (!x4) then
        some ((integer_Int.mk false []), (3 : Int))
      else
        some (x1.1, x1.2.2)
    else
      some (x1.1, x1.2.2)

def division_Exact (K : Nat) (a : integer_Int) (b : integer_Int) : Option (integer_Int × Int) := division_Exact_go K (.c0 a b)

noncomputable def division_Exact_body : Code := bodyOf prog 117
noncomputable def division_Exact_pos : division_Exact_Cut → List Fr
  | .c0 .. => [.code division_Exact_body]
def division_Exact_st : division_Exact_Cut → St
  | .c0 a b => St.init [(TV.agg (ce_integer_Int a)), (TV.agg (ce_integer_Int b))]

def division_Exact_S (cx : Cx) (c : division_Exact_Cut) (r : (integer_Int × Int)) : Prop := Wk prog cx (EndsF prog 117 [[0,1], [0]] (TV.tup [(true, ce_integer_Int r.1), (false, [(T.int .i64 r.2)])])) (division_Exact_pos c) .normal (division_Exact_st c)
abbrev division_Exact_H (K : Nat) : Prop := ∀ c r, division_Exact_go K c = some r → ∀ cx : Cx, cx.n = 26 → division_Exact_S cx c r

theorem division_Exact_c0 {K} (_ : division_Exact_H K) {cx} (hn : cx.n = 26) {a b} {r} (h : division_Exact_go (K + 1) (.c0 a b) = some r) : division_Exact_S cx (.c0 a b) r := by
  rw [division_Exact_go] at h
  obtain ⟨x1, h2, h⟩ := obind h
  rcases bcases h with ⟨h3, h⟩ | ⟨h3, h⟩
  · skip
    obtain ⟨x4, h5, h⟩ := obind h
    rcases bcases h with ⟨h6, h⟩ | ⟨h6, h⟩
    · skip
      have h := Option.some.inj h; subst h
      exact wk_ret (fuel := 80) [.reg [oo, oo, oo, oo], .reg [oo, oo, .op (.call [[0,1], [0,1]] [(TV.agg (ce_integer_Int a)), (TV.agg (ce_integer_Int b))] (TV.tup [(true, ce_integer_Int x1.1), (true, ce_integer_Int x1.2.1), (false, [(T.int .i64 x1.2.2)])])), oo, oo, oo, oo, oo, oo, oo, oo, oo], .reg [oo, oo, oo, .sb 18 true, oo, .op (.call [[0,1]] [(TV.agg (ce_integer_Int x1.2.1))] (TV.c (T.bool x4))), oo, oo], .br true, .reg [oo, oo, oo]] _ hn (by kernel_rfl) (aC (division_Quo_holds h2) <| aC h3 <| aC (division_zero_holds h5) <| aC h6 <| aN)
    · skip
      have h := Option.some.inj h; subst h
      exact wk_ret (fuel := 80) [.reg [oo, oo, oo, oo], .reg [oo, oo, .op (.call [[0,1], [0,1]] [(TV.agg (ce_integer_Int a)), (TV.agg (ce_integer_Int b))] (TV.tup [(true, ce_integer_Int x1.1), (true, ce_integer_Int x1.2.1), (false, [(T.int .i64 x1.2.2)])])), oo, oo, oo, oo, oo, oo, oo, oo, oo], .reg [oo, oo, oo, .sb 18 true, oo, .op (.call [[0,1]] [(TV.agg (ce_integer_Int x1.2.1))] (TV.c (T.bool x4))), oo, oo], .br false, .reg [oo, oo, oo, oo]] _ hn (by kernel_rfl) (aC (division_Quo_holds h2) <| aC h3 <| aC (division_zero_holds h5) <| aC h6 <| aN)
  · skip
    have h := Option.some.inj h; subst h
    exact wk_ret (fuel := 80) [.reg [oo, oo, oo, oo], .reg [oo, oo, .op (.call [[0,1], [0,1]] [(TV.agg (ce_integer_Int a)), (TV.agg (ce_integer_Int b))] (TV.tup [(true, ce_integer_Int x1.1), (true, ce_integer_Int x1.2.1), (false, [(T.int .i64 x1.2.2)])])), oo, oo, oo, oo, oo, oo, oo, oo, oo], .reg [oo, oo, oo, .sb 18 false, oo, oo, oo, oo], .br false, .reg [oo, oo, oo, oo]] _ hn (by kernel_rfl) (aC (division_Quo_holds h2) <| aC h3 <| aC rf <| aN)

theorem division_Exact_all : ∀ K : Nat, division_Exact_H K
  | 0, c, r, h => by rw [division_Exact_go] at h; cases h
  | K + 1, .c0 .., r, h => fun cx hn => division_Exact_c0 (division_Exact_all K) hn h

theorem division_Exact_holds {K : Nat} {a : integer_Int} {b : integer_Int} {r : (integer_Int × Int)} (h : division_Exact K a b = some r) : Holds prog 117 [(TV.agg (ce_integer_Int a)), (TV.agg (ce_integer_Int b))] (TV.tup [(true, ce_integer_Int r.1), (false, [(T.int .i64 r.2)])]) :=
  holds_wk [[0,1], [0]] (by kernel_rfl) (by simp) fun cx hn => division_Exact_all K (.c0 a b) r h cx hn
end Go.Am.X
namespace Go.Am.X
open Go.Proofs.Try (prog)


inductive integer_Sub_Cut where
  | c0 (a : integer_Int) (b : integer_Int)

def integer_Sub_go : Nat → integer_Sub_Cut → Option integer_Int
  | 0, _ => none
  | K + 1, .c0 a b =>
    (integer_Add K a (integer_Int.mk (!b.Neg) b.Abs)).bind fun x1 =>
    some x1

def integer_Sub (K : Nat) (a : integer_Int) (b : integer_Int) : Option integer_Int := integer_Sub_go K (.c0 a b)

noncomputable def integer_Sub_body : Code := bodyOf prog 143
noncomputable def integer_Sub_pos : integer_Sub_Cut → List Fr
  | .c0 .. => [.code integer_Sub_body]
def integer_Sub_st : integer_Sub_Cut → St
  | .c0 a b => St.init [(TV.agg (ce_integer_Int a)), (TV.agg (ce_integer_Int b))]

def integer_Sub_S (cx : Cx) (c : integer_Sub_Cut) (r : integer_Int) : Prop := Wk prog cx (EndsF prog 143 [[0,1]] (TV.agg (ce_integer_Int r))) (integer_Sub_pos c) .normal (integer_Sub_st c)
abbrev integer_Sub_H (K : Nat) : Prop := ∀ c r, integer_Sub_go K c = some r → ∀ cx : Cx, cx.n = 13 → integer_Sub_S cx c r

theorem integer_Sub_c0 {K} (_ : integer_Sub_H K) {cx} (hn : cx.n = 13) {a b} {r} (h : integer_Sub_go (K + 1) (.c0 a b) = some r) : integer_Sub_S cx (.c0 a b) r := by
  rw [integer_Sub_go] at h
  obtain ⟨x1, h2, h⟩ := obind h
  have h := Option.some.inj h; subst h
  exact wk_ret (fuel := 54) [.reg [oo, oo, oo], .reg [oo, oo, oo, oo, oo, oo, oo, .op (.call [[0,1], [0,1]] [(TV.agg (ce_integer_Int a)), (TV.agg (ce_integer_Int (integer_Int.mk (!b.Neg) b.Abs)))] (TV.agg (ce_integer_Int x1))), oo]] _ hn (by kernel_rfl) (aC (integer_Add_holds h2) <| aN)

theorem integer_Sub_all : ∀ K : Nat, integer_Sub_H K
  | 0, c, r, h => by rw [integer_Sub_go] at h; cases h
  | K + 1, .c0 .., r, h => fun cx hn => integer_Sub_c0 (integer_Sub_all K) hn h

theorem integer_Sub_holds {K : Nat} {a : integer_Int} {b : integer_Int} {r : integer_Int} (h : integer_Sub K a b = some r) : Holds prog 143 [(TV.agg (ce_integer_Int a)), (TV.agg (ce_integer_Int b))] (TV.agg (ce_integer_Int r)) :=
  holds_wk [[0,1]] (by kernel_rfl) (by simp) fun cx hn => integer_Sub_all K (.c0 a b) r h cx hn
end Go.Am.X
namespace Go.Am.X
open Go.Proofs.Try (prog)


inductive division_Floor_Cut where
  | c0 (a : integer_Int) (b : integer_Int)

def division_Floor_go : Nat → division_Floor_Cut → Option (integer_Int × integer_Int × Int)
  | 0, _ => none
  | K + 1, .c0 a b =>
    (division_Quo K a b).bind fun x1 =>
    bif (decide (x1.2.2 = (0 : Int))) then
      (division_zero K x1.2.1).bind fun x4 =>
      bif (!x4) then
        bif (!(x1.2.1.Neg == b.Neg)) then
          (integer_Of K (1 : Int)).bind fun x8 =>
          (integer_Sub K x1.1 x8).bind fun x10 =>
          (integer_Add K x1.2.1 b).bind fun x12 =>
          some (x10, x12, x1.2.2)
        else
          some (x1.1, x1.2.1, x1.2.2)
      else
        some (x1.1, x1.2.1, x1.2.2)
    else
      some (x1.1, x1.2.1, x1.2.2)

def division_Floor (K : Nat) (a : integer_Int) (b : integer_Int) : Option (integer_Int × integer_Int × Int) := division_Floor_go K (.c0 a b)

noncomputable def division_Floor_body : Code := bodyOf prog 176
noncomputable def division_Floor_pos : division_Floor_Cut → List Fr
  | .c0 .. => [.code division_Floor_body]
def division_Floor_st : division_Floor_Cut → St
  | .c0 a b => St.init [(TV.agg (ce_integer_Int a)), (TV.agg (ce_integer_Int b))]

def division_Floor_S (cx : Cx) (c : division_Floor_Cut) (r : (integer_Int × integer_Int × Int)) : Prop := Wk prog cx (EndsF prog 176 [[0,1], [0,1], [0]] (TV.tup [(true, ce_integer_Int r.1), (true, ce_integer_Int r.2.1), (false, [(T.int .i64 r.2.2)])])) (division_Floor_pos c) .normal (division_Floor_st c)
abbrev division_Floor_H (K : Nat) : Prop := ∀ c r, division_Floor_go K c = some r → ∀ cx : Cx, cx.n = 37 → division_Floor_S cx c r

theorem division_Floor_c0 {K} (_ : division_Floor_H K) {cx} (hn : cx.n = 37) {a b} {r} (h : division_Floor_go (K + 1) (.c0 a b) = some r) : division_Floor_S cx (.c0 a b) r := by
  rw [division_Floor_go] at h
  obtain ⟨x1, h2, h⟩ := obind h
  rcases bcases h with ⟨h3, h⟩ | ⟨h3, h⟩
  · skip
    obtain ⟨x4, h5, h⟩ := obind h
    rcases bcases h with ⟨h6, h⟩ | ⟨h6, h⟩
    · skip
      rcases bcases h with ⟨h7, h⟩ | ⟨h7, h⟩
      · skip
        obtain ⟨x8, h9, h⟩ := obind h
        obtain ⟨x10, h11, h⟩ := obind h
        obtain ⟨x12, h13, h⟩ := obind h
        have h := Option.some.inj h; subst h
        exact wk_ret (fuel := 84) [.reg [oo, oo, oo, oo, oo], .reg [oo, oo, .op (.call [[0,1], [0,1]] [(TV.agg (ce_integer_Int a)), (TV.agg (ce_integer_Int b))] (TV.tup [(true, ce_integer_Int x1.1), (true, ce_integer_Int x1.2.1), (false, [(T.int .i64 x1.2.2)])])), oo, oo, oo, oo, oo, oo, oo], .reg [oo, oo, oo, .sb 16 true, oo, .op (.call [[0,1]] [(TV.agg (ce_integer_Int x1.2.1))] (TV.c (T.bool x4))), oo, oo, oo, .sb 21 true, oo, oo, oo, oo, oo, oo], .br true, .draw [.p, (.call [[0]] [(TV.c (T.int .i64 (1 : Int)))] (TV.agg (ce_integer_Int x8))), (.call [[0,1], [0,1]] [(TV.agg (ce_integer_Int x1.1)), (TV.agg (ce_integer_Int x8))] (TV.agg (ce_integer_Int x10))), .p, .p] [.op (.call [[0,1], [0,1]] [(TV.agg (ce_integer_Int x1.2.1)), (TV.agg (ce_integer_Int b))] (TV.agg (ce_integer_Int x12))), .op .p, .op .p], .draw [.p, .p, .p, .p, .p] [.op .p]] _ hn (by kernel_rfl) (aC (division_Quo_holds h2) <| aC h3 <| aC (division_zero_holds h5) <| aC h6 <| aC h7 <| aC (integer_Of_holds h9) <| aC (integer_Sub_holds h11) <| aC (integer_Add_holds h13) <| aN)
      · skip
        have h := Option.some.inj h; subst h
        exact wk_ret (fuel := 80) [.reg [oo, oo, oo, oo, oo], .reg [oo, oo, .op (.call [[0,1], [0,1]] [(TV.agg (ce_integer_Int a)), (TV.agg (ce_integer_Int b))] (TV.tup [(true, ce_integer_Int x1.1), (true, ce_integer_Int x1.2.1), (false, [(T.int .i64 x1.2.2)])])), oo, oo, oo, oo, oo, oo, oo], .reg [oo, oo, oo, .sb 16 true, oo, .op (.call [[0,1]] [(TV.agg (ce_integer_Int x1.2.1))] (TV.c (T.bool x4))), oo, oo, oo, .sb 21 true, oo, oo, oo, oo, oo, oo], .br false, .draw [.p, .p, .p, .p, .p] [.op .p]] _ hn (by kernel_rfl) (aC (division_Quo_holds h2) <| aC h3 <| aC (division_zero_holds h5) <| aC h6 <| aC h7 <| aN)
    · skip
      have h := Option.some.inj h; subst h
      exact wk_ret (fuel := 80) [.reg [oo, oo, oo, oo, oo], .reg [oo, oo, .op (.call [[0,1], [0,1]] [(TV.agg (ce_integer_Int a)), (TV.agg (ce_integer_Int b))] (TV.tup [(true, ce_integer_Int x1.1), (true, ce_integer_Int x1.2.1), (false, [(T.int .i64 x1.2.2)])])), oo, oo, oo, oo, oo, oo, oo], .reg [oo, oo, oo, .sb 16 true, oo, .op (.call [[0,1]] [(TV.agg (ce_integer_Int x1.2.1))] (TV.c (T.bool x4))), oo, oo, oo, .sb 21 false, oo, oo, oo, oo, oo, oo], .br false, .draw [.p, .p, .p, .p, .p] [.op .p]] _ hn (by kernel_rfl) (aC (division_Quo_holds h2) <| aC h3 <| aC (division_zero_holds h5) <| aC h6 <| aC rf <| aN)
  · skip
    have h := Option.some.inj h; subst h
    exact wk_ret (fuel := 80) [.reg [oo, oo, oo, oo, oo], .reg [oo, oo, .op (.call [[0,1], [0,1]] [(TV.agg (ce_integer_Int a)), (TV.agg (ce_integer_Int b))] (TV.tup [(true, ce_integer_Int x1.1), (true, ce_integer_Int x1.2.1), (false, [(T.int .i64 x1.2.2)])])), oo, oo, oo, oo, oo, oo, oo], .reg [oo, oo, oo, .sb 16 false, oo, oo, oo, oo, oo, oo, oo, oo, oo, oo, oo], .br false, .draw [.p, .p, .p, .p, .p] [.op .p]] _ hn (by kernel_rfl) (aC (division_Quo_holds h2) <| aC h3 <| aC rf <| aN)

theorem division_Floor_all : ∀ K : Nat, division_Floor_H K
  | 0, c, r, h => by rw [division_Floor_go] at h; cases h
  | K + 1, .c0 .., r, h => fun cx hn => division_Floor_c0 (division_Floor_all K) hn h

theorem division_Floor_holds {K : Nat} {a : integer_Int} {b : integer_Int} {r : (integer_Int × integer_Int × Int)} (h : division_Floor K a b = some r) : Holds prog 176 [(TV.agg (ce_integer_Int a)), (TV.agg (ce_integer_Int b))] (TV.tup [(true, ce_integer_Int r.1), (true, ce_integer_Int r.2.1), (false, [(T.int .i64 r.2.2)])]) :=
  holds_wk [[0,1], [0,1], [0]] (by kernel_rfl) (by simp) fun cx hn => division_Floor_all K (.c0 a b) r h cx hn
end Go.Am.X
namespace Go.Am.X
open Go.Proofs.Try (prog)


inductive division_Mod_Cut where
  | c0 (a : integer_Int) (m : integer_Int)

def division_Mod_go : Nat → division_Mod_Cut → Option (integer_Int × Int)
  | 0, _ => none
  | K + 1, .c0 a m =>
    (integer_Abs K m).bind fun x1 =>
    (division_Floor K a x1).bind fun x3 =>
    some (x3.2.1, x3.2.2)

def division_Mod (K : Nat) (a : integer_Int) (m : integer_Int) : Option (integer_Int × Int) := division_Mod_go K (.c0 a m)

noncomputable def division_Mod_body : Code := bodyOf prog 141
noncomputable def division_Mod_pos : division_Mod_Cut → List Fr
  | .c0 .. => [.code division_Mod_body]
def division_Mod_st : division_Mod_Cut → St
  | .c0 a m => St.init [(TV.agg (ce_integer_Int a)), (TV.agg (ce_integer_Int m))]

def division_Mod_S (cx : Cx) (c : division_Mod_Cut) (r : (integer_Int × Int)) : Prop := Wk prog cx (EndsF prog 141 [[0,1], [0]] (TV.tup [(true, ce_integer_Int r.1), (false, [(T.int .i64 r.2)])])) (division_Mod_pos c) .normal (division_Mod_st c)
abbrev division_Mod_H (K : Nat) : Prop := ∀ c r, division_Mod_go K c = some r → ∀ cx : Cx, cx.n = 19 → division_Mod_S cx c r

theorem division_Mod_c0 {K} (_ : division_Mod_H K) {cx} (hn : cx.n = 19) {a m} {r} (h : division_Mod_go (K + 1) (.c0 a m) = some r) : division_Mod_S cx (.c0 a m) r := by
  rw [division_Mod_go] at h
  obtain ⟨x1, h2, h⟩ := obind h
  obtain ⟨x3, h4, h⟩ := obind h
  have h := Option.some.inj h; subst h
  exact wk_ret (fuel := 62) [.reg [oo, oo, oo, oo], .draw [.p, .p, (.call [[0,1]] [(TV.agg (ce_integer_Int m))] (TV.agg (ce_integer_Int x1))), (.call [[0,1], [0,1]] [(TV.agg (ce_integer_Int a)), (TV.agg (ce_integer_Int x1))] (TV.tup [(true, ce_integer_Int x3.1), (true, ce_integer_Int x3.2.1), (false, [(T.int .i64 x3.2.2)])])), .p, .p, .p, .p, .p, .p, .p, .p] [.op .p], .reg [oo, oo, oo, oo]] _ hn (by kernel_rfl) (aC (integer_Abs_holds h2) <| aC (division_Floor_holds h4) <| aN)

theorem division_Mod_all : ∀ K : Nat, division_Mod_H K
  | 0, c, r, h => by rw [division_Mod_go] at h; cases h
  | K + 1, .c0 .., r, h => fun cx hn => division_Mod_c0 (division_Mod_all K) hn h

theorem division_Mod_holds {K : Nat} {a : integer_Int} {m : integer_Int} {r : (integer_Int × Int)} (h : division_Mod K a m = some r) : Holds prog 141 [(TV.agg (ce_integer_Int a)), (TV.agg (ce_integer_Int m))] (TV.tup [(true, ce_integer_Int r.1), (false, [(T.int .i64 r.2)])]) :=
  holds_wk [[0,1], [0]] (by kernel_rfl) (by simp) fun cx hn => division_Mod_all K (.c0 a m) r h cx hn
end Go.Am.X
namespace Go.Am.X
open Go.Proofs.Try (prog)


inductive division_Symmetric_Cut where
  | c0 (a : integer_Int) (m : integer_Int)

def division_Symmetric_go : Nat → division_Symmetric_Cut → Option (integer_Int × Int)
  | 0, _ => none
  | K + 1, .c0 a m =>
    (division_Mod K a m).bind fun x1 =>
    bif (decide (x1.2 = (0 : Int))) then
      (natural_Shl K x1.1.Abs (1 : Int)).bind fun x4 =>
      (natural_Cmp K x4 m.Abs).bind fun x6 =>
      bif (decide ((0 : Int) < x6)) then
        (integer_Abs K m).bind fun x9 =>
        (integer_Sub K x1.1 x9).bind fun x11 =>
        some (x11, x1.2)
      else
        some (x1.1, x1.2)
    else
      some (x1.1, x1.2)

def division_Symmetric (K : Nat) (a : integer_Int) (m : integer_Int) : Option (integer_Int × Int) := division_Symmetric_go K (.c0 a m)

noncomputable def division_Symmetric_body : Code := bodyOf prog 95
noncomputable def division_Symmetric_pos : division_Symmetric_Cut → List Fr
  | .c0 .. => [.code division_Symmetric_body]
def division_Symmetric_st : division_Symmetric_Cut → St
  | .c0 a m => St.init [(TV.agg (ce_integer_Int a)), (TV.agg (ce_integer_Int m))]

def division_Symmetric_S (cx : Cx) (c : division_Symmetric_Cut) (r : (integer_Int × Int)) : Prop := Wk prog cx (EndsF prog 95 [[0,1], [0]] (TV.tup [(true, ce_integer_Int r.1), (false, [(T.int .i64 r.2)])])) (division_Symmetric_pos c) .normal (division_Symmetric_st c)
abbrev division_Symmetric_H (K : Nat) : Prop := ∀ c r, division_Symmetric_go K c = some r → ∀ cx : Cx, cx.n = 31 → division_Symmetric_S cx c r

theorem division_Symmetric_c0 {K} (_ : division_Symmetric_H K) {cx} (hn : cx.n = 31) {a m} {r} (h : division_Symmetric_go (K + 1) (.c0 a m) = some r) : division_Symmetric_S cx (.c0 a m) r := by
  rw [division_Symmetric_go] at h
  obtain ⟨x1, h2, h⟩ := obind h
  rcases bcases h with ⟨h3, h⟩ | ⟨h3, h⟩
  · skip
    obtain ⟨x4, h5, h⟩ := obind h
    obtain ⟨x6, h7, h⟩ := obind h
    rcases bcases h with ⟨h8, h⟩ | ⟨h8, h⟩
    · skip
      obtain ⟨x9, h10, h⟩ := obind h
      obtain ⟨x11, h12, h⟩ := obind h
      have h := Option.some.inj h; subst h
      exact wk_ret (fuel := 84) [.reg [oo, oo, oo, oo], .reg [oo, oo, .op (.call [[0,1], [0,1]] [(TV.agg (ce_integer_Int a)), (TV.agg (ce_integer_Int m))] (TV.tup [(true, ce_integer_Int x1.1), (false, [(T.int .i64 x1.2)])])), oo, oo, oo, oo, oo, oo], .draw [.p, .p, .p, (.ga true .p), (.ga true .p), (.ga true (.call [[1], [0]] [(TV.c (T.sl 1 (x1.1.Abs.map ce_u32))), (TV.c (T.int .i64 (1 : Int)))] (tl 1 x4 ce_u32))), (.ga true .p), (.ga true .p), (.ga true (.call [[1], [1]] [(tl 1 x4 ce_u32), (TV.c (T.sl 1 (m.Abs.map ce_u32)))] (ti .i64 x6))), (.ga true .p), (.pk true)] [], .br true, .draw [.p, .p, (.call [[0,1]] [(TV.agg (ce_integer_Int m))] (TV.agg (ce_integer_Int x9)))] [.op (.call [[0,1], [0,1]] [(TV.agg (ce_integer_Int x1.1)), (TV.agg (ce_integer_Int x9))] (TV.agg (ce_integer_Int x11))), .op .p], .reg [oo, oo, oo, oo]] _ hn (by kernel_rfl) (aC (division_Mod_holds h2) <| aC h3 <| aC h3 <| aC h3 <| aC (natural_Shl_holds h5) <| aC h3 <| aC h3 <| aC h3 <| aC (natural_Cmp_holds h7) <| aC h3 <| aC h3 <| aC h8 <| aC (integer_Abs_holds h10) <| aC (integer_Sub_holds h12) <| aN)
    · skip
      have h := Option.some.inj h; subst h
      exact wk_ret (fuel := 80) [.reg [oo, oo, oo, oo], .reg [oo, oo, .op (.call [[0,1], [0,1]] [(TV.agg (ce_integer_Int a)), (TV.agg (ce_integer_Int m))] (TV.tup [(true, ce_integer_Int x1.1), (false, [(T.int .i64 x1.2)])])), oo, oo, oo, oo, oo, oo], .draw [.p, .p, .p, (.ga true .p), (.ga true .p), (.ga true (.call [[1], [0]] [(TV.c (T.sl 1 (x1.1.Abs.map ce_u32))), (TV.c (T.int .i64 (1 : Int)))] (tl 1 x4 ce_u32))), (.ga true .p), (.ga true .p), (.ga true (.call [[1], [1]] [(tl 1 x4 ce_u32), (TV.c (T.sl 1 (m.Abs.map ce_u32)))] (ti .i64 x6))), (.ga true .p), (.pk true)] [], .br false, .reg [oo, oo, oo, oo]] _ hn (by kernel_rfl) (aC (division_Mod_holds h2) <| aC h3 <| aC h3 <| aC h3 <| aC (natural_Shl_holds h5) <| aC h3 <| aC h3 <| aC h3 <| aC (natural_Cmp_holds h7) <| aC h3 <| aC h3 <| aC h8 <| aN)
  · skip
    have h := Option.some.inj h; subst h
    exact wk_ret (fuel := 80) [.reg [oo, oo, oo, oo], .reg [oo, oo, .op (.call [[0,1], [0,1]] [(TV.agg (ce_integer_Int a)), (TV.agg (ce_integer_Int m))] (TV.tup [(true, ce_integer_Int x1.1), (false, [(T.int .i64 x1.2)])])), oo, oo, oo, oo, oo, oo], .draw [.p, .p, .p, (.ga false .p), (.ga false .p), (.ga false .p), (.ga false .p), (.ga false .p), (.ga false .p), (.ga false .p), (.pk false)] [], .br false, .reg [oo, oo, oo, oo]] _ hn (by kernel_rfl) (aC (division_Mod_holds h2) <| aC h3 <| aC h3 <| aC h3 <| aC h3 <| aC h3 <| aC h3 <| aC h3 <| aC h3 <| aC rf <| aN)

theorem division_Symmetric_all : ∀ K : Nat, division_Symmetric_H K
  | 0, c, r, h => by rw [division_Symmetric_go] at h; cases h
  | K + 1, .c0 .., r, h => fun cx hn => division_Symmetric_c0 (division_Symmetric_all K) hn h

theorem division_Symmetric_holds {K : Nat} {a : integer_Int} {m : integer_Int} {r : (integer_Int × Int)} (h : division_Symmetric K a m = some r) : Holds prog 95 [(TV.agg (ce_integer_Int a)), (TV.agg (ce_integer_Int m))] (TV.tup [(true, ce_integer_Int r.1), (false, [(T.int .i64 r.2)])]) :=
  holds_wk [[0,1], [0]] (by kernel_rfl) (by simp) fun cx hn => division_Symmetric_all K (.c0 a m) r h cx hn
end Go.Am.X
namespace Go.Am.X
open Go.Proofs.Try (prog)


inductive unipoly_trim_Cut where
  | c0 (f : (List integer_Int))
  | c1 (f : (List integer_Int)) (n : Int)
  | c2 (f : (List integer_Int)) (n : Int)

def unipoly_trim_go : Nat → unipoly_trim_Cut → Option (List integer_Int)
  | 0, _ => none
  | K + 1, .c0 f =>
    unipoly_trim_go K (.c1 f (f.length : Int))
  | K + 1, .c1 f n =>
    bif (decide ((0 : Int) < n)) then
      (gi f (IntKind.i64.wrap (n - (1 : Int)))).bind fun x2 =>
      (natural_IsZero K x2.Abs).bind fun x4 =>
      bif x4 then
        unipoly_trim_go K (.c1 f (IntKind.i64.wrap (n - (1 : Int))))
      else
        unipoly_trim_go K (.c2 f n)
    else
      unipoly_trim_go K (.c2 f n)
  | _ + 1, .c2 f n =>
    bif (decide (n = (0 : Int))) then
      some []
    else
      gd (0 ≤ n ∧ 0 ≤ n.toNat ∧ n.toNat ≤ f.length) <|
      some (f.take n.toNat)

def unipoly_trim (K : Nat) (f : (List integer_Int)) : Option (List integer_Int) := unipoly_trim_go K (.c0 f)

noncomputable def unipoly_trim_body : Code := bodyOf prog 102
noncomputable def unipoly_trim_pos : unipoly_trim_Cut → List Fr
  | .c0 .. => [.code unipoly_trim_body]
  | .c1 .. => [.code (.loop (atC unipoly_trim_body [1,1,0,0,0])), .blk 0, .code (atC unipoly_trim_body [1,1,1])]
  | .c2 .. => [.code (atC unipoly_trim_body [1,1,1,0,0]), .code (atC unipoly_trim_body [1,1,1,0,1]), .code (atC unipoly_trim_body [1,1,1,1])]
def unipoly_trim_st : unipoly_trim_Cut → St
  | .c0 f => St.init [(tl 2 f ce_integer_Int)]
  | .c1 f n => ⟨[(0, vl 2 f ce_integer_Int), (3, vi .i64 n)], [], []⟩
  | .c2 f n => ⟨[(0, vl 2 f ce_integer_Int), (3, vi .i64 n)], [], []⟩

def unipoly_trim_S (cx : Cx) (c : unipoly_trim_Cut) (r : (List integer_Int)) : Prop := Wk prog cx (EndsF prog 102 [[2]] (tl 2 r ce_integer_Int)) (unipoly_trim_pos c) .normal (unipoly_trim_st c)
abbrev unipoly_trim_H (K : Nat) : Prop := ∀ c r, unipoly_trim_go K c = some r → ∀ cx : Cx, cx.n = 24 → unipoly_trim_S cx c r

theorem unipoly_trim_c0 {K} (ih : unipoly_trim_H K) {cx} (hn : cx.n = 24) {f} {r} (h : unipoly_trim_go (K + 1) (.c0 f) = some r) : unipoly_trim_S cx (.c0 f) r := by
  rw [unipoly_trim_go] at h
  exact wk_go (fuel := 56) [.reg [oo], .reg [oo, .op (.ln (f.length : Int)), oo], .pre [.keep [0,3] []]] _ hn (by kernel_rfl) (aC (ln_eq f ce_integer_Int) <| aN) (ih _ _ h cx hn)

theorem unipoly_trim_c1 {K} (ih : unipoly_trim_H K) {cx} (hn : cx.n = 24) {f n} {r} (h : unipoly_trim_go (K + 1) (.c1 f n) = some r) : unipoly_trim_S cx (.c1 f n) r := by
  rw [unipoly_trim_go] at h
  rcases bcases h with ⟨h1, h⟩ | ⟨h1, h⟩
  · skip
    obtain ⟨x2, h3, h⟩ := obind h
    obtain ⟨x4, h5, h⟩ := obind h
    rcases bcases h with ⟨h6, h⟩ | ⟨h6, h⟩
    · skip
      exact wk_go (fuel := 74) [.go, .reg [oo, oo, oo, .sb 8 true, oo, oo, oo, .op (.ix (ce_integer_Int x2)), oo, oo, .op (.call [[1]] [(TV.c (T.sl 1 (x2.Abs.map ce_u32)))] (TV.c (T.bool x4))), oo], .br true, .reg [oo, oo, oo], .pre [.keep [0,3] []]] _ hn (by kernel_rfl) (aC h1 <| aC (gi_nn h3) <| aC (gi_at ce_integer_Int h3) <| aC (natural_IsZero_holds h5) <| aC h6 <| aN) (ih _ _ h cx hn)
    · skip
      exact wk_go (fuel := 72) [.go, .reg [oo, oo, oo, .sb 8 true, oo, oo, oo, .op (.ix (ce_integer_Int x2)), oo, oo, .op (.call [[1]] [(TV.c (T.sl 1 (x2.Abs.map ce_u32)))] (TV.c (T.bool x4))), oo], .br false, .pre [.keep [0,3] []]] _ hn (by kernel_rfl) (aC h1 <| aC (gi_nn h3) <| aC (gi_at ce_integer_Int h3) <| aC (natural_IsZero_holds h5) <| aC h6 <| aN) (ih _ _ h cx hn)
  · skip
    exact wk_go (fuel := 72) [.go, .reg [oo, oo, oo, .sb 8 false, oo, oo, oo, oo, oo, oo, oo, oo], .br false, .pre [.keep [0,3] []]] _ hn (by kernel_rfl) (aC h1 <| aC rf <| aN) (ih _ _ h cx hn)

theorem unipoly_trim_c2 {K} (_ : unipoly_trim_H K) {cx} (hn : cx.n = 24) {f n} {r} (h : unipoly_trim_go (K + 1) (.c2 f n) = some r) : unipoly_trim_S cx (.c2 f n) r := by
  rw [unipoly_trim_go] at h
  rcases bcases h with ⟨h1, h⟩ | ⟨h1, h⟩
  · skip
    have h := Option.some.inj h; subst h
    exact wk_ret (fuel := 60) [.reg [oo, oo], .br true, .reg [oo]] _ hn (by kernel_rfl) (aC h1 <| aN)
  · skip
    obtain ⟨h2, h⟩ := gd_some h
    have h := Option.some.inj h; subst h
    exact wk_ret (fuel := 60) [.reg [oo, oo], .br false, .reg [oo, oo, .op (.slT 0 n.toNat ((f.take n.toNat).map ce_integer_Int)), oo]] _ hn (by kernel_rfl) (aC h1 <| aC r0 <| aC (⟨h2.1, rfl⟩ : 0 ≤ n ∧ n.toNat = n.toNat) <| aC h2.2.1 <| aC (ln_le _ h2.2.2 : n.toNat ≤ (f.map ce_integer_Int).length) <| aC (tk0_map _ _ _ : ((f.map ce_integer_Int).take n.toNat).drop 0 = (f.take n.toNat).map ce_integer_Int) <| aN)

theorem unipoly_trim_all : ∀ K : Nat, unipoly_trim_H K
  | 0, c, r, h => by rw [unipoly_trim_go] at h; cases h
  | K + 1, .c0 .., r, h => fun cx hn => unipoly_trim_c0 (unipoly_trim_all K) hn h
  | K + 1, .c1 .., r, h => fun cx hn => unipoly_trim_c1 (unipoly_trim_all K) hn h
  | K + 1, .c2 .., r, h => fun cx hn => unipoly_trim_c2 (unipoly_trim_all K) hn h

theorem unipoly_trim_holds {K : Nat} {f : (List integer_Int)} {r : (List integer_Int)} (h : unipoly_trim K f = some r) : Holds prog 102 [(tl 2 f ce_integer_Int)] (tl 2 r ce_integer_Int) :=
  holds_wk [[2]] (by kernel_rfl) (by simp) fun cx hn => unipoly_trim_all K (.c0 f) r h cx hn
end Go.Am.X
namespace Go.Am.X
open Go.Proofs.Try (prog)


inductive unipoly_Normal_Cut where
  | c0 (f : (List integer_Int))
  | c1 (r8 : (List integer_Int)) (f : (List integer_Int)) (t10 : Int) (t11 : Int)

def unipoly_Normal_go : Nat → unipoly_Normal_Cut → Option (List integer_Int)
  | 0, _ => none
  | K + 1, .c0 f =>
    (unipoly_trim K f).bind fun x1 =>
    gd (0 ≤ (x1.length : Int) ∧ (x1.length : Int) ≤ (x1.length : Int) ∧ (32 : Int) * (x1.length : Int) ≤ 140737488355328) <|
    unipoly_Normal_go K (.c1 (List.replicate (x1.length : Int).toNat ((integer_Int.mk false []) : integer_Int)) f (((x1.length : Int).toNat : Nat) : Int) (0 : Int))
  | K + 1, .c1 r8 f t10 t11 =>
    bif (decide (t11 < t10)) then
      (gi f t11).bind fun x2 =>
      (integer_Normal K x2).bind fun x4 =>
      (gi r8 t11).bind fun _ =>
      unipoly_Normal_go K (.c1 (r8.set (t11.toNat) x4) f t10 (IntKind.i64.wrap (t11 + (1 : Int))))
    else
      (unipoly_trim K r8).bind fun x2 =>
      some x2

def unipoly_Normal (K : Nat) (f : (List integer_Int)) : Option (List integer_Int) := unipoly_Normal_go K (.c0 f)

noncomputable def unipoly_Normal_body : Code := bodyOf prog 96
noncomputable def unipoly_Normal_pos : unipoly_Normal_Cut → List Fr
  | .c0 .. => [.code unipoly_Normal_body]
  | .c1 .. => [.code (.loop (atC unipoly_Normal_body [1,1,0,1,0,0])), .blk 0, .code (atC unipoly_Normal_body [1,1,1])]
def unipoly_Normal_st : unipoly_Normal_Cut → St
  | .c0 f => St.init [(tl 2 f ce_integer_Int)]
  | .c1 r8 f t10 t11 => ⟨[(0, vl 2 f ce_integer_Int), (3, .c (C.row 8 0 r8.length)), (10, vi .i64 t10), (11, vi .i64 t11)], [(8, .row 45 2 (r8.map ce_integer_Int) 0)], []⟩

def unipoly_Normal_S (cx : Cx) (c : unipoly_Normal_Cut) (r : (List integer_Int)) : Prop := Wk prog cx (EndsF prog 96 [[2]] (tl 2 r ce_integer_Int)) (unipoly_Normal_pos c) .normal (unipoly_Normal_st c)
abbrev unipoly_Normal_H (K : Nat) : Prop := ∀ c r, unipoly_Normal_go K c = some r → ∀ cx : Cx, cx.n = 25 → unipoly_Normal_S cx c r

theorem unipoly_Normal_c0 {K} (ih : unipoly_Normal_H K) {cx} (hn : cx.n = 25) {f} {r} (h : unipoly_Normal_go (K + 1) (.c0 f) = some r) : unipoly_Normal_S cx (.c0 f) r := by
  rw [unipoly_Normal_go] at h
  obtain ⟨x1, h2, h⟩ := obind h
  obtain ⟨h3, h⟩ := gd_some h
  exact wk_go (fuel := 64) [.reg [oo], .reg [oo, .op (.call [[2]] [(tl 2 f ce_integer_Int)] (tl 2 x1 ce_integer_Int)), .op (.ln (x1.length : Int)), .op (.mk (ce_integer_Int (integer_Int.mk false [])) ((List.replicate (x1.length : Int).toNat ((integer_Int.mk false []) : integer_Int)).map ce_integer_Int)), oo], .reg [oo, oo, oo], .pre [.rl 3 0 (List.replicate (x1.length : Int).toNat ((integer_Int.mk false []) : integer_Int)).length, .keep [0,3,10,11] [8]]] _ hn (by kernel_rfl) (aC (unipoly_trim_holds h2) <| aC (ln_eq x1 ce_integer_Int) <| aC h3.1 <| aC h3.2.1 <| aC h3.2.2 <| aC (rep_map _ _ _ : List.replicate (x1.length : Int).toNat (ce_integer_Int (integer_Int.mk false [])) = (List.replicate (x1.length : Int).toNat ((integer_Int.mk false []) : integer_Int)).map ce_integer_Int) <| aC r0 <| aC (by simp : (x1.length : Int).toNat = (List.replicate (x1.length : Int).toNat ((integer_Int.mk false []) : integer_Int)).length) <| aN) (ih _ _ h cx hn)

theorem unipoly_Normal_c1 {K} (ih : unipoly_Normal_H K) {cx} (hn : cx.n = 25) {r8 f t10 t11} {r} (h : unipoly_Normal_go (K + 1) (.c1 r8 f t10 t11) = some r) : unipoly_Normal_S cx (.c1 r8 f t10 t11) r := by
  rw [unipoly_Normal_go] at h
  rcases bcases h with ⟨h1, h⟩ | ⟨h1, h⟩
  · skip
    obtain ⟨x2, h3, h⟩ := obind h
    obtain ⟨x4, h5, h⟩ := obind h
    obtain ⟨x6, h7, h⟩ := obind h
    exact wk_go (fuel := 90) [.go, .reg [oo], .br true, .reg [oo, oo], .reg [oo, oo, oo, oo, .op (.ix (ce_integer_Int x2)), oo, .op (.call [[0,1]] [(TV.agg (ce_integer_Int x2))] (TV.agg (ce_integer_Int x4))), .op .ir, .op (.st (ce_integer_Int x6) ((r8.set (t11.toNat) x4).map ce_integer_Int))], .reg [oo, oo], .pre [.rl 3 0 (r8.set (t11.toNat) x4).length, .keep [0,3,10,11] [8]]] _ hn (by kernel_rfl) (aC h1 <| aC (gi_nn h3) <| aC (gi_at ce_integer_Int h3) <| aC (integer_Normal_holds h5) <| aC (gi_nn h7) <| aC (gi_lt2 h7 (by simp) : t11 < ((r8.length : Nat) : Int)) <| aC (gi_row ce_integer_Int h7 : (r8.map ce_integer_Int)[(0 + t11.toNat)]? = some (ce_integer_Int x6)) <| aC (set_map _ _ x4 _ : (r8.map ce_integer_Int).set (0 + t11.toNat) (splice (ce_integer_Int x6) 0 [(T.bool x4.Neg), (T.sl 1 (x4.Abs.map ce_u32))]) = (r8.set (t11.toNat) x4).map ce_integer_Int) <| aC (Nat.zero_le _ : 0 ≤ (0 + t11.toNat)) <| aC r0 <| aC (by simp : r8.length = (r8.set (t11.toNat) x4).length) <| aN) (ih _ _ h cx hn)
  · skip
    obtain ⟨x2, h3, h⟩ := obind h
    have h := Option.some.inj h; subst h
    exact wk_ret (fuel := 78) [.go, .reg [oo], .br false, .reg [oo, .snap 23 (max 0 (0 + r8.length)) (r8.map ce_integer_Int), .op (.call [[2]] [(tl 2 r8 ce_integer_Int)] (tl 2 x2 ce_integer_Int)), oo]] _ hn (by kernel_rfl) (aC h1 <| aC (sn_map _ _ _ (by simp) : ((r8.map ce_integer_Int).drop 0).take r8.length = r8.map ce_integer_Int) <| aC (rfl : (max 0 (0 + r8.length)) = (max 0 (0 + r8.length))) <| aC (unipoly_trim_holds h3) <| aN)

theorem unipoly_Normal_all : ∀ K : Nat, unipoly_Normal_H K
  | 0, c, r, h => by rw [unipoly_Normal_go] at h; cases h
  | K + 1, .c0 .., r, h => fun cx hn => unipoly_Normal_c0 (unipoly_Normal_all K) hn h
  | K + 1, .c1 .., r, h => fun cx hn => unipoly_Normal_c1 (unipoly_Normal_all K) hn h

theorem unipoly_Normal_holds {K : Nat} {f : (List integer_Int)} {r : (List integer_Int)} (h : unipoly_Normal K f = some r) : Holds prog 96 [(tl 2 f ce_integer_Int)] (tl 2 r ce_integer_Int) :=
  holds_wk [[2]] (by kernel_rfl) (by simp) fun cx hn => unipoly_Normal_all K (.c0 f) r h cx hn
end Go.Am.X
namespace Go.Am.X
open Go.Proofs.Try (prog)


inductive hensel_Reduce_Cut where
  | c0 (f : (List integer_Int)) (m : integer_Int)
  | c1 (m : integer_Int) (r14 : (List integer_Int)) (t15 : (List integer_Int)) (t16 : Int) (t17 : Int)

def hensel_Reduce_go : Nat → hensel_Reduce_Cut → Option ((List integer_Int) × Int)
  | 0, _ => none
  | K + 1, .c0 f m =>
    (integer_Sign K m).bind fun x1 =>
    bif (decide (x1 = (0 : Int))) then
      some ([], (2 : Int))
    else
      gd (0 ≤ (f.length : Int) ∧ (f.length : Int) ≤ (f.length : Int) ∧ (32 : Int) * (f.length : Int) ≤ 140737488355328) <|
      hensel_Reduce_go K (.c1 m (List.replicate (f.length : Int).toNat ((integer_Int.mk false []) : integer_Int)) f (f.length : Int) (0 : Int))
  | K + 1, .c1 m r14 t15 t16 t17 =>
    bif (decide (t17 < t16)) then
      (gi t15 t17).bind fun x2 =>
      (division_Symmetric K x2 m).bind fun x4 =>
      (gi r14 t17).bind fun _ =>
      hensel_Reduce_go K (.c1 m (r14.set (t17.toNat) x4.1) t15 t16 (IntKind.i64.wrap (t17 + (1 : Int))))
    else
      (unipoly_Normal K r14).bind fun x2 =>
      some (x2, (0 : Int))

def hensel_Reduce (K : Nat) (f : (List integer_Int)) (m : integer_Int) : Option ((List integer_Int) × Int) := hensel_Reduce_go K (.c0 f m)

noncomputable def hensel_Reduce_body : Code := bodyOf prog 45
noncomputable def hensel_Reduce_pos : hensel_Reduce_Cut → List Fr
  | .c0 .. => [.code hensel_Reduce_body]
  | .c1 .. => [.code (.loop (atC hensel_Reduce_body [1,1,1,0,1,0,0])), .blk 0, .code (atC hensel_Reduce_body [1,1,1,1])]
def hensel_Reduce_st : hensel_Reduce_Cut → St
  | .c0 f m => St.init [(tl 2 f ce_integer_Int), (TV.agg (ce_integer_Int m))]
  | .c1 m r14 t15 t16 t17 => ⟨[(3, .c (C.ptr 3 0)), (6, .c (C.row 14 0 r14.length)), (15, vl 2 t15 ce_integer_Int), (16, vi .i64 t16), (17, vi .i64 t17)], [(3, .var ((ce_integer_Int m).map C.t)), (14, .row 45 2 (r14.map ce_integer_Int) 0)], []⟩

def hensel_Reduce_S (cx : Cx) (c : hensel_Reduce_Cut) (r : ((List integer_Int) × Int)) : Prop := Wk prog cx (EndsF prog 45 [[2], [0]] (TV.tup [(false, [(T.sl 2 (r.1.map ce_integer_Int))]), (false, [(T.int .i64 r.2)])])) (hensel_Reduce_pos c) .normal (hensel_Reduce_st c)
abbrev hensel_Reduce_H (K : Nat) : Prop := ∀ c r, hensel_Reduce_go K c = some r → ∀ cx : Cx, cx.n = 34 → hensel_Reduce_S cx c r

theorem hensel_Reduce_c0 {K} (ih : hensel_Reduce_H K) {cx} (hn : cx.n = 34) {f m} {r} (h : hensel_Reduce_go (K + 1) (.c0 f m) = some r) : hensel_Reduce_S cx (.c0 f m) r := by
  rw [hensel_Reduce_go] at h
  obtain ⟨x1, h2, h⟩ := obind h
  rcases bcases h with ⟨h3, h⟩ | ⟨h3, h⟩
  · skip
    have h := Option.some.inj h; subst h
    exact wk_ret (fuel := 72) [.reg [oo, oo, oo], .reg [oo, .op (.call [[0,1]] [(TV.agg (ce_integer_Int m))] (ti .i64 x1)), oo], .br true, .reg [oo, oo]] _ hn (by kernel_rfl) (aC (integer_Sign_holds h2) <| aC h3 <| aN)
  · skip
    obtain ⟨h4, h⟩ := gd_some h
    exact wk_go (fuel := 82) [.reg [oo, oo, oo], .reg [oo, .op (.call [[0,1]] [(TV.agg (ce_integer_Int m))] (ti .i64 x1)), oo], .br false, .reg [oo, .op (.ln (f.length : Int)), .op (.mk (ce_integer_Int (integer_Int.mk false [])) ((List.replicate (f.length : Int).toNat ((integer_Int.mk false []) : integer_Int)).map ce_integer_Int)), oo], .reg [oo, .op (.ln (f.length : Int)), oo], .pre [.rl 6 0 (List.replicate (f.length : Int).toNat ((integer_Int.mk false []) : integer_Int)).length, .keep [3,6,15,16,17] [3,14]]] _ hn (by kernel_rfl) (aC (integer_Sign_holds h2) <| aC h3 <| aC (ln_eq f ce_integer_Int) <| aC h4.1 <| aC h4.2.1 <| aC h4.2.2 <| aC (rep_map _ _ _ : List.replicate (f.length : Int).toNat (ce_integer_Int (integer_Int.mk false [])) = (List.replicate (f.length : Int).toNat ((integer_Int.mk false []) : integer_Int)).map ce_integer_Int) <| aC (ln_eq f ce_integer_Int) <| aC r0 <| aC (by simp : (f.length : Int).toNat = (List.replicate (f.length : Int).toNat ((integer_Int.mk false []) : integer_Int)).length) <| aN) (ih _ _ h cx hn)

theorem hensel_Reduce_c1 {K} (ih : hensel_Reduce_H K) {cx} (hn : cx.n = 34) {m r14 t15 t16 t17} {r} (h : hensel_Reduce_go (K + 1) (.c1 m r14 t15 t16 t17) = some r) : hensel_Reduce_S cx (.c1 m r14 t15 t16 t17) r := by
  rw [hensel_Reduce_go] at h
  rcases bcases h with ⟨h1, h⟩ | ⟨h1, h⟩
  · skip
    obtain ⟨x2, h3, h⟩ := obind h
    obtain ⟨x4, h5, h⟩ := obind h
    obtain ⟨x6, h7, h⟩ := obind h
    exact wk_go (fuel := 90) [.go, .reg [oo], .br true, .reg [oo, .op (.ix (ce_integer_Int x2)), oo, oo, oo, oo], .reg [oo, oo, oo, oo, .op (.call [[0,1], [0,1]] [(TV.agg (ce_integer_Int x2)), (TV.agg (ce_integer_Int m))] (TV.tup [(true, ce_integer_Int x4.1), (false, [(T.int .i64 x4.2)])])), oo, oo, oo, .op .ir, .op (.st (ce_integer_Int x6) ((r14.set (t17.toNat) x4.1).map ce_integer_Int))], .reg [oo, oo], .pre [.rl 6 0 (r14.set (t17.toNat) x4.1).length, .keep [3,6,15,16,17] [3,14]]] _ hn (by kernel_rfl) (aC h1 <| aC (gi_nn h3) <| aC (gi_at ce_integer_Int h3) <| aC (division_Symmetric_holds h5) <| aC (gi_nn h7) <| aC (gi_lt2 h7 (by simp) : t17 < ((r14.length : Nat) : Int)) <| aC (gi_row ce_integer_Int h7 : (r14.map ce_integer_Int)[(0 + t17.toNat)]? = some (ce_integer_Int x6)) <| aC (set_map _ _ x4.1 _ : (r14.map ce_integer_Int).set (0 + t17.toNat) (splice (ce_integer_Int x6) 0 [(T.bool x4.1.Neg), (T.sl 1 (x4.1.Abs.map ce_u32))]) = (r14.set (t17.toNat) x4.1).map ce_integer_Int) <| aC (Nat.zero_le _ : 0 ≤ (0 + t17.toNat)) <| aC r0 <| aC (by simp : r14.length = (r14.set (t17.toNat) x4.1).length) <| aN) (ih _ _ h cx hn)
  · skip
    obtain ⟨x2, h3, h⟩ := obind h
    have h := Option.some.inj h; subst h
    exact wk_ret (fuel := 78) [.go, .reg [oo], .br false, .reg [oo, .snap 32 (max 0 (0 + r14.length)) (r14.map ce_integer_Int), .op (.call [[2]] [(tl 2 r14 ce_integer_Int)] (tl 2 x2 ce_integer_Int)), oo, oo]] _ hn (by kernel_rfl) (aC h1 <| aC (sn_map _ _ _ (by simp) : ((r14.map ce_integer_Int).drop 0).take r14.length = r14.map ce_integer_Int) <| aC (rfl : (max 0 (0 + r14.length)) = (max 0 (0 + r14.length))) <| aC (unipoly_Normal_holds h3) <| aN)

theorem hensel_Reduce_all : ∀ K : Nat, hensel_Reduce_H K
  | 0, c, r, h => by rw [hensel_Reduce_go] at h; cases h
  | K + 1, .c0 .., r, h => fun cx hn => hensel_Reduce_c0 (hensel_Reduce_all K) hn h
  | K + 1, .c1 .., r, h => fun cx hn => hensel_Reduce_c1 (hensel_Reduce_all K) hn h

theorem hensel_Reduce_holds {K : Nat} {f : (List integer_Int)} {m : integer_Int} {r : ((List integer_Int) × Int)} (h : hensel_Reduce K f m = some r) : Holds prog 45 [(tl 2 f ce_integer_Int), (TV.agg (ce_integer_Int m))] (TV.tup [(false, [(T.sl 2 (r.1.map ce_integer_Int))]), (false, [(T.int .i64 r.2)])]) :=
  holds_wk [[2], [0]] (by kernel_rfl) (by simp) fun cx hn => hensel_Reduce_all K (.c0 f m) r h cx hn
end Go.Am.X
namespace Go.Am.X
open Go.Proofs.Try (prog)


inductive unipoly_Mul_Cut where
  | c0 (f : (List integer_Int)) (g : (List integer_Int))
  | c1 (r28 : (List integer_Int)) (g : (List integer_Int)) (t29 : (List integer_Int)) (t30 : Int) (t31 : Int)
  | c2 (r28 : (List integer_Int)) (g : (List integer_Int)) (t29 : (List integer_Int)) (t30 : Int) (t31 : Int)
  | c3 (a : integer_Int) (r28 : (List integer_Int)) (g : (List integer_Int)) (i : Int) (t29 : (List integer_Int)) (t30 : Int) (t31 : Int) (t39 : (List integer_Int)) (t40 : Int) (t41 : Int)

def unipoly_Mul_go : Nat → unipoly_Mul_Cut → Option (List integer_Int)
  | 0, _ => none
  | K + 1, .c0 f g =>
    (unipoly_trim K f).bind fun x1 =>
    (unipoly_trim K g).bind fun x3 =>
    bif (decide ((x1.length : Int) = (0 : Int))) then
      some []
    else
      bif (decide ((x3.length : Int) = (0 : Int))) then
        some []
      else
        gd (0 ≤ (IntKind.i64.wrap ((IntKind.i64.wrap ((x1.length : Int) + (x3.length : Int))) - (1 : Int))) ∧ (IntKind.i64.wrap ((IntKind.i64.wrap ((x1.length : Int) + (x3.length : Int))) - (1 : Int))) ≤ (IntKind.i64.wrap ((IntKind.i64.wrap ((x1.length : Int) + (x3.length : Int))) - (1 : Int))) ∧ (32 : Int) * (IntKind.i64.wrap ((IntKind.i64.wrap ((x1.length : Int) + (x3.length : Int))) - (1 : Int))) ≤ 140737488355328) <|
        unipoly_Mul_go K (.c1 (List.replicate (IntKind.i64.wrap ((IntKind.i64.wrap ((x1.length : Int) + (x3.length : Int))) - (1 : Int))).toNat ((integer_Int.mk false []) : integer_Int)) x3 x1 (x1.length : Int) (0 : Int))
  | K + 1, .c1 r28 g t29 t30 t31 =>
    bif (decide (t31 < t30)) then
      (gi t29 t31).bind fun x2 =>
      (integer_Sign K x2).bind fun x4 =>
      bif (decide (x4 = (0 : Int))) then
        unipoly_Mul_go K (.c2 r28 g t29 t30 t31)
      else
        unipoly_Mul_go K (.c3 x2 r28 g t31 t29 t30 t31 g (g.length : Int) (0 : Int))
    else
      (unipoly_trim K r28).bind fun x2 =>
      some x2
  | K + 1, .c2 r28 g t29 t30 t31 =>
    unipoly_Mul_go K (.c1 r28 g t29 t30 (IntKind.i64.wrap (t31 + (1 : Int))))
  | K + 1, .c3 a r28 g i t29 t30 t31 t39 t40 t41 =>
    bif (decide (t41 < t40)) then
      (gi t39 t41).bind fun x2 =>
      (gi r28 (IntKind.i64.wrap (i + t41))).bind fun x4 =>
      (integer_Mul K a x2).bind fun x6 =>
      (integer_Add K x4 x6).bind fun x8 =>
      (gi r28 (IntKind.i64.wrap (i + t41))).bind fun _ =>
      unipoly_Mul_go K (.c3 a (r28.set ((IntKind.i64.wrap (i + t41)).toNat) x8) g i t29 t30 t31 t39 t40 (IntKind.i64.wrap (t41 + (1 : Int))))
    else
      unipoly_Mul_go K (.c2 r28 g t29 t30 t31)

def unipoly_Mul (K : Nat) (f : (List integer_Int)) (g : (List integer_Int)) : Option (List integer_Int) := unipoly_Mul_go K (.c0 f g)

noncomputable def unipoly_Mul_body : Code := bodyOf prog 50
noncomputable def unipoly_Mul_pos : unipoly_Mul_Cut → List Fr
  | .c0 .. => [.code unipoly_Mul_body]
  | .c1 .. => [.code (.loop (atC unipoly_Mul_body [1,1,1,1,0,1,0,0])), .blk 0, .code (atC unipoly_Mul_body [1,1,1,1,1])]
  | .c2 .. => [.code (atC unipoly_Mul_body [1,1,1,1,0,1,0,0,1,1,1]), .lp (atC unipoly_Mul_body [1,1,1,1,0,1,0,0]), .blk 0, .code (atC unipoly_Mul_body [1,1,1,1,1])]
  | .c3 .. => [.code (.loop (atC unipoly_Mul_body [1,1,1,1,0,1,0,0,1,1,0,0,1,1,1,0,0])), .blk 2, .blk 1, .code (atC unipoly_Mul_body [1,1,1,1,0,1,0,0,1,1,1]), .lp (atC unipoly_Mul_body [1,1,1,1,0,1,0,0]), .blk 0, .code (atC unipoly_Mul_body [1,1,1,1,1])]
def unipoly_Mul_st : unipoly_Mul_Cut → St
  | .c0 f g => St.init [(tl 2 f ce_integer_Int), (tl 2 g ce_integer_Int)]
  | .c1 r28 g t29 t30 t31 => ⟨[(1, vl 2 g ce_integer_Int), (5, .c (C.row 28 0 r28.length)), (29, vl 2 t29 ce_integer_Int), (30, vi .i64 t30), (31, vi .i64 t31)], [(28, .row 45 2 (r28.map ce_integer_Int) 0)], []⟩
  | .c2 r28 g t29 t30 t31 => ⟨[(1, vl 2 g ce_integer_Int), (5, .c (C.row 28 0 r28.length)), (29, vl 2 t29 ce_integer_Int), (30, vi .i64 t30), (31, vi .i64 t31)], [(28, .row 45 2 (r28.map ce_integer_Int) 0)], []⟩
  | .c3 a r28 g i t29 t30 t31 t39 t40 t41 => ⟨[(1, vl 2 g ce_integer_Int), (5, .c (C.row 28 0 r28.length)), (6, vi .i64 i), (7, .c (C.ptr 7 0)), (29, vl 2 t29 ce_integer_Int), (30, vi .i64 t30), (31, vi .i64 t31), (39, vl 2 t39 ce_integer_Int), (40, vi .i64 t40), (41, vi .i64 t41)], [(7, .var ((ce_integer_Int a).map C.t)), (28, .row 45 2 (r28.map ce_integer_Int) 0)], []⟩

def unipoly_Mul_S (cx : Cx) (c : unipoly_Mul_Cut) (r : (List integer_Int)) : Prop := Wk prog cx (EndsF prog 50 [[2]] (tl 2 r ce_integer_Int)) (unipoly_Mul_pos c) .normal (unipoly_Mul_st c)
abbrev unipoly_Mul_H (K : Nat) : Prop := ∀ c r, unipoly_Mul_go K c = some r → ∀ cx : Cx, cx.n = 65 → unipoly_Mul_S cx c r

theorem unipoly_Mul_c0 {K} (ih : unipoly_Mul_H K) {cx} (hn : cx.n = 65) {f g} {r} (h : unipoly_Mul_go (K + 1) (.c0 f g) = some r) : unipoly_Mul_S cx (.c0 f g) r := by
  rw [unipoly_Mul_go] at h
  obtain ⟨x1, h2, h⟩ := obind h
  obtain ⟨x3, h4, h⟩ := obind h
  rcases bcases h with ⟨h5, h⟩ | ⟨h5, h⟩
  · skip
    have h := Option.some.inj h; subst h
    exact wk_ret (fuel := 80) [.reg [oo], .reg [oo, .op (.call [[2]] [(tl 2 f ce_integer_Int)] (tl 2 x1 ce_integer_Int)), oo, .op (.call [[2]] [(tl 2 g ce_integer_Int)] (tl 2 x3 ce_integer_Int)), oo, oo], .reg [oo, .op (.ln (x1.length : Int)), oo, oo, .sb 17 true, oo, oo, oo, oo], .br true, .reg [oo]] _ hn (by kernel_rfl) (aC (unipoly_trim_holds h2) <| aC (unipoly_trim_holds h4) <| aC (ln_eq x1 ce_integer_Int) <| aC h5 <| aC rt <| aN)
  · skip
    rcases bcases h with ⟨h6, h⟩ | ⟨h6, h⟩
    · skip
      have h := Option.some.inj h; subst h
      exact wk_ret (fuel := 80) [.reg [oo], .reg [oo, .op (.call [[2]] [(tl 2 f ce_integer_Int)] (tl 2 x1 ce_integer_Int)), oo, .op (.call [[2]] [(tl 2 g ce_integer_Int)] (tl 2 x3 ce_integer_Int)), oo, oo], .reg [oo, .op (.ln (x1.length : Int)), oo, oo, .sb 17 false, oo, .op (.ln (x3.length : Int)), oo, oo], .br true, .reg [oo]] _ hn (by kernel_rfl) (aC (unipoly_trim_holds h2) <| aC (unipoly_trim_holds h4) <| aC (ln_eq x1 ce_integer_Int) <| aC h5 <| aC (ln_eq x3 ce_integer_Int) <| aC h6 <| aN)
    · skip
      obtain ⟨h7, h⟩ := gd_some h
      exact wk_go (fuel := 90) [.reg [oo], .reg [oo, .op (.call [[2]] [(tl 2 f ce_integer_Int)] (tl 2 x1 ce_integer_Int)), oo, .op (.call [[2]] [(tl 2 g ce_integer_Int)] (tl 2 x3 ce_integer_Int)), oo, oo], .reg [oo, .op (.ln (x1.length : Int)), oo, oo, .sb 17 false, oo, .op (.ln (x3.length : Int)), oo, oo], .br false, .reg [oo, .op (.ln (x1.length : Int)), oo, .op (.ln (x3.length : Int)), oo, oo, .op (.mk (ce_integer_Int (integer_Int.mk false [])) ((List.replicate (IntKind.i64.wrap ((IntKind.i64.wrap ((x1.length : Int) + (x3.length : Int))) - (1 : Int))).toNat ((integer_Int.mk false []) : integer_Int)).map ce_integer_Int)), oo], .reg [oo, .op (.ln (x1.length : Int)), oo], .pre [.rl 5 0 (List.replicate (IntKind.i64.wrap ((IntKind.i64.wrap ((x1.length : Int) + (x3.length : Int))) - (1 : Int))).toNat ((integer_Int.mk false []) : integer_Int)).length, .keep [1,5,29,30,31] [28]]] _ hn (by kernel_rfl) (aC (unipoly_trim_holds h2) <| aC (unipoly_trim_holds h4) <| aC (ln_eq x1 ce_integer_Int) <| aC h5 <| aC (ln_eq x3 ce_integer_Int) <| aC h6 <| aC (ln_eq x1 ce_integer_Int) <| aC (ln_eq x3 ce_integer_Int) <| aC h7.1 <| aC h7.2.1 <| aC h7.2.2 <| aC (rep_map _ _ _ : List.replicate (IntKind.i64.wrap ((IntKind.i64.wrap ((x1.length : Int) + (x3.length : Int))) - (1 : Int))).toNat (ce_integer_Int (integer_Int.mk false [])) = (List.replicate (IntKind.i64.wrap ((IntKind.i64.wrap ((x1.length : Int) + (x3.length : Int))) - (1 : Int))).toNat ((integer_Int.mk false []) : integer_Int)).map ce_integer_Int) <| aC (ln_eq x1 ce_integer_Int) <| aC r0 <| aC (by simp : (IntKind.i64.wrap ((IntKind.i64.wrap ((x1.length : Int) + (x3.length : Int))) - (1 : Int))).toNat = (List.replicate (IntKind.i64.wrap ((IntKind.i64.wrap ((x1.length : Int) + (x3.length : Int))) - (1 : Int))).toNat ((integer_Int.mk false []) : integer_Int)).length) <| aN) (ih _ _ h cx hn)

theorem unipoly_Mul_c1 {K} (ih : unipoly_Mul_H K) {cx} (hn : cx.n = 65) {r28 g t29 t30 t31} {r} (h : unipoly_Mul_go (K + 1) (.c1 r28 g t29 t30 t31) = some r) : unipoly_Mul_S cx (.c1 r28 g t29 t30 t31) r := by
  rw [unipoly_Mul_go] at h
  rcases bcases h with ⟨h1, h⟩ | ⟨h1, h⟩
  · skip
    obtain ⟨x2, h3, h⟩ := obind h
    obtain ⟨x4, h5, h⟩ := obind h
    rcases bcases h with ⟨h6, h⟩ | ⟨h6, h⟩
    · skip
      exact wk_go (fuel := 96) [.go, .reg [oo], .br true, .reg [oo, .op (.ix (ce_integer_Int x2)), oo, oo, oo, oo], .reg [oo, .op (.call [[0,1]] [(TV.agg (ce_integer_Int x2))] (ti .i64 x4)), oo], .br true, .pre [.rl 5 0 r28.length, .keep [1,5,29,30,31] [28]]] _ hn (by kernel_rfl) (aC h1 <| aC (gi_nn h3) <| aC (gi_at ce_integer_Int h3) <| aC (integer_Sign_holds h5) <| aC h6 <| aC r0 <| aC (lq r28) <| aN) (ih _ _ h cx hn)
    · skip
      exact wk_go (fuel := 102) [.go, .reg [oo], .br true, .reg [oo, .op (.ix (ce_integer_Int x2)), oo, oo, oo, oo], .reg [oo, .op (.call [[0,1]] [(TV.agg (ce_integer_Int x2))] (ti .i64 x4)), oo], .br false, .reg [oo, .op (.ln (g.length : Int)), oo], .pre [.rl 5 0 r28.length, .keep [1,5,6,7,29,30,31,39,40,41] [7,28]]] _ hn (by kernel_rfl) (aC h1 <| aC (gi_nn h3) <| aC (gi_at ce_integer_Int h3) <| aC (integer_Sign_holds h5) <| aC h6 <| aC (ln_eq g ce_integer_Int) <| aC r0 <| aC (lq r28) <| aN) (ih _ _ h cx hn)
  · skip
    obtain ⟨x2, h3, h⟩ := obind h
    have h := Option.some.inj h; subst h
    exact wk_ret (fuel := 78) [.go, .reg [oo], .br false, .reg [oo, .snap 63 (max 0 (0 + r28.length)) (r28.map ce_integer_Int), .op (.call [[2]] [(tl 2 r28 ce_integer_Int)] (tl 2 x2 ce_integer_Int)), oo]] _ hn (by kernel_rfl) (aC h1 <| aC (sn_map _ _ _ (by simp) : ((r28.map ce_integer_Int).drop 0).take r28.length = r28.map ce_integer_Int) <| aC (rfl : (max 0 (0 + r28.length)) = (max 0 (0 + r28.length))) <| aC (unipoly_trim_holds h3) <| aN)

theorem unipoly_Mul_c2 {K} (ih : unipoly_Mul_H K) {cx} (hn : cx.n = 65) {r28 g t29 t30 t31} {r} (h : unipoly_Mul_go (K + 1) (.c2 r28 g t29 t30 t31) = some r) : unipoly_Mul_S cx (.c2 r28 g t29 t30 t31) r := by
  rw [unipoly_Mul_go] at h
  exact wk_go (fuel := 44) [.reg [oo, oo], .pre [.rl 5 0 r28.length, .keep [1,5,29,30,31] [28]]] _ hn (by kernel_rfl) (aC r0 <| aC (lq r28) <| aN) (ih _ _ h cx hn)

theorem unipoly_Mul_c3 {K} (ih : unipoly_Mul_H K) {cx} (hn : cx.n = 65) {a r28 g i t29 t30 t31 t39 t40 t41} {r} (h : unipoly_Mul_go (K + 1) (.c3 a r28 g i t29 t30 t31 t39 t40 t41) = some r) : unipoly_Mul_S cx (.c3 a r28 g i t29 t30 t31 t39 t40 t41) r := by
  rw [unipoly_Mul_go] at h
  rcases bcases h with ⟨h1, h⟩ | ⟨h1, h⟩
  · skip
    obtain ⟨x2, h3, h⟩ := obind h
    obtain ⟨x4, h5, h⟩ := obind h
    obtain ⟨x6, h7, h⟩ := obind h
    obtain ⟨x8, h9, h⟩ := obind h
    obtain ⟨x10, h11, h⟩ := obind h
    exact wk_go (fuel := 90) [.go, .reg [oo], .br true, .reg [oo, .op (.ix (ce_integer_Int x2)), oo, oo, oo, oo], .draw [.p, .p, .p, .p, .p, .p, .p, .p, .ir, (.ld (ce_integer_Int x4)), .p, .p, (.call [[0,1], [0,1]] [(TV.agg (ce_integer_Int a)), (TV.agg (ce_integer_Int x2))] (TV.agg (ce_integer_Int x6))), (.call [[0,1], [0,1]] [(TV.agg (ce_integer_Int x4)), (TV.agg (ce_integer_Int x6))] (TV.agg (ce_integer_Int x8)))] [.op .ir, .op (.st (ce_integer_Int x10) ((r28.set ((IntKind.i64.wrap (i + t41)).toNat) x8).map ce_integer_Int))], .reg [oo, oo], .pre [.rl 5 0 (r28.set ((IntKind.i64.wrap (i + t41)).toNat) x8).length, .keep [1,5,6,7,29,30,31,39,40,41] [7,28]]] _ hn (by kernel_rfl) (aC h1 <| aC (gi_nn h3) <| aC (gi_at ce_integer_Int h3) <| aC (gi_nn h5) <| aC (gi_lt2 h5 (by simp) : (IntKind.i64.wrap (i + t41)) < ((r28.length : Nat) : Int)) <| aC (gi_row ce_integer_Int h5 : (r28.map ce_integer_Int)[(0 + (IntKind.i64.wrap (i + t41)).toNat)]? = some (ce_integer_Int x4)) <| aC (integer_Mul_holds h7) <| aC (integer_Add_holds h9) <| aC (gi_nn h11) <| aC (gi_lt2 h11 (by simp) : (IntKind.i64.wrap (i + t41)) < ((r28.length : Nat) : Int)) <| aC (gi_row ce_integer_Int h11 : (r28.map ce_integer_Int)[(0 + (IntKind.i64.wrap (i + t41)).toNat)]? = some (ce_integer_Int x10)) <| aC (set_map _ _ x8 _ : (r28.map ce_integer_Int).set (0 + (IntKind.i64.wrap (i + t41)).toNat) (splice (ce_integer_Int x10) 0 [(T.bool x8.Neg), (T.sl 1 (x8.Abs.map ce_u32))]) = (r28.set ((IntKind.i64.wrap (i + t41)).toNat) x8).map ce_integer_Int) <| aC (Nat.zero_le _ : 0 ≤ (0 + (IntKind.i64.wrap (i + t41)).toNat)) <| aC r0 <| aC (by simp : r28.length = (r28.set ((IntKind.i64.wrap (i + t41)).toNat) x8).length) <| aN) (ih _ _ h cx hn)
  · skip
    exact wk_go (fuel := 70) [.go, .reg [oo], .br false, .pre [.rl 5 0 r28.length, .keep [1,5,29,30,31] [28]]] _ hn (by kernel_rfl) (aC h1 <| aC r0 <| aC (lq r28) <| aN) (ih _ _ h cx hn)

theorem unipoly_Mul_all : ∀ K : Nat, unipoly_Mul_H K
  | 0, c, r, h => by rw [unipoly_Mul_go] at h; cases h
  | K + 1, .c0 .., r, h => fun cx hn => unipoly_Mul_c0 (unipoly_Mul_all K) hn h
  | K + 1, .c1 .., r, h => fun cx hn => unipoly_Mul_c1 (unipoly_Mul_all K) hn h
  | K + 1, .c2 .., r, h => fun cx hn => unipoly_Mul_c2 (unipoly_Mul_all K) hn h
  | K + 1, .c3 .., r, h => fun cx hn => unipoly_Mul_c3 (unipoly_Mul_all K) hn h

theorem unipoly_Mul_holds {K : Nat} {f : (List integer_Int)} {g : (List integer_Int)} {r : (List integer_Int)} (h : unipoly_Mul K f g = some r) : Holds prog 50 [(tl 2 f ce_integer_Int), (tl 2 g ce_integer_Int)] (tl 2 r ce_integer_Int) :=
  holds_wk [[2]] (by kernel_rfl) (by simp) fun cx hn => unipoly_Mul_all K (.c0 f g) r h cx hn
end Go.Am.X
namespace Go.Am.X
open Go.Proofs.Try (prog)


inductive unipoly_Of_Cut where
  | c0 (coefs : (List Int))
  | c1 (r8 : (List integer_Int)) (t9 : (List Int)) (t10 : Int) (t11 : Int)

def unipoly_Of_go : Nat → unipoly_Of_Cut → Option (List integer_Int)
  | 0, _ => none
  | K + 1, .c0 coefs =>
    gd (0 ≤ (coefs.length : Int) ∧ (coefs.length : Int) ≤ (coefs.length : Int) ∧ (32 : Int) * (coefs.length : Int) ≤ 140737488355328) <|
    unipoly_Of_go K (.c1 (List.replicate (coefs.length : Int).toNat ((integer_Int.mk false []) : integer_Int)) coefs (coefs.length : Int) (0 : Int))
  | K + 1, .c1 r8 t9 t10 t11 =>
    bif (decide (t11 < t10)) then
      (gi t9 t11).bind fun x2 =>
      (integer_Of K x2).bind fun x4 =>
      (gi r8 t11).bind fun _ =>
      unipoly_Of_go K (.c1 (r8.set (t11.toNat) x4) t9 t10 (IntKind.i64.wrap (t11 + (1 : Int))))
    else
      (unipoly_trim K r8).bind fun x2 =>
      some x2

def unipoly_Of (K : Nat) (coefs : (List Int)) : Option (List integer_Int) := unipoly_Of_go K (.c0 coefs)

noncomputable def unipoly_Of_body : Code := bodyOf prog 51
noncomputable def unipoly_Of_pos : unipoly_Of_Cut → List Fr
  | .c0 .. => [.code unipoly_Of_body]
  | .c1 .. => [.code (.loop (atC unipoly_Of_body [1,1,0,1,0,0])), .blk 0, .code (atC unipoly_Of_body [1,1,1])]
def unipoly_Of_st : unipoly_Of_Cut → St
  | .c0 coefs => St.init [(tl 1 coefs ce_i64)]
  | .c1 r8 t9 t10 t11 => ⟨[(3, .c (C.row 8 0 r8.length)), (9, vl 1 t9 ce_i64), (10, vi .i64 t10), (11, vi .i64 t11)], [(8, .row 45 2 (r8.map ce_integer_Int) 0)], []⟩

def unipoly_Of_S (cx : Cx) (c : unipoly_Of_Cut) (r : (List integer_Int)) : Prop := Wk prog cx (EndsF prog 51 [[2]] (tl 2 r ce_integer_Int)) (unipoly_Of_pos c) .normal (unipoly_Of_st c)
abbrev unipoly_Of_H (K : Nat) : Prop := ∀ c r, unipoly_Of_go K c = some r → ∀ cx : Cx, cx.n = 24 → unipoly_Of_S cx c r

theorem unipoly_Of_c0 {K} (ih : unipoly_Of_H K) {cx} (hn : cx.n = 24) {coefs} {r} (h : unipoly_Of_go (K + 1) (.c0 coefs) = some r) : unipoly_Of_S cx (.c0 coefs) r := by
  rw [unipoly_Of_go] at h
  obtain ⟨h1, h⟩ := gd_some h
  exact wk_go (fuel := 64) [.reg [oo], .reg [oo, .op (.ln (coefs.length : Int)), .op (.mk (ce_integer_Int (integer_Int.mk false [])) ((List.replicate (coefs.length : Int).toNat ((integer_Int.mk false []) : integer_Int)).map ce_integer_Int)), oo], .reg [oo, .op (.ln (coefs.length : Int)), oo], .pre [.rl 3 0 (List.replicate (coefs.length : Int).toNat ((integer_Int.mk false []) : integer_Int)).length, .keep [3,9,10,11] [8]]] _ hn (by kernel_rfl) (aC (ln_eq coefs ce_i64) <| aC h1.1 <| aC h1.2.1 <| aC h1.2.2 <| aC (rep_map _ _ _ : List.replicate (coefs.length : Int).toNat (ce_integer_Int (integer_Int.mk false [])) = (List.replicate (coefs.length : Int).toNat ((integer_Int.mk false []) : integer_Int)).map ce_integer_Int) <| aC (ln_eq coefs ce_i64) <| aC r0 <| aC (by simp : (coefs.length : Int).toNat = (List.replicate (coefs.length : Int).toNat ((integer_Int.mk false []) : integer_Int)).length) <| aN) (ih _ _ h cx hn)

theorem unipoly_Of_c1 {K} (ih : unipoly_Of_H K) {cx} (hn : cx.n = 24) {r8 t9 t10 t11} {r} (h : unipoly_Of_go (K + 1) (.c1 r8 t9 t10 t11) = some r) : unipoly_Of_S cx (.c1 r8 t9 t10 t11) r := by
  rw [unipoly_Of_go] at h
  rcases bcases h with ⟨h1, h⟩ | ⟨h1, h⟩
  · skip
    obtain ⟨x2, h3, h⟩ := obind h
    obtain ⟨x4, h5, h⟩ := obind h
    obtain ⟨x6, h7, h⟩ := obind h
    exact wk_go (fuel := 90) [.go, .reg [oo], .br true, .reg [oo, .op (.ix (ce_i64 x2)), oo, oo, oo], .reg [oo, oo, oo, .op (.call [[0]] [(ti .i64 x2)] (TV.agg (ce_integer_Int x4))), .op .ir, .op (.st (ce_integer_Int x6) ((r8.set (t11.toNat) x4).map ce_integer_Int))], .reg [oo, oo], .pre [.rl 3 0 (r8.set (t11.toNat) x4).length, .keep [3,9,10,11] [8]]] _ hn (by kernel_rfl) (aC h1 <| aC (gi_nn h3) <| aC (gi_at ce_i64 h3) <| aC (integer_Of_holds h5) <| aC (gi_nn h7) <| aC (gi_lt2 h7 (by simp) : t11 < ((r8.length : Nat) : Int)) <| aC (gi_row ce_integer_Int h7 : (r8.map ce_integer_Int)[(0 + t11.toNat)]? = some (ce_integer_Int x6)) <| aC (set_map _ _ x4 _ : (r8.map ce_integer_Int).set (0 + t11.toNat) (splice (ce_integer_Int x6) 0 [(T.bool x4.Neg), (T.sl 1 (x4.Abs.map ce_u32))]) = (r8.set (t11.toNat) x4).map ce_integer_Int) <| aC (Nat.zero_le _ : 0 ≤ (0 + t11.toNat)) <| aC r0 <| aC (by simp : r8.length = (r8.set (t11.toNat) x4).length) <| aN) (ih _ _ h cx hn)
  · skip
    obtain ⟨x2, h3, h⟩ := obind h
    have h := Option.some.inj h; subst h
    exact wk_ret (fuel := 78) [.go, .reg [oo], .br false, .reg [oo, .snap 22 (max 0 (0 + r8.length)) (r8.map ce_integer_Int), .op (.call [[2]] [(tl 2 r8 ce_integer_Int)] (tl 2 x2 ce_integer_Int)), oo]] _ hn (by kernel_rfl) (aC h1 <| aC (sn_map _ _ _ (by simp) : ((r8.map ce_integer_Int).drop 0).take r8.length = r8.map ce_integer_Int) <| aC (rfl : (max 0 (0 + r8.length)) = (max 0 (0 + r8.length))) <| aC (unipoly_trim_holds h3) <| aN)

theorem unipoly_Of_all : ∀ K : Nat, unipoly_Of_H K
  | 0, c, r, h => by rw [unipoly_Of_go] at h; cases h
  | K + 1, .c0 .., r, h => fun cx hn => unipoly_Of_c0 (unipoly_Of_all K) hn h
  | K + 1, .c1 .., r, h => fun cx hn => unipoly_Of_c1 (unipoly_Of_all K) hn h

theorem unipoly_Of_holds {K : Nat} {coefs : (List Int)} {r : (List integer_Int)} (h : unipoly_Of K coefs = some r) : Holds prog 51 [(tl 1 coefs ce_i64)] (tl 2 r ce_integer_Int) :=
  holds_wk [[2]] (by kernel_rfl) (by simp) fun cx hn => unipoly_Of_all K (.c0 coefs) r h cx hn
end Go.Am.X
namespace Go.Am.X
open Go.Proofs.Try (prog)


inductive hensel_Product_Cut where
  | c0 (list : (List (List integer_Int))) (m : integer_Int)
  | c1 (m : integer_Int) (out : (List integer_Int)) (e_v : Int) (t17 : (List (List integer_Int))) (t18 : Int) (t19 : Int)
  | c2 (m : integer_Int) (out : (List integer_Int)) (e_v : Int) (t17 : (List (List integer_Int))) (t18 : Int) (t19 : Int)

def hensel_Product_go : Nat → hensel_Product_Cut → Option ((List integer_Int) × Int)
  | 0, _ => none
  | K + 1, .c0 list m =>
    (unipoly_Of K ([(1 : Int)] : List Int)).bind fun x1 =>
    (hensel_Reduce K x1 m).bind fun x3 =>
    hensel_Product_go K (.c1 m x3.1 x3.2 list (list.length : Int) (0 : Int))
  | K + 1, .c1 m out e_v t17 t18 t19 =>
    bif (decide (t19 < t18)) then
      (gi t17 t19).bind fun x2 =>
      bif (decide (e_v = (0 : Int))) then
        (unipoly_Mul K out x2).bind fun x5 =>
        (hensel_Reduce K x5 m).bind fun x7 =>
        hensel_Product_go K (.c2 m x7.1 x7.2 t17 t18 t19)
      else
        hensel_Product_go K (.c2 m out e_v t17 t18 t19)
    else
      some (out, e_v)
  | K + 1, .c2 m out e_v t17 t18 t19 =>
    hensel_Product_go K (.c1 m out e_v t17 t18 (IntKind.i64.wrap (t19 + (1 : Int))))

def hensel_Product (K : Nat) (list : (List (List integer_Int))) (m : integer_Int) : Option ((List integer_Int) × Int) := hensel_Product_go K (.c0 list m)

noncomputable def hensel_Product_body : Code := bodyOf prog 46
noncomputable def hensel_Product_pos : hensel_Product_Cut → List Fr
  | .c0 .. => [.code hensel_Product_body]
  | .c1 .. => [.code (.loop (atC hensel_Product_body [1,1,0,1,0,0])), .blk 0, .code (atC hensel_Product_body [1,1,1])]
  | .c2 .. => [.code (atC hensel_Product_body [1,1,0,1,0,0,1,1,1]), .lp (atC hensel_Product_body [1,1,0,1,0,0]), .blk 0, .code (atC hensel_Product_body [1,1,1])]
def hensel_Product_st : hensel_Product_Cut → St
  | .c0 list m => St.init [(tl 1 list ce_Linteger_Int), (TV.agg (ce_integer_Int m))]
  | .c1 m out e_v t17 t18 t19 => ⟨[(3, .c (C.ptr 3 0)), (6, vl 2 out ce_integer_Int), (7, vi .i64 e_v), (17, vl 1 t17 ce_Linteger_Int), (18, vi .i64 t18), (19, vi .i64 t19)], [(3, .var ((ce_integer_Int m).map C.t))], []⟩
  | .c2 m out e_v t17 t18 t19 => ⟨[(3, .c (C.ptr 3 0)), (6, vl 2 out ce_integer_Int), (7, vi .i64 e_v), (17, vl 1 t17 ce_Linteger_Int), (18, vi .i64 t18), (19, vi .i64 t19)], [(3, .var ((ce_integer_Int m).map C.t))], []⟩

def hensel_Product_S (cx : Cx) (c : hensel_Product_Cut) (r : ((List integer_Int) × Int)) : Prop := Wk prog cx (EndsF prog 46 [[2], [0]] (TV.tup [(false, [(T.sl 2 (r.1.map ce_integer_Int))]), (false, [(T.int .i64 r.2)])])) (hensel_Product_pos c) .normal (hensel_Product_st c)
abbrev hensel_Product_H (K : Nat) : Prop := ∀ c r, hensel_Product_go K c = some r → ∀ cx : Cx, cx.n = 36 → hensel_Product_S cx c r

theorem hensel_Product_c0 {K} (ih : hensel_Product_H K) {cx} (hn : cx.n = 36) {list m} {r} (h : hensel_Product_go (K + 1) (.c0 list m) = some r) : hensel_Product_S cx (.c0 list m) r := by
  rw [hensel_Product_go] at h
  obtain ⟨x1, h2, h⟩ := obind h
  obtain ⟨x3, h4, h⟩ := obind h
  exact wk_go (fuel := 64) [.reg [oo, oo, oo], .draw [(.litT (([(1 : Int)] : List Int).map ce_i64)), (.call [[1]] [(TV.c (T.sl 1 (([(1 : Int)] : List Int).map ce_i64)))] (tl 2 x1 ce_integer_Int)), .p, (.call [[2], [0,1]] [(tl 2 x1 ce_integer_Int), (TV.agg (ce_integer_Int m))] (TV.tup [(false, [(T.sl 2 (x3.1.map ce_integer_Int))]), (false, [(T.int .i64 x3.2)])])), .p, .p, .p, .p] [.op .p], .reg [oo, .op (.ln (list.length : Int)), oo], .pre [.keep [3,6,7,17,18,19] [3]]] _ hn (by kernel_rfl) (aC (by kernel_rfl : [(T.int .i64 (1 : Int))] = (([(1 : Int)] : List Int).map ce_i64).flatten) <| aC (unipoly_Of_holds h2) <| aC (hensel_Reduce_holds h4) <| aC (ln_eq list ce_Linteger_Int) <| aN) (ih _ _ h cx hn)

theorem hensel_Product_c1 {K} (ih : hensel_Product_H K) {cx} (hn : cx.n = 36) {m out e_v t17 t18 t19} {r} (h : hensel_Product_go (K + 1) (.c1 m out e_v t17 t18 t19) = some r) : hensel_Product_S cx (.c1 m out e_v t17 t18 t19) r := by
  rw [hensel_Product_go] at h
  rcases bcases h with ⟨h1, h⟩ | ⟨h1, h⟩
  · skip
    obtain ⟨x2, h3, h⟩ := obind h
    rcases bcases h with ⟨h4, h⟩ | ⟨h4, h⟩
    · skip
      obtain ⟨x5, h6, h⟩ := obind h
      obtain ⟨x7, h8, h⟩ := obind h
      exact wk_go (fuel := 96) [.go, .reg [oo], .br true, .reg [.op (.ix (ce_Linteger_Int x2)), oo, oo], .reg [oo, oo], .br true, .draw [.p, .p, (.call [[2], [2]] [(tl 2 out ce_integer_Int), (tl 2 x2 ce_integer_Int)] (tl 2 x5 ce_integer_Int)), .p, (.call [[2], [0,1]] [(tl 2 x5 ce_integer_Int), (TV.agg (ce_integer_Int m))] (TV.tup [(false, [(T.sl 2 (x7.1.map ce_integer_Int))]), (false, [(T.int .i64 x7.2)])])), .p, .p, .p, .p] [.op .p], .pre [.keep [3,6,7,17,18,19] [3]]] _ hn (by kernel_rfl) (aC h1 <| aC (gi_nn h3) <| aC (gi_at ce_Linteger_Int h3) <| aC h4 <| aC (unipoly_Mul_holds h6) <| aC (hensel_Reduce_holds h8) <| aN) (ih _ _ h cx hn)
    · skip
      exact wk_go (fuel := 92) [.go, .reg [oo], .br true, .reg [.op (.ix (ce_Linteger_Int x2)), oo, oo], .reg [oo, oo], .br false, .pre [.keep [3,6,7,17,18,19] [3]]] _ hn (by kernel_rfl) (aC h1 <| aC (gi_nn h3) <| aC (gi_at ce_Linteger_Int h3) <| aC h4 <| aN) (ih _ _ h cx hn)
  · skip
    have h := Option.some.inj h; subst h
    exact wk_ret (fuel := 78) [.go, .reg [oo], .br false, .reg [oo, oo, oo, oo]] _ hn (by kernel_rfl) (aC h1 <| aN)

theorem hensel_Product_c2 {K} (ih : hensel_Product_H K) {cx} (hn : cx.n = 36) {m out e_v t17 t18 t19} {r} (h : hensel_Product_go (K + 1) (.c2 m out e_v t17 t18 t19) = some r) : hensel_Product_S cx (.c2 m out e_v t17 t18 t19) r := by
  rw [hensel_Product_go] at h
  exact wk_go (fuel := 44) [.reg [oo, oo], .pre [.keep [3,6,7,17,18,19] [3]]] _ hn (by kernel_rfl) aN (ih _ _ h cx hn)

theorem hensel_Product_all : ∀ K : Nat, hensel_Product_H K
  | 0, c, r, h => by rw [hensel_Product_go] at h; cases h
  | K + 1, .c0 .., r, h => fun cx hn => hensel_Product_c0 (hensel_Product_all K) hn h
  | K + 1, .c1 .., r, h => fun cx hn => hensel_Product_c1 (hensel_Product_all K) hn h
  | K + 1, .c2 .., r, h => fun cx hn => hensel_Product_c2 (hensel_Product_all K) hn h

theorem hensel_Product_holds {K : Nat} {list : (List (List integer_Int))} {m : integer_Int} {r : ((List integer_Int) × Int)} (h : hensel_Product K list m = some r) : Holds prog 46 [(tl 1 list ce_Linteger_Int), (TV.agg (ce_integer_Int m))] (TV.tup [(false, [(T.sl 2 (r.1.map ce_integer_Int))]), (false, [(T.int .i64 r.2)])]) :=
  holds_wk [[2], [0]] (by kernel_rfl) (by simp) fun cx hn => hensel_Product_all K (.c0 list m) r h cx hn
end Go.Am.X
namespace Go.Am.X
open Go.Proofs.Try (prog)


inductive slices_Clip__modpoly_Poly_uint32_Cut where
  | c0 (s : (List Int))

def slices_Clip__modpoly_Poly_uint32_go : Nat → slices_Clip__modpoly_Poly_uint32_Cut → Option (List Int)
  | 0, _ => none
  | _ + 1, .c0 s =>
    gd (0 ≤ (s.length : Int) ∧ 0 ≤ (s.length : Int) ∧ (s.length : Int).toNat ≤ (s.length : Int).toNat ∧ (s.length : Int).toNat ≤ s.length) <|
    some (s.take ((s.length : Int).toNat))

def slices_Clip__modpoly_Poly_uint32 (K : Nat) (s : (List Int)) : Option (List Int) := slices_Clip__modpoly_Poly_uint32_go K (.c0 s)

noncomputable def slices_Clip__modpoly_Poly_uint32_body : Code := bodyOf prog 152
noncomputable def slices_Clip__modpoly_Poly_uint32_pos : slices_Clip__modpoly_Poly_uint32_Cut → List Fr
  | .c0 .. => [.code slices_Clip__modpoly_Poly_uint32_body]
def slices_Clip__modpoly_Poly_uint32_st : slices_Clip__modpoly_Poly_uint32_Cut → St
  | .c0 s => St.init [(tl 1 s ce_u32)]

def slices_Clip__modpoly_Poly_uint32_S (cx : Cx) (c : slices_Clip__modpoly_Poly_uint32_Cut) (r : (List Int)) : Prop := Wk prog cx (EndsF prog 152 [[1]] (tl 1 r ce_u32)) (slices_Clip__modpoly_Poly_uint32_pos c) .normal (slices_Clip__modpoly_Poly_uint32_st c)
abbrev slices_Clip__modpoly_Poly_uint32_H (K : Nat) : Prop := ∀ c r, slices_Clip__modpoly_Poly_uint32_go K c = some r → ∀ cx : Cx, cx.n = 9 → slices_Clip__modpoly_Poly_uint32_S cx c r

theorem slices_Clip__modpoly_Poly_uint32_c0 {K} (_ : slices_Clip__modpoly_Poly_uint32_H K) {cx} (hn : cx.n = 9) {s} {r} (h : slices_Clip__modpoly_Poly_uint32_go (K + 1) (.c0 s) = some r) : slices_Clip__modpoly_Poly_uint32_S cx (.c0 s) r := by
  rw [slices_Clip__modpoly_Poly_uint32_go] at h
  obtain ⟨h1, h⟩ := gd_some h
  have h := Option.some.inj h; subst h
  exact wk_ret (fuel := 54) [.reg [oo], .reg [oo, oo, .op (.ln (s.length : Int)), oo, .op (.ln (s.length : Int)), .op (.slM 0 ((s.length : Int).toNat) ((s.length : Int).toNat) ((s.take ((s.length : Int).toNat)).map ce_u32)), oo]] _ hn (by kernel_rfl) (aC (ln_eq s ce_u32) <| aC (ln_eq s ce_u32) <| aC r0 <| aC (⟨h1.1, rfl⟩ : 0 ≤ (s.length : Int) ∧ (s.length : Int).toNat = (s.length : Int).toNat) <| aC (⟨h1.2.1, rfl⟩ : 0 ≤ (s.length : Int) ∧ (s.length : Int).toNat = (s.length : Int).toNat) <| aC (Nat.zero_le _ : 0 ≤ (s.length : Int).toNat) <| aC h1.2.2.1 <| aC (ln_le _ h1.2.2.2 : (s.length : Int).toNat ≤ (s.map ce_u32).length) <| aC (tk0_map _ _ _ : ((s.map ce_u32).take ((s.length : Int).toNat)).drop 0 = (s.take ((s.length : Int).toNat)).map ce_u32) <| aN)

theorem slices_Clip__modpoly_Poly_uint32_all : ∀ K : Nat, slices_Clip__modpoly_Poly_uint32_H K
  | 0, c, r, h => by rw [slices_Clip__modpoly_Poly_uint32_go] at h; cases h
  | K + 1, .c0 .., r, h => fun cx hn => slices_Clip__modpoly_Poly_uint32_c0 (slices_Clip__modpoly_Poly_uint32_all K) hn h

theorem slices_Clip__modpoly_Poly_uint32_holds {K : Nat} {s : (List Int)} {r : (List Int)} (h : slices_Clip__modpoly_Poly_uint32 K s = some r) : Holds prog 152 [(tl 1 s ce_u32)] (tl 1 r ce_u32) :=
  holds_wk [[1]] (by kernel_rfl) (by simp) fun cx hn => slices_Clip__modpoly_Poly_uint32_all K (.c0 s) r h cx hn
end Go.Am.X
namespace Go.Am.X
open Go.Proofs.Try (prog)


inductive modpoly_trim_Cut where
  | c0 (f : (List Int))
  | c1 (f : (List Int)) (n : Int)
  | c2 (f : (List Int)) (n : Int)

def modpoly_trim_go : Nat → modpoly_trim_Cut → Option (List Int)
  | 0, _ => none
  | K + 1, .c0 f =>
    modpoly_trim_go K (.c1 f (f.length : Int))
  | K + 1, .c1 f n =>
    bif (decide ((0 : Int) < n)) then
      (gi f (IntKind.i64.wrap (n - (1 : Int)))).bind fun x2 =>
      bif (decide (x2 = (0 : Int))) then
        modpoly_trim_go K (.c1 f (IntKind.i64.wrap (n - (1 : Int))))
      else
        modpoly_trim_go K (.c2 f n)
    else
      modpoly_trim_go K (.c2 f n)
  | K + 1, .c2 f n =>
    gd (0 ≤ n ∧ 0 ≤ n.toNat ∧ n.toNat ≤ f.length) <|
    (slices_Clip__modpoly_Poly_uint32 K (f.take n.toNat)).bind fun x2 =>
    some x2

def modpoly_trim (K : Nat) (f : (List Int)) : Option (List Int) := modpoly_trim_go K (.c0 f)

noncomputable def modpoly_trim_body : Code := bodyOf prog 110
noncomputable def modpoly_trim_pos : modpoly_trim_Cut → List Fr
  | .c0 .. => [.code modpoly_trim_body]
  | .c1 .. => [.code (.loop (atC modpoly_trim_body [1,1,0,0,0])), .blk 0, .code (atC modpoly_trim_body [1,1,1])]
  | .c2 .. => [.code (atC modpoly_trim_body [1,1,1,0]), .code (atC modpoly_trim_body [1,1,1,1])]
def modpoly_trim_st : modpoly_trim_Cut → St
  | .c0 f => St.init [(tl 1 f ce_u32)]
  | .c1 f n => ⟨[(0, vl 1 f ce_u32), (3, vi .i64 n)], [], []⟩
  | .c2 f n => ⟨[(0, vl 1 f ce_u32), (3, vi .i64 n)], [], []⟩

def modpoly_trim_S (cx : Cx) (c : modpoly_trim_Cut) (r : (List Int)) : Prop := Wk prog cx (EndsF prog 110 [[1]] (tl 1 r ce_u32)) (modpoly_trim_pos c) .normal (modpoly_trim_st c)
abbrev modpoly_trim_H (K : Nat) : Prop := ∀ c r, modpoly_trim_go K c = some r → ∀ cx : Cx, cx.n = 22 → modpoly_trim_S cx c r

theorem modpoly_trim_c0 {K} (ih : modpoly_trim_H K) {cx} (hn : cx.n = 22) {f} {r} (h : modpoly_trim_go (K + 1) (.c0 f) = some r) : modpoly_trim_S cx (.c0 f) r := by
  rw [modpoly_trim_go] at h
  exact wk_go (fuel := 56) [.reg [oo], .reg [oo, .op (.ln (f.length : Int)), oo], .pre [.keep [0,3] []]] _ hn (by kernel_rfl) (aC (ln_eq f ce_u32) <| aN) (ih _ _ h cx hn)

theorem modpoly_trim_c1 {K} (ih : modpoly_trim_H K) {cx} (hn : cx.n = 22) {f n} {r} (h : modpoly_trim_go (K + 1) (.c1 f n) = some r) : modpoly_trim_S cx (.c1 f n) r := by
  rw [modpoly_trim_go] at h
  rcases bcases h with ⟨h1, h⟩ | ⟨h1, h⟩
  · skip
    obtain ⟨x2, h3, h⟩ := obind h
    rcases bcases h with ⟨h4, h⟩ | ⟨h4, h⟩
    · skip
      exact wk_go (fuel := 74) [.go, .reg [oo, oo, oo, .sb 8 true, oo, oo, oo, .op (.ix (ce_u32 x2)), oo, oo, oo], .br true, .reg [oo, oo, oo], .pre [.keep [0,3] []]] _ hn (by kernel_rfl) (aC h1 <| aC (gi_nn h3) <| aC (gi_at ce_u32 h3) <| aC h4 <| aN) (ih _ _ h cx hn)
    · skip
      exact wk_go (fuel := 70) [.go, .reg [oo, oo, oo, .sb 8 true, oo, oo, oo, .op (.ix (ce_u32 x2)), oo, oo, oo], .br false, .pre [.keep [0,3] []]] _ hn (by kernel_rfl) (aC h1 <| aC (gi_nn h3) <| aC (gi_at ce_u32 h3) <| aC h4 <| aN) (ih _ _ h cx hn)
  · skip
    exact wk_go (fuel := 70) [.go, .reg [oo, oo, oo, .sb 8 false, oo, oo, oo, oo, oo, oo, oo], .br false, .pre [.keep [0,3] []]] _ hn (by kernel_rfl) (aC h1 <| aC rf <| aN) (ih _ _ h cx hn)

theorem modpoly_trim_c2 {K} (_ : modpoly_trim_H K) {cx} (hn : cx.n = 22) {f n} {r} (h : modpoly_trim_go (K + 1) (.c2 f n) = some r) : modpoly_trim_S cx (.c2 f n) r := by
  rw [modpoly_trim_go] at h
  obtain ⟨h1, h⟩ := gd_some h
  obtain ⟨x2, h3, h⟩ := obind h
  have h := Option.some.inj h; subst h
  exact wk_ret (fuel := 44) [.reg [oo, oo, .op (.slT 0 n.toNat ((f.take n.toNat).map ce_u32)), .op (.call [[1]] [(TV.c (T.sl 1 ((f.take n.toNat).map ce_u32)))] (tl 1 x2 ce_u32)), oo]] _ hn (by kernel_rfl) (aC r0 <| aC (⟨h1.1, rfl⟩ : 0 ≤ n ∧ n.toNat = n.toNat) <| aC h1.2.1 <| aC (ln_le _ h1.2.2 : n.toNat ≤ (f.map ce_u32).length) <| aC (tk0_map _ _ _ : ((f.map ce_u32).take n.toNat).drop 0 = (f.take n.toNat).map ce_u32) <| aC (slices_Clip__modpoly_Poly_uint32_holds h3) <| aN)

theorem modpoly_trim_all : ∀ K : Nat, modpoly_trim_H K
  | 0, c, r, h => by rw [modpoly_trim_go] at h; cases h
  | K + 1, .c0 .., r, h => fun cx hn => modpoly_trim_c0 (modpoly_trim_all K) hn h
  | K + 1, .c1 .., r, h => fun cx hn => modpoly_trim_c1 (modpoly_trim_all K) hn h
  | K + 1, .c2 .., r, h => fun cx hn => modpoly_trim_c2 (modpoly_trim_all K) hn h

theorem modpoly_trim_holds {K : Nat} {f : (List Int)} {r : (List Int)} (h : modpoly_trim K f = some r) : Holds prog 110 [(tl 1 f ce_u32)] (tl 1 r ce_u32) :=
  holds_wk [[1]] (by kernel_rfl) (by simp) fun cx hn => modpoly_trim_all K (.c0 f) r h cx hn
end Go.Am.X
namespace Go.Am.X
open Go.Proofs.Try (prog)


inductive modular_wide_Cut where
  | c0 (m : Int)

def modular_wide_go : Nat → modular_wide_Cut → Option Int
  | 0, _ => none
  | _ + 1, .c0 m =>
    some (IntKind.u64.wrap (max m (1 : Int)))

def modular_wide (K : Nat) (m : Int) : Option Int := modular_wide_go K (.c0 m)

noncomputable def modular_wide_body : Code := bodyOf prog 183
noncomputable def modular_wide_pos : modular_wide_Cut → List Fr
  | .c0 .. => [.code modular_wide_body]
def modular_wide_st : modular_wide_Cut → St
  | .c0 m => St.init [(ti .u32 m)]

def modular_wide_S (cx : Cx) (c : modular_wide_Cut) (r : Int) : Prop := Wk prog cx (EndsF prog 183 [[0]] (ti .u64 r)) (modular_wide_pos c) .normal (modular_wide_st c)
abbrev modular_wide_H (K : Nat) : Prop := ∀ c r, modular_wide_go K c = some r → ∀ cx : Cx, cx.n = 6 → modular_wide_S cx c r

theorem modular_wide_c0 {K} (_ : modular_wide_H K) {cx} (hn : cx.n = 6) {m} {r} (h : modular_wide_go (K + 1) (.c0 m) = some r) : modular_wide_S cx (.c0 m) r := by
  rw [modular_wide_go] at h
  have h := Option.some.inj h; subst h
  exact wk_ret (fuel := 54) [.reg [oo], .reg [oo, oo, oo, oo]] _ hn (by kernel_rfl) aN

theorem modular_wide_all : ∀ K : Nat, modular_wide_H K
  | 0, c, r, h => by rw [modular_wide_go] at h; cases h
  | K + 1, .c0 .., r, h => fun cx hn => modular_wide_c0 (modular_wide_all K) hn h

theorem modular_wide_holds {K : Nat} {m : Int} {r : Int} (h : modular_wide K m = some r) : Holds prog 183 [(ti .u32 m)] (ti .u64 r) :=
  holds_wk [[0]] (by kernel_rfl) (by simp) fun cx hn => modular_wide_all K (.c0 m) r h cx hn
end Go.Am.X
