/- Part 3 of the proof: M5 .. Fn_unipoly_Lead. -/
import Derived.Test.YteciehfkhmbfeaaRb
namespace Go.Am.X
theorem kn_dec {g D N P U V : Int} (hP : 0 < P) (hg : 0 ≤ g) (hV : D * P ≤ V) (hU : U < (N + 1) * P) (h : N < g * D) : U < g * V := by
  have h1 := Int.mul_le_mul_of_nonneg_left hV hg
  have h2 := Int.mul_le_mul_of_nonneg_right (show N + 1 ≤ g * D by omega) (Int.le_of_lt hP)
  rw [Int.mul_assoc] at h2
  omega
theorem kn_exit {g D N P U V : Int} (hP : 0 < P) (hg : 0 ≤ g) (hD : g ≤ D + 1) (hV0 : 0 ≤ V) (hU0 : 0 ≤ U) (hV : V < (D + 1) * P) (hU : N * P ≤ U) (h : g * D ≤ N) : (g - 1) * V ≤ U := by
  by_cases h0 : g = 0
  · subst h0; simp only [Int.zero_sub, Int.neg_mul, Int.one_mul]; omega
  · have h1 := Int.mul_le_mul_of_nonneg_left (Int.le_of_lt hV) (show 0 ≤ g - 1 by omega)
    have h2 : (g - 1) * (D + 1) ≤ N := by
      have : (g - 1) * (D + 1) = g * D + g - 1 - D := by grind
      omega
    have h3 := Int.mul_le_mul_of_nonneg_right h2 (Int.le_of_lt hP)
    rw [Int.mul_assoc] at h3
    omega
theorem sub_step {g x c b y : Int} (hg : 0 ≤ g ∧ g < 4294967296) (hx : 0 ≤ x ∧ x < 4294967296) (hc : 0 ≤ c ∧ c < 4294967296) (hb : b = 0 ∨ b = 1) (hy : 0 ≤ y ∧ y < 4294967296) :
    ∃ c' b' y' : Int, (g * x + c) / 4294967296 = c' ∧ (y - b - (g * x + c) % 4294967296) % 18446744073709551616 / 9223372036854775808 = b' ∧ (y - b - (g * x + c) % 4294967296) % 18446744073709551616 % 4294967296 = y' ∧
      (0 ≤ c' ∧ c' < 4294967296) ∧ (b' = 0 ∨ b' = 1) ∧ (0 ≤ y' ∧ y' < 4294967296) ∧ y' - 4294967296 * (b' + c') = y - g * x - (b + c) := by
  have := prod_lt hg hx
  generalize g * x = P at *
  exact ⟨_, _, _, rfl, rfl, rfl, by omega, by omega, by omega, by omega⟩
end Go.Am.X
namespace Go.Am.X
open Go.Proofs.Try (prog)
inductive qkC where
  | c0 (x : Int)
def qiI : Nat → qkC → Option Int
  | 0, _ => none
  | _ + 1, .c0 x =>
    bif (decide ((4294967296 : Int) ≤ x)) then
      bif (decide ((65536 : Int) ≤ (qdG .u64 x (32 : Int)))) then
        bif (decide ((256 : Int) ≤ (qdG .u64 (qdG .u64 x (32 : Int)) (16 : Int)))) then
          (gi qbQ (wU1 (qdG .u64 (qdG .u64 (qdG .u64 x (32 : Int)) (16 : Int)) (8 : Int)))).bind fun x4 =>
          some (wI6 ((wI6 ((wI6 ((32 : Int) + (16 : Int))) + (8 : Int))) + (wI6 x4)))
        else
          (gi qbQ (wU1 (qdG .u64 (qdG .u64 x (32 : Int)) (16 : Int)))).bind fun x4 =>
          some (wI6 ((wI6 ((32 : Int) + (16 : Int))) + (wI6 x4)))
      else
        bif (decide ((256 : Int) ≤ (qdG .u64 x (32 : Int)))) then
          (gi qbQ (wU1 (qdG .u64 (qdG .u64 x (32 : Int)) (8 : Int)))).bind fun x4 =>
          some (wI6 ((wI6 ((32 : Int) + (8 : Int))) + (wI6 x4)))
        else
          (gi qbQ (wU1 (qdG .u64 x (32 : Int)))).bind fun x4 =>
          some (wI6 ((32 : Int) + (wI6 x4)))
    else
      bif (decide ((65536 : Int) ≤ x)) then
        bif (decide ((256 : Int) ≤ (qdG .u64 x (16 : Int)))) then
          (gi qbQ (wU1 (qdG .u64 (qdG .u64 x (16 : Int)) (8 : Int)))).bind fun x4 =>
          some (wI6 ((wI6 ((wI6 ((0 : Int) + (16 : Int))) + (8 : Int))) + (wI6 x4)))
        else
          (gi qbQ (wU1 (qdG .u64 x (16 : Int)))).bind fun x4 =>
          some (wI6 ((wI6 ((0 : Int) + (16 : Int))) + (wI6 x4)))
      else
        bif (decide ((256 : Int) ≤ x)) then
          (gi qbQ (wU1 (qdG .u64 x (8 : Int)))).bind fun x4 =>
          some (wI6 ((wI6 ((0 : Int) + (8 : Int))) + (wI6 x4)))
        else
          (gi qbQ (wU1 x)).bind fun x4 =>
          some (wI6 ((0 : Int) + (wI6 x4)))
def math_bits_Len64 (K : Nat) (x : Int) : Option Int := qiI K (.c0 x)
noncomputable def math_bits_Len64_body : Code := qbN prog 197
noncomputable def math_bits_Len64_pos : qkC → List Fr
  | .c0 .. => [.code math_bits_Len64_body]
def math_bits_Len64_st : qkC → St
  | .c0 x => St.init [(ti .u64 x)]
def math_bits_Len64_S (cx : Cx) (c : qkC) (r : Int) : Prop := Wk prog cx (qcT prog 197 [[0]] (ti .i64 r)) (math_bits_Len64_pos c) .normal (math_bits_Len64_st c)
abbrev math_bits_Len64_H (K : Nat) : Prop := ∀ c r, qiI K c = some r → ∀ cx : Cx, cx.n = 25 → math_bits_Len64_S cx c r
theorem math_bits_Len64_c0 {K} (_ : math_bits_Len64_H K) {cx} (hn : cx.n = 25) {x} {r} (h : qiI (K + 1) (.c0 x) = some r) : math_bits_Len64_S cx (.c0 x) r := by
  rw [qiI] at h
  rcases qaK h with ⟨h1, h⟩ | ⟨h1, h⟩
  · skip
    rcases qaK h with ⟨h2, h⟩ | ⟨h2, h⟩
    · skip
      rcases qaK h with ⟨h3, h⟩ | ⟨h3, h⟩
      · skip
        obtain ⟨x4, h5, h⟩ := qaH h
        have h := Option.some.inj h; subst h
        exact qaN (fuel := 144) [rgG [oo], rgG [oo, oo], .br true, rgG [oo, oo, oo], rgG [oo], rgG [oo, oo], .br true, rgG [oo, oo, oo], rgG [oo, oo, oo], rgG [oo, oo], .br true, rgG [oo, oo, oo], rgG [oo, oo, oo], rgG [oo, oo, oo, opI (.sx x4), oo, oo, oo]] _ hn (by kernel_rfl) (aC h1 <| aC h2 <| aC h3 <| aC (qa0 h5) <| aC (qtA h5 : qbQ[(wU1 (qdG .u64 (qdG .u64 (qdG .u64 x (32 : Int)) (16 : Int)) (8 : Int))).toNat]? = some x4) <| aN)
      · skip
        obtain ⟨x4, h5, h⟩ := qaH h
        have h := Option.some.inj h; subst h
        exact qaN (fuel := 132) [rgG [oo], rgG [oo, oo], .br true, rgG [oo, oo, oo], rgG [oo], rgG [oo, oo], .br true, rgG [oo, oo, oo], rgG [oo, oo, oo], rgG [oo, oo], .br false, rgG [oo, oo, oo, opI (.sx x4), oo, oo, oo]] _ hn (by kernel_rfl) (aC h1 <| aC h2 <| aC h3 <| aC (qa0 h5) <| aC (qtA h5 : qbQ[(wU1 (qdG .u64 (qdG .u64 x (32 : Int)) (16 : Int))).toNat]? = some x4) <| aN)
    · skip
      rcases qaK h with ⟨h3, h⟩ | ⟨h3, h⟩
      · skip
        obtain ⟨x4, h5, h⟩ := qaH h
        have h := Option.some.inj h; subst h
        exact qaN (fuel := 132) [rgG [oo], rgG [oo, oo], .br true, rgG [oo, oo, oo], rgG [oo], rgG [oo, oo], .br false, rgG [oo, oo], .br true, rgG [oo, oo, oo], rgG [oo, oo, oo], rgG [oo, oo, oo, opI (.sx x4), oo, oo, oo]] _ hn (by kernel_rfl) (aC h1 <| aC h2 <| aC h3 <| aC (qa0 h5) <| aC (qtA h5 : qbQ[(wU1 (qdG .u64 (qdG .u64 x (32 : Int)) (8 : Int))).toNat]? = some x4) <| aN)
      · skip
        obtain ⟨x4, h5, h⟩ := qaH h
        have h := Option.some.inj h; subst h
        exact qaN (fuel := 120) [rgG [oo], rgG [oo, oo], .br true, rgG [oo, oo, oo], rgG [oo], rgG [oo, oo], .br false, rgG [oo, oo], .br false, rgG [oo, oo, oo, opI (.sx x4), oo, oo, oo]] _ hn (by kernel_rfl) (aC h1 <| aC h2 <| aC h3 <| aC (qa0 h5) <| aC (qtA h5 : qbQ[(wU1 (qdG .u64 x (32 : Int))).toNat]? = some x4) <| aN)
  · skip
    rcases qaK h with ⟨h2, h⟩ | ⟨h2, h⟩
    · skip
      rcases qaK h with ⟨h3, h⟩ | ⟨h3, h⟩
      · skip
        obtain ⟨x4, h5, h⟩ := qaH h
        have h := Option.some.inj h; subst h
        exact qaN (fuel := 132) [rgG [oo], rgG [oo, oo], .br false, rgG [oo, oo], .br true, rgG [oo, oo, oo], rgG [oo, oo, oo], rgG [oo, oo], .br true, rgG [oo, oo, oo], rgG [oo, oo, oo], rgG [oo, oo, oo, opI (.sx x4), oo, oo, oo]] _ hn (by kernel_rfl) (aC h1 <| aC h2 <| aC h3 <| aC (qa0 h5) <| aC (qtA h5 : qbQ[(wU1 (qdG .u64 (qdG .u64 x (16 : Int)) (8 : Int))).toNat]? = some x4) <| aN)
      · skip
        obtain ⟨x4, h5, h⟩ := qaH h
        have h := Option.some.inj h; subst h
        exact qaN (fuel := 120) [rgG [oo], rgG [oo, oo], .br false, rgG [oo, oo], .br true, rgG [oo, oo, oo], rgG [oo, oo, oo], rgG [oo, oo], .br false, rgG [oo, oo, oo, opI (.sx x4), oo, oo, oo]] _ hn (by kernel_rfl) (aC h1 <| aC h2 <| aC h3 <| aC (qa0 h5) <| aC (qtA h5 : qbQ[(wU1 (qdG .u64 x (16 : Int))).toNat]? = some x4) <| aN)
    · skip
      rcases qaK h with ⟨h3, h⟩ | ⟨h3, h⟩
      · skip
        obtain ⟨x4, h5, h⟩ := qaH h
        have h := Option.some.inj h; subst h
        exact qaN (fuel := 120) [rgG [oo], rgG [oo, oo], .br false, rgG [oo, oo], .br false, rgG [oo, oo], .br true, rgG [oo, oo, oo], rgG [oo, oo, oo], rgG [oo, oo, oo, opI (.sx x4), oo, oo, oo]] _ hn (by kernel_rfl) (aC h1 <| aC h2 <| aC h3 <| aC (qa0 h5) <| aC (qtA h5 : qbQ[(wU1 (qdG .u64 x (8 : Int))).toNat]? = some x4) <| aN)
      · skip
        obtain ⟨x4, h5, h⟩ := qaH h
        have h := Option.some.inj h; subst h
        exact qaN (fuel := 108) [rgG [oo], rgG [oo, oo], .br false, rgG [oo, oo], .br false, rgG [oo, oo], .br false, rgG [oo, oo, oo, opI (.sx x4), oo, oo, oo]] _ hn (by kernel_rfl) (aC h1 <| aC h2 <| aC h3 <| aC (qa0 h5) <| aC (qtA h5 : qbQ[(wU1 x).toNat]? = some x4) <| aN)
theorem quS : ∀ K : Nat, math_bits_Len64_H K
  | 0, c, r, h => by rw [qiI] at h; cases h
  | K + 1, .c0 .., r, h => fun cx hn => math_bits_Len64_c0 (quS K) hn h
theorem math_bits_Len64_holds {K : Nat} {x : Int} {r : Int} (h : math_bits_Len64 K x = some r) : qcX prog 197 [(ti .u64 x)] (ti .i64 r) :=
  qa2 [[0]] (by kernel_rfl) (by simp) fun cx hn => quS K (.c0 x) r h cx hn
end Go.Am.X
namespace Go.Am.X
open Go.Proofs.Try (prog)
inductive qfP where
  | c0 (x : Int)
def qeR : Nat → qfP → Option Int
  | 0, _ => none
  | K + 1, .c0 x =>
    (math_bits_Len64 K x).bind fun x1 =>
    some (wI6 ((64 : Int) - x1))
def qo6 (K : Nat) (x : Int) : Option Int := qeR K (.c0 x)
noncomputable def qs7 : Code := qbN prog 195
noncomputable def qtU : qfP → List Fr
  | .c0 .. => [.code qs7]
def quU : qfP → St
  | .c0 x => St.init [(ti .u64 x)]
def qm1 (cx : Cx) (c : qfP) (r : Int) : Prop := Wk prog cx (qcT prog 195 [[0]] (ti .i64 r)) (qtU c) .normal (quU c)
abbrev qm2 (K : Nat) : Prop := ∀ c r, qeR K c = some r → ∀ cx : Cx, cx.n = 6 → qm1 cx c r
theorem quV {K} (_ : qm2 K) {cx} (hn : cx.n = 6) {x} {r} (h : qeR (K + 1) (.c0 x) = some r) : qm1 cx (.c0 x) r := by
  rw [qeR] at h
  obtain ⟨x1, h2, h⟩ := qaH h
  have h := Option.some.inj h; subst h
  exact qaN (fuel := 54) [rgG [oo], rgG [oo, opI (.call [[0]] [(ti .u64 x)] (ti .i64 x1)), oo, oo]] _ hn (by kernel_rfl) (aC (math_bits_Len64_holds h2) <| aN)
theorem qlO : ∀ K : Nat, qm2 K
  | 0, c, r, h => by rw [qeR] at h; cases h
  | K + 1, .c0 .., r, h => fun cx hn => quV (qlO K) hn h
theorem qsK {K : Nat} {x : Int} {r : Int} (h : qo6 K x = some r) : qcX prog 195 [(ti .u64 x)] (ti .i64 r) :=
  qa2 [[0]] (by kernel_rfl) (by simp) fun cx hn => qlO K (.c0 x) r h cx hn
end Go.Am.X
namespace Go.Am.X
open Go.Proofs.Try (prog)
inductive qkE where
  | c0 (hi : Int) (lo : Int) (y : Int)
  | c1 (y : Int) (s : Int) (yn1 : Int) (yn0 : Int) (un32 : Int) (un1 : Int) (un0 : Int) (q1 : Int) (rhat : Int)
  | c2 (y : Int) (s : Int) (yn1 : Int) (yn0 : Int) (un32 : Int) (un1 : Int) (un0 : Int) (q1 : Int)
  | c3 (y : Int) (s : Int) (yn1 : Int) (yn0 : Int) (un0 : Int) (q1 : Int) (rhat : Int) (un21 : Int) (q0 : Int)
  | c4 (y : Int) (s : Int) (un0 : Int) (q1 : Int) (un21 : Int) (q0 : Int)
def qa6 : Nat → qkE → Option (Int × Int)
  | 0, _ => none
  | K + 1, .c0 hi lo y =>
    bif (decide (y = (0 : Int))) then
      none
    else
      bif (decide (y ≤ hi)) then
        none
      else
        bif (decide (hi = (0 : Int))) then
          gd (y ≠ 0) <|
          gd (y ≠ 0) <|
          some ((wU6 (Int.tdiv lo y)), (Int.tmod lo y))
        else
          (qo6 K y).bind fun x4 =>
          gd (0 ≤ (wU6 x4)) <|
          gd (0 ≤ (wU6 x4)) <|
          gd (0 ≤ (wU6 ((64 : Int) - (wU6 x4)))) <|
          gd (0 ≤ (wU6 x4)) <|
          gd ((qdG .u64 (qgQ .u64 y (wU6 x4)) (32 : Int)) ≠ 0) <|
          qa6 K (.c1 (qgQ .u64 y (wU6 x4)) (wU6 x4) (qdG .u64 (qgQ .u64 y (wU6 x4)) (32 : Int)) (bits .and .u64 (qgQ .u64 y (wU6 x4)) (4294967295 : Int)) (bits .or .u64 (qgQ .u64 hi (wU6 x4)) (qdG .u64 lo (wU6 ((64 : Int) - (wU6 x4))))) (qdG .u64 (qgQ .u64 lo (wU6 x4)) (32 : Int)) (bits .and .u64 (qgQ .u64 lo (wU6 x4)) (4294967295 : Int)) (wU6 (Int.tdiv (bits .or .u64 (qgQ .u64 hi (wU6 x4)) (qdG .u64 lo (wU6 ((64 : Int) - (wU6 x4))))) (qdG .u64 (qgQ .u64 y (wU6 x4)) (32 : Int)))) (wU6 ((bits .or .u64 (qgQ .u64 hi (wU6 x4)) (qdG .u64 lo (wU6 ((64 : Int) - (wU6 x4))))) - (wU6 ((wU6 (Int.tdiv (bits .or .u64 (qgQ .u64 hi (wU6 x4)) (qdG .u64 lo (wU6 ((64 : Int) - (wU6 x4))))) (qdG .u64 (qgQ .u64 y (wU6 x4)) (32 : Int)))) * (qdG .u64 (qgQ .u64 y (wU6 x4)) (32 : Int)))))))
  | K + 1, .c1 y s yn1 yn0 un32 un1 un0 q1 rhat =>
    bif (decide ((4294967296 : Int) ≤ q1)) then
      bif (decide ((4294967296 : Int) ≤ (wU6 (rhat + yn1)))) then
        qa6 K (.c2 y s yn1 yn0 un32 un1 un0 (wU6 (q1 - (1 : Int))))
      else
        qa6 K (.c1 y s yn1 yn0 un32 un1 un0 (wU6 (q1 - (1 : Int))) (wU6 (rhat + yn1)))
    else
      bif (decide ((wU6 ((wU6 ((4294967296 : Int) * rhat)) + un1)) < (wU6 (q1 * yn0)))) then
        bif (decide ((4294967296 : Int) ≤ (wU6 (rhat + yn1)))) then
          qa6 K (.c2 y s yn1 yn0 un32 un1 un0 (wU6 (q1 - (1 : Int))))
        else
          qa6 K (.c1 y s yn1 yn0 un32 un1 un0 (wU6 (q1 - (1 : Int))) (wU6 (rhat + yn1)))
      else
        qa6 K (.c2 y s yn1 yn0 un32 un1 un0 q1)
  | K + 1, .c2 y s yn1 yn0 un32 un1 un0 q1 =>
    gd (yn1 ≠ 0) <|
    qa6 K (.c3 y s yn1 yn0 un0 q1 (wU6 ((wU6 ((wU6 ((wU6 (un32 * (4294967296 : Int))) + un1)) - (wU6 (q1 * y)))) - (wU6 ((wU6 (Int.tdiv (wU6 ((wU6 ((wU6 (un32 * (4294967296 : Int))) + un1)) - (wU6 (q1 * y)))) yn1)) * yn1)))) (wU6 ((wU6 ((wU6 (un32 * (4294967296 : Int))) + un1)) - (wU6 (q1 * y)))) (wU6 (Int.tdiv (wU6 ((wU6 ((wU6 (un32 * (4294967296 : Int))) + un1)) - (wU6 (q1 * y)))) yn1)))
  | K + 1, .c3 y s yn1 yn0 un0 q1 rhat un21 q0 =>
    bif (decide ((4294967296 : Int) ≤ q0)) then
      bif (decide ((4294967296 : Int) ≤ (wU6 (rhat + yn1)))) then
        qa6 K (.c4 y s un0 q1 un21 (wU6 (q0 - (1 : Int))))
      else
        qa6 K (.c3 y s yn1 yn0 un0 q1 (wU6 (rhat + yn1)) un21 (wU6 (q0 - (1 : Int))))
    else
      bif (decide ((wU6 ((wU6 ((4294967296 : Int) * rhat)) + un0)) < (wU6 (q0 * yn0)))) then
        bif (decide ((4294967296 : Int) ≤ (wU6 (rhat + yn1)))) then
          qa6 K (.c4 y s un0 q1 un21 (wU6 (q0 - (1 : Int))))
        else
          qa6 K (.c3 y s yn1 yn0 un0 q1 (wU6 (rhat + yn1)) un21 (wU6 (q0 - (1 : Int))))
      else
        qa6 K (.c4 y s un0 q1 un21 q0)
  | _ + 1, .c4 y s un0 q1 un21 q0 =>
    gd (0 ≤ s) <|
    some ((wU6 ((wU6 (q1 * (4294967296 : Int))) + q0)), (qdG .u64 (wU6 ((wU6 ((wU6 (un21 * (4294967296 : Int))) + un0)) - (wU6 (q0 * y)))) s))
def ql8 (K : Nat) (hi : Int) (lo : Int) (y : Int) : Option (Int × Int) := qa6 K (.c0 hi lo y)
noncomputable def qdW : Code := qbN prog 188
noncomputable def math_bits_Div64_pos : qkE → List Fr
  | .c0 .. => [.code qdW]
  | .c1 .. => [.code (.loop (atC qdW [1,1,1,1,1,1,1,1,1,1,1,1,1,1,0,0,0])), .blk 0, .code (atC qdW [1,1,1,1,1,1,1,1,1,1,1,1,1,1,1])]
  | .c2 .. => [.code (atC qdW [1,1,1,1,1,1,1,1,1,1,1,1,1,1,1,0]), .code (atC qdW [1,1,1,1,1,1,1,1,1,1,1,1,1,1,1,1])]
  | .c3 .. => [.code (.loop (atC qdW [1,1,1,1,1,1,1,1,1,1,1,1,1,1,1,1,1,1,0,0,0])), .blk 2, .code (atC qdW [1,1,1,1,1,1,1,1,1,1,1,1,1,1,1,1,1,1,1])]
  | .c4 .. => [.code (atC qdW [1,1,1,1,1,1,1,1,1,1,1,1,1,1,1,1,1,1,1,0]), .code (atC qdW [1,1,1,1,1,1,1,1,1,1,1,1,1,1,1,1,1,1,1,1])]
def math_bits_Div64_st : qkE → St
  | .c0 hi lo y => St.init [(ti .u64 hi), (ti .u64 lo), (ti .u64 y)]
  | .c1 y s yn1 yn0 un32 un1 un0 q1 rhat => ⟨[(2, vi .u64 y), (8, vi .u64 s), (9, vi .u64 yn1), (10, vi .u64 yn0), (11, vi .u64 un32), (13, vi .u64 un1), (14, vi .u64 un0), (15, vi .u64 q1), (16, vi .u64 rhat)], [], []⟩
  | .c2 y s yn1 yn0 un32 un1 un0 q1 => ⟨[(2, vi .u64 y), (8, vi .u64 s), (9, vi .u64 yn1), (10, vi .u64 yn0), (11, vi .u64 un32), (13, vi .u64 un1), (14, vi .u64 un0), (15, vi .u64 q1)], [], []⟩
  | .c3 y s yn1 yn0 un0 q1 rhat un21 q0 => ⟨[(2, vi .u64 y), (8, vi .u64 s), (9, vi .u64 yn1), (10, vi .u64 yn0), (14, vi .u64 un0), (15, vi .u64 q1), (16, vi .u64 rhat), (17, vi .u64 un21), (18, vi .u64 q0)], [], []⟩
  | .c4 y s un0 q1 un21 q0 => ⟨[(2, vi .u64 y), (8, vi .u64 s), (14, vi .u64 un0), (15, vi .u64 q1), (17, vi .u64 un21), (18, vi .u64 q0)], [], []⟩
def qhN (cx : Cx) (c : qkE) (r : (Int × Int)) : Prop := Wk prog cx (qcT prog 188 [[0], [0]] (TV.tup [(false, [(T.int .u64 r.1)]), (false, [(T.int .u64 r.2)])])) (math_bits_Div64_pos c) .normal (math_bits_Div64_st c)
abbrev qhO (K : Nat) : Prop := ∀ c r, qa6 K c = some r → ∀ cx : Cx, cx.n = 135 → qhN cx c r
theorem math_bits_Div64_c0 {K} (ih : qhO K) {cx} (hn : cx.n = 135) {hi lo y} {r} (h : qa6 (K + 1) (.c0 hi lo y) = some r) : qhN cx (.c0 hi lo y) r := by
  rw [qa6] at h
  rcases qaK h with ⟨h1, h⟩ | ⟨h1, h⟩
  · skip
    cases h
  · skip
    rcases qaK h with ⟨h2, h⟩ | ⟨h2, h⟩
    · skip
      cases h
    · skip
      rcases qaK h with ⟨h3, h⟩ | ⟨h3, h⟩
      · skip
        obtain ⟨h4, h⟩ := qbE h
        obtain ⟨h5, h⟩ := qbE h
        have h := Option.some.inj h; subst h
        exact qaN (fuel := 108) [rgG [oo, oo], rgG [oo, oo], .br false, rgG [oo, oo, oo], .br false, rgG [oo, oo], .br true, .draw [.p, .p, .dv, .p, .p, .dv, .p] [.op .p]] _ hn (by kernel_rfl) (aC h1 <| aC h2 <| aC h3 <| aC h4 <| aC h5 <| aN)
      · skip
        obtain ⟨x4, h5, h⟩ := qaH h
        obtain ⟨h6, h⟩ := qbE h
        obtain ⟨h7, h⟩ := qbE h
        obtain ⟨h8, h⟩ := qbE h
        obtain ⟨h9, h⟩ := qbE h
        obtain ⟨h10, h⟩ := qbE h
        exact qaU (fuel := 182) [rgG [oo, oo], rgG [oo, oo], .br false, rgG [oo, oo, oo], .br false, rgG [oo, oo], .br false, rgG [oo, opI (.call [[0]] [(ti .u64 y)] (ti .i64 x4)), oo, oo], rgG [oo, oo, .op .dv, oo], rgG [oo, oo, oo], rgG [oo, oo, oo], rgG [oo, oo, .op .dv, oo, oo, oo, .op .dv, oo, oo], rgG [oo, oo, .op .dv, oo], rgG [oo, oo, oo], rgG [oo, oo, oo], rgG [oo, oo, .op .dv, oo], rgG [oo, oo, oo, oo, oo, oo], .pre [.keep [2,8,9,10,11,13,14,15,16] []]] _ hn (by kernel_rfl) (aC h1 <| aC h2 <| aC h3 <| aC (qsK h5) <| aC h6 <| aC h7 <| aC h8 <| aC h9 <| aC h10 <| aN) (ih _ _ h cx hn)
theorem math_bits_Div64_c1 {K} (ih : qhO K) {cx} (hn : cx.n = 135) {y s yn1 yn0 un32 un1 un0 q1 rhat} {r} (h : qa6 (K + 1) (.c1 y s yn1 yn0 un32 un1 un0 q1 rhat) = some r) : qhN cx (.c1 y s yn1 yn0 un32 un1 un0 q1 rhat) r := by
  rw [qa6] at h
  rcases qaK h with ⟨h1, h⟩ | ⟨h1, h⟩
  · skip
    rcases qaK h with ⟨h2, h⟩ | ⟨h2, h⟩
    · skip
      exact qaU (fuel := 104) [.go, rgG [oo, oo, oo, .sb 69 true, oo, oo, oo, oo, oo, oo, oo, oo, oo], .br true, rgG [oo, oo, oo], rgG [oo, oo, oo, oo], rgG [oo, oo], .br true, .pre [.keep [2,8,9,10,11,13,14,15] []]] _ hn (by kernel_rfl) (aC h1 <| aC rt <| aC h2 <| aN) (ih _ _ h cx hn)
    · skip
      exact qaU (fuel := 100) [.go, rgG [oo, oo, oo, .sb 69 true, oo, oo, oo, oo, oo, oo, oo, oo, oo], .br true, rgG [oo, oo, oo], rgG [oo, oo, oo, oo], rgG [oo, oo], .br false, .pre [.keep [2,8,9,10,11,13,14,15,16] []]] _ hn (by kernel_rfl) (aC h1 <| aC rt <| aC h2 <| aN) (ih _ _ h cx hn)
  · skip
    rcases qaK h with ⟨h2, h⟩ | ⟨h2, h⟩
    · skip
      rcases qaK h with ⟨h3, h⟩ | ⟨h3, h⟩
      · skip
        exact qaU (fuel := 104) [.go, rgG [oo, oo, oo, .sb 69 false, oo, oo, oo, oo, oo, oo, oo, oo, oo], .br true, rgG [oo, oo, oo], rgG [oo, oo, oo, oo], rgG [oo, oo], .br true, .pre [.keep [2,8,9,10,11,13,14,15] []]] _ hn (by kernel_rfl) (aC h1 <| aC h2 <| aC h3 <| aN) (ih _ _ h cx hn)
      · skip
        exact qaU (fuel := 100) [.go, rgG [oo, oo, oo, .sb 69 false, oo, oo, oo, oo, oo, oo, oo, oo, oo], .br true, rgG [oo, oo, oo], rgG [oo, oo, oo, oo], rgG [oo, oo], .br false, .pre [.keep [2,8,9,10,11,13,14,15,16] []]] _ hn (by kernel_rfl) (aC h1 <| aC h2 <| aC h3 <| aN) (ih _ _ h cx hn)
    · skip
      exact qaU (fuel := 70) [.go, rgG [oo, oo, oo, .sb 69 false, oo, oo, oo, oo, oo, oo, oo, oo, oo], .br false, .pre [.keep [2,8,9,10,11,13,14,15] []]] _ hn (by kernel_rfl) (aC h1 <| aC h2 <| aN) (ih _ _ h cx hn)
theorem math_bits_Div64_c2 {K} (ih : qhO K) {cx} (hn : cx.n = 135) {y s yn1 yn0 un32 un1 un0 q1} {r} (h : qa6 (K + 1) (.c2 y s yn1 yn0 un32 un1 un0 q1) = some r) : qhN cx (.c2 y s yn1 yn0 un32 un1 un0 q1) r := by
  rw [qa6] at h
  obtain ⟨h1, h⟩ := qbE h
  exact qaU (fuel := 62) [rgG [oo, oo, oo, oo, oo, oo, oo, oo, oo], rgG [oo, oo, .op .dv, oo], rgG [oo, oo, oo, oo, oo, oo], .pre [.keep [2,8,9,10,14,15,16,17,18] []]] _ hn (by kernel_rfl) (aC h1 <| aN) (ih _ _ h cx hn)
theorem math_bits_Div64_c3 {K} (ih : qhO K) {cx} (hn : cx.n = 135) {y s yn1 yn0 un0 q1 rhat un21 q0} {r} (h : qa6 (K + 1) (.c3 y s yn1 yn0 un0 q1 rhat un21 q0) = some r) : qhN cx (.c3 y s yn1 yn0 un0 q1 rhat un21 q0) r := by
  rw [qa6] at h
  rcases qaK h with ⟨h1, h⟩ | ⟨h1, h⟩
  · skip
    rcases qaK h with ⟨h2, h⟩ | ⟨h2, h⟩
    · skip
      exact qaU (fuel := 104) [.go, rgG [oo, oo, oo, .sb 104 true, oo, oo, oo, oo, oo, oo, oo, oo, oo], .br true, rgG [oo, oo, oo], rgG [oo, oo, oo, oo], rgG [oo, oo], .br true, .pre [.keep [2,8,14,15,17,18] []]] _ hn (by kernel_rfl) (aC h1 <| aC rt <| aC h2 <| aN) (ih _ _ h cx hn)
    · skip
      exact qaU (fuel := 100) [.go, rgG [oo, oo, oo, .sb 104 true, oo, oo, oo, oo, oo, oo, oo, oo, oo], .br true, rgG [oo, oo, oo], rgG [oo, oo, oo, oo], rgG [oo, oo], .br false, .pre [.keep [2,8,9,10,14,15,16,17,18] []]] _ hn (by kernel_rfl) (aC h1 <| aC rt <| aC h2 <| aN) (ih _ _ h cx hn)
  · skip
    rcases qaK h with ⟨h2, h⟩ | ⟨h2, h⟩
    · skip
      rcases qaK h with ⟨h3, h⟩ | ⟨h3, h⟩
      · skip
        exact qaU (fuel := 104) [.go, rgG [oo, oo, oo, .sb 104 false, oo, oo, oo, oo, oo, oo, oo, oo, oo], .br true, rgG [oo, oo, oo], rgG [oo, oo, oo, oo], rgG [oo, oo], .br true, .pre [.keep [2,8,14,15,17,18] []]] _ hn (by kernel_rfl) (aC h1 <| aC h2 <| aC h3 <| aN) (ih _ _ h cx hn)
      · skip
        exact qaU (fuel := 100) [.go, rgG [oo, oo, oo, .sb 104 false, oo, oo, oo, oo, oo, oo, oo, oo, oo], .br true, rgG [oo, oo, oo], rgG [oo, oo, oo, oo], rgG [oo, oo], .br false, .pre [.keep [2,8,9,10,14,15,16,17,18] []]] _ hn (by kernel_rfl) (aC h1 <| aC h2 <| aC h3 <| aN) (ih _ _ h cx hn)
    · skip
      exact qaU (fuel := 70) [.go, rgG [oo, oo, oo, .sb 104 false, oo, oo, oo, oo, oo, oo, oo, oo, oo], .br false, .pre [.keep [2,8,14,15,17,18] []]] _ hn (by kernel_rfl) (aC h1 <| aC h2 <| aN) (ih _ _ h cx hn)
theorem math_bits_Div64_c4 {K} (_ : qhO K) {cx} (hn : cx.n = 135) {y s un0 q1 un21 q0} {r} (h : qa6 (K + 1) (.c4 y s un0 q1 un21 q0) = some r) : qhN cx (.c4 y s un0 q1 un21 q0) r := by
  rw [qa6] at h
  obtain ⟨h1, h⟩ := qbE h
  have h := Option.some.inj h; subst h
  exact qaN (fuel := 44) [rgG [oo, oo, oo, oo, oo, oo, oo, oo, oo, oo, oo, oo, oo, .op .dv, oo, oo]] _ hn (by kernel_rfl) (aC h1 <| aN)
theorem qf6 : ∀ K : Nat, qhO K
  | 0, c, r, h => by rw [qa6] at h; cases h
  | K + 1, .c0 .., r, h => fun cx hn => math_bits_Div64_c0 (qf6 K) hn h
  | K + 1, .c1 .., r, h => fun cx hn => math_bits_Div64_c1 (qf6 K) hn h
  | K + 1, .c2 .., r, h => fun cx hn => math_bits_Div64_c2 (qf6 K) hn h
  | K + 1, .c3 .., r, h => fun cx hn => math_bits_Div64_c3 (qf6 K) hn h
  | K + 1, .c4 .., r, h => fun cx hn => math_bits_Div64_c4 (qf6 K) hn h
theorem qsL {K : Nat} {hi : Int} {lo : Int} {y : Int} {r : (Int × Int)} (h : ql8 K hi lo y = some r) : qcX prog 188 [(ti .u64 hi), (ti .u64 lo), (ti .u64 y)] (TV.tup [(false, [(T.int .u64 r.1)]), (false, [(T.int .u64 r.2)])]) :=
  qa2 [[0], [0]] (by kernel_rfl) (by simp) fun cx hn => qf6 K (.c0 hi lo y) r h cx hn
end Go.Am.X
namespace Go.Am.X
open Go.Proofs.Try (prog)
inductive qkD where
  | c0 (x : Int)
def qeN : Nat → qkD → Option Int
  | 0, _ => none
  | _ + 1, .c0 x =>
    bif (decide ((65536 : Int) ≤ x)) then
      bif (decide ((256 : Int) ≤ (qdG .u32 x (16 : Int)))) then
        (gi qbQ (wU1 (qdG .u32 (qdG .u32 x (16 : Int)) (8 : Int)))).bind fun x3 =>
        some (wI6 ((wI6 ((16 : Int) + (8 : Int))) + (wI6 x3)))
      else
        (gi qbQ (wU1 (qdG .u32 x (16 : Int)))).bind fun x3 =>
        some (wI6 ((16 : Int) + (wI6 x3)))
    else
      bif (decide ((256 : Int) ≤ x)) then
        (gi qbQ (wU1 (qdG .u32 x (8 : Int)))).bind fun x3 =>
        some (wI6 ((wI6 ((0 : Int) + (8 : Int))) + (wI6 x3)))
      else
        (gi qbQ (wU1 x)).bind fun x3 =>
        some (wI6 ((0 : Int) + (wI6 x3)))
def qhU (K : Nat) (x : Int) : Option Int := qeN K (.c0 x)
noncomputable def math_bits_Len32_body : Code := qbN prog 194
noncomputable def math_bits_Len32_pos : qkD → List Fr
  | .c0 .. => [.code math_bits_Len32_body]
def math_bits_Len32_st : qkD → St
  | .c0 x => St.init [(ti .u32 x)]
def math_bits_Len32_S (cx : Cx) (c : qkD) (r : Int) : Prop := Wk prog cx (qcT prog 194 [[0]] (ti .i64 r)) (math_bits_Len32_pos c) .normal (math_bits_Len32_st c)
abbrev math_bits_Len32_H (K : Nat) : Prop := ∀ c r, qeN K c = some r → ∀ cx : Cx, cx.n = 19 → math_bits_Len32_S cx c r
theorem math_bits_Len32_c0 {K} (_ : math_bits_Len32_H K) {cx} (hn : cx.n = 19) {x} {r} (h : qeN (K + 1) (.c0 x) = some r) : math_bits_Len32_S cx (.c0 x) r := by
  rw [qeN] at h
  rcases qaK h with ⟨h1, h⟩ | ⟨h1, h⟩
  · skip
    rcases qaK h with ⟨h2, h⟩ | ⟨h2, h⟩
    · skip
      obtain ⟨x3, h4, h⟩ := qaH h
      have h := Option.some.inj h; subst h
      exact qaN (fuel := 114) [rgG [oo], rgG [oo, oo], .br true, rgG [oo, oo, oo], rgG [oo], rgG [oo, oo], .br true, rgG [oo, oo, oo], rgG [oo, oo, oo], rgG [oo, oo, oo, opI (.sx x3), oo, oo, oo]] _ hn (by kernel_rfl) (aC h1 <| aC h2 <| aC (qa0 h4) <| aC (qtA h4 : qbQ[(wU1 (qdG .u32 (qdG .u32 x (16 : Int)) (8 : Int))).toNat]? = some x3) <| aN)
    · skip
      obtain ⟨x3, h4, h⟩ := qaH h
      have h := Option.some.inj h; subst h
      exact qaN (fuel := 102) [rgG [oo], rgG [oo, oo], .br true, rgG [oo, oo, oo], rgG [oo], rgG [oo, oo], .br false, rgG [oo, oo, oo, opI (.sx x3), oo, oo, oo]] _ hn (by kernel_rfl) (aC h1 <| aC h2 <| aC (qa0 h4) <| aC (qtA h4 : qbQ[(wU1 (qdG .u32 x (16 : Int))).toNat]? = some x3) <| aN)
  · skip
    rcases qaK h with ⟨h2, h⟩ | ⟨h2, h⟩
    · skip
      obtain ⟨x3, h4, h⟩ := qaH h
      have h := Option.some.inj h; subst h
      exact qaN (fuel := 102) [rgG [oo], rgG [oo, oo], .br false, rgG [oo, oo], .br true, rgG [oo, oo, oo], rgG [oo, oo, oo], rgG [oo, oo, oo, opI (.sx x3), oo, oo, oo]] _ hn (by kernel_rfl) (aC h1 <| aC h2 <| aC (qa0 h4) <| aC (qtA h4 : qbQ[(wU1 (qdG .u32 x (8 : Int))).toNat]? = some x3) <| aN)
    · skip
      obtain ⟨x3, h4, h⟩ := qaH h
      have h := Option.some.inj h; subst h
      exact qaN (fuel := 90) [rgG [oo], rgG [oo, oo], .br false, rgG [oo, oo], .br false, rgG [oo, oo, oo, opI (.sx x3), oo, oo, oo]] _ hn (by kernel_rfl) (aC h1 <| aC h2 <| aC (qa0 h4) <| aC (qtA h4 : qbQ[(wU1 x).toNat]? = some x3) <| aN)
theorem quT : ∀ K : Nat, math_bits_Len32_H K
  | 0, c, r, h => by rw [qeN] at h; cases h
  | K + 1, .c0 .., r, h => fun cx hn => math_bits_Len32_c0 (quT K) hn h
theorem math_bits_Len32_holds {K : Nat} {x : Int} {r : Int} (h : qhU K x = some r) : qcX prog 194 [(ti .u32 x)] (ti .i64 r) :=
  qa2 [[0]] (by kernel_rfl) (by simp) fun cx hn => quT K (.c0 x) r h cx hn
end Go.Am.X
namespace Go.Am.X
open Go.Proofs.Try (prog)
inductive qfQ where
  | c0 (x : Int)
def qdZ : Nat → qfQ → Option Int
  | 0, _ => none
  | K + 1, .c0 x =>
    (qhU K x).bind fun x1 =>
    some (wI6 ((32 : Int) - x1))
def qgZ (K : Nat) (x : Int) : Option Int := qdZ K (.c0 x)
noncomputable def qs8 : Code := qbN prog 187
noncomputable def qtV : qfQ → List Fr
  | .c0 .. => [.code qs8]
def quW : qfQ → St
  | .c0 x => St.init [(ti .u32 x)]
def qm3 (cx : Cx) (c : qfQ) (r : Int) : Prop := Wk prog cx (qcT prog 187 [[0]] (ti .i64 r)) (qtV c) .normal (quW c)
abbrev qm4 (K : Nat) : Prop := ∀ c r, qdZ K c = some r → ∀ cx : Cx, cx.n = 6 → qm3 cx c r
theorem quY {K} (_ : qm4 K) {cx} (hn : cx.n = 6) {x} {r} (h : qdZ (K + 1) (.c0 x) = some r) : qm3 cx (.c0 x) r := by
  rw [qdZ] at h
  obtain ⟨x1, h2, h⟩ := qaH h
  have h := Option.some.inj h; subst h
  exact qaN (fuel := 54) [rgG [oo], rgG [oo, opI (.call [[0]] [(ti .u32 x)] (ti .i64 x1)), oo, oo]] _ hn (by kernel_rfl) (aC (math_bits_Len32_holds h2) <| aN)
theorem qlP : ∀ K : Nat, qm4 K
  | 0, c, r, h => by rw [qdZ] at h; cases h
  | K + 1, .c0 .., r, h => fun cx hn => quY (qlP K) hn h
theorem qjW {K : Nat} {x : Int} {r : Int} (h : qgZ K x = some r) : qcX prog 187 [(ti .u32 x)] (ti .i64 r) :=
  qa2 [[0]] (by kernel_rfl) (by simp) fun cx hn => qlP K (.c0 x) r h cx hn
end Go.Am.X
namespace Go.Am.X
open Go.Proofs.Try (prog)
inductive qkF where
  | c0 (hi : Int) (lo : Int) (y : Int)
def qg0 : Nat → qkF → Option (Int × Int)
  | 0, _ => none
  | _ + 1, .c0 hi lo y =>
    bif (!decide (y = (0 : Int))) then
      bif (decide (y ≤ hi)) then
        none
      else
        gd ((wU6 y) ≠ 0) <|
        gd ((wU6 y) ≠ 0) <|
        some ((wU3 (wU6 (Int.tdiv (bits .or .u64 (qgQ .u64 (wU6 hi) (32 : Int)) (wU6 lo)) (wU6 y)))), (wU3 (Int.tmod (bits .or .u64 (qgQ .u64 (wU6 hi) (32 : Int)) (wU6 lo)) (wU6 y))))
    else
      gd ((wU6 y) ≠ 0) <|
      gd ((wU6 y) ≠ 0) <|
      some ((wU3 (wU6 (Int.tdiv (bits .or .u64 (qgQ .u64 (wU6 hi) (32 : Int)) (wU6 lo)) (wU6 y)))), (wU3 (Int.tmod (bits .or .u64 (qgQ .u64 (wU6 hi) (32 : Int)) (wU6 lo)) (wU6 y))))
def qqC (K : Nat) (hi : Int) (lo : Int) (y : Int) : Option (Int × Int) := qg0 K (.c0 hi lo y)
noncomputable def math_bits_Div32_body : Code := qbN prog 166
noncomputable def math_bits_Div32_pos : qkF → List Fr
  | .c0 .. => [.code math_bits_Div32_body]
def math_bits_Div32_st : qkF → St
  | .c0 hi lo y => St.init [(ti .u32 hi), (ti .u32 lo), (ti .u32 y)]
def math_bits_Div32_S (cx : Cx) (c : qkF) (r : (Int × Int)) : Prop := Wk prog cx (qcT prog 166 [[0], [0]] (TV.tup [(false, [(T.int .u32 r.1)]), (false, [(T.int .u32 r.2)])])) (math_bits_Div32_pos c) .normal (math_bits_Div32_st c)
abbrev math_bits_Div32_H (K : Nat) : Prop := ∀ c r, qg0 K c = some r → ∀ cx : Cx, cx.n = 33 → math_bits_Div32_S cx c r
theorem math_bits_Div32_c0 {K} (_ : math_bits_Div32_H K) {cx} (hn : cx.n = 33) {hi lo y} {r} (h : qg0 (K + 1) (.c0 hi lo y) = some r) : math_bits_Div32_S cx (.c0 hi lo y) r := by
  rw [qg0] at h
  rcases qaK h with ⟨h1, h⟩ | ⟨h1, h⟩
  · skip
    rcases qaK h with ⟨h2, h⟩ | ⟨h2, h⟩
    · skip
      cases h
    · skip
      obtain ⟨h3, h⟩ := qbE h
      obtain ⟨h4, h⟩ := qbE h
      have h := Option.some.inj h; subst h
      exact qaN (fuel := 80) [rgG [oo, oo], rgG [oo, oo, oo, .sb 11 true, oo, oo, oo, oo], .br false, rgG [oo, oo, oo, oo, oo, oo, oo], .draw [.p, .p, .p, .dv, .p, .p, .p, .p, .dv, .p, .p] [.op .p]] _ hn (by kernel_rfl) (aC h1 <| aC h2 <| aC h3 <| aC h4 <| aN)
  · skip
    obtain ⟨h2, h⟩ := qbE h
    obtain ⟨h3, h⟩ := qbE h
    have h := Option.some.inj h; subst h
    exact qaN (fuel := 80) [rgG [oo, oo], rgG [oo, oo, oo, .sb 11 false, oo, oo, oo, oo], .br false, rgG [oo, oo, oo, oo, oo, oo, oo], .draw [.p, .p, .p, .dv, .p, .p, .p, .p, .dv, .p, .p] [.op .p]] _ hn (by kernel_rfl) (aC h1 <| aC rf <| aC h2 <| aC h3 <| aN)
theorem quZ : ∀ K : Nat, math_bits_Div32_H K
  | 0, c, r, h => by rw [qg0] at h; cases h
  | K + 1, .c0 .., r, h => fun cx hn => math_bits_Div32_c0 (quZ K) hn h
theorem math_bits_Div32_holds {K : Nat} {hi : Int} {lo : Int} {y : Int} {r : (Int × Int)} (h : qqC K hi lo y = some r) : qcX prog 166 [(ti .u32 hi), (ti .u32 lo), (ti .u32 y)] (TV.tup [(false, [(T.int .u32 r.1)]), (false, [(T.int .u32 r.2)])]) :=
  qa2 [[0], [0]] (by kernel_rfl) (by simp) fun cx hn => quZ K (.c0 hi lo y) r h cx hn
end Go.Am.X
namespace Go.Am.X
open Go.Proofs.Try (prog)
inductive qiW where
  | c0 (a : (List Int)) (d : Int)
  | c1 (r16 : (List Int)) (a : (List Int)) (d : Int) (rest : Int) (i : Int)
def qcQ : Nat → qiW → Option ((List Int) × Int × Bool)
  | 0, _ => none
  | K + 1, .c0 a d =>
    bif (decide (d = (0 : Int))) then
      some ([], (0 : Int), false)
    else
      (qb5 K a).bind fun x2 =>
      gd (0 ≤ (x2.length : Int) ∧ (x2.length : Int) ≤ (x2.length : Int) ∧ (4 : Int) * (x2.length : Int) ≤ 140737488355328) <|
      qcQ K (.c1 (List.replicate (x2.length : Int).toNat ((0 : Int) : Int)) x2 d (0 : Int) (wI6 ((x2.length : Int) - (1 : Int))))
  | K + 1, .c1 r16 a d rest i =>
    bif (decide ((0 : Int) ≤ i)) then
      (gi a i).bind fun x2 =>
      (qqC K rest x2 d).bind fun x4 =>
      (gi r16 i).bind fun _ =>
      qcQ K (.c1 (r16.set (i.toNat) x4.1) a d x4.2 (wI6 (i - (1 : Int))))
    else
      (qb5 K r16).bind fun x2 =>
      some (x2, rest, true)
def qkM (K : Nat) (a : (List Int)) (d : Int) : Option ((List Int) × Int × Bool) := qcQ K (.c0 a d)
noncomputable def ql1 : Code := qbN prog 123
noncomputable def natural_DivSmall_pos : qiW → List Fr
  | .c0 .. => [.code ql1]
  | .c1 .. => [.code (.loop (atC ql1 [1,1,1,1,1,0,1,0,0])), .blk 0, .code (atC ql1 [1,1,1,1,1,1])]
def natural_DivSmall_st : qiW → St
  | .c0 a d => St.init [(tl 1 a qaC), (ti .u32 d)]
  | .c1 r16 a d rest i => ⟨[(0, vl 1 a qaC), (1, vi .u32 d), (7, .c (C.row 16 0 r16.length)), (8, vi .u32 rest), (9, vi .i64 i)], [(16, .row 101 1 (r16.map qaC) 0)], []⟩
def qpR (cx : Cx) (c : qiW) (r : ((List Int) × Int × Bool)) : Prop := Wk prog cx (qcT prog 123 [[1], [0], [0]] (TV.tup [(false, [(T.sl 1 (r.1.map qaC))]), (false, [(T.int .u32 r.2.1)]), (false, [(T.bool r.2.2)])])) (natural_DivSmall_pos c) .normal (natural_DivSmall_st c)
abbrev qpS (K : Nat) : Prop := ∀ c r, qcQ K c = some r → ∀ cx : Cx, cx.n = 40 → qpR cx c r
theorem natural_DivSmall_c0 {K} (ih : qpS K) {cx} (hn : cx.n = 40) {a d} {r} (h : qcQ (K + 1) (.c0 a d) = some r) : qpR cx (.c0 a d) r := by
  rw [qcQ] at h
  rcases qaK h with ⟨h1, h⟩ | ⟨h1, h⟩
  · skip
    have h := Option.some.inj h; subst h
    exact qaN (fuel := 72) [rgG [oo, oo, oo], rgG [oo, oo], .br true, rgG [oo, oo, oo]] _ hn (by kernel_rfl) (aC h1 <| aN)
  · skip
    obtain ⟨x2, h3, h⟩ := qaH h
    obtain ⟨h4, h⟩ := qbE h
    exact qaU (fuel := 98) [rgG [oo, oo, oo], rgG [oo, oo], .br false, rgG [oo, opI (.call [[1]] [(tl 1 a qaC)] (tl 1 x2 qaC)), oo], rgG [oo, opI (.ln (x2.length : Int)), opI (.mk (qaC (0 : Int)) ((List.replicate (x2.length : Int).toNat ((0 : Int) : Int)).map qaC)), oo], rgG [oo], rgG [oo, opI (.ln (x2.length : Int)), oo, oo], .pre [.rl 7 0 (List.replicate (x2.length : Int).toNat ((0 : Int) : Int)).length, .keep [0,1,7,8,9] [16]]] _ hn (by kernel_rfl) (aC h1 <| aC (qaR h3) <| aC (qaT x2 qaC) <| aC h4.1 <| aC h4.2.1 <| aC h4.2.2 <| aC (qf1 _ _ _ : List.replicate (x2.length : Int).toNat (qaC (0 : Int)) = (List.replicate (x2.length : Int).toNat ((0 : Int) : Int)).map qaC) <| aC (qaT x2 qaC) <| aC r0 <| aC (by simp : (x2.length : Int).toNat = (List.replicate (x2.length : Int).toNat ((0 : Int) : Int)).length) <| aN) (ih _ _ h cx hn)
theorem natural_DivSmall_c1 {K} (ih : qpS K) {cx} (hn : cx.n = 40) {r16 a d rest i} {r} (h : qcQ (K + 1) (.c1 r16 a d rest i) = some r) : qpR cx (.c1 r16 a d rest i) r := by
  rw [qcQ] at h
  rcases qaK h with ⟨h1, h⟩ | ⟨h1, h⟩
  · skip
    obtain ⟨x2, h3, h⟩ := qaH h
    obtain ⟨x4, h5, h⟩ := qaH h
    obtain ⟨x6, h7, h⟩ := qaH h
    exact qaU (fuel := 82) [.go, rgG [oo, oo], .br true, rgG [oo, oo, oo, oo, oo, opI (.ix (qaC x2)), oo, oo, opI (.call [[0], [0], [0]] [(ti .u32 rest), (ti .u32 x2), (ti .u32 d)] (TV.tup [(false, [(T.int .u32 x4.1)]), (false, [(T.int .u32 x4.2)])])), oo, oo, oo, .op .ir, opI (.st (qaC x6) ((r16.set (i.toNat) x4.1).map qaC)), oo], rgG [oo, oo, oo], .pre [.rl 7 0 (r16.set (i.toNat) x4.1).length, .keep [0,1,7,8,9] [16]]] _ hn (by kernel_rfl) (aC h1 <| aC (qa0 h3) <| aC (qbH qaC h3) <| aC (math_bits_Div32_holds h5) <| aC (qa0 h7) <| aC (qcH h7 (by simp) : i < ((r16.length : Nat) : Int)) <| aC (qcG qaC h7 : (r16.map qaC)[(0 + i.toNat)]? = some (qaC x6)) <| aC (qc7 _ _ x4.1 _ : (r16.map qaC).set (0 + i.toNat) (qbY (qaC x6) 0 [(T.int .u32 x4.1)]) = (r16.set (i.toNat) x4.1).map qaC) <| aC (Nat.zero_le _ : 0 ≤ (0 + i.toNat)) <| aC r0 <| aC (by simp : r16.length = (r16.set (i.toNat) x4.1).length) <| aN) (ih _ _ h cx hn)
  · skip
    obtain ⟨x2, h3, h⟩ := qaH h
    have h := Option.some.inj h; subst h
    exact qaN (fuel := 78) [.go, rgG [oo, oo], .br false, rgG [oo, .snap 37 (max 0 (0 + r16.length)) (r16.map qaC), opI (.call [[1]] [(tl 1 r16 qaC)] (tl 1 x2 qaC)), oo, oo, oo, oo]] _ hn (by kernel_rfl) (aC h1 <| aC (qbI _ _ _ (by simp) : ((r16.map qaC).drop 0).take r16.length = r16.map qaC) <| aC (rfl : (max 0 (0 + r16.length)) = (max 0 (0 + r16.length))) <| aC (qaR h3) <| aN)
theorem qm7 : ∀ K : Nat, qpS K
  | 0, c, r, h => by rw [qcQ] at h; cases h
  | K + 1, .c0 .., r, h => fun cx hn => natural_DivSmall_c0 (qm7 K) hn h
  | K + 1, .c1 .., r, h => fun cx hn => natural_DivSmall_c1 (qm7 K) hn h
theorem qhY {K : Nat} {a : (List Int)} {d : Int} {r : ((List Int) × Int × Bool)} (h : qkM K a d = some r) : qcX prog 123 [(tl 1 a qaC), (ti .u32 d)] (TV.tup [(false, [(T.sl 1 (r.1.map qaC))]), (false, [(T.int .u32 r.2.1)]), (false, [(T.bool r.2.2)])]) :=
  qa2 [[1], [0], [0]] (by kernel_rfl) (by simp) fun cx hn => qm7 K (.c0 a d) r h cx hn
end Go.Am.X
namespace Go.Am.X
open Go.Proofs.Try (prog)
inductive qfR where
  | c0 (row : (List Int))
  | c1 (r28 : (List Int)) (n : Int)
  | c2 (r28 : (List Int)) (n : Int)
def qbA : Nat → qfR → Option (Option Nat)
  | 0, _ => none
  | K + 1, .c0 row =>
    qbA K (.c1 row ((row.length : Nat) : Int))
  | K + 1, .c1 r28 n =>
    bif (decide ((0 : Int) < n)) then
      (gi r28 (wI6 (n - (1 : Int)))).bind fun x2 =>
      bif (decide (x2 = (0 : Int))) then
        qbA K (.c1 r28 (wI6 (n - (1 : Int))))
      else
        qbA K (.c2 r28 n)
    else
      qbA K (.c2 r28 n)
  | _ + 1, .c2 r28 n =>
    bif (decide (n = (0 : Int))) then
      some none
    else
      gd (0 ≤ n ∧ 0 ≤ n.toNat ∧ n.toNat ≤ r28.length ∧ (0 = 0 ∨ 0 < r28.length)) <|
      some (some (n.toNat - 0))
def qhS (K : Nat) (row : (List Int)) : Option (Option Nat) := qbA K (.c0 row)
noncomputable def qeP : Code := codeOf prog 144
noncomputable def natural_trim__row28_pos : qfR → List Fr
  | .c0 .. => [.code qeP]
  | .c1 .. => [.code (.loop (atC qeP [1,1,0,0,0])), .blk 0, .code (atC qeP [1,1,1])]
  | .c2 .. => [.code (atC qeP [1,1,1,0,0]), .code (atC qeP [1,1,1,0,1]), .code (atC qeP [1,1,1,1])]
def natural_trim__row28_st (H : List (Nat × Blk)) (exs : List V) : qfR → St
  | .c0 row => ⟨idxV 0 [.c (C.row 28 0 row.length)], [(28, .row 101 1 (row.map qaC) 0)] ++ H, exs⟩
  | .c1 r28 n => ⟨[(0, .c (C.row 28 0 r28.length)), (3, vi .i64 n)], [(28, .row 101 1 (r28.map qaC) 0)] ++ H, exs⟩
  | .c2 r28 n => ⟨[(0, .c (C.row 28 0 r28.length)), (3, vi .i64 n)], [(28, .row 101 1 (r28.map qaC) 0)] ++ H, exs⟩
def natural_trim__row28_row : qfR → List Int
  | .c0 row => row
  | .c1 r28 _ => r28
  | .c2 r28 _ => r28
def qiC (cx : Cx) (H : List (Nat × Blk)) (exs : List V) (c : qfR) (r : (Option Nat)) : Prop := Wk prog cx (EndsR prog 144 ([(28, .row 101 1 ((natural_trim__row28_row c).map qaC) 0)] ++ H) exs (rowRes 28 r)) (natural_trim__row28_pos c) .normal (natural_trim__row28_st H exs c)
abbrev qiD (K : Nat) : Prop := ∀ c r, qbA K c = some r → ∀ cx : Cx, cx.n = 23 → ∀ H exs, qiC cx H exs c r
theorem natural_trim__row28_c0 {K} (ih : qiD K) {cx} (hn : cx.n = 23) (H : List (Nat × Blk)) (exs : List V) {row} {r} (h : qbA (K + 1) (.c0 row) = some r) : qiC cx H exs (.c0 row) r := by
  rw [qbA] at h
  exact qaU (fuel := 56) [rgG [oo], rgG [oo, oo, oo], .pre [.rl 0 0 row.length, .keepT [0,3]]] _ hn (by kernel_rfl) (aC r0 <| aC (lq row) <| aN) (ih _ _ h cx hn H exs)
theorem natural_trim__row28_c1 {K} (ih : qiD K) {cx} (hn : cx.n = 23) (H : List (Nat × Blk)) (exs : List V) {r28 n} {r} (h : qbA (K + 1) (.c1 r28 n) = some r) : qiC cx H exs (.c1 r28 n) r := by
  rw [qbA] at h
  rcases qaK h with ⟨h1, h⟩ | ⟨h1, h⟩
  · skip
    obtain ⟨x2, h3, h⟩ := qaH h
    rcases qaK h with ⟨h4, h⟩ | ⟨h4, h⟩
    · skip
      exact qaU (fuel := 74) [.go, rgG [oo, oo, oo, .sb 8 true, oo, oo, oo, .op .ir, opI (.ld (qaC x2)), oo, oo], .br true, rgG [oo, oo, oo], .pre [.rl 0 0 r28.length, .keepT [0,3]]] _ hn (by kernel_rfl) (aC h1 <| aC (qa0 h3) <| aC (qcH h3 (by simp) : (wI6 (n - (1 : Int))) < ((r28.length : Nat) : Int)) <| aC (qcG qaC h3 : (r28.map qaC)[(0 + (wI6 (n - (1 : Int))).toNat)]? = some (qaC x2)) <| aC h4 <| aC r0 <| aC (lq r28) <| aN) (ih _ _ h cx hn H exs)
    · skip
      exact qaU (fuel := 72) [.go, rgG [oo, oo, oo, .sb 8 true, oo, oo, oo, .op .ir, opI (.ld (qaC x2)), oo, oo], .br false, .pre [.rl 0 0 r28.length, .keepT [0,3]]] _ hn (by kernel_rfl) (aC h1 <| aC (qa0 h3) <| aC (qcH h3 (by simp) : (wI6 (n - (1 : Int))) < ((r28.length : Nat) : Int)) <| aC (qcG qaC h3 : (r28.map qaC)[(0 + (wI6 (n - (1 : Int))).toNat)]? = some (qaC x2)) <| aC h4 <| aC r0 <| aC (lq r28) <| aN) (ih _ _ h cx hn H exs)
  · skip
    exact qaU (fuel := 72) [.go, rgG [oo, oo, oo, .sb 8 false, oo, oo, oo, oo, oo, oo, oo], .br false, .pre [.rl 0 0 r28.length, .keepT [0,3]]] _ hn (by kernel_rfl) (aC h1 <| aC rf <| aC r0 <| aC (lq r28) <| aN) (ih _ _ h cx hn H exs)
theorem natural_trim__row28_c2 {K} (_ : qiD K) {cx} (hn : cx.n = 23) (H : List (Nat × Blk)) (exs : List V) {r28 n} {r} (h : qbA (K + 1) (.c2 r28 n) = some r) : qiC cx H exs (.c2 r28 n) r := by
  rw [qbA] at h
  rcases qaK h with ⟨h1, h⟩ | ⟨h1, h⟩
  · skip
    have h := Option.some.inj h; subst h
    exact wk_retR (fuel := 60) [rgG [oo, oo], .br true, rgG [oo]]
      _
      ((28, .row 101 1 (r28.map qaC) 0) :: H) hn (by kernel_rfl) (aC h1 <| aN) (fun _ => rfl)
  · skip
    obtain ⟨h2, h⟩ := qbE h
    have h := Option.some.inj h; subst h
    exact wk_retR (fuel := 60) [rgG [oo, oo], .br false, rgG [oo, oo, opI (.slR 0 n.toNat 0 (n.toNat - 0)), oo]]
      _
      ((28, .row 101 1 (r28.map qaC) 0) :: H) hn (by kernel_rfl) (aC h1 <| aC r0 <| aC (⟨h2.1, rfl⟩ : 0 ≤ n ∧ n.toNat = n.toNat) <| aC h2.2.1 <| aC h2.2.2.1 <| aC h2.2.2.2 <| aC (rfl : 0 + 0 = 0) <| aC (rfl : n.toNat - 0 = (n.toNat - 0)) <| aN) (fun _ => rfl)
theorem qhA : ∀ K : Nat, qiD K
  | 0, c, r, h => by rw [qbA] at h; cases h
  | K + 1, .c0 .., r, h => fun cx hn H exs => natural_trim__row28_c0 (qhA K) hn H exs h
  | K + 1, .c1 .., r, h => fun cx hn H exs => natural_trim__row28_c1 (qhA K) hn H exs h
  | K + 1, .c2 .., r, h => fun cx hn H exs => natural_trim__row28_c2 (qhA K) hn H exs h
theorem qf2 {K : Nat} {row : List Int} {r : Option Nat} (h : qhS K row = some r) : HoldsR prog 144 [.c (C.row 28 0 row.length)] [(28, .row 101 1 (row.map qaC) 0)] [(28, .row 101 1 (row.map qaC) 0)] (rowRes 28 r) :=
  holdsR_wk (n := 23) (by kernel_rfl) (by simp) fun cx hn H exs => qhA K (.c0 row) r h cx hn H exs
end Go.Am.X
namespace Go.Am.X
open Go.Proofs.Try (prog)
inductive qlC where
  | c0 (a : (List Int)) (n : Int)
  | c1 (r28 : (List Int)) (shift : Int) (low : Int) (i : Int)
def qc8 : Nat → qlC → Option (Option (List Int))
  | 0, _ => none
  | K + 1, .c0 a n =>
    (qb5 K a).bind fun x1 =>
    bif (decide ((x1.length : Int) = (0 : Int))) then
      some none
    else
      gd (0 ≤ (wI6 ((wI6 ((wI6 (Int.tdiv (min (max n (0 : Int)) (16777216 : Int)) (32 : Int))) + (x1.length : Int))) + (1 : Int))) ∧ (wI6 ((wI6 ((wI6 (Int.tdiv (min (max n (0 : Int)) (16777216 : Int)) (32 : Int))) + (x1.length : Int))) + (1 : Int))) ≤ (wI6 ((wI6 ((wI6 (Int.tdiv (min (max n (0 : Int)) (16777216 : Int)) (32 : Int))) + (x1.length : Int))) + (1 : Int))) ∧ (4 : Int) * (wI6 ((wI6 ((wI6 (Int.tdiv (min (max n (0 : Int)) (16777216 : Int)) (32 : Int))) + (x1.length : Int))) + (1 : Int))) ≤ 140737488355328) <|
      gd (0 ≤ (wI6 (Int.tdiv (min (max n (0 : Int)) (16777216 : Int)) (32 : Int))) ∧ (wI6 (Int.tdiv (min (max n (0 : Int)) (16777216 : Int)) (32 : Int))).toNat ≤ (wI6 ((wI6 ((wI6 (Int.tdiv (min (max n (0 : Int)) (16777216 : Int)) (32 : Int))) + (x1.length : Int))) + (1 : Int))).toNat ∧ (wI6 ((wI6 ((wI6 (Int.tdiv (min (max n (0 : Int)) (16777216 : Int)) (32 : Int))) + (x1.length : Int))) + (1 : Int))).toNat ≤ (wI6 ((wI6 ((wI6 (Int.tdiv (min (max n (0 : Int)) (16777216 : Int)) (32 : Int))) + (x1.length : Int))) + (1 : Int))).toNat ∧ ((wI6 (Int.tdiv (min (max n (0 : Int)) (16777216 : Int)) (32 : Int))).toNat = 0 ∨ (wI6 (Int.tdiv (min (max n (0 : Int)) (16777216 : Int)) (32 : Int))).toNat < (wI6 ((wI6 ((wI6 (Int.tdiv (min (max n (0 : Int)) (16777216 : Int)) (32 : Int))) + (x1.length : Int))) + (1 : Int))).toNat)) <|
      gd ((0 + (wI6 (Int.tdiv (min (max n (0 : Int)) (16777216 : Int)) (32 : Int))).toNat) + ((wI6 ((wI6 ((wI6 (Int.tdiv (min (max n (0 : Int)) (16777216 : Int)) (32 : Int))) + (x1.length : Int))) + (1 : Int))).toNat - (wI6 (Int.tdiv (min (max n (0 : Int)) (16777216 : Int)) (32 : Int))).toNat) ≤ (List.replicate (wI6 ((wI6 ((wI6 (Int.tdiv (min (max n (0 : Int)) (16777216 : Int)) (32 : Int))) + (x1.length : Int))) + (1 : Int))).toNat ((0 : Int) : Int)).length) <|
      bif (decide ((0 : Int) < (Int.tmod (min (max n (0 : Int)) (16777216 : Int)) (32 : Int)))) then
        qc8 K (.c1 (qd6 (List.replicate (wI6 ((wI6 ((wI6 (Int.tdiv (min (max n (0 : Int)) (16777216 : Int)) (32 : Int))) + (x1.length : Int))) + (1 : Int))).toNat ((0 : Int) : Int)) (0 + (wI6 (Int.tdiv (min (max n (0 : Int)) (16777216 : Int)) (32 : Int))).toNat) ((wI6 ((wI6 ((wI6 (Int.tdiv (min (max n (0 : Int)) (16777216 : Int)) (32 : Int))) + (x1.length : Int))) + (1 : Int))).toNat - (wI6 (Int.tdiv (min (max n (0 : Int)) (16777216 : Int)) (32 : Int))).toNat) x1) (Int.tmod (min (max n (0 : Int)) (16777216 : Int)) (32 : Int)) (0 : Int) (wI6 (Int.tdiv (min (max n (0 : Int)) (16777216 : Int)) (32 : Int))))
      else
        (qhS K (qd6 (List.replicate (wI6 ((wI6 ((wI6 (Int.tdiv (min (max n (0 : Int)) (16777216 : Int)) (32 : Int))) + (x1.length : Int))) + (1 : Int))).toNat ((0 : Int) : Int)) (0 + (wI6 (Int.tdiv (min (max n (0 : Int)) (16777216 : Int)) (32 : Int))).toNat) ((wI6 ((wI6 ((wI6 (Int.tdiv (min (max n (0 : Int)) (16777216 : Int)) (32 : Int))) + (x1.length : Int))) + (1 : Int))).toNat - (wI6 (Int.tdiv (min (max n (0 : Int)) (16777216 : Int)) (32 : Int))).toNat) x1)).bind fun x9 => match x9 with
        | none =>
          some none
        | some n10 =>
          gd (n10 ≤ (qd6 (List.replicate (wI6 ((wI6 ((wI6 (Int.tdiv (min (max n (0 : Int)) (16777216 : Int)) (32 : Int))) + (x1.length : Int))) + (1 : Int))).toNat ((0 : Int) : Int)) (0 + (wI6 (Int.tdiv (min (max n (0 : Int)) (16777216 : Int)) (32 : Int))).toNat) ((wI6 ((wI6 ((wI6 (Int.tdiv (min (max n (0 : Int)) (16777216 : Int)) (32 : Int))) + (x1.length : Int))) + (1 : Int))).toNat - (wI6 (Int.tdiv (min (max n (0 : Int)) (16777216 : Int)) (32 : Int))).toNat) x1).length) <|
          some (some ((qd6 (List.replicate (wI6 ((wI6 ((wI6 (Int.tdiv (min (max n (0 : Int)) (16777216 : Int)) (32 : Int))) + (x1.length : Int))) + (1 : Int))).toNat ((0 : Int) : Int)) (0 + (wI6 (Int.tdiv (min (max n (0 : Int)) (16777216 : Int)) (32 : Int))).toNat) ((wI6 ((wI6 ((wI6 (Int.tdiv (min (max n (0 : Int)) (16777216 : Int)) (32 : Int))) + (x1.length : Int))) + (1 : Int))).toNat - (wI6 (Int.tdiv (min (max n (0 : Int)) (16777216 : Int)) (32 : Int))).toNat) x1).take n10))
  | K + 1, .c1 r28 shift low i =>
    bif (decide (i < ((r28.length : Nat) : Int))) then
      (gi r28 i).bind fun x2 =>
      gd (0 ≤ shift) <|
      (gi r28 i).bind fun _ =>
      gd (0 ≤ (wI6 ((32 : Int) - shift))) <|
      qc8 K (.c1 (r28.set (i.toNat) (bits .or .u32 (qgQ .u32 x2 shift) low)) shift (qdG .u32 x2 (wI6 ((32 : Int) - shift))) (wI6 (i + (1 : Int))))
    else
      (qhS K r28).bind fun x3 => match x3 with
      | none =>
        some none
      | some n4 =>
        gd (n4 ≤ r28.length) <|
        some (some (r28.take n4))
def qr2 (K : Nat) (a : (List Int)) (n : Int) : Option (Option (List Int)) := qc8 K (.c0 a n)
noncomputable def qoQ : Code := codeOf prog 142
noncomputable def natural_Shl__N_pos : qlC → List Fr
  | .c0 .. => [.code qoQ]
  | .c1 .. => [.code (.loop (atC qoQ [1,1,1,1,1,1,1,0,1,0,1,1,0,0])), .blk 0, .code (atC qoQ [1,1,1,1,1,1,1,1])]
def natural_Shl__N_st : qlC → St
  | .c0 a n => St.init [(tl 1 a qaC), (ti .i64 n)]
  | .c1 r28 shift low i => ⟨[(6, vi .i64 shift), (7, .c (C.row 28 0 r28.length)), (8, vi .u32 low), (9, vi .i64 i)], [(28, .row 101 1 (r28.map qaC) 0)], []⟩
def qsX (cx : Cx) (c : qlC) (r : (Option (List Int))) : Prop := Wk prog cx (EndsN prog 142 101 1 (r.map fun l => l.map qaC)) (natural_Shl__N_pos c) .normal (natural_Shl__N_st c)
abbrev qsY (K : Nat) : Prop := ∀ c r, qc8 K c = some r → ∀ cx : Cx, cx.n = 61 → qsX cx c r
theorem natural_Shl__N_c0 {K} (ih : qsY K) {cx} (hn : cx.n = 61) {a n} {r} (h : qc8 (K + 1) (.c0 a n) = some r) : qsX cx (.c0 a n) r := by
  rw [qc8] at h
  obtain ⟨x1, h2, h⟩ := qaH h
  rcases qaK h with ⟨h3, h⟩ | ⟨h3, h⟩
  · skip
    have h := Option.some.inj h; subst h
    exact wk_retN0 (fuel := 80) [rgG [oo], rgG [oo, opI (.call [[1]] [(tl 1 a qaC)] (tl 1 x1 qaC)), oo], rgG [oo, opI (.ln (x1.length : Int)), oo], .br true, rgG [oo]] _ hn (by kernel_rfl) (aC (qaR h2) <| aC (qaT x1 qaC) <| aC h3 <| aN)
  · skip
    obtain ⟨h4, h⟩ := qbE h
    obtain ⟨h5, h⟩ := qbE h
    obtain ⟨h6, h⟩ := qbE h
    rcases qaK h with ⟨h7, h⟩ | ⟨h7, h⟩
    · skip
      exact qaU (fuel := 136) [rgG [oo], rgG [oo, opI (.call [[1]] [(tl 1 a qaC)] (tl 1 x1 qaC)), oo], rgG [oo, opI (.ln (x1.length : Int)), oo], .br false, rgG [oo, oo, oo, oo], rgG [oo, oo, oo, oo, oo, oo], rgG [oo, oo, opI (.ln (x1.length : Int)), oo, oo, opI (.mk (qaC (0 : Int)) ((List.replicate (wI6 ((wI6 ((wI6 (Int.tdiv (min (max n (0 : Int)) (16777216 : Int)) (32 : Int))) + (x1.length : Int))) + (1 : Int))).toNat ((0 : Int) : Int)).map qaC)), oo], rgG [oo, oo, opI (.slR ((wI6 (Int.tdiv (min (max n (0 : Int)) (16777216 : Int)) (32 : Int))).toNat) ((wI6 ((wI6 ((wI6 (Int.tdiv (min (max n (0 : Int)) (16777216 : Int)) (32 : Int))) + (x1.length : Int))) + (1 : Int))).toNat) (0 + (wI6 (Int.tdiv (min (max n (0 : Int)) (16777216 : Int)) (32 : Int))).toNat) ((wI6 ((wI6 ((wI6 (Int.tdiv (min (max n (0 : Int)) (16777216 : Int)) (32 : Int))) + (x1.length : Int))) + (1 : Int))).toNat - (wI6 (Int.tdiv (min (max n (0 : Int)) (16777216 : Int)) (32 : Int))).toNat)), oo, opI (.cp (x1.map qaC) ((qd6 (List.replicate (wI6 ((wI6 ((wI6 (Int.tdiv (min (max n (0 : Int)) (16777216 : Int)) (32 : Int))) + (x1.length : Int))) + (1 : Int))).toNat ((0 : Int) : Int)) (0 + (wI6 (Int.tdiv (min (max n (0 : Int)) (16777216 : Int)) (32 : Int))).toNat) ((wI6 ((wI6 ((wI6 (Int.tdiv (min (max n (0 : Int)) (16777216 : Int)) (32 : Int))) + (x1.length : Int))) + (1 : Int))).toNat - (wI6 (Int.tdiv (min (max n (0 : Int)) (16777216 : Int)) (32 : Int))).toNat) x1).map qaC) ((min x1.length ((wI6 ((wI6 ((wI6 (Int.tdiv (min (max n (0 : Int)) (16777216 : Int)) (32 : Int))) + (x1.length : Int))) + (1 : Int))).toNat - (wI6 (Int.tdiv (min (max n (0 : Int)) (16777216 : Int)) (32 : Int))).toNat) : Nat) : Int))], rgG [oo, oo], .br true, rgG [oo], rgG [oo, oo], .pre [.rl 7 0 (qd6 (List.replicate (wI6 ((wI6 ((wI6 (Int.tdiv (min (max n (0 : Int)) (16777216 : Int)) (32 : Int))) + (x1.length : Int))) + (1 : Int))).toNat ((0 : Int) : Int)) (0 + (wI6 (Int.tdiv (min (max n (0 : Int)) (16777216 : Int)) (32 : Int))).toNat) ((wI6 ((wI6 ((wI6 (Int.tdiv (min (max n (0 : Int)) (16777216 : Int)) (32 : Int))) + (x1.length : Int))) + (1 : Int))).toNat - (wI6 (Int.tdiv (min (max n (0 : Int)) (16777216 : Int)) (32 : Int))).toNat) x1).length, .keep [6,7,8,9] [28]]] _ hn (by kernel_rfl) (aC (qaR h2) <| aC (qaT x1 qaC) <| aC h3 <| aC (qaT x1 qaC) <| aC h4.1 <| aC h4.2.1 <| aC h4.2.2 <| aC (qf1 _ _ _ : List.replicate (wI6 ((wI6 ((wI6 (Int.tdiv (min (max n (0 : Int)) (16777216 : Int)) (32 : Int))) + (x1.length : Int))) + (1 : Int))).toNat (qaC (0 : Int)) = (List.replicate (wI6 ((wI6 ((wI6 (Int.tdiv (min (max n (0 : Int)) (16777216 : Int)) (32 : Int))) + (x1.length : Int))) + (1 : Int))).toNat ((0 : Int) : Int)).map qaC) <| aC (⟨h5.1, rfl⟩ : 0 ≤ (wI6 (Int.tdiv (min (max n (0 : Int)) (16777216 : Int)) (32 : Int))) ∧ (wI6 (Int.tdiv (min (max n (0 : Int)) (16777216 : Int)) (32 : Int))).toNat = (wI6 (Int.tdiv (min (max n (0 : Int)) (16777216 : Int)) (32 : Int))).toNat) <| aC (rfl : (wI6 ((wI6 ((wI6 (Int.tdiv (min (max n (0 : Int)) (16777216 : Int)) (32 : Int))) + (x1.length : Int))) + (1 : Int))).toNat = (wI6 ((wI6 ((wI6 (Int.tdiv (min (max n (0 : Int)) (16777216 : Int)) (32 : Int))) + (x1.length : Int))) + (1 : Int))).toNat) <| aC h5.2.1 <| aC h5.2.2.1 <| aC h5.2.2.2 <| aC (rfl : 0 + (wI6 (Int.tdiv (min (max n (0 : Int)) (16777216 : Int)) (32 : Int))).toNat = (0 + (wI6 (Int.tdiv (min (max n (0 : Int)) (16777216 : Int)) (32 : Int))).toNat)) <| aC (rfl : (wI6 ((wI6 ((wI6 (Int.tdiv (min (max n (0 : Int)) (16777216 : Int)) (32 : Int))) + (x1.length : Int))) + (1 : Int))).toNat - (wI6 (Int.tdiv (min (max n (0 : Int)) (16777216 : Int)) (32 : Int))).toNat = ((wI6 ((wI6 ((wI6 (Int.tdiv (min (max n (0 : Int)) (16777216 : Int)) (32 : Int))) + (x1.length : Int))) + (1 : Int))).toNat - (wI6 (Int.tdiv (min (max n (0 : Int)) (16777216 : Int)) (32 : Int))).toNat)) <| aC (rfl : x1.map qaC = x1.map qaC) <| aC (qrU _ _ _ _ _ h6 : qbY ((List.replicate (wI6 ((wI6 ((wI6 (Int.tdiv (min (max n (0 : Int)) (16777216 : Int)) (32 : Int))) + (x1.length : Int))) + (1 : Int))).toNat ((0 : Int) : Int)).map qaC) (0 + (wI6 (Int.tdiv (min (max n (0 : Int)) (16777216 : Int)) (32 : Int))).toNat) ((x1.map qaC).take (min (x1.map qaC).length ((wI6 ((wI6 ((wI6 (Int.tdiv (min (max n (0 : Int)) (16777216 : Int)) (32 : Int))) + (x1.length : Int))) + (1 : Int))).toNat - (wI6 (Int.tdiv (min (max n (0 : Int)) (16777216 : Int)) (32 : Int))).toNat))) = (qd6 (List.replicate (wI6 ((wI6 ((wI6 (Int.tdiv (min (max n (0 : Int)) (16777216 : Int)) (32 : Int))) + (x1.length : Int))) + (1 : Int))).toNat ((0 : Int) : Int)) (0 + (wI6 (Int.tdiv (min (max n (0 : Int)) (16777216 : Int)) (32 : Int))).toNat) ((wI6 ((wI6 ((wI6 (Int.tdiv (min (max n (0 : Int)) (16777216 : Int)) (32 : Int))) + (x1.length : Int))) + (1 : Int))).toNat - (wI6 (Int.tdiv (min (max n (0 : Int)) (16777216 : Int)) (32 : Int))).toNat) x1).map qaC) <| aC (by rw [qc4] : ((min (x1.map qaC).length ((wI6 ((wI6 ((wI6 (Int.tdiv (min (max n (0 : Int)) (16777216 : Int)) (32 : Int))) + (x1.length : Int))) + (1 : Int))).toNat - (wI6 (Int.tdiv (min (max n (0 : Int)) (16777216 : Int)) (32 : Int))).toNat) : Nat) : Int) = ((min x1.length ((wI6 ((wI6 ((wI6 (Int.tdiv (min (max n (0 : Int)) (16777216 : Int)) (32 : Int))) + (x1.length : Int))) + (1 : Int))).toNat - (wI6 (Int.tdiv (min (max n (0 : Int)) (16777216 : Int)) (32 : Int))).toNat) : Nat) : Int)) <| aC h7 <| aC r0 <| aC (by simp : (wI6 ((wI6 ((wI6 (Int.tdiv (min (max n (0 : Int)) (16777216 : Int)) (32 : Int))) + (x1.length : Int))) + (1 : Int))).toNat = (qd6 (List.replicate (wI6 ((wI6 ((wI6 (Int.tdiv (min (max n (0 : Int)) (16777216 : Int)) (32 : Int))) + (x1.length : Int))) + (1 : Int))).toNat ((0 : Int) : Int)) (0 + (wI6 (Int.tdiv (min (max n (0 : Int)) (16777216 : Int)) (32 : Int))).toNat) ((wI6 ((wI6 ((wI6 (Int.tdiv (min (max n (0 : Int)) (16777216 : Int)) (32 : Int))) + (x1.length : Int))) + (1 : Int))).toNat - (wI6 (Int.tdiv (min (max n (0 : Int)) (16777216 : Int)) (32 : Int))).toNat) x1).length) <| aN) (ih _ _ h cx hn)
    · skip
      obtain ⟨x9, h8, h⟩ := qaH h
      cases x9 with
      | none =>
        have h := Option.some.inj h; subst h
        exact wk_retN0 (fuel := 130) [rgG [oo], rgG [oo, opI (.call [[1]] [(tl 1 a qaC)] (tl 1 x1 qaC)), oo], rgG [oo, opI (.ln (x1.length : Int)), oo], .br false, rgG [oo, oo, oo, oo], rgG [oo, oo, oo, oo, oo, oo], rgG [oo, oo, opI (.ln (x1.length : Int)), oo, oo, opI (.mk (qaC (0 : Int)) ((List.replicate (wI6 ((wI6 ((wI6 (Int.tdiv (min (max n (0 : Int)) (16777216 : Int)) (32 : Int))) + (x1.length : Int))) + (1 : Int))).toNat ((0 : Int) : Int)).map qaC)), oo], rgG [oo, oo, opI (.slR ((wI6 (Int.tdiv (min (max n (0 : Int)) (16777216 : Int)) (32 : Int))).toNat) ((wI6 ((wI6 ((wI6 (Int.tdiv (min (max n (0 : Int)) (16777216 : Int)) (32 : Int))) + (x1.length : Int))) + (1 : Int))).toNat) (0 + (wI6 (Int.tdiv (min (max n (0 : Int)) (16777216 : Int)) (32 : Int))).toNat) ((wI6 ((wI6 ((wI6 (Int.tdiv (min (max n (0 : Int)) (16777216 : Int)) (32 : Int))) + (x1.length : Int))) + (1 : Int))).toNat - (wI6 (Int.tdiv (min (max n (0 : Int)) (16777216 : Int)) (32 : Int))).toNat)), oo, opI (.cp (x1.map qaC) ((qd6 (List.replicate (wI6 ((wI6 ((wI6 (Int.tdiv (min (max n (0 : Int)) (16777216 : Int)) (32 : Int))) + (x1.length : Int))) + (1 : Int))).toNat ((0 : Int) : Int)) (0 + (wI6 (Int.tdiv (min (max n (0 : Int)) (16777216 : Int)) (32 : Int))).toNat) ((wI6 ((wI6 ((wI6 (Int.tdiv (min (max n (0 : Int)) (16777216 : Int)) (32 : Int))) + (x1.length : Int))) + (1 : Int))).toNat - (wI6 (Int.tdiv (min (max n (0 : Int)) (16777216 : Int)) (32 : Int))).toNat) x1).map qaC) ((min x1.length ((wI6 ((wI6 ((wI6 (Int.tdiv (min (max n (0 : Int)) (16777216 : Int)) (32 : Int))) + (x1.length : Int))) + (1 : Int))).toNat - (wI6 (Int.tdiv (min (max n (0 : Int)) (16777216 : Int)) (32 : Int))).toNat) : Nat) : Int))], rgG [oo, oo], .br false, rgG [oo, .rl 59 0 (qd6 (List.replicate (wI6 ((wI6 ((wI6 (Int.tdiv (min (max n (0 : Int)) (16777216 : Int)) (32 : Int))) + (x1.length : Int))) + (1 : Int))).toNat ((0 : Int) : Int)) (0 + (wI6 (Int.tdiv (min (max n (0 : Int)) (16777216 : Int)) (32 : Int))).toNat) ((wI6 ((wI6 ((wI6 (Int.tdiv (min (max n (0 : Int)) (16777216 : Int)) (32 : Int))) + (x1.length : Int))) + (1 : Int))).toNat - (wI6 (Int.tdiv (min (max n (0 : Int)) (16777216 : Int)) (32 : Int))).toNat) x1).length, .callR [28] [(28, .row 101 1 ((qd6 (List.replicate (wI6 ((wI6 ((wI6 (Int.tdiv (min (max n (0 : Int)) (16777216 : Int)) (32 : Int))) + (x1.length : Int))) + (1 : Int))).toNat ((0 : Int) : Int)) (0 + (wI6 (Int.tdiv (min (max n (0 : Int)) (16777216 : Int)) (32 : Int))).toNat) ((wI6 ((wI6 ((wI6 (Int.tdiv (min (max n (0 : Int)) (16777216 : Int)) (32 : Int))) + (x1.length : Int))) + (1 : Int))).toNat - (wI6 (Int.tdiv (min (max n (0 : Int)) (16777216 : Int)) (32 : Int))).toNat) x1).map qaC) 0)] (.c C.nil), oo]] _ hn (by kernel_rfl) (aC (qaR h2) <| aC (qaT x1 qaC) <| aC h3 <| aC (qaT x1 qaC) <| aC h4.1 <| aC h4.2.1 <| aC h4.2.2 <| aC (qf1 _ _ _ : List.replicate (wI6 ((wI6 ((wI6 (Int.tdiv (min (max n (0 : Int)) (16777216 : Int)) (32 : Int))) + (x1.length : Int))) + (1 : Int))).toNat (qaC (0 : Int)) = (List.replicate (wI6 ((wI6 ((wI6 (Int.tdiv (min (max n (0 : Int)) (16777216 : Int)) (32 : Int))) + (x1.length : Int))) + (1 : Int))).toNat ((0 : Int) : Int)).map qaC) <| aC (⟨h5.1, rfl⟩ : 0 ≤ (wI6 (Int.tdiv (min (max n (0 : Int)) (16777216 : Int)) (32 : Int))) ∧ (wI6 (Int.tdiv (min (max n (0 : Int)) (16777216 : Int)) (32 : Int))).toNat = (wI6 (Int.tdiv (min (max n (0 : Int)) (16777216 : Int)) (32 : Int))).toNat) <| aC (rfl : (wI6 ((wI6 ((wI6 (Int.tdiv (min (max n (0 : Int)) (16777216 : Int)) (32 : Int))) + (x1.length : Int))) + (1 : Int))).toNat = (wI6 ((wI6 ((wI6 (Int.tdiv (min (max n (0 : Int)) (16777216 : Int)) (32 : Int))) + (x1.length : Int))) + (1 : Int))).toNat) <| aC h5.2.1 <| aC h5.2.2.1 <| aC h5.2.2.2 <| aC (rfl : 0 + (wI6 (Int.tdiv (min (max n (0 : Int)) (16777216 : Int)) (32 : Int))).toNat = (0 + (wI6 (Int.tdiv (min (max n (0 : Int)) (16777216 : Int)) (32 : Int))).toNat)) <| aC (rfl : (wI6 ((wI6 ((wI6 (Int.tdiv (min (max n (0 : Int)) (16777216 : Int)) (32 : Int))) + (x1.length : Int))) + (1 : Int))).toNat - (wI6 (Int.tdiv (min (max n (0 : Int)) (16777216 : Int)) (32 : Int))).toNat = ((wI6 ((wI6 ((wI6 (Int.tdiv (min (max n (0 : Int)) (16777216 : Int)) (32 : Int))) + (x1.length : Int))) + (1 : Int))).toNat - (wI6 (Int.tdiv (min (max n (0 : Int)) (16777216 : Int)) (32 : Int))).toNat)) <| aC (rfl : x1.map qaC = x1.map qaC) <| aC (qrU _ _ _ _ _ h6 : qbY ((List.replicate (wI6 ((wI6 ((wI6 (Int.tdiv (min (max n (0 : Int)) (16777216 : Int)) (32 : Int))) + (x1.length : Int))) + (1 : Int))).toNat ((0 : Int) : Int)).map qaC) (0 + (wI6 (Int.tdiv (min (max n (0 : Int)) (16777216 : Int)) (32 : Int))).toNat) ((x1.map qaC).take (min (x1.map qaC).length ((wI6 ((wI6 ((wI6 (Int.tdiv (min (max n (0 : Int)) (16777216 : Int)) (32 : Int))) + (x1.length : Int))) + (1 : Int))).toNat - (wI6 (Int.tdiv (min (max n (0 : Int)) (16777216 : Int)) (32 : Int))).toNat))) = (qd6 (List.replicate (wI6 ((wI6 ((wI6 (Int.tdiv (min (max n (0 : Int)) (16777216 : Int)) (32 : Int))) + (x1.length : Int))) + (1 : Int))).toNat ((0 : Int) : Int)) (0 + (wI6 (Int.tdiv (min (max n (0 : Int)) (16777216 : Int)) (32 : Int))).toNat) ((wI6 ((wI6 ((wI6 (Int.tdiv (min (max n (0 : Int)) (16777216 : Int)) (32 : Int))) + (x1.length : Int))) + (1 : Int))).toNat - (wI6 (Int.tdiv (min (max n (0 : Int)) (16777216 : Int)) (32 : Int))).toNat) x1).map qaC) <| aC (by rw [qc4] : ((min (x1.map qaC).length ((wI6 ((wI6 ((wI6 (Int.tdiv (min (max n (0 : Int)) (16777216 : Int)) (32 : Int))) + (x1.length : Int))) + (1 : Int))).toNat - (wI6 (Int.tdiv (min (max n (0 : Int)) (16777216 : Int)) (32 : Int))).toNat) : Nat) : Int) = ((min x1.length ((wI6 ((wI6 ((wI6 (Int.tdiv (min (max n (0 : Int)) (16777216 : Int)) (32 : Int))) + (x1.length : Int))) + (1 : Int))).toNat - (wI6 (Int.tdiv (min (max n (0 : Int)) (16777216 : Int)) (32 : Int))).toNat) : Nat) : Int)) <| aC h7 <| aC r0 <| aC (by simp : (wI6 ((wI6 ((wI6 (Int.tdiv (min (max n (0 : Int)) (16777216 : Int)) (32 : Int))) + (x1.length : Int))) + (1 : Int))).toNat = (qd6 (List.replicate (wI6 ((wI6 ((wI6 (Int.tdiv (min (max n (0 : Int)) (16777216 : Int)) (32 : Int))) + (x1.length : Int))) + (1 : Int))).toNat ((0 : Int) : Int)) (0 + (wI6 (Int.tdiv (min (max n (0 : Int)) (16777216 : Int)) (32 : Int))).toNat) ((wI6 ((wI6 ((wI6 (Int.tdiv (min (max n (0 : Int)) (16777216 : Int)) (32 : Int))) + (x1.length : Int))) + (1 : Int))).toNat - (wI6 (Int.tdiv (min (max n (0 : Int)) (16777216 : Int)) (32 : Int))).toNat) x1).length) <| aC (qf2 h8) <| aN)
      | some n10 =>
        obtain ⟨h11, h⟩ := qbE h
        have h := Option.some.inj h; subst h
        exact wk_retN1 (es := (((qd6 (List.replicate (wI6 ((wI6 ((wI6 (Int.tdiv (min (max n (0 : Int)) (16777216 : Int)) (32 : Int))) + (x1.length : Int))) + (1 : Int))).toNat ((0 : Int) : Int)) (0 + (wI6 (Int.tdiv (min (max n (0 : Int)) (16777216 : Int)) (32 : Int))).toNat) ((wI6 ((wI6 ((wI6 (Int.tdiv (min (max n (0 : Int)) (16777216 : Int)) (32 : Int))) + (x1.length : Int))) + (1 : Int))).toNat - (wI6 (Int.tdiv (min (max n (0 : Int)) (16777216 : Int)) (32 : Int))).toNat) x1).take n10).map qaC)) (m := n10) (es0 := (qd6 (List.replicate (wI6 ((wI6 ((wI6 (Int.tdiv (min (max n (0 : Int)) (16777216 : Int)) (32 : Int))) + (x1.length : Int))) + (1 : Int))).toNat ((0 : Int) : Int)) (0 + (wI6 (Int.tdiv (min (max n (0 : Int)) (16777216 : Int)) (32 : Int))).toNat) ((wI6 ((wI6 ((wI6 (Int.tdiv (min (max n (0 : Int)) (16777216 : Int)) (32 : Int))) + (x1.length : Int))) + (1 : Int))).toNat - (wI6 (Int.tdiv (min (max n (0 : Int)) (16777216 : Int)) (32 : Int))).toNat) x1).map qaC) (fuel := 130) [rgG [oo], rgG [oo, opI (.call [[1]] [(tl 1 a qaC)] (tl 1 x1 qaC)), oo], rgG [oo, opI (.ln (x1.length : Int)), oo], .br false, rgG [oo, oo, oo, oo], rgG [oo, oo, oo, oo, oo, oo], rgG [oo, oo, opI (.ln (x1.length : Int)), oo, oo, opI (.mk (qaC (0 : Int)) ((List.replicate (wI6 ((wI6 ((wI6 (Int.tdiv (min (max n (0 : Int)) (16777216 : Int)) (32 : Int))) + (x1.length : Int))) + (1 : Int))).toNat ((0 : Int) : Int)).map qaC)), oo], rgG [oo, oo, opI (.slR ((wI6 (Int.tdiv (min (max n (0 : Int)) (16777216 : Int)) (32 : Int))).toNat) ((wI6 ((wI6 ((wI6 (Int.tdiv (min (max n (0 : Int)) (16777216 : Int)) (32 : Int))) + (x1.length : Int))) + (1 : Int))).toNat) (0 + (wI6 (Int.tdiv (min (max n (0 : Int)) (16777216 : Int)) (32 : Int))).toNat) ((wI6 ((wI6 ((wI6 (Int.tdiv (min (max n (0 : Int)) (16777216 : Int)) (32 : Int))) + (x1.length : Int))) + (1 : Int))).toNat - (wI6 (Int.tdiv (min (max n (0 : Int)) (16777216 : Int)) (32 : Int))).toNat)), oo, opI (.cp (x1.map qaC) ((qd6 (List.replicate (wI6 ((wI6 ((wI6 (Int.tdiv (min (max n (0 : Int)) (16777216 : Int)) (32 : Int))) + (x1.length : Int))) + (1 : Int))).toNat ((0 : Int) : Int)) (0 + (wI6 (Int.tdiv (min (max n (0 : Int)) (16777216 : Int)) (32 : Int))).toNat) ((wI6 ((wI6 ((wI6 (Int.tdiv (min (max n (0 : Int)) (16777216 : Int)) (32 : Int))) + (x1.length : Int))) + (1 : Int))).toNat - (wI6 (Int.tdiv (min (max n (0 : Int)) (16777216 : Int)) (32 : Int))).toNat) x1).map qaC) ((min x1.length ((wI6 ((wI6 ((wI6 (Int.tdiv (min (max n (0 : Int)) (16777216 : Int)) (32 : Int))) + (x1.length : Int))) + (1 : Int))).toNat - (wI6 (Int.tdiv (min (max n (0 : Int)) (16777216 : Int)) (32 : Int))).toNat) : Nat) : Int))], rgG [oo, oo], .br false, rgG [oo, .rl 59 0 (qd6 (List.replicate (wI6 ((wI6 ((wI6 (Int.tdiv (min (max n (0 : Int)) (16777216 : Int)) (32 : Int))) + (x1.length : Int))) + (1 : Int))).toNat ((0 : Int) : Int)) (0 + (wI6 (Int.tdiv (min (max n (0 : Int)) (16777216 : Int)) (32 : Int))).toNat) ((wI6 ((wI6 ((wI6 (Int.tdiv (min (max n (0 : Int)) (16777216 : Int)) (32 : Int))) + (x1.length : Int))) + (1 : Int))).toNat - (wI6 (Int.tdiv (min (max n (0 : Int)) (16777216 : Int)) (32 : Int))).toNat) x1).length, .callR [28] [(28, .row 101 1 ((qd6 (List.replicate (wI6 ((wI6 ((wI6 (Int.tdiv (min (max n (0 : Int)) (16777216 : Int)) (32 : Int))) + (x1.length : Int))) + (1 : Int))).toNat ((0 : Int) : Int)) (0 + (wI6 (Int.tdiv (min (max n (0 : Int)) (16777216 : Int)) (32 : Int))).toNat) ((wI6 ((wI6 ((wI6 (Int.tdiv (min (max n (0 : Int)) (16777216 : Int)) (32 : Int))) + (x1.length : Int))) + (1 : Int))).toNat - (wI6 (Int.tdiv (min (max n (0 : Int)) (16777216 : Int)) (32 : Int))).toNat) x1).map qaC) 0)] (.c (C.row 28 0 n10)), oo]] _ hn (by kernel_rfl) (aC (qaR h2) <| aC (qaT x1 qaC) <| aC h3 <| aC (qaT x1 qaC) <| aC h4.1 <| aC h4.2.1 <| aC h4.2.2 <| aC (qf1 _ _ _ : List.replicate (wI6 ((wI6 ((wI6 (Int.tdiv (min (max n (0 : Int)) (16777216 : Int)) (32 : Int))) + (x1.length : Int))) + (1 : Int))).toNat (qaC (0 : Int)) = (List.replicate (wI6 ((wI6 ((wI6 (Int.tdiv (min (max n (0 : Int)) (16777216 : Int)) (32 : Int))) + (x1.length : Int))) + (1 : Int))).toNat ((0 : Int) : Int)).map qaC) <| aC (⟨h5.1, rfl⟩ : 0 ≤ (wI6 (Int.tdiv (min (max n (0 : Int)) (16777216 : Int)) (32 : Int))) ∧ (wI6 (Int.tdiv (min (max n (0 : Int)) (16777216 : Int)) (32 : Int))).toNat = (wI6 (Int.tdiv (min (max n (0 : Int)) (16777216 : Int)) (32 : Int))).toNat) <| aC (rfl : (wI6 ((wI6 ((wI6 (Int.tdiv (min (max n (0 : Int)) (16777216 : Int)) (32 : Int))) + (x1.length : Int))) + (1 : Int))).toNat = (wI6 ((wI6 ((wI6 (Int.tdiv (min (max n (0 : Int)) (16777216 : Int)) (32 : Int))) + (x1.length : Int))) + (1 : Int))).toNat) <| aC h5.2.1 <| aC h5.2.2.1 <| aC h5.2.2.2 <| aC (rfl : 0 + (wI6 (Int.tdiv (min (max n (0 : Int)) (16777216 : Int)) (32 : Int))).toNat = (0 + (wI6 (Int.tdiv (min (max n (0 : Int)) (16777216 : Int)) (32 : Int))).toNat)) <| aC (rfl : (wI6 ((wI6 ((wI6 (Int.tdiv (min (max n (0 : Int)) (16777216 : Int)) (32 : Int))) + (x1.length : Int))) + (1 : Int))).toNat - (wI6 (Int.tdiv (min (max n (0 : Int)) (16777216 : Int)) (32 : Int))).toNat = ((wI6 ((wI6 ((wI6 (Int.tdiv (min (max n (0 : Int)) (16777216 : Int)) (32 : Int))) + (x1.length : Int))) + (1 : Int))).toNat - (wI6 (Int.tdiv (min (max n (0 : Int)) (16777216 : Int)) (32 : Int))).toNat)) <| aC (rfl : x1.map qaC = x1.map qaC) <| aC (qrU _ _ _ _ _ h6 : qbY ((List.replicate (wI6 ((wI6 ((wI6 (Int.tdiv (min (max n (0 : Int)) (16777216 : Int)) (32 : Int))) + (x1.length : Int))) + (1 : Int))).toNat ((0 : Int) : Int)).map qaC) (0 + (wI6 (Int.tdiv (min (max n (0 : Int)) (16777216 : Int)) (32 : Int))).toNat) ((x1.map qaC).take (min (x1.map qaC).length ((wI6 ((wI6 ((wI6 (Int.tdiv (min (max n (0 : Int)) (16777216 : Int)) (32 : Int))) + (x1.length : Int))) + (1 : Int))).toNat - (wI6 (Int.tdiv (min (max n (0 : Int)) (16777216 : Int)) (32 : Int))).toNat))) = (qd6 (List.replicate (wI6 ((wI6 ((wI6 (Int.tdiv (min (max n (0 : Int)) (16777216 : Int)) (32 : Int))) + (x1.length : Int))) + (1 : Int))).toNat ((0 : Int) : Int)) (0 + (wI6 (Int.tdiv (min (max n (0 : Int)) (16777216 : Int)) (32 : Int))).toNat) ((wI6 ((wI6 ((wI6 (Int.tdiv (min (max n (0 : Int)) (16777216 : Int)) (32 : Int))) + (x1.length : Int))) + (1 : Int))).toNat - (wI6 (Int.tdiv (min (max n (0 : Int)) (16777216 : Int)) (32 : Int))).toNat) x1).map qaC) <| aC (by rw [qc4] : ((min (x1.map qaC).length ((wI6 ((wI6 ((wI6 (Int.tdiv (min (max n (0 : Int)) (16777216 : Int)) (32 : Int))) + (x1.length : Int))) + (1 : Int))).toNat - (wI6 (Int.tdiv (min (max n (0 : Int)) (16777216 : Int)) (32 : Int))).toNat) : Nat) : Int) = ((min x1.length ((wI6 ((wI6 ((wI6 (Int.tdiv (min (max n (0 : Int)) (16777216 : Int)) (32 : Int))) + (x1.length : Int))) + (1 : Int))).toNat - (wI6 (Int.tdiv (min (max n (0 : Int)) (16777216 : Int)) (32 : Int))).toNat) : Nat) : Int)) <| aC h7 <| aC r0 <| aC (by simp : (wI6 ((wI6 ((wI6 (Int.tdiv (min (max n (0 : Int)) (16777216 : Int)) (32 : Int))) + (x1.length : Int))) + (1 : Int))).toNat = (qd6 (List.replicate (wI6 ((wI6 ((wI6 (Int.tdiv (min (max n (0 : Int)) (16777216 : Int)) (32 : Int))) + (x1.length : Int))) + (1 : Int))).toNat ((0 : Int) : Int)) (0 + (wI6 (Int.tdiv (min (max n (0 : Int)) (16777216 : Int)) (32 : Int))).toNat) ((wI6 ((wI6 ((wI6 (Int.tdiv (min (max n (0 : Int)) (16777216 : Int)) (32 : Int))) + (x1.length : Int))) + (1 : Int))).toNat - (wI6 (Int.tdiv (min (max n (0 : Int)) (16777216 : Int)) (32 : Int))).toNat) x1).length) <| aC (qf2 h8) <| aN) (by rw [List.length_map, List.length_take, Nat.min_eq_left h11]) (by rw [List.map_take])
theorem natural_Shl__N_c1 {K} (ih : qsY K) {cx} (hn : cx.n = 61) {r28 shift low i} {r} (h : qc8 (K + 1) (.c1 r28 shift low i) = some r) : qsX cx (.c1 r28 shift low i) r := by
  rw [qc8] at h
  rcases qaK h with ⟨h1, h⟩ | ⟨h1, h⟩
  · skip
    obtain ⟨x2, h3, h⟩ := qaH h
    obtain ⟨h4, h⟩ := qbE h
    obtain ⟨x5, h6, h⟩ := qaH h
    obtain ⟨h7, h⟩ := qbE h
    exact qaU (fuel := 98) [.go, rgG [oo, oo, oo, oo], .br true, rgG [oo, oo, .op .ir, opI (.ld (qaC x2)), oo], rgG [oo, oo, oo, oo, .op .dv, oo, oo, .op .ir, opI (.st (qaC x5) ((r28.set (i.toNat) (bits .or .u32 (qgQ .u32 x2 shift) low)).map qaC))], rgG [oo, oo, oo, .op .dv, oo], rgG [oo, oo, oo], .pre [.rl 7 0 (r28.set (i.toNat) (bits .or .u32 (qgQ .u32 x2 shift) low)).length, .keep [6,7,8,9] [28]]] _ hn (by kernel_rfl) (aC h1 <| aC (qa0 h3) <| aC (qcH h3 (by simp) : i < ((r28.length : Nat) : Int)) <| aC (qcG qaC h3 : (r28.map qaC)[(0 + i.toNat)]? = some (qaC x2)) <| aC h4 <| aC (qa0 h6) <| aC (qcH h6 (by simp) : i < ((r28.length : Nat) : Int)) <| aC (qcG qaC h6 : (r28.map qaC)[(0 + i.toNat)]? = some (qaC x5)) <| aC (qc7 _ _ (bits .or .u32 (qgQ .u32 x2 shift) low) _ : (r28.map qaC).set (0 + i.toNat) (qbY (qaC x5) 0 [(T.int .u32 (bits .or .u32 (qgQ .u32 x2 shift) low))]) = (r28.set (i.toNat) (bits .or .u32 (qgQ .u32 x2 shift) low)).map qaC) <| aC (Nat.zero_le _ : 0 ≤ (0 + i.toNat)) <| aC h7 <| aC r0 <| aC (by simp : r28.length = (r28.set (i.toNat) (bits .or .u32 (qgQ .u32 x2 shift) low)).length) <| aN) (ih _ _ h cx hn)
  · skip
    obtain ⟨x3, h2, h⟩ := qaH h
    cases x3 with
    | none =>
      have h := Option.some.inj h; subst h
      exact wk_retN0 (fuel := 78) [.go, rgG [oo, oo, oo, oo], .br false, rgG [oo, .rl 59 0 r28.length, .callR [28] [(28, .row 101 1 (r28.map qaC) 0)] (.c C.nil), oo]] _ hn (by kernel_rfl) (aC h1 <| aC r0 <| aC (lq r28) <| aC (qf2 h2) <| aN)
    | some n4 =>
      obtain ⟨h5, h⟩ := qbE h
      have h := Option.some.inj h; subst h
      exact wk_retN1 (es := ((r28.take n4).map qaC)) (m := n4) (es0 := r28.map qaC) (fuel := 78) [.go, rgG [oo, oo, oo, oo], .br false, rgG [oo, .rl 59 0 r28.length, .callR [28] [(28, .row 101 1 (r28.map qaC) 0)] (.c (C.row 28 0 n4)), oo]] _ hn (by kernel_rfl) (aC h1 <| aC r0 <| aC (lq r28) <| aC (qf2 h2) <| aN) (by rw [List.length_map, List.length_take, Nat.min_eq_left h5]) (by rw [List.map_take])
theorem qpM : ∀ K : Nat, qsY K
  | 0, c, r, h => by rw [qc8] at h; cases h
  | K + 1, .c0 .., r, h => fun cx hn => natural_Shl__N_c0 (qpM K) hn h
  | K + 1, .c1 .., r, h => fun cx hn => natural_Shl__N_c1 (qpM K) hn h
theorem qsG {K : Nat} {a : (List Int)} {n : Int} {r : (Option (List Int))} (h : qr2 K a n = some r) : HoldsN prog 142 [(tl 1 a qaC), (ti .i64 n)] 101 1 (r.map fun l => l.map qaC) :=
  holdsN_wk (n := 61) (by kernel_rfl) (by simp) fun cx hn => qpM K (.c0 a n) r h cx hn
end Go.Am.X
namespace Go.Am.X
open Go.Proofs.Try (prog)
inductive qpL where
  | c0 (a : (List Int)) (n : Int)
  | c1 (r25 : (List Int)) (shift : Int) (t29 : Int) (t30 : Int)
  | c2 (shift : Int) (t29 : Int) (t30 : Int)
  | c3 (r25 : (List Int)) (shift : Int) (t29 : Int) (t30 : Int)
def qcF : Nat → qpL → Option (List Int)
  | 0, _ => none
  | K + 1, .c0 a n =>
    (qb5 K a).bind fun x1 =>
    bif (decide ((x1.length : Int) ≤ (wI6 (Int.tdiv (max n (0 : Int)) (32 : Int))))) then
      some []
    else
      gd (0 ≤ (wI6 (Int.tdiv (max n (0 : Int)) (32 : Int))) ∧ (wI6 (Int.tdiv (max n (0 : Int)) (32 : Int))).toNat ≤ x1.length ∧ x1.length ≤ x1.length) <|
      bif (decide (0 < ((x1.take x1.length).drop ((wI6 (Int.tdiv (max n (0 : Int)) (32 : Int))).toNat)).length)) then
        gd (((x1.take x1.length).drop ((wI6 (Int.tdiv (max n (0 : Int)) (32 : Int))).toNat)).length * 4 ≤ 140737488355328) <|
        bif (decide ((0 : Int) < (Int.tmod (max n (0 : Int)) (32 : Int)))) then
          qcF K (.c1 ((x1.take x1.length).drop ((wI6 (Int.tdiv (max n (0 : Int)) (32 : Int))).toNat)) (Int.tmod (max n (0 : Int)) (32 : Int)) (((((x1.take x1.length).drop ((wI6 (Int.tdiv (max n (0 : Int)) (32 : Int))).toNat)).map qaC).length : Nat) : Int) (0 : Int))
        else
          (qb5 K ((x1.take x1.length).drop ((wI6 (Int.tdiv (max n (0 : Int)) (32 : Int))).toNat))).bind fun x8 =>
          some x8
      else
        bif (decide ((0 : Int) < (Int.tmod (max n (0 : Int)) (32 : Int)))) then
          qcF K (.c2 (Int.tmod (max n (0 : Int)) (32 : Int)) (0 : Int) (0 : Int))
        else
          (qb5 K []).bind fun x8 =>
          some x8
  | K + 1, .c1 r25 shift t29 t30 =>
    bif (decide (t30 < t29)) then
      bif (decide ((wI6 (t30 + (1 : Int))) < ((r25.length : Nat) : Int))) then
        (gi r25 (wI6 (t30 + (1 : Int)))).bind fun x3 =>
        gd (0 ≤ (wI6 ((32 : Int) - shift))) <|
        (gi r25 t30).bind fun x6 =>
        gd (0 ≤ shift) <|
        (gi r25 t30).bind fun _ =>
        qcF K (.c3 (r25.set (t30.toNat) (bits .or .u32 (qdG .u32 x6 shift) (qgQ .u32 x3 (wI6 ((32 : Int) - shift))))) shift t29 t30)
      else
        (gi r25 t30).bind fun x3 =>
        gd (0 ≤ shift) <|
        (gi r25 t30).bind fun _ =>
        qcF K (.c3 (r25.set (t30.toNat) (bits .or .u32 (qdG .u32 x3 shift) (0 : Int))) shift t29 t30)
    else
      (qb5 K r25).bind fun x2 =>
      some x2
  | K + 1, .c2 _ t29 t30 =>
    bif (decide (t30 < t29)) then
      bif (decide ((wI6 (t30 + (1 : Int))) < (0 : Int))) then
        none
      else
        none
    else
      (qb5 K []).bind fun x2 =>
      some x2
  | K + 1, .c3 r25 shift t29 t30 =>
    qcF K (.c1 r25 shift t29 (wI6 (t30 + (1 : Int))))
def quB (K : Nat) (a : (List Int)) (n : Int) : Option (List Int) := qcF K (.c0 a n)
noncomputable def qf0 : Code := qbN prog 189
noncomputable def natural_Shr_pos : qpL → List Fr
  | .c0 .. => [.code qf0]
  | .c1 .. => [.code (.loop (atC qf0 [1,1,1,1,1,1,0,1,0,1,0,0])), .blk 0, .code (atC qf0 [1,1,1,1,1,1,1])]
  | .c2 .. => [.code (.loop (atC qf0 [1,1,1,1,1,1,0,1,0,1,0,0])), .blk 0, .code (atC qf0 [1,1,1,1,1,1,1])]
  | .c3 .. => [.code (atC qf0 [1,1,1,1,1,1,0,1,0,1,0,0,1,1,1]), .lp (atC qf0 [1,1,1,1,1,1,0,1,0,1,0,0]), .blk 0, .code (atC qf0 [1,1,1,1,1,1,1])]
def natural_Shr_st : qpL → St
  | .c0 a n => St.init [(tl 1 a qaC), (ti .i64 n)]
  | .c1 r25 shift t29 t30 => ⟨[(6, vi .i64 shift), (7, .c (C.row 25 0 r25.length)), (29, vi .i64 t29), (30, vi .i64 t30)], [(25, .row 101 1 (r25.map qaC) 0)], []⟩
  | .c2 shift t29 t30 => ⟨[(6, vi .i64 shift), (7, .c (C.nil)), (29, vi .i64 t29), (30, vi .i64 t30)], [], []⟩
  | .c3 r25 shift t29 t30 => ⟨[(6, vi .i64 shift), (7, .c (C.row 25 0 r25.length)), (29, vi .i64 t29), (30, vi .i64 t30)], [(25, .row 101 1 (r25.map qaC) 0)], []⟩
def qpJ (cx : Cx) (c : qpL) (r : (List Int)) : Prop := Wk prog cx (qcT prog 189 [[1]] (tl 1 r qaC)) (natural_Shr_pos c) .normal (natural_Shr_st c)
abbrev qpK (K : Nat) : Prop := ∀ c r, qcF K c = some r → ∀ cx : Cx, cx.n = 60 → qpJ cx c r
theorem natural_Shr_c0 {K} (ih : qpK K) {cx} (hn : cx.n = 60) {a n} {r} (h : qcF (K + 1) (.c0 a n) = some r) : qpJ cx (.c0 a n) r := by
  rw [qcF] at h
  obtain ⟨x1, h2, h⟩ := qaH h
  rcases qaK h with ⟨h3, h⟩ | ⟨h3, h⟩
  · skip
    have h := Option.some.inj h; subst h
    exact qaN (fuel := 96) [rgG [oo], rgG [oo, opI (.call [[1]] [(tl 1 a qaC)] (tl 1 x1 qaC)), oo], rgG [oo, oo, oo], rgG [oo, oo, oo, oo, oo, oo], rgG [oo, oo, opI (.ln (x1.length : Int)), oo], .br true, rgG [oo]] _ hn (by kernel_rfl) (aC (qaR h2) <| aC (qaT x1 qaC) <| aC h3 <| aN)
  · skip
    obtain ⟨h4, h⟩ := qbE h
    rcases qaK h with ⟨h6, h⟩ | ⟨h6, h⟩
    · skip
      obtain ⟨h5, h⟩ := qbE h
      rcases qaK h with ⟨h7, h⟩ | ⟨h7, h⟩
      · skip
        exact qaU (fuel := 120) [rgG [oo], rgG [oo, opI (.call [[1]] [(tl 1 a qaC)] (tl 1 x1 qaC)), oo], rgG [oo, oo, oo], rgG [oo, oo, oo, oo, oo, oo], rgG [oo, oo, opI (.ln (x1.length : Int)), oo], .br false, rgG [oo, oo, opI (.slT ((wI6 (Int.tdiv (max n (0 : Int)) (32 : Int))).toNat) x1.length (((x1.take x1.length).drop ((wI6 (Int.tdiv (max n (0 : Int)) (32 : Int))).toNat)).map qaC)), opI (.appN (((x1.take x1.length).drop ((wI6 (Int.tdiv (max n (0 : Int)) (32 : Int))).toNat)).map qaC)), oo], rgG [oo, oo], .br true, rgG [oo, oo, oo], .pre [.rl 7 0 ((x1.take x1.length).drop ((wI6 (Int.tdiv (max n (0 : Int)) (32 : Int))).toNat)).length, .keep [6,7,29,30] [25]]] _ hn (by kernel_rfl) (aC (qaR h2) <| aC (qaT x1 qaC) <| aC h3 <| aC (⟨h4.1, rfl⟩ : 0 ≤ (wI6 (Int.tdiv (max n (0 : Int)) (32 : Int))) ∧ (wI6 (Int.tdiv (max n (0 : Int)) (32 : Int))).toNat = (wI6 (Int.tdiv (max n (0 : Int)) (32 : Int))).toNat) <| aC (by simp : x1.length = (x1.map qaC).length) <| aC h4.2.1 <| aC (ln_le _ h4.2.2 : x1.length ≤ (x1.map qaC).length) <| aC (tk_map _ _ _ _ : ((x1.map qaC).take x1.length).drop ((wI6 (Int.tdiv (max n (0 : Int)) (32 : Int))).toNat) = ((x1.take x1.length).drop ((wI6 (Int.tdiv (max n (0 : Int)) (32 : Int))).toNat)).map qaC) <| aC (rfl : ((x1.take x1.length).drop ((wI6 (Int.tdiv (max n (0 : Int)) (32 : Int))).toNat)).map qaC = ((x1.take x1.length).drop ((wI6 (Int.tdiv (max n (0 : Int)) (32 : Int))).toNat)).map qaC) <| aC ((qc4 _ _).symm ▸ of_decide_eq_true h6 : 0 < (((x1.take x1.length).drop ((wI6 (Int.tdiv (max n (0 : Int)) (32 : Int))).toNat)).map qaC).length) <| aC ((qc4 _ _).symm ▸ h5 : (((x1.take x1.length).drop ((wI6 (Int.tdiv (max n (0 : Int)) (32 : Int))).toNat)).map qaC).length * 4 ≤ 140737488355328) <| aC ((qc4 _ _).symm ▸ room (by decide) h5 : (((x1.take x1.length).drop ((wI6 (Int.tdiv (max n (0 : Int)) (32 : Int))).toNat)).map qaC).length ≤ maxLen) <| aC h7 <| aC r0 <| aC (by simp : (((x1.take x1.length).drop ((wI6 (Int.tdiv (max n (0 : Int)) (32 : Int))).toNat)).map qaC).length = ((x1.take x1.length).drop ((wI6 (Int.tdiv (max n (0 : Int)) (32 : Int))).toNat)).length) <| aN) (ih _ _ h cx hn)
      · skip
        obtain ⟨x8, h9, h⟩ := qaH h
        have h := Option.some.inj h; subst h
        exact qaN (fuel := 122) [rgG [oo], rgG [oo, opI (.call [[1]] [(tl 1 a qaC)] (tl 1 x1 qaC)), oo], rgG [oo, oo, oo], rgG [oo, oo, oo, oo, oo, oo], rgG [oo, oo, opI (.ln (x1.length : Int)), oo], .br false, rgG [oo, oo, opI (.slT ((wI6 (Int.tdiv (max n (0 : Int)) (32 : Int))).toNat) x1.length (((x1.take x1.length).drop ((wI6 (Int.tdiv (max n (0 : Int)) (32 : Int))).toNat)).map qaC)), opI (.appN (((x1.take x1.length).drop ((wI6 (Int.tdiv (max n (0 : Int)) (32 : Int))).toNat)).map qaC)), oo], rgG [oo, oo], .br false, rgG [oo, .snap 58 (max 0 (0 + (((x1.take x1.length).drop ((wI6 (Int.tdiv (max n (0 : Int)) (32 : Int))).toNat)).map qaC).length)) (((x1.take x1.length).drop ((wI6 (Int.tdiv (max n (0 : Int)) (32 : Int))).toNat)).map qaC), opI (.call [[1]] [(TV.c (T.sl 1 (((x1.take x1.length).drop ((wI6 (Int.tdiv (max n (0 : Int)) (32 : Int))).toNat)).map qaC)))] (tl 1 x8 qaC)), oo]] _ hn (by kernel_rfl) (aC (qaR h2) <| aC (qaT x1 qaC) <| aC h3 <| aC (⟨h4.1, rfl⟩ : 0 ≤ (wI6 (Int.tdiv (max n (0 : Int)) (32 : Int))) ∧ (wI6 (Int.tdiv (max n (0 : Int)) (32 : Int))).toNat = (wI6 (Int.tdiv (max n (0 : Int)) (32 : Int))).toNat) <| aC (by simp : x1.length = (x1.map qaC).length) <| aC h4.2.1 <| aC (ln_le _ h4.2.2 : x1.length ≤ (x1.map qaC).length) <| aC (tk_map _ _ _ _ : ((x1.map qaC).take x1.length).drop ((wI6 (Int.tdiv (max n (0 : Int)) (32 : Int))).toNat) = ((x1.take x1.length).drop ((wI6 (Int.tdiv (max n (0 : Int)) (32 : Int))).toNat)).map qaC) <| aC (rfl : ((x1.take x1.length).drop ((wI6 (Int.tdiv (max n (0 : Int)) (32 : Int))).toNat)).map qaC = ((x1.take x1.length).drop ((wI6 (Int.tdiv (max n (0 : Int)) (32 : Int))).toNat)).map qaC) <| aC ((qc4 _ _).symm ▸ of_decide_eq_true h6 : 0 < (((x1.take x1.length).drop ((wI6 (Int.tdiv (max n (0 : Int)) (32 : Int))).toNat)).map qaC).length) <| aC ((qc4 _ _).symm ▸ h5 : (((x1.take x1.length).drop ((wI6 (Int.tdiv (max n (0 : Int)) (32 : Int))).toNat)).map qaC).length * 4 ≤ 140737488355328) <| aC ((qc4 _ _).symm ▸ room (by decide) h5 : (((x1.take x1.length).drop ((wI6 (Int.tdiv (max n (0 : Int)) (32 : Int))).toNat)).map qaC).length ≤ maxLen) <| aC h7 <| aC (qbI _ _ _ (by simp) : ((((x1.take x1.length).drop ((wI6 (Int.tdiv (max n (0 : Int)) (32 : Int))).toNat)).map qaC).drop 0).take ((((x1.take x1.length).drop ((wI6 (Int.tdiv (max n (0 : Int)) (32 : Int))).toNat)).map qaC).length) = ((x1.take x1.length).drop ((wI6 (Int.tdiv (max n (0 : Int)) (32 : Int))).toNat)).map qaC) <| aC (rfl : (max 0 (0 + (((x1.take x1.length).drop ((wI6 (Int.tdiv (max n (0 : Int)) (32 : Int))).toNat)).map qaC).length)) = (max 0 (0 + (((x1.take x1.length).drop ((wI6 (Int.tdiv (max n (0 : Int)) (32 : Int))).toNat)).map qaC).length))) <| aC (qaR h9) <| aN)
    · skip
      rcases qaK h with ⟨h7, h⟩ | ⟨h7, h⟩
      · skip
        exact qaU (fuel := 120) [rgG [oo], rgG [oo, opI (.call [[1]] [(tl 1 a qaC)] (tl 1 x1 qaC)), oo], rgG [oo, oo, oo], rgG [oo, oo, oo, oo, oo, oo], rgG [oo, oo, opI (.ln (x1.length : Int)), oo], .br false, rgG [oo, oo, opI (.slT ((wI6 (Int.tdiv (max n (0 : Int)) (32 : Int))).toNat) x1.length (((x1.take x1.length).drop ((wI6 (Int.tdiv (max n (0 : Int)) (32 : Int))).toNat)).map qaC)), .op .app0, oo], rgG [oo, oo], .br true, rgG [oo, oo, oo], .pre [.keep [6,7,29,30] []]] _ hn (by kernel_rfl) (aC (qaR h2) <| aC (qaT x1 qaC) <| aC h3 <| aC (⟨h4.1, rfl⟩ : 0 ≤ (wI6 (Int.tdiv (max n (0 : Int)) (32 : Int))) ∧ (wI6 (Int.tdiv (max n (0 : Int)) (32 : Int))).toNat = (wI6 (Int.tdiv (max n (0 : Int)) (32 : Int))).toNat) <| aC (by simp : x1.length = (x1.map qaC).length) <| aC h4.2.1 <| aC (ln_le _ h4.2.2 : x1.length ≤ (x1.map qaC).length) <| aC (tk_map _ _ _ _ : ((x1.map qaC).take x1.length).drop ((wI6 (Int.tdiv (max n (0 : Int)) (32 : Int))).toNat) = ((x1.take x1.length).drop ((wI6 (Int.tdiv (max n (0 : Int)) (32 : Int))).toNat)).map qaC) <| aC (by rw [show ((x1.take x1.length).drop ((wI6 (Int.tdiv (max n (0 : Int)) (32 : Int))).toNat)) = [] from List.eq_nil_of_length_eq_zero (by have := of_decide_eq_false h6; omega)]; simp : ((x1.take x1.length).drop ((wI6 (Int.tdiv (max n (0 : Int)) (32 : Int))).toNat)).map qaC = []) <| aC h7 <| aN) (ih _ _ h cx hn)
      · skip
        obtain ⟨x8, h9, h⟩ := qaH h
        have h := Option.some.inj h; subst h
        exact qaN (fuel := 122) [rgG [oo], rgG [oo, opI (.call [[1]] [(tl 1 a qaC)] (tl 1 x1 qaC)), oo], rgG [oo, oo, oo], rgG [oo, oo, oo, oo, oo, oo], rgG [oo, oo, opI (.ln (x1.length : Int)), oo], .br false, rgG [oo, oo, opI (.slT ((wI6 (Int.tdiv (max n (0 : Int)) (32 : Int))).toNat) x1.length (((x1.take x1.length).drop ((wI6 (Int.tdiv (max n (0 : Int)) (32 : Int))).toNat)).map qaC)), .op .app0, oo], rgG [oo, oo], .br false, rgG [oo, opI (.call [[1]] [(TV.c (T.sl 1 ([].map qaC)))] (tl 1 x8 qaC)), oo]] _ hn (by kernel_rfl) (aC (qaR h2) <| aC (qaT x1 qaC) <| aC h3 <| aC (⟨h4.1, rfl⟩ : 0 ≤ (wI6 (Int.tdiv (max n (0 : Int)) (32 : Int))) ∧ (wI6 (Int.tdiv (max n (0 : Int)) (32 : Int))).toNat = (wI6 (Int.tdiv (max n (0 : Int)) (32 : Int))).toNat) <| aC (by simp : x1.length = (x1.map qaC).length) <| aC h4.2.1 <| aC (ln_le _ h4.2.2 : x1.length ≤ (x1.map qaC).length) <| aC (tk_map _ _ _ _ : ((x1.map qaC).take x1.length).drop ((wI6 (Int.tdiv (max n (0 : Int)) (32 : Int))).toNat) = ((x1.take x1.length).drop ((wI6 (Int.tdiv (max n (0 : Int)) (32 : Int))).toNat)).map qaC) <| aC (by rw [show ((x1.take x1.length).drop ((wI6 (Int.tdiv (max n (0 : Int)) (32 : Int))).toNat)) = [] from List.eq_nil_of_length_eq_zero (by have := of_decide_eq_false h6; omega)]; simp : ((x1.take x1.length).drop ((wI6 (Int.tdiv (max n (0 : Int)) (32 : Int))).toNat)).map qaC = []) <| aC h7 <| aC (qaR h9) <| aN)
theorem natural_Shr_c1 {K} (ih : qpK K) {cx} (hn : cx.n = 60) {r25 shift t29 t30} {r} (h : qcF (K + 1) (.c1 r25 shift t29 t30) = some r) : qpJ cx (.c1 r25 shift t29 t30) r := by
  rw [qcF] at h
  rcases qaK h with ⟨h1, h⟩ | ⟨h1, h⟩
  · skip
    rcases qaK h with ⟨h2, h⟩ | ⟨h2, h⟩
    · skip
      obtain ⟨x3, h4, h⟩ := qaH h
      obtain ⟨h5, h⟩ := qbE h
      obtain ⟨x6, h7, h⟩ := qaH h
      obtain ⟨h8, h⟩ := qbE h
      obtain ⟨x9, h10, h⟩ := qaH h
      exact qaU (fuel := 112) [.go, rgG [oo], .br true, rgG [oo, oo], rgG [oo], rgG [oo, oo, oo, oo, oo], .br true, rgG [oo, oo, oo, .op .ir, opI (.ld (qaC x3)), oo, oo, .op .dv, oo], rgG [oo, oo, oo, oo, .op .ir, opI (.ld (qaC x6)), oo, .op .dv, oo, oo, .op .ir, opI (.st (qaC x9) ((r25.set (t30.toNat) (bits .or .u32 (qdG .u32 x6 shift) (qgQ .u32 x3 (wI6 ((32 : Int) - shift))))).map qaC))], .pre [.rl 7 0 (r25.set (t30.toNat) (bits .or .u32 (qdG .u32 x6 shift) (qgQ .u32 x3 (wI6 ((32 : Int) - shift))))).length, .keep [6,7,29,30] [25]]] _ hn (by kernel_rfl) (aC h1 <| aC h2 <| aC (qa0 h4) <| aC (qcH h4 (by simp) : (wI6 (t30 + (1 : Int))) < ((r25.length : Nat) : Int)) <| aC (qcG qaC h4 : (r25.map qaC)[(0 + (wI6 (t30 + (1 : Int))).toNat)]? = some (qaC x3)) <| aC h5 <| aC (qa0 h7) <| aC (qcH h7 (by simp) : t30 < ((r25.length : Nat) : Int)) <| aC (qcG qaC h7 : (r25.map qaC)[(0 + t30.toNat)]? = some (qaC x6)) <| aC h8 <| aC (qa0 h10) <| aC (qcH h10 (by simp) : t30 < ((r25.length : Nat) : Int)) <| aC (qcG qaC h10 : (r25.map qaC)[(0 + t30.toNat)]? = some (qaC x9)) <| aC (qc7 _ _ (bits .or .u32 (qdG .u32 x6 shift) (qgQ .u32 x3 (wI6 ((32 : Int) - shift)))) _ : (r25.map qaC).set (0 + t30.toNat) (qbY (qaC x9) 0 [(T.int .u32 (bits .or .u32 (qdG .u32 x6 shift) (qgQ .u32 x3 (wI6 ((32 : Int) - shift)))))]) = (r25.set (t30.toNat) (bits .or .u32 (qdG .u32 x6 shift) (qgQ .u32 x3 (wI6 ((32 : Int) - shift))))).map qaC) <| aC (Nat.zero_le _ : 0 ≤ (0 + t30.toNat)) <| aC r0 <| aC (by simp : r25.length = (r25.set (t30.toNat) (bits .or .u32 (qdG .u32 x6 shift) (qgQ .u32 x3 (wI6 ((32 : Int) - shift))))).length) <| aN) (ih _ _ h cx hn)
    · skip
      obtain ⟨x3, h4, h⟩ := qaH h
      obtain ⟨h5, h⟩ := qbE h
      obtain ⟨x6, h7, h⟩ := qaH h
      exact qaU (fuel := 108) [.go, rgG [oo], .br true, rgG [oo, oo], rgG [oo], rgG [oo, oo, oo, oo, oo], .br false, rgG [oo, oo, oo, oo, .op .ir, opI (.ld (qaC x3)), oo, .op .dv, oo, oo, .op .ir, opI (.st (qaC x6) ((r25.set (t30.toNat) (bits .or .u32 (qdG .u32 x3 shift) (0 : Int))).map qaC))], .pre [.rl 7 0 (r25.set (t30.toNat) (bits .or .u32 (qdG .u32 x3 shift) (0 : Int))).length, .keep [6,7,29,30] [25]]] _ hn (by kernel_rfl) (aC h1 <| aC h2 <| aC (qa0 h4) <| aC (qcH h4 (by simp) : t30 < ((r25.length : Nat) : Int)) <| aC (qcG qaC h4 : (r25.map qaC)[(0 + t30.toNat)]? = some (qaC x3)) <| aC h5 <| aC (qa0 h7) <| aC (qcH h7 (by simp) : t30 < ((r25.length : Nat) : Int)) <| aC (qcG qaC h7 : (r25.map qaC)[(0 + t30.toNat)]? = some (qaC x6)) <| aC (qc7 _ _ (bits .or .u32 (qdG .u32 x3 shift) (0 : Int)) _ : (r25.map qaC).set (0 + t30.toNat) (qbY (qaC x6) 0 [(T.int .u32 (bits .or .u32 (qdG .u32 x3 shift) (0 : Int)))]) = (r25.set (t30.toNat) (bits .or .u32 (qdG .u32 x3 shift) (0 : Int))).map qaC) <| aC (Nat.zero_le _ : 0 ≤ (0 + t30.toNat)) <| aC r0 <| aC (by simp : r25.length = (r25.set (t30.toNat) (bits .or .u32 (qdG .u32 x3 shift) (0 : Int))).length) <| aN) (ih _ _ h cx hn)
  · skip
    obtain ⟨x2, h3, h⟩ := qaH h
    have h := Option.some.inj h; subst h
    exact qaN (fuel := 78) [.go, rgG [oo], .br false, rgG [oo, .snap 58 (max 0 (0 + r25.length)) (r25.map qaC), opI (.call [[1]] [(tl 1 r25 qaC)] (tl 1 x2 qaC)), oo]] _ hn (by kernel_rfl) (aC h1 <| aC (qbI _ _ _ (by simp) : ((r25.map qaC).drop 0).take r25.length = r25.map qaC) <| aC (rfl : (max 0 (0 + r25.length)) = (max 0 (0 + r25.length))) <| aC (qaR h3) <| aN)
theorem natural_Shr_c2 {K} (_ : qpK K) {cx} (hn : cx.n = 60) {shift t29 t30} {r} (h : qcF (K + 1) (.c2 shift t29 t30) = some r) : qpJ cx (.c2 shift t29 t30) r := by
  rw [qcF] at h
  rcases qaK h with ⟨h1, h⟩ | ⟨h1, h⟩
  · skip
    rcases qaK h with ⟨h2, h⟩ | ⟨h2, h⟩
    · skip
      cases h
    · skip
      cases h
  · skip
    obtain ⟨x2, h3, h⟩ := qaH h
    have h := Option.some.inj h; subst h
    exact qaN (fuel := 78) [.go, rgG [oo], .br false, rgG [oo, opI (.call [[1]] [(TV.c (T.sl 1 ([].map qaC)))] (tl 1 x2 qaC)), oo]] _ hn (by kernel_rfl) (aC h1 <| aC (qaR h3) <| aN)
theorem natural_Shr_c3 {K} (ih : qpK K) {cx} (hn : cx.n = 60) {r25 shift t29 t30} {r} (h : qcF (K + 1) (.c3 r25 shift t29 t30) = some r) : qpJ cx (.c3 r25 shift t29 t30) r := by
  rw [qcF] at h
  exact qaU (fuel := 44) [rgG [oo, oo], .pre [.rl 7 0 r25.length, .keep [6,7,29,30] [25]]] _ hn (by kernel_rfl) (aC r0 <| aC (lq r25) <| aN) (ih _ _ h cx hn)
theorem qlZ : ∀ K : Nat, qpK K
  | 0, c, r, h => by rw [qcF] at h; cases h
  | K + 1, .c0 .., r, h => fun cx hn => natural_Shr_c0 (qlZ K) hn h
  | K + 1, .c1 .., r, h => fun cx hn => natural_Shr_c1 (qlZ K) hn h
  | K + 1, .c2 .., r, h => fun cx hn => natural_Shr_c2 (qlZ K) hn h
  | K + 1, .c3 .., r, h => fun cx hn => natural_Shr_c3 (qlZ K) hn h
theorem natural_Shr_holds {K : Nat} {a : (List Int)} {n : Int} {r : (List Int)} (h : quB K a n = some r) : qcX prog 189 [(tl 1 a qaC), (ti .i64 n)] (tl 1 r qaC) :=
  qa2 [[1]] (by kernel_rfl) (by simp) fun cx hn => qlZ K (.c0 a n) r h cx hn
end Go.Am.X
namespace Go.Am.X
open Go.Proofs.Try (prog)
inductive qmX where
  | c0 (a : (List Int)) (b : (List Int))
  | c1 (r66 : (List Int)) (r71 : (List Int)) (n : Int) (shift : Int) (v : (List Int)) (top : Int) (next : Int) (j : Int)
  | c2 (r64 : (List Int)) (r71 : (List Int)) (n : Int) (shift : Int) (v : (List Int)) (top : Int) (next : Int) (j : Int)
  | c3 (r66 : (List Int)) (r71 : (List Int)) (n : Int) (shift : Int) (v : (List Int)) (top : Int) (next : Int) (j : Int) (guess : Int) (rest : Int)
  | c4 (r64 : (List Int)) (r71 : (List Int)) (n : Int) (shift : Int) (v : (List Int)) (top : Int) (next : Int) (j : Int) (guess : Int) (rest : Int)
  | c5 (r66 : (List Int)) (r71 : (List Int)) (n : Int) (shift : Int) (v : (List Int)) (top : Int) (next : Int) (j : Int) (guess : Int)
  | c6 (r64 : (List Int)) (r71 : (List Int)) (n : Int) (shift : Int) (v : (List Int)) (top : Int) (next : Int) (j : Int) (guess : Int)
  | c7 (r66 : (List Int)) (r71 : (List Int)) (n : Int) (shift : Int) (v : (List Int)) (top : Int) (next : Int) (j : Int) (guess : Int) (carry : Int) (borrow : Int) (t141 : (List Int)) (t142 : Int) (t143 : Int)
  | c8 (r64 : (List Int)) (r71 : (List Int)) (n : Int) (shift : Int) (v : (List Int)) (top : Int) (next : Int) (j : Int) (guess : Int) (carry : Int) (borrow : Int) (t141 : (List Int)) (t142 : Int) (t143 : Int)
  | c9 (r66 : (List Int)) (r71 : (List Int)) (n : Int) (shift : Int) (v : (List Int)) (top : Int) (next : Int) (j : Int)
  | c10 (r66 : (List Int)) (r71 : (List Int)) (n : Int) (shift : Int) (v : (List Int)) (top : Int) (next : Int) (j : Int) (sum : Int) (t210 : (List Int)) (t211 : Int) (t212 : Int)
  | c11 (r64 : (List Int)) (r71 : (List Int)) (n : Int) (shift : Int) (v : (List Int)) (top : Int) (next : Int) (j : Int)
  | c12 (r64 : (List Int)) (r71 : (List Int)) (n : Int) (shift : Int) (v : (List Int)) (top : Int) (next : Int) (j : Int) (sum : Int) (t210 : (List Int)) (t211 : Int) (t212 : Int)
def qaL : Nat → qmX → Option ((List Int) × (List Int))
  | 0, _ => none
  | K + 1, .c0 a b =>
    (qhH K b).bind fun x1 =>
    (ql2 K a x1).bind fun x3 =>
    bif (decide (x3 < (0 : Int))) then
      (qhH K a).bind fun x6 =>
      some ([], x6)
    else
      bif (decide ((x1.length : Int) = (1 : Int))) then
        (gi x1 (0 : Int)).bind fun x7 =>
        (qkM K a x7).bind fun x9 =>
        (qtY K (wU6 x9.2.1)).bind fun x11 =>
        some (x9.1, x11)
      else
        (gi x1 (wI6 ((x1.length : Int) - (1 : Int)))).bind fun x7 =>
        (qgZ K x7).bind fun x9 =>
        (qq9 K x1 x9).bind fun x11 =>
        (qr2 K a x9).bind fun x13 => match x13 with
        | none =>
          gd (0 ≤ (wI6 ((((([(0 : Int)] : List Int).map qaC).length : Nat) : Int) - (x1.length : Int))) ∧ (wI6 ((((([(0 : Int)] : List Int).map qaC).length : Nat) : Int) - (x1.length : Int))) ≤ (wI6 ((((([(0 : Int)] : List Int).map qaC).length : Nat) : Int) - (x1.length : Int))) ∧ (4 : Int) * (wI6 ((((([(0 : Int)] : List Int).map qaC).length : Nat) : Int) - (x1.length : Int))) ≤ 140737488355328) <|
          (gi x11 (wI6 ((x1.length : Int) - (1 : Int)))).bind fun x17 =>
          (gi x11 (wI6 ((x1.length : Int) - (2 : Int)))).bind fun x19 =>
          qaL K (.c1 ([(0 : Int)] : List Int) (List.replicate (wI6 ((((([(0 : Int)] : List Int).map qaC).length : Nat) : Int) - (x1.length : Int))).toNat ((0 : Int) : Int)) (x1.length : Int) x9 x11 (wU6 x17) (wU6 x19) (wI6 ((wI6 ((((([(0 : Int)] : List Int).map qaC).length : Nat) : Int) - (x1.length : Int))) - (1 : Int))))
        | some l15 =>
          gd ((l15 ++ ([(0 : Int)] : List Int)).length * 4 ≤ 140737488355328) <|
          gd (0 ≤ (wI6 (((((l15 ++ ([(0 : Int)] : List Int)).map qaC).length : Nat) : Int) - (x1.length : Int))) ∧ (wI6 (((((l15 ++ ([(0 : Int)] : List Int)).map qaC).length : Nat) : Int) - (x1.length : Int))) ≤ (wI6 (((((l15 ++ ([(0 : Int)] : List Int)).map qaC).length : Nat) : Int) - (x1.length : Int))) ∧ (4 : Int) * (wI6 (((((l15 ++ ([(0 : Int)] : List Int)).map qaC).length : Nat) : Int) - (x1.length : Int))) ≤ 140737488355328) <|
          (gi x11 (wI6 ((x1.length : Int) - (1 : Int)))).bind fun x18 =>
          (gi x11 (wI6 ((x1.length : Int) - (2 : Int)))).bind fun x20 =>
          qaL K (.c2 (l15 ++ ([(0 : Int)] : List Int)) (List.replicate (wI6 (((((l15 ++ ([(0 : Int)] : List Int)).map qaC).length : Nat) : Int) - (x1.length : Int))).toNat ((0 : Int) : Int)) (x1.length : Int) x9 x11 (wU6 x18) (wU6 x20) (wI6 ((wI6 (((((l15 ++ ([(0 : Int)] : List Int)).map qaC).length : Nat) : Int) - (x1.length : Int))) - (1 : Int))))
  | K + 1, .c1 r66 r71 n shift v top next j =>
    bif (decide ((0 : Int) ≤ j)) then
      (gi r66 (wI6 (j + n))).bind fun x2 =>
      (gi r66 (wI6 ((wI6 (j + n)) - (1 : Int)))).bind fun x4 =>
      (ql8 K (0 : Int) (bits .or .u64 (qgQ .u64 (wU6 x2) (32 : Int)) (wU6 x4)) top).bind fun x6 =>
      qaL K (.c3 r66 r71 n shift v top next j x6.1 x6.2)
    else
      (qhH K r71).bind fun x2 =>
      gd (0 ≤ n ∧ 0 ≤ n.toNat ∧ n.toNat ≤ r66.length) <|
      (quB K (r66.take n.toNat) shift).bind fun x5 =>
      some (x2, x5)
  | K + 1, .c2 r64 r71 n shift v top next j =>
    bif (decide ((0 : Int) ≤ j)) then
      (gi r64 (wI6 (j + n))).bind fun x2 =>
      (gi r64 (wI6 ((wI6 (j + n)) - (1 : Int)))).bind fun x4 =>
      (ql8 K (0 : Int) (bits .or .u64 (qgQ .u64 (wU6 x2) (32 : Int)) (wU6 x4)) top).bind fun x6 =>
      qaL K (.c4 r64 r71 n shift v top next j x6.1 x6.2)
    else
      (qhH K r71).bind fun x2 =>
      gd (0 ≤ n ∧ 0 ≤ n.toNat ∧ n.toNat ≤ r64.length) <|
      (quB K (r64.take n.toNat) shift).bind fun x5 =>
      some (x2, x5)
  | K + 1, .c3 r66 r71 n shift v top next j guess rest =>
    bif (decide ((4294967296 : Int) ≤ guess)) then
      bif (decide ((4294967296 : Int) ≤ (wU6 (rest + top)))) then
        qaL K (.c5 r66 r71 n shift v top next j (wU6 (guess - (1 : Int))))
      else
        qaL K (.c3 r66 r71 n shift v top next j (wU6 (guess - (1 : Int))) (wU6 (rest + top)))
    else
      (gi r66 (wI6 ((wI6 (j + n)) - (2 : Int)))).bind fun x2 =>
      bif (decide ((bits .or .u64 (qgQ .u64 rest (32 : Int)) (wU6 x2)) < (wU6 (guess * next)))) then
        bif (decide ((4294967296 : Int) ≤ (wU6 (rest + top)))) then
          qaL K (.c5 r66 r71 n shift v top next j (wU6 (guess - (1 : Int))))
        else
          qaL K (.c3 r66 r71 n shift v top next j (wU6 (guess - (1 : Int))) (wU6 (rest + top)))
      else
        qaL K (.c5 r66 r71 n shift v top next j guess)
  | K + 1, .c4 r64 r71 n shift v top next j guess rest =>
    bif (decide ((4294967296 : Int) ≤ guess)) then
      bif (decide ((4294967296 : Int) ≤ (wU6 (rest + top)))) then
        qaL K (.c6 r64 r71 n shift v top next j (wU6 (guess - (1 : Int))))
      else
        qaL K (.c4 r64 r71 n shift v top next j (wU6 (guess - (1 : Int))) (wU6 (rest + top)))
    else
      (gi r64 (wI6 ((wI6 (j + n)) - (2 : Int)))).bind fun x2 =>
      bif (decide ((bits .or .u64 (qgQ .u64 rest (32 : Int)) (wU6 x2)) < (wU6 (guess * next)))) then
        bif (decide ((4294967296 : Int) ≤ (wU6 (rest + top)))) then
          qaL K (.c6 r64 r71 n shift v top next j (wU6 (guess - (1 : Int))))
        else
          qaL K (.c4 r64 r71 n shift v top next j (wU6 (guess - (1 : Int))) (wU6 (rest + top)))
      else
        qaL K (.c6 r64 r71 n shift v top next j guess)
  | K + 1, .c5 r66 r71 n shift v top next j guess =>
    qaL K (.c7 r66 r71 n shift v top next j guess (0 : Int) (0 : Int) v (v.length : Int) (0 : Int))
  | K + 1, .c6 r64 r71 n shift v top next j guess =>
    qaL K (.c8 r64 r71 n shift v top next j guess (0 : Int) (0 : Int) v (v.length : Int) (0 : Int))
  | K + 1, .c7 r66 r71 n shift v top next j guess carry borrow t141 t142 t143 =>
    bif (decide (t143 < t142)) then
      (gi t141 t143).bind fun x2 =>
      (gi r66 (wI6 (t143 + j))).bind fun x4 =>
      (gi r66 (wI6 (t143 + j))).bind fun _ =>
      qaL K (.c7 (r66.set ((wI6 (t143 + j)).toNat) (wU3 (wU6 ((wU6 ((wU6 x4) - borrow)) - (bits .and .u64 (wU6 ((wU6 (guess * (wU6 x2))) + carry)) (4294967295 : Int)))))) r71 n shift v top next j guess (qdG .u64 (wU6 ((wU6 (guess * (wU6 x2))) + carry)) (32 : Int)) (qdG .u64 (wU6 ((wU6 ((wU6 x4) - borrow)) - (bits .and .u64 (wU6 ((wU6 (guess * (wU6 x2))) + carry)) (4294967295 : Int)))) (63 : Int)) t141 t142 (wI6 (t143 + (1 : Int))))
    else
      (gi r66 (wI6 (j + n))).bind fun x2 =>
      (gi r66 (wI6 (j + n))).bind fun _ =>
      (gi r71 j).bind fun _ =>
      bif (decide ((qdG .u64 (wU6 ((wU6 ((wU6 x2) - borrow)) - carry)) (63 : Int)) = (0 : Int))) then
        qaL K (.c9 (r66.set ((wI6 (j + n)).toNat) (wU3 (wU6 ((wU6 ((wU6 x2) - borrow)) - carry)))) (r71.set (j.toNat) (wU3 guess)) n shift v top next j)
      else
        (gi (r71.set (j.toNat) (wU3 guess)) j).bind fun x9 =>
        (gi (r71.set (j.toNat) (wU3 guess)) j).bind fun _ =>
        qaL K (.c10 (r66.set ((wI6 (j + n)).toNat) (wU3 (wU6 ((wU6 ((wU6 x2) - borrow)) - carry)))) ((r71.set (j.toNat) (wU3 guess)).set (j.toNat) (wU3 (x9 - (1 : Int)))) n shift v top next j (0 : Int) v (v.length : Int) (0 : Int))
  | K + 1, .c8 r64 r71 n shift v top next j guess carry borrow t141 t142 t143 =>
    bif (decide (t143 < t142)) then
      (gi t141 t143).bind fun x2 =>
      (gi r64 (wI6 (t143 + j))).bind fun x4 =>
      (gi r64 (wI6 (t143 + j))).bind fun _ =>
      qaL K (.c8 (r64.set ((wI6 (t143 + j)).toNat) (wU3 (wU6 ((wU6 ((wU6 x4) - borrow)) - (bits .and .u64 (wU6 ((wU6 (guess * (wU6 x2))) + carry)) (4294967295 : Int)))))) r71 n shift v top next j guess (qdG .u64 (wU6 ((wU6 (guess * (wU6 x2))) + carry)) (32 : Int)) (qdG .u64 (wU6 ((wU6 ((wU6 x4) - borrow)) - (bits .and .u64 (wU6 ((wU6 (guess * (wU6 x2))) + carry)) (4294967295 : Int)))) (63 : Int)) t141 t142 (wI6 (t143 + (1 : Int))))
    else
      (gi r64 (wI6 (j + n))).bind fun x2 =>
      (gi r64 (wI6 (j + n))).bind fun _ =>
      (gi r71 j).bind fun _ =>
      bif (decide ((qdG .u64 (wU6 ((wU6 ((wU6 x2) - borrow)) - carry)) (63 : Int)) = (0 : Int))) then
        qaL K (.c11 (r64.set ((wI6 (j + n)).toNat) (wU3 (wU6 ((wU6 ((wU6 x2) - borrow)) - carry)))) (r71.set (j.toNat) (wU3 guess)) n shift v top next j)
      else
        (gi (r71.set (j.toNat) (wU3 guess)) j).bind fun x9 =>
        (gi (r71.set (j.toNat) (wU3 guess)) j).bind fun _ =>
        qaL K (.c12 (r64.set ((wI6 (j + n)).toNat) (wU3 (wU6 ((wU6 ((wU6 x2) - borrow)) - carry)))) ((r71.set (j.toNat) (wU3 guess)).set (j.toNat) (wU3 (x9 - (1 : Int)))) n shift v top next j (0 : Int) v (v.length : Int) (0 : Int))
  | K + 1, .c9 r66 r71 n shift v top next j =>
    qaL K (.c1 r66 r71 n shift v top next (wI6 (j - (1 : Int))))
  | K + 1, .c10 r66 r71 n shift v top next j sum t210 t211 t212 =>
    bif (decide (t212 < t211)) then
      (gi t210 t212).bind fun x2 =>
      (gi r66 (wI6 (t212 + j))).bind fun x4 =>
      (qgS K x4 x2 sum).bind fun x6 =>
      (gi r66 (wI6 (t212 + j))).bind fun _ =>
      qaL K (.c10 (r66.set ((wI6 (t212 + j)).toNat) x6.1) r71 n shift v top next j x6.2 t210 t211 (wI6 (t212 + (1 : Int))))
    else
      (gi r66 (wI6 (j + n))).bind fun x2 =>
      (gi r66 (wI6 (j + n))).bind fun _ =>
      qaL K (.c9 (r66.set ((wI6 (j + n)).toNat) (wU3 (x2 + sum))) r71 n shift v top next j)
  | K + 1, .c11 r64 r71 n shift v top next j =>
    qaL K (.c2 r64 r71 n shift v top next (wI6 (j - (1 : Int))))
  | K + 1, .c12 r64 r71 n shift v top next j sum t210 t211 t212 =>
    bif (decide (t212 < t211)) then
      (gi t210 t212).bind fun x2 =>
      (gi r64 (wI6 (t212 + j))).bind fun x4 =>
      (qgS K x4 x2 sum).bind fun x6 =>
      (gi r64 (wI6 (t212 + j))).bind fun _ =>
      qaL K (.c12 (r64.set ((wI6 (t212 + j)).toNat) x6.1) r71 n shift v top next j x6.2 t210 t211 (wI6 (t212 + (1 : Int))))
    else
      (gi r64 (wI6 (j + n))).bind fun x2 =>
      (gi r64 (wI6 (j + n))).bind fun _ =>
      qaL K (.c11 (r64.set ((wI6 (j + n)).toNat) (wU3 (x2 + sum))) r71 n shift v top next j)
def qtX (K : Nat) (a : (List Int)) (b : (List Int)) : Option ((List Int) × (List Int)) := qaL K (.c0 a b)
noncomputable def qaO : Code := qbN prog 177
noncomputable def division_long_pos : qmX → List Fr
  | .c0 .. => [.code qaO]
  | .c1 .. => [.code (.loop (atC qaO [1,0,1,1,1,1,1,1,1,1,1,1,0,1,0,0])), .blk 0, .code (atC qaO [1,0,1,1,1,1,1,1,1,1,1,1,1]), .sc]
  | .c2 .. => [.code (.loop (atC qaO [1,0,1,1,1,1,1,1,1,1,1,1,0,1,0,0])), .blk 0, .code (atC qaO [1,0,1,1,1,1,1,1,1,1,1,1,1]), .sc]
  | .c3 .. => [.code (.loop (atC qaO [1,0,1,1,1,1,1,1,1,1,1,1,0,1,0,0,1,0,0,1,0,0,0])), .blk 2, .code (atC qaO [1,0,1,1,1,1,1,1,1,1,1,1,0,1,0,0,1,0,0,1,1]), .blk 1, .code (atC qaO [1,0,1,1,1,1,1,1,1,1,1,1,0,1,0,0,1,1]), .lp (atC qaO [1,0,1,1,1,1,1,1,1,1,1,1,0,1,0,0]), .blk 0, .code (atC qaO [1,0,1,1,1,1,1,1,1,1,1,1,1]), .sc]
  | .c4 .. => [.code (.loop (atC qaO [1,0,1,1,1,1,1,1,1,1,1,1,0,1,0,0,1,0,0,1,0,0,0])), .blk 2, .code (atC qaO [1,0,1,1,1,1,1,1,1,1,1,1,0,1,0,0,1,0,0,1,1]), .blk 1, .code (atC qaO [1,0,1,1,1,1,1,1,1,1,1,1,0,1,0,0,1,1]), .lp (atC qaO [1,0,1,1,1,1,1,1,1,1,1,1,0,1,0,0]), .blk 0, .code (atC qaO [1,0,1,1,1,1,1,1,1,1,1,1,1]), .sc]
  | .c5 .. => [.code (atC qaO [1,0,1,1,1,1,1,1,1,1,1,1,0,1,0,0,1,0,0,1,1,0]), .code (atC qaO [1,0,1,1,1,1,1,1,1,1,1,1,0,1,0,0,1,0,0,1,1,1]), .blk 1, .code (atC qaO [1,0,1,1,1,1,1,1,1,1,1,1,0,1,0,0,1,1]), .lp (atC qaO [1,0,1,1,1,1,1,1,1,1,1,1,0,1,0,0]), .blk 0, .code (atC qaO [1,0,1,1,1,1,1,1,1,1,1,1,1]), .sc]
  | .c6 .. => [.code (atC qaO [1,0,1,1,1,1,1,1,1,1,1,1,0,1,0,0,1,0,0,1,1,0]), .code (atC qaO [1,0,1,1,1,1,1,1,1,1,1,1,0,1,0,0,1,0,0,1,1,1]), .blk 1, .code (atC qaO [1,0,1,1,1,1,1,1,1,1,1,1,0,1,0,0,1,1]), .lp (atC qaO [1,0,1,1,1,1,1,1,1,1,1,1,0,1,0,0]), .blk 0, .code (atC qaO [1,0,1,1,1,1,1,1,1,1,1,1,1]), .sc]
  | .c7 .. => [.code (.loop (atC qaO [1,0,1,1,1,1,1,1,1,1,1,1,0,1,0,0,1,0,0,1,1,1,0,1,0,0])), .blk 4, .code (atC qaO [1,0,1,1,1,1,1,1,1,1,1,1,0,1,0,0,1,0,0,1,1,1,1]), .blk 1, .code (atC qaO [1,0,1,1,1,1,1,1,1,1,1,1,0,1,0,0,1,1]), .lp (atC qaO [1,0,1,1,1,1,1,1,1,1,1,1,0,1,0,0]), .blk 0, .code (atC qaO [1,0,1,1,1,1,1,1,1,1,1,1,1]), .sc]
  | .c8 .. => [.code (.loop (atC qaO [1,0,1,1,1,1,1,1,1,1,1,1,0,1,0,0,1,0,0,1,1,1,0,1,0,0])), .blk 4, .code (atC qaO [1,0,1,1,1,1,1,1,1,1,1,1,0,1,0,0,1,0,0,1,1,1,1]), .blk 1, .code (atC qaO [1,0,1,1,1,1,1,1,1,1,1,1,0,1,0,0,1,1]), .lp (atC qaO [1,0,1,1,1,1,1,1,1,1,1,1,0,1,0,0]), .blk 0, .code (atC qaO [1,0,1,1,1,1,1,1,1,1,1,1,1]), .sc]
  | .c9 .. => [.code (atC qaO [1,0,1,1,1,1,1,1,1,1,1,1,0,1,0,0,1,1]), .lp (atC qaO [1,0,1,1,1,1,1,1,1,1,1,1,0,1,0,0]), .blk 0, .code (atC qaO [1,0,1,1,1,1,1,1,1,1,1,1,1]), .sc]
  | .c10 .. => [.code (.loop (atC qaO [1,0,1,1,1,1,1,1,1,1,1,1,0,1,0,0,1,0,0,1,1,1,1,1,1,1,1,1,1,0,1,0,0])), .blk 6, .code (atC qaO [1,0,1,1,1,1,1,1,1,1,1,1,0,1,0,0,1,0,0,1,1,1,1,1,1,1,1,1,1,1]), .blk 1, .code (atC qaO [1,0,1,1,1,1,1,1,1,1,1,1,0,1,0,0,1,1]), .lp (atC qaO [1,0,1,1,1,1,1,1,1,1,1,1,0,1,0,0]), .blk 0, .code (atC qaO [1,0,1,1,1,1,1,1,1,1,1,1,1]), .sc]
  | .c11 .. => [.code (atC qaO [1,0,1,1,1,1,1,1,1,1,1,1,0,1,0,0,1,1]), .lp (atC qaO [1,0,1,1,1,1,1,1,1,1,1,1,0,1,0,0]), .blk 0, .code (atC qaO [1,0,1,1,1,1,1,1,1,1,1,1,1]), .sc]
  | .c12 .. => [.code (.loop (atC qaO [1,0,1,1,1,1,1,1,1,1,1,1,0,1,0,0,1,0,0,1,1,1,1,1,1,1,1,1,1,0,1,0,0])), .blk 6, .code (atC qaO [1,0,1,1,1,1,1,1,1,1,1,1,0,1,0,0,1,0,0,1,1,1,1,1,1,1,1,1,1,1]), .blk 1, .code (atC qaO [1,0,1,1,1,1,1,1,1,1,1,1,0,1,0,0,1,1]), .lp (atC qaO [1,0,1,1,1,1,1,1,1,1,1,1,0,1,0,0]), .blk 0, .code (atC qaO [1,0,1,1,1,1,1,1,1,1,1,1,1]), .sc]
def division_long_st : qmX → St
  | .c0 a b => St.init [(tl 1 a qaC), (tl 1 b qaC)]
  | .c1 r66 r71 n shift v top next j => ⟨[(4, .c (C.row 71 0 r71.length)), (6, vi .i64 n), (10, vi .i64 shift), (11, vl 1 v qaC), (12, .c (C.row 66 0 r66.length)), (13, vi .u64 top), (14, vi .u64 next), (15, vi .i64 j)], [(66, .row 101 1 (r66.map qaC) 0), (71, .row 101 1 (r71.map qaC) 0)], []⟩
  | .c2 r64 r71 n shift v top next j => ⟨[(4, .c (C.row 71 0 r71.length)), (6, vi .i64 n), (10, vi .i64 shift), (11, vl 1 v qaC), (12, .c (C.row 64 0 r64.length)), (13, vi .u64 top), (14, vi .u64 next), (15, vi .i64 j)], [(64, .row 101 1 (r64.map qaC) 0), (71, .row 101 1 (r71.map qaC) 0)], []⟩
  | .c3 r66 r71 n shift v top next j guess rest => ⟨[(4, .c (C.row 71 0 r71.length)), (6, vi .i64 n), (10, vi .i64 shift), (11, vl 1 v qaC), (12, .c (C.row 66 0 r66.length)), (13, vi .u64 top), (14, vi .u64 next), (15, vi .i64 j), (16, vi .u64 guess), (17, vi .u64 rest)], [(66, .row 101 1 (r66.map qaC) 0), (71, .row 101 1 (r71.map qaC) 0)], []⟩
  | .c4 r64 r71 n shift v top next j guess rest => ⟨[(4, .c (C.row 71 0 r71.length)), (6, vi .i64 n), (10, vi .i64 shift), (11, vl 1 v qaC), (12, .c (C.row 64 0 r64.length)), (13, vi .u64 top), (14, vi .u64 next), (15, vi .i64 j), (16, vi .u64 guess), (17, vi .u64 rest)], [(64, .row 101 1 (r64.map qaC) 0), (71, .row 101 1 (r71.map qaC) 0)], []⟩
  | .c5 r66 r71 n shift v top next j guess => ⟨[(4, .c (C.row 71 0 r71.length)), (6, vi .i64 n), (10, vi .i64 shift), (11, vl 1 v qaC), (12, .c (C.row 66 0 r66.length)), (13, vi .u64 top), (14, vi .u64 next), (15, vi .i64 j), (16, vi .u64 guess)], [(66, .row 101 1 (r66.map qaC) 0), (71, .row 101 1 (r71.map qaC) 0)], []⟩
  | .c6 r64 r71 n shift v top next j guess => ⟨[(4, .c (C.row 71 0 r71.length)), (6, vi .i64 n), (10, vi .i64 shift), (11, vl 1 v qaC), (12, .c (C.row 64 0 r64.length)), (13, vi .u64 top), (14, vi .u64 next), (15, vi .i64 j), (16, vi .u64 guess)], [(64, .row 101 1 (r64.map qaC) 0), (71, .row 101 1 (r71.map qaC) 0)], []⟩
  | .c7 r66 r71 n shift v top next j guess carry borrow t141 t142 t143 => ⟨[(4, .c (C.row 71 0 r71.length)), (6, vi .i64 n), (10, vi .i64 shift), (11, vl 1 v qaC), (12, .c (C.row 66 0 r66.length)), (13, vi .u64 top), (14, vi .u64 next), (15, vi .i64 j), (16, vi .u64 guess), (18, vi .u64 carry), (19, vi .u64 borrow), (141, vl 1 t141 qaC), (142, vi .i64 t142), (143, vi .i64 t143)], [(66, .row 101 1 (r66.map qaC) 0), (71, .row 101 1 (r71.map qaC) 0)], []⟩
  | .c8 r64 r71 n shift v top next j guess carry borrow t141 t142 t143 => ⟨[(4, .c (C.row 71 0 r71.length)), (6, vi .i64 n), (10, vi .i64 shift), (11, vl 1 v qaC), (12, .c (C.row 64 0 r64.length)), (13, vi .u64 top), (14, vi .u64 next), (15, vi .i64 j), (16, vi .u64 guess), (18, vi .u64 carry), (19, vi .u64 borrow), (141, vl 1 t141 qaC), (142, vi .i64 t142), (143, vi .i64 t143)], [(64, .row 101 1 (r64.map qaC) 0), (71, .row 101 1 (r71.map qaC) 0)], []⟩
  | .c9 r66 r71 n shift v top next j => ⟨[(4, .c (C.row 71 0 r71.length)), (6, vi .i64 n), (10, vi .i64 shift), (11, vl 1 v qaC), (12, .c (C.row 66 0 r66.length)), (13, vi .u64 top), (14, vi .u64 next), (15, vi .i64 j)], [(66, .row 101 1 (r66.map qaC) 0), (71, .row 101 1 (r71.map qaC) 0)], []⟩
  | .c10 r66 r71 n shift v top next j sum t210 t211 t212 => ⟨[(4, .c (C.row 71 0 r71.length)), (6, vi .i64 n), (10, vi .i64 shift), (11, vl 1 v qaC), (12, .c (C.row 66 0 r66.length)), (13, vi .u64 top), (14, vi .u64 next), (15, vi .i64 j), (25, vi .u32 sum), (210, vl 1 t210 qaC), (211, vi .i64 t211), (212, vi .i64 t212)], [(66, .row 101 1 (r66.map qaC) 0), (71, .row 101 1 (r71.map qaC) 0)], []⟩
  | .c11 r64 r71 n shift v top next j => ⟨[(4, .c (C.row 71 0 r71.length)), (6, vi .i64 n), (10, vi .i64 shift), (11, vl 1 v qaC), (12, .c (C.row 64 0 r64.length)), (13, vi .u64 top), (14, vi .u64 next), (15, vi .i64 j)], [(64, .row 101 1 (r64.map qaC) 0), (71, .row 101 1 (r71.map qaC) 0)], []⟩
  | .c12 r64 r71 n shift v top next j sum t210 t211 t212 => ⟨[(4, .c (C.row 71 0 r71.length)), (6, vi .i64 n), (10, vi .i64 shift), (11, vl 1 v qaC), (12, .c (C.row 64 0 r64.length)), (13, vi .u64 top), (14, vi .u64 next), (15, vi .i64 j), (25, vi .u32 sum), (210, vl 1 t210 qaC), (211, vi .i64 t211), (212, vi .i64 t212)], [(64, .row 101 1 (r64.map qaC) 0), (71, .row 101 1 (r71.map qaC) 0)], []⟩
def qdQ (cx : Cx) (c : qmX) (r : ((List Int) × (List Int))) : Prop := Wk prog cx (qcT prog 177 [[1], [1]] (TV.tup [(false, [(T.sl 1 (r.1.map qaC))]), (false, [(T.sl 1 (r.2.map qaC))])])) (division_long_pos c) .normal (division_long_st c)
abbrev qdR (K : Nat) : Prop := ∀ c r, qaL K c = some r → ∀ cx : Cx, cx.n = 251 → qdQ cx c r
theorem division_long_c0 {K} (ih : qdR K) {cx} (hn : cx.n = 251) {a b} {r} (h : qaL (K + 1) (.c0 a b) = some r) : qdQ cx (.c0 a b) r := by
  rw [qaL] at h
  obtain ⟨x1, h2, h⟩ := qaH h
  obtain ⟨x3, h4, h⟩ := qaH h
  rcases qaK h with ⟨h5, h⟩ | ⟨h5, h⟩
  · skip
    obtain ⟨x6, h7, h⟩ := qaH h
    have h := Option.some.inj h; subst h
    exact qaN (fuel := 84) [rgG [oo, oo], rgG [oo, opI (.call [[1]] [(tl 1 b qaC)] (tl 1 x1 qaC)), oo], rgG [oo, oo, opI (.call [[1], [1]] [(tl 1 a qaC), (tl 1 x1 qaC)] (ti .i64 x3)), oo], .br true, rgG [oo, opI (.call [[1]] [(tl 1 a qaC)] (tl 1 x6 qaC)), oo, oo]] _ hn (by kernel_rfl) (aC (qeI h2) <| aC (qeB h4) <| aC h5 <| aC (qeI h7) <| aN)
  · skip
    rcases qaK h with ⟨h6, h⟩ | ⟨h6, h⟩
    · skip
      obtain ⟨x7, h8, h⟩ := qaH h
      obtain ⟨x9, h10, h⟩ := qaH h
      obtain ⟨x11, h12, h⟩ := qaH h
      have h := Option.some.inj h; subst h
      exact qaN (fuel := 118) [rgG [oo, oo], rgG [oo, opI (.call [[1]] [(tl 1 b qaC)] (tl 1 x1 qaC)), oo], rgG [oo, oo, opI (.call [[1], [1]] [(tl 1 a qaC), (tl 1 x1 qaC)] (ti .i64 x3)), oo], .br false, rgG [oo, opI (.ln (x1.length : Int)), oo], rgG [oo, oo], .br true, rgG [oo, oo, opI (.ix (qaC x7)), oo, opI (.call [[1], [0]] [(tl 1 a qaC), (ti .u32 x7)] (TV.tup [(false, [(T.sl 1 (x9.1.map qaC))]), (false, [(T.int .u32 x9.2.1)]), (false, [(T.bool x9.2.2)])])), oo, oo, oo, oo, oo, oo, oo], rgG [oo, oo, oo, opI (.call [[0]] [(TV.c (T.int .u64 (wU6 x9.2.1)))] (tl 1 x11 qaC)), oo, oo]] _ hn (by kernel_rfl) (aC (qeI h2) <| aC (qeB h4) <| aC h5 <| aC (qaT x1 qaC) <| aC h6 <| aC (qa0 h8) <| aC (qbH qaC h8) <| aC (qhY h10) <| aC (qsZ h12) <| aN)
    · skip
      obtain ⟨x7, h8, h⟩ := qaH h
      obtain ⟨x9, h10, h⟩ := qaH h
      obtain ⟨x11, h12, h⟩ := qaH h
      obtain ⟨x13, h14, h⟩ := qaH h
      cases x13 with
      | none =>
        obtain ⟨h16, h⟩ := qbE h
        obtain ⟨x17, h18, h⟩ := qaH h
        obtain ⟨x19, h20, h⟩ := qaH h
        exact qaU (fuel := 154) [rgG [oo, oo], rgG [oo, opI (.call [[1]] [(tl 1 b qaC)] (tl 1 x1 qaC)), oo], rgG [oo, oo, opI (.call [[1], [1]] [(tl 1 a qaC), (tl 1 x1 qaC)] (ti .i64 x3)), oo], .br false, rgG [oo, opI (.ln (x1.length : Int)), oo], rgG [oo, oo], .br false, rgG [oo, oo, oo, opI (.ix (qaC x7)), oo, opI (.call [[0]] [(ti .u32 x7)] (ti .i64 x9)), oo], rgG [oo, oo, opI (.call [[1], [0]] [(tl 1 x1 qaC), (ti .i64 x9)] (tl 1 x11 qaC)), oo], rgG [oo, oo, .callN [[1], [0]] 101 1 none, opI (.lit (([(0 : Int)] : List Int).map qaC)), opI (.appN (([(0 : Int)] : List Int).map qaC)), oo], rgG [oo, oo, oo, oo, opI (.mk (qaC (0 : Int)) ((List.replicate (wI6 ((((([(0 : Int)] : List Int).map qaC).length : Nat) : Int) - (x1.length : Int))).toNat ((0 : Int) : Int)).map qaC)), oo], .draw [.p, .p, .p, (.ix (qaC x17)), .p, .p, .p, .p, .p, (.ix (qaC x19)), .p, .p, .p] [.op .p], rgG [oo, oo, oo, oo, oo, oo], .pre [.rl 4 0 (List.replicate (wI6 ((((([(0 : Int)] : List Int).map qaC).length : Nat) : Int) - (x1.length : Int))).toNat ((0 : Int) : Int)).length, .rl 12 0 ([(0 : Int)] : List Int).length, .keep [4,6,10,11,12,13,14,15] [66,71]]] _ hn (by kernel_rfl) (aC (qeI h2) <| aC (qeB h4) <| aC h5 <| aC (qaT x1 qaC) <| aC h6 <| aC (qa0 h8) <| aC (qbH qaC h8) <| aC (qjW h10) <| aC (qi8 h12) <| aC (qsG h14) <| aC (by kernel_rfl : [(T.int .u32 (0 : Int))] = (([(0 : Int)] : List Int).map qaC).flatten) <| aC (qbI _ _ _ (by simp) : ((([(0 : Int)] : List Int).map qaC).drop 0).take 1 = ([(0 : Int)] : List Int).map qaC) <| aC (by simp : 0 < (([(0 : Int)] : List Int).map qaC).length) <| aC (by simp : (([(0 : Int)] : List Int).map qaC).length * 4 ≤ 140737488355328) <| aC (by simp [maxLen] : (([(0 : Int)] : List Int).map qaC).length ≤ maxLen) <| aC h16.1 <| aC h16.2.1 <| aC h16.2.2 <| aC (qf1 _ _ _ : List.replicate (wI6 ((((([(0 : Int)] : List Int).map qaC).length : Nat) : Int) - (x1.length : Int))).toNat (qaC (0 : Int)) = (List.replicate (wI6 ((((([(0 : Int)] : List Int).map qaC).length : Nat) : Int) - (x1.length : Int))).toNat ((0 : Int) : Int)).map qaC) <| aC (qa0 h18) <| aC (qbH qaC h18) <| aC (qa0 h20) <| aC (qbH qaC h20) <| aC r0 <| aC (by simp : (wI6 ((((([(0 : Int)] : List Int).map qaC).length : Nat) : Int) - (x1.length : Int))).toNat = (List.replicate (wI6 ((((([(0 : Int)] : List Int).map qaC).length : Nat) : Int) - (x1.length : Int))).toNat ((0 : Int) : Int)).length) <| aC r0 <| aC (by simp : (([(0 : Int)] : List Int).map qaC).length = ([(0 : Int)] : List Int).length) <| aN) (ih _ _ h cx hn)
      | some l15 =>
        obtain ⟨h16, h⟩ := qbE h
        obtain ⟨h17, h⟩ := qbE h
        obtain ⟨x18, h19, h⟩ := qaH h
        obtain ⟨x20, h21, h⟩ := qaH h
        exact qaU (fuel := 154) [rgG [oo, oo], rgG [oo, opI (.call [[1]] [(tl 1 b qaC)] (tl 1 x1 qaC)), oo], rgG [oo, oo, opI (.call [[1], [1]] [(tl 1 a qaC), (tl 1 x1 qaC)] (ti .i64 x3)), oo], .br false, rgG [oo, opI (.ln (x1.length : Int)), oo], rgG [oo, oo], .br false, rgG [oo, oo, oo, opI (.ix (qaC x7)), oo, opI (.call [[0]] [(ti .u32 x7)] (ti .i64 x9)), oo], rgG [oo, oo, opI (.call [[1], [0]] [(tl 1 x1 qaC), (ti .i64 x9)] (tl 1 x11 qaC)), oo], rgG [oo, oo, .callN [[1], [0]] 101 1 (some (l15.map qaC)), opI (.lit (([(0 : Int)] : List Int).map qaC)), .appR (([(0 : Int)] : List Int).map qaC) ((l15 ++ ([(0 : Int)] : List Int)).map qaC), oo], rgG [oo, oo, oo, oo, opI (.mk (qaC (0 : Int)) ((List.replicate (wI6 (((((l15 ++ ([(0 : Int)] : List Int)).map qaC).length : Nat) : Int) - (x1.length : Int))).toNat ((0 : Int) : Int)).map qaC)), oo], .draw [.p, .p, .p, (.ix (qaC x18)), .p, .p, .p, .p, .p, (.ix (qaC x20)), .p, .p, .p] [.op .p], rgG [oo, oo, oo, oo, oo, oo], .pre [.rl 4 0 (List.replicate (wI6 (((((l15 ++ ([(0 : Int)] : List Int)).map qaC).length : Nat) : Int) - (x1.length : Int))).toNat ((0 : Int) : Int)).length, .rl 12 0 (l15 ++ ([(0 : Int)] : List Int)).length, .keep [4,6,10,11,12,13,14,15] [64,71]]] _ hn (by kernel_rfl) (aC (qeI h2) <| aC (qeB h4) <| aC h5 <| aC (qaT x1 qaC) <| aC h6 <| aC (qa0 h8) <| aC (qbH qaC h8) <| aC (qjW h10) <| aC (qi8 h12) <| aC (qsG h14) <| aC (by kernel_rfl : [(T.int .u32 (0 : Int))] = (([(0 : Int)] : List Int).map qaC).flatten) <| aC (lq (l15.map qaC)) <| aC (qbI _ _ _ (by simp) : ((([(0 : Int)] : List Int).map qaC).drop 0).take 1 = ([(0 : Int)] : List Int).map qaC) <| aC (qmF _ _ _ : l15.map qaC ++ ([(0 : Int)] : List Int).map qaC = (l15 ++ ([(0 : Int)] : List Int)).map qaC) <| aC ((qc4 _ _).symm ▸ h16 : ((l15 ++ ([(0 : Int)] : List Int)).map qaC).length * 4 ≤ 140737488355328) <| aC ((qc4 _ _).symm ▸ room (by decide) h16 : ((l15 ++ ([(0 : Int)] : List Int)).map qaC).length ≤ maxLen) <| aC h17.1 <| aC h17.2.1 <| aC h17.2.2 <| aC (qf1 _ _ _ : List.replicate (wI6 (((((l15 ++ ([(0 : Int)] : List Int)).map qaC).length : Nat) : Int) - (x1.length : Int))).toNat (qaC (0 : Int)) = (List.replicate (wI6 (((((l15 ++ ([(0 : Int)] : List Int)).map qaC).length : Nat) : Int) - (x1.length : Int))).toNat ((0 : Int) : Int)).map qaC) <| aC (qa0 h19) <| aC (qbH qaC h19) <| aC (qa0 h21) <| aC (qbH qaC h21) <| aC r0 <| aC (by simp : (wI6 (((((l15 ++ ([(0 : Int)] : List Int)).map qaC).length : Nat) : Int) - (x1.length : Int))).toNat = (List.replicate (wI6 (((((l15 ++ ([(0 : Int)] : List Int)).map qaC).length : Nat) : Int) - (x1.length : Int))).toNat ((0 : Int) : Int)).length) <| aC r0 <| aC (by simp : ((l15 ++ ([(0 : Int)] : List Int)).map qaC).length = (l15 ++ ([(0 : Int)] : List Int)).length) <| aN) (ih _ _ h cx hn)
theorem division_long_c1 {K} (ih : qdR K) {cx} (hn : cx.n = 251) {r66 r71 n shift v top next j} {r} (h : qaL (K + 1) (.c1 r66 r71 n shift v top next j) = some r) : qdQ cx (.c1 r66 r71 n shift v top next j) r := by
  rw [qaL] at h
  rcases qaK h with ⟨h1, h⟩ | ⟨h1, h⟩
  · skip
    obtain ⟨x2, h3, h⟩ := qaH h
    obtain ⟨x4, h5, h⟩ := qaH h
    obtain ⟨x6, h7, h⟩ := qaH h
    exact qaU (fuel := 78) [.go, rgG [oo, oo], .br true, .draw [.p, .p, .p, .p, .ir, (.ld (qaC x2)), .p, .p, .p, .p, .p, .p, .p, .ir, (.ld (qaC x4)), .p, .p, .p, (.call [[0], [0], [0]] [(TV.c (T.int .u64 (0 : Int))), (TV.c (T.int .u64 (bits .or .u64 (qgQ .u64 (wU6 x2) (32 : Int)) (wU6 x4)))), (ti .u64 top)] (TV.tup [(false, [(T.int .u64 x6.1)]), (false, [(T.int .u64 x6.2)])])), .p, .p, .p, .p] [.op .p], .pre [.rl 4 0 r71.length, .rl 12 0 r66.length, .keep [4,6,10,11,12,13,14,15,16,17] [66,71]]] _ hn (by kernel_rfl) (aC h1 <| aC (qa0 h3) <| aC (qcH h3 (by simp) : (wI6 (j + n)) < ((r66.length : Nat) : Int)) <| aC (qcG qaC h3 : (r66.map qaC)[(0 + (wI6 (j + n)).toNat)]? = some (qaC x2)) <| aC (qa0 h5) <| aC (qcH h5 (by simp) : (wI6 ((wI6 (j + n)) - (1 : Int))) < ((r66.length : Nat) : Int)) <| aC (qcG qaC h5 : (r66.map qaC)[(0 + (wI6 ((wI6 (j + n)) - (1 : Int))).toNat)]? = some (qaC x4)) <| aC (qsL h7) <| aC r0 <| aC (lq r71) <| aC r0 <| aC (lq r66) <| aN) (ih _ _ h cx hn)
  · skip
    obtain ⟨x2, h3, h⟩ := qaH h
    obtain ⟨h4, h⟩ := qbE h
    obtain ⟨x5, h6, h⟩ := qaH h
    have h := Option.some.inj h; subst h
    exact qaN (fuel := 80) [.go, rgG [oo, oo], .br false, .pre [.snap 4 (max 0 (0 + r71.length)) (r71.map qaC), .snap 12 (max 0 (0 + r66.length)) (r66.map qaC)], .draw [.p, (.call [[1]] [(tl 1 r71 qaC)] (tl 1 x2 qaC)), .p, .p, (.slT 0 n.toNat ((r66.take n.toNat).map qaC)), .p] [opI (.call [[1], [0]] [(TV.c (T.sl 1 ((r66.take n.toNat).map qaC))), (ti .i64 shift)] (tl 1 x5 qaC)), .op .p, .op .p]] _ hn (by kernel_rfl) (aC h1 <| aC (qbI _ _ _ (by simp) : ((r71.map qaC).drop 0).take r71.length = r71.map qaC) <| aC (rfl : (max 0 (0 + r71.length)) = (max 0 (0 + r71.length))) <| aC (qbI _ _ _ (by simp) : ((r66.map qaC).drop 0).take r66.length = r66.map qaC) <| aC (rfl : (max 0 (0 + r66.length)) = (max 0 (0 + r66.length))) <| aC (qeI h3) <| aC r0 <| aC (⟨h4.1, rfl⟩ : 0 ≤ n ∧ n.toNat = n.toNat) <| aC h4.2.1 <| aC (ln_le _ h4.2.2 : n.toNat ≤ (r66.map qaC).length) <| aC (tk0_map _ _ _ : ((r66.map qaC).take n.toNat).drop 0 = (r66.take n.toNat).map qaC) <| aC (natural_Shr_holds h6) <| aN)
theorem division_long_c2 {K} (ih : qdR K) {cx} (hn : cx.n = 251) {r64 r71 n shift v top next j} {r} (h : qaL (K + 1) (.c2 r64 r71 n shift v top next j) = some r) : qdQ cx (.c2 r64 r71 n shift v top next j) r := by
  rw [qaL] at h
  rcases qaK h with ⟨h1, h⟩ | ⟨h1, h⟩
  · skip
    obtain ⟨x2, h3, h⟩ := qaH h
    obtain ⟨x4, h5, h⟩ := qaH h
    obtain ⟨x6, h7, h⟩ := qaH h
    exact qaU (fuel := 78) [.go, rgG [oo, oo], .br true, .draw [.p, .p, .p, .p, .ir, (.ld (qaC x2)), .p, .p, .p, .p, .p, .p, .p, .ir, (.ld (qaC x4)), .p, .p, .p, (.call [[0], [0], [0]] [(TV.c (T.int .u64 (0 : Int))), (TV.c (T.int .u64 (bits .or .u64 (qgQ .u64 (wU6 x2) (32 : Int)) (wU6 x4)))), (ti .u64 top)] (TV.tup [(false, [(T.int .u64 x6.1)]), (false, [(T.int .u64 x6.2)])])), .p, .p, .p, .p] [.op .p], .pre [.rl 4 0 r71.length, .rl 12 0 r64.length, .keep [4,6,10,11,12,13,14,15,16,17] [64,71]]] _ hn (by kernel_rfl) (aC h1 <| aC (qa0 h3) <| aC (qcH h3 (by simp) : (wI6 (j + n)) < ((r64.length : Nat) : Int)) <| aC (qcG qaC h3 : (r64.map qaC)[(0 + (wI6 (j + n)).toNat)]? = some (qaC x2)) <| aC (qa0 h5) <| aC (qcH h5 (by simp) : (wI6 ((wI6 (j + n)) - (1 : Int))) < ((r64.length : Nat) : Int)) <| aC (qcG qaC h5 : (r64.map qaC)[(0 + (wI6 ((wI6 (j + n)) - (1 : Int))).toNat)]? = some (qaC x4)) <| aC (qsL h7) <| aC r0 <| aC (lq r71) <| aC r0 <| aC (lq r64) <| aN) (ih _ _ h cx hn)
  · skip
    obtain ⟨x2, h3, h⟩ := qaH h
    obtain ⟨h4, h⟩ := qbE h
    obtain ⟨x5, h6, h⟩ := qaH h
    have h := Option.some.inj h; subst h
    exact qaN (fuel := 80) [.go, rgG [oo, oo], .br false, .pre [.snap 4 (max 0 (0 + r71.length)) (r71.map qaC), .snap 12 (max 0 (0 + r64.length)) (r64.map qaC)], .draw [.p, (.call [[1]] [(tl 1 r71 qaC)] (tl 1 x2 qaC)), .p, .p, (.slT 0 n.toNat ((r64.take n.toNat).map qaC)), .p] [opI (.call [[1], [0]] [(TV.c (T.sl 1 ((r64.take n.toNat).map qaC))), (ti .i64 shift)] (tl 1 x5 qaC)), .op .p, .op .p]] _ hn (by kernel_rfl) (aC h1 <| aC (qbI _ _ _ (by simp) : ((r71.map qaC).drop 0).take r71.length = r71.map qaC) <| aC (rfl : (max 0 (0 + r71.length)) = (max 0 (0 + r71.length))) <| aC (qbI _ _ _ (by simp) : ((r64.map qaC).drop 0).take r64.length = r64.map qaC) <| aC (rfl : (max 0 (0 + r64.length)) = (max 0 (0 + r64.length))) <| aC (qeI h3) <| aC r0 <| aC (⟨h4.1, rfl⟩ : 0 ≤ n ∧ n.toNat = n.toNat) <| aC h4.2.1 <| aC (ln_le _ h4.2.2 : n.toNat ≤ (r64.map qaC).length) <| aC (tk0_map _ _ _ : ((r64.map qaC).take n.toNat).drop 0 = (r64.take n.toNat).map qaC) <| aC (natural_Shr_holds h6) <| aN)
theorem division_long_c3 {K} (ih : qdR K) {cx} (hn : cx.n = 251) {r66 r71 n shift v top next j guess rest} {r} (h : qaL (K + 1) (.c3 r66 r71 n shift v top next j guess rest) = some r) : qdQ cx (.c3 r66 r71 n shift v top next j guess rest) r := by
  rw [qaL] at h
  rcases qaK h with ⟨h1, h⟩ | ⟨h1, h⟩
  · skip
    rcases qaK h with ⟨h2, h⟩ | ⟨h2, h⟩
    · skip
      exact qaU (fuel := 104) [.go, rgG [oo, oo, oo, .sb 117 true, oo, oo, oo, oo, oo, oo, oo, oo, oo, oo, oo, oo, oo, oo, oo, oo], .br true, rgG [oo, oo, oo], rgG [oo, oo, oo, oo], rgG [oo, oo], .br true, .pre [.rl 4 0 r71.length, .rl 12 0 r66.length, .keep [4,6,10,11,12,13,14,15,16] [66,71]]] _ hn (by kernel_rfl) (aC h1 <| aC rt <| aC h2 <| aC r0 <| aC (lq r71) <| aC r0 <| aC (lq r66) <| aN) (ih _ _ h cx hn)
    · skip
      exact qaU (fuel := 100) [.go, rgG [oo, oo, oo, .sb 117 true, oo, oo, oo, oo, oo, oo, oo, oo, oo, oo, oo, oo, oo, oo, oo, oo], .br true, rgG [oo, oo, oo], rgG [oo, oo, oo, oo], rgG [oo, oo], .br false, .pre [.rl 4 0 r71.length, .rl 12 0 r66.length, .keep [4,6,10,11,12,13,14,15,16,17] [66,71]]] _ hn (by kernel_rfl) (aC h1 <| aC rt <| aC h2 <| aC r0 <| aC (lq r71) <| aC r0 <| aC (lq r66) <| aN) (ih _ _ h cx hn)
  · skip
    obtain ⟨x2, h3, h⟩ := qaH h
    rcases qaK h with ⟨h4, h⟩ | ⟨h4, h⟩
    · skip
      rcases qaK h with ⟨h5, h⟩ | ⟨h5, h⟩
      · skip
        exact qaU (fuel := 104) [.go, rgG [oo, oo, oo, .sb 117 false, oo, oo, oo, oo, oo, oo, oo, oo, oo, oo, .op .ir, opI (.ld (qaC x2)), oo, oo, oo, oo], .br true, rgG [oo, oo, oo], rgG [oo, oo, oo, oo], rgG [oo, oo], .br true, .pre [.rl 4 0 r71.length, .rl 12 0 r66.length, .keep [4,6,10,11,12,13,14,15,16] [66,71]]] _ hn (by kernel_rfl) (aC h1 <| aC (qa0 h3) <| aC (qcH h3 (by simp) : (wI6 ((wI6 (j + n)) - (2 : Int))) < ((r66.length : Nat) : Int)) <| aC (qcG qaC h3 : (r66.map qaC)[(0 + (wI6 ((wI6 (j + n)) - (2 : Int))).toNat)]? = some (qaC x2)) <| aC h4 <| aC h5 <| aC r0 <| aC (lq r71) <| aC r0 <| aC (lq r66) <| aN) (ih _ _ h cx hn)
      · skip
        exact qaU (fuel := 100) [.go, rgG [oo, oo, oo, .sb 117 false, oo, oo, oo, oo, oo, oo, oo, oo, oo, oo, .op .ir, opI (.ld (qaC x2)), oo, oo, oo, oo], .br true, rgG [oo, oo, oo], rgG [oo, oo, oo, oo], rgG [oo, oo], .br false, .pre [.rl 4 0 r71.length, .rl 12 0 r66.length, .keep [4,6,10,11,12,13,14,15,16,17] [66,71]]] _ hn (by kernel_rfl) (aC h1 <| aC (qa0 h3) <| aC (qcH h3 (by simp) : (wI6 ((wI6 (j + n)) - (2 : Int))) < ((r66.length : Nat) : Int)) <| aC (qcG qaC h3 : (r66.map qaC)[(0 + (wI6 ((wI6 (j + n)) - (2 : Int))).toNat)]? = some (qaC x2)) <| aC h4 <| aC h5 <| aC r0 <| aC (lq r71) <| aC r0 <| aC (lq r66) <| aN) (ih _ _ h cx hn)
    · skip
      exact qaU (fuel := 70) [.go, rgG [oo, oo, oo, .sb 117 false, oo, oo, oo, oo, oo, oo, oo, oo, oo, oo, .op .ir, opI (.ld (qaC x2)), oo, oo, oo, oo], .br false, .pre [.rl 4 0 r71.length, .rl 12 0 r66.length, .keep [4,6,10,11,12,13,14,15,16] [66,71]]] _ hn (by kernel_rfl) (aC h1 <| aC (qa0 h3) <| aC (qcH h3 (by simp) : (wI6 ((wI6 (j + n)) - (2 : Int))) < ((r66.length : Nat) : Int)) <| aC (qcG qaC h3 : (r66.map qaC)[(0 + (wI6 ((wI6 (j + n)) - (2 : Int))).toNat)]? = some (qaC x2)) <| aC h4 <| aC r0 <| aC (lq r71) <| aC r0 <| aC (lq r66) <| aN) (ih _ _ h cx hn)
theorem division_long_c4 {K} (ih : qdR K) {cx} (hn : cx.n = 251) {r64 r71 n shift v top next j guess rest} {r} (h : qaL (K + 1) (.c4 r64 r71 n shift v top next j guess rest) = some r) : qdQ cx (.c4 r64 r71 n shift v top next j guess rest) r := by
  rw [qaL] at h
  rcases qaK h with ⟨h1, h⟩ | ⟨h1, h⟩
  · skip
    rcases qaK h with ⟨h2, h⟩ | ⟨h2, h⟩
    · skip
      exact qaU (fuel := 104) [.go, rgG [oo, oo, oo, .sb 117 true, oo, oo, oo, oo, oo, oo, oo, oo, oo, oo, oo, oo, oo, oo, oo, oo], .br true, rgG [oo, oo, oo], rgG [oo, oo, oo, oo], rgG [oo, oo], .br true, .pre [.rl 4 0 r71.length, .rl 12 0 r64.length, .keep [4,6,10,11,12,13,14,15,16] [64,71]]] _ hn (by kernel_rfl) (aC h1 <| aC rt <| aC h2 <| aC r0 <| aC (lq r71) <| aC r0 <| aC (lq r64) <| aN) (ih _ _ h cx hn)
    · skip
      exact qaU (fuel := 100) [.go, rgG [oo, oo, oo, .sb 117 true, oo, oo, oo, oo, oo, oo, oo, oo, oo, oo, oo, oo, oo, oo, oo, oo], .br true, rgG [oo, oo, oo], rgG [oo, oo, oo, oo], rgG [oo, oo], .br false, .pre [.rl 4 0 r71.length, .rl 12 0 r64.length, .keep [4,6,10,11,12,13,14,15,16,17] [64,71]]] _ hn (by kernel_rfl) (aC h1 <| aC rt <| aC h2 <| aC r0 <| aC (lq r71) <| aC r0 <| aC (lq r64) <| aN) (ih _ _ h cx hn)
  · skip
    obtain ⟨x2, h3, h⟩ := qaH h
    rcases qaK h with ⟨h4, h⟩ | ⟨h4, h⟩
    · skip
      rcases qaK h with ⟨h5, h⟩ | ⟨h5, h⟩
      · skip
        exact qaU (fuel := 104) [.go, rgG [oo, oo, oo, .sb 117 false, oo, oo, oo, oo, oo, oo, oo, oo, oo, oo, .op .ir, opI (.ld (qaC x2)), oo, oo, oo, oo], .br true, rgG [oo, oo, oo], rgG [oo, oo, oo, oo], rgG [oo, oo], .br true, .pre [.rl 4 0 r71.length, .rl 12 0 r64.length, .keep [4,6,10,11,12,13,14,15,16] [64,71]]] _ hn (by kernel_rfl) (aC h1 <| aC (qa0 h3) <| aC (qcH h3 (by simp) : (wI6 ((wI6 (j + n)) - (2 : Int))) < ((r64.length : Nat) : Int)) <| aC (qcG qaC h3 : (r64.map qaC)[(0 + (wI6 ((wI6 (j + n)) - (2 : Int))).toNat)]? = some (qaC x2)) <| aC h4 <| aC h5 <| aC r0 <| aC (lq r71) <| aC r0 <| aC (lq r64) <| aN) (ih _ _ h cx hn)
      · skip
        exact qaU (fuel := 100) [.go, rgG [oo, oo, oo, .sb 117 false, oo, oo, oo, oo, oo, oo, oo, oo, oo, oo, .op .ir, opI (.ld (qaC x2)), oo, oo, oo, oo], .br true, rgG [oo, oo, oo], rgG [oo, oo, oo, oo], rgG [oo, oo], .br false, .pre [.rl 4 0 r71.length, .rl 12 0 r64.length, .keep [4,6,10,11,12,13,14,15,16,17] [64,71]]] _ hn (by kernel_rfl) (aC h1 <| aC (qa0 h3) <| aC (qcH h3 (by simp) : (wI6 ((wI6 (j + n)) - (2 : Int))) < ((r64.length : Nat) : Int)) <| aC (qcG qaC h3 : (r64.map qaC)[(0 + (wI6 ((wI6 (j + n)) - (2 : Int))).toNat)]? = some (qaC x2)) <| aC h4 <| aC h5 <| aC r0 <| aC (lq r71) <| aC r0 <| aC (lq r64) <| aN) (ih _ _ h cx hn)
    · skip
      exact qaU (fuel := 70) [.go, rgG [oo, oo, oo, .sb 117 false, oo, oo, oo, oo, oo, oo, oo, oo, oo, oo, .op .ir, opI (.ld (qaC x2)), oo, oo, oo, oo], .br false, .pre [.rl 4 0 r71.length, .rl 12 0 r64.length, .keep [4,6,10,11,12,13,14,15,16] [64,71]]] _ hn (by kernel_rfl) (aC h1 <| aC (qa0 h3) <| aC (qcH h3 (by simp) : (wI6 ((wI6 (j + n)) - (2 : Int))) < ((r64.length : Nat) : Int)) <| aC (qcG qaC h3 : (r64.map qaC)[(0 + (wI6 ((wI6 (j + n)) - (2 : Int))).toNat)]? = some (qaC x2)) <| aC h4 <| aC r0 <| aC (lq r71) <| aC r0 <| aC (lq r64) <| aN) (ih _ _ h cx hn)
theorem division_long_c5 {K} (ih : qdR K) {cx} (hn : cx.n = 251) {r66 r71 n shift v top next j guess} {r} (h : qaL (K + 1) (.c5 r66 r71 n shift v top next j guess) = some r) : qdQ cx (.c5 r66 r71 n shift v top next j guess) r := by
  rw [qaL] at h
  exact qaU (fuel := 54) [rgG [oo, oo], rgG [oo, opI (.ln (v.length : Int)), oo], .pre [.rl 4 0 r71.length, .rl 12 0 r66.length, .keep [4,6,10,11,12,13,14,15,16,18,19,141,142,143] [66,71]]] _ hn (by kernel_rfl) (aC (qaT v qaC) <| aC r0 <| aC (lq r71) <| aC r0 <| aC (lq r66) <| aN) (ih _ _ h cx hn)
theorem division_long_c6 {K} (ih : qdR K) {cx} (hn : cx.n = 251) {r64 r71 n shift v top next j guess} {r} (h : qaL (K + 1) (.c6 r64 r71 n shift v top next j guess) = some r) : qdQ cx (.c6 r64 r71 n shift v top next j guess) r := by
  rw [qaL] at h
  exact qaU (fuel := 54) [rgG [oo, oo], rgG [oo, opI (.ln (v.length : Int)), oo], .pre [.rl 4 0 r71.length, .rl 12 0 r64.length, .keep [4,6,10,11,12,13,14,15,16,18,19,141,142,143] [64,71]]] _ hn (by kernel_rfl) (aC (qaT v qaC) <| aC r0 <| aC (lq r71) <| aC r0 <| aC (lq r64) <| aN) (ih _ _ h cx hn)
theorem division_long_c7 {K} (ih : qdR K) {cx} (hn : cx.n = 251) {r66 r71 n shift v top next j guess carry borrow t141 t142 t143} {r} (h : qaL (K + 1) (.c7 r66 r71 n shift v top next j guess carry borrow t141 t142 t143) = some r) : qdQ cx (.c7 r66 r71 n shift v top next j guess carry borrow t141 t142 t143) r := by
  rw [qaL] at h
  rcases qaK h with ⟨h1, h⟩ | ⟨h1, h⟩
  · skip
    obtain ⟨x2, h3, h⟩ := qaH h
    obtain ⟨x4, h5, h⟩ := qaH h
    obtain ⟨x6, h7, h⟩ := qaH h
    exact qaU (fuel := 122) [.go, rgG [oo], .br true, rgG [oo, opI (.ix (qaC x2)), oo, oo, oo], rgG [oo, oo, oo, oo, oo, oo, oo], rgG [oo, oo, oo], rgG [oo, oo, oo, oo, .op .ir, opI (.ld (qaC x4)), oo, oo, oo, oo, oo, oo, oo], rgG [oo, oo, oo, oo, oo, oo, .op .ir, opI (.st (qaC x6) ((r66.set ((wI6 (t143 + j)).toNat) (wU3 (wU6 ((wU6 ((wU6 x4) - borrow)) - (bits .and .u64 (wU6 ((wU6 (guess * (wU6 x2))) + carry)) (4294967295 : Int)))))).map qaC))], rgG [oo, oo, oo], rgG [oo, oo], .pre [.rl 4 0 r71.length, .rl 12 0 (r66.set ((wI6 (t143 + j)).toNat) (wU3 (wU6 ((wU6 ((wU6 x4) - borrow)) - (bits .and .u64 (wU6 ((wU6 (guess * (wU6 x2))) + carry)) (4294967295 : Int)))))).length, .keep [4,6,10,11,12,13,14,15,16,18,19,141,142,143] [66,71]]] _ hn (by kernel_rfl) (aC h1 <| aC (qa0 h3) <| aC (qbH qaC h3) <| aC (qa0 h5) <| aC (qcH h5 (by simp) : (wI6 (t143 + j)) < ((r66.length : Nat) : Int)) <| aC (qcG qaC h5 : (r66.map qaC)[(0 + (wI6 (t143 + j)).toNat)]? = some (qaC x4)) <| aC (qa0 h7) <| aC (qcH h7 (by simp) : (wI6 (t143 + j)) < ((r66.length : Nat) : Int)) <| aC (qcG qaC h7 : (r66.map qaC)[(0 + (wI6 (t143 + j)).toNat)]? = some (qaC x6)) <| aC (qc7 _ _ (wU3 (wU6 ((wU6 ((wU6 x4) - borrow)) - (bits .and .u64 (wU6 ((wU6 (guess * (wU6 x2))) + carry)) (4294967295 : Int))))) _ : (r66.map qaC).set (0 + (wI6 (t143 + j)).toNat) (qbY (qaC x6) 0 [(T.int .u32 (wU3 (wU6 ((wU6 ((wU6 x4) - borrow)) - (bits .and .u64 (wU6 ((wU6 (guess * (wU6 x2))) + carry)) (4294967295 : Int))))))]) = (r66.set ((wI6 (t143 + j)).toNat) (wU3 (wU6 ((wU6 ((wU6 x4) - borrow)) - (bits .and .u64 (wU6 ((wU6 (guess * (wU6 x2))) + carry)) (4294967295 : Int)))))).map qaC) <| aC (Nat.zero_le _ : 0 ≤ (0 + (wI6 (t143 + j)).toNat)) <| aC r0 <| aC (lq r71) <| aC r0 <| aC (by simp : r66.length = (r66.set ((wI6 (t143 + j)).toNat) (wU3 (wU6 ((wU6 ((wU6 x4) - borrow)) - (bits .and .u64 (wU6 ((wU6 (guess * (wU6 x2))) + carry)) (4294967295 : Int)))))).length) <| aN) (ih _ _ h cx hn)
  · skip
    obtain ⟨x2, h3, h⟩ := qaH h
    obtain ⟨x4, h5, h⟩ := qaH h
    obtain ⟨x6, h7, h⟩ := qaH h
    rcases qaK h with ⟨h8, h⟩ | ⟨h8, h⟩
    · skip
      exact qaU (fuel := 114) [.go, rgG [oo], .br false, rgG [oo, oo, oo, oo, .op .ir, opI (.ld (qaC x2)), oo, oo, oo, oo, oo, oo], rgG [oo, oo, oo, oo, oo, oo, .op .ir, opI (.st (qaC x4) ((r66.set ((wI6 (j + n)).toNat) (wU3 (wU6 ((wU6 ((wU6 x2) - borrow)) - carry)))).map qaC))], rgG [oo, oo, oo, oo, .op .ir, opI (.st (qaC x6) ((r71.set (j.toNat) (wU3 guess)).map qaC))], rgG [oo, oo, oo], .br true, .pre [.rl 4 0 (r71.set (j.toNat) (wU3 guess)).length, .rl 12 0 (r66.set ((wI6 (j + n)).toNat) (wU3 (wU6 ((wU6 ((wU6 x2) - borrow)) - carry)))).length, .keep [4,6,10,11,12,13,14,15] [66,71]]] _ hn (by kernel_rfl) (aC h1 <| aC (qa0 h3) <| aC (qcH h3 (by simp) : (wI6 (j + n)) < ((r66.length : Nat) : Int)) <| aC (qcG qaC h3 : (r66.map qaC)[(0 + (wI6 (j + n)).toNat)]? = some (qaC x2)) <| aC (qa0 h5) <| aC (qcH h5 (by simp) : (wI6 (j + n)) < ((r66.length : Nat) : Int)) <| aC (qcG qaC h5 : (r66.map qaC)[(0 + (wI6 (j + n)).toNat)]? = some (qaC x4)) <| aC (qc7 _ _ (wU3 (wU6 ((wU6 ((wU6 x2) - borrow)) - carry))) _ : (r66.map qaC).set (0 + (wI6 (j + n)).toNat) (qbY (qaC x4) 0 [(T.int .u32 (wU3 (wU6 ((wU6 ((wU6 x2) - borrow)) - carry))))]) = (r66.set ((wI6 (j + n)).toNat) (wU3 (wU6 ((wU6 ((wU6 x2) - borrow)) - carry)))).map qaC) <| aC (Nat.zero_le _ : 0 ≤ (0 + (wI6 (j + n)).toNat)) <| aC (qa0 h7) <| aC (qcH h7 (by simp) : j < ((r71.length : Nat) : Int)) <| aC (qcG qaC h7 : (r71.map qaC)[(0 + j.toNat)]? = some (qaC x6)) <| aC (qc7 _ _ (wU3 guess) _ : (r71.map qaC).set (0 + j.toNat) (qbY (qaC x6) 0 [(T.int .u32 (wU3 guess))]) = (r71.set (j.toNat) (wU3 guess)).map qaC) <| aC (Nat.zero_le _ : 0 ≤ (0 + j.toNat)) <| aC h8 <| aC r0 <| aC (by simp : r71.length = (r71.set (j.toNat) (wU3 guess)).length) <| aC r0 <| aC (by simp : r66.length = (r66.set ((wI6 (j + n)).toNat) (wU3 (wU6 ((wU6 ((wU6 x2) - borrow)) - carry)))).length) <| aN) (ih _ _ h cx hn)
    · skip
      obtain ⟨x9, h10, h⟩ := qaH h
      obtain ⟨x11, h12, h⟩ := qaH h
      exact qaU (fuel := 138) [.go, rgG [oo], .br false, rgG [oo, oo, oo, oo, .op .ir, opI (.ld (qaC x2)), oo, oo, oo, oo, oo, oo], rgG [oo, oo, oo, oo, oo, oo, .op .ir, opI (.st (qaC x4) ((r66.set ((wI6 (j + n)).toNat) (wU3 (wU6 ((wU6 ((wU6 x2) - borrow)) - carry)))).map qaC))], rgG [oo, oo, oo, oo, .op .ir, opI (.st (qaC x6) ((r71.set (j.toNat) (wU3 guess)).map qaC))], rgG [oo, oo, oo], .br false, rgG [oo, oo, .op .ir, opI (.ld (qaC x9)), oo, .op .ir, opI (.st (qaC x11) (((r71.set (j.toNat) (wU3 guess)).set (j.toNat) (wU3 (x9 - (1 : Int)))).map qaC))], rgG [oo], rgG [oo, opI (.ln (v.length : Int)), oo], .pre [.rl 4 0 ((r71.set (j.toNat) (wU3 guess)).set (j.toNat) (wU3 (x9 - (1 : Int)))).length, .rl 12 0 (r66.set ((wI6 (j + n)).toNat) (wU3 (wU6 ((wU6 ((wU6 x2) - borrow)) - carry)))).length, .keep [4,6,10,11,12,13,14,15,25,210,211,212] [66,71]]] _ hn (by kernel_rfl) (aC h1 <| aC (qa0 h3) <| aC (qcH h3 (by simp) : (wI6 (j + n)) < ((r66.length : Nat) : Int)) <| aC (qcG qaC h3 : (r66.map qaC)[(0 + (wI6 (j + n)).toNat)]? = some (qaC x2)) <| aC (qa0 h5) <| aC (qcH h5 (by simp) : (wI6 (j + n)) < ((r66.length : Nat) : Int)) <| aC (qcG qaC h5 : (r66.map qaC)[(0 + (wI6 (j + n)).toNat)]? = some (qaC x4)) <| aC (qc7 _ _ (wU3 (wU6 ((wU6 ((wU6 x2) - borrow)) - carry))) _ : (r66.map qaC).set (0 + (wI6 (j + n)).toNat) (qbY (qaC x4) 0 [(T.int .u32 (wU3 (wU6 ((wU6 ((wU6 x2) - borrow)) - carry))))]) = (r66.set ((wI6 (j + n)).toNat) (wU3 (wU6 ((wU6 ((wU6 x2) - borrow)) - carry)))).map qaC) <| aC (Nat.zero_le _ : 0 ≤ (0 + (wI6 (j + n)).toNat)) <| aC (qa0 h7) <| aC (qcH h7 (by simp) : j < ((r71.length : Nat) : Int)) <| aC (qcG qaC h7 : (r71.map qaC)[(0 + j.toNat)]? = some (qaC x6)) <| aC (qc7 _ _ (wU3 guess) _ : (r71.map qaC).set (0 + j.toNat) (qbY (qaC x6) 0 [(T.int .u32 (wU3 guess))]) = (r71.set (j.toNat) (wU3 guess)).map qaC) <| aC (Nat.zero_le _ : 0 ≤ (0 + j.toNat)) <| aC h8 <| aC (qa0 h10) <| aC (qcH h10 (by simp) : j < ((r71.length : Nat) : Int)) <| aC (qcG qaC h10 : ((r71.set (j.toNat) (wU3 guess)).map qaC)[(0 + j.toNat)]? = some (qaC x9)) <| aC (qa0 h12) <| aC (qcH h12 (by simp) : j < ((r71.length : Nat) : Int)) <| aC (qcG qaC h12 : ((r71.set (j.toNat) (wU3 guess)).map qaC)[(0 + j.toNat)]? = some (qaC x11)) <| aC (qc7 _ _ (wU3 (x9 - (1 : Int))) _ : ((r71.set (j.toNat) (wU3 guess)).map qaC).set (0 + j.toNat) (qbY (qaC x11) 0 [(T.int .u32 (wU3 (x9 - (1 : Int))))]) = ((r71.set (j.toNat) (wU3 guess)).set (j.toNat) (wU3 (x9 - (1 : Int)))).map qaC) <| aC (Nat.zero_le _ : 0 ≤ (0 + j.toNat)) <| aC (qaT v qaC) <| aC r0 <| aC (by simp : r71.length = ((r71.set (j.toNat) (wU3 guess)).set (j.toNat) (wU3 (x9 - (1 : Int)))).length) <| aC r0 <| aC (by simp : r66.length = (r66.set ((wI6 (j + n)).toNat) (wU3 (wU6 ((wU6 ((wU6 x2) - borrow)) - carry)))).length) <| aN) (ih _ _ h cx hn)
theorem division_long_c8 {K} (ih : qdR K) {cx} (hn : cx.n = 251) {r64 r71 n shift v top next j guess carry borrow t141 t142 t143} {r} (h : qaL (K + 1) (.c8 r64 r71 n shift v top next j guess carry borrow t141 t142 t143) = some r) : qdQ cx (.c8 r64 r71 n shift v top next j guess carry borrow t141 t142 t143) r := by
  rw [qaL] at h
  rcases qaK h with ⟨h1, h⟩ | ⟨h1, h⟩
  · skip
    obtain ⟨x2, h3, h⟩ := qaH h
    obtain ⟨x4, h5, h⟩ := qaH h
    obtain ⟨x6, h7, h⟩ := qaH h
    exact qaU (fuel := 122) [.go, rgG [oo], .br true, rgG [oo, opI (.ix (qaC x2)), oo, oo, oo], rgG [oo, oo, oo, oo, oo, oo, oo], rgG [oo, oo, oo], rgG [oo, oo, oo, oo, .op .ir, opI (.ld (qaC x4)), oo, oo, oo, oo, oo, oo, oo], rgG [oo, oo, oo, oo, oo, oo, .op .ir, opI (.st (qaC x6) ((r64.set ((wI6 (t143 + j)).toNat) (wU3 (wU6 ((wU6 ((wU6 x4) - borrow)) - (bits .and .u64 (wU6 ((wU6 (guess * (wU6 x2))) + carry)) (4294967295 : Int)))))).map qaC))], rgG [oo, oo, oo], rgG [oo, oo], .pre [.rl 4 0 r71.length, .rl 12 0 (r64.set ((wI6 (t143 + j)).toNat) (wU3 (wU6 ((wU6 ((wU6 x4) - borrow)) - (bits .and .u64 (wU6 ((wU6 (guess * (wU6 x2))) + carry)) (4294967295 : Int)))))).length, .keep [4,6,10,11,12,13,14,15,16,18,19,141,142,143] [64,71]]] _ hn (by kernel_rfl) (aC h1 <| aC (qa0 h3) <| aC (qbH qaC h3) <| aC (qa0 h5) <| aC (qcH h5 (by simp) : (wI6 (t143 + j)) < ((r64.length : Nat) : Int)) <| aC (qcG qaC h5 : (r64.map qaC)[(0 + (wI6 (t143 + j)).toNat)]? = some (qaC x4)) <| aC (qa0 h7) <| aC (qcH h7 (by simp) : (wI6 (t143 + j)) < ((r64.length : Nat) : Int)) <| aC (qcG qaC h7 : (r64.map qaC)[(0 + (wI6 (t143 + j)).toNat)]? = some (qaC x6)) <| aC (qc7 _ _ (wU3 (wU6 ((wU6 ((wU6 x4) - borrow)) - (bits .and .u64 (wU6 ((wU6 (guess * (wU6 x2))) + carry)) (4294967295 : Int))))) _ : (r64.map qaC).set (0 + (wI6 (t143 + j)).toNat) (qbY (qaC x6) 0 [(T.int .u32 (wU3 (wU6 ((wU6 ((wU6 x4) - borrow)) - (bits .and .u64 (wU6 ((wU6 (guess * (wU6 x2))) + carry)) (4294967295 : Int))))))]) = (r64.set ((wI6 (t143 + j)).toNat) (wU3 (wU6 ((wU6 ((wU6 x4) - borrow)) - (bits .and .u64 (wU6 ((wU6 (guess * (wU6 x2))) + carry)) (4294967295 : Int)))))).map qaC) <| aC (Nat.zero_le _ : 0 ≤ (0 + (wI6 (t143 + j)).toNat)) <| aC r0 <| aC (lq r71) <| aC r0 <| aC (by simp : r64.length = (r64.set ((wI6 (t143 + j)).toNat) (wU3 (wU6 ((wU6 ((wU6 x4) - borrow)) - (bits .and .u64 (wU6 ((wU6 (guess * (wU6 x2))) + carry)) (4294967295 : Int)))))).length) <| aN) (ih _ _ h cx hn)
  · skip
    obtain ⟨x2, h3, h⟩ := qaH h
    obtain ⟨x4, h5, h⟩ := qaH h
    obtain ⟨x6, h7, h⟩ := qaH h
    rcases qaK h with ⟨h8, h⟩ | ⟨h8, h⟩
    · skip
      exact qaU (fuel := 114) [.go, rgG [oo], .br false, rgG [oo, oo, oo, oo, .op .ir, opI (.ld (qaC x2)), oo, oo, oo, oo, oo, oo], rgG [oo, oo, oo, oo, oo, oo, .op .ir, opI (.st (qaC x4) ((r64.set ((wI6 (j + n)).toNat) (wU3 (wU6 ((wU6 ((wU6 x2) - borrow)) - carry)))).map qaC))], rgG [oo, oo, oo, oo, .op .ir, opI (.st (qaC x6) ((r71.set (j.toNat) (wU3 guess)).map qaC))], rgG [oo, oo, oo], .br true, .pre [.rl 4 0 (r71.set (j.toNat) (wU3 guess)).length, .rl 12 0 (r64.set ((wI6 (j + n)).toNat) (wU3 (wU6 ((wU6 ((wU6 x2) - borrow)) - carry)))).length, .keep [4,6,10,11,12,13,14,15] [64,71]]] _ hn (by kernel_rfl) (aC h1 <| aC (qa0 h3) <| aC (qcH h3 (by simp) : (wI6 (j + n)) < ((r64.length : Nat) : Int)) <| aC (qcG qaC h3 : (r64.map qaC)[(0 + (wI6 (j + n)).toNat)]? = some (qaC x2)) <| aC (qa0 h5) <| aC (qcH h5 (by simp) : (wI6 (j + n)) < ((r64.length : Nat) : Int)) <| aC (qcG qaC h5 : (r64.map qaC)[(0 + (wI6 (j + n)).toNat)]? = some (qaC x4)) <| aC (qc7 _ _ (wU3 (wU6 ((wU6 ((wU6 x2) - borrow)) - carry))) _ : (r64.map qaC).set (0 + (wI6 (j + n)).toNat) (qbY (qaC x4) 0 [(T.int .u32 (wU3 (wU6 ((wU6 ((wU6 x2) - borrow)) - carry))))]) = (r64.set ((wI6 (j + n)).toNat) (wU3 (wU6 ((wU6 ((wU6 x2) - borrow)) - carry)))).map qaC) <| aC (Nat.zero_le _ : 0 ≤ (0 + (wI6 (j + n)).toNat)) <| aC (qa0 h7) <| aC (qcH h7 (by simp) : j < ((r71.length : Nat) : Int)) <| aC (qcG qaC h7 : (r71.map qaC)[(0 + j.toNat)]? = some (qaC x6)) <| aC (qc7 _ _ (wU3 guess) _ : (r71.map qaC).set (0 + j.toNat) (qbY (qaC x6) 0 [(T.int .u32 (wU3 guess))]) = (r71.set (j.toNat) (wU3 guess)).map qaC) <| aC (Nat.zero_le _ : 0 ≤ (0 + j.toNat)) <| aC h8 <| aC r0 <| aC (by simp : r71.length = (r71.set (j.toNat) (wU3 guess)).length) <| aC r0 <| aC (by simp : r64.length = (r64.set ((wI6 (j + n)).toNat) (wU3 (wU6 ((wU6 ((wU6 x2) - borrow)) - carry)))).length) <| aN) (ih _ _ h cx hn)
    · skip
      obtain ⟨x9, h10, h⟩ := qaH h
      obtain ⟨x11, h12, h⟩ := qaH h
      exact qaU (fuel := 138) [.go, rgG [oo], .br false, rgG [oo, oo, oo, oo, .op .ir, opI (.ld (qaC x2)), oo, oo, oo, oo, oo, oo], rgG [oo, oo, oo, oo, oo, oo, .op .ir, opI (.st (qaC x4) ((r64.set ((wI6 (j + n)).toNat) (wU3 (wU6 ((wU6 ((wU6 x2) - borrow)) - carry)))).map qaC))], rgG [oo, oo, oo, oo, .op .ir, opI (.st (qaC x6) ((r71.set (j.toNat) (wU3 guess)).map qaC))], rgG [oo, oo, oo], .br false, rgG [oo, oo, .op .ir, opI (.ld (qaC x9)), oo, .op .ir, opI (.st (qaC x11) (((r71.set (j.toNat) (wU3 guess)).set (j.toNat) (wU3 (x9 - (1 : Int)))).map qaC))], rgG [oo], rgG [oo, opI (.ln (v.length : Int)), oo], .pre [.rl 4 0 ((r71.set (j.toNat) (wU3 guess)).set (j.toNat) (wU3 (x9 - (1 : Int)))).length, .rl 12 0 (r64.set ((wI6 (j + n)).toNat) (wU3 (wU6 ((wU6 ((wU6 x2) - borrow)) - carry)))).length, .keep [4,6,10,11,12,13,14,15,25,210,211,212] [64,71]]] _ hn (by kernel_rfl) (aC h1 <| aC (qa0 h3) <| aC (qcH h3 (by simp) : (wI6 (j + n)) < ((r64.length : Nat) : Int)) <| aC (qcG qaC h3 : (r64.map qaC)[(0 + (wI6 (j + n)).toNat)]? = some (qaC x2)) <| aC (qa0 h5) <| aC (qcH h5 (by simp) : (wI6 (j + n)) < ((r64.length : Nat) : Int)) <| aC (qcG qaC h5 : (r64.map qaC)[(0 + (wI6 (j + n)).toNat)]? = some (qaC x4)) <| aC (qc7 _ _ (wU3 (wU6 ((wU6 ((wU6 x2) - borrow)) - carry))) _ : (r64.map qaC).set (0 + (wI6 (j + n)).toNat) (qbY (qaC x4) 0 [(T.int .u32 (wU3 (wU6 ((wU6 ((wU6 x2) - borrow)) - carry))))]) = (r64.set ((wI6 (j + n)).toNat) (wU3 (wU6 ((wU6 ((wU6 x2) - borrow)) - carry)))).map qaC) <| aC (Nat.zero_le _ : 0 ≤ (0 + (wI6 (j + n)).toNat)) <| aC (qa0 h7) <| aC (qcH h7 (by simp) : j < ((r71.length : Nat) : Int)) <| aC (qcG qaC h7 : (r71.map qaC)[(0 + j.toNat)]? = some (qaC x6)) <| aC (qc7 _ _ (wU3 guess) _ : (r71.map qaC).set (0 + j.toNat) (qbY (qaC x6) 0 [(T.int .u32 (wU3 guess))]) = (r71.set (j.toNat) (wU3 guess)).map qaC) <| aC (Nat.zero_le _ : 0 ≤ (0 + j.toNat)) <| aC h8 <| aC (qa0 h10) <| aC (qcH h10 (by simp) : j < ((r71.length : Nat) : Int)) <| aC (qcG qaC h10 : ((r71.set (j.toNat) (wU3 guess)).map qaC)[(0 + j.toNat)]? = some (qaC x9)) <| aC (qa0 h12) <| aC (qcH h12 (by simp) : j < ((r71.length : Nat) : Int)) <| aC (qcG qaC h12 : ((r71.set (j.toNat) (wU3 guess)).map qaC)[(0 + j.toNat)]? = some (qaC x11)) <| aC (qc7 _ _ (wU3 (x9 - (1 : Int))) _ : ((r71.set (j.toNat) (wU3 guess)).map qaC).set (0 + j.toNat) (qbY (qaC x11) 0 [(T.int .u32 (wU3 (x9 - (1 : Int))))]) = ((r71.set (j.toNat) (wU3 guess)).set (j.toNat) (wU3 (x9 - (1 : Int)))).map qaC) <| aC (Nat.zero_le _ : 0 ≤ (0 + j.toNat)) <| aC (qaT v qaC) <| aC r0 <| aC (by simp : r71.length = ((r71.set (j.toNat) (wU3 guess)).set (j.toNat) (wU3 (x9 - (1 : Int)))).length) <| aC r0 <| aC (by simp : r64.length = (r64.set ((wI6 (j + n)).toNat) (wU3 (wU6 ((wU6 ((wU6 x2) - borrow)) - carry)))).length) <| aN) (ih _ _ h cx hn)
theorem division_long_c9 {K} (ih : qdR K) {cx} (hn : cx.n = 251) {r66 r71 n shift v top next j} {r} (h : qaL (K + 1) (.c9 r66 r71 n shift v top next j) = some r) : qdQ cx (.c9 r66 r71 n shift v top next j) r := by
  rw [qaL] at h
  exact qaU (fuel := 44) [rgG [oo, oo, oo], .pre [.rl 4 0 r71.length, .rl 12 0 r66.length, .keep [4,6,10,11,12,13,14,15] [66,71]]] _ hn (by kernel_rfl) (aC r0 <| aC (lq r71) <| aC r0 <| aC (lq r66) <| aN) (ih _ _ h cx hn)
theorem division_long_c10 {K} (ih : qdR K) {cx} (hn : cx.n = 251) {r66 r71 n shift v top next j sum t210 t211 t212} {r} (h : qaL (K + 1) (.c10 r66 r71 n shift v top next j sum t210 t211 t212) = some r) : qdQ cx (.c10 r66 r71 n shift v top next j sum t210 t211 t212) r := by
  rw [qaL] at h
  rcases qaK h with ⟨h1, h⟩ | ⟨h1, h⟩
  · skip
    obtain ⟨x2, h3, h⟩ := qaH h
    obtain ⟨x4, h5, h⟩ := qaH h
    obtain ⟨x6, h7, h⟩ := qaH h
    obtain ⟨x8, h9, h⟩ := qaH h
    exact qaU (fuel := 90) [.go, rgG [oo], .br true, rgG [oo, opI (.ix (qaC x2)), oo, oo, oo], rgG [oo, oo, oo, oo, oo, oo, oo, oo, .op .ir, opI (.ld (qaC x4)), oo, oo, opI (.call [[0], [0], [0]] [(ti .u32 x4), (ti .u32 x2), (ti .u32 sum)] (TV.tup [(false, [(T.int .u32 x6.1)]), (false, [(T.int .u32 x6.2)])])), oo, oo, oo, .op .ir, opI (.st (qaC x8) ((r66.set ((wI6 (t212 + j)).toNat) x6.1).map qaC)), oo], rgG [oo, oo], .pre [.rl 4 0 r71.length, .rl 12 0 (r66.set ((wI6 (t212 + j)).toNat) x6.1).length, .keep [4,6,10,11,12,13,14,15,25,210,211,212] [66,71]]] _ hn (by kernel_rfl) (aC h1 <| aC (qa0 h3) <| aC (qbH qaC h3) <| aC (qa0 h5) <| aC (qcH h5 (by simp) : (wI6 (t212 + j)) < ((r66.length : Nat) : Int)) <| aC (qcG qaC h5 : (r66.map qaC)[(0 + (wI6 (t212 + j)).toNat)]? = some (qaC x4)) <| aC (qgR h7) <| aC (qa0 h9) <| aC (qcH h9 (by simp) : (wI6 (t212 + j)) < ((r66.length : Nat) : Int)) <| aC (qcG qaC h9 : (r66.map qaC)[(0 + (wI6 (t212 + j)).toNat)]? = some (qaC x8)) <| aC (qc7 _ _ x6.1 _ : (r66.map qaC).set (0 + (wI6 (t212 + j)).toNat) (qbY (qaC x8) 0 [(T.int .u32 x6.1)]) = (r66.set ((wI6 (t212 + j)).toNat) x6.1).map qaC) <| aC (Nat.zero_le _ : 0 ≤ (0 + (wI6 (t212 + j)).toNat)) <| aC r0 <| aC (lq r71) <| aC r0 <| aC (by simp : r66.length = (r66.set ((wI6 (t212 + j)).toNat) x6.1).length) <| aN) (ih _ _ h cx hn)
  · skip
    obtain ⟨x2, h3, h⟩ := qaH h
    obtain ⟨x4, h5, h⟩ := qaH h
    exact qaU (fuel := 76) [.go, rgG [oo], .br false, rgG [oo, oo, oo, oo, .op .ir, opI (.ld (qaC x2)), oo, oo, .op .ir, opI (.st (qaC x4) ((r66.set ((wI6 (j + n)).toNat) (wU3 (x2 + sum))).map qaC))], .pre [.rl 4 0 r71.length, .rl 12 0 (r66.set ((wI6 (j + n)).toNat) (wU3 (x2 + sum))).length, .keep [4,6,10,11,12,13,14,15] [66,71]]] _ hn (by kernel_rfl) (aC h1 <| aC (qa0 h3) <| aC (qcH h3 (by simp) : (wI6 (j + n)) < ((r66.length : Nat) : Int)) <| aC (qcG qaC h3 : (r66.map qaC)[(0 + (wI6 (j + n)).toNat)]? = some (qaC x2)) <| aC (qa0 h5) <| aC (qcH h5 (by simp) : (wI6 (j + n)) < ((r66.length : Nat) : Int)) <| aC (qcG qaC h5 : (r66.map qaC)[(0 + (wI6 (j + n)).toNat)]? = some (qaC x4)) <| aC (qc7 _ _ (wU3 (x2 + sum)) _ : (r66.map qaC).set (0 + (wI6 (j + n)).toNat) (qbY (qaC x4) 0 [(T.int .u32 (wU3 (x2 + sum)))]) = (r66.set ((wI6 (j + n)).toNat) (wU3 (x2 + sum))).map qaC) <| aC (Nat.zero_le _ : 0 ≤ (0 + (wI6 (j + n)).toNat)) <| aC r0 <| aC (lq r71) <| aC r0 <| aC (by simp : r66.length = (r66.set ((wI6 (j + n)).toNat) (wU3 (x2 + sum))).length) <| aN) (ih _ _ h cx hn)
theorem division_long_c11 {K} (ih : qdR K) {cx} (hn : cx.n = 251) {r64 r71 n shift v top next j} {r} (h : qaL (K + 1) (.c11 r64 r71 n shift v top next j) = some r) : qdQ cx (.c11 r64 r71 n shift v top next j) r := by
  rw [qaL] at h
  exact qaU (fuel := 44) [rgG [oo, oo, oo], .pre [.rl 4 0 r71.length, .rl 12 0 r64.length, .keep [4,6,10,11,12,13,14,15] [64,71]]] _ hn (by kernel_rfl) (aC r0 <| aC (lq r71) <| aC r0 <| aC (lq r64) <| aN) (ih _ _ h cx hn)
theorem division_long_c12 {K} (ih : qdR K) {cx} (hn : cx.n = 251) {r64 r71 n shift v top next j sum t210 t211 t212} {r} (h : qaL (K + 1) (.c12 r64 r71 n shift v top next j sum t210 t211 t212) = some r) : qdQ cx (.c12 r64 r71 n shift v top next j sum t210 t211 t212) r := by
  rw [qaL] at h
  rcases qaK h with ⟨h1, h⟩ | ⟨h1, h⟩
  · skip
    obtain ⟨x2, h3, h⟩ := qaH h
    obtain ⟨x4, h5, h⟩ := qaH h
    obtain ⟨x6, h7, h⟩ := qaH h
    obtain ⟨x8, h9, h⟩ := qaH h
    exact qaU (fuel := 90) [.go, rgG [oo], .br true, rgG [oo, opI (.ix (qaC x2)), oo, oo, oo], rgG [oo, oo, oo, oo, oo, oo, oo, oo, .op .ir, opI (.ld (qaC x4)), oo, oo, opI (.call [[0], [0], [0]] [(ti .u32 x4), (ti .u32 x2), (ti .u32 sum)] (TV.tup [(false, [(T.int .u32 x6.1)]), (false, [(T.int .u32 x6.2)])])), oo, oo, oo, .op .ir, opI (.st (qaC x8) ((r64.set ((wI6 (t212 + j)).toNat) x6.1).map qaC)), oo], rgG [oo, oo], .pre [.rl 4 0 r71.length, .rl 12 0 (r64.set ((wI6 (t212 + j)).toNat) x6.1).length, .keep [4,6,10,11,12,13,14,15,25,210,211,212] [64,71]]] _ hn (by kernel_rfl) (aC h1 <| aC (qa0 h3) <| aC (qbH qaC h3) <| aC (qa0 h5) <| aC (qcH h5 (by simp) : (wI6 (t212 + j)) < ((r64.length : Nat) : Int)) <| aC (qcG qaC h5 : (r64.map qaC)[(0 + (wI6 (t212 + j)).toNat)]? = some (qaC x4)) <| aC (qgR h7) <| aC (qa0 h9) <| aC (qcH h9 (by simp) : (wI6 (t212 + j)) < ((r64.length : Nat) : Int)) <| aC (qcG qaC h9 : (r64.map qaC)[(0 + (wI6 (t212 + j)).toNat)]? = some (qaC x8)) <| aC (qc7 _ _ x6.1 _ : (r64.map qaC).set (0 + (wI6 (t212 + j)).toNat) (qbY (qaC x8) 0 [(T.int .u32 x6.1)]) = (r64.set ((wI6 (t212 + j)).toNat) x6.1).map qaC) <| aC (Nat.zero_le _ : 0 ≤ (0 + (wI6 (t212 + j)).toNat)) <| aC r0 <| aC (lq r71) <| aC r0 <| aC (by simp : r64.length = (r64.set ((wI6 (t212 + j)).toNat) x6.1).length) <| aN) (ih _ _ h cx hn)
  · skip
    obtain ⟨x2, h3, h⟩ := qaH h
    obtain ⟨x4, h5, h⟩ := qaH h
    exact qaU (fuel := 76) [.go, rgG [oo], .br false, rgG [oo, oo, oo, oo, .op .ir, opI (.ld (qaC x2)), oo, oo, .op .ir, opI (.st (qaC x4) ((r64.set ((wI6 (j + n)).toNat) (wU3 (x2 + sum))).map qaC))], .pre [.rl 4 0 r71.length, .rl 12 0 (r64.set ((wI6 (j + n)).toNat) (wU3 (x2 + sum))).length, .keep [4,6,10,11,12,13,14,15] [64,71]]] _ hn (by kernel_rfl) (aC h1 <| aC (qa0 h3) <| aC (qcH h3 (by simp) : (wI6 (j + n)) < ((r64.length : Nat) : Int)) <| aC (qcG qaC h3 : (r64.map qaC)[(0 + (wI6 (j + n)).toNat)]? = some (qaC x2)) <| aC (qa0 h5) <| aC (qcH h5 (by simp) : (wI6 (j + n)) < ((r64.length : Nat) : Int)) <| aC (qcG qaC h5 : (r64.map qaC)[(0 + (wI6 (j + n)).toNat)]? = some (qaC x4)) <| aC (qc7 _ _ (wU3 (x2 + sum)) _ : (r64.map qaC).set (0 + (wI6 (j + n)).toNat) (qbY (qaC x4) 0 [(T.int .u32 (wU3 (x2 + sum)))]) = (r64.set ((wI6 (j + n)).toNat) (wU3 (x2 + sum))).map qaC) <| aC (Nat.zero_le _ : 0 ≤ (0 + (wI6 (j + n)).toNat)) <| aC r0 <| aC (lq r71) <| aC r0 <| aC (by simp : r64.length = (r64.set ((wI6 (j + n)).toNat) (wU3 (x2 + sum))).length) <| aN) (ih _ _ h cx hn)
theorem qc1 : ∀ K : Nat, qdR K
  | 0, c, r, h => by rw [qaL] at h; cases h
  | K + 1, .c0 .., r, h => fun cx hn => division_long_c0 (qc1 K) hn h
  | K + 1, .c1 .., r, h => fun cx hn => division_long_c1 (qc1 K) hn h
  | K + 1, .c2 .., r, h => fun cx hn => division_long_c2 (qc1 K) hn h
  | K + 1, .c3 .., r, h => fun cx hn => division_long_c3 (qc1 K) hn h
  | K + 1, .c4 .., r, h => fun cx hn => division_long_c4 (qc1 K) hn h
  | K + 1, .c5 .., r, h => fun cx hn => division_long_c5 (qc1 K) hn h
  | K + 1, .c6 .., r, h => fun cx hn => division_long_c6 (qc1 K) hn h
  | K + 1, .c7 .., r, h => fun cx hn => division_long_c7 (qc1 K) hn h
  | K + 1, .c8 .., r, h => fun cx hn => division_long_c8 (qc1 K) hn h
  | K + 1, .c9 .., r, h => fun cx hn => division_long_c9 (qc1 K) hn h
  | K + 1, .c10 .., r, h => fun cx hn => division_long_c10 (qc1 K) hn h
  | K + 1, .c11 .., r, h => fun cx hn => division_long_c11 (qc1 K) hn h
  | K + 1, .c12 .., r, h => fun cx hn => division_long_c12 (qc1 K) hn h
theorem division_long_holds {K : Nat} {a : (List Int)} {b : (List Int)} {r : ((List Int) × (List Int))} (h : qtX K a b = some r) : qcX prog 177 [(tl 1 a qaC), (tl 1 b qaC)] (TV.tup [(false, [(T.sl 1 (r.1.map qaC))]), (false, [(T.sl 1 (r.2.map qaC))])]) :=
  qa2 [[1], [1]] (by kernel_rfl) (by simp) fun cx hn => qc1 K (.c0 a b) r h cx hn
end Go.Am.X
namespace Go.Am.X
def wq (x : Int) : BitVec 64 := BitVec.ofInt 64 x
theorem wq_nat {x : Int} (h : 0 ≤ x ∧ x < 18446744073709551616) : (wq x).toNat = x.toNat := by
  unfold wq; rw [BitVec.toNat_ofInt]; omega
theorem u64_bv (v : BitVec 64) : wU6 (v.toNat : Int) = v.toNat := by
  rw [qsS]; have := v.isLt; omega
theorem bits_or64 {x y : Int} : bits .or .u64 x y = ((wq x ||| wq y).toNat : Int) := u64_bv _
theorem bits_and64 {x y : Int} : bits .and .u64 x y = ((wq x &&& wq y).toNat : Int) := u64_bv _
theorem or_hi_lo {x y : Int} (hx : 0 ≤ x ∧ x < 4294967296) (hy : 0 ≤ y ∧ y < 4294967296) : bits .or .u64 (qgQ .u64 x 32) y = x * 4294967296 + y := by
  rw [shl_le (by decide) (by decide), w_u64k, show ((32 : Int).toNat) = 32 from rfl, show (2 : Int) ^ 32 = 4294967296 by decide, Int.emod_eq_of_lt (by omega) (by omega)]
  rw [bits_or64, BitVec.toNat_or, wq_nat (by omega), wq_nat (by omega)]
  have h1 : (x * 4294967296).toNat = 2 ^ 32 * x.toNat := by omega
  have h2 : y.toNat < 2 ^ 32 := by omega
  rw [h1, ← Nat.two_pow_add_eq_or_of_lt h2]
  omega
theorem and_mask {x : Int} (hx : 0 ≤ x ∧ x < 18446744073709551616) : bits .and .u64 x 4294967295 = x % 4294967296 := by
  rw [bits_and64, BitVec.toNat_and, wq_nat hx, wq_nat (by decide)]
  have : ((4294967295 : Int).toNat) = 2 ^ 32 - 1 := by decide
  rw [this, Nat.and_two_pow_sub_one_eq_mod]
  omega
theorem math_bits_Div32_ev {hi lo y : Int} (hh : 0 ≤ hi ∧ hi < y) (hl : 0 ≤ lo ∧ lo < 4294967296) (hy : 0 < y ∧ y < 4294967296) :
    Ev (fun K => qqC K hi lo y) ((hi * 4294967296 + lo) / y, (hi * 4294967296 + lo) % y) := by
  refine qaS ?_
  simp only [qqC, qg0]
  have e1 : wU6 hi = hi := by rw [qsS]; omega
  have e2 : wU6 lo = lo := by rw [qsS]; omega
  have e3 : wU6 y = y := by rw [qsS]; omega
  rw [e1, e2, e3, or_hi_lo (by omega) hl]
  refine ev_t (by simp; omega) (ev_f (by simp; omega) (qjP (by omega) (qjP (by omega) (qe5 (qa3 _) ?_))))
  have h0 : 0 ≤ hi * 4294967296 + lo := by omega
  rw [Int.tdiv_eq_ediv_of_nonneg h0, Int.tmod_eq_emod_of_nonneg h0, w_u32, qsS, w_u32]
  have h1 : 0 ≤ (hi * 4294967296 + lo) / y := Int.ediv_nonneg h0 (by omega)
  have h2 : (hi * 4294967296 + lo) / y < 4294967296 := Int.ediv_lt_of_lt_mul hy.1 (by
    have := Int.mul_le_mul_of_nonneg_right (show hi + 1 ≤ y by omega) (show (0 : Int) ≤ 4294967296 by decide)
    rw [Int.add_mul, Int.mul_comm y] at this; omega)
  have h3 := Int.emod_nonneg (hi * 4294967296 + lo) (show y ≠ 0 by omega)
  have h4 := Int.emod_lt_of_pos (hi * 4294967296 + lo) hy.1
  rw [Int.emod_eq_of_lt h1 (by omega), Int.emod_eq_of_lt h1 h2, Int.emod_eq_of_lt h3 (by omega)]
theorem math_bits_Div64_ev {lo y : Int} (hl : 0 ≤ lo ∧ lo < 18446744073709551616) (hy : 0 < y) : Ev (fun K => ql8 K 0 lo y) (lo / y, lo % y) := by
  refine qaS ?_
  simp only [ql8, qa6]
  refine ev_f (by simp; omega) (ev_f (by simp; omega) (ev_t rfl (qjP (by omega) (qjP (by omega) (qe5 (qa3 _) ?_)))))
  rw [Int.tdiv_eq_ediv_of_nonneg hl.1, Int.tmod_eq_emod_of_nonneg hl.1, qsS]
  have h1 : 0 ≤ lo / y := Int.ediv_nonneg hl.1 (by omega)
  have h2 : lo / y ≤ lo := Int.ediv_le_self _ hl.1
  rw [Int.emod_eq_of_lt h1 (by omega)]
theorem drop_pred {a : List Int} {i : Nat} (h : i < a.length) : val (a.drop i) = a[i] + 4294967296 * val (a.drop (i + 1)) := by
  rw [List.drop_eq_getElem_cons h, qnS]
theorem drop_set {a : List Int} {i j : Nat} {x : Int} (h : i < j) : (a.set i x).drop j = a.drop j := by
  rw [List.drop_set, if_pos h]
theorem quD {a : List Int} {d : Int} (ha : Dig a) (hd : 0 < d ∧ d < 4294967296) (hs : a.length < 4611686018427387904) : ∀ (i : Nat) (r : List Int) (rest : Int), i ≤ a.length → Dig r → r.length = a.length → (0 ≤ rest ∧ rest < d) →
    val (r.drop i) * d + rest = val (a.drop i) → val r = 4294967296 ^ i * val (r.drop i) → (∀ j, j < i → r[j]? = some 0) → Ev (fun K => qcQ K (.c1 r a d rest ((i : Int) - 1))) (digs (val a / d), val a % d, true)
  | 0, r, rest, hi, hr, hl, hre, hv, hz, _ => by
    refine qaS ?_
    simp only [qcQ]
    rw [List.drop_zero, List.drop_zero] at hv
    have h1 := qbX hr (by omega)
    have e1 : val a / d = val r := by
      rw [← hv, Int.add_comm, Int.add_mul_ediv_right _ _ (by omega), Int.ediv_eq_zero_of_lt hre.1 hre.2, Int.zero_add]
    have e2 : val a % d = rest := by
      rw [← hv, Int.add_comm, Int.add_mul_emod_self_right, Int.emod_eq_of_lt hre.1 hre.2]
    rw [e1, e2]
    exact ev_f (by simp) (qaP h1 (qa3 _))
  | i + 1, r, rest, hi, hr, hl, hre, hv, hz, hzz => by
    refine qaS ?_
    simp only [qcQ]
    rw [show ((i + 1 : Nat) : Int) - 1 = (i : Int) by omega]
    have hia : i < a.length := by omega
    have hx := qfE ha hia
    have hn0 : 0 ≤ rest * 4294967296 + a[i] := by omega
    have hq0 : 0 ≤ (rest * 4294967296 + a[i]) / d := Int.ediv_nonneg hn0 (by omega)
    have hq1 : (rest * 4294967296 + a[i]) / d < 4294967296 := Int.ediv_lt_of_lt_mul hd.1 (by
      have := Int.mul_le_mul_of_nonneg_right (show rest + 1 ≤ d by omega) (show (0 : Int) ≤ 4294967296 by decide)
      rw [Int.add_mul, Int.mul_comm d] at this; omega)
    have hr0 := Int.emod_nonneg (rest * 4294967296 + a[i]) (show d ≠ 0 by omega)
    have hr1 := Int.emod_lt_of_pos (rest * 4294967296 + a[i]) hd.1
    have hdm := Int.emod_add_mul_ediv (rest * 4294967296 + a[i]) d
    refine ev_t (by simp) (qb6 (qc0 hia) (qaP (math_bits_Div32_ev hre hx hd) (qb6 (qc0 (by omega)) ?_)))
    simp only
    rw [Int.toNat_natCast, qdN (by omega)]
    generalize (rest * 4294967296 + a[i]) / d = q at *
    generalize (rest * 4294967296 + a[i]) % d = t at *
    have hz0 : r[i]'(by omega) = 0 := by
      have := hzz i (by omega)
      rw [List.getElem?_eq_getElem (by omega)] at this
      exact Option.some.inj this
    have e1 : val ((r.set i q).drop i) = q + 4294967296 * val (r.drop (i + 1)) := by
      rw [drop_pred (by simp; omega), drop_set (by omega)]
      congr 1
      simp
    refine quD ha hd hs i _ _ (by omega) (qnD hr i ⟨hq0, hq1⟩) (by simpa using hl) ⟨hr0, hr1⟩ ?_ ?_ (fun j hj => by rw [List.getElem?_set_ne (by omega)]; exact hzz j (by omega))
    · rw [e1, drop_pred hia, ← hv]; grind
    · rw [e1, qoL (by omega), hz0, hz, Int.pow_succ]; grind
theorem natural_DivSmall_ev {a : List Int} {d : Int} (ha : Dig a) (hd : 0 < d ∧ d < 4294967296) (hs : a.length ≤ 34359738360) : Ev (fun K => qkM K a d) (digs (val a / d), val a % d, true) := by
  refine qaS ?_
  simp only [qkM, qcQ]
  have va := qe6 (qbB ha)
  have la := qd4 ha
  refine ev_f (by simp; omega) (qaP (qbX ha (by omega)) (qjP (by omega) ?_))
  rw [Int.toNat_natCast, qdN (by omega)]
  have := quD (qdT (val a)) hd (by omega) (digs (val a)).length (List.replicate (digs (val a)).length 0) 0 (Nat.le_refl _) (dig_rep (by decide)) (by simp) ⟨by decide, hd.1⟩
    (by rw [List.drop_of_length_le (by simp), List.drop_of_length_le (by simp)]; simp) (by rw [List.drop_of_length_le (by simp), val_rep]; simp) (fun j hj => by rw [List.getElem?_replicate, if_pos hj])
  rw [va] at this
  exact this
theorem bits_or_comm (x y : Int) : bits .or .u32 x y = bits .or .u32 y x := by rw [bits_or, bits_or, BitVec.or_comm]
theorem shr_digit {x y : Int} {s : Nat} (hx : 0 ≤ x ∧ x < 4294967296) (_ : 0 ≤ y ∧ y < 4294967296) (hs1 : 0 < s) (hs : s < 32) :
    ∃ d : Int, bits .or .u32 (qdG .u32 x s) (qgQ .u32 y (32 - s)) = d ∧ (0 ≤ d ∧ d < 4294967296) ∧ 2 ^ s * d + x % 2 ^ s = x + 4294967296 * (y % 2 ^ s) := by
  rw [shr_le (by omega) (by show (s : Int) ≤ 32; omega), shl_le (by omega) (by show (32 : Int) - s ≤ 32; omega), w_u32k, Int.toNat_natCast, show ((32 : Int) - s).toNat = 32 - s by omega]
  have hP : (0 : Int) < 2 ^ s := Int.pow_pos (by decide)
  have hQ : (0 : Int) < 2 ^ (32 - s) := Int.pow_pos (by decide)
  have hPQ : (2 : Int) ^ s * 2 ^ (32 - s) = 4294967296 := by rw [← Int.pow_add, show s + (32 - s) = 32 by omega]; rfl
  have hmul : y * 2 ^ (32 - s) % 4294967296 = y % 2 ^ s * 2 ^ (32 - s) := by rw [← hPQ, Int.mul_comm y, Int.mul_comm (2 ^ s), Int.mul_emod_mul_of_pos _ _ hQ, Int.mul_comm]
  have hm1 : 0 ≤ y % 2 ^ s := Int.emod_nonneg _ (by omega)
  have hm2 : y % 2 ^ s < 2 ^ s := Int.emod_lt_of_pos _ hP
  have hd1 : y % 2 ^ s * 2 ^ (32 - s) + 2 ^ (32 - s) ≤ 4294967296 := by
    have := Int.mul_le_mul_of_nonneg_right (show y % 2 ^ s + 1 ≤ 2 ^ s by omega) (Int.le_of_lt hQ)
    rw [hPQ, Int.add_mul, Int.one_mul] at this; exact this
  have hd0 : 0 ≤ y % 2 ^ s * 2 ^ (32 - s) := Int.mul_nonneg hm1 (Int.le_of_lt hQ)
  have hx0 : 0 ≤ x / 2 ^ s := Int.ediv_nonneg hx.1 (by omega)
  have hx1 : x / 2 ^ s < 2 ^ (32 - s) := Int.ediv_lt_of_lt_mul hP (by rw [Int.mul_comm, hPQ]; exact hx.2)
  rw [hmul, bits_or_comm, bits_or_add (s := 32 - s) ⟨hd0, by omega⟩ (Int.mul_emod_left _ _) ⟨hx0, hx1⟩ (by omega)]
  have hdiv := Int.emod_add_mul_ediv x (2 ^ s)
  refine ⟨_, rfl, ⟨by omega, by omega⟩, ?_⟩
  rw [← hPQ]
  generalize x / 2 ^ s = q at *
  generalize x % 2 ^ s = r at *
  generalize (2 : Int) ^ s = P at *
  generalize (2 : Int) ^ (32 - s) = Q at *
  rw [← hdiv]
  grind
theorem natural_Shr_v1 {a : List Int} (ha : Dig a) {s : Nat} (hs1 : 0 < s) (hs : s < 32) (hl : a.length < 4611686018427387904) : ∀ (m i : Nat) (r : List Int), i + m = a.length → Dig r → r.length = a.length →
    2 ^ s * val (r.take i) + a.getD 0 0 % 2 ^ s = val (a.take i) + 4294967296 ^ i * (a.getD i 0 % 2 ^ s) → (∀ j, i ≤ j → r[j]? = a[j]?) → Ev (fun K => qcF K (.c1 r s a.length i)) (digs (val a / 2 ^ s))
  | 0, i, r, hi, hr, hrl, hv, hz => by
    refine qaS ?_
    simp only [qcF]
    have h1 := qbX hr (by omega)
    rw [List.take_of_length_le (by omega), List.take_of_length_le (by omega)] at hv
    have e0 : a.getD i 0 = 0 := by simp [List.getD, List.getElem?_eq_none (show a.length ≤ i by omega)]
    rw [e0] at hv
    have hP : (0 : Int) < 2 ^ s := Int.pow_pos (by decide)
    have hm1 : 0 ≤ a.getD 0 0 % 2 ^ s := Int.emod_nonneg _ (by omega)
    have hm2 : a.getD 0 0 % 2 ^ s < 2 ^ s := Int.emod_lt_of_pos _ hP
    have e1 : val a / 2 ^ s = val r := by
      rw [show val a = a.getD 0 0 % 2 ^ s + 2 ^ s * val r by simp at hv ⊢; omega, Int.add_mul_ediv_left _ _ (by omega), Int.ediv_eq_zero_of_lt hm1 hm2, Int.zero_add]
    rw [e1]
    exact ev_f (by simp; omega) (qaP h1 (qa3 _))
  | m + 1, i, r, hi, hr, hrl, hv, hz => by
    refine qaS ?_
    simp only [qcF]
    have hia : i < a.length := by omega
    have hir : i < r.length := by omega
    have ei : r[i] = a[i] := by
      have := hz i (Nat.le_refl _)
      rw [List.getElem?_eq_getElem hir, List.getElem?_eq_getElem hia] at this
      exact Option.some.inj this
    have hx := qfE hr hir
    have gi0 : a.getD i 0 = a[i] := by simp [List.getD, List.getElem?_eq_getElem hia]
    have next : ∀ d y : Int, (0 ≤ d ∧ d < 4294967296) → a.getD (i + 1) 0 = y → 2 ^ s * d + a[i] % 2 ^ s = a[i] + 4294967296 * (y % 2 ^ s) → Ev (fun K => qcF K (.c3 (r.set i d) s a.length i)) (digs (val a / 2 ^ s)) := by
      intro d y hd hy he
      refine qaS ?_
      simp only [qcF]
      rw [qdN (by omega), show (i : Int) + 1 = ((i + 1 : Nat) : Int) by omega]
      refine natural_Shr_v1 ha hs1 hs hl m (i + 1) _ (by omega) (qnD hr i hd) (by simpa using hrl) ?_ (fun j hj => by rw [List.getElem?_set_ne (by omega)]; exact hz j (by omega))
      rw [qdO (by simpa using hir), qdO hia, hy, Int.pow_succ]
      have e3 : (r.set i d).take i = r.take i := by rw [List.take_set_of_le (Nat.le_refl _)]
      rw [e3]
      simp only [List.getElem_set_self]
      rw [gi0] at hv
      generalize (4294967296 : Int) ^ i = A at *
      generalize (2 : Int) ^ s = P at *
      grind
    refine ev_t (by simp; omega) ?_
    rw [qdN (x := (i : Int) + 1) (by omega), qdN (x := (32 : Int) - s) (by omega)]
    by_cases hin : i + 1 < r.length
    · have hin2 : i + 1 < a.length := by omega
      have ej : r[i + 1] = a[i + 1] := by
        have := hz (i + 1) (by omega)
        rw [List.getElem?_eq_getElem hin, List.getElem?_eq_getElem hin2] at this
        exact Option.some.inj this
      have hy := qfE hr hin
      obtain ⟨d, e1, hd, e2⟩ := shr_digit hx hy hs1 hs
      rw [show (i : Int) + 1 = ((i + 1 : Nat) : Int) by omega]
      refine ev_t (by simp; omega) (qb6 (qc0 hin) (qjP (by omega) (qb6 (qc0 hir) (qjP (by omega) (qb6 (qc0 hir) ?_)))))
      rw [e1, Int.toNat_natCast]
      rw [ei] at e2
      exact next d _ hd (by rw [ej]; simp [List.getD, List.getElem?_eq_getElem hin2]) e2
    · obtain ⟨d, e1, hd, e2⟩ := shr_digit hx (show 0 ≤ (0 : Int) ∧ (0 : Int) < 4294967296 by decide) hs1 hs
      have e4 : qgQ .u32 0 ((32 : Int) - s) = 0 := by rw [shl_le (by omega) (by show (32 : Int) - s ≤ 32; omega), Int.zero_mul]; rfl
      rw [e4] at e1
      refine ev_f (by simp; omega) (qb6 (qc0 hir) (qjP (by omega) (qb6 (qc0 hir) ?_)))
      rw [e1, Int.toNat_natCast]
      rw [ei] at e2
      exact next d 0 hd (by simp [List.getD, List.getElem?_eq_none (show a.length ≤ i + 1 by omega)]) e2
theorem natural_Shr_ev {a : List Int} (ha : Dig a) {s : Nat} (hs : s < 32) (hl : a.length ≤ 34359738360) : Ev (fun K => quB K a s) (digs (val a / 2 ^ s)) := by
  refine qaS ?_
  simp only [quB, qcF]
  have va := qe6 (qbB ha)
  have la := qd4 ha
  have e0 : max (s : Int) 0 = s := by omega
  have e1 : wI6 (Int.tdiv (s : Int) 32) = 0 := by
    rw [Int.tdiv_eq_ediv_of_nonneg (by omega), qdN (by omega)]; omega
  have e2 : Int.tmod (s : Int) 32 = s := by
    rw [Int.tmod_eq_emod_of_nonneg (by omega)]; omega
  rw [e0, e1, e2]
  refine qaP (qbX ha (by omega)) ?_
  by_cases h : digs (val a) = []
  · refine ev_t (by simp [h]) (qe5 (qa3 _) ?_)
    rw [(qjY (qbB ha)).1 h, Int.zero_ediv, qfV]
  · have hp := List.length_pos_iff.2 h
    refine ev_f (by simp; omega) (qjP (by simp) ?_)
    rw [show ((0 : Int).toNat) = 0 from rfl, List.drop_zero, List.take_length]
    refine ev_t (by simpa using hp) (qjP (by omega) ?_)
    by_cases h0 : s = 0
    · subst h0
      refine ev_f (by simp) ?_
      have := natural_trim_digs (val a) (qbB ha) (by omega)
      rw [Int.pow_zero, Int.ediv_one]
      exact qaP this (qa3 _)
    · refine ev_t (by simp; omega) ?_
      have := natural_Shr_v1 (qdT (val a)) (s := s) (by omega) hs (by omega) _ 0 _ (Nat.zero_add _) (qdT (val a)) rfl (by simp) (fun _ _ => rfl)
      rw [va] at this
      rw [List.length_map]
      exact this
theorem tab_len : ∀ i : Fin 256, ∃ t : Fin 9, qbQ[i.val]? = some (t.val : Int) ∧ (i.val = 0 ∨ (1 ≤ t.val ∧ 2 ^ (t.val - 1) ≤ i.val ∧ i.val < 2 ^ t.val)) := by decide +kernel
theorem tab_at {i : Int} (h : 0 < i ∧ i < 256) : ∃ t : Nat, gi qbQ i = some (t : Int) ∧ 1 ≤ t ∧ t ≤ 8 ∧ (2 : Int) ^ (t - 1) ≤ i ∧ i < 2 ^ t := by
  obtain ⟨t, h1, h2⟩ := tab_len ⟨i.toNat, by omega⟩
  simp only at h1 h2
  have h3 : i = ((i.toNat : Nat) : Int) := by omega
  rcases h2 with h2 | ⟨h4, h5, h6⟩
  · omega
  · refine ⟨t.val, ?_, h4, by have := t.isLt; omega, ?_, ?_⟩
    · unfold gi; rw [if_pos (by omega)]; exact h1
    · rw [h3]; exact_mod_cast h5
    · rw [h3]; exact_mod_cast h6
theorem math_bits_Len32_ev {x : Int} (hx : 0 < x ∧ x < 4294967296) : ∃ t : Nat, Ev (fun K => qhU K x) (t : Int) ∧ 1 ≤ t ∧ t ≤ 32 ∧ (2 : Int) ^ (t - 1) ≤ x ∧ x < 2 ^ t := by
  have s16 : qdG .u32 x 16 = x / 65536 := shr_eq _ _ _
  have s8 : qdG .u32 x 8 = x / 256 := shr_eq _ _ _
  have key : ∀ (k : Nat) (y : Int), y = x / 2 ^ k → 0 < y → y < 256 → k ≤ 24 → ∃ t : Nat, (gi qbQ y = some (t : Int)) ∧ 1 ≤ t ∧ t ≤ 8 ∧ (2 : Int) ^ (k + t - 1) ≤ x ∧ x < 2 ^ (k + t) := by
    intro k y e h0 h1 hk
    obtain ⟨t, g1, g2, g3, g4, g5⟩ := tab_at ⟨h0, h1⟩
    have hP : (0 : Int) < 2 ^ k := Int.pow_pos (by decide)
    have hd := Int.emod_add_mul_ediv x (2 ^ k)
    have hm1 := Int.emod_nonneg x (show (2 : Int) ^ k ≠ 0 by omega)
    have hm2 := Int.emod_lt_of_pos x hP
    rw [← e] at hd
    refine ⟨t, g1, g2, g3, ?_, ?_⟩
    · rw [show k + t - 1 = k + (t - 1) by omega, Int.pow_add]
      have := Int.mul_le_mul_of_nonneg_left g4 (Int.le_of_lt hP)
      omega
    · rw [Int.pow_add]
      have := Int.mul_le_mul_of_nonneg_left (show y + 1 ≤ 2 ^ t by omega) (Int.le_of_lt hP)
      rw [Int.mul_add] at this
      omega
  by_cases h1 : 65536 ≤ x
  · by_cases h2 : 256 ≤ x / 65536
    · obtain ⟨t, g1, g2, g3, g4, g5⟩ := key 24 (x / 65536 / 256) (by show x / 65536 / 256 = x / 16777216; omega) (by omega) (by omega) (by omega)
      refine ⟨24 + t, ?_, by omega, by omega, g4, g5⟩
      refine qaS ?_
      simp only [qhU, qeN]
      have s24 : qdG .u32 (x / 65536) 8 = x / 65536 / 256 := shr_eq _ _ _
      rw [s16, s24, show wU1 (x / 65536 / 256) = x / 65536 / 256 by rw [w_u8]; omega]
      refine ev_t (by simpa using h1) (ev_t (by simpa using h2) (qb6 g1 (qe5 (qa3 _) ?_)))
      rw [qdN (x := (t : Int)) (by omega), qdN (x := (16 : Int) + 8) (by omega), qdN (by omega)]; omega
    · obtain ⟨t, g1, g2, g3, g4, g5⟩ := key 16 (x / 65536) rfl (by omega) (by omega) (by omega)
      refine ⟨16 + t, ?_, by omega, by omega, g4, g5⟩
      refine qaS ?_
      simp only [qhU, qeN]
      rw [s16, show wU1 (x / 65536) = x / 65536 by rw [w_u8]; omega]
      refine ev_t (by simpa using h1) (ev_f (by simpa using h2) (qb6 g1 (qe5 (qa3 _) ?_)))
      rw [qdN (x := (t : Int)) (by omega), qdN (by omega)]; omega
  · by_cases h2 : 256 ≤ x
    · obtain ⟨t, g1, g2, g3, g4, g5⟩ := key 8 (x / 256) rfl (by omega) (by omega) (by omega)
      refine ⟨8 + t, ?_, by omega, by omega, g4, g5⟩
      refine qaS ?_
      simp only [qhU, qeN]
      rw [s8, show wU1 (x / 256) = x / 256 by rw [w_u8]; omega]
      refine ev_f (by simpa using h1) (ev_t (by simpa using h2) (qb6 g1 (qe5 (qa3 _) ?_)))
      rw [qdN (x := (t : Int)) (by omega), qdN (x := (0 : Int) + 8) (by omega), qdN (by omega)]; omega
    · obtain ⟨t, g1, g2, g3, g4, g5⟩ := key 0 x (by simp) (by omega) (by omega) (by omega)
      refine ⟨0 + t, ?_, by omega, by omega, g4, g5⟩
      refine qaS ?_
      simp only [qhU, qeN]
      rw [show wU1 x = x by rw [w_u8]; omega]
      refine ev_f (by simpa using h1) (ev_f (by simpa using h2) (qb6 g1 (qe5 (qa3 _) ?_)))
      rw [qdN (x := (t : Int)) (by omega), qdN (by omega)]; omega
theorem quX {x : Int} (hx : 0 < x ∧ x < 4294967296) : ∃ s : Nat, Ev (fun K => qgZ K x) (s : Int) ∧ s ≤ 31 ∧ (2147483648 : Int) ≤ x * 2 ^ s ∧ x < 2 ^ (32 - s) := by
  obtain ⟨t, g1, g2, g3, g4, g5⟩ := math_bits_Len32_ev hx
  refine ⟨32 - t, ?_, by omega, ?_, by rw [show 32 - (32 - t) = t by omega]; exact g5⟩
  · refine qaS ?_
    simp only [qgZ, qdZ]
    refine qaP g1 (qe5 (qa3 _) ?_)
    rw [qdN (by omega)]; omega
  · have hP : (0 : Int) < 2 ^ (32 - t) := Int.pow_pos (by decide)
    have h1 := Int.mul_le_mul_of_nonneg_right g4 (Int.le_of_lt hP)
    rw [← Int.pow_add, show t - 1 + (32 - t) = 31 by omega] at h1
    exact h1
end Go.Am.X
namespace Go.Am.X
theorem qt7 {r : List Int} {n : Nat} (hn : n ≤ r.length) : Ev (fun K => qbA K (.c2 r n)) (if n = 0 then none else some n) := by
  refine qaS ?_
  simp only [qbA]
  by_cases h : n = 0
  · subst h; exact ev_t (by simp) (qa3 _)
  · rw [if_neg h]
    refine ev_f (by simpa using h) (qjP (by omega) (qe5 (qa3 _) ?_))
    rw [Int.toNat_natCast, Nat.sub_zero]
theorem qt8 {r : List Int} (hd : Dig r) (hs : r.length < 4611686018427387904) : ∀ {n : Nat}, n ≤ r.length → val (r.take n) = val r →
    Ev (fun K => qbA K (.c1 r n)) (if (digs (val r)).length = 0 then none else some (digs (val r)).length)
  | 0, hn, hv => by
    refine qaS ?_
    simp only [qbA]
    have := qt7 (r := r) (Nat.zero_le _)
    rw [List.take_zero, val_nil] at hv
    rw [← hv, qfV]
    exact ev_f (by simp) this
  | n + 1, hn, hv => by
    refine qaS ?_
    simp only [qbA]
    refine ev_t (by simp) ?_
    rw [qdN (by omega), show ((n + 1 : Nat) : Int) - 1 = (n : Int) by omega]
    refine qb6 (qc0 (by omega)) ?_
    by_cases h : r[n]'(by omega) = 0
    · refine ev_t (by simp [h]) (qt8 hd hs (by omega) ?_)
      rw [← hv, qu1 (by rw [List.getElem?_eq_getElem (by omega), h])]
    · refine ev_f (by simp [h]) ?_
      have e : digs (val r) = r.take (n + 1) := by
        rw [← hv]
        refine digs_of_can (can_of_last (qh0 hd _) fun x hx => ?_)
        rw [List.getLast?_take, if_neg (by omega), Nat.add_sub_cancel, List.getElem?_eq_getElem (by omega)] at hx
        simp at hx
        rw [← hx]; exact h
      have el : (digs (val r)).length = n + 1 := by rw [e, List.length_take]; omega
      rw [el]
      exact qt7 hn
theorem qt9 {r : List Int} (hd : Dig r) (hs : r.length < 4611686018427387904) : Ev (fun K => qhS K r) (if (digs (val r)).length = 0 then none else some (digs (val r)).length) := by
  refine qaS ?_
  simp only [qhS, qbA]
  exact qt8 hd hs (Nat.le_refl _) (by rw [List.take_length])
theorem take_digs {r : List Int} (hd : Dig r) : r.take (digs (val r)).length = digs (val r) :=
  (congrArg (List.take (digs (val r)).length) (digs_pad hd)).trans (List.take_left' rfl)
def optD (z : Int) : Option (List Int) := if (digs z).length = 0 then none else some (digs z)
theorem natural_ShlN_v1 {r0 : List Int} (h0 : Dig r0) {s : Nat} (hs1 : 0 < s) (hs : s < 32) (hl : r0.length < 4611686018427387904) (hlast : val r0 * 2 ^ s < 4294967296 ^ r0.length) : ∀ (m i : Nat) (l : Int) (r : List Int), i + m = r0.length → (0 ≤ l ∧ l < 2 ^ s) → Dig r → r.length = r0.length →
    val r + 4294967296 ^ i * l = 2 ^ s * val (r0.take i) + 4294967296 ^ i * val (r0.drop i) → (∀ j, i ≤ j → r[j]? = r0[j]?) → Ev (fun K => qc8 K (.c1 r s l i)) (optD (val r0 * 2 ^ s))
  | 0, i, l, r, hi, hlo, hr, hrl, hv, hz => by
    refine qaS ?_
    simp only [qc8]
    refine ev_f (by simp; omega) ?_
    have h1 := qt9 hr (by omega)
    rw [List.take_of_length_le (by omega), List.drop_of_length_le (by omega), val_nil, Int.mul_zero, Int.add_zero, Int.mul_comm (2 ^ s)] at hv
    have hp := qfA i
    have hn := qbB hr
    rw [show r0.length = i by omega] at hlast
    have hl0 : l = 0 := by
      apply Classical.byContradiction; intro hne
      have := Int.mul_le_mul_of_nonneg_left (show 1 ≤ l by omega) (Int.le_of_lt hp)
      omega
    subst hl0
    rw [Int.mul_zero, Int.add_zero] at hv
    refine qaP h1 ?_
    have htd := take_digs hr
    have hle := qd4 hr
    rw [hv] at htd hle ⊢
    unfold optD
    by_cases h : (digs (val r0 * 2 ^ s)).length = 0
    · rw [if_pos h, if_pos h]; exact qa3 _
    · rw [if_neg h, if_neg h]
      refine qjP hle (qe5 (qa3 _) ?_)
      rw [htd]
  | m + 1, i, l, r, hi, hlo, hr, hrl, hv, hz => by
    refine qaS ?_
    simp only [qc8]
    have hir : i < r.length := by omega
    have hi0 : i < r0.length := by omega
    have hx := qfE hr hir
    obtain ⟨d, q, e1, e2, hd, hq, e3⟩ := shl_digit hx hlo hs
    refine ev_t (by simp; omega) (qb6 (qc0 hir) (qjP (by omega) (qb6 (qc0 hir) (qjP (by rw [qdN (by omega)]; omega) ?_))))
    rw [qdN (x := (32 : Int) - s) (by omega), e1, e2, Int.toNat_natCast, qdN (by omega), show (i : Int) + 1 = ((i + 1 : Nat) : Int) by omega]
    refine natural_ShlN_v1 h0 hs1 hs hl hlast m (i + 1) q _ (by omega) hq (qnD hr i hd) (by simpa using hrl) ?_ (fun j hj => ?_)
    · have e4 : r[i] = r0[i] := by
        have := hz i (Nat.le_refl _)
        rw [List.getElem?_eq_getElem hir, List.getElem?_eq_getElem hi0] at this
        exact Option.some.inj this
      rw [qoL hir, qdO hi0, Int.pow_succ]
      rw [List.drop_eq_getElem_cons hi0, qnS] at hv
      rw [e4] at e3 ⊢
      generalize (4294967296 : Int) ^ i = A at *
      generalize (2 : Int) ^ s = P at *
      grind
    · rw [List.getElem?_set_ne (by omega)]; exact hz j (by omega)
theorem natural_ShlN_ev {a : List Int} (ha : Dig a) {n : Nat} (hn : n < 32) (hs : a.length ≤ 34359738360 - 524288) : Ev (fun K => qr2 K a n) (optD (val a * 2 ^ n)) := by
  refine qaS ?_
  simp only [qr2, qc8]
  have va := qe6 (qbB ha)
  have la := qd4 ha
  refine qaP (qbX ha (by omega)) ?_
  by_cases h1 : digs (val a) = []
  · refine ev_t (by simp [h1]) (qe5 (qa3 _) ?_)
    rw [(qjY (qbB ha)).1 h1, Int.zero_mul]; simp [optD, qfV]
  · refine ev_f (by simpa using h1) ?_
    have e0 : min (max (n : Int) 0) 16777216 = n := by omega
    have e1 : wI6 (Int.tdiv (n : Int) 32) = 0 := by
      rw [Int.tdiv_eq_ediv_of_nonneg (by omega), qdN (by omega)]; omega
    have e2 : Int.tmod (n : Int) 32 = n := by
      rw [Int.tmod_eq_emod_of_nonneg (by omega)]; omega
    rw [e0, e1, e2, qdN (x := (0 : Int) + ((digs (val a)).length : Int)) (by omega), qdN (by omega),
      show (0 : Int) + ((digs (val a)).length : Int) + 1 = (((digs (val a)).length + 1 : Nat) : Int) by omega]
    simp only [Int.toNat_natCast, List.length_replicate, Nat.zero_add, Int.toNat_zero]
    refine qjP (by omega) (qjP (by omega) (qjP (by omega) ?_))
    have hcp : qd6 (List.replicate ((digs (val a)).length + 1) (0 : Int)) 0 ((digs (val a)).length + 1 - 0) (digs (val a)) = digs (val a) ++ [0] := by
      unfold qd6
      rw [if_pos (by simp), List.take_of_length_le (by omega)]
      unfold qbY
      rw [List.take_zero, List.drop_replicate, Nat.zero_add, show (digs (val a)).length + 1 - (digs (val a)).length = 1 by omega]
      rfl
    rw [hcp]
    have hd : Dig (digs (val a) ++ [0]) := dig_append.2 ⟨qdT _, qi1.2 ⟨by decide, dig_nil⟩⟩
    have hv : val (digs (val a) ++ [0]) = val a := by rw [qi2, va]; simp
    have hl : (digs (val a) ++ [0]).length = (digs (val a)).length + 1 := by simp
    by_cases h2 : n = 0
    · refine ev_f (by simp [h2]) ?_
      have := qt9 hd (by omega)
      refine qaP this ?_
      rw [h2, Int.pow_zero, Int.mul_one]
      have htd := take_digs hd
      have hle := qd4 hd
      rw [hv] at htd hle ⊢
      unfold optD
      by_cases h : (digs (val a)).length = 0
      · rw [if_pos h, if_pos h]; exact qa3 _
      · rw [if_neg h, if_neg h]
        refine qjP hle (qe5 (qa3 _) ?_)
        rw [htd]
    · refine ev_t (by simp; omega) ?_
      have hlast : val (digs (val a) ++ [0]) * 2 ^ n < 4294967296 ^ (digs (val a) ++ [0]).length := by
        rw [hv, hl, Int.pow_succ]
        have h3 := qjV (qdT (val a))
        rw [va] at h3
        have h4 : (2 : Int) ^ n < 4294967296 := by
          have : (2 : Nat) ^ n ≤ 2 ^ 31 := Nat.pow_le_pow_right (by decide) (by omega)
          have : ((2 ^ n : Nat) : Int) ≤ ((2 ^ 31 : Nat) : Int) := by exact_mod_cast this
          simp at this; omega
        have h8 := qbB ha
        calc val a * 2 ^ n ≤ val a * 4294967296 := Int.mul_le_mul_of_nonneg_left (Int.le_of_lt h4) h8
          _ < 4294967296 ^ (digs (val a)).length * 4294967296 := Int.mul_lt_mul_of_pos_right h3 (by decide)
      have := natural_ShlN_v1 hd (s := n) (by omega) (by omega) (by omega) hlast _ 0 0 _ (Nat.zero_add _) ⟨Int.le_refl 0, Int.pow_pos (by decide)⟩ hd rfl (by simp) (fun _ _ => rfl)
      rw [hv] at this
      exact this
def Top (k : Nat) (u : List Int) : Prop := ∀ j, k ≤ j → j < u.length → u[j]? = some 0
theorem top_val {k : Nat} {u : List Int} (h : Top k u) : val u = val (u.take k) := by
  by_cases hk : k ≤ u.length
  · rw [qmH u k hk, val_zero (l := u.drop k)]
    · simp
    · intro x hx
      obtain ⟨j, hj, rfl⟩ := List.getElem_of_mem hx
      have := h (k + j) (by omega) (by simp at hj; omega)
      simp only [List.getElem_drop]
      rw [List.getElem?_eq_getElem (by simp at hj; omega)] at this
      exact Option.some.inj this
  · rw [List.take_of_length_le (by omega)]
theorem top_lt {k : Nat} {u : List Int} (hu : Dig u) (h : Top k u) : val u < 4294967296 ^ k := by
  rw [top_val h]
  have h1 := qjV (qh0 hu k)
  have h2 := qrV (show (u.take k).length ≤ k by rw [List.length_take]; omega)
  omega
theorem top_of_lt {k : Nat} {u : List Int} (hu : Dig u) (h : val u < 4294967296 ^ k) : Top k u := by
  intro j hj hjl
  rw [List.getElem?_eq_getElem hjl]
  congr 1
  have h1 := qmH u j (by omega)
  rw [drop_pred hjl] at h1
  have h2 := qbB (qh0 hu j)
  have h3 := qbB (dig_drop hu (j + 1))
  have h4 := qfE hu hjl
  have h5 := qrV hj
  have h6 := qfA j
  apply Classical.byContradiction; intro hne
  have := Int.mul_le_mul_of_nonneg_left (show 1 ≤ u[j] + 4294967296 * val (u.drop (j + 1)) by omega) (Int.le_of_lt h6)
  omega
theorem top_set {k i : Nat} {u : List Int} {x : Int} (h : Top k u) (hi : i < k) : Top k (u.set i x) := by
  intro j hj hjl
  rw [List.getElem?_set_ne (by omega)]
  exact h j hj (by simpa using hjl)
theorem three {u : List Int} {k : Nat} (hk : k + 2 < u.length) (h : Top (k + 3) u) : val u = val (u.take k) + 4294967296 ^ k * (u[k] + 4294967296 * u[k + 1] + 18446744073709551616 * u[k + 2]) := by
  rw [top_val h, qdO (i := k + 2) (by omega), qdO (i := k + 1) (by omega), qdO (i := k) (by omega), show (4294967296 : Int) ^ (k + 2) = 4294967296 ^ k * 18446744073709551616 by rw [Int.pow_add]; rfl, Int.pow_succ]
  generalize (4294967296 : Int) ^ k = A
  grind
end Go.Am.X
namespace Go.Am.X
structure Dv (v : List Int) (n s : Nat) (top next : Int) : Prop where
  dig : Dig v
  len : v.length = n
  two : 2 ≤ n
  small : n < 2305843009213693952
  sh : s < 32
  htop : v[n - 1]? = some top
  hnext : v[n - 2]? = some next
  great : 2147483648 ≤ top
theorem Dv.form {v : List Int} {n s : Nat} {top next : Int} (h : Dv v n s top next) : ∃ w, val v = w + 4294967296 ^ (n - 2) * (next + 4294967296 * top) ∧ 0 ≤ w ∧ w < 4294967296 ^ (n - 2) ∧ (0 ≤ next ∧ next < 4294967296) ∧ (2147483648 ≤ top ∧ top < 4294967296) := by
  have h1 := h.len
  have h2 := h.two
  obtain ⟨g1, e1⟩ := List.getElem?_eq_some_iff.1 h.htop
  obtain ⟨g2, e2⟩ := List.getElem?_eq_some_iff.1 h.hnext
  have d1 := qfE h.dig g1
  have d2 := qfE h.dig g2
  refine ⟨val (v.take (n - 2)), ?_, qbB (qh0 h.dig _), ?_, by omega, by have := h.great; omega⟩
  · have e : val v = val (v.take (n - 2 + 1 + 1)) := by rw [List.take_of_length_le (by omega)]
    rw [e, qdO (by omega), qdO (by omega), Int.pow_succ, e2]
    have e3 : v[n - 2 + 1]'(by omega) = top := by rw [← e1]; congr 1; omega
    rw [e3]
    generalize (4294967296 : Int) ^ (n - 2) = A
    grind
  · have := qjV (qh0 h.dig (n - 2))
    rw [List.length_take, Nat.min_eq_left (by omega)] at this
    exact this
theorem dv_bounds {v : List Int} {n s : Nat} {top next : Int} (h : Dv v n s top next) (j : Nat) :
    (top * 4294967296 + next) * 4294967296 ^ (j + n - 2) ≤ 4294967296 ^ j * val v ∧ 4294967296 ^ j * val v < (top * 4294967296 + next + 1) * 4294967296 ^ (j + n - 2) := by
  obtain ⟨w, e, h0, h1, _, _⟩ := h.form
  have h2 := h.two
  rw [e, show j + n - 2 = j + (n - 2) by omega, Int.pow_add]
  have hA := qfA j
  have hw := Int.mul_nonneg (Int.le_of_lt hA) h0
  have hw2 := Int.mul_lt_mul_of_pos_left h1 hA
  generalize (4294967296 : Int) ^ j = A at *
  generalize (4294967296 : Int) ^ (n - 2) = C at *
  constructor <;> grind
theorem guess_loop {r71 v u : List Int} {n s j : Nat} {top next : Int} {res : List Int × List Int} (hv : Dv v n s top next) (hu : Dig u) (hl : j + n < u.length) (hls : u.length < 2305843009213693952) (ht : Top (j + n + 1) u)
    (hU : val u < 4294967296 * (4294967296 ^ j * val v))
    (hk : ∀ g : Int, 0 ≤ g → g < 4294967296 → (g - 1) * (4294967296 ^ j * val v) ≤ val u → val u < (g + 1) * (4294967296 ^ j * val v) → Ev (fun K => qaL K (.c6 u r71 n s v top next j g)) res) :
    ∀ (m : Nat) (g rest : Int), g.toNat = m → 0 ≤ g → g < 17179869184 → 0 ≤ rest → rest < 4294967296 → g * top + rest = u[j + n] * 4294967296 + u[j + n - 1]'(by omega) → val u < (g + 1) * (4294967296 ^ j * val v) →
      Ev (fun K => qaL K (.c4 u r71 n s v top next j g rest)) res := by
  have h2 := hv.two
  obtain ⟨w, ev, _, _, hnx, htp⟩ := hv.form
  obtain ⟨b1, b2⟩ := dv_bounds hv j
  have e3 := three (u := u) (k := j + n - 2) (by omega) (by rw [show j + n - 2 + 3 = j + n + 1 by omega]; exact ht)
  have ei1 : u[j + n - 2 + 1]'(by omega) = u[j + n - 1]'(by omega) := by congr 1; omega
  have ei2 : u[j + n - 2 + 2]'(by omega) = u[j + n] := by congr 1; omega
  rw [ei1, ei2] at e3
  have l1 := qbB (qh0 hu (j + n - 2))
  have l2 := qjV (qh0 hu (j + n - 2))
  rw [List.length_take, Nat.min_eq_left (by omega)] at l2
  have d0 := qfE hu (show j + n - 2 < u.length by omega)
  have d1 := qfE hu (show j + n - 1 < u.length by omega)
  have d2 := qfE hu (show j + n < u.length by omega)
  have hP := qfA (j + n - 2)
  have hUn := qbB hu
  have hVn : 0 ≤ 4294967296 ^ j * val v := Int.mul_nonneg (Int.le_of_lt (qfA j)) (qbB hv.dig)
  generalize hu2 : u[j + n - 2]'(by omega) = u2 at *
  generalize hu1 : u[j + n - 1]'(by omega) = u1 at *
  generalize hu0 : u[j + n]'(by omega) = u0 at *
  generalize (4294967296 : Int) ^ (j + n - 2) = P at *
  generalize 4294967296 ^ j * val v = W at *
  have hlo : ((u0 * 4294967296 + u1) * 4294967296 + u2) * P ≤ val u := by
    have : ((u0 * 4294967296 + u1) * 4294967296 + u2) * P = P * (u2 + 4294967296 * u1 + 18446744073709551616 * u0) := by grind
    omega
  have hhi : val u < ((u0 * 4294967296 + u1) * 4294967296 + u2 + 1) * P := by
    have : ((u0 * 4294967296 + u1) * 4294967296 + u2 + 1) * P = P * (u2 + 4294967296 * u1 + 18446744073709551616 * u0) + P := by grind
    omega
  have hu0t : u0 ≤ top := by
    apply Classical.byContradiction; intro hne
    have h3 : (u0 * 4294967296 * 4294967296) * P ≤ val u := by
      have := Int.mul_le_mul_of_nonneg_right (show u0 * 4294967296 * 4294967296 ≤ (u0 * 4294967296 + u1) * 4294967296 + u2 by omega) (Int.le_of_lt hP)
      omega
    have h4 : ((top * 4294967296 + next + 1) * 4294967296) * P ≤ (u0 * 4294967296 * 4294967296) * P := Int.mul_le_mul_of_nonneg_right (by omega) (Int.le_of_lt hP)
    have h5 : ((top * 4294967296 + next + 1) * 4294967296) * P = 4294967296 * ((top * 4294967296 + next + 1) * P) := by grind
    omega
  -- the end of the loop
  have fin : ∀ g rest : Int, 0 ≤ g → g < 4294967296 → g * top + rest = u0 * 4294967296 + u1 → g * next ≤ rest * 4294967296 + u2 → val u < (g + 1) * W → Ev (fun K => qaL K (.c6 u r71 n s v top next j g)) res := by
    intro g rest g0 g1 e hle hgu
    refine hk g g0 g1 (kn_exit hP g0 (by omega) hVn hUn b2 hlo ?_) hgu
    have : g * (top * 4294967296 + next) = (g * top) * 4294967296 + g * next := by grind
    omega
  intro m
  induction m with
  | zero =>
    intro g rest hm g0 g1 r0 r1 e hgu
    have : g = 0 := by omega
    subst this
    refine qaS ?_
    simp only [qaL]
    refine ev_f (by simp) ?_
    rw [qdN (x := (j : Int) + n) (by omega), qdN (by omega), show (j : Int) + n - 2 = ((j + n - 2 : Nat) : Int) by omega]
    refine qb6 (qc0 (by omega)) (ev_f ?_ (fin 0 rest (by omega) (by omega) e (by omega) hgu))
    rw [hu2, Int.zero_mul, qsS, qsS, Int.emod_eq_of_lt d0.1 (by omega), or_hi_lo ⟨r0, r1⟩ d0]
    simp; omega
  | succ m ih =>
    intro g rest hm g0 g1 r0 r1 e hgu
    have dec : val u < g * W → Ev (fun K => bif decide (4294967296 ≤ wU6 (rest + top)) then qaL K (.c6 u r71 n s v top next j (wU6 (g - 1))) else qaL K (.c4 u r71 n s v top next j (wU6 (g - 1)) (wU6 (rest + top)))) res := by
      intro hlt
      rw [qsS, qsS, Int.emod_eq_of_lt (by omega) (by omega), Int.emod_eq_of_lt (by omega) (by omega)]
      have e' : (g - 1) * top + (rest + top) = u0 * 4294967296 + u1 := by rw [Int.sub_mul]; omega
      by_cases hb : 4294967296 ≤ rest + top
      · refine ev_t (by simpa using hb) ?_
        have hg : g - 1 < 4294967296 := by
          apply Classical.byContradiction; intro hne
          have := Int.mul_le_mul_of_nonneg_right (show 4294967296 ≤ g - 1 by omega) (show 0 ≤ top by omega)
          omega
        refine fin (g - 1) (rest + top) (by omega) hg e' ?_ (by rw [Int.sub_add_cancel]; exact hlt)
        have := prod_lt ⟨show 0 ≤ g - 1 by omega, hg⟩ hnx
        omega
      · refine ev_f (by simpa using hb) (ih (g - 1) (rest + top) (by omega) (by omega) (by omega) (by omega) (by omega) e' (by rw [Int.sub_add_cancel]; exact hlt))
    refine qaS ?_
    simp only [qaL]
    by_cases hg : 4294967296 ≤ g
    · refine ev_t (by simpa using hg) (dec ?_)
      have := Int.mul_le_mul_of_nonneg_right hg hVn
      omega
    · refine ev_f (by simpa using hg) ?_
      rw [qdN (x := (j : Int) + n) (by omega), qdN (by omega), show (j : Int) + n - 2 = ((j + n - 2 : Nat) : Int) by omega]
      refine qb6 (qc0 (by omega)) ?_
      have hgn := prod_lt ⟨g0, show g < 4294967296 by omega⟩ hnx
      have e4 : wU6 u2 = u2 := by rw [qsS]; omega
      have e5 : wU6 (g * next) = g * next := by rw [qsS]; omega
      rw [hu2, e4, e5, or_hi_lo ⟨r0, r1⟩ d0]
      by_cases hc : rest * 4294967296 + u2 < g * next
      · refine ev_t (by simpa using hc) (dec (kn_dec hP g0 b1 hhi ?_))
        have : g * (top * 4294967296 + next) = (g * top) * 4294967296 + g * next := by grind
        omega
      · exact ev_f (by simpa using hc) (fin g rest g0 (by omega) e (by omega) hgu)
theorem addback_loop {r71 v : List Int} {n s j : Nat} {top next : Int} {res : List Int × List Int} (hv : Dv v n s top next) (L : Nat) (hl : j + n < L) (hls : L < 2305843009213693952) (W0 : Int)
    (hk : ∀ u : List Int, Dig u → u.length = L → Top (j + n + 1) u → (∃ k : Int, 0 ≤ k ∧ val u = W0 + 4294967296 ^ j * val v - 4294967296 ^ (j + n + 1) * k) → Ev (fun K => qaL K (.c11 u r71 n s v top next j)) res) :
    ∀ (m i : Nat) (c : Int) (u : List Int), i + m = n → (c = 0 ∨ c = 1) → Dig u → u.length = L → Top (j + n + 1) u → val u + 4294967296 ^ (i + j) * c = W0 + 4294967296 ^ j * val (v.take i) →
      Ev (fun K => qaL K (.c12 u r71 n s v top next j c v n i)) res
  | 0, i, c, u, hi, hc, hu, hul, ht, hval => by
    have h2 := hv.two
    refine qaS ?_
    simp only [qaL]
    refine ev_f (by simp; omega) ?_
    rw [qdN (by omega), show (j : Int) + n = ((j + n : Nat) : Int) by omega, Int.toNat_natCast]
    refine qb6 (qc0 (by omega)) (qb6 (qc0 (by omega)) ?_)
    have d := qfE hu (show j + n < u.length by omega)
    rw [w_u32]
    refine hk _ (qnD hu _ (by omega)) (by simpa using hul) (top_set ht (by omega)) ⟨(u[j + n]'(by omega) + c) / 4294967296, by omega, ?_⟩
    rw [qoL (by omega)]
    rw [List.take_of_length_le (by have := hv.len; omega), show i + j = j + n by omega] at hval
    have := Int.emod_add_mul_ediv (u[j + n]'(by omega) + c) 4294967296
    rw [Int.pow_succ]
    generalize (u[j + n]'(by omega) + c) % 4294967296 = p at *
    generalize (u[j + n]'(by omega) + c) / 4294967296 = q at *
    generalize (4294967296 : Int) ^ (j + n) = A at *
    grind
  | m + 1, i, c, u, hi, hc, hu, hul, ht, hval => by
    have h2 := hv.two
    have h3 := hv.len
    refine qaS ?_
    simp only [qaL]
    have hiv : i < v.length := by omega
    have hiu : i + j < u.length := by omega
    refine ev_t (by simp; omega) (qb6 (qc0 hiv) ?_)
    rw [qdN (x := (i : Int) + j) (by omega), show (i : Int) + j = ((i + j : Nat) : Int) by omega, Int.toNat_natCast]
    have d := qfE hu hiu
    have dv := qfE hv.dig hiv
    refine qb6 (qc0 hiu) (qaP (qlQ d dv (by omega)) (qb6 (qc0 hiu) ?_))
    simp only
    rw [qdN (by omega), show (i : Int) + 1 = ((i + 1 : Nat) : Int) by omega]
    refine addback_loop hv L hl hls W0 hk m (i + 1) _ _ (by omega) (by omega) (qnD hu _ (by omega)) (by simpa using hul) (top_set ht (by omega)) ?_
    rw [qoL hiu, qdO hiv, show i + 1 + j = i + j + 1 by omega, Int.pow_succ]
    have := Int.emod_add_mul_ediv (u[i + j] + v[i] + c) 4294967296
    generalize (u[i + j] + v[i] + c) % 4294967296 = p at *
    generalize (u[i + j] + v[i] + c) / 4294967296 = q at *
    rw [Int.pow_add] at *
    generalize (4294967296 : Int) ^ i = A at *
    generalize (4294967296 : Int) ^ j = C at *
    grind
theorem c12_start {r71 v u : List Int} {n s j : Nat} {top next : Int} {res : List Int × List Int} (hv : Dv v n s top next) (hl : j + n < u.length) (hls : u.length < 2305843009213693952) (hu : Dig u) (ht : Top (j + n + 1) u)
    (hk : ∀ u' : List Int, Dig u' → u'.length = u.length → Top (j + n + 1) u' → (∃ k : Int, 0 ≤ k ∧ val u' = val u + 4294967296 ^ j * val v - 4294967296 ^ (j + n + 1) * k) → Ev (fun K => qaL K (.c11 u' r71 n s v top next j)) res) :
    Ev (fun K => qaL K (.c12 u r71 n s v top next j 0 v v.length 0)) res := by
  have := addback_loop hv u.length hl hls (val u) hk n 0 0 u (by omega) (.inl rfl) hu rfl ht (by simp)
  rw [hv.len]
  exact this
theorem mulsub_loop {r71 v : List Int} {n s j : Nat} {top next : Int} {res : List Int × List Int} (hv : Dv v n s top next) (L : Nat) (hl : j + n < L) (hls : L < 2305843009213693952) (hj : j < r71.length) (g U : Int) (hg : 0 ≤ g ∧ g < 4294967296) (hU0 : 0 ≤ U)
    (hg1 : (g - 1) * (4294967296 ^ j * val v) ≤ U) (hg2 : U < (g + 1) * (4294967296 ^ j * val v))
    (hk : ∀ (u : List Int) (g' : Int), Dig u → u.length = L → 0 ≤ g' → g' < 4294967296 → val u = U - g' * (4294967296 ^ j * val v) → val u < 4294967296 ^ j * val v → Ev (fun K => qaL K (.c11 u (r71.set j g') n s v top next j)) res) :
    ∀ (m i : Nat) (c b : Int) (u : List Int), i + m = n → (0 ≤ c ∧ c < 4294967296) → (b = 0 ∨ b = 1) → Dig u → u.length = L → Top (j + n + 1) u → val u - 4294967296 ^ (i + j) * (b + c) = U - g * (4294967296 ^ j * val (v.take i)) →
      Ev (fun K => qaL K (.c8 u r71 n s v top next j g c b v n i)) res
  | 0, i, c, b, u, hi, hc, hb, hu, hul, ht, hval => by
    have h2 := hv.two
    have h3 := hv.len
    refine qaS ?_
    simp only [qaL]
    refine ev_f (by simp; omega) ?_
    rw [qdN (by omega), show (j : Int) + n = ((j + n : Nat) : Int) by omega, Int.toNat_natCast, Int.toNat_natCast]
    have d := qfE hu (show j + n < u.length by omega)
    refine qb6 (qc0 (by omega)) (qb6 (qc0 (by omega)) (qb6 (qc0 hj) ?_))
    rw [List.take_of_length_le (by omega), show i + j = j + n by omega] at hval
    have eg : wU3 g = g := by rw [w_u32]; omega
    have ex : wU6 (wU6 (wU6 (u[j + n]'(by omega)) - b) - c) = (u[j + n]'(by omega) - (b + c)) % 18446744073709551616 := by simp only [qsS]; omega
    rw [ex, eg, shr_le (by decide) (by decide), w_u32, show (2 : Int) ^ ((63 : Int).toNat) = 9223372036854775808 by decide]
    have hvs : ∀ x : Int, val (u.set (j + n) x) = val u + 4294967296 ^ (j + n) * (x - u[j + n]'(by omega)) := fun x => qoL (by omega) x
    have htk := top_val (top_set (x := u[j + n]'(by omega) - (b + c)) ht (show j + n < j + n + 1 by omega))
    have hA := qfA (j + n)
    have hW : 0 ≤ 4294967296 ^ j * val v := Int.mul_nonneg (Int.le_of_lt (qfA j)) (qbB hv.dig)
    by_cases hD : 0 ≤ u[j + n]'(by omega) - (b + c)
    · refine ev_t (by simp; omega) ?_
      have e1 : (u[j + n]'(by omega) - (b + c)) % 18446744073709551616 % 4294967296 = u[j + n]'(by omega) - (b + c) := by omega
      rw [e1]
      have hdig := qnD hu (j + n) (x := u[j + n]'(by omega) - (b + c)) (by omega)
      have hval2 : val (u.set (j + n) (u[j + n]'(by omega) - (b + c))) = U - g * (4294967296 ^ j * val v) := by
        rw [hvs, ← hval]; grind
      refine hk _ g hdig (by simpa using hul) hg.1 hg.2 hval2 ?_
      rw [hval2, Int.add_mul, Int.one_mul] at *
      omega
    · refine ev_f (by simp; omega) ?_
      have e1 : (u[j + n]'(by omega) - (b + c)) % 18446744073709551616 % 4294967296 = u[j + n]'(by omega) - (b + c) + 4294967296 := by omega
      rw [e1]
      have hdig := qnD hu (j + n) (x := u[j + n]'(by omega) - (b + c) + 4294967296) (by omega)
      have htop := top_set (x := u[j + n]'(by omega) - (b + c) + 4294967296) ht (show j + n < j + n + 1 by omega)
      have hval2 : val (u.set (j + n) (u[j + n]'(by omega) - (b + c) + 4294967296)) = U - g * (4294967296 ^ j * val v) + 4294967296 ^ (j + n + 1) := by
        rw [hvs, ← hval, Int.pow_succ]; grind
      -- the guess was one too many
      have hneg : U - g * (4294967296 ^ j * val v) < 0 := by
        have h4 : val (u.take (j + n)) < 4294967296 ^ (j + n) := by
          have := qjV (qh0 hu (j + n))
          rwa [List.length_take, Nat.min_eq_left (by omega)] at this
        have h5 := top_val ht
        rw [qdO (by omega)] at h5
        have h6 := Int.mul_le_mul_of_nonneg_left (show u[j + n]'(by omega) - (b + c) + 1 ≤ 0 by omega) (Int.le_of_lt hA)
        rw [← hval, h5]
        have h7 : 4294967296 ^ (j + n) * (u[j + n]'(by omega) - (b + c) + 1) = 4294967296 ^ (j + n) * u[j + n]'(by omega) - 4294967296 ^ (j + n) * (b + c) + 4294967296 ^ (j + n) := by grind
        omega
      have hgp : 1 ≤ g := by
        apply Classical.byContradiction; intro hne
        have : g = 0 := by omega
        subst this; simp at hneg; omega
      have hgj : gi (r71.set j g) (j : Int) = some g := gi_get (by simp [hj])
      refine qb6 hgj (qb6 hgj ?_)
      have eg1 : wU3 (g - 1) = g - 1 := by rw [w_u32]; omega
      rw [w_u32, Int.emod_eq_of_lt (by omega) (by omega), List.set_set]
      refine c12_start hv (by simp; omega) (by simp; omega) hdig htop fun u' hu' hul' ht' ⟨k, hk0, hke⟩ => ?_
      rw [hval2] at hke
      have hlt := top_lt hu' ht'
      have hn' := qbB hu'
      have hX : U - (g - 1) * (4294967296 ^ j * val v) = U - g * (4294967296 ^ j * val v) + 4294967296 ^ j * val v := by grind
      have hB := qfA (j + n + 1)
      have hk1 : k = 1 := by
        have hWB : 4294967296 ^ j * val v < 4294967296 ^ (j + n + 1) := by
          have h4 := qjV hv.dig
          rw [h3] at h4
          have h5 := Int.mul_lt_mul_of_pos_left h4 (qfA j)
          rw [← Int.pow_add] at h5
          have h6 := qrV (show j + n ≤ j + n + 1 by omega)
          omega
        apply Classical.byContradiction; intro hne
        rcases Int.lt_or_gt_of_ne hne with hlt1 | hgt1
        · have : k = 0 := by omega
          subst this
          omega
        · have := Int.mul_le_mul_of_nonneg_left (show 2 ≤ k by omega) (Int.le_of_lt hB)
          omega
      subst hk1
      refine hk u' (g - 1) hu' (by rw [hul']; simpa using hul) (by omega) (by omega) (by omega) (by omega)
  | m + 1, i, c, b, u, hi, hc, hb, hu, hul, ht, hval => by
    have h2 := hv.two
    have h3 := hv.len
    refine qaS ?_
    simp only [qaL]
    have hiv : i < v.length := by omega
    have hiu : i + j < u.length := by omega
    refine ev_t (by simp; omega) (qb6 (qc0 hiv) ?_)
    rw [qdN (x := (i : Int) + j) (by omega), show (i : Int) + j = ((i + j : Nat) : Int) by omega, Int.toNat_natCast]
    have d := qfE hu hiu
    have dv := qfE hv.dig hiv
    have hp := prod_lt hg dv
    refine qb6 (qc0 hiu) (qb6 (qc0 hiu) ?_)
    have e1 : wU6 (wU6 (g * wU6 v[i]) + c) = g * v[i] + c := by
      rw [qsS v[i], Int.emod_eq_of_lt dv.1 (by omega), qsS, qsS, Int.emod_eq_of_lt hp.1 (by omega), Int.emod_eq_of_lt (by omega) (by omega)]
    obtain ⟨c', b', y', q1, q2, q3, hc', hb', hy', he⟩ := sub_step hg dv hc hb d
    rw [e1, and_mask (by omega), shr64_32, shr_le (by decide) (by decide), show (2 : Int) ^ ((63 : Int).toNat) = 9223372036854775808 by decide]
    have e2 : wU6 (wU6 (wU6 u[i + j] - b) - (g * v[i] + c) % 4294967296) = (u[i + j] - b - (g * v[i] + c) % 4294967296) % 18446744073709551616 := by simp only [qsS]; omega
    rw [e2, w_u32, q1, q2, q3, qdN (by omega), show (i : Int) + 1 = ((i + 1 : Nat) : Int) by omega]
    refine mulsub_loop hv L hl hls hj g U hg hU0 hg1 hg2 hk m (i + 1) c' b' _ (by omega) hc' hb' (qnD hu _ hy') (by simpa using hul) (top_set ht (by omega)) ?_
    rw [qoL hiu, qdO hiv, show i + 1 + j = i + j + 1 by omega, Int.pow_succ]
    rw [Int.pow_add] at *
    generalize (4294967296 : Int) ^ i = A at *
    generalize (4294967296 : Int) ^ j = C at *
    grind
theorem long_loop {v : List Int} {n s : Nat} {top next : Int} (hv : Dv v n s top next) (L : Nat) (hnL : n < L) (hls : L < 34359738360) (A : Int) :
    ∀ (jj : Nat) (u q : List Int), jj + n ≤ L → Dig u → u.length = L → Dig q → jj ≤ q.length → q.length = L - n → val u < 4294967296 ^ jj * val v → A = val u + val q * val v → (∀ i, i < jj → q[i]? = some 0) →
      Ev (fun K => qaL K (.c2 u q n s v top next ((jj : Int) - 1))) (digs (A / val v), digs (A % val v / 2 ^ s))
  | 0, u, q, hj, hu, hul, hq, hjq, hql, hU, hA, hz => by
    have h2 := hv.two
    rw [Int.pow_zero, Int.one_mul] at hU
    have hu0 := qbB hu
    refine qaS ?_
    simp only [qaL]
    have e1 : A / val v = val q := by rw [hA, Int.add_mul_ediv_right _ _ (by omega), Int.ediv_eq_zero_of_lt hu0 hU, Int.zero_add]
    have e2 : A % val v = val u := by rw [hA, Int.add_mul_emod_self_right, Int.emod_eq_of_lt hu0 hU]
    have hvl := qjV hv.dig
    rw [hv.len] at hvl
    have ht := top_of_lt hu (show val u < 4294967296 ^ n by omega)
    have hs := natural_Shr_ev (qh0 hu n) hv.sh (by rw [List.length_take]; omega)
    rw [← top_val ht] at hs
    rw [e1, e2]
    refine ev_f (by simp) (qaP (qmN hq (by omega)) (qjP (by omega) ?_))
    rw [Int.toNat_natCast]
    exact qaP hs (qa3 _)
  | j + 1, u, q, hj, hu, hul, hq, hjq, hql, hU, hA, hz => by
    have h2 := hv.two
    have h3 := hv.len
    obtain ⟨w, evv, _, _, hnx, htp⟩ := hv.form
    refine qaS ?_
    simp only [qaL]
    rw [show ((j + 1 : Nat) : Int) - 1 = (j : Int) by omega]
    refine ev_t (by simp) ?_
    rw [qdN (x := (j : Int) + n) (by omega), qdN (x := (j : Int) + n - 1) (by omega), show (j : Int) + n - 1 = ((j + n - 1 : Nat) : Int) by omega, show (j : Int) + n = ((j + n : Nat) : Int) by omega]
    have hU' : val u < 4294967296 * (4294967296 ^ j * val v) := by
      rw [Int.pow_succ] at hU
      have : 4294967296 ^ j * 4294967296 * val v = 4294967296 * (4294967296 ^ j * val v) := by grind
      omega
    have hvl := qjV hv.dig
    rw [h3] at hvl
    have ht : Top (j + n + 1) u := by
      refine top_of_lt hu ?_
      have := Int.mul_lt_mul_of_pos_left hvl (qfA (j + 1))
      rw [← Int.pow_add, show j + 1 + n = j + n + 1 by omega] at this
      omega
    have d1 := qfE hu (show j + n - 1 < u.length by omega)
    have d2 := qfE hu (show j + n < u.length by omega)
    refine qb6 (qc0 (by omega)) (qb6 (qc0 (by omega)) ?_)
    have e1 : wU6 (u[j + n]'(by omega)) = u[j + n]'(by omega) := by rw [qsS]; omega
    have e2 : wU6 (u[j + n - 1]'(by omega)) = u[j + n - 1]'(by omega) := by rw [qsS]; omega
    rw [e1, e2, or_hi_lo d2 d1]
    refine qaP (math_bits_Div64_ev ⟨by omega, by omega⟩ (by omega)) ?_
    simp only
    have hN0 : 0 ≤ u[j + n]'(by omega) * 4294967296 + u[j + n - 1]'(by omega) := by omega
    have hdm := Int.emod_add_mul_ediv (u[j + n]'(by omega) * 4294967296 + u[j + n - 1]'(by omega)) top
    have hr0 := Int.emod_nonneg (u[j + n]'(by omega) * 4294967296 + u[j + n - 1]'(by omega)) (show top ≠ 0 by omega)
    have hr1 := Int.emod_lt_of_pos (u[j + n]'(by omega) * 4294967296 + u[j + n - 1]'(by omega)) (show 0 < top by omega)
    have hq0 : 0 ≤ (u[j + n]'(by omega) * 4294967296 + u[j + n - 1]'(by omega)) / top := Int.ediv_nonneg hN0 (by omega)
    have hq1 : (u[j + n]'(by omega) * 4294967296 + u[j + n - 1]'(by omega)) / top < 17179869184 := Int.ediv_lt_of_lt_mul (by omega) (by
      have := Int.mul_le_mul_of_nonneg_left htp.1 (show (0 : Int) ≤ 17179869184 by decide)
      omega)
    -- the quotient's bound for the first guess
    obtain ⟨b1, _⟩ := dv_bounds hv j
    have e3 := three (u := u) (k := j + n - 2) (by omega) (by rw [show j + n - 2 + 3 = j + n + 1 by omega]; exact ht)
    have ei1 : u[j + n - 2 + 1]'(by omega) = u[j + n - 1]'(by omega) := by congr 1; omega
    have ei2 : u[j + n - 2 + 2]'(by omega) = u[j + n]'(by omega) := by congr 1; omega
    rw [ei1, ei2] at e3
    have l2 := qjV (qh0 hu (j + n - 2))
    rw [List.length_take, Nat.min_eq_left (by omega)] at l2
    have d0 := qfE hu (show j + n - 2 < u.length by omega)
    have hP := qfA (j + n - 2)
    have hhi : val u < ((u[j + n]'(by omega) * 4294967296 + u[j + n - 1]'(by omega)) * 4294967296 + u[j + n - 2]'(by omega) + 1) * 4294967296 ^ (j + n - 2) := by
      have : ((u[j + n]'(by omega) * 4294967296 + u[j + n - 1]'(by omega)) * 4294967296 + u[j + n - 2]'(by omega) + 1) * 4294967296 ^ (j + n - 2) = 4294967296 ^ (j + n - 2) * (u[j + n - 2]'(by omega) + 4294967296 * u[j + n - 1]'(by omega) + 18446744073709551616 * u[j + n]'(by omega)) + 4294967296 ^ (j + n - 2) := by
        generalize (4294967296 : Int) ^ (j + n - 2) = P
        grind
      omega
    have hfirst : val u < ((u[j + n]'(by omega) * 4294967296 + u[j + n - 1]'(by omega)) / top + 1) * (4294967296 ^ j * val v) := by
      refine kn_dec hP (by omega) b1 hhi ?_
      generalize (u[j + n]'(by omega) * 4294967296 + u[j + n - 1]'(by omega)) / top = Q at *
      have h5 : (Q + 1) * (top * 4294967296 + next) = (top * Q + top) * 4294967296 + (Q + 1) * next := by grind
      have h6 : 0 ≤ (Q + 1) * next := Int.mul_nonneg (by omega) hnx.1
      omega
    refine guess_loop hv hu (by omega) (by omega) ht hU' ?_ _ _ _ rfl hq0 hq1 hr0 (by omega) (by rw [Int.mul_comm]; omega) hfirst
    intro g g0 g1 hg1 hg2
    refine qaS ?_
    simp only [qaL]
    have hqj : q[j]'(by omega) = 0 := by
      have := hz j (by omega)
      rw [List.getElem?_eq_getElem (by omega)] at this
      exact Option.some.inj this
    have := mulsub_loop (r71 := q) hv L (by omega) (by omega) (by omega) g (val u) ⟨g0, g1⟩ (qbB hu) hg1 hg2 (res := (digs (A / val v), digs (A % val v / 2 ^ s))) ?_ n 0 0 0 u (by omega) (by decide) (.inl rfl) hu hul ht (by simp)
    · rw [h3]
      exact this
    · intro u' g' hu' hul' hg0' hg1' hval hlt
      refine qaS ?_
      simp only [qaL]
      rw [qdN (by omega)]
      refine long_loop hv L hnL hls A j u' (q.set j g') (by omega) hu' hul' (qnD hq j ⟨hg0', hg1'⟩) (by simp; omega) (by simpa using hql) hlt ?_ (fun i hi => by rw [List.getElem?_set_ne (by omega)]; exact hz i (by omega))
      rw [hA, qoL (by omega), hqj, hval]
      grind
end Go.Am.X
namespace Go.Am.X
open Go.Proofs.Try (prog)
inductive qoH where
  | c0 (a : qaB) (b : qaB)
def qjQ : Nat → qoH → Option (qaB × qaB × Int)
  | 0, _ => none
  | K + 1, .c0 a b =>
    (qfT K b).bind fun x1 =>
    bif x1 then
      some ((qaB.mk false []), (qaB.mk false []), (2 : Int))
    else
      (qtX K a.Abs b.Abs).bind fun x4 =>
      (qjX K (!(a.Neg == b.Neg)) x4.1).bind fun x6 =>
      (qjX K a.Neg x4.2).bind fun x8 =>
      some (x6, x8, (0 : Int))
def qmA (K : Nat) (a : qaB) (b : qaB) : Option (qaB × qaB × Int) := qjQ K (.c0 a b)
noncomputable def division_Quo_body : Code := qbN prog 147
noncomputable def division_Quo_pos : qoH → List Fr
  | .c0 .. => [.code division_Quo_body]
def division_Quo_st : qoH → St
  | .c0 a b => St.init [(TV.agg (qaA a)), (TV.agg (qaA b))]
def division_Quo_S (cx : Cx) (c : qoH) (r : (qaB × qaB × Int)) : Prop := Wk prog cx (qcT prog 147 [[0,1], [0,1], [0]] (TV.tup [(true, qaA r.1), (true, qaA r.2.1), (false, [(T.int .i64 r.2.2)])])) (division_Quo_pos c) .normal (division_Quo_st c)
abbrev division_Quo_H (K : Nat) : Prop := ∀ c r, qjQ K c = some r → ∀ cx : Cx, cx.n = 32 → division_Quo_S cx c r
theorem division_Quo_c0 {K} (_ : division_Quo_H K) {cx} (hn : cx.n = 32) {a b} {r} (h : qjQ (K + 1) (.c0 a b) = some r) : division_Quo_S cx (.c0 a b) r := by
  rw [qjQ] at h
  obtain ⟨x1, h2, h⟩ := qaH h
  rcases qaK h with ⟨h3, h⟩ | ⟨h3, h⟩
  · skip
    have h := Option.some.inj h; subst h
    exact qaN (fuel := 72) [rgG [oo, oo, oo, oo, oo], rgG [oo, opI (.call [[0,1]] [(TV.agg (qaA b))] (TV.c (T.bool x1)))], .br true, .draw [.p, .p, .p] [.op .p, .op .p]] _ hn (by kernel_rfl) (aC (qb4 h2) <| aC h3 <| aN)
  · skip
    obtain ⟨x4, h5, h⟩ := qaH h
    obtain ⟨x6, h7, h⟩ := qaH h
    obtain ⟨x8, h9, h⟩ := qaH h
    have h := Option.some.inj h; subst h
    exact qaN (fuel := 80) [rgG [oo, oo, oo, oo, oo], rgG [oo, opI (.call [[0,1]] [(TV.agg (qaA b))] (TV.c (T.bool x1)))], .br false, rgG [oo, oo, oo, oo, opI (.call [[1], [1]] [(TV.c (T.sl 1 (a.Abs.map qaC))), (TV.c (T.sl 1 (b.Abs.map qaC)))] (TV.tup [(false, [(T.sl 1 (x4.1.map qaC))]), (false, [(T.sl 1 (x4.2.map qaC))])])), oo, oo, oo, oo, oo], .draw [.p, .p, .p, .p, .p, .p, (.call [[0], [1]] [(TV.c (T.bool (!(a.Neg == b.Neg)))), (tl 1 x4.1 qaC)] (TV.agg (qaA x6))), .p, .p, .p] [opI (.call [[0], [1]] [(TV.c (T.bool a.Neg)), (tl 1 x4.2 qaC)] (TV.agg (qaA x8))), .op .p, .op .p, .op .p]] _ hn (by kernel_rfl) (aC (qb4 h2) <| aC h3 <| aC (division_long_holds h5) <| aC (qiK h7) <| aC (qiK h9) <| aN)
theorem division_Quo_all : ∀ K : Nat, division_Quo_H K
  | 0, c, r, h => by rw [qjQ] at h; cases h
  | K + 1, .c0 .., r, h => fun cx hn => division_Quo_c0 (division_Quo_all K) hn h
theorem qeO {K : Nat} {a : qaB} {b : qaB} {r : (qaB × qaB × Int)} (h : qmA K a b = some r) : qcX prog 147 [(TV.agg (qaA a)), (TV.agg (qaA b))] (TV.tup [(true, qaA r.1), (true, qaA r.2.1), (false, [(T.int .i64 r.2.2)])]) :=
  qa2 [[0,1], [0,1], [0]] (by kernel_rfl) (by simp) fun cx hn => division_Quo_all K (.c0 a b) r h cx hn
end Go.Am.X
namespace Go.Am.X
open Go.Proofs.Try (prog)
inductive qqE where
  | c0 (a : qaB) (b : qaB)
def qkW : Nat → qqE → Option qaB
  | 0, _ => none
  | K + 1, .c0 a b =>
    (qg6 K a (qaB.mk (!b.Neg) b.Abs)).bind fun x1 =>
    some x1
def qf7 (K : Nat) (a : qaB) (b : qaB) : Option qaB := qkW K (.c0 a b)
noncomputable def integer_Sub_body : Code := qbN prog 143
noncomputable def integer_Sub_pos : qqE → List Fr
  | .c0 .. => [.code integer_Sub_body]
def integer_Sub_st : qqE → St
  | .c0 a b => St.init [(TV.agg (qaA a)), (TV.agg (qaA b))]
def integer_Sub_S (cx : Cx) (c : qqE) (r : qaB) : Prop := Wk prog cx (qcT prog 143 [[0,1]] (TV.agg (qaA r))) (integer_Sub_pos c) .normal (integer_Sub_st c)
abbrev integer_Sub_H (K : Nat) : Prop := ∀ c r, qkW K c = some r → ∀ cx : Cx, cx.n = 13 → integer_Sub_S cx c r
theorem integer_Sub_c0 {K} (_ : integer_Sub_H K) {cx} (hn : cx.n = 13) {a b} {r} (h : qkW (K + 1) (.c0 a b) = some r) : integer_Sub_S cx (.c0 a b) r := by
  rw [qkW] at h
  obtain ⟨x1, h2, h⟩ := qaH h
  have h := Option.some.inj h; subst h
  exact qaN (fuel := 54) [rgG [oo, oo, oo], rgG [oo, oo, oo, oo, oo, oo, oo, opI (.call [[0,1], [0,1]] [(TV.agg (qaA a)), (TV.agg (qaA (qaB.mk (!b.Neg) b.Abs)))] (TV.agg (qaA x1))), oo]] _ hn (by kernel_rfl) (aC (qeH h2) <| aN)
theorem integer_Sub_all : ∀ K : Nat, integer_Sub_H K
  | 0, c, r, h => by rw [qkW] at h; cases h
  | K + 1, .c0 .., r, h => fun cx hn => integer_Sub_c0 (integer_Sub_all K) hn h
theorem qe1 {K : Nat} {a : qaB} {b : qaB} {r : qaB} (h : qf7 K a b = some r) : qcX prog 143 [(TV.agg (qaA a)), (TV.agg (qaA b))] (TV.agg (qaA r)) :=
  qa2 [[0,1]] (by kernel_rfl) (by simp) fun cx hn => integer_Sub_all K (.c0 a b) r h cx hn
end Go.Am.X
namespace Go.Am.X
open Go.Proofs.Try (prog)
inductive qlU where
  | c0 (a : qaB) (b : qaB)
def qhQ : Nat → qlU → Option (qaB × qaB × Int)
  | 0, _ => none
  | K + 1, .c0 a b =>
    (qmA K a b).bind fun x1 =>
    bif (decide (x1.2.2 = (0 : Int))) then
      (qfT K x1.2.1).bind fun x4 =>
      bif (!x4) then
        bif (!(x1.2.1.Neg == b.Neg)) then
          (qh9 K (1 : Int)).bind fun x8 =>
          (qf7 K x1.1 x8).bind fun x10 =>
          (qg6 K x1.2.1 b).bind fun x12 =>
          some (x10, x12, x1.2.2)
        else
          some (x1.1, x1.2.1, x1.2.2)
      else
        some (x1.1, x1.2.1, x1.2.2)
    else
      some (x1.1, x1.2.1, x1.2.2)
def qsB (K : Nat) (a : qaB) (b : qaB) : Option (qaB × qaB × Int) := qhQ K (.c0 a b)
noncomputable def division_Floor_body : Code := qbN prog 176
noncomputable def division_Floor_pos : qlU → List Fr
  | .c0 .. => [.code division_Floor_body]
def division_Floor_st : qlU → St
  | .c0 a b => St.init [(TV.agg (qaA a)), (TV.agg (qaA b))]
def division_Floor_S (cx : Cx) (c : qlU) (r : (qaB × qaB × Int)) : Prop := Wk prog cx (qcT prog 176 [[0,1], [0,1], [0]] (TV.tup [(true, qaA r.1), (true, qaA r.2.1), (false, [(T.int .i64 r.2.2)])])) (division_Floor_pos c) .normal (division_Floor_st c)
abbrev division_Floor_H (K : Nat) : Prop := ∀ c r, qhQ K c = some r → ∀ cx : Cx, cx.n = 37 → division_Floor_S cx c r
theorem division_Floor_c0 {K} (_ : division_Floor_H K) {cx} (hn : cx.n = 37) {a b} {r} (h : qhQ (K + 1) (.c0 a b) = some r) : division_Floor_S cx (.c0 a b) r := by
  rw [qhQ] at h
  obtain ⟨x1, h2, h⟩ := qaH h
  rcases qaK h with ⟨h3, h⟩ | ⟨h3, h⟩
  · skip
    obtain ⟨x4, h5, h⟩ := qaH h
    rcases qaK h with ⟨h6, h⟩ | ⟨h6, h⟩
    · skip
      rcases qaK h with ⟨h7, h⟩ | ⟨h7, h⟩
      · skip
        obtain ⟨x8, h9, h⟩ := qaH h
        obtain ⟨x10, h11, h⟩ := qaH h
        obtain ⟨x12, h13, h⟩ := qaH h
        have h := Option.some.inj h; subst h
        exact qaN (fuel := 84) [rgG [oo, oo, oo, oo, oo], rgG [oo, oo, opI (.call [[0,1], [0,1]] [(TV.agg (qaA a)), (TV.agg (qaA b))] (TV.tup [(true, qaA x1.1), (true, qaA x1.2.1), (false, [(T.int .i64 x1.2.2)])])), oo, oo, oo, oo, oo, oo, oo], rgG [oo, oo, oo, .sb 16 true, oo, opI (.call [[0,1]] [(TV.agg (qaA x1.2.1))] (TV.c (T.bool x4))), oo, oo, oo, .sb 21 true, oo, oo, oo, oo, oo, oo], .br true, .draw [.p, (.call [[0]] [(TV.c (T.int .i64 (1 : Int)))] (TV.agg (qaA x8))), (.call [[0,1], [0,1]] [(TV.agg (qaA x1.1)), (TV.agg (qaA x8))] (TV.agg (qaA x10))), .p, .p] [opI (.call [[0,1], [0,1]] [(TV.agg (qaA x1.2.1)), (TV.agg (qaA b))] (TV.agg (qaA x12))), .op .p, .op .p], .draw [.p, .p, .p, .p, .p] [.op .p]] _ hn (by kernel_rfl) (aC (qeO h2) <| aC h3 <| aC (qb4 h5) <| aC h6 <| aC h7 <| aC (qfH h9) <| aC (qe1 h11) <| aC (qeH h13) <| aN)
      · skip
        have h := Option.some.inj h; subst h
        exact qaN (fuel := 80) [rgG [oo, oo, oo, oo, oo], rgG [oo, oo, opI (.call [[0,1], [0,1]] [(TV.agg (qaA a)), (TV.agg (qaA b))] (TV.tup [(true, qaA x1.1), (true, qaA x1.2.1), (false, [(T.int .i64 x1.2.2)])])), oo, oo, oo, oo, oo, oo, oo], rgG [oo, oo, oo, .sb 16 true, oo, opI (.call [[0,1]] [(TV.agg (qaA x1.2.1))] (TV.c (T.bool x4))), oo, oo, oo, .sb 21 true, oo, oo, oo, oo, oo, oo], .br false, .draw [.p, .p, .p, .p, .p] [.op .p]] _ hn (by kernel_rfl) (aC (qeO h2) <| aC h3 <| aC (qb4 h5) <| aC h6 <| aC h7 <| aN)
    · skip
      have h := Option.some.inj h; subst h
      exact qaN (fuel := 80) [rgG [oo, oo, oo, oo, oo], rgG [oo, oo, opI (.call [[0,1], [0,1]] [(TV.agg (qaA a)), (TV.agg (qaA b))] (TV.tup [(true, qaA x1.1), (true, qaA x1.2.1), (false, [(T.int .i64 x1.2.2)])])), oo, oo, oo, oo, oo, oo, oo], rgG [oo, oo, oo, .sb 16 true, oo, opI (.call [[0,1]] [(TV.agg (qaA x1.2.1))] (TV.c (T.bool x4))), oo, oo, oo, .sb 21 false, oo, oo, oo, oo, oo, oo], .br false, .draw [.p, .p, .p, .p, .p] [.op .p]] _ hn (by kernel_rfl) (aC (qeO h2) <| aC h3 <| aC (qb4 h5) <| aC h6 <| aC rf <| aN)
  · skip
    have h := Option.some.inj h; subst h
    exact qaN (fuel := 80) [rgG [oo, oo, oo, oo, oo], rgG [oo, oo, opI (.call [[0,1], [0,1]] [(TV.agg (qaA a)), (TV.agg (qaA b))] (TV.tup [(true, qaA x1.1), (true, qaA x1.2.1), (false, [(T.int .i64 x1.2.2)])])), oo, oo, oo, oo, oo, oo, oo], rgG [oo, oo, oo, .sb 16 false, oo, oo, oo, oo, oo, oo, oo, oo, oo, oo, oo], .br false, .draw [.p, .p, .p, .p, .p] [.op .p]] _ hn (by kernel_rfl) (aC (qeO h2) <| aC h3 <| aC rf <| aN)
theorem qvY : ∀ K : Nat, division_Floor_H K
  | 0, c, r, h => by rw [qhQ] at h; cases h
  | K + 1, .c0 .., r, h => fun cx hn => division_Floor_c0 (qvY K) hn h
theorem division_Floor_holds {K : Nat} {a : qaB} {b : qaB} {r : (qaB × qaB × Int)} (h : qsB K a b = some r) : qcX prog 176 [(TV.agg (qaA a)), (TV.agg (qaA b))] (TV.tup [(true, qaA r.1), (true, qaA r.2.1), (false, [(T.int .i64 r.2.2)])]) :=
  qa2 [[0,1], [0,1], [0]] (by kernel_rfl) (by simp) fun cx hn => qvY K (.c0 a b) r h cx hn
end Go.Am.X
namespace Go.Am.X
open Go.Proofs.Try (prog)
inductive qlV where
  | c0 (a : qaB) (b : qaB)
def qhR : Nat → qlV → Option (qaB × Int)
  | 0, _ => none
  | K + 1, .c0 a b =>
    (qmA K a b).bind fun x1 =>
    bif (decide (x1.2.2 = (0 : Int))) then
      (qfT K x1.2.1).bind fun x4 =>
      bif (!x4) then
        some ((qaB.mk false []), (3 : Int))
      else
        some (x1.1, x1.2.2)
    else
      some (x1.1, x1.2.2)
def qcW (K : Nat) (a : qaB) (b : qaB) : Option (qaB × Int) := qhR K (.c0 a b)
noncomputable def division_Exact_body : Code := qbN prog 117
noncomputable def division_Exact_pos : qlV → List Fr
  | .c0 .. => [.code division_Exact_body]
def division_Exact_st : qlV → St
  | .c0 a b => St.init [(TV.agg (qaA a)), (TV.agg (qaA b))]
def division_Exact_S (cx : Cx) (c : qlV) (r : (qaB × Int)) : Prop := Wk prog cx (qcT prog 117 [[0,1], [0]] (TV.tup [(true, qaA r.1), (false, [(T.int .i64 r.2)])])) (division_Exact_pos c) .normal (division_Exact_st c)
abbrev division_Exact_H (K : Nat) : Prop := ∀ c r, qhR K c = some r → ∀ cx : Cx, cx.n = 26 → division_Exact_S cx c r
theorem division_Exact_c0 {K} (_ : division_Exact_H K) {cx} (hn : cx.n = 26) {a b} {r} (h : qhR (K + 1) (.c0 a b) = some r) : division_Exact_S cx (.c0 a b) r := by
  rw [qhR] at h
  obtain ⟨x1, h2, h⟩ := qaH h
  rcases qaK h with ⟨h3, h⟩ | ⟨h3, h⟩
  · skip
    obtain ⟨x4, h5, h⟩ := qaH h
    rcases qaK h with ⟨h6, h⟩ | ⟨h6, h⟩
    · skip
      have h := Option.some.inj h; subst h
      exact qaN (fuel := 80) [rgG [oo, oo, oo, oo], rgG [oo, oo, opI (.call [[0,1], [0,1]] [(TV.agg (qaA a)), (TV.agg (qaA b))] (TV.tup [(true, qaA x1.1), (true, qaA x1.2.1), (false, [(T.int .i64 x1.2.2)])])), oo, oo, oo, oo, oo, oo, oo, oo, oo], rgG [oo, oo, oo, .sb 18 true, oo, opI (.call [[0,1]] [(TV.agg (qaA x1.2.1))] (TV.c (T.bool x4))), oo, oo], .br true, rgG [oo, oo, oo]] _ hn (by kernel_rfl) (aC (qeO h2) <| aC h3 <| aC (qb4 h5) <| aC h6 <| aN)
    · skip
      have h := Option.some.inj h; subst h
      exact qaN (fuel := 80) [rgG [oo, oo, oo, oo], rgG [oo, oo, opI (.call [[0,1], [0,1]] [(TV.agg (qaA a)), (TV.agg (qaA b))] (TV.tup [(true, qaA x1.1), (true, qaA x1.2.1), (false, [(T.int .i64 x1.2.2)])])), oo, oo, oo, oo, oo, oo, oo, oo, oo], rgG [oo, oo, oo, .sb 18 true, oo, opI (.call [[0,1]] [(TV.agg (qaA x1.2.1))] (TV.c (T.bool x4))), oo, oo], .br false, rgG [oo, oo, oo, oo]] _ hn (by kernel_rfl) (aC (qeO h2) <| aC h3 <| aC (qb4 h5) <| aC h6 <| aN)
  · skip
    have h := Option.some.inj h; subst h
    exact qaN (fuel := 80) [rgG [oo, oo, oo, oo], rgG [oo, oo, opI (.call [[0,1], [0,1]] [(TV.agg (qaA a)), (TV.agg (qaA b))] (TV.tup [(true, qaA x1.1), (true, qaA x1.2.1), (false, [(T.int .i64 x1.2.2)])])), oo, oo, oo, oo, oo, oo, oo, oo, oo], rgG [oo, oo, oo, .sb 18 false, oo, oo, oo, oo], .br false, rgG [oo, oo, oo, oo]] _ hn (by kernel_rfl) (aC (qeO h2) <| aC h3 <| aC rf <| aN)
theorem qvZ : ∀ K : Nat, division_Exact_H K
  | 0, c, r, h => by rw [qhR] at h; cases h
  | K + 1, .c0 .., r, h => fun cx hn => division_Exact_c0 (qvZ K) hn h
theorem qbW {K : Nat} {a : qaB} {b : qaB} {r : (qaB × Int)} (h : qcW K a b = some r) : qcX prog 117 [(TV.agg (qaA a)), (TV.agg (qaA b))] (TV.tup [(true, qaA r.1), (false, [(T.int .i64 r.2)])]) :=
  qa2 [[0,1], [0]] (by kernel_rfl) (by simp) fun cx hn => qvZ K (.c0 a b) r h cx hn
end Go.Am.X
namespace Go.Am.X
open Go.Proofs.Try (prog)
inductive qi0 where
  | c0 (a : qaB) (b : qaB)
def qf9 : Nat → qi0 → Option Bool
  | 0, _ => none
  | K + 1, .c0 a b =>
    (qfT K a).bind fun x1 =>
    bif x1 then
      (qfT K b).bind fun x4 =>
      some x4
    else
      (qmA K b a).bind fun x4 =>
      (qfT K x4.2.1).bind fun x6 =>
      some x6
def qoJ (K : Nat) (a : qaB) (b : qaB) : Option Bool := qf9 K (.c0 a b)
noncomputable def division_Divides_body : Code := qbN prog 101
noncomputable def division_Divides_pos : qi0 → List Fr
  | .c0 .. => [.code division_Divides_body]
def division_Divides_st : qi0 → St
  | .c0 a b => St.init [(TV.agg (qaA a)), (TV.agg (qaA b))]
def qv0 (cx : Cx) (c : qi0) (r : Bool) : Prop := Wk prog cx (qcT prog 101 [[0]] (TV.c (T.bool r))) (division_Divides_pos c) .normal (division_Divides_st c)
abbrev qv1 (K : Nat) : Prop := ∀ c r, qf9 K c = some r → ∀ cx : Cx, cx.n = 21 → qv0 cx c r
theorem division_Divides_c0 {K} (_ : qv1 K) {cx} (hn : cx.n = 21) {a b} {r} (h : qf9 (K + 1) (.c0 a b) = some r) : qv0 cx (.c0 a b) r := by
  rw [qf9] at h
  obtain ⟨x1, h2, h⟩ := qaH h
  rcases qaK h with ⟨h3, h⟩ | ⟨h3, h⟩
  · skip
    obtain ⟨x4, h5, h⟩ := qaH h
    have h := Option.some.inj h; subst h
    exact qaN (fuel := 72) [rgG [oo, oo, oo], rgG [oo, opI (.call [[0,1]] [(TV.agg (qaA a))] (TV.c (T.bool x1)))], .br true, rgG [oo, opI (.call [[0,1]] [(TV.agg (qaA b))] (TV.c (T.bool x4))), oo]] _ hn (by kernel_rfl) (aC (qb4 h2) <| aC h3 <| aC (qb4 h5) <| aN)
  · skip
    obtain ⟨x4, h5, h⟩ := qaH h
    obtain ⟨x6, h7, h⟩ := qaH h
    have h := Option.some.inj h; subst h
    exact qaN (fuel := 80) [rgG [oo, oo, oo], rgG [oo, opI (.call [[0,1]] [(TV.agg (qaA a))] (TV.c (T.bool x1)))], .br false, rgG [oo, oo, opI (.call [[0,1], [0,1]] [(TV.agg (qaA b)), (TV.agg (qaA a))] (TV.tup [(true, qaA x4.1), (true, qaA x4.2.1), (false, [(T.int .i64 x4.2.2)])])), oo, oo, oo, oo, oo, oo, oo, oo, oo], rgG [oo, opI (.call [[0,1]] [(TV.agg (qaA x4.2.1))] (TV.c (T.bool x6))), oo]] _ hn (by kernel_rfl) (aC (qb4 h2) <| aC h3 <| aC (qeO h5) <| aC (qb4 h7) <| aN)
theorem qtI : ∀ K : Nat, qv1 K
  | 0, c, r, h => by rw [qf9] at h; cases h
  | K + 1, .c0 .., r, h => fun cx hn => division_Divides_c0 (qtI K) hn h
theorem qq0 {K : Nat} {a : qaB} {b : qaB} {r : Bool} (h : qoJ K a b = some r) : qcX prog 101 [(TV.agg (qaA a)), (TV.agg (qaA b))] (TV.c (T.bool r)) :=
  qa2 [[0]] (by kernel_rfl) (by simp) fun cx hn => qtI K (.c0 a b) r h cx hn
end Go.Am.X
namespace Go.Am.X
open Go.Proofs.Try (prog)
inductive qoI where
  | c0 (a : qaB) (m : qaB)
def qjR : Nat → qoI → Option (qaB × Int)
  | 0, _ => none
  | K + 1, .c0 a m =>
    (qg7 K m).bind fun x1 =>
    (qsB K a x1).bind fun x3 =>
    some (x3.2.1, x3.2.2)
def qvX (K : Nat) (a : qaB) (m : qaB) : Option (qaB × Int) := qjR K (.c0 a m)
noncomputable def division_Mod_body : Code := qbN prog 141
noncomputable def division_Mod_pos : qoI → List Fr
  | .c0 .. => [.code division_Mod_body]
def division_Mod_st : qoI → St
  | .c0 a m => St.init [(TV.agg (qaA a)), (TV.agg (qaA m))]
def division_Mod_S (cx : Cx) (c : qoI) (r : (qaB × Int)) : Prop := Wk prog cx (qcT prog 141 [[0,1], [0]] (TV.tup [(true, qaA r.1), (false, [(T.int .i64 r.2)])])) (division_Mod_pos c) .normal (division_Mod_st c)
abbrev division_Mod_H (K : Nat) : Prop := ∀ c r, qjR K c = some r → ∀ cx : Cx, cx.n = 19 → division_Mod_S cx c r
theorem division_Mod_c0 {K} (_ : division_Mod_H K) {cx} (hn : cx.n = 19) {a m} {r} (h : qjR (K + 1) (.c0 a m) = some r) : division_Mod_S cx (.c0 a m) r := by
  rw [qjR] at h
  obtain ⟨x1, h2, h⟩ := qaH h
  obtain ⟨x3, h4, h⟩ := qaH h
  have h := Option.some.inj h; subst h
  exact qaN (fuel := 62) [rgG [oo, oo, oo, oo], .draw [.p, .p, (.call [[0,1]] [(TV.agg (qaA m))] (TV.agg (qaA x1))), (.call [[0,1], [0,1]] [(TV.agg (qaA a)), (TV.agg (qaA x1))] (TV.tup [(true, qaA x3.1), (true, qaA x3.2.1), (false, [(T.int .i64 x3.2.2)])])), .p, .p, .p, .p, .p, .p, .p, .p] [.op .p], rgG [oo, oo, oo, oo]] _ hn (by kernel_rfl) (aC (qdA h2) <| aC (division_Floor_holds h4) <| aN)
theorem division_Mod_all : ∀ K : Nat, division_Mod_H K
  | 0, c, r, h => by rw [qjR] at h; cases h
  | K + 1, .c0 .., r, h => fun cx hn => division_Mod_c0 (division_Mod_all K) hn h
theorem qqQ {K : Nat} {a : qaB} {m : qaB} {r : (qaB × Int)} (h : qvX K a m = some r) : qcX prog 141 [(TV.agg (qaA a)), (TV.agg (qaA m))] (TV.tup [(true, qaA r.1), (false, [(T.int .i64 r.2)])]) :=
  qa2 [[0,1], [0]] (by kernel_rfl) (by simp) fun cx hn => division_Mod_all K (.c0 a m) r h cx hn
end Go.Am.X
namespace Go.Am.X
open Go.Proofs.Try (prog)
inductive qhZ where
  | c0 (a : qaB) (m : qaB)
def qfO : Nat → qhZ → Option (qaB × Int)
  | 0, _ => none
  | K + 1, .c0 a m =>
    (qvX K a m).bind fun x1 =>
    bif (decide (x1.2 = (0 : Int))) then
      (qq9 K x1.1.Abs (1 : Int)).bind fun x4 =>
      (ql2 K x4 m.Abs).bind fun x6 =>
      bif (decide ((0 : Int) < x6)) then
        (qg7 K m).bind fun x9 =>
        (qf7 K x1.1 x9).bind fun x11 =>
        some (x11, x1.2)
      else
        some (x1.1, x1.2)
    else
      some (x1.1, x1.2)
def qfU (K : Nat) (a : qaB) (m : qaB) : Option (qaB × Int) := qfO K (.c0 a m)
noncomputable def division_Symmetric_body : Code := qbN prog 95
noncomputable def division_Symmetric_pos : qhZ → List Fr
  | .c0 .. => [.code division_Symmetric_body]
def division_Symmetric_st : qhZ → St
  | .c0 a m => St.init [(TV.agg (qaA a)), (TV.agg (qaA m))]
def qtG (cx : Cx) (c : qhZ) (r : (qaB × Int)) : Prop := Wk prog cx (qcT prog 95 [[0,1], [0]] (TV.tup [(true, qaA r.1), (false, [(T.int .i64 r.2)])])) (division_Symmetric_pos c) .normal (division_Symmetric_st c)
abbrev qtH (K : Nat) : Prop := ∀ c r, qfO K c = some r → ∀ cx : Cx, cx.n = 31 → qtG cx c r
theorem division_Symmetric_c0 {K} (_ : qtH K) {cx} (hn : cx.n = 31) {a m} {r} (h : qfO (K + 1) (.c0 a m) = some r) : qtG cx (.c0 a m) r := by
  rw [qfO] at h
  obtain ⟨x1, h2, h⟩ := qaH h
  rcases qaK h with ⟨h3, h⟩ | ⟨h3, h⟩
  · skip
    obtain ⟨x4, h5, h⟩ := qaH h
    obtain ⟨x6, h7, h⟩ := qaH h
    rcases qaK h with ⟨h8, h⟩ | ⟨h8, h⟩
    · skip
      obtain ⟨x9, h10, h⟩ := qaH h
      obtain ⟨x11, h12, h⟩ := qaH h
      have h := Option.some.inj h; subst h
      exact qaN (fuel := 84) [rgG [oo, oo, oo, oo], rgG [oo, oo, opI (.call [[0,1], [0,1]] [(TV.agg (qaA a)), (TV.agg (qaA m))] (TV.tup [(true, qaA x1.1), (false, [(T.int .i64 x1.2)])])), oo, oo, oo, oo, oo, oo], .draw [.p, .p, .p, (.ga true .p), (.ga true .p), (.ga true (.call [[1], [0]] [(TV.c (T.sl 1 (x1.1.Abs.map qaC))), (TV.c (T.int .i64 (1 : Int)))] (tl 1 x4 qaC))), (.ga true .p), (.ga true .p), (.ga true (.call [[1], [1]] [(tl 1 x4 qaC), (TV.c (T.sl 1 (m.Abs.map qaC)))] (ti .i64 x6))), (.ga true .p), (.pk true)] [], .br true, .draw [.p, .p, (.call [[0,1]] [(TV.agg (qaA m))] (TV.agg (qaA x9)))] [opI (.call [[0,1], [0,1]] [(TV.agg (qaA x1.1)), (TV.agg (qaA x9))] (TV.agg (qaA x11))), .op .p], rgG [oo, oo, oo, oo]] _ hn (by kernel_rfl) (aC (qqQ h2) <| aC h3 <| aC h3 <| aC h3 <| aC (qi8 h5) <| aC h3 <| aC h3 <| aC h3 <| aC (qeB h7) <| aC h3 <| aC h3 <| aC h8 <| aC (qdA h10) <| aC (qe1 h12) <| aN)
    · skip
      have h := Option.some.inj h; subst h
      exact qaN (fuel := 80) [rgG [oo, oo, oo, oo], rgG [oo, oo, opI (.call [[0,1], [0,1]] [(TV.agg (qaA a)), (TV.agg (qaA m))] (TV.tup [(true, qaA x1.1), (false, [(T.int .i64 x1.2)])])), oo, oo, oo, oo, oo, oo], .draw [.p, .p, .p, (.ga true .p), (.ga true .p), (.ga true (.call [[1], [0]] [(TV.c (T.sl 1 (x1.1.Abs.map qaC))), (TV.c (T.int .i64 (1 : Int)))] (tl 1 x4 qaC))), (.ga true .p), (.ga true .p), (.ga true (.call [[1], [1]] [(tl 1 x4 qaC), (TV.c (T.sl 1 (m.Abs.map qaC)))] (ti .i64 x6))), (.ga true .p), (.pk true)] [], .br false, rgG [oo, oo, oo, oo]] _ hn (by kernel_rfl) (aC (qqQ h2) <| aC h3 <| aC h3 <| aC h3 <| aC (qi8 h5) <| aC h3 <| aC h3 <| aC h3 <| aC (qeB h7) <| aC h3 <| aC h3 <| aC h8 <| aN)
  · skip
    have h := Option.some.inj h; subst h
    exact qaN (fuel := 80) [rgG [oo, oo, oo, oo], rgG [oo, oo, opI (.call [[0,1], [0,1]] [(TV.agg (qaA a)), (TV.agg (qaA m))] (TV.tup [(true, qaA x1.1), (false, [(T.int .i64 x1.2)])])), oo, oo, oo, oo, oo, oo], .draw [.p, .p, .p, (.ga false .p), (.ga false .p), (.ga false .p), (.ga false .p), (.ga false .p), (.ga false .p), (.ga false .p), (.pk false)] [], .br false, rgG [oo, oo, oo, oo]] _ hn (by kernel_rfl) (aC (qqQ h2) <| aC h3 <| aC h3 <| aC h3 <| aC h3 <| aC h3 <| aC h3 <| aC h3 <| aC h3 <| aC rf <| aN)
theorem qqZ : ∀ K : Nat, qtH K
  | 0, c, r, h => by rw [qfO] at h; cases h
  | K + 1, .c0 .., r, h => fun cx hn => division_Symmetric_c0 (qqZ K) hn h
theorem qfN {K : Nat} {a : qaB} {m : qaB} {r : (qaB × Int)} (h : qfU K a m = some r) : qcX prog 95 [(TV.agg (qaA a)), (TV.agg (qaA m))] (TV.tup [(true, qaA r.1), (false, [(T.int .i64 r.2)])]) :=
  qa2 [[0,1], [0]] (by kernel_rfl) (by simp) fun cx hn => qqZ K (.c0 a m) r h cx hn
end Go.Am.X
namespace Go.Am.X
theorem digs_len_eq {z : Int} {n : Nat} (h0 : 0 ≤ z) (h1 : z < 4294967296 ^ (n + 1)) (h2 : 4294967296 ^ n ≤ z) : (digs z).length = n + 1 := by
  have h3 := qo0 h1
  have h4 : ¬ (digs z).length ≤ n := fun h => by have := digs_len_lt h0 h; omega
  omega
theorem division_long_ev {a b : List Int} (ha : Dig a) (hb : Dig b) (hs : a.length ≤ 17179869184) (ht : b.length ≤ 17179869184) (h0 : val b ≠ 0) : Ev (fun K => qtX K a b) (digs (val a / val b), digs (val a % val b)) := by
  refine qaS ?_
  simp only [qtX, qaL]
  have na := qbB ha
  have nb := qbB hb
  have lb := qd4 hb
  have vb := qe6 nb
  have hc := qfB (val a) (val b)
  have hcmp := qnG ha (qdT (val b)) (by omega) (by omega)
  rw [vb] at hcmp
  refine qaP (qmN hb (by omega)) (qaP hcmp ?_)
  by_cases hlt : val a < val b
  · refine ev_t (by simp; omega) (qaP (qmN ha (by omega)) (qe5 (qa3 _) ?_))
    rw [Int.ediv_eq_zero_of_lt na hlt, Int.emod_eq_of_lt na hlt, qfV]
  · refine ev_f (by simp; omega) ?_
    have hne : digs (val b) ≠ [] := fun e => h0 ((qjY nb).1 e)
    have hlp := List.length_pos_iff.2 hne
    by_cases h1 : (digs (val b)).length = 1
    · have e1 : gi (digs (val b)) 0 = some (val b) := by
        obtain ⟨x, hd⟩ : ∃ x, digs (val b) = [x] := List.length_eq_one_iff.1 h1
        rw [hd] at vb ⊢
        simp at vb
        rw [← vb]; rfl
      have hlb : val b < 4294967296 := by have := digs_len_lt nb (Nat.le_of_eq h1); simpa using this
      refine ev_t (by simp; omega) (qb6 e1 ?_)
      have hr0 := Int.emod_nonneg (val a) h0
      have hr1 := Int.emod_lt_of_pos (val a) (show 0 < val b by omega)
      refine qaP (natural_DivSmall_ev ha (by omega) (by omega)) ?_
      simp only
      rw [qsS, Int.emod_eq_of_lt hr0 (by omega)]
      exact qaP (natural_Of_ev hr0 (by omega)) (qa3 _)
    · -- the long way
      obtain ⟨n, hn⟩ : ∃ n, (digs (val b)).length = n + 2 := ⟨(digs (val b)).length - 2, by omega⟩
      have hdt := qfE (qdT (val b)) (show n + 1 < (digs (val b)).length by omega)
      have hlast := can_last (qv2 (val b)) hne
      rw [List.getLast_eq_getElem] at hlast
      have el : (digs (val b))[(digs (val b)).length - 1]'(by omega) = (digs (val b))[n + 1]'(by omega) := by congr 1; omega
      rw [el] at hlast
      obtain ⟨s, hsev, hs31, hs1, hs2⟩ := quX (x := (digs (val b))[n + 1]'(by omega)) (by omega)
      -- the value of b
      have hsplit := qmH (digs (val b)) (n + 1) (by omega)
      rw [drop_pred (by omega), List.drop_of_length_le (l := digs (val b)) (i := n + 1 + 1) (by omega), val_nil, vb] at hsplit
      have hlow := qjV (qh0 (qdT (val b)) (n + 1))
      rw [List.length_take, Nat.min_eq_left (by omega)] at hlow
      have hlow0 := qbB (qh0 (qdT (val b)) (n + 1))
      generalize hx : (digs (val b))[n + 1]'(by omega) = x at *
      generalize val ((digs (val b)).take (n + 1)) = w at *
      have hA := qfA (n + 1)
      have hP : (0 : Int) < 2 ^ s := Int.pow_pos (by decide)
      have hPQ : (2 : Int) ^ (32 - s) * 2 ^ s = 4294967296 := by rw [← Int.pow_add, show 32 - s + s = 32 by omega]; rfl
      have hxs : (x + 1) * 2 ^ s ≤ 4294967296 := by
        have := Int.mul_le_mul_of_nonneg_right (show x + 1 ≤ 2 ^ (32 - s) by omega) (Int.le_of_lt hP)
        omega
      have hV : val b * 2 ^ s = w * 2 ^ s + 4294967296 ^ (n + 1) * (x * 2 ^ s) := by
        rw [hsplit]; generalize (4294967296 : Int) ^ (n + 1) = A; generalize (2 : Int) ^ s = P; grind
      have hVhi : val b * 2 ^ s < 4294967296 ^ (n + 2) := by
        have h3 := Int.mul_lt_mul_of_pos_right hlow hP
        have h4 := Int.mul_le_mul_of_nonneg_left hxs (Int.le_of_lt hA)
        rw [Int.pow_succ _ (n + 1)]
        have h5 : 4294967296 ^ (n + 1) * ((x + 1) * 2 ^ s) = 4294967296 ^ (n + 1) * (x * 2 ^ s) + 4294967296 ^ (n + 1) * 2 ^ s := by
          generalize (4294967296 : Int) ^ (n + 1) = A; generalize (2 : Int) ^ s = P; grind
        omega
      have hw0 : 0 ≤ w * 2 ^ s := Int.mul_nonneg hlow0 (Int.le_of_lt hP)
      have hVlo : 4294967296 ^ (n + 1) * 2147483648 ≤ val b * 2 ^ s := by
        have := Int.mul_le_mul_of_nonneg_left hs1 (Int.le_of_lt hA)
        omega
      have hVlo1 : 4294967296 ^ (n + 1) ≤ val b * 2 ^ s := by omega
      have hVn : 0 ≤ val b * 2 ^ s := by omega
      have hvl := digs_len_eq hVn hVhi hVlo1
      have hvv := qe6 hVn
      -- the divisor
      have hdtop := qmH (digs (val b * 2 ^ s)) (n + 1) (by omega)
      rw [drop_pred (by omega), List.drop_of_length_le (l := digs (val b * 2 ^ s)) (i := n + 1 + 1) (by omega), val_nil, hvv] at hdtop
      have hlow' := qjV (qh0 (qdT (val b * 2 ^ s)) (n + 1))
      rw [List.length_take, Nat.min_eq_left (by omega)] at hlow'
      have hgreat : 2147483648 ≤ (digs (val b * 2 ^ s))[n + 1]'(by omega) := by
        apply Classical.byContradiction; intro hne
        have := Int.mul_le_mul_of_nonneg_left (show (digs (val b * 2 ^ s))[n + 1]'(by omega) + 4294967296 * 0 + 1 ≤ 2147483648 by omega) (Int.le_of_lt hA)
        rw [Int.mul_add _ _ 1, Int.mul_one] at this
        omega
      have hDv : Dv (digs (val b * 2 ^ s)) (n + 2) s ((digs (val b * 2 ^ s))[n + 1]'(by omega)) ((digs (val b * 2 ^ s))[n]'(by omega)) :=
        ⟨qdT _, hvl, by omega, by omega, by omega, by rw [show n + 2 - 1 = n + 1 by omega]; exact List.getElem?_eq_getElem (by omega), by rw [Nat.add_sub_cancel]; exact List.getElem?_eq_getElem (by omega), hgreat⟩
      refine ev_f (by simp; omega) ?_
      rw [hn, qdN (x := ((n + 2 : Nat) : Int) - 1) (by omega), qdN (x := ((n + 2 : Nat) : Int) - 2) (by omega), show ((n + 2 : Nat) : Int) - 1 = ((n + 1 : Nat) : Int) by omega, show ((n + 2 : Nat) : Int) - 2 = (n : Int) by omega]
      have hgx : gi (digs (val b)) ((n + 1 : Nat) : Int) = some x := by rw [qc0 (by omega), hx]
      have hshl := natural_Shl_ev (qdT (val b)) (n := s) (by omega) (by omega)
      rw [vb] at hshl
      have hshn := natural_ShlN_ev ha (n := s) (by omega) (by omega)
      have hAge : val b * 2 ^ s ≤ val a * 2 ^ s := Int.mul_le_mul_of_nonneg_right (by omega) (Int.le_of_lt hP)
      have hAn : 0 ≤ val a * 2 ^ s := by omega
      have hml : n + 2 ≤ (digs (val a * 2 ^ s)).length := by
        apply Classical.byContradiction; intro hne
        have := digs_len_lt hAn (show (digs (val a * 2 ^ s)).length ≤ n + 1 by omega)
        omega
      have hopt : optD (val a * 2 ^ s) = some (digs (val a * 2 ^ s)) := by unfold optD; rw [if_neg (by omega)]
      rw [hopt] at hshn
      refine qb6 hgx (qaP hsev (qaP hshl (qaP hshn ?_)))
      have hua : (digs (val a * 2 ^ s)).length ≤ a.length + 1 := by
        refine qo0 ?_
        have h3 := qjV ha
        have h4 : (2 : Int) ^ s < 4294967296 := by
          have : (2 : Nat) ^ s ≤ 2 ^ 31 := Nat.pow_le_pow_right (by decide) (by omega)
          have : ((2 ^ s : Nat) : Int) ≤ ((2 ^ 31 : Nat) : Int) := by exact_mod_cast this
          simp at this; omega
        rw [Int.pow_succ]
        calc val a * 2 ^ s ≤ val a * 4294967296 := Int.mul_le_mul_of_nonneg_left (Int.le_of_lt h4) na
          _ < 4294967296 ^ a.length * 4294967296 := Int.mul_lt_mul_of_pos_right h3 (by decide)
      have hul : (digs (val a * 2 ^ s) ++ [0]).length = (digs (val a * 2 ^ s)).length + 1 := by simp
      have hud : Dig (digs (val a * 2 ^ s) ++ [0]) := dig_append.2 ⟨qdT _, qi1.2 ⟨by decide, dig_nil⟩⟩
      have huv : val (digs (val a * 2 ^ s) ++ [0]) = val a * 2 ^ s := by rw [qi2, qe6 hAn]; simp
      simp only [List.length_map, hul]
      generalize hM : (digs (val a * 2 ^ s)).length = M at *
      rw [qdN (x := ((M + 1 : Nat) : Int) - ((n + 2 : Nat) : Int)) (by omega), show ((M + 1 : Nat) : Int) - ((n + 2 : Nat) : Int) = ((M - n - 1 : Nat) : Int) by omega]
      refine qjP (by omega) (qjP (by omega) (qb6 (qc0 (by omega)) (qb6 (qc0 (by omega)) ?_)))
      have dtop := qfE (qdT (val b * 2 ^ s)) (show n + 1 < (digs (val b * 2 ^ s)).length by omega)
      have dnext := qfE (qdT (val b * 2 ^ s)) (show n < (digs (val b * 2 ^ s)).length by omega)
      rw [qsS, Int.emod_eq_of_lt dtop.1 (by omega), qsS, Int.emod_eq_of_lt dnext.1 (by omega), Int.toNat_natCast, qdN (by omega)]
      have hml2 := qjV (qdT (val a * 2 ^ s))
      rw [qe6 hAn, hM] at hml2
      have := long_loop hDv (M + 1) (by omega) (by omega) (val a * 2 ^ s) (M - n - 1) (digs (val a * 2 ^ s) ++ [0]) (List.replicate (M - n - 1) 0) (by omega) hud (by simp [hM]) (dig_rep (by decide)) (by simp) (by simp; omega)
        (by
          rw [huv, hvv]
          have h5 := Int.mul_le_mul_of_nonneg_left hVlo1 (Int.le_of_lt (qfA (M - n - 1)))
          rw [← Int.pow_add, show M - n - 1 + (n + 1) = M by omega] at h5
          omega)
        (by rw [val_rep, huv]; simp) (fun i hi => by rw [List.getElem?_replicate, if_pos hi])
      have er : val a * 2 ^ s % (val b * 2 ^ s) / 2 ^ s = val a % val b := by
        rw [Int.mul_comm (val a), Int.mul_comm (val b), Int.mul_emod_mul_of_pos _ _ hP, Int.mul_ediv_cancel_left _ (by omega)]
      rw [hvv, er, Int.mul_ediv_mul_of_pos_left _ _ hP] at this
      exact this
end Go.Am.X
namespace Go.Am.X
def Sm (a : qaB) : Prop := Dig a.Abs ∧ a.Abs.length ≤ 17179869000
theorem sm_mkI {z : Int} {n : Nat} (hn : n ≤ 17179869000) (h1 : -(4294967296 ^ n) < z) (h2 : z < 4294967296 ^ n) : Sm (mkI z) := ⟨qjH z, by have := mkI_len h1 h2; omega⟩
theorem sm_lt {a : qaB} (h : Dig a.Abs) : ((ival a).natAbs : Int) < 4294967296 ^ a.Abs.length := by rw [← qsT a h]; exact qjV h
theorem sm_le {a : qaB} (h : Sm a) {z : Int} (hz : z.natAbs ≤ (ival a).natAbs) : Sm (mkI z) := by
  have h1 := sm_lt h.1
  exact sm_mkI h.2 (by omega) (by omega)
theorem sm_self {a : qaB} (h : Sm a) : Sm (mkI (ival a)) := sm_le h (Nat.le_refl _)
theorem mk_zero : mkI 0 = ⟨false, []⟩ := by rw [mkI_pos (Int.le_refl 0), qfV]
theorem sm_zero : Sm ⟨false, []⟩ := ⟨dig_nil, Nat.zero_le _⟩
theorem integer_Sub_ev {a b : qaB} (ha : Sm a) (hb : Sm b) : Ev (fun K => qf7 K a b) (mkI (ival a - ival b)) := by
  refine qaS ?_
  simp only [qf7, qkW]
  have := qnM (a := a) (b := ⟨!b.Neg, b.Abs⟩) ha.1 hb.1 (by have := ha.2; omega) (by have := hb.2; simp only; omega)
  have e : ival ⟨!b.Neg, b.Abs⟩ = -ival b := by unfold ival; cases b.Neg <;> simp
  rw [e, ← Int.sub_eq_add_neg] at this
  exact qaP this (qa3 _)
theorem qu9 {a b : qaB} (ha : Sm a) (hb : Sm b) (h0 : ival b ≠ 0) : Ev (fun K => qmA K a b) (mkI ((ival a).tdiv (ival b)), mkI ((ival a).tmod (ival b)), 0) := by
  refine qaS ?_
  simp only [qmA, qjQ]
  have na := qbB ha.1
  have nb := qbB hb.1
  have hvb := qsT b hb.1
  have hb0 : val b.Abs ≠ 0 := by omega
  have hq0 : 0 ≤ val a.Abs / val b.Abs := Int.ediv_nonneg na nb
  have hr0 := Int.emod_nonneg (val a.Abs) hb0
  have hql : (digs (val a.Abs / val b.Abs)).length ≤ a.Abs.length := by
    refine qo0 ?_
    have := Int.ediv_le_self (val b.Abs) na
    have := qjV ha.1
    omega
  have hrl : (digs (val a.Abs % val b.Abs)).length ≤ b.Abs.length := by
    refine qo0 ?_
    have := Int.emod_lt_of_pos (val a.Abs) (show 0 < val b.Abs by omega)
    have := qjV hb.1
    omega
  have s1 := ha.2
  have s2 := hb.2
  have f1 := ql9 (!(a.Neg == b.Neg)) (qdT (val a.Abs / val b.Abs)) (by omega)
  have f2 := ql9 a.Neg (qdT (val a.Abs % val b.Abs)) (by omega)
  rw [qe6 hq0] at f1
  rw [qe6 hr0] at f2
  refine qaP (qiB hb.1 (by omega)) (ev_f (by simpa using h0) (qaP (division_long_ev ha.1 hb.1 (by omega) (by omega) hb0) ?_))
  refine qaP f1 (qaP f2 (qe5 (qa3 _) ?_))
  obtain ⟨s, a⟩ := a
  obtain ⟨t, b⟩ := b
  simp only at na nb hb0
  unfold ival
  have e1 := Int.tdiv_eq_ediv_of_nonneg (b := val b) na
  have e2 := Int.tmod_eq_emod_of_nonneg (b := val b) na
  cases s <;> cases t <;> simp [Int.neg_tdiv, Int.tdiv_neg, Int.neg_tmod, Int.tmod_neg, e1, e2]
theorem tmod_small (x y : Int) (hy : 0 < y) : -y < x.tmod y ∧ x.tmod y < y ∧ y * x.tdiv y + x.tmod y = x := by
  have h1 := Int.mul_tdiv_add_tmod x y
  have h2 := Int.natAbs_tmod x y
  have h3 : x.natAbs % y.natAbs < y.natAbs := Nat.mod_lt _ (by omega)
  omega
theorem floor_eq (x y : Int) (hy : 0 < y) : (x.tmod y < 0 → x / y = x.tdiv y - 1 ∧ x % y = x.tmod y + y) ∧ (0 ≤ x.tmod y → x / y = x.tdiv y ∧ x % y = x.tmod y) := by
  obtain ⟨h1, h2, h3⟩ := tmod_small x y hy
  constructor
  · intro h
    rw [Int.ediv_emod_unique hy]
    refine ⟨?_, by omega, by omega⟩
    rw [Int.mul_sub, Int.mul_one]; omega
  · intro h
    rw [Int.ediv_emod_unique hy]
    exact ⟨by omega, by omega, by omega⟩
theorem tdiv_abs_le (x y : Int) : (x.tdiv y).natAbs ≤ x.natAbs := by rw [Int.natAbs_tdiv]; exact Nat.div_le_self _ _
theorem division_Floor_ev {a : qaB} {y : Int} (ha : Sm a) (hy : 0 < y) (hb : Sm (mkI y)) : Ev (fun K => qsB K a (mkI y)) (mkI (ival a / y), mkI (ival a % y), 0) := by
  have hq := qu9 ha hb (by rw [qd5]; omega)
  rw [qd5] at hq
  obtain ⟨t1, t2, t3⟩ := tmod_small (ival a) y hy
  obtain ⟨f1, f2⟩ := floor_eq (ival a) y hy
  have sr : Sm (mkI ((ival a).tmod y)) := sm_le hb (by rw [qd5]; omega)
  have sq : Sm (mkI ((ival a).tdiv y)) := sm_le ha (tdiv_abs_le _ _)
  refine qaS ?_
  simp only [qsB, qhQ]
  have hz := qiB sr.1 (by have := sr.2; omega)
  rw [qd5] at hz
  refine qaP hq (ev_t rfl (qaP hz ?_))
  have hn : (mkI y).Neg = false := by rw [mkI_pos (by omega)]
  by_cases h0 : (ival a).tmod y = 0
  · refine ev_f (by simpa using h0) (qe5 (qa3 _) ?_)
    obtain ⟨g1, g2⟩ := f2 (by omega)
    rw [g1, g2]
  · refine ev_t (by simpa using h0) ?_
    by_cases hneg : (ival a).tmod y < 0
    · obtain ⟨g1, g2⟩ := f1 hneg
      have hs : (mkI ((ival a).tmod y)).Neg = true := by rw [mkI_neg hneg]
      have sub := integer_Sub_ev sq (sm_mkI (z := 1) (n := 1) (by decide) (by decide) (by decide))
      rw [qd5, qd5] at sub
      have add := qnM sr.1 hb.1 (by have := sr.2; omega) (by have := hb.2; omega)
      rw [qd5, qd5] at add
      refine ev_t (by simp [hs, hn]) (qaP (qqG (by decide)) (qaP sub (qaP add (qe5 (qa3 _) ?_))))
      rw [g1, g2]
    · obtain ⟨g1, g2⟩ := f2 (by omega)
      have hs : (mkI ((ival a).tmod y)).Neg = false := by rw [mkI_pos (by omega)]
      refine ev_f (by simp [hs, hn]) (qe5 (qa3 _) ?_)
      rw [g1, g2]
theorem division_Mod_ev {a m : qaB} (ha : Sm a) (hm : Sm m) (h0 : ival m ≠ 0) : Ev (fun K => qvX K a m) (mkI (ival a % ((ival m).natAbs : Int)), 0) := by
  refine qaS ?_
  simp only [qvX, qjR]
  exact qaP (qnN hm.1 (by have := hm.2; omega)) (qaP (division_Floor_ev ha (by omega) (sm_le hm (by omega))) (qa3 _))
def sym (x m : Int) : Int := if (m.natAbs : Int) < 2 * (x % (m.natAbs : Int)) then x % (m.natAbs : Int) - m.natAbs else x % (m.natAbs : Int)
theorem sym_abs {x m : Int} (h : m ≠ 0) : (sym x m).natAbs ≤ m.natAbs := by
  have h1 := Int.emod_nonneg x (show (m.natAbs : Int) ≠ 0 by omega)
  have h2 := Int.emod_lt_of_pos x (show (0 : Int) < (m.natAbs : Int) by omega)
  unfold sym; split <;> omega
theorem sym_dvd (x m : Int) : m ∣ sym x m - x := by
  have h1 := Int.emod_add_mul_ediv x (m.natAbs : Int)
  have h2 : m ∣ (m.natAbs : Int) := Int.dvd_natAbs.2 (Int.dvd_refl m)
  unfold sym
  split
  · have h3 : x % (m.natAbs : Int) - m.natAbs - x = (m.natAbs : Int) * (-(x / (m.natAbs : Int)) - 1) := by
      generalize x / (m.natAbs : Int) = q at *
      generalize x % (m.natAbs : Int) = r at *
      rw [← h1]; grind
    rw [h3]; exact Int.dvd_mul_of_dvd_left h2
  · have h3 : x % (m.natAbs : Int) - x = (m.natAbs : Int) * (-(x / (m.natAbs : Int))) := by
      generalize x / (m.natAbs : Int) = q at *
      generalize x % (m.natAbs : Int) = r at *
      rw [← h1]; grind
    rw [h3]; exact Int.dvd_mul_of_dvd_left h2
theorem sym_congr {x y m : Int} (h : m ∣ x - y) : sym x m = sym y m := by
  have h2 : (m.natAbs : Int) ∣ x - y := Int.natAbs_dvd.2 h
  have : x % (m.natAbs : Int) = y % (m.natAbs : Int) := Int.emod_eq_emod_iff_emod_sub_eq_zero.2 (Int.emod_eq_zero_of_dvd h2)
  unfold sym; rw [this]
theorem sym_sym (x m : Int) : sym (sym x m) m = sym x m := sym_congr (sym_dvd x m)
theorem sym_range {x m : Int} (h : m ≠ 0) : -(m.natAbs : Int) < 2 * sym x m ∧ 2 * sym x m ≤ m.natAbs := by
  have h1 := Int.emod_nonneg x (show (m.natAbs : Int) ≠ 0 by omega)
  have h2 := Int.emod_lt_of_pos x (show (0 : Int) < (m.natAbs : Int) by omega)
  unfold sym; split <;> omega
theorem sym_small {x m : Int} (h1 : -(m.natAbs : Int) < 2 * x) (h2 : 2 * x ≤ m.natAbs) : sym x m = x := by
  unfold sym
  by_cases h : 0 ≤ x
  · rw [Int.emod_eq_of_lt h (by omega), if_neg (by omega)]
  · have e : x % (m.natAbs : Int) = x + m.natAbs := by
      have := Int.add_mul_emod_self_left x (m.natAbs : Int) 1
      rw [Int.mul_one] at this
      rw [← this, Int.emod_eq_of_lt (by omega) (by omega)]
    rw [e, if_pos (by omega)]; omega
theorem qsM {a m : qaB} (ha : Sm a) (hm : Sm m) (h0 : ival m ≠ 0) : Ev (fun K => qfU K a m) (mkI (sym (ival a) (ival m)), 0) := by
  refine qaS ?_
  simp only [qfU, qfO]
  have hr0 := Int.emod_nonneg (ival a) (show ((ival m).natAbs : Int) ≠ 0 by omega)
  have hr1 := Int.emod_lt_of_pos (ival a) (show (0 : Int) < ((ival m).natAbs : Int) by omega)
  have sr : Sm (mkI (ival a % ((ival m).natAbs : Int))) := sm_le hm (by omega)
  have sab : Sm (mkI ((ival m).natAbs : Int)) := sm_le hm (by omega)
  have s1 := sr.2
  have s2 := hm.2
  have shl := natural_Shl_ev sr.1 (n := 1) (by decide) (by omega)
  have e1 : val (mkI (ival a % ((ival m).natAbs : Int))).Abs = ival a % ((ival m).natAbs : Int) := by rw [mkI_pos hr0]; exact qe6 hr0
  rw [e1, show ival a % ((ival m).natAbs : Int) * 2 ^ 1 = 2 * (ival a % ((ival m).natAbs : Int)) by omega] at shl
  have hl : (digs (2 * (ival a % ((ival m).natAbs : Int)))).length ≤ m.Abs.length + 1 := by
    refine qo0 ?_
    have := sm_lt hm.1
    rw [Int.pow_succ]; omega
  have cmp := qnG (qdT (2 * (ival a % ((ival m).natAbs : Int)))) hm.1 (by omega) (by omega)
  rw [qe6 (by omega), qsT m hm.1] at cmp
  have hc := qfB (2 * (ival a % ((ival m).natAbs : Int))) ((ival m).natAbs : Int)
  refine qaP (division_Mod_ev ha hm h0) (ev_t rfl (qaP shl (qaP cmp ?_)))
  unfold sym
  by_cases h : ((ival m).natAbs : Int) < 2 * (ival a % ((ival m).natAbs : Int))
  · have sub := integer_Sub_ev sr sab
    rw [qd5, qd5] at sub
    rw [if_pos h]
    exact ev_t (by simp; omega) (qaP (qnN hm.1 (by omega)) (qaP sub (qa3 _)))
  · rw [if_neg h]
    exact ev_f (by simp; omega) (qa3 _)
theorem division_Divides_ev {a b : qaB} (ha : Sm a) (hb : Sm b) : Ev (fun K => qoJ K a b) (decide (ival a ∣ ival b)) := by
  refine qaS ?_
  simp only [qoJ, qf9]
  have s1 := ha.2
  have s2 := hb.2
  refine qaP (qiB ha.1 (by omega)) ?_
  by_cases h : ival a = 0
  · refine ev_t (by simpa using h) (qaP (qiB hb.1 (by omega)) (qe5 (qa3 _) ?_))
    rw [h, decide_eq_decide, Int.zero_dvd]
  · have sr : Sm (mkI ((ival b).tmod (ival a))) := sm_le ha (by
      rw [Int.natAbs_tmod]
      exact Nat.le_of_lt (Nat.mod_lt _ (by omega)))
    have hz := qiB sr.1 (by have := sr.2; omega)
    rw [qd5] at hz
    refine ev_f (by simpa using h) (qaP (qu9 hb ha h) (qaP hz (qe5 (qa3 _) ?_)))
    rw [decide_eq_decide]
    exact (Int.dvd_iff_tmod_eq_zero).symm
theorem division_Exact_ev {a b : qaB} (ha : Sm a) (hb : Sm b) (h0 : ival b ≠ 0) (hd : ival b ∣ ival a) : Ev (fun K => qcW K a b) (mkI (ival a / ival b), 0) := by
  refine qaS ?_
  simp only [qcW, qhR]
  have hm : (ival a).tmod (ival b) = 0 := Int.dvd_iff_tmod_eq_zero.1 hd
  have hq : (ival a).tdiv (ival b) = ival a / ival b := by
    obtain ⟨c, hc⟩ := hd
    rw [hc, Int.mul_tdiv_cancel_left _ h0, Int.mul_ediv_cancel_left _ h0]
  have := qu9 ha hb h0
  rw [hm, hq] at this
  have hz := qiB (a := mkI 0) (qjH 0) (by rw [mk_zero]; simp)
  rw [qd5] at hz
  exact qaP this (ev_t rfl (qaP hz (ev_f rfl (qa3 _))))
end Go.Am.X
namespace Go.Am.X
def co (l : List Int) (k : Nat) : Int := l.getD k 0
def xm (f : Nat → Int) (k : Nat) : Int := match k with | 0 => 0 | k + 1 => f k
def lm : List Int → (Nat → Int) → Nat → Int
  | [], _ => fun _ => 0
  | a :: l, g => fun k => a * g k + xm (lm l g) k
def pone (k : Nat) : Int := if k = 0 then 1 else 0
@[simp] theorem co_nil (k : Nat) : co [] k = 0 := by simp [co]
@[simp] theorem co_zero (a : Int) (l : List Int) : co (a :: l) 0 = a := by simp [co]
@[simp] theorem co_succ (a : Int) (l : List Int) (k : Nat) : co (a :: l) (k + 1) = co l k := by simp [co]
theorem qqS {l : List Int} {k : Nat} (h : k < l.length) : co l k = l[k] := by simp [co, List.getD, List.getElem?_eq_getElem h]
theorem qgH {l : List Int} {k : Nat} (h : l.length ≤ k) : co l k = 0 := by simp [co, List.getD, List.getElem?_eq_none h]
theorem co_cons (a : Int) (l : List Int) : co (a :: l) = fun k => a * pone k + xm (co l) k := by
  funext k; cases k <;> simp [pone, xm]
theorem lm_add (l : List Int) (f g : Nat → Int) : lm l (fun k => f k + g k) = fun k => lm l f k + lm l g k := by
  induction l with
  | nil => rfl
  | cons a l ih =>
    funext k
    simp only [lm, ih]
    cases k <;> simp only [xm] <;> grind
theorem lm_smul (l : List Int) (c : Int) (f : Nat → Int) : lm l (fun k => c * f k) = fun k => c * lm l f k := by
  induction l with
  | nil => funext k; simp [lm]
  | cons a l ih =>
    funext k
    simp only [lm, ih]
    cases k <;> simp only [xm] <;> grind
theorem lm_xm (l : List Int) (f : Nat → Int) : lm l (xm f) = xm (lm l f) := by
  induction l with
  | nil => funext k; cases k <;> simp [lm, xm]
  | cons a l ih =>
    funext k
    simp only [lm, ih]
    cases k <;> simp [xm]
theorem lm_zero (l : List Int) : lm l (fun _ => 0) = fun _ => 0 := by
  induction l with
  | nil => rfl
  | cons a l ih => funext k; simp only [lm, ih]; cases k <;> simp [xm]
theorem lm_one (l : List Int) : lm l pone = co l := by
  induction l with
  | nil => funext k; simp [lm]
  | cons a l ih => rw [co_cons]; funext k; simp only [lm, ih]
theorem lm_comm (f g : List Int) : lm f (co g) = lm g (co f) := by
  induction f with
  | nil =>
    rw [show co [] = fun _ => 0 by funext k; simp, lm_zero]
    rfl
  | cons a f ih =>
    rw [co_cons, lm_add, lm_smul, lm_xm, lm_one, ← ih]
    rfl
theorem lm_lm (f g : List Int) (h : Nat → Int) : lm f (lm g h) = lm g (lm f h) := by
  induction f with
  | nil =>
    show (fun _ => 0) = lm g (fun _ => 0)
    rw [lm_zero]
  | cons a f ih =>
    show (fun k => a * lm g h k + xm (lm f (lm g h)) k) = lm g (fun k => a * h k + xm (lm f h) k)
    rw [lm_add, lm_smul, lm_xm, ih]
theorem lm_congr_co {f g : List Int} (h : co f = co g) (u : List Int) : lm f (co u) = lm g (co u) := by
  rw [lm_comm f, lm_comm g, h]
theorem lm_at (l : List Int) (f g : Nat → Int) (k : Nat) (h : ∀ j, j ≤ k → f j = g j) : lm l f k = lm l g k := by
  induction l generalizing k with
  | nil => rfl
  | cons a l ih =>
    simp only [lm, h k (Nat.le_refl _)]
    cases k with
    | zero => rfl
    | succ k => simp only [xm, ih k (fun j hj => h j (by omega))]
def Cong (m : Int) (f g : Nat → Int) : Prop := ∀ k, m ∣ f k - g k
theorem Cong.refl (m : Int) (f : Nat → Int) : Cong m f f := fun k => by rw [Int.sub_self]; exact Int.dvd_zero m
theorem Cong.symm {m : Int} {f g : Nat → Int} (h : Cong m f g) : Cong m g f := fun k => by
  have := Int.dvd_neg.2 (h k); rwa [Int.neg_sub] at this
theorem Cong.trans {m : Int} {f g h : Nat → Int} (h1 : Cong m f g) (h2 : Cong m g h) : Cong m f h := fun k => by
  have := Int.dvd_add (h1 k) (h2 k); rwa [show f k - g k + (g k - h k) = f k - h k by omega] at this
theorem Cong.lm_left {m : Int} (l : List Int) {f g : Nat → Int} (h : Cong m f g) : Cong m (lm l f) (lm l g) := by
  induction l with
  | nil => exact Cong.refl _ _
  | cons a l ih =>
    intro k
    have h1 := Int.dvd_mul_of_dvd_right (b := a) (h k)
    simp only [lm]
    rw [Int.mul_sub] at h1
    cases k with
    | zero => simpa [xm] using h1
    | succ k =>
      have := Int.dvd_add h1 (ih k)
      simp only [xm]
      rwa [show a * f (k + 1) - a * g (k + 1) + (lm l f k - lm l g k) = a * f (k + 1) + lm l f k - (a * g (k + 1) + lm l g k) by omega] at this
theorem Cong.mul {m : Int} {f f' g g' : List Int} (h : Cong m (co f) (co f')) (h' : Cong m (co g) (co g')) : Cong m (lm f (co g)) (lm f' (co g')) := by
  refine (Cong.lm_left f h').trans ?_
  rw [lm_comm f, lm_comm f']
  exact Cong.lm_left g' h
def xpow (i : Nat) (f : Nat → Int) (k : Nat) : Int := if i ≤ k then f (k - i) else 0
theorem lm_snoc (l : List Int) (a : Int) (g : Nat → Int) : lm (l ++ [a]) g = fun k => lm l g k + a * xpow l.length g k := by
  induction l with
  | nil => funext k; simp only [List.nil_append, lm, xpow, List.length_nil]; cases k <;> simp [xm]
  | cons b l ih =>
    funext k
    simp only [List.cons_append, lm, ih, List.length_cons]
    cases k with
    | zero => simp [xm, xpow]
    | succ k =>
      simp only [xm, xpow, Nat.succ_le_succ_iff, Nat.add_sub_add_right]
      omega
theorem lm_take_succ (f : List Int) (i : Nat) (h : i < f.length) (g : Nat → Int) : lm (f.take (i + 1)) g = fun k => lm (f.take i) g k + f[i] * xpow i g k := by
  rw [List.take_add_one, List.getElem?_eq_getElem h, Option.toList_some, lm_snoc, List.length_take, Nat.min_eq_left (by omega)]
theorem lm_ge (f g : List Int) (k : Nat) (h : f.length + g.length ≤ k + 1) : lm f (co g) k = 0 ∨ f = [] ∨ g = [] := by
  by_cases hf : f = []
  · exact .inr (.inl hf)
  · by_cases hg : g = []
    · exact .inr (.inr hg)
    · refine .inl ?_
      clear hf
      induction f generalizing k with
      | nil => rfl
      | cons a f ih =>
        simp only [lm]
        simp only [List.length_cons] at h
        have hgl : 0 < g.length := List.length_pos_iff.2 hg
        rw [qgH (l := g) (by omega), Int.mul_zero, Int.zero_add]
        cases k with
        | zero => rfl
        | succ k => simp only [xm]; exact ih k (by omega)
end Go.Am.X
namespace Go.Am.X
open Go.Proofs.Try (prog)
inductive qnU where
  | c0 (f : (List qaB))
  | c1 (f : (List qaB)) (n : Int)
  | c2 (f : (List qaB)) (n : Int)
def qcJ : Nat → qnU → Option (List qaB)
  | 0, _ => none
  | K + 1, .c0 f =>
    qcJ K (.c1 f (f.length : Int))
  | K + 1, .c1 f n =>
    bif (decide ((0 : Int) < n)) then
      (gi f (wI6 (n - (1 : Int)))).bind fun x2 =>
      (qkV K x2.Abs).bind fun x4 =>
      bif x4 then
        qcJ K (.c1 f (wI6 (n - (1 : Int))))
      else
        qcJ K (.c2 f n)
    else
      qcJ K (.c2 f n)
  | _ + 1, .c2 f n =>
    bif (decide (n = (0 : Int))) then
      some []
    else
      gd (0 ≤ n ∧ 0 ≤ n.toNat ∧ n.toNat ≤ f.length) <|
      some (f.take n.toNat)
def qdU (K : Nat) (f : (List qaB)) : Option (List qaB) := qcJ K (.c0 f)
noncomputable def qhI : Code := qbN prog 102
noncomputable def unipoly_trim_pos : qnU → List Fr
  | .c0 .. => [.code qhI]
  | .c1 .. => [.code (.loop (atC qhI [1,1,0,0,0])), .blk 0, .code (atC qhI [1,1,1])]
  | .c2 .. => [.code (atC qhI [1,1,1,0,0]), .code (atC qhI [1,1,1,0,1]), .code (atC qhI [1,1,1,1])]
def unipoly_trim_st : qnU → St
  | .c0 f => St.init [(tl 2 f qaA)]
  | .c1 f n => ⟨[(0, vl 2 f qaA), (3, vi .i64 n)], [], []⟩
  | .c2 f n => ⟨[(0, vl 2 f qaA), (3, vi .i64 n)], [], []⟩
def qrW (cx : Cx) (c : qnU) (r : (List qaB)) : Prop := Wk prog cx (qcT prog 102 [[2]] (tl 2 r qaA)) (unipoly_trim_pos c) .normal (unipoly_trim_st c)
abbrev qrX (K : Nat) : Prop := ∀ c r, qcJ K c = some r → ∀ cx : Cx, cx.n = 24 → qrW cx c r
theorem unipoly_trim_c0 {K} (ih : qrX K) {cx} (hn : cx.n = 24) {f} {r} (h : qcJ (K + 1) (.c0 f) = some r) : qrW cx (.c0 f) r := by
  rw [qcJ] at h
  exact qaU (fuel := 56) [rgG [oo], rgG [oo, opI (.ln (f.length : Int)), oo], .pre [.keep [0,3] []]] _ hn (by kernel_rfl) (aC (qaT f qaA) <| aN) (ih _ _ h cx hn)
theorem unipoly_trim_c1 {K} (ih : qrX K) {cx} (hn : cx.n = 24) {f n} {r} (h : qcJ (K + 1) (.c1 f n) = some r) : qrW cx (.c1 f n) r := by
  rw [qcJ] at h
  rcases qaK h with ⟨h1, h⟩ | ⟨h1, h⟩
  · skip
    obtain ⟨x2, h3, h⟩ := qaH h
    obtain ⟨x4, h5, h⟩ := qaH h
    rcases qaK h with ⟨h6, h⟩ | ⟨h6, h⟩
    · skip
      exact qaU (fuel := 74) [.go, rgG [oo, oo, oo, .sb 8 true, oo, oo, oo, opI (.ix (qaA x2)), oo, oo, opI (.call [[1]] [(TV.c (T.sl 1 (x2.Abs.map qaC)))] (TV.c (T.bool x4))), oo], .br true, rgG [oo, oo, oo], .pre [.keep [0,3] []]] _ hn (by kernel_rfl) (aC h1 <| aC (qa0 h3) <| aC (qbH qaA h3) <| aC (qfY h5) <| aC h6 <| aN) (ih _ _ h cx hn)
    · skip
      exact qaU (fuel := 72) [.go, rgG [oo, oo, oo, .sb 8 true, oo, oo, oo, opI (.ix (qaA x2)), oo, oo, opI (.call [[1]] [(TV.c (T.sl 1 (x2.Abs.map qaC)))] (TV.c (T.bool x4))), oo], .br false, .pre [.keep [0,3] []]] _ hn (by kernel_rfl) (aC h1 <| aC (qa0 h3) <| aC (qbH qaA h3) <| aC (qfY h5) <| aC h6 <| aN) (ih _ _ h cx hn)
  · skip
    exact qaU (fuel := 72) [.go, rgG [oo, oo, oo, .sb 8 false, oo, oo, oo, oo, oo, oo, oo, oo], .br false, .pre [.keep [0,3] []]] _ hn (by kernel_rfl) (aC h1 <| aC rf <| aN) (ih _ _ h cx hn)
theorem unipoly_trim_c2 {K} (_ : qrX K) {cx} (hn : cx.n = 24) {f n} {r} (h : qcJ (K + 1) (.c2 f n) = some r) : qrW cx (.c2 f n) r := by
  rw [qcJ] at h
  rcases qaK h with ⟨h1, h⟩ | ⟨h1, h⟩
  · skip
    have h := Option.some.inj h; subst h
    exact qaN (fuel := 60) [rgG [oo, oo], .br true, rgG [oo]] _ hn (by kernel_rfl) (aC h1 <| aN)
  · skip
    obtain ⟨h2, h⟩ := qbE h
    have h := Option.some.inj h; subst h
    exact qaN (fuel := 60) [rgG [oo, oo], .br false, rgG [oo, oo, opI (.slT 0 n.toNat ((f.take n.toNat).map qaA)), oo]] _ hn (by kernel_rfl) (aC h1 <| aC r0 <| aC (⟨h2.1, rfl⟩ : 0 ≤ n ∧ n.toNat = n.toNat) <| aC h2.2.1 <| aC (ln_le _ h2.2.2 : n.toNat ≤ (f.map qaA).length) <| aC (tk0_map _ _ _ : ((f.map qaA).take n.toNat).drop 0 = (f.take n.toNat).map qaA) <| aN)
theorem qnT : ∀ K : Nat, qrX K
  | 0, c, r, h => by rw [qcJ] at h; cases h
  | K + 1, .c0 .., r, h => fun cx hn => unipoly_trim_c0 (qnT K) hn h
  | K + 1, .c1 .., r, h => fun cx hn => unipoly_trim_c1 (qnT K) hn h
  | K + 1, .c2 .., r, h => fun cx hn => unipoly_trim_c2 (qnT K) hn h
theorem qbF {K : Nat} {f : (List qaB)} {r : (List qaB)} (h : qdU K f = some r) : qcX prog 102 [(tl 2 f qaA)] (tl 2 r qaA) :=
  qa2 [[2]] (by kernel_rfl) (by simp) fun cx hn => qnT K (.c0 f) r h cx hn
end Go.Am.X
namespace Go.Am.X
open Go.Proofs.Try (prog)
inductive qk7 where
  | c0 (f : (List qaB))
  | c1 (r8 : (List qaB)) (f : (List qaB)) (t10 : Int) (t11 : Int)
def qc6 : Nat → qk7 → Option (List qaB)
  | 0, _ => none
  | K + 1, .c0 f =>
    (qdU K f).bind fun x1 =>
    gd (0 ≤ (x1.length : Int) ∧ (x1.length : Int) ≤ (x1.length : Int) ∧ (32 : Int) * (x1.length : Int) ≤ 140737488355328) <|
    qc6 K (.c1 (List.replicate (x1.length : Int).toNat ((qaB.mk false []) : qaB)) f (((x1.length : Int).toNat : Nat) : Int) (0 : Int))
  | K + 1, .c1 r8 f t10 t11 =>
    bif (decide (t11 < t10)) then
      (gi f t11).bind fun x2 =>
      (qiP K x2).bind fun x4 =>
      (gi r8 t11).bind fun _ =>
      qc6 K (.c1 (r8.set (t11.toNat) x4) f t10 (wI6 (t11 + (1 : Int))))
    else
      (qdU K r8).bind fun x2 =>
      some x2
def qnE (K : Nat) (f : (List qaB)) : Option (List qaB) := qc6 K (.c0 f)
noncomputable def qoM : Code := qbN prog 96
noncomputable def unipoly_Normal_pos : qk7 → List Fr
  | .c0 .. => [.code qoM]
  | .c1 .. => [.code (.loop (atC qoM [1,1,0,1,0,0])), .blk 0, .code (atC qoM [1,1,1])]
def unipoly_Normal_st : qk7 → St
  | .c0 f => St.init [(tl 2 f qaA)]
  | .c1 r8 f t10 t11 => ⟨[(0, vl 2 f qaA), (3, .c (C.row 8 0 r8.length)), (10, vi .i64 t10), (11, vi .i64 t11)], [(8, .row 45 2 (r8.map qaA) 0)], []⟩
def qsU (cx : Cx) (c : qk7) (r : (List qaB)) : Prop := Wk prog cx (qcT prog 96 [[2]] (tl 2 r qaA)) (unipoly_Normal_pos c) .normal (unipoly_Normal_st c)
abbrev qsV (K : Nat) : Prop := ∀ c r, qc6 K c = some r → ∀ cx : Cx, cx.n = 25 → qsU cx c r
theorem unipoly_Normal_c0 {K} (ih : qsV K) {cx} (hn : cx.n = 25) {f} {r} (h : qc6 (K + 1) (.c0 f) = some r) : qsU cx (.c0 f) r := by
  rw [qc6] at h
  obtain ⟨x1, h2, h⟩ := qaH h
  obtain ⟨h3, h⟩ := qbE h
  exact qaU (fuel := 64) [rgG [oo], rgG [oo, opI (.call [[2]] [(tl 2 f qaA)] (tl 2 x1 qaA)), opI (.ln (x1.length : Int)), opI (.mk (qaA (qaB.mk false [])) ((List.replicate (x1.length : Int).toNat ((qaB.mk false []) : qaB)).map qaA)), oo], rgG [oo, oo, oo], .pre [.rl 3 0 (List.replicate (x1.length : Int).toNat ((qaB.mk false []) : qaB)).length, .keep [0,3,10,11] [8]]] _ hn (by kernel_rfl) (aC (qbF h2) <| aC (qaT x1 qaA) <| aC h3.1 <| aC h3.2.1 <| aC h3.2.2 <| aC (qf1 _ _ _ : List.replicate (x1.length : Int).toNat (qaA (qaB.mk false [])) = (List.replicate (x1.length : Int).toNat ((qaB.mk false []) : qaB)).map qaA) <| aC r0 <| aC (by simp : (x1.length : Int).toNat = (List.replicate (x1.length : Int).toNat ((qaB.mk false []) : qaB)).length) <| aN) (ih _ _ h cx hn)
theorem unipoly_Normal_c1 {K} (ih : qsV K) {cx} (hn : cx.n = 25) {r8 f t10 t11} {r} (h : qc6 (K + 1) (.c1 r8 f t10 t11) = some r) : qsU cx (.c1 r8 f t10 t11) r := by
  rw [qc6] at h
  rcases qaK h with ⟨h1, h⟩ | ⟨h1, h⟩
  · skip
    obtain ⟨x2, h3, h⟩ := qaH h
    obtain ⟨x4, h5, h⟩ := qaH h
    obtain ⟨x6, h7, h⟩ := qaH h
    exact qaU (fuel := 90) [.go, rgG [oo], .br true, rgG [oo, oo], rgG [oo, oo, oo, oo, opI (.ix (qaA x2)), oo, opI (.call [[0,1]] [(TV.agg (qaA x2))] (TV.agg (qaA x4))), .op .ir, opI (.st (qaA x6) ((r8.set (t11.toNat) x4).map qaA))], rgG [oo, oo], .pre [.rl 3 0 (r8.set (t11.toNat) x4).length, .keep [0,3,10,11] [8]]] _ hn (by kernel_rfl) (aC h1 <| aC (qa0 h3) <| aC (qbH qaA h3) <| aC (qiY h5) <| aC (qa0 h7) <| aC (qcH h7 (by simp) : t11 < ((r8.length : Nat) : Int)) <| aC (qcG qaA h7 : (r8.map qaA)[(0 + t11.toNat)]? = some (qaA x6)) <| aC (qc7 _ _ x4 _ : (r8.map qaA).set (0 + t11.toNat) (qbY (qaA x6) 0 [(T.bool x4.Neg), (T.sl 1 (x4.Abs.map qaC))]) = (r8.set (t11.toNat) x4).map qaA) <| aC (Nat.zero_le _ : 0 ≤ (0 + t11.toNat)) <| aC r0 <| aC (by simp : r8.length = (r8.set (t11.toNat) x4).length) <| aN) (ih _ _ h cx hn)
  · skip
    obtain ⟨x2, h3, h⟩ := qaH h
    have h := Option.some.inj h; subst h
    exact qaN (fuel := 78) [.go, rgG [oo], .br false, rgG [oo, .snap 23 (max 0 (0 + r8.length)) (r8.map qaA), opI (.call [[2]] [(tl 2 r8 qaA)] (tl 2 x2 qaA)), oo]] _ hn (by kernel_rfl) (aC h1 <| aC (qbI _ _ _ (by simp) : ((r8.map qaA).drop 0).take r8.length = r8.map qaA) <| aC (rfl : (max 0 (0 + r8.length)) = (max 0 (0 + r8.length))) <| aC (qbF h3) <| aN)
theorem qpA : ∀ K : Nat, qsV K
  | 0, c, r, h => by rw [qc6] at h; cases h
  | K + 1, .c0 .., r, h => fun cx hn => unipoly_Normal_c0 (qpA K) hn h
  | K + 1, .c1 .., r, h => fun cx hn => unipoly_Normal_c1 (qpA K) hn h
theorem qtE {K : Nat} {f : (List qaB)} {r : (List qaB)} (h : qnE K f = some r) : qcX prog 96 [(tl 2 f qaA)] (tl 2 r qaA) :=
  qa2 [[2]] (by kernel_rfl) (by simp) fun cx hn => qpA K (.c0 f) r h cx hn
end Go.Am.X
namespace Go.Am.X
open Go.Proofs.Try (prog)
inductive qrY where
  | c0 (coefs : (List Int))
  | c1 (r8 : (List qaB)) (t9 : (List Int)) (t10 : Int) (t11 : Int)
def qeY : Nat → qrY → Option (List qaB)
  | 0, _ => none
  | K + 1, .c0 coefs =>
    gd (0 ≤ (coefs.length : Int) ∧ (coefs.length : Int) ≤ (coefs.length : Int) ∧ (32 : Int) * (coefs.length : Int) ≤ 140737488355328) <|
    qeY K (.c1 (List.replicate (coefs.length : Int).toNat ((qaB.mk false []) : qaB)) coefs (coefs.length : Int) (0 : Int))
  | K + 1, .c1 r8 t9 t10 t11 =>
    bif (decide (t11 < t10)) then
      (gi t9 t11).bind fun x2 =>
      (qh9 K x2).bind fun x4 =>
      (gi r8 t11).bind fun _ =>
      qeY K (.c1 (r8.set (t11.toNat) x4) t9 t10 (wI6 (t11 + (1 : Int))))
    else
      (qdU K r8).bind fun x2 =>
      some x2
def qo3 (K : Nat) (coefs : (List Int)) : Option (List qaB) := qeY K (.c0 coefs)
noncomputable def qt3 : Code := qbN prog 51
noncomputable def unipoly_Of_pos : qrY → List Fr
  | .c0 .. => [.code qt3]
  | .c1 .. => [.code (.loop (atC qt3 [1,1,0,1,0,0])), .blk 0, .code (atC qt3 [1,1,1])]
def unipoly_Of_st : qrY → St
  | .c0 coefs => St.init [(tl 1 coefs qeT)]
  | .c1 r8 t9 t10 t11 => ⟨[(3, .c (C.row 8 0 r8.length)), (9, vl 1 t9 qeT), (10, vi .i64 t10), (11, vi .i64 t11)], [(8, .row 45 2 (r8.map qaA) 0)], []⟩
def unipoly_Of_S (cx : Cx) (c : qrY) (r : (List qaB)) : Prop := Wk prog cx (qcT prog 51 [[2]] (tl 2 r qaA)) (unipoly_Of_pos c) .normal (unipoly_Of_st c)
abbrev unipoly_Of_H (K : Nat) : Prop := ∀ c r, qeY K c = some r → ∀ cx : Cx, cx.n = 24 → unipoly_Of_S cx c r
theorem unipoly_Of_c0 {K} (ih : unipoly_Of_H K) {cx} (hn : cx.n = 24) {coefs} {r} (h : qeY (K + 1) (.c0 coefs) = some r) : unipoly_Of_S cx (.c0 coefs) r := by
  rw [qeY] at h
  obtain ⟨h1, h⟩ := qbE h
  exact qaU (fuel := 64) [rgG [oo], rgG [oo, opI (.ln (coefs.length : Int)), opI (.mk (qaA (qaB.mk false [])) ((List.replicate (coefs.length : Int).toNat ((qaB.mk false []) : qaB)).map qaA)), oo], rgG [oo, opI (.ln (coefs.length : Int)), oo], .pre [.rl 3 0 (List.replicate (coefs.length : Int).toNat ((qaB.mk false []) : qaB)).length, .keep [3,9,10,11] [8]]] _ hn (by kernel_rfl) (aC (qaT coefs qeT) <| aC h1.1 <| aC h1.2.1 <| aC h1.2.2 <| aC (qf1 _ _ _ : List.replicate (coefs.length : Int).toNat (qaA (qaB.mk false [])) = (List.replicate (coefs.length : Int).toNat ((qaB.mk false []) : qaB)).map qaA) <| aC (qaT coefs qeT) <| aC r0 <| aC (by simp : (coefs.length : Int).toNat = (List.replicate (coefs.length : Int).toNat ((qaB.mk false []) : qaB)).length) <| aN) (ih _ _ h cx hn)
theorem unipoly_Of_c1 {K} (ih : unipoly_Of_H K) {cx} (hn : cx.n = 24) {r8 t9 t10 t11} {r} (h : qeY (K + 1) (.c1 r8 t9 t10 t11) = some r) : unipoly_Of_S cx (.c1 r8 t9 t10 t11) r := by
  rw [qeY] at h
  rcases qaK h with ⟨h1, h⟩ | ⟨h1, h⟩
  · skip
    obtain ⟨x2, h3, h⟩ := qaH h
    obtain ⟨x4, h5, h⟩ := qaH h
    obtain ⟨x6, h7, h⟩ := qaH h
    exact qaU (fuel := 90) [.go, rgG [oo], .br true, rgG [oo, opI (.ix (qeT x2)), oo, oo, oo], rgG [oo, oo, oo, opI (.call [[0]] [(ti .i64 x2)] (TV.agg (qaA x4))), .op .ir, opI (.st (qaA x6) ((r8.set (t11.toNat) x4).map qaA))], rgG [oo, oo], .pre [.rl 3 0 (r8.set (t11.toNat) x4).length, .keep [3,9,10,11] [8]]] _ hn (by kernel_rfl) (aC h1 <| aC (qa0 h3) <| aC (qbH qeT h3) <| aC (qfH h5) <| aC (qa0 h7) <| aC (qcH h7 (by simp) : t11 < ((r8.length : Nat) : Int)) <| aC (qcG qaA h7 : (r8.map qaA)[(0 + t11.toNat)]? = some (qaA x6)) <| aC (qc7 _ _ x4 _ : (r8.map qaA).set (0 + t11.toNat) (qbY (qaA x6) 0 [(T.bool x4.Neg), (T.sl 1 (x4.Abs.map qaC))]) = (r8.set (t11.toNat) x4).map qaA) <| aC (Nat.zero_le _ : 0 ≤ (0 + t11.toNat)) <| aC r0 <| aC (by simp : r8.length = (r8.set (t11.toNat) x4).length) <| aN) (ih _ _ h cx hn)
  · skip
    obtain ⟨x2, h3, h⟩ := qaH h
    have h := Option.some.inj h; subst h
    exact qaN (fuel := 78) [.go, rgG [oo], .br false, rgG [oo, .snap 22 (max 0 (0 + r8.length)) (r8.map qaA), opI (.call [[2]] [(tl 2 r8 qaA)] (tl 2 x2 qaA)), oo]] _ hn (by kernel_rfl) (aC h1 <| aC (qbI _ _ _ (by simp) : ((r8.map qaA).drop 0).take r8.length = r8.map qaA) <| aC (rfl : (max 0 (0 + r8.length)) = (max 0 (0 + r8.length))) <| aC (qbF h3) <| aN)
theorem unipoly_Of_all : ∀ K : Nat, unipoly_Of_H K
  | 0, c, r, h => by rw [qeY] at h; cases h
  | K + 1, .c0 .., r, h => fun cx hn => unipoly_Of_c0 (unipoly_Of_all K) hn h
  | K + 1, .c1 .., r, h => fun cx hn => unipoly_Of_c1 (unipoly_Of_all K) hn h
theorem qfF {K : Nat} {coefs : (List Int)} {r : (List qaB)} (h : qo3 K coefs = some r) : qcX prog 51 [(tl 1 coefs qeT)] (tl 2 r qaA) :=
  qa2 [[2]] (by kernel_rfl) (by simp) fun cx hn => unipoly_Of_all K (.c0 coefs) r h cx hn
end Go.Am.X
namespace Go.Am.X
open Go.Proofs.Try (prog)
inductive qlB where
  | c0 (f : (List qaB))
def qhJ : Nat → qlB → Option Int
  | 0, _ => none
  | K + 1, .c0 f =>
    (qdU K f).bind fun x1 =>
    some (wI6 ((x1.length : Int) - (1 : Int)))
def qrZ (K : Nat) (f : (List qaB)) : Option Int := qhJ K (.c0 f)
noncomputable def unipoly_Degree_body : Code := qbN prog 99
noncomputable def unipoly_Degree_pos : qlB → List Fr
  | .c0 .. => [.code unipoly_Degree_body]
def unipoly_Degree_st : qlB → St
  | .c0 f => St.init [(tl 2 f qaA)]
def unipoly_Degree_S (cx : Cx) (c : qlB) (r : Int) : Prop := Wk prog cx (qcT prog 99 [[0]] (ti .i64 r)) (unipoly_Degree_pos c) .normal (unipoly_Degree_st c)
abbrev unipoly_Degree_H (K : Nat) : Prop := ∀ c r, qhJ K c = some r → ∀ cx : Cx, cx.n = 7 → unipoly_Degree_S cx c r
theorem unipoly_Degree_c0 {K} (_ : unipoly_Degree_H K) {cx} (hn : cx.n = 7) {f} {r} (h : qhJ (K + 1) (.c0 f) = some r) : unipoly_Degree_S cx (.c0 f) r := by
  rw [qhJ] at h
  obtain ⟨x1, h2, h⟩ := qaH h
  have h := Option.some.inj h; subst h
  exact qaN (fuel := 54) [rgG [oo], rgG [oo, opI (.call [[2]] [(tl 2 f qaA)] (tl 2 x1 qaA)), opI (.ln (x1.length : Int)), oo, oo]] _ hn (by kernel_rfl) (aC (qbF h2) <| aC (qaT x1 qaA) <| aN)
theorem qvI : ∀ K : Nat, unipoly_Degree_H K
  | 0, c, r, h => by rw [qhJ] at h; cases h
  | K + 1, .c0 .., r, h => fun cx hn => unipoly_Degree_c0 (qvI K) hn h
theorem unipoly_Degree_holds {K : Nat} {f : (List qaB)} {r : Int} (h : qrZ K f = some r) : qcX prog 99 [(tl 2 f qaA)] (ti .i64 r) :=
  qa2 [[0]] (by kernel_rfl) (by simp) fun cx hn => qvI K (.c0 f) r h cx hn
end Go.Am.X
namespace Go.Am.X
def tz : List Int → List Int
  | [] => []
  | a :: l => match tz l with
    | [] => if a = 0 then [] else [a]
    | b :: r => a :: b :: r
theorem co_tz (l : List Int) : co (tz l) = co l := by
  induction l with
  | nil => rfl
  | cons a l ih =>
    funext k
    simp only [tz]
    split
    · rename_i h
      rw [h] at ih
      split
      · rename_i h0
        cases k with
        | zero => simp [h0]
        | succ k => have := congrFun ih k; simp at this; simp [← this]
      · cases k with
        | zero => simp
        | succ k => have := congrFun ih k; simp at this; simp [← this]
    · rename_i b r h
      rw [h] at ih
      cases k with
      | zero => simp
      | succ k => rw [co_succ, co_succ, ih]
theorem tz_nil_iff (l : List Int) : tz l = [] ↔ ∀ k, co l k = 0 := by
  constructor
  · intro h k; rw [← co_tz, h]; simp
  · intro h
    induction l with
    | nil => rfl
    | cons a l ih =>
      have h0 := h 0
      have := ih (fun k => by have := h (k + 1); simpa using this)
      simp only [tz, this]
      simp at h0
      simp [h0]
theorem tz_ext : ∀ (f g : List Int), co f = co g → tz f = tz g
  | [], g, h => by
    symm; show tz g = []
    rw [tz_nil_iff]; intro k; rw [← h]; simp
  | f, [], h => by
    show tz f = []
    rw [tz_nil_iff]; intro k; rw [h]; simp
  | a :: f, b :: g, h => by
    have h0 : a = b := by have := congrFun h 0; simpa using this
    have h1 : co f = co g := by funext k; have := congrFun h (k + 1); simpa using this
    simp only [tz, tz_ext f g h1, h0]
theorem tz_tz (l : List Int) : tz (tz l) = tz l := tz_ext _ _ (co_tz l)
theorem tz_len (l : List Int) : (tz l).length ≤ l.length := by
  induction l with
  | nil => simp [tz]
  | cons a l ih =>
    simp only [tz]
    split
    · split <;> simp
    · rename_i b r h; rw [h] at ih; simp at ih ⊢; omega
theorem tz_last (l : List Int) : ∀ x, (tz l).getLast? = some x → x ≠ 0 := by
  induction l with
  | nil => intro x h; simp [tz] at h
  | cons a l ih =>
    intro x h
    simp only [tz] at h
    split at h
    · split at h
      · simp at h
      · simp at h; subst h; assumption
    · rename_i b r h2
      rw [List.getLast?_cons_cons, ← h2] at h
      exact ih x h
theorem tz_of_last : ∀ (l : List Int), (∀ x, l.getLast? = some x → x ≠ 0) → tz l = l
  | [], _ => rfl
  | [a], h => by simp [tz, h a rfl]
  | a :: b :: l, h => by
    have := tz_of_last (b :: l) (fun x hx => h x (by rw [List.getLast?_cons_cons]; exact hx))
    simp only [tz] at this ⊢
    rw [this]
theorem qpF : ∀ (l : List Int), tz l = l.take (tz l).length
  | [] => rfl
  | a :: l => by
    have ih := qpF l
    simp only [tz]
    split
    · split <;> simp
    · rename_i b r h
      rw [h] at ih
      simp only [List.length_cons, List.take_succ_cons] at ih ⊢
      rw [← ih]
theorem tz_mem {l : List Int} {x : Int} (h : x ∈ tz l) : x ∈ l := by rw [qpF] at h; exact List.mem_of_mem_take h
theorem tz_len_of {l : List Int} {n : Nat} (hn : n ≤ l.length) (hz : ∀ k, n ≤ k → co l k = 0) (h : n ≠ 0 → co l (n - 1) ≠ 0) : (tz l).length = n := by
  have e : tz l = l.take n := by
    rw [← tz_of_last (l.take n)]
    · refine tz_ext _ _ ?_
      funext k
      by_cases hk : k < n
      · rw [qqS (by omega), qqS (by simp; omega)]; simp
      · rw [hz k (by omega), qgH (by simp; omega)]
    · intro x hx
      by_cases h0 : n = 0
      · subst h0; simp at hx
      · rw [List.getLast?_take, if_neg h0, List.getElem?_eq_getElem (by omega)] at hx
        simp at hx
        subst hx
        have := h h0
        rwa [qqS (by omega)] at this
  rw [e, List.length_take]; omega
def pv (f : List qaB) : List Int := f.map ival
def mkP (l : List Int) : List qaB := l.map mkI
def Wf (f : List qaB) : Prop := ∀ a ∈ f, Dig a.Abs ∧ a.Abs.length ≤ 17179869184
theorem qpG (l : List Int) : pv (mkP l) = l := by
  unfold pv mkP
  rw [List.map_map]
  exact (List.map_congr_left fun x _ => qd5 x).trans (List.map_id l)
theorem qfC (f : List qaB) : (pv f).length = f.length := by simp [pv]
theorem qhB (l : List Int) : (mkP l).length = l.length := by simp [mkP]
theorem pv_take (f : List qaB) (n : Nat) : pv (f.take n) = (pv f).take n := by simp [pv]
theorem mkP_take (f : List Int) (n : Nat) : mkP (f.take n) = (mkP f).take n := by simp [mkP]
theorem wf_take {f : List qaB} (h : Wf f) (n : Nat) : Wf (f.take n) := fun a ha => h a (List.mem_of_mem_take ha)
theorem wf_get {f : List qaB} (h : Wf f) {i : Nat} (hi : i < f.length) : Dig f[i].Abs ∧ f[i].Abs.length ≤ 17179869184 := h _ (List.getElem_mem hi)
theorem co_pv {f : List qaB} {i : Nat} (hi : i < f.length) : co (pv f) i = ival f[i] := by rw [qqS (by rw [qfC]; exact hi)]; simp [pv]
theorem wf_nil : Wf [] := fun _ h => by cases h
theorem wf_mkP {l : List Int} {n : Nat} (hn : n ≤ 17179869184) (h : ∀ x ∈ l, -(4294967296 ^ n) < x ∧ x < 4294967296 ^ n) : Wf (mkP l) := by
  intro a ha
  obtain ⟨x, hx, rfl⟩ := List.mem_map.1 ha
  have := mkI_len (h x hx).1 (h x hx).2
  exact ⟨qjH x, by omega⟩
theorem unipoly_trim_v2 {f : List qaB} {n : Nat} (hn : n ≤ f.length) : Ev (fun K => qcJ K (.c2 f n)) (f.take n) := by
  refine qaS ?_
  simp only [qcJ]
  by_cases h : n = 0
  · subst h; exact ev_t (by simp) (qa3 _)
  · refine ev_f (by simpa using h) (qjP (by omega) (qe5 (qa3 _) ?_))
    rw [Int.toNat_natCast]
theorem unipoly_trim_v1 {f : List qaB} (hf : Wf f) (hs : f.length < 4611686018427387904) : ∀ {n : Nat}, n ≤ f.length → (∀ k, n ≤ k → co (pv f) k = 0) → Ev (fun K => qcJ K (.c1 f n)) (f.take (tz (pv f)).length)
  | 0, hn, hz => by
    refine qaS ?_
    simp only [qcJ]
    rw [tz_len_of (n := 0) (by simp) (fun k _ => hz k (by omega)) (fun h => absurd rfl h)]
    exact ev_f (by simp) (unipoly_trim_v2 (Nat.zero_le _))
  | n + 1, hn, hz => by
    refine qaS ?_
    simp only [qcJ]
    refine ev_t (by simp) ?_
    rw [qdN (by omega), show ((n + 1 : Nat) : Int) - 1 = (n : Int) by omega]
    have hg := wf_get hf (show n < f.length by omega)
    refine qb6 (qc0 (by omega)) (qaP (qrA hg.1 (by omega)) ?_)
    have hc := co_pv (show n < f.length by omega)
    have hv := qsT _ hg.1
    by_cases h : val (f[n]'(by omega)).Abs = 0
    · refine ev_t (by simpa using h) (unipoly_trim_v1 hf hs (by omega) fun k hk => ?_)
      by_cases hkn : k = n
      · subst hkn; rw [hc]; omega
      · exact hz k (by omega)
    · refine ev_f (by simpa using h) ?_
      rw [tz_len_of (n := n + 1) (by rw [qfC]; omega) hz (fun _ => by rw [Nat.add_sub_cancel, hc]; omega)]
      exact unipoly_trim_v2 hn
theorem qdX {f : List qaB} (hf : Wf f) (hs : f.length < 4611686018427387904) : Ev (fun K => qdU K f) (f.take (tz (pv f)).length) := by
  refine qaS ?_
  simp only [qdU, qcJ]
  exact unipoly_trim_v1 hf hs (Nat.le_refl _) (fun k hk => qgH (by rw [qfC]; exact hk))
theorem qh5 {l : List Int} (hf : Wf (mkP l)) (hs : l.length < 4611686018427387904) : Ev (fun K => qdU K (mkP l)) (mkP (tz l)) := by
  have := qdX hf (by rw [qhB]; exact hs)
  rw [qpG, ← mkP_take, ← qpF] at this
  exact this
theorem fill_set {α : Type} {l : List α} {z x : α} {i n : Nat} (hn : n = l.length) (hx : l[i]? = some x) : (l.take i ++ List.replicate (n - i) z).set i x = l.take (i + 1) ++ List.replicate (n - (i + 1)) z := by
  subst hn
  obtain ⟨h, rfl⟩ := List.getElem?_eq_some_iff.1 hx
  have h1 : (l.take i).length = i := by simp; omega
  rw [show l.length - i = (l.length - (i + 1)) + 1 by omega, List.replicate_succ, List.set_append, if_neg (by omega), h1, Nat.sub_self, List.set_cons_zero, List.take_add_one, List.getElem?_eq_getElem h, Option.toList_some, List.append_assoc]
  rfl
theorem fill_gi {α : Type} {l : List α} {z : α} {i n : Nat} (hn : n = l.length) (h : i < n) : gi (l.take i ++ List.replicate (n - i) z) (i : Int) = some z := by
  subst hn
  refine gi_get ?_
  have h1 : (l.take i).length = i := by simp; omega
  rw [List.getElem?_append_right (by omega), h1, Nat.sub_self, List.getElem?_replicate, if_pos (by omega)]
theorem fill_end {α : Type} {l : List α} {z : α} {i n : Nat} (hn : n = l.length) (h : i = n) : l.take i ++ List.replicate (n - i) z = l := by subst hn; subst h; simp
theorem mkP_get {l : List Int} {i : Nat} {x : Int} (h : l[i]? = some x) : (mkP l)[i]? = some (mkI x) := by simp [mkP, h]
theorem unipoly_Normal_v1 {f : List qaB} (hf : Wf f) (l : List Int) (hl : l = (pv f).take l.length) (hs : f.length < 4398046511104) : ∀ (m i : Nat), i + m = l.length →
    Ev (fun K => qc6 K (.c1 ((mkP l).take i ++ List.replicate (l.length - i) ⟨false, []⟩) f l.length i)) (mkP (tz l))
  | 0, i, hi => by
    have hlf : l.length ≤ f.length := by rw [hl, List.length_take, qfC]; omega
    refine qaS ?_
    simp only [qc6]
    refine ev_f (by simp; omega) ?_
    rw [fill_end (qhB l).symm (by omega)]
    refine qaP (qh5 ?_ (by omega)) (qa3 _)
    intro a ha
    obtain ⟨x, hx, rfl⟩ := List.mem_map.1 ha
    rw [hl] at hx
    obtain ⟨y, hy, rfl⟩ := List.mem_map.1 (List.mem_of_mem_take hx)
    refine ⟨qjH _, ?_⟩
    have h1 := hf y hy
    have h2 := qd4 h1.1
    rw [qsT y h1.1] at h2
    have : (mkI (ival y)).Abs = digs (ival y).natAbs := rfl
    rw [this]; omega
  | m + 1, i, hi => by
    have hlf : l.length ≤ f.length := by rw [hl, List.length_take, qfC]; omega
    refine qaS ?_
    simp only [qc6]
    refine ev_t (by simp; omega) ?_
    have hif : i < f.length := by omega
    have hg := wf_get hf hif
    refine qb6 (qc0 hif) (qaP (integer_Normal_ev hg.1 (by omega)) (qb6 (fill_gi (qhB l).symm (by omega)) ?_))
    · have e : ival f[i] = l[i]'(by omega) := by
        have h1 : l[i]'(by omega) = ((pv f).take l.length)[i]'(by rw [← hl]; omega) := by congr 1
        rw [h1, List.getElem_take]; simp [pv]
      rw [e, Int.toNat_natCast, fill_set (qhB l).symm (mkP_get (List.getElem?_eq_getElem (by omega))), qdN (by omega), show (i : Int) + 1 = ((i + 1 : Nat) : Int) by omega]
      exact unipoly_Normal_v1 hf l hl hs m (i + 1) (by omega)
theorem unipoly_Normal_ev {f : List qaB} (hf : Wf f) (hs : f.length < 4398046511104) : Ev (fun K => qnE K f) (mkP (tz (pv f))) := by
  refine qaS ?_
  simp only [qnE, qc6]
  have hle := tz_len (pv f)
  rw [qfC] at hle
  have hlt : (f.take (tz (pv f)).length).length = (tz (pv f)).length := by rw [List.length_take]; omega
  refine qaP (qdX hf (by omega)) (qjP (by rw [hlt]; omega) ?_)
  rw [hlt, Int.toNat_natCast]
  have := unipoly_Normal_v1 hf (tz (pv f)) (qpF _) hs _ 0 (Nat.zero_add _)
  rw [tz_tz] at this
  simpa using this
theorem unipoly_Of_v1 (l : List Int) (hb : ∀ x ∈ l, -9223372036854775808 ≤ x ∧ x < 9223372036854775808) (hs : l.length < 4398046511104) : ∀ (m i : Nat), i + m = l.length →
    Ev (fun K => qeY K (.c1 ((mkP l).take i ++ List.replicate (l.length - i) ⟨false, []⟩) l l.length i)) (mkP (tz l))
  | 0, i, hi => by
    refine qaS ?_
    simp only [qeY]
    refine ev_f (by simp; omega) ?_
    rw [fill_end (qhB l).symm (by omega)]
    exact qaP (qh5 (wf_mkP (n := 2) (by omega) (fun x hx => by have := hb x hx; omega)) (by omega)) (qa3 _)
  | m + 1, i, hi => by
    refine qaS ?_
    simp only [qeY]
    refine ev_t (by simp; omega) ?_
    have hil : i < l.length := by omega
    refine qb6 (qc0 hil) (qaP (qqG (hb _ (List.getElem_mem hil))) (qb6 (fill_gi (qhB l).symm (by omega)) ?_))
    rw [Int.toNat_natCast, fill_set (qhB l).symm (mkP_get (List.getElem?_eq_getElem (by omega))), qdN (by omega), show (i : Int) + 1 = ((i + 1 : Nat) : Int) by omega]
    exact unipoly_Of_v1 l hb hs m (i + 1) (by omega)
theorem unipoly_Of_ev (l : List Int) (hb : ∀ x ∈ l, -9223372036854775808 ≤ x ∧ x < 9223372036854775808) (hs : l.length < 4398046511104) : Ev (fun K => qo3 K l) (mkP (tz l)) := by
  refine qaS ?_
  simp only [qo3, qeY]
  refine qjP (by omega) ?_
  have := unipoly_Of_v1 l hb hs _ 0 (Nat.zero_add _)
  rw [Int.toNat_natCast]
  simpa using this
theorem unipoly_Degree_ev {f : List qaB} (hf : Wf f) (hs : f.length < 4611686018427387904) : Ev (fun K => qrZ K f) ((tz (pv f)).length - 1 : Int) := by
  refine qaS ?_
  simp only [qrZ, qhJ]
  have hle := tz_len (pv f)
  rw [qfC] at hle
  refine qaP (qdX hf hs) (qe5 (qa3 _) ?_)
  rw [List.length_take, Nat.min_eq_left (by omega), qdN (by omega)]
end Go.Am.X
namespace Go.Am.X
open Go.Proofs.Try (prog)
inductive qnW where
  | c0 (f : (List qaB))
def qi5 : Nat → qnW → Option qaB
  | 0, _ => none
  | K + 1, .c0 f =>
    (qdU K f).bind fun x1 =>
    bif (decide ((x1.length : Int) = (0 : Int))) then
      some (qaB.mk false [])
    else
      (gi x1 (wI6 ((x1.length : Int) - (1 : Int)))).bind fun x4 =>
      (qiP K x4).bind fun x6 =>
      some x6
def qsD (K : Nat) (f : (List qaB)) : Option qaB := qi5 K (.c0 f)
noncomputable def unipoly_Lead_body : Code := qbN prog 113
noncomputable def unipoly_Lead_pos : qnW → List Fr
  | .c0 .. => [.code unipoly_Lead_body]
def unipoly_Lead_st : qnW → St
  | .c0 f => St.init [(tl 2 f qaA)]
def unipoly_Lead_S (cx : Cx) (c : qnW) (r : qaB) : Prop := Wk prog cx (qcT prog 113 [[0,1]] (TV.agg (qaA r))) (unipoly_Lead_pos c) .normal (unipoly_Lead_st c)
abbrev unipoly_Lead_H (K : Nat) : Prop := ∀ c r, qi5 K c = some r → ∀ cx : Cx, cx.n = 16 → unipoly_Lead_S cx c r
theorem unipoly_Lead_c0 {K} (_ : unipoly_Lead_H K) {cx} (hn : cx.n = 16) {f} {r} (h : qi5 (K + 1) (.c0 f) = some r) : unipoly_Lead_S cx (.c0 f) r := by
  rw [qi5] at h
  obtain ⟨x1, h2, h⟩ := qaH h
  rcases qaK h with ⟨h3, h⟩ | ⟨h3, h⟩
  · skip
    have h := Option.some.inj h; subst h
    exact qaN (fuel := 80) [rgG [oo], rgG [oo, opI (.call [[2]] [(tl 2 f qaA)] (tl 2 x1 qaA)), oo], rgG [oo, opI (.ln (x1.length : Int)), oo], .br true, rgG [oo, oo]] _ hn (by kernel_rfl) (aC (qbF h2) <| aC (qaT x1 qaA) <| aC h3 <| aN)
  · skip
    obtain ⟨x4, h5, h⟩ := qaH h
    obtain ⟨x6, h7, h⟩ := qaH h
    have h := Option.some.inj h; subst h
    exact qaN (fuel := 80) [rgG [oo], rgG [oo, opI (.call [[2]] [(tl 2 f qaA)] (tl 2 x1 qaA)), oo], rgG [oo, opI (.ln (x1.length : Int)), oo], .br false, rgG [oo, oo, opI (.ln (x1.length : Int)), oo, opI (.ix (qaA x4)), oo, opI (.call [[0,1]] [(TV.agg (qaA x4))] (TV.agg (qaA x6))), oo]] _ hn (by kernel_rfl) (aC (qbF h2) <| aC (qaT x1 qaA) <| aC h3 <| aC (qaT x1 qaA) <| aC (qa0 h5) <| aC (qbH qaA h5) <| aC (qiY h7) <| aN)
theorem unipoly_Lead_all : ∀ K : Nat, unipoly_Lead_H K
  | 0, c, r, h => by rw [qi5] at h; cases h
  | K + 1, .c0 .., r, h => fun cx hn => unipoly_Lead_c0 (unipoly_Lead_all K) hn h
theorem qk8 {K : Nat} {f : (List qaB)} {r : qaB} (h : qsD K f = some r) : qcX prog 113 [(tl 2 f qaA)] (TV.agg (qaA r)) :=
  qa2 [[0,1]] (by kernel_rfl) (by simp) fun cx hn => unipoly_Lead_all K (.c0 f) r h cx hn
end Go.Am.X
