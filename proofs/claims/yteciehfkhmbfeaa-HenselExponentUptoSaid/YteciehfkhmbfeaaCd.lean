/- Part 4 of the proof: Fn_modular_Add .. Fn_unipoly_Sub. -/
import Derived.Test.YteciehfkhmbfeaaCb
import Derived.Test.YteciehfkhmbfeaaCc
namespace Go.Am.X
open Go.Proofs.Try (prog)


inductive modular_Add_Cut where
  | c0 (a : Int) (b : Int) (m : Int)

def modular_Add_go : Nat → modular_Add_Cut → Option Int
  | 0, _ => none
  | K + 1, .c0 a b m =>
    (modular_wide K m).bind fun x1 =>
    gd (x1 ≠ 0) <|
    some (IntKind.u32.wrap (Int.tmod (IntKind.u64.wrap ((IntKind.u64.wrap a) + (IntKind.u64.wrap b))) x1))

def modular_Add (K : Nat) (a : Int) (b : Int) (m : Int) : Option Int := modular_Add_go K (.c0 a b m)

noncomputable def modular_Add_body : Code := bodyOf prog 163
noncomputable def modular_Add_pos : modular_Add_Cut → List Fr
  | .c0 .. => [.code modular_Add_body]
def modular_Add_st : modular_Add_Cut → St
  | .c0 a b m => St.init [(ti .u32 a), (ti .u32 b), (ti .u32 m)]

def modular_Add_S (cx : Cx) (c : modular_Add_Cut) (r : Int) : Prop := Wk prog cx (EndsF prog 163 [[0]] (ti .u32 r)) (modular_Add_pos c) .normal (modular_Add_st c)
abbrev modular_Add_H (K : Nat) : Prop := ∀ c r, modular_Add_go K c = some r → ∀ cx : Cx, cx.n = 16 → modular_Add_S cx c r

theorem modular_Add_c0 {K} (_ : modular_Add_H K) {cx} (hn : cx.n = 16) {a b m} {r} (h : modular_Add_go (K + 1) (.c0 a b m) = some r) : modular_Add_S cx (.c0 a b m) r := by
  rw [modular_Add_go] at h
  obtain ⟨x1, h2, h⟩ := obind h
  obtain ⟨h3, h⟩ := gd_some h
  have h := Option.some.inj h; subst h
  exact wk_ret (fuel := 54) [.reg [oo], .reg [oo, oo, oo, oo, oo, oo, .op (.call [[0]] [(ti .u32 m)] (ti .u64 x1)), .op .dv, oo, oo]] _ hn (by kernel_rfl) (aC (modular_wide_holds h2) <| aC h3 <| aN)

theorem modular_Add_all : ∀ K : Nat, modular_Add_H K
  | 0, c, r, h => by rw [modular_Add_go] at h; cases h
  | K + 1, .c0 .., r, h => fun cx hn => modular_Add_c0 (modular_Add_all K) hn h

theorem modular_Add_holds {K : Nat} {a : Int} {b : Int} {m : Int} {r : Int} (h : modular_Add K a b m = some r) : Holds prog 163 [(ti .u32 a), (ti .u32 b), (ti .u32 m)] (ti .u32 r) :=
  holds_wk [[0]] (by kernel_rfl) (by simp) fun cx hn => modular_Add_all K (.c0 a b m) r h cx hn
end Go.Am.X
namespace Go.Am.X
open Go.Proofs.Try (prog)


inductive modpoly_Normal_Cut where
  | c0 (f : (List Int)) (m : Int)
  | c1 (r9 : (List Int)) (f : (List Int)) (m : Int) (t11 : Int) (t12 : Int)

def modpoly_Normal_go : Nat → modpoly_Normal_Cut → Option (List Int)
  | 0, _ => none
  | K + 1, .c0 f m =>
    gd (0 ≤ (f.length : Int) ∧ (f.length : Int) ≤ (f.length : Int) ∧ (4 : Int) * (f.length : Int) ≤ 140737488355328) <|
    modpoly_Normal_go K (.c1 (List.replicate (f.length : Int).toNat ((0 : Int) : Int)) f m (f.length : Int) (0 : Int))
  | K + 1, .c1 r9 f m t11 t12 =>
    bif (decide (t12 < t11)) then
      (gi f t12).bind fun x2 =>
      (modular_Add K x2 (0 : Int) m).bind fun x4 =>
      (gi r9 t12).bind fun _ =>
      modpoly_Normal_go K (.c1 (r9.set (t12.toNat) x4) f m t11 (IntKind.i64.wrap (t12 + (1 : Int))))
    else
      (modpoly_trim K r9).bind fun x2 =>
      some x2

def modpoly_Normal (K : Nat) (f : (List Int)) (m : Int) : Option (List Int) := modpoly_Normal_go K (.c0 f m)

noncomputable def modpoly_Normal_body : Code := bodyOf prog 161
noncomputable def modpoly_Normal_pos : modpoly_Normal_Cut → List Fr
  | .c0 .. => [.code modpoly_Normal_body]
  | .c1 .. => [.code (.loop (atC modpoly_Normal_body [1,1,0,1,0,0])), .blk 0, .code (atC modpoly_Normal_body [1,1,1])]
def modpoly_Normal_st : modpoly_Normal_Cut → St
  | .c0 f m => St.init [(tl 1 f ce_u32), (ti .u32 m)]
  | .c1 r9 f m t11 t12 => ⟨[(0, vl 1 f ce_u32), (1, vi .u32 m), (5, .c (C.row 9 0 r9.length)), (11, vi .i64 t11), (12, vi .i64 t12)], [(9, .row 101 1 (r9.map ce_u32) 0)], []⟩

def modpoly_Normal_S (cx : Cx) (c : modpoly_Normal_Cut) (r : (List Int)) : Prop := Wk prog cx (EndsF prog 161 [[1]] (tl 1 r ce_u32)) (modpoly_Normal_pos c) .normal (modpoly_Normal_st c)
abbrev modpoly_Normal_H (K : Nat) : Prop := ∀ c r, modpoly_Normal_go K c = some r → ∀ cx : Cx, cx.n = 27 → modpoly_Normal_S cx c r

theorem modpoly_Normal_c0 {K} (ih : modpoly_Normal_H K) {cx} (hn : cx.n = 27) {f m} {r} (h : modpoly_Normal_go (K + 1) (.c0 f m) = some r) : modpoly_Normal_S cx (.c0 f m) r := by
  rw [modpoly_Normal_go] at h
  obtain ⟨h1, h⟩ := gd_some h
  exact wk_go (fuel := 64) [.reg [oo], .reg [oo, .op (.ln (f.length : Int)), .op (.mk (ce_u32 (0 : Int)) ((List.replicate (f.length : Int).toNat ((0 : Int) : Int)).map ce_u32)), oo], .reg [oo, .op (.ln (f.length : Int)), oo], .pre [.rl 5 0 (List.replicate (f.length : Int).toNat ((0 : Int) : Int)).length, .keep [0,1,5,11,12] [9]]] _ hn (by kernel_rfl) (aC (ln_eq f ce_u32) <| aC h1.1 <| aC h1.2.1 <| aC h1.2.2 <| aC (rep_map _ _ _ : List.replicate (f.length : Int).toNat (ce_u32 (0 : Int)) = (List.replicate (f.length : Int).toNat ((0 : Int) : Int)).map ce_u32) <| aC (ln_eq f ce_u32) <| aC r0 <| aC (by simp : (f.length : Int).toNat = (List.replicate (f.length : Int).toNat ((0 : Int) : Int)).length) <| aN) (ih _ _ h cx hn)

theorem modpoly_Normal_c1 {K} (ih : modpoly_Normal_H K) {cx} (hn : cx.n = 27) {r9 f m t11 t12} {r} (h : modpoly_Normal_go (K + 1) (.c1 r9 f m t11 t12) = some r) : modpoly_Normal_S cx (.c1 r9 f m t11 t12) r := by
  rw [modpoly_Normal_go] at h
  rcases bcases h with ⟨h1, h⟩ | ⟨h1, h⟩
  · skip
    obtain ⟨x2, h3, h⟩ := obind h
    obtain ⟨x4, h5, h⟩ := obind h
    obtain ⟨x6, h7, h⟩ := obind h
    exact wk_go (fuel := 90) [.go, .reg [oo], .br true, .reg [oo, oo], .reg [oo, oo, oo, oo, .op (.ix (ce_u32 x2)), oo, oo, .op (.call [[0], [0], [0]] [(ti .u32 x2), (TV.c (T.int .u32 (0 : Int))), (ti .u32 m)] (ti .u32 x4)), .op .ir, .op (.st (ce_u32 x6) ((r9.set (t12.toNat) x4).map ce_u32))], .reg [oo, oo], .pre [.rl 5 0 (r9.set (t12.toNat) x4).length, .keep [0,1,5,11,12] [9]]] _ hn (by kernel_rfl) (aC h1 <| aC (gi_nn h3) <| aC (gi_at ce_u32 h3) <| aC (modular_Add_holds h5) <| aC (gi_nn h7) <| aC (gi_lt2 h7 (by simp) : t12 < ((r9.length : Nat) : Int)) <| aC (gi_row ce_u32 h7 : (r9.map ce_u32)[(0 + t12.toNat)]? = some (ce_u32 x6)) <| aC (set_map _ _ x4 _ : (r9.map ce_u32).set (0 + t12.toNat) (splice (ce_u32 x6) 0 [(T.int .u32 x4)]) = (r9.set (t12.toNat) x4).map ce_u32) <| aC (Nat.zero_le _ : 0 ≤ (0 + t12.toNat)) <| aC r0 <| aC (by simp : r9.length = (r9.set (t12.toNat) x4).length) <| aN) (ih _ _ h cx hn)
  · skip
    obtain ⟨x2, h3, h⟩ := obind h
    have h := Option.some.inj h; subst h
    exact wk_ret (fuel := 78) [.go, .reg [oo], .br false, .reg [oo, .snap 25 (max 0 (0 + r9.length)) (r9.map ce_u32), .op (.call [[1]] [(tl 1 r9 ce_u32)] (tl 1 x2 ce_u32)), oo]] _ hn (by kernel_rfl) (aC h1 <| aC (sn_map _ _ _ (by simp) : ((r9.map ce_u32).drop 0).take r9.length = r9.map ce_u32) <| aC (rfl : (max 0 (0 + r9.length)) = (max 0 (0 + r9.length))) <| aC (modpoly_trim_holds h3) <| aN)

theorem modpoly_Normal_all : ∀ K : Nat, modpoly_Normal_H K
  | 0, c, r, h => by rw [modpoly_Normal_go] at h; cases h
  | K + 1, .c0 .., r, h => fun cx hn => modpoly_Normal_c0 (modpoly_Normal_all K) hn h
  | K + 1, .c1 .., r, h => fun cx hn => modpoly_Normal_c1 (modpoly_Normal_all K) hn h

theorem modpoly_Normal_holds {K : Nat} {f : (List Int)} {m : Int} {r : (List Int)} (h : modpoly_Normal K f m = some r) : Holds prog 161 [(tl 1 f ce_u32), (ti .u32 m)] (tl 1 r ce_u32) :=
  holds_wk [[1]] (by kernel_rfl) (by simp) fun cx hn => modpoly_Normal_all K (.c0 f m) r h cx hn
end Go.Am.X
namespace Go.Am.X
open Go.Proofs.Try (prog)


inductive modpoly_Degree_Cut where
  | c0 (f : (List Int)) (m : Int)

def modpoly_Degree_go : Nat → modpoly_Degree_Cut → Option Int
  | 0, _ => none
  | K + 1, .c0 f m =>
    (modpoly_Normal K f m).bind fun x1 =>
    some (IntKind.i64.wrap ((x1.length : Int) - (1 : Int)))

def modpoly_Degree (K : Nat) (f : (List Int)) (m : Int) : Option Int := modpoly_Degree_go K (.c0 f m)

noncomputable def modpoly_Degree_body : Code := bodyOf prog 122
noncomputable def modpoly_Degree_pos : modpoly_Degree_Cut → List Fr
  | .c0 .. => [.code modpoly_Degree_body]
def modpoly_Degree_st : modpoly_Degree_Cut → St
  | .c0 f m => St.init [(tl 1 f ce_u32), (ti .u32 m)]

def modpoly_Degree_S (cx : Cx) (c : modpoly_Degree_Cut) (r : Int) : Prop := Wk prog cx (EndsF prog 122 [[0]] (ti .i64 r)) (modpoly_Degree_pos c) .normal (modpoly_Degree_st c)
abbrev modpoly_Degree_H (K : Nat) : Prop := ∀ c r, modpoly_Degree_go K c = some r → ∀ cx : Cx, cx.n = 10 → modpoly_Degree_S cx c r

theorem modpoly_Degree_c0 {K} (_ : modpoly_Degree_H K) {cx} (hn : cx.n = 10) {f m} {r} (h : modpoly_Degree_go (K + 1) (.c0 f m) = some r) : modpoly_Degree_S cx (.c0 f m) r := by
  rw [modpoly_Degree_go] at h
  obtain ⟨x1, h2, h⟩ := obind h
  have h := Option.some.inj h; subst h
  exact wk_ret (fuel := 54) [.reg [oo], .reg [oo, oo, .op (.call [[1], [0]] [(tl 1 f ce_u32), (ti .u32 m)] (tl 1 x1 ce_u32)), .op (.ln (x1.length : Int)), oo, oo]] _ hn (by kernel_rfl) (aC (modpoly_Normal_holds h2) <| aC (ln_eq x1 ce_u32) <| aN)

theorem modpoly_Degree_all : ∀ K : Nat, modpoly_Degree_H K
  | 0, c, r, h => by rw [modpoly_Degree_go] at h; cases h
  | K + 1, .c0 .., r, h => fun cx hn => modpoly_Degree_c0 (modpoly_Degree_all K) hn h

theorem modpoly_Degree_holds {K : Nat} {f : (List Int)} {m : Int} {r : Int} (h : modpoly_Degree K f m = some r) : Holds prog 122 [(tl 1 f ce_u32), (ti .u32 m)] (ti .i64 r) :=
  holds_wk [[0]] (by kernel_rfl) (by simp) fun cx hn => modpoly_Degree_all K (.c0 f m) r h cx hn
end Go.Am.X
namespace Go.Am.X
open Go.Proofs.Try (prog)


inductive modular_Inverse_Cut where
  | c0 (a : Int) (m : Int)
  | c1 (n : Int) (r_v : Int) (s : Int) (u : Int) (v : Int)

def modular_Inverse_go : Nat → modular_Inverse_Cut → Option (Int × Int)
  | 0, _ => none
  | K + 1, .c0 a m =>
    (modular_wide K m).bind fun x1 =>
    gd ((IntKind.i64.wrap x1) ≠ 0) <|
    modular_Inverse_go K (.c1 (IntKind.i64.wrap x1) (IntKind.i64.wrap x1) (Int.tmod (IntKind.i64.wrap a) (IntKind.i64.wrap x1)) (0 : Int) (1 : Int))
  | K + 1, .c1 n r_v s u v =>
    bif (!decide (s = (0 : Int))) then
      gd (s ≠ 0) <|
      modular_Inverse_go K (.c1 n s (IntKind.i64.wrap (r_v - (IntKind.i64.wrap ((IntKind.i64.wrap (Int.tdiv r_v s)) * s)))) v (IntKind.i64.wrap (u - (IntKind.i64.wrap ((IntKind.i64.wrap (Int.tdiv r_v s)) * v)))))
    else
      bif (!decide (r_v = (1 : Int))) then
        some ((0 : Int), (5 : Int))
      else
        gd (n ≠ 0) <|
        gd (n ≠ 0) <|
        some ((IntKind.u32.wrap (Int.tmod (IntKind.i64.wrap ((Int.tmod u n) + n)) n)), (0 : Int))

def modular_Inverse (K : Nat) (a : Int) (m : Int) : Option (Int × Int) := modular_Inverse_go K (.c0 a m)

noncomputable def modular_Inverse_body : Code := bodyOf prog 159
noncomputable def modular_Inverse_pos : modular_Inverse_Cut → List Fr
  | .c0 .. => [.code modular_Inverse_body]
  | .c1 .. => [.code (.loop (atC modular_Inverse_body [1,1,1,1,0,0,0])), .blk 0, .code (atC modular_Inverse_body [1,1,1,1,1])]
def modular_Inverse_st : modular_Inverse_Cut → St
  | .c0 a m => St.init [(ti .u32 a), (ti .u32 m)]
  | .c1 n r_v s u v => ⟨[(6, vi .i64 n), (7, vi .i64 r_v), (8, vi .i64 s), (9, vi .i64 u), (10, vi .i64 v)], [], []⟩

def modular_Inverse_S (cx : Cx) (c : modular_Inverse_Cut) (r : (Int × Int)) : Prop := Wk prog cx (EndsF prog 159 [[0], [0]] (TV.tup [(false, [(T.int .u32 r.1)]), (false, [(T.int .i64 r.2)])])) (modular_Inverse_pos c) .normal (modular_Inverse_st c)
abbrev modular_Inverse_H (K : Nat) : Prop := ∀ c r, modular_Inverse_go K c = some r → ∀ cx : Cx, cx.n = 47 → modular_Inverse_S cx c r

theorem modular_Inverse_c0 {K} (ih : modular_Inverse_H K) {cx} (hn : cx.n = 47) {a m} {r} (h : modular_Inverse_go (K + 1) (.c0 a m) = some r) : modular_Inverse_S cx (.c0 a m) r := by
  rw [modular_Inverse_go] at h
  obtain ⟨x1, h2, h⟩ := obind h
  obtain ⟨h3, h⟩ := gd_some h
  exact wk_go (fuel := 72) [.reg [oo, oo], .reg [oo, .op (.call [[0]] [(ti .u32 m)] (ti .u64 x1)), oo, oo], .draw [.p, .p, .p, .p, .dv, .p] [.op .p], .reg [oo, oo], .pre [.keep [6,7,8,9,10] []]] _ hn (by kernel_rfl) (aC (modular_wide_holds h2) <| aC h3 <| aN) (ih _ _ h cx hn)

theorem modular_Inverse_c1 {K} (ih : modular_Inverse_H K) {cx} (hn : cx.n = 47) {n r_v s u v} {r} (h : modular_Inverse_go (K + 1) (.c1 n r_v s u v) = some r) : modular_Inverse_S cx (.c1 n r_v s u v) r := by
  rw [modular_Inverse_go] at h
  rcases bcases h with ⟨h1, h⟩ | ⟨h1, h⟩
  · skip
    obtain ⟨h2, h⟩ := gd_some h
    exact wk_go (fuel := 90) [.go, .reg [oo, oo], .br true, .reg [oo, oo, .op .dv, oo], .reg [oo, oo, oo, oo, oo, oo, oo, oo], .reg [oo, oo, oo, oo, oo, oo, oo, oo], .pre [.keep [6,7,8,9,10] []]] _ hn (by kernel_rfl) (aC h1 <| aC h2 <| aN) (ih _ _ h cx hn)
  · skip
    rcases bcases h with ⟨h2, h⟩ | ⟨h2, h⟩
    · skip
      have h := Option.some.inj h; subst h
      exact wk_ret (fuel := 96) [.go, .reg [oo, oo], .br false, .reg [oo, oo], .br true, .reg [oo, oo]] _ hn (by kernel_rfl) (aC h1 <| aC h2 <| aN)
    · skip
      obtain ⟨h3, h⟩ := gd_some h
      obtain ⟨h4, h⟩ := gd_some h
      have h := Option.some.inj h; subst h
      exact wk_ret (fuel := 96) [.go, .reg [oo, oo], .br false, .reg [oo, oo], .br false, .reg [oo, oo, .op .dv, oo, oo, oo, .op .dv, oo, oo, oo]] _ hn (by kernel_rfl) (aC h1 <| aC h2 <| aC h3 <| aC h4 <| aN)

theorem modular_Inverse_all : ∀ K : Nat, modular_Inverse_H K
  | 0, c, r, h => by rw [modular_Inverse_go] at h; cases h
  | K + 1, .c0 .., r, h => fun cx hn => modular_Inverse_c0 (modular_Inverse_all K) hn h
  | K + 1, .c1 .., r, h => fun cx hn => modular_Inverse_c1 (modular_Inverse_all K) hn h

theorem modular_Inverse_holds {K : Nat} {a : Int} {m : Int} {r : (Int × Int)} (h : modular_Inverse K a m = some r) : Holds prog 159 [(ti .u32 a), (ti .u32 m)] (TV.tup [(false, [(T.int .u32 r.1)]), (false, [(T.int .i64 r.2)])]) :=
  holds_wk [[0], [0]] (by kernel_rfl) (by simp) fun cx hn => modular_Inverse_all K (.c0 a m) r h cx hn
end Go.Am.X
namespace Go.Am.X
open Go.Proofs.Try (prog)


inductive modular_Mul_Cut where
  | c0 (a : Int) (b : Int) (m : Int)

def modular_Mul_go : Nat → modular_Mul_Cut → Option Int
  | 0, _ => none
  | K + 1, .c0 a b m =>
    (modular_wide K m).bind fun x1 =>
    gd (x1 ≠ 0) <|
    some (IntKind.u32.wrap (Int.tmod (IntKind.u64.wrap ((IntKind.u64.wrap a) * (IntKind.u64.wrap b))) x1))

def modular_Mul (K : Nat) (a : Int) (b : Int) (m : Int) : Option Int := modular_Mul_go K (.c0 a b m)

noncomputable def modular_Mul_body : Code := bodyOf prog 164
noncomputable def modular_Mul_pos : modular_Mul_Cut → List Fr
  | .c0 .. => [.code modular_Mul_body]
def modular_Mul_st : modular_Mul_Cut → St
  | .c0 a b m => St.init [(ti .u32 a), (ti .u32 b), (ti .u32 m)]

def modular_Mul_S (cx : Cx) (c : modular_Mul_Cut) (r : Int) : Prop := Wk prog cx (EndsF prog 164 [[0]] (ti .u32 r)) (modular_Mul_pos c) .normal (modular_Mul_st c)
abbrev modular_Mul_H (K : Nat) : Prop := ∀ c r, modular_Mul_go K c = some r → ∀ cx : Cx, cx.n = 16 → modular_Mul_S cx c r

theorem modular_Mul_c0 {K} (_ : modular_Mul_H K) {cx} (hn : cx.n = 16) {a b m} {r} (h : modular_Mul_go (K + 1) (.c0 a b m) = some r) : modular_Mul_S cx (.c0 a b m) r := by
  rw [modular_Mul_go] at h
  obtain ⟨x1, h2, h⟩ := obind h
  obtain ⟨h3, h⟩ := gd_some h
  have h := Option.some.inj h; subst h
  exact wk_ret (fuel := 54) [.reg [oo], .reg [oo, oo, oo, oo, oo, oo, .op (.call [[0]] [(ti .u32 m)] (ti .u64 x1)), .op .dv, oo, oo]] _ hn (by kernel_rfl) (aC (modular_wide_holds h2) <| aC h3 <| aN)

theorem modular_Mul_all : ∀ K : Nat, modular_Mul_H K
  | 0, c, r, h => by rw [modular_Mul_go] at h; cases h
  | K + 1, .c0 .., r, h => fun cx hn => modular_Mul_c0 (modular_Mul_all K) hn h

theorem modular_Mul_holds {K : Nat} {a : Int} {b : Int} {m : Int} {r : Int} (h : modular_Mul K a b m = some r) : Holds prog 164 [(ti .u32 a), (ti .u32 b), (ti .u32 m)] (ti .u32 r) :=
  holds_wk [[0]] (by kernel_rfl) (by simp) fun cx hn => modular_Mul_all K (.c0 a b m) r h cx hn
end Go.Am.X
namespace Go.Am.X
open Go.Proofs.Try (prog)


inductive modular_Sub_Cut where
  | c0 (a : Int) (b : Int) (m : Int)

def modular_Sub_go : Nat → modular_Sub_Cut → Option Int
  | 0, _ => none
  | K + 1, .c0 a b m =>
    (modular_wide K m).bind fun x1 =>
    gd (x1 ≠ 0) <|
    gd (x1 ≠ 0) <|
    gd (x1 ≠ 0) <|
    some (IntKind.u32.wrap (Int.tmod (IntKind.u64.wrap ((IntKind.u64.wrap ((Int.tmod (IntKind.u64.wrap a) x1) + x1)) - (Int.tmod (IntKind.u64.wrap b) x1))) x1))

def modular_Sub (K : Nat) (a : Int) (b : Int) (m : Int) : Option Int := modular_Sub_go K (.c0 a b m)

noncomputable def modular_Sub_body : Code := bodyOf prog 184
noncomputable def modular_Sub_pos : modular_Sub_Cut → List Fr
  | .c0 .. => [.code modular_Sub_body]
def modular_Sub_st : modular_Sub_Cut → St
  | .c0 a b m => St.init [(ti .u32 a), (ti .u32 b), (ti .u32 m)]

def modular_Sub_S (cx : Cx) (c : modular_Sub_Cut) (r : Int) : Prop := Wk prog cx (EndsF prog 184 [[0]] (ti .u32 r)) (modular_Sub_pos c) .normal (modular_Sub_st c)
abbrev modular_Sub_H (K : Nat) : Prop := ∀ c r, modular_Sub_go K c = some r → ∀ cx : Cx, cx.n = 24 → modular_Sub_S cx c r

theorem modular_Sub_c0 {K} (_ : modular_Sub_H K) {cx} (hn : cx.n = 24) {a b m} {r} (h : modular_Sub_go (K + 1) (.c0 a b m) = some r) : modular_Sub_S cx (.c0 a b m) r := by
  rw [modular_Sub_go] at h
  obtain ⟨x1, h2, h⟩ := obind h
  obtain ⟨h3, h⟩ := gd_some h
  obtain ⟨h4, h⟩ := gd_some h
  obtain ⟨h5, h⟩ := gd_some h
  have h := Option.some.inj h; subst h
  exact wk_ret (fuel := 62) [.reg [oo], .reg [oo, .op (.call [[0]] [(ti .u32 m)] (ti .u64 x1)), oo], .draw [.p, .p, .p, .dv, .p, .p, .p, .p, .p, .dv, .p, .p] [.op .dv, .op .p, .op .p]] _ hn (by kernel_rfl) (aC (modular_wide_holds h2) <| aC h3 <| aC h4 <| aC h5 <| aN)

theorem modular_Sub_all : ∀ K : Nat, modular_Sub_H K
  | 0, c, r, h => by rw [modular_Sub_go] at h; cases h
  | K + 1, .c0 .., r, h => fun cx hn => modular_Sub_c0 (modular_Sub_all K) hn h

theorem modular_Sub_holds {K : Nat} {a : Int} {b : Int} {m : Int} {r : Int} (h : modular_Sub K a b m = some r) : Holds prog 184 [(ti .u32 a), (ti .u32 b), (ti .u32 m)] (ti .u32 r) :=
  holds_wk [[0]] (by kernel_rfl) (by simp) fun cx hn => modular_Sub_all K (.c0 a b m) r h cx hn
end Go.Am.X
namespace Go.Am.X
open Go.Proofs.Try (prog)


inductive modpoly_divide_Cut where
  | c0 (f : (List Int)) (g : (List Int)) (p : Int)
  | c1 (r17 : (List Int)) (r45 : (List Int)) (g : (List Int)) (p : Int) (inv : Int) (k : Int)
  | c2 (r17 : (List Int)) (r45 : (List Int)) (g : (List Int)) (p : Int) (inv : Int) (k : Int) (c : Int) (t69 : Int) (t70 : Int)

def modpoly_divide_go : Nat → modpoly_divide_Cut → Option ((List Int) × (List Int))
  | 0, _ => none
  | K + 1, .c0 f g p =>
    gd (0 ≤ (f.length : Int) ∧ (f.length : Int) ≤ (f.length : Int) ∧ (4 : Int) * (f.length : Int) ≤ 140737488355328) <|
    gd (0 + (f.length : Int).toNat ≤ (List.replicate (f.length : Int).toNat ((0 : Int) : Int)).length) <|
    bif (decide ((f.length : Int) < (g.length : Int))) then
      (modpoly_trim K (copied (List.replicate (f.length : Int).toNat ((0 : Int) : Int)) 0 ((f.length : Int).toNat) f)).bind fun x4 =>
      some ([], x4)
    else
      (gi g (IntKind.i64.wrap ((g.length : Int) - (1 : Int)))).bind fun x4 =>
      (modular_Inverse K x4 p).bind fun x6 =>
      gd (0 ≤ (IntKind.i64.wrap ((IntKind.i64.wrap ((f.length : Int) - (g.length : Int))) + (1 : Int))) ∧ (IntKind.i64.wrap ((IntKind.i64.wrap ((f.length : Int) - (g.length : Int))) + (1 : Int))) ≤ (IntKind.i64.wrap ((IntKind.i64.wrap ((f.length : Int) - (g.length : Int))) + (1 : Int))) ∧ (4 : Int) * (IntKind.i64.wrap ((IntKind.i64.wrap ((f.length : Int) - (g.length : Int))) + (1 : Int))) ≤ 140737488355328) <|
      modpoly_divide_go K (.c1 (copied (List.replicate (f.length : Int).toNat ((0 : Int) : Int)) 0 ((f.length : Int).toNat) f) (List.replicate (IntKind.i64.wrap ((IntKind.i64.wrap ((f.length : Int) - (g.length : Int))) + (1 : Int))).toNat ((0 : Int) : Int)) g p x6.1 (IntKind.i64.wrap ((((IntKind.i64.wrap ((IntKind.i64.wrap ((f.length : Int) - (g.length : Int))) + (1 : Int))).toNat : Nat) : Int) - (1 : Int))))
  | K + 1, .c1 r17 r45 g p inv k =>
    bif (decide ((0 : Int) ≤ k)) then
      (gi r17 (IntKind.i64.wrap ((IntKind.i64.wrap (k + (g.length : Int))) - (1 : Int)))).bind fun x2 =>
      (modular_Mul K x2 inv p).bind fun x4 =>
      (gi r45 k).bind fun _ =>
      modpoly_divide_go K (.c2 r17 (r45.set (k.toNat) x4) g p inv k x4 (g.length : Int) (0 : Int))
    else
      (modpoly_trim K r45).bind fun x2 =>
      (modpoly_trim K r17).bind fun x4 =>
      some (x2, x4)
  | K + 1, .c2 r17 r45 g p inv k c t69 t70 =>
    bif (decide (t70 < t69)) then
      (gi r17 (IntKind.i64.wrap (k + t70))).bind fun x2 =>
      (gi g t70).bind fun x4 =>
      (modular_Mul K c x4 p).bind fun x6 =>
      (modular_Sub K x2 x6 p).bind fun x8 =>
      (gi r17 (IntKind.i64.wrap (k + t70))).bind fun _ =>
      modpoly_divide_go K (.c2 (r17.set ((IntKind.i64.wrap (k + t70)).toNat) x8) r45 g p inv k c t69 (IntKind.i64.wrap (t70 + (1 : Int))))
    else
      modpoly_divide_go K (.c1 r17 r45 g p inv (IntKind.i64.wrap (k - (1 : Int))))

def modpoly_divide (K : Nat) (f : (List Int)) (g : (List Int)) (p : Int) : Option ((List Int) × (List Int)) := modpoly_divide_go K (.c0 f g p)

noncomputable def modpoly_divide_body : Code := bodyOf prog 162
noncomputable def modpoly_divide_pos : modpoly_divide_Cut → List Fr
  | .c0 .. => [.code modpoly_divide_body]
  | .c1 .. => [.code (.loop (atC modpoly_divide_body [1,1,1,1,1,1,0,1,0,0])), .blk 0, .code (atC modpoly_divide_body [1,1,1,1,1,1,1])]
  | .c2 .. => [.code (.loop (atC modpoly_divide_body [1,1,1,1,1,1,0,1,0,0,1,0,0,1,1,1,0,0])), .blk 2, .blk 1, .code (atC modpoly_divide_body [1,1,1,1,1,1,0,1,0,0,1,1]), .lp (atC modpoly_divide_body [1,1,1,1,1,1,0,1,0,0]), .blk 0, .code (atC modpoly_divide_body [1,1,1,1,1,1,1])]
def modpoly_divide_st : modpoly_divide_Cut → St
  | .c0 f g p => St.init [(tl 1 f ce_u32), (tl 1 g ce_u32), (ti .u32 p)]
  | .c1 r17 r45 g p inv k => ⟨[(1, vl 1 g ce_u32), (2, vi .u32 p), (8, .c (C.row 17 0 r17.length)), (9, vi .u32 inv), (11, .c (C.row 45 0 r45.length)), (12, vi .i64 k)], [(17, .row 101 1 (r17.map ce_u32) 0), (45, .row 101 1 (r45.map ce_u32) 0)], []⟩
  | .c2 r17 r45 g p inv k c t69 t70 => ⟨[(1, vl 1 g ce_u32), (2, vi .u32 p), (8, .c (C.row 17 0 r17.length)), (9, vi .u32 inv), (11, .c (C.row 45 0 r45.length)), (12, vi .i64 k), (13, vi .u32 c), (69, vi .i64 t69), (70, vi .i64 t70)], [(17, .row 101 1 (r17.map ce_u32) 0), (45, .row 101 1 (r45.map ce_u32) 0)], []⟩

def modpoly_divide_S (cx : Cx) (c : modpoly_divide_Cut) (r : ((List Int) × (List Int))) : Prop := Wk prog cx (EndsF prog 162 [[1], [1]] (TV.tup [(false, [(T.sl 1 (r.1.map ce_u32))]), (false, [(T.sl 1 (r.2.map ce_u32))])])) (modpoly_divide_pos c) .normal (modpoly_divide_st c)
abbrev modpoly_divide_H (K : Nat) : Prop := ∀ c r, modpoly_divide_go K c = some r → ∀ cx : Cx, cx.n = 98 → modpoly_divide_S cx c r

theorem modpoly_divide_c0 {K} (ih : modpoly_divide_H K) {cx} (hn : cx.n = 98) {f g p} {r} (h : modpoly_divide_go (K + 1) (.c0 f g p) = some r) : modpoly_divide_S cx (.c0 f g p) r := by
  rw [modpoly_divide_go] at h
  obtain ⟨h1, h⟩ := gd_some h
  obtain ⟨h2, h⟩ := gd_some h
  rcases bcases h with ⟨h3, h⟩ | ⟨h3, h⟩
  · skip
    obtain ⟨x4, h5, h⟩ := obind h
    have h := Option.some.inj h; subst h
    exact wk_ret (fuel := 88) [.reg [oo, oo], .reg [oo, .op (.ln (f.length : Int)), .op (.mk (ce_u32 (0 : Int)) ((List.replicate (f.length : Int).toNat ((0 : Int) : Int)).map ce_u32)), oo], .reg [oo, oo, .op (.cp (f.map ce_u32) ((copied (List.replicate (f.length : Int).toNat ((0 : Int) : Int)) 0 ((f.length : Int).toNat) f).map ce_u32) ((min f.length ((f.length : Int).toNat) : Nat) : Int))], .reg [oo, .op (.ln (f.length : Int)), oo, .op (.ln (g.length : Int)), oo], .br true, .reg [oo, .snap 26 (max 0 (0 + (f.length : Int).toNat)) ((copied (List.replicate (f.length : Int).toNat ((0 : Int) : Int)) 0 ((f.length : Int).toNat) f).map ce_u32), .op (.call [[1]] [(TV.c (T.sl 1 ((copied (List.replicate (f.length : Int).toNat ((0 : Int) : Int)) 0 ((f.length : Int).toNat) f).map ce_u32)))] (tl 1 x4 ce_u32)), oo, oo]] _ hn (by kernel_rfl) (aC (ln_eq f ce_u32) <| aC h1.1 <| aC h1.2.1 <| aC h1.2.2 <| aC (rep_map _ _ _ : List.replicate (f.length : Int).toNat (ce_u32 (0 : Int)) = (List.replicate (f.length : Int).toNat ((0 : Int) : Int)).map ce_u32) <| aC (rfl : f.map ce_u32 = f.map ce_u32) <| aC (copied_map _ _ _ _ _ h2 : splice ((List.replicate (f.length : Int).toNat ((0 : Int) : Int)).map ce_u32) 0 ((f.map ce_u32).take (min (f.map ce_u32).length ((f.length : Int).toNat))) = (copied (List.replicate (f.length : Int).toNat ((0 : Int) : Int)) 0 ((f.length : Int).toNat) f).map ce_u32) <| aC (by rw [len_map] : ((min (f.map ce_u32).length ((f.length : Int).toNat) : Nat) : Int) = ((min f.length ((f.length : Int).toNat) : Nat) : Int)) <| aC (ln_eq f ce_u32) <| aC (ln_eq g ce_u32) <| aC h3 <| aC (sn_map _ _ _ (by simp) : (((copied (List.replicate (f.length : Int).toNat ((0 : Int) : Int)) 0 ((f.length : Int).toNat) f).map ce_u32).drop 0).take ((f.length : Int).toNat) = (copied (List.replicate (f.length : Int).toNat ((0 : Int) : Int)) 0 ((f.length : Int).toNat) f).map ce_u32) <| aC (rfl : (max 0 (0 + (f.length : Int).toNat)) = (max 0 (0 + (f.length : Int).toNat))) <| aC (modpoly_trim_holds h5) <| aN)
  · skip
    obtain ⟨x4, h5, h⟩ := obind h
    obtain ⟨x6, h7, h⟩ := obind h
    obtain ⟨h8, h⟩ := gd_some h
    exact wk_go (fuel := 106) [.reg [oo, oo], .reg [oo, .op (.ln (f.length : Int)), .op (.mk (ce_u32 (0 : Int)) ((List.replicate (f.length : Int).toNat ((0 : Int) : Int)).map ce_u32)), oo], .reg [oo, oo, .op (.cp (f.map ce_u32) ((copied (List.replicate (f.length : Int).toNat ((0 : Int) : Int)) 0 ((f.length : Int).toNat) f).map ce_u32) ((min f.length ((f.length : Int).toNat) : Nat) : Int))], .reg [oo, .op (.ln (f.length : Int)), oo, .op (.ln (g.length : Int)), oo], .br false, .reg [oo, oo, .op (.ln (g.length : Int)), oo, .op (.ix (ce_u32 x4)), oo, oo, .op (.call [[0], [0]] [(ti .u32 x4), (ti .u32 p)] (TV.tup [(false, [(T.int .u32 x6.1)]), (false, [(T.int .i64 x6.2)])])), oo, oo, oo, oo, oo], .reg [oo, .op (.ln (f.length : Int)), oo, .op (.ln (g.length : Int)), oo, oo, .op (.mk (ce_u32 (0 : Int)) ((List.replicate (IntKind.i64.wrap ((IntKind.i64.wrap ((f.length : Int) - (g.length : Int))) + (1 : Int))).toNat ((0 : Int) : Int)).map ce_u32)), oo], .reg [oo, oo, oo, oo], .pre [.rl 8 0 (copied (List.replicate (f.length : Int).toNat ((0 : Int) : Int)) 0 ((f.length : Int).toNat) f).length, .rl 11 0 (List.replicate (IntKind.i64.wrap ((IntKind.i64.wrap ((f.length : Int) - (g.length : Int))) + (1 : Int))).toNat ((0 : Int) : Int)).length, .keep [1,2,8,9,11,12] [17,45]]] _ hn (by kernel_rfl) (aC (ln_eq f ce_u32) <| aC h1.1 <| aC h1.2.1 <| aC h1.2.2 <| aC (rep_map _ _ _ : List.replicate (f.length : Int).toNat (ce_u32 (0 : Int)) = (List.replicate (f.length : Int).toNat ((0 : Int) : Int)).map ce_u32) <| aC (rfl : f.map ce_u32 = f.map ce_u32) <| aC (copied_map _ _ _ _ _ h2 : splice ((List.replicate (f.length : Int).toNat ((0 : Int) : Int)).map ce_u32) 0 ((f.map ce_u32).take (min (f.map ce_u32).length ((f.length : Int).toNat))) = (copied (List.replicate (f.length : Int).toNat ((0 : Int) : Int)) 0 ((f.length : Int).toNat) f).map ce_u32) <| aC (by rw [len_map] : ((min (f.map ce_u32).length ((f.length : Int).toNat) : Nat) : Int) = ((min f.length ((f.length : Int).toNat) : Nat) : Int)) <| aC (ln_eq f ce_u32) <| aC (ln_eq g ce_u32) <| aC h3 <| aC (ln_eq g ce_u32) <| aC (gi_nn h5) <| aC (gi_at ce_u32 h5) <| aC (modular_Inverse_holds h7) <| aC (ln_eq f ce_u32) <| aC (ln_eq g ce_u32) <| aC h8.1 <| aC h8.2.1 <| aC h8.2.2 <| aC (rep_map _ _ _ : List.replicate (IntKind.i64.wrap ((IntKind.i64.wrap ((f.length : Int) - (g.length : Int))) + (1 : Int))).toNat (ce_u32 (0 : Int)) = (List.replicate (IntKind.i64.wrap ((IntKind.i64.wrap ((f.length : Int) - (g.length : Int))) + (1 : Int))).toNat ((0 : Int) : Int)).map ce_u32) <| aC r0 <| aC (by simp : (f.length : Int).toNat = (copied (List.replicate (f.length : Int).toNat ((0 : Int) : Int)) 0 ((f.length : Int).toNat) f).length) <| aC r0 <| aC (by simp : (IntKind.i64.wrap ((IntKind.i64.wrap ((f.length : Int) - (g.length : Int))) + (1 : Int))).toNat = (List.replicate (IntKind.i64.wrap ((IntKind.i64.wrap ((f.length : Int) - (g.length : Int))) + (1 : Int))).toNat ((0 : Int) : Int)).length) <| aN) (ih _ _ h cx hn)

theorem modpoly_divide_c1 {K} (ih : modpoly_divide_H K) {cx} (hn : cx.n = 98) {r17 r45 g p inv k} {r} (h : modpoly_divide_go (K + 1) (.c1 r17 r45 g p inv k) = some r) : modpoly_divide_S cx (.c1 r17 r45 g p inv k) r := by
  rw [modpoly_divide_go] at h
  rcases bcases h with ⟨h1, h⟩ | ⟨h1, h⟩
  · skip
    obtain ⟨x2, h3, h⟩ := obind h
    obtain ⟨x4, h5, h⟩ := obind h
    obtain ⟨x6, h7, h⟩ := obind h
    exact wk_go (fuel := 92) [.go, .reg [oo, oo], .br true, .reg [oo, oo, oo, .op (.ln (g.length : Int)), oo, oo, .op .ir, .op (.ld (ce_u32 x2)), oo, oo, .op (.call [[0], [0], [0]] [(ti .u32 x2), (ti .u32 inv), (ti .u32 p)] (ti .u32 x4)), oo], .reg [oo, oo, oo, .op .ir, .op (.st (ce_u32 x6) ((r45.set (k.toNat) x4).map ce_u32))], .reg [oo, .op (.ln (g.length : Int)), oo], .pre [.rl 8 0 r17.length, .rl 11 0 (r45.set (k.toNat) x4).length, .keep [1,2,8,9,11,12,13,69,70] [17,45]]] _ hn (by kernel_rfl) (aC h1 <| aC (ln_eq g ce_u32) <| aC (gi_nn h3) <| aC (gi_lt2 h3 (by simp) : (IntKind.i64.wrap ((IntKind.i64.wrap (k + (g.length : Int))) - (1 : Int))) < ((r17.length : Nat) : Int)) <| aC (gi_row ce_u32 h3 : (r17.map ce_u32)[(0 + (IntKind.i64.wrap ((IntKind.i64.wrap (k + (g.length : Int))) - (1 : Int))).toNat)]? = some (ce_u32 x2)) <| aC (modular_Mul_holds h5) <| aC (gi_nn h7) <| aC (gi_lt2 h7 (by simp) : k < ((r45.length : Nat) : Int)) <| aC (gi_row ce_u32 h7 : (r45.map ce_u32)[(0 + k.toNat)]? = some (ce_u32 x6)) <| aC (set_map _ _ x4 _ : (r45.map ce_u32).set (0 + k.toNat) (splice (ce_u32 x6) 0 [(T.int .u32 x4)]) = (r45.set (k.toNat) x4).map ce_u32) <| aC (Nat.zero_le _ : 0 ≤ (0 + k.toNat)) <| aC (ln_eq g ce_u32) <| aC r0 <| aC (lq r17) <| aC r0 <| aC (by simp : r45.length = (r45.set (k.toNat) x4).length) <| aN) (ih _ _ h cx hn)
  · skip
    obtain ⟨x2, h3, h⟩ := obind h
    obtain ⟨x4, h5, h⟩ := obind h
    have h := Option.some.inj h; subst h
    exact wk_ret (fuel := 78) [.go, .reg [oo, oo], .br false, .reg [oo, .snap 94 (max 0 (0 + r45.length)) (r45.map ce_u32), .op (.call [[1]] [(tl 1 r45 ce_u32)] (tl 1 x2 ce_u32)), oo, .snap 96 (max 0 (0 + r17.length)) (r17.map ce_u32), .op (.call [[1]] [(tl 1 r17 ce_u32)] (tl 1 x4 ce_u32)), oo, oo]] _ hn (by kernel_rfl) (aC h1 <| aC (sn_map _ _ _ (by simp) : ((r45.map ce_u32).drop 0).take r45.length = r45.map ce_u32) <| aC (rfl : (max 0 (0 + r45.length)) = (max 0 (0 + r45.length))) <| aC (modpoly_trim_holds h3) <| aC (sn_map _ _ _ (by simp) : ((r17.map ce_u32).drop 0).take r17.length = r17.map ce_u32) <| aC (rfl : (max 0 (0 + r17.length)) = (max 0 (0 + r17.length))) <| aC (modpoly_trim_holds h5) <| aN)

theorem modpoly_divide_c2 {K} (ih : modpoly_divide_H K) {cx} (hn : cx.n = 98) {r17 r45 g p inv k c t69 t70} {r} (h : modpoly_divide_go (K + 1) (.c2 r17 r45 g p inv k c t69 t70) = some r) : modpoly_divide_S cx (.c2 r17 r45 g p inv k c t69 t70) r := by
  rw [modpoly_divide_go] at h
  rcases bcases h with ⟨h1, h⟩ | ⟨h1, h⟩
  · skip
    obtain ⟨x2, h3, h⟩ := obind h
    obtain ⟨x4, h5, h⟩ := obind h
    obtain ⟨x6, h7, h⟩ := obind h
    obtain ⟨x8, h9, h⟩ := obind h
    obtain ⟨x10, h11, h⟩ := obind h
    exact wk_go (fuel := 90) [.go, .reg [oo], .br true, .reg [oo, oo], .draw [.p, .p, .p, .p, .p, .p, .p, .p, .ir, (.ld (ce_u32 x2)), .p, .p, .p, (.ix (ce_u32 x4)), .p, .p, (.call [[0], [0], [0]] [(ti .u32 c), (ti .u32 x4), (ti .u32 p)] (ti .u32 x6)), .p, (.call [[0], [0], [0]] [(ti .u32 x2), (ti .u32 x6), (ti .u32 p)] (ti .u32 x8))] [.op .ir, .op (.st (ce_u32 x10) ((r17.set ((IntKind.i64.wrap (k + t70)).toNat) x8).map ce_u32))], .reg [oo, oo], .pre [.rl 8 0 (r17.set ((IntKind.i64.wrap (k + t70)).toNat) x8).length, .rl 11 0 r45.length, .keep [1,2,8,9,11,12,13,69,70] [17,45]]] _ hn (by kernel_rfl) (aC h1 <| aC (gi_nn h3) <| aC (gi_lt2 h3 (by simp) : (IntKind.i64.wrap (k + t70)) < ((r17.length : Nat) : Int)) <| aC (gi_row ce_u32 h3 : (r17.map ce_u32)[(0 + (IntKind.i64.wrap (k + t70)).toNat)]? = some (ce_u32 x2)) <| aC (gi_nn h5) <| aC (gi_at ce_u32 h5) <| aC (modular_Mul_holds h7) <| aC (modular_Sub_holds h9) <| aC (gi_nn h11) <| aC (gi_lt2 h11 (by simp) : (IntKind.i64.wrap (k + t70)) < ((r17.length : Nat) : Int)) <| aC (gi_row ce_u32 h11 : (r17.map ce_u32)[(0 + (IntKind.i64.wrap (k + t70)).toNat)]? = some (ce_u32 x10)) <| aC (set_map _ _ x8 _ : (r17.map ce_u32).set (0 + (IntKind.i64.wrap (k + t70)).toNat) (splice (ce_u32 x10) 0 [(T.int .u32 x8)]) = (r17.set ((IntKind.i64.wrap (k + t70)).toNat) x8).map ce_u32) <| aC (Nat.zero_le _ : 0 ≤ (0 + (IntKind.i64.wrap (k + t70)).toNat)) <| aC r0 <| aC (by simp : r17.length = (r17.set ((IntKind.i64.wrap (k + t70)).toNat) x8).length) <| aC r0 <| aC (lq r45) <| aN) (ih _ _ h cx hn)
  · skip
    exact wk_go (fuel := 78) [.go, .reg [oo], .br false, .reg [oo, oo, oo], .pre [.rl 8 0 r17.length, .rl 11 0 r45.length, .keep [1,2,8,9,11,12] [17,45]]] _ hn (by kernel_rfl) (aC h1 <| aC r0 <| aC (lq r17) <| aC r0 <| aC (lq r45) <| aN) (ih _ _ h cx hn)

theorem modpoly_divide_all : ∀ K : Nat, modpoly_divide_H K
  | 0, c, r, h => by rw [modpoly_divide_go] at h; cases h
  | K + 1, .c0 .., r, h => fun cx hn => modpoly_divide_c0 (modpoly_divide_all K) hn h
  | K + 1, .c1 .., r, h => fun cx hn => modpoly_divide_c1 (modpoly_divide_all K) hn h
  | K + 1, .c2 .., r, h => fun cx hn => modpoly_divide_c2 (modpoly_divide_all K) hn h

theorem modpoly_divide_holds {K : Nat} {f : (List Int)} {g : (List Int)} {p : Int} {r : ((List Int) × (List Int))} (h : modpoly_divide K f g p = some r) : Holds prog 162 [(tl 1 f ce_u32), (tl 1 g ce_u32), (ti .u32 p)] (TV.tup [(false, [(T.sl 1 (r.1.map ce_u32))]), (false, [(T.sl 1 (r.2.map ce_u32))])]) :=
  holds_wk [[1], [1]] (by kernel_rfl) (by simp) fun cx hn => modpoly_divide_all K (.c0 f g p) r h cx hn
end Go.Am.X
namespace Go.Am.X
open Go.Proofs.Try (prog)


inductive modpoly_Scale_Cut where
  | c0 (f : (List Int)) (c : Int) (m : Int)
  | c1 (r12 : (List Int)) (c : Int) (m : Int) (t13 : (List Int)) (t14 : Int) (t15 : Int)

def modpoly_Scale_go : Nat → modpoly_Scale_Cut → Option (List Int)
  | 0, _ => none
  | K + 1, .c0 f c m =>
    gd (0 ≤ (f.length : Int) ∧ (f.length : Int) ≤ (f.length : Int) ∧ (4 : Int) * (f.length : Int) ≤ 140737488355328) <|
    modpoly_Scale_go K (.c1 (List.replicate (f.length : Int).toNat ((0 : Int) : Int)) c m f (f.length : Int) (0 : Int))
  | K + 1, .c1 r12 c m t13 t14 t15 =>
    bif (decide (t15 < t14)) then
      (gi t13 t15).bind fun x2 =>
      (modular_Mul K x2 c m).bind fun x4 =>
      (gi r12 t15).bind fun _ =>
      modpoly_Scale_go K (.c1 (r12.set (t15.toNat) x4) c m t13 t14 (IntKind.i64.wrap (t15 + (1 : Int))))
    else
      (modpoly_trim K r12).bind fun x2 =>
      some x2

def modpoly_Scale (K : Nat) (f : (List Int)) (c : Int) (m : Int) : Option (List Int) := modpoly_Scale_go K (.c0 f c m)

noncomputable def modpoly_Scale_body : Code := bodyOf prog 156
noncomputable def modpoly_Scale_pos : modpoly_Scale_Cut → List Fr
  | .c0 .. => [.code modpoly_Scale_body]
  | .c1 .. => [.code (.loop (atC modpoly_Scale_body [1,1,0,1,0,0])), .blk 0, .code (atC modpoly_Scale_body [1,1,1])]
def modpoly_Scale_st : modpoly_Scale_Cut → St
  | .c0 f c m => St.init [(tl 1 f ce_u32), (ti .u32 c), (ti .u32 m)]
  | .c1 r12 c m t13 t14 t15 => ⟨[(1, vi .u32 c), (2, vi .u32 m), (7, .c (C.row 12 0 r12.length)), (13, vl 1 t13 ce_u32), (14, vi .i64 t14), (15, vi .i64 t15)], [(12, .row 101 1 (r12.map ce_u32) 0)], []⟩

def modpoly_Scale_S (cx : Cx) (c : modpoly_Scale_Cut) (r : (List Int)) : Prop := Wk prog cx (EndsF prog 156 [[1]] (tl 1 r ce_u32)) (modpoly_Scale_pos c) .normal (modpoly_Scale_st c)
abbrev modpoly_Scale_H (K : Nat) : Prop := ∀ c r, modpoly_Scale_go K c = some r → ∀ cx : Cx, cx.n = 30 → modpoly_Scale_S cx c r

theorem modpoly_Scale_c0 {K} (ih : modpoly_Scale_H K) {cx} (hn : cx.n = 30) {f c m} {r} (h : modpoly_Scale_go (K + 1) (.c0 f c m) = some r) : modpoly_Scale_S cx (.c0 f c m) r := by
  rw [modpoly_Scale_go] at h
  obtain ⟨h1, h⟩ := gd_some h
  exact wk_go (fuel := 64) [.reg [oo], .reg [oo, .op (.ln (f.length : Int)), .op (.mk (ce_u32 (0 : Int)) ((List.replicate (f.length : Int).toNat ((0 : Int) : Int)).map ce_u32)), oo], .reg [oo, .op (.ln (f.length : Int)), oo], .pre [.rl 7 0 (List.replicate (f.length : Int).toNat ((0 : Int) : Int)).length, .keep [1,2,7,13,14,15] [12]]] _ hn (by kernel_rfl) (aC (ln_eq f ce_u32) <| aC h1.1 <| aC h1.2.1 <| aC h1.2.2 <| aC (rep_map _ _ _ : List.replicate (f.length : Int).toNat (ce_u32 (0 : Int)) = (List.replicate (f.length : Int).toNat ((0 : Int) : Int)).map ce_u32) <| aC (ln_eq f ce_u32) <| aC r0 <| aC (by simp : (f.length : Int).toNat = (List.replicate (f.length : Int).toNat ((0 : Int) : Int)).length) <| aN) (ih _ _ h cx hn)

theorem modpoly_Scale_c1 {K} (ih : modpoly_Scale_H K) {cx} (hn : cx.n = 30) {r12 c m t13 t14 t15} {r} (h : modpoly_Scale_go (K + 1) (.c1 r12 c m t13 t14 t15) = some r) : modpoly_Scale_S cx (.c1 r12 c m t13 t14 t15) r := by
  rw [modpoly_Scale_go] at h
  rcases bcases h with ⟨h1, h⟩ | ⟨h1, h⟩
  · skip
    obtain ⟨x2, h3, h⟩ := obind h
    obtain ⟨x4, h5, h⟩ := obind h
    obtain ⟨x6, h7, h⟩ := obind h
    exact wk_go (fuel := 90) [.go, .reg [oo], .br true, .reg [oo, .op (.ix (ce_u32 x2)), oo, oo, oo], .reg [oo, oo, oo, oo, oo, .op (.call [[0], [0], [0]] [(ti .u32 x2), (ti .u32 c), (ti .u32 m)] (ti .u32 x4)), .op .ir, .op (.st (ce_u32 x6) ((r12.set (t15.toNat) x4).map ce_u32))], .reg [oo, oo], .pre [.rl 7 0 (r12.set (t15.toNat) x4).length, .keep [1,2,7,13,14,15] [12]]] _ hn (by kernel_rfl) (aC h1 <| aC (gi_nn h3) <| aC (gi_at ce_u32 h3) <| aC (modular_Mul_holds h5) <| aC (gi_nn h7) <| aC (gi_lt2 h7 (by simp) : t15 < ((r12.length : Nat) : Int)) <| aC (gi_row ce_u32 h7 : (r12.map ce_u32)[(0 + t15.toNat)]? = some (ce_u32 x6)) <| aC (set_map _ _ x4 _ : (r12.map ce_u32).set (0 + t15.toNat) (splice (ce_u32 x6) 0 [(T.int .u32 x4)]) = (r12.set (t15.toNat) x4).map ce_u32) <| aC (Nat.zero_le _ : 0 ≤ (0 + t15.toNat)) <| aC r0 <| aC (by simp : r12.length = (r12.set (t15.toNat) x4).length) <| aN) (ih _ _ h cx hn)
  · skip
    obtain ⟨x2, h3, h⟩ := obind h
    have h := Option.some.inj h; subst h
    exact wk_ret (fuel := 78) [.go, .reg [oo], .br false, .reg [oo, .snap 28 (max 0 (0 + r12.length)) (r12.map ce_u32), .op (.call [[1]] [(tl 1 r12 ce_u32)] (tl 1 x2 ce_u32)), oo]] _ hn (by kernel_rfl) (aC h1 <| aC (sn_map _ _ _ (by simp) : ((r12.map ce_u32).drop 0).take r12.length = r12.map ce_u32) <| aC (rfl : (max 0 (0 + r12.length)) = (max 0 (0 + r12.length))) <| aC (modpoly_trim_holds h3) <| aN)

theorem modpoly_Scale_all : ∀ K : Nat, modpoly_Scale_H K
  | 0, c, r, h => by rw [modpoly_Scale_go] at h; cases h
  | K + 1, .c0 .., r, h => fun cx hn => modpoly_Scale_c0 (modpoly_Scale_all K) hn h
  | K + 1, .c1 .., r, h => fun cx hn => modpoly_Scale_c1 (modpoly_Scale_all K) hn h

theorem modpoly_Scale_holds {K : Nat} {f : (List Int)} {c : Int} {m : Int} {r : (List Int)} (h : modpoly_Scale K f c m = some r) : Holds prog 156 [(tl 1 f ce_u32), (ti .u32 c), (ti .u32 m)] (tl 1 r ce_u32) :=
  holds_wk [[1]] (by kernel_rfl) (by simp) fun cx hn => modpoly_Scale_all K (.c0 f c m) r h cx hn
end Go.Am.X
namespace Go.Am.X
open Go.Proofs.Try (prog)


inductive modpoly_monic_Cut where
  | c0 (f : (List Int)) (p : Int)

def modpoly_monic_go : Nat → modpoly_monic_Cut → Option (List Int)
  | 0, _ => none
  | K + 1, .c0 f p =>
    bif (decide ((f.length : Int) = (0 : Int))) then
      some []
    else
      (gi f (IntKind.i64.wrap ((f.length : Int) - (1 : Int)))).bind fun x2 =>
      (modular_Inverse K x2 p).bind fun x4 =>
      (modpoly_Scale K f x4.1 p).bind fun x6 =>
      some x6

def modpoly_monic (K : Nat) (f : (List Int)) (p : Int) : Option (List Int) := modpoly_monic_go K (.c0 f p)

noncomputable def modpoly_monic_body : Code := bodyOf prog 179
noncomputable def modpoly_monic_pos : modpoly_monic_Cut → List Fr
  | .c0 .. => [.code modpoly_monic_body]
def modpoly_monic_st : modpoly_monic_Cut → St
  | .c0 f p => St.init [(tl 1 f ce_u32), (ti .u32 p)]

def modpoly_monic_S (cx : Cx) (c : modpoly_monic_Cut) (r : (List Int)) : Prop := Wk prog cx (EndsF prog 179 [[1]] (tl 1 r ce_u32)) (modpoly_monic_pos c) .normal (modpoly_monic_st c)
abbrev modpoly_monic_H (K : Nat) : Prop := ∀ c r, modpoly_monic_go K c = some r → ∀ cx : Cx, cx.n = 25 → modpoly_monic_S cx c r

theorem modpoly_monic_c0 {K} (_ : modpoly_monic_H K) {cx} (hn : cx.n = 25) {f p} {r} (h : modpoly_monic_go (K + 1) (.c0 f p) = some r) : modpoly_monic_S cx (.c0 f p) r := by
  rw [modpoly_monic_go] at h
  rcases bcases h with ⟨h1, h⟩ | ⟨h1, h⟩
  · skip
    have h := Option.some.inj h; subst h
    exact wk_ret (fuel := 72) [.reg [oo], .reg [oo, .op (.ln (f.length : Int)), oo], .br true, .reg [oo]] _ hn (by kernel_rfl) (aC (ln_eq f ce_u32) <| aC h1 <| aN)
  · skip
    obtain ⟨x2, h3, h⟩ := obind h
    obtain ⟨x4, h5, h⟩ := obind h
    obtain ⟨x6, h7, h⟩ := obind h
    have h := Option.some.inj h; subst h
    exact wk_ret (fuel := 80) [.reg [oo], .reg [oo, .op (.ln (f.length : Int)), oo], .br false, .reg [oo, oo, .op (.ln (f.length : Int)), oo, .op (.ix (ce_u32 x2)), oo, oo, .op (.call [[0], [0]] [(ti .u32 x2), (ti .u32 p)] (TV.tup [(false, [(T.int .u32 x4.1)]), (false, [(T.int .i64 x4.2)])])), oo, oo, oo, oo, oo], .reg [oo, oo, oo, .op (.call [[1], [0], [0]] [(tl 1 f ce_u32), (ti .u32 x4.1), (ti .u32 p)] (tl 1 x6 ce_u32)), oo]] _ hn (by kernel_rfl) (aC (ln_eq f ce_u32) <| aC h1 <| aC (ln_eq f ce_u32) <| aC (gi_nn h3) <| aC (gi_at ce_u32 h3) <| aC (modular_Inverse_holds h5) <| aC (modpoly_Scale_holds h7) <| aN)

theorem modpoly_monic_all : ∀ K : Nat, modpoly_monic_H K
  | 0, c, r, h => by rw [modpoly_monic_go] at h; cases h
  | K + 1, .c0 .., r, h => fun cx hn => modpoly_monic_c0 (modpoly_monic_all K) hn h

theorem modpoly_monic_holds {K : Nat} {f : (List Int)} {p : Int} {r : (List Int)} (h : modpoly_monic K f p = some r) : Holds prog 179 [(tl 1 f ce_u32), (ti .u32 p)] (tl 1 r ce_u32) :=
  holds_wk [[1]] (by kernel_rfl) (by simp) fun cx hn => modpoly_monic_all K (.c0 f p) r h cx hn
end Go.Am.X
namespace Go.Am.X
open Go.Proofs.Try (prog)


inductive modpoly_gcd_Cut where
  | c0 (f : (List Int)) (g : (List Int)) (p : Int)
  | c1 (f : (List Int)) (g : (List Int)) (p : Int)

def modpoly_gcd_go : Nat → modpoly_gcd_Cut → Option (List Int)
  | 0, _ => none
  | K + 1, .c0 f g p =>
    modpoly_gcd_go K (.c1 f g p)
  | K + 1, .c1 f g p =>
    bif (decide ((0 : Int) < (g.length : Int))) then
      (modpoly_divide K f g p).bind fun x2 =>
      modpoly_gcd_go K (.c1 g x2.2 p)
    else
      (modpoly_monic K f p).bind fun x2 =>
      some x2

def modpoly_gcd (K : Nat) (f : (List Int)) (g : (List Int)) (p : Int) : Option (List Int) := modpoly_gcd_go K (.c0 f g p)

noncomputable def modpoly_gcd_body : Code := bodyOf prog 165
noncomputable def modpoly_gcd_pos : modpoly_gcd_Cut → List Fr
  | .c0 .. => [.code modpoly_gcd_body]
  | .c1 .. => [.code (.loop (atC modpoly_gcd_body [1,0,0,0])), .blk 0, .code (atC modpoly_gcd_body [1,1])]
def modpoly_gcd_st : modpoly_gcd_Cut → St
  | .c0 f g p => St.init [(tl 1 f ce_u32), (tl 1 g ce_u32), (ti .u32 p)]
  | .c1 f g p => ⟨[(0, vl 1 f ce_u32), (1, vl 1 g ce_u32), (2, vi .u32 p)], [], []⟩

def modpoly_gcd_S (cx : Cx) (c : modpoly_gcd_Cut) (r : (List Int)) : Prop := Wk prog cx (EndsF prog 165 [[1]] (tl 1 r ce_u32)) (modpoly_gcd_pos c) .normal (modpoly_gcd_st c)
abbrev modpoly_gcd_H (K : Nat) : Prop := ∀ c r, modpoly_gcd_go K c = some r → ∀ cx : Cx, cx.n = 24 → modpoly_gcd_S cx c r

theorem modpoly_gcd_c0 {K} (ih : modpoly_gcd_H K) {cx} (hn : cx.n = 24) {f g p} {r} (h : modpoly_gcd_go (K + 1) (.c0 f g p) = some r) : modpoly_gcd_S cx (.c0 f g p) r := by
  rw [modpoly_gcd_go] at h
  exact wk_go (fuel := 48) [.reg [oo], .pre [.keep [0,1,2] []]] _ hn (by kernel_rfl) aN (ih _ _ h cx hn)

theorem modpoly_gcd_c1 {K} (ih : modpoly_gcd_H K) {cx} (hn : cx.n = 24) {f g p} {r} (h : modpoly_gcd_go (K + 1) (.c1 f g p) = some r) : modpoly_gcd_S cx (.c1 f g p) r := by
  rw [modpoly_gcd_go] at h
  rcases bcases h with ⟨h1, h⟩ | ⟨h1, h⟩
  · skip
    obtain ⟨x2, h3, h⟩ := obind h
    exact wk_go (fuel := 82) [.go, .reg [oo, .op (.ln (g.length : Int)), oo], .br true, .reg [oo, oo, oo, .op (.call [[1], [1], [0]] [(tl 1 f ce_u32), (tl 1 g ce_u32), (ti .u32 p)] (TV.tup [(false, [(T.sl 1 (x2.1.map ce_u32))]), (false, [(T.sl 1 (x2.2.map ce_u32))])])), oo, oo, oo, oo, oo], .reg [oo, oo, oo, oo], .pre [.keep [0,1,2] []]] _ hn (by kernel_rfl) (aC (ln_eq g ce_u32) <| aC h1 <| aC (modpoly_divide_holds h3) <| aN) (ih _ _ h cx hn)
  · skip
    obtain ⟨x2, h3, h⟩ := obind h
    have h := Option.some.inj h; subst h
    exact wk_ret (fuel := 78) [.go, .reg [oo, .op (.ln (g.length : Int)), oo], .br false, .reg [oo, oo, .op (.call [[1], [0]] [(tl 1 f ce_u32), (ti .u32 p)] (tl 1 x2 ce_u32)), oo]] _ hn (by kernel_rfl) (aC (ln_eq g ce_u32) <| aC h1 <| aC (modpoly_monic_holds h3) <| aN)

theorem modpoly_gcd_all : ∀ K : Nat, modpoly_gcd_H K
  | 0, c, r, h => by rw [modpoly_gcd_go] at h; cases h
  | K + 1, .c0 .., r, h => fun cx hn => modpoly_gcd_c0 (modpoly_gcd_all K) hn h
  | K + 1, .c1 .., r, h => fun cx hn => modpoly_gcd_c1 (modpoly_gcd_all K) hn h

theorem modpoly_gcd_holds {K : Nat} {f : (List Int)} {g : (List Int)} {p : Int} {r : (List Int)} (h : modpoly_gcd K f g p = some r) : Holds prog 165 [(tl 1 f ce_u32), (tl 1 g ce_u32), (ti .u32 p)] (tl 1 r ce_u32) :=
  holds_wk [[1]] (by kernel_rfl) (by simp) fun cx hn => modpoly_gcd_all K (.c0 f g p) r h cx hn
end Go.Am.X
namespace Go.Am.X
open Go.Proofs.Try (prog)


inductive modular_Pow_Cut where
  | c0 (a : Int) (n : Int) (m : Int)
  | c1 (n : Int) (m : Int) (out : Int) (base : Int)
  | c2 (n : Int) (m : Int) (out : Int) (base : Int)

def modular_Pow_go : Nat → modular_Pow_Cut → Option Int
  | 0, _ => none
  | K + 1, .c0 a n m =>
    (modular_Mul K (1 : Int) (1 : Int) m).bind fun x1 =>
    modular_Pow_go K (.c1 n m x1 a)
  | K + 1, .c1 n m out base =>
    bif (decide ((0 : Int) < n)) then
      bif (decide ((bits .and .u64 n (1 : Int)) = (1 : Int))) then
        (modular_Mul K out base m).bind fun x3 =>
        (modular_Mul K base base m).bind fun x5 =>
        modular_Pow_go K (.c2 n m x3 x5)
      else
        (modular_Mul K base base m).bind fun x3 =>
        modular_Pow_go K (.c2 n m out x3)
    else
      some out
  | K + 1, .c2 n m out base =>
    modular_Pow_go K (.c1 (shrOp .u64 n (1 : Int)) m out base)

def modular_Pow (K : Nat) (a : Int) (n : Int) (m : Int) : Option Int := modular_Pow_go K (.c0 a n m)

noncomputable def modular_Pow_body : Code := bodyOf prog 178
noncomputable def modular_Pow_pos : modular_Pow_Cut → List Fr
  | .c0 .. => [.code modular_Pow_body]
  | .c1 .. => [.code (.loop (atC modular_Pow_body [1,1,0,1,0,0])), .blk 0, .code (atC modular_Pow_body [1,1,1])]
  | .c2 .. => [.code (atC modular_Pow_body [1,1,0,1,0,0,1,1]), .lp (atC modular_Pow_body [1,1,0,1,0,0]), .blk 0, .code (atC modular_Pow_body [1,1,1])]
def modular_Pow_st : modular_Pow_Cut → St
  | .c0 a n m => St.init [(ti .u32 a), (ti .u64 n), (ti .u32 m)]
  | .c1 n m out base => ⟨[(1, vi .u64 n), (2, vi .u32 m), (7, vi .u32 out), (8, vi .u32 base)], [], []⟩
  | .c2 n m out base => ⟨[(1, vi .u64 n), (2, vi .u32 m), (7, vi .u32 out), (8, vi .u32 base)], [], []⟩

def modular_Pow_S (cx : Cx) (c : modular_Pow_Cut) (r : Int) : Prop := Wk prog cx (EndsF prog 178 [[0]] (ti .u32 r)) (modular_Pow_pos c) .normal (modular_Pow_st c)
abbrev modular_Pow_H (K : Nat) : Prop := ∀ c r, modular_Pow_go K c = some r → ∀ cx : Cx, cx.n = 28 → modular_Pow_S cx c r

theorem modular_Pow_c0 {K} (ih : modular_Pow_H K) {cx} (hn : cx.n = 28) {a n m} {r} (h : modular_Pow_go (K + 1) (.c0 a n m) = some r) : modular_Pow_S cx (.c0 a n m) r := by
  rw [modular_Pow_go] at h
  obtain ⟨x1, h2, h⟩ := obind h
  exact wk_go (fuel := 64) [.reg [oo], .reg [oo, .op (.call [[0], [0], [0]] [(TV.c (T.int .u32 (1 : Int))), (TV.c (T.int .u32 (1 : Int))), (ti .u32 m)] (ti .u32 x1)), oo], .reg [oo, oo], .pre [.keep [1,2,7,8] []]] _ hn (by kernel_rfl) (aC (modular_Mul_holds h2) <| aN) (ih _ _ h cx hn)

theorem modular_Pow_c1 {K} (ih : modular_Pow_H K) {cx} (hn : cx.n = 28) {n m out base} {r} (h : modular_Pow_go (K + 1) (.c1 n m out base) = some r) : modular_Pow_S cx (.c1 n m out base) r := by
  rw [modular_Pow_go] at h
  rcases bcases h with ⟨h1, h⟩ | ⟨h1, h⟩
  · skip
    rcases bcases h with ⟨h2, h⟩ | ⟨h2, h⟩
    · skip
      obtain ⟨x3, h4, h⟩ := obind h
      obtain ⟨x5, h6, h⟩ := obind h
      exact wk_go (fuel := 96) [.go, .reg [oo, oo], .br true, .reg [oo, oo, oo], .br true, .reg [oo, oo, oo, .op (.call [[0], [0], [0]] [(ti .u32 out), (ti .u32 base), (ti .u32 m)] (ti .u32 x3)), oo], .reg [oo, oo, oo, .op (.call [[0], [0], [0]] [(ti .u32 base), (ti .u32 base), (ti .u32 m)] (ti .u32 x5)), oo], .pre [.keep [1,2,7,8] []]] _ hn (by kernel_rfl) (aC h1 <| aC h2 <| aC (modular_Mul_holds h4) <| aC (modular_Mul_holds h6) <| aN) (ih _ _ h cx hn)
    · skip
      obtain ⟨x3, h4, h⟩ := obind h
      exact wk_go (fuel := 92) [.go, .reg [oo, oo], .br true, .reg [oo, oo, oo], .br false, .reg [oo, oo, oo, .op (.call [[0], [0], [0]] [(ti .u32 base), (ti .u32 base), (ti .u32 m)] (ti .u32 x3)), oo], .pre [.keep [1,2,7,8] []]] _ hn (by kernel_rfl) (aC h1 <| aC h2 <| aC (modular_Mul_holds h4) <| aN) (ih _ _ h cx hn)
  · skip
    have h := Option.some.inj h; subst h
    exact wk_ret (fuel := 78) [.go, .reg [oo, oo], .br false, .reg [oo, oo]] _ hn (by kernel_rfl) (aC h1 <| aN)

theorem modular_Pow_c2 {K} (ih : modular_Pow_H K) {cx} (hn : cx.n = 28) {n m out base} {r} (h : modular_Pow_go (K + 1) (.c2 n m out base) = some r) : modular_Pow_S cx (.c2 n m out base) r := by
  rw [modular_Pow_go] at h
  exact wk_go (fuel := 44) [.reg [oo, oo, oo], .pre [.keep [1,2,7,8] []]] _ hn (by kernel_rfl) aN (ih _ _ h cx hn)

theorem modular_Pow_all : ∀ K : Nat, modular_Pow_H K
  | 0, c, r, h => by rw [modular_Pow_go] at h; cases h
  | K + 1, .c0 .., r, h => fun cx hn => modular_Pow_c0 (modular_Pow_all K) hn h
  | K + 1, .c1 .., r, h => fun cx hn => modular_Pow_c1 (modular_Pow_all K) hn h
  | K + 1, .c2 .., r, h => fun cx hn => modular_Pow_c2 (modular_Pow_all K) hn h

theorem modular_Pow_holds {K : Nat} {a : Int} {n : Int} {m : Int} {r : Int} (h : modular_Pow K a n m = some r) : Holds prog 178 [(ti .u32 a), (ti .u64 n), (ti .u32 m)] (ti .u32 r) :=
  holds_wk [[0]] (by kernel_rfl) (by simp) fun cx hn => modular_Pow_all K (.c0 a n m) r h cx hn
end Go.Am.X
namespace Go.Am.X
open Go.Proofs.Try (prog)


inductive modular_witness_Cut where
  | c0 (n : Int) (d : Int) (s : Int) (b : Int)
  | c1 (n : Int) (x : Int) (t30 : Int) (t31 : Int)

def modular_witness_go : Nat → modular_witness_Cut → Option Bool
  | 0, _ => none
  | K + 1, .c0 n d s b =>
    (modular_Pow K b (IntKind.u64.wrap d) n).bind fun x1 =>
    bif (decide (x1 = (1 : Int))) then
      some false
    else
      bif (decide (x1 = (IntKind.u32.wrap (n - (1 : Int))))) then
        some false
      else
        gd (n ≠ 0) <|
        bif (decide ((Int.tmod b n) = (0 : Int))) then
          some false
        else
          modular_witness_go K (.c1 n x1 (IntKind.i64.wrap (s - (1 : Int))) (0 : Int))
  | K + 1, .c1 n x t30 t31 =>
    bif (decide (t31 < t30)) then
      (modular_Mul K x x n).bind fun x2 =>
      bif (decide (x2 = (IntKind.u32.wrap (n - (1 : Int))))) then
        some false
      else
        modular_witness_go K (.c1 n x2 t30 (IntKind.i64.wrap (t31 + (1 : Int))))
    else
      some true

def modular_witness (K : Nat) (n : Int) (d : Int) (s : Int) (b : Int) : Option Bool := modular_witness_go K (.c0 n d s b)

noncomputable def modular_witness_body : Code := bodyOf prog 153
noncomputable def modular_witness_pos : modular_witness_Cut → List Fr
  | .c0 .. => [.code modular_witness_body]
  | .c1 .. => [.code (.loop (atC modular_witness_body [1,1,1,0,1,0,0])), .blk 0, .code (atC modular_witness_body [1,1,1,1])]
def modular_witness_st : modular_witness_Cut → St
  | .c0 n d s b => St.init [(ti .u32 n), (ti .u32 d), (ti .i64 s), (ti .u32 b)]
  | .c1 n x t30 t31 => ⟨[(0, vi .u32 n), (9, vi .u32 x), (30, vi .i64 t30), (31, vi .i64 t31)], [], []⟩

def modular_witness_S (cx : Cx) (c : modular_witness_Cut) (r : Bool) : Prop := Wk prog cx (EndsF prog 153 [[0]] (TV.c (T.bool r))) (modular_witness_pos c) .normal (modular_witness_st c)
abbrev modular_witness_H (K : Nat) : Prop := ∀ c r, modular_witness_go K c = some r → ∀ cx : Cx, cx.n = 42 → modular_witness_S cx c r

theorem modular_witness_c0 {K} (ih : modular_witness_H K) {cx} (hn : cx.n = 42) {n d s b} {r} (h : modular_witness_go (K + 1) (.c0 n d s b) = some r) : modular_witness_S cx (.c0 n d s b) r := by
  rw [modular_witness_go] at h
  obtain ⟨x1, h2, h⟩ := obind h
  rcases bcases h with ⟨h3, h⟩ | ⟨h3, h⟩
  · skip
    have h := Option.some.inj h; subst h
    exact wk_ret (fuel := 80) [.reg [oo], .reg [oo, oo, oo, oo, .op (.call [[0], [0], [0]] [(ti .u32 b), (TV.c (T.int .u64 (IntKind.u64.wrap d))), (ti .u32 n)] (ti .u32 x1)), oo], .reg [oo, oo, oo, .sb 17 true, oo, oo, oo, oo, oo, oo, oo, oo, oo, oo, oo], .br true, .reg [oo]] _ hn (by kernel_rfl) (aC (modular_Pow_holds h2) <| aC h3 <| aC rt <| aN)
  · skip
    rcases bcases h with ⟨h4, h⟩ | ⟨h4, h⟩
    · skip
      have h := Option.some.inj h; subst h
      exact wk_ret (fuel := 80) [.reg [oo], .reg [oo, oo, oo, oo, .op (.call [[0], [0], [0]] [(ti .u32 b), (TV.c (T.int .u64 (IntKind.u64.wrap d))), (ti .u32 n)] (ti .u32 x1)), oo], .reg [oo, oo, oo, .sb 17 false, oo, oo, oo, oo, oo, oo, .sb 23 true, oo, oo, oo, oo, oo], .br true, .reg [oo]] _ hn (by kernel_rfl) (aC (modular_Pow_holds h2) <| aC h3 <| aC h4 <| aC rt <| aN)
    · skip
      obtain ⟨h5, h⟩ := gd_some h
      rcases bcases h with ⟨h6, h⟩ | ⟨h6, h⟩
      · skip
        have h := Option.some.inj h; subst h
        exact wk_ret (fuel := 80) [.reg [oo], .reg [oo, oo, oo, oo, .op (.call [[0], [0], [0]] [(ti .u32 b), (TV.c (T.int .u64 (IntKind.u64.wrap d))), (ti .u32 n)] (ti .u32 x1)), oo], .reg [oo, oo, oo, .sb 17 false, oo, oo, oo, oo, oo, oo, .sb 23 false, oo, oo, .op .dv, oo, oo], .br true, .reg [oo]] _ hn (by kernel_rfl) (aC (modular_Pow_holds h2) <| aC h3 <| aC h4 <| aC h5 <| aC h6 <| aN)
      · skip
        exact wk_go (fuel := 82) [.reg [oo], .reg [oo, oo, oo, oo, .op (.call [[0], [0], [0]] [(ti .u32 b), (TV.c (T.int .u64 (IntKind.u64.wrap d))), (ti .u32 n)] (ti .u32 x1)), oo], .reg [oo, oo, oo, .sb 17 false, oo, oo, oo, oo, oo, oo, .sb 23 false, oo, oo, .op .dv, oo, oo], .br false, .reg [oo, oo, oo], .pre [.keep [0,9,30,31] []]] _ hn (by kernel_rfl) (aC (modular_Pow_holds h2) <| aC h3 <| aC h4 <| aC h5 <| aC h6 <| aN) (ih _ _ h cx hn)

theorem modular_witness_c1 {K} (ih : modular_witness_H K) {cx} (hn : cx.n = 42) {n x t30 t31} {r} (h : modular_witness_go (K + 1) (.c1 n x t30 t31) = some r) : modular_witness_S cx (.c1 n x t30 t31) r := by
  rw [modular_witness_go] at h
  rcases bcases h with ⟨h1, h⟩ | ⟨h1, h⟩
  · skip
    obtain ⟨x2, h3, h⟩ := obind h
    rcases bcases h with ⟨h4, h⟩ | ⟨h4, h⟩
    · skip
      have h := Option.some.inj h; subst h
      exact wk_ret (fuel := 108) [.go, .reg [oo], .br true, .reg [oo, oo, oo, .op (.call [[0], [0], [0]] [(ti .u32 x), (ti .u32 x), (ti .u32 n)] (ti .u32 x2)), oo], .reg [oo, oo, oo, oo], .br true, .reg [oo]] _ hn (by kernel_rfl) (aC h1 <| aC (modular_Mul_holds h3) <| aC h4 <| aN)
    · skip
      exact wk_go (fuel := 100) [.go, .reg [oo], .br true, .reg [oo, oo, oo, .op (.call [[0], [0], [0]] [(ti .u32 x), (ti .u32 x), (ti .u32 n)] (ti .u32 x2)), oo], .reg [oo, oo, oo, oo], .br false, .reg [oo, oo], .pre [.keep [0,9,30,31] []]] _ hn (by kernel_rfl) (aC h1 <| aC (modular_Mul_holds h3) <| aC h4 <| aN) (ih _ _ h cx hn)
  · skip
    have h := Option.some.inj h; subst h
    exact wk_ret (fuel := 78) [.go, .reg [oo], .br false, .reg [oo]] _ hn (by kernel_rfl) (aC h1 <| aN)

theorem modular_witness_all : ∀ K : Nat, modular_witness_H K
  | 0, c, r, h => by rw [modular_witness_go] at h; cases h
  | K + 1, .c0 .., r, h => fun cx hn => modular_witness_c0 (modular_witness_all K) hn h
  | K + 1, .c1 .., r, h => fun cx hn => modular_witness_c1 (modular_witness_all K) hn h

theorem modular_witness_holds {K : Nat} {n : Int} {d : Int} {s : Int} {b : Int} {r : Bool} (h : modular_witness K n d s b = some r) : Holds prog 153 [(ti .u32 n), (ti .u32 d), (ti .i64 s), (ti .u32 b)] (TV.c (T.bool r)) :=
  holds_wk [[0]] (by kernel_rfl) (by simp) fun cx hn => modular_witness_all K (.c0 n d s b) r h cx hn
end Go.Am.X
namespace Go.Am.X
open Go.Proofs.Try (prog)


inductive modular_IsPrime_Cut where
  | c0 (n : Int)
  | c1 (n : Int) (d : Int) (s : Int)

def modular_IsPrime_go : Nat → modular_IsPrime_Cut → Option Bool
  | 0, _ => none
  | K + 1, .c0 n =>
    bif (decide (n < (4 : Int))) then
      bif (decide (n = (2 : Int))) then
        some true
      else
        some (decide (n = (3 : Int)))
    else
      bif (decide ((Int.tmod n (2 : Int)) = (0 : Int))) then
        bif (decide (n = (2 : Int))) then
          some true
        else
          some (decide (n = (3 : Int)))
      else
        modular_IsPrime_go K (.c1 n (IntKind.u32.wrap (n - (1 : Int))) (0 : Int))
  | K + 1, .c1 n d s =>
    bif (decide ((Int.tmod d (2 : Int)) = (0 : Int))) then
      modular_IsPrime_go K (.c1 n (IntKind.u32.wrap (Int.tdiv d (2 : Int))) (IntKind.i64.wrap (s + (1 : Int))))
    else
      (modular_witness K n d s (2 : Int)).bind fun x2 =>
      bif (!x2) then
        (modular_witness K n d s (7 : Int)).bind fun x5 =>
        bif (!x5) then
          (modular_witness K n d s (61 : Int)).bind fun x8 =>
          some (!x8)
        else
          some false
      else
        some false

def modular_IsPrime (K : Nat) (n : Int) : Option Bool := modular_IsPrime_go K (.c0 n)

noncomputable def modular_IsPrime_body : Code := bodyOf prog 111
noncomputable def modular_IsPrime_pos : modular_IsPrime_Cut → List Fr
  | .c0 .. => [.code modular_IsPrime_body]
  | .c1 .. => [.code (.loop (atC modular_IsPrime_body [1,1,1,0,0,0])), .blk 0, .code (atC modular_IsPrime_body [1,1,1,1])]
def modular_IsPrime_st : modular_IsPrime_Cut → St
  | .c0 n => St.init [(ti .u32 n)]
  | .c1 n d s => ⟨[(0, vi .u32 n), (3, vi .u32 d), (4, vi .i64 s)], [], []⟩

def modular_IsPrime_S (cx : Cx) (c : modular_IsPrime_Cut) (r : Bool) : Prop := Wk prog cx (EndsF prog 111 [[0]] (TV.c (T.bool r))) (modular_IsPrime_pos c) .normal (modular_IsPrime_st c)
abbrev modular_IsPrime_H (K : Nat) : Prop := ∀ c r, modular_IsPrime_go K c = some r → ∀ cx : Cx, cx.n = 46 → modular_IsPrime_S cx c r

theorem modular_IsPrime_c0 {K} (ih : modular_IsPrime_H K) {cx} (hn : cx.n = 46) {n} {r} (h : modular_IsPrime_go (K + 1) (.c0 n) = some r) : modular_IsPrime_S cx (.c0 n) r := by
  rw [modular_IsPrime_go] at h
  rcases bcases h with ⟨h1, h⟩ | ⟨h1, h⟩
  · skip
    rcases bcases h with ⟨h2, h⟩ | ⟨h2, h⟩
    · skip
      have h := Option.some.inj h; subst h
      exact wk_ret (fuel := 72) [.reg [oo], .reg [oo, oo, oo, .sb 7 true, oo, oo, oo, oo], .br true, .reg [oo, oo, oo, .sb 14 true, oo, oo, oo, oo]] _ hn (by kernel_rfl) (aC h1 <| aC rt <| aC h2 <| aN)
    · skip
      have h := Option.some.inj h; subst h
      exact wk_ret (fuel := 72) [.reg [oo], .reg [oo, oo, oo, .sb 7 true, oo, oo, oo, oo], .br true, .reg [oo, oo, oo, .sb 14 false, oo, oo, oo, oo]] _ hn (by kernel_rfl) (aC h1 <| aC rt <| aC h2 <| aN)
  · skip
    rcases bcases h with ⟨h2, h⟩ | ⟨h2, h⟩
    · skip
      rcases bcases h with ⟨h3, h⟩ | ⟨h3, h⟩
      · skip
        have h := Option.some.inj h; subst h
        exact wk_ret (fuel := 72) [.reg [oo], .reg [oo, oo, oo, .sb 7 false, oo, oo, oo, oo], .br true, .reg [oo, oo, oo, .sb 14 true, oo, oo, oo, oo]] _ hn (by kernel_rfl) (aC h1 <| aC h2 <| aC h3 <| aN)
      · skip
        have h := Option.some.inj h; subst h
        exact wk_ret (fuel := 72) [.reg [oo], .reg [oo, oo, oo, .sb 7 false, oo, oo, oo, oo], .br true, .reg [oo, oo, oo, .sb 14 false, oo, oo, oo, oo]] _ hn (by kernel_rfl) (aC h1 <| aC h2 <| aC h3 <| aN)
    · skip
      exact wk_go (fuel := 74) [.reg [oo], .reg [oo, oo, oo, .sb 7 false, oo, oo, oo, oo], .br false, .reg [oo, oo, oo, oo], .pre [.keep [0,3,4] []]] _ hn (by kernel_rfl) (aC h1 <| aC h2 <| aN) (ih _ _ h cx hn)

theorem modular_IsPrime_c1 {K} (ih : modular_IsPrime_H K) {cx} (hn : cx.n = 46) {n d s} {r} (h : modular_IsPrime_go (K + 1) (.c1 n d s) = some r) : modular_IsPrime_S cx (.c1 n d s) r := by
  rw [modular_IsPrime_go] at h
  rcases bcases h with ⟨h1, h⟩ | ⟨h1, h⟩
  · skip
    exact wk_go (fuel := 74) [.go, .reg [oo, oo, oo], .br true, .reg [oo, oo, oo, oo, oo, oo], .pre [.keep [0,3,4] []]] _ hn (by kernel_rfl) (aC h1 <| aN) (ih _ _ h cx hn)
  · skip
    obtain ⟨x2, h3, h⟩ := obind h
    rcases bcases h with ⟨h4, h⟩ | ⟨h4, h⟩
    · skip
      obtain ⟨x5, h6, h⟩ := obind h
      rcases bcases h with ⟨h7, h⟩ | ⟨h7, h⟩
      · skip
        obtain ⟨x8, h9, h⟩ := obind h
        have h := Option.some.inj h; subst h
        exact wk_ret (fuel := 78) [.go, .reg [oo, oo, oo], .br false, .reg [oo, oo, oo, .op (.call [[0], [0], [0], [0]] [(ti .u32 n), (ti .u32 d), (ti .i64 s), (TV.c (T.int .u32 (2 : Int)))] (TV.c (T.bool x2))), oo, oo, .sb 32 true, oo, oo, oo, .op (.call [[0], [0], [0], [0]] [(ti .u32 n), (ti .u32 d), (ti .i64 s), (TV.c (T.int .u32 (7 : Int)))] (TV.c (T.bool x5))), oo, oo, oo, .sb 39 true, oo, oo, oo, .op (.call [[0], [0], [0], [0]] [(ti .u32 n), (ti .u32 d), (ti .i64 s), (TV.c (T.int .u32 (61 : Int)))] (TV.c (T.bool x8))), oo, oo, oo]] _ hn (by kernel_rfl) (aC h1 <| aC (modular_witness_holds h3) <| aC h4 <| aC (modular_witness_holds h6) <| aC h7 <| aC (modular_witness_holds h9) <| aN)
      · skip
        have h := Option.some.inj h; subst h
        exact wk_ret (fuel := 78) [.go, .reg [oo, oo, oo], .br false, .reg [oo, oo, oo, .op (.call [[0], [0], [0], [0]] [(ti .u32 n), (ti .u32 d), (ti .i64 s), (TV.c (T.int .u32 (2 : Int)))] (TV.c (T.bool x2))), oo, oo, .sb 32 true, oo, oo, oo, .op (.call [[0], [0], [0], [0]] [(ti .u32 n), (ti .u32 d), (ti .i64 s), (TV.c (T.int .u32 (7 : Int)))] (TV.c (T.bool x5))), oo, oo, oo, .sb 39 false, oo, oo, oo, oo, oo, oo, oo]] _ hn (by kernel_rfl) (aC h1 <| aC (modular_witness_holds h3) <| aC h4 <| aC (modular_witness_holds h6) <| aC h7 <| aN)
    · skip
      have h := Option.some.inj h; subst h
      exact wk_ret (fuel := 78) [.go, .reg [oo, oo, oo], .br false, .reg [oo, oo, oo, .op (.call [[0], [0], [0], [0]] [(ti .u32 n), (ti .u32 d), (ti .i64 s), (TV.c (T.int .u32 (2 : Int)))] (TV.c (T.bool x2))), oo, oo, .sb 32 false, oo, oo, oo, oo, oo, oo, oo, oo, oo, oo, oo, oo, oo, oo]] _ hn (by kernel_rfl) (aC h1 <| aC (modular_witness_holds h3) <| aC h4 <| aN)

theorem modular_IsPrime_all : ∀ K : Nat, modular_IsPrime_H K
  | 0, c, r, h => by rw [modular_IsPrime_go] at h; cases h
  | K + 1, .c0 .., r, h => fun cx hn => modular_IsPrime_c0 (modular_IsPrime_all K) hn h
  | K + 1, .c1 .., r, h => fun cx hn => modular_IsPrime_c1 (modular_IsPrime_all K) hn h

theorem modular_IsPrime_holds {K : Nat} {n : Int} {r : Bool} (h : modular_IsPrime K n = some r) : Holds prog 111 [(ti .u32 n)] (TV.c (T.bool r)) :=
  holds_wk [[0]] (by kernel_rfl) (by simp) fun cx hn => modular_IsPrime_all K (.c0 n) r h cx hn
end Go.Am.X
namespace Go.Am.X
open Go.Proofs.Try (prog)


inductive modpoly_Gcd_Cut where
  | c0 (f : (List Int)) (g : (List Int)) (p : Int)

def modpoly_Gcd_go : Nat → modpoly_Gcd_Cut → Option ((List Int) × Int)
  | 0, _ => none
  | K + 1, .c0 f g p =>
    (modular_IsPrime K p).bind fun x1 =>
    bif (!x1) then
      some ([], (1 : Int))
    else
      (modpoly_Normal K f p).bind fun x4 =>
      (modpoly_Normal K g p).bind fun x6 =>
      (modpoly_gcd K x4 x6 p).bind fun x8 =>
      some (x8, (0 : Int))

def modpoly_Gcd (K : Nat) (f : (List Int)) (g : (List Int)) (p : Int) : Option ((List Int) × Int) := modpoly_Gcd_go K (.c0 f g p)

noncomputable def modpoly_Gcd_body : Code := bodyOf prog 121
noncomputable def modpoly_Gcd_pos : modpoly_Gcd_Cut → List Fr
  | .c0 .. => [.code modpoly_Gcd_body]
def modpoly_Gcd_st : modpoly_Gcd_Cut → St
  | .c0 f g p => St.init [(tl 1 f ce_u32), (tl 1 g ce_u32), (ti .u32 p)]

def modpoly_Gcd_S (cx : Cx) (c : modpoly_Gcd_Cut) (r : ((List Int) × Int)) : Prop := Wk prog cx (EndsF prog 121 [[1], [0]] (TV.tup [(false, [(T.sl 1 (r.1.map ce_u32))]), (false, [(T.int .i64 r.2)])])) (modpoly_Gcd_pos c) .normal (modpoly_Gcd_st c)
abbrev modpoly_Gcd_H (K : Nat) : Prop := ∀ c r, modpoly_Gcd_go K c = some r → ∀ cx : Cx, cx.n = 19 → modpoly_Gcd_S cx c r

theorem modpoly_Gcd_c0 {K} (_ : modpoly_Gcd_H K) {cx} (hn : cx.n = 19) {f g p} {r} (h : modpoly_Gcd_go (K + 1) (.c0 f g p) = some r) : modpoly_Gcd_S cx (.c0 f g p) r := by
  rw [modpoly_Gcd_go] at h
  obtain ⟨x1, h2, h⟩ := obind h
  rcases bcases h with ⟨h3, h⟩ | ⟨h3, h⟩
  · skip
    have h := Option.some.inj h; subst h
    exact wk_ret (fuel := 72) [.reg [oo, oo], .reg [oo, .op (.call [[0]] [(ti .u32 p)] (TV.c (T.bool x1))), oo], .br true, .reg [oo, oo]] _ hn (by kernel_rfl) (aC (modular_IsPrime_holds h2) <| aC h3 <| aN)
  · skip
    obtain ⟨x4, h5, h⟩ := obind h
    obtain ⟨x6, h7, h⟩ := obind h
    obtain ⟨x8, h9, h⟩ := obind h
    have h := Option.some.inj h; subst h
    exact wk_ret (fuel := 72) [.reg [oo, oo], .reg [oo, .op (.call [[0]] [(ti .u32 p)] (TV.c (T.bool x1))), oo], .br false, .reg [oo, oo, .op (.call [[1], [0]] [(tl 1 f ce_u32), (ti .u32 p)] (tl 1 x4 ce_u32)), oo, oo, .op (.call [[1], [0]] [(tl 1 g ce_u32), (ti .u32 p)] (tl 1 x6 ce_u32)), oo, .op (.call [[1], [1], [0]] [(tl 1 x4 ce_u32), (tl 1 x6 ce_u32), (ti .u32 p)] (tl 1 x8 ce_u32)), oo, oo]] _ hn (by kernel_rfl) (aC (modular_IsPrime_holds h2) <| aC h3 <| aC (modpoly_Normal_holds h5) <| aC (modpoly_Normal_holds h7) <| aC (modpoly_gcd_holds h9) <| aN)

theorem modpoly_Gcd_all : ∀ K : Nat, modpoly_Gcd_H K
  | 0, c, r, h => by rw [modpoly_Gcd_go] at h; cases h
  | K + 1, .c0 .., r, h => fun cx hn => modpoly_Gcd_c0 (modpoly_Gcd_all K) hn h

theorem modpoly_Gcd_holds {K : Nat} {f : (List Int)} {g : (List Int)} {p : Int} {r : ((List Int) × Int)} (h : modpoly_Gcd K f g p = some r) : Holds prog 121 [(tl 1 f ce_u32), (tl 1 g ce_u32), (ti .u32 p)] (TV.tup [(false, [(T.sl 1 (r.1.map ce_u32))]), (false, [(T.int .i64 r.2)])]) :=
  holds_wk [[1], [0]] (by kernel_rfl) (by simp) fun cx hn => modpoly_Gcd_all K (.c0 f g p) r h cx hn
end Go.Am.X
namespace Go.Am.X
open Go.Proofs.Try (prog)


inductive hensel_check_Cut where
  | c0 (list : (List (List Int))) (p : Int)
  | c1 (list : (List (List Int))) (p : Int) (t13 : (List (List Int))) (t14 : Int) (t15 : Int)
  | c2 (list : (List (List Int))) (p : Int) (t24 : (List (List Int))) (t25 : Int) (t26 : Int)
  | c3 (list : (List (List Int))) (p : Int) (g : (List Int)) (t24 : (List (List Int))) (t25 : Int) (t26 : Int) (t33 : (List (List Int))) (t34 : Int) (t35 : Int)

def hensel_check_go : Nat → hensel_check_Cut → Option Int
  | 0, _ => none
  | K + 1, .c0 list p =>
    hensel_check_go K (.c1 list p list (list.length : Int) (0 : Int))
  | K + 1, .c1 list p t13 t14 t15 =>
    bif (decide (t15 < t14)) then
      (gi t13 t15).bind fun x2 =>
      (modpoly_Degree K x2 p).bind fun x4 =>
      bif (decide (x4 < (1 : Int))) then
        some (12 : Int)
      else
        hensel_check_go K (.c1 list p t13 t14 (IntKind.i64.wrap (t15 + (1 : Int))))
    else
      hensel_check_go K (.c2 list p list (list.length : Int) (0 : Int))
  | K + 1, .c2 list p t24 t25 t26 =>
    bif (decide (t26 < t25)) then
      (gi t24 t26).bind fun x2 =>
      gd (0 ≤ t26 ∧ 0 ≤ t26.toNat ∧ t26.toNat ≤ list.length) <|
      hensel_check_go K (.c3 list p x2 t24 t25 t26 (list.take t26.toNat) ((list.take t26.toNat).length : Int) (0 : Int))
    else
      some (0 : Int)
  | K + 1, .c3 list p g t24 t25 t26 t33 t34 t35 =>
    bif (decide (t35 < t34)) then
      (gi t33 t35).bind fun x2 =>
      (modpoly_Gcd K g x2 p).bind fun x4 =>
      bif (decide ((1 : Int) < (x4.1.length : Int))) then
        some (5 : Int)
      else
        hensel_check_go K (.c3 list p g t24 t25 t26 t33 t34 (IntKind.i64.wrap (t35 + (1 : Int))))
    else
      hensel_check_go K (.c2 list p t24 t25 (IntKind.i64.wrap (t26 + (1 : Int))))

def hensel_check (K : Nat) (list : (List (List Int))) (p : Int) : Option Int := hensel_check_go K (.c0 list p)

noncomputable def hensel_check_body : Code := bodyOf prog 112
noncomputable def hensel_check_pos : hensel_check_Cut → List Fr
  | .c0 .. => [.code hensel_check_body]
  | .c1 .. => [.code (.loop (atC hensel_check_body [1,0,1,0,0])), .blk 0, .code (atC hensel_check_body [1,1])]
  | .c2 .. => [.code (.loop (atC hensel_check_body [1,1,0,1,0,0])), .blk 2, .code (atC hensel_check_body [1,1,1])]
  | .c3 .. => [.code (.loop (atC hensel_check_body [1,1,0,1,0,0,1,1,0,0,1,1,0,0])), .blk 4, .blk 3, .code (atC hensel_check_body [1,1,0,1,0,0,1,1,1]), .lp (atC hensel_check_body [1,1,0,1,0,0]), .blk 2, .code (atC hensel_check_body [1,1,1])]
def hensel_check_st : hensel_check_Cut → St
  | .c0 list p => St.init [(tl 1 list ce_Lu32), (ti .u32 p)]
  | .c1 list p t13 t14 t15 => ⟨[(0, vl 1 list ce_Lu32), (1, vi .u32 p), (13, vl 1 t13 ce_Lu32), (14, vi .i64 t14), (15, vi .i64 t15)], [], []⟩
  | .c2 list p t24 t25 t26 => ⟨[(0, vl 1 list ce_Lu32), (1, vi .u32 p), (24, vl 1 t24 ce_Lu32), (25, vi .i64 t25), (26, vi .i64 t26)], [], []⟩
  | .c3 list p g t24 t25 t26 t33 t34 t35 => ⟨[(0, vl 1 list ce_Lu32), (1, vi .u32 p), (8, vl 1 g ce_u32), (24, vl 1 t24 ce_Lu32), (25, vi .i64 t25), (26, vi .i64 t26), (33, vl 1 t33 ce_Lu32), (34, vi .i64 t34), (35, vi .i64 t35)], [], []⟩

def hensel_check_S (cx : Cx) (c : hensel_check_Cut) (r : Int) : Prop := Wk prog cx (EndsF prog 112 [[0]] (ti .i64 r)) (hensel_check_pos c) .normal (hensel_check_st c)
abbrev hensel_check_H (K : Nat) : Prop := ∀ c r, hensel_check_go K c = some r → ∀ cx : Cx, cx.n = 51 → hensel_check_S cx c r

theorem hensel_check_c0 {K} (ih : hensel_check_H K) {cx} (hn : cx.n = 51) {list p} {r} (h : hensel_check_go (K + 1) (.c0 list p) = some r) : hensel_check_S cx (.c0 list p) r := by
  rw [hensel_check_go] at h
  exact wk_go (fuel := 56) [.reg [oo], .reg [oo, .op (.ln (list.length : Int)), oo], .pre [.keep [0,1,13,14,15] []]] _ hn (by kernel_rfl) (aC (ln_eq list ce_Lu32) <| aN) (ih _ _ h cx hn)

theorem hensel_check_c1 {K} (ih : hensel_check_H K) {cx} (hn : cx.n = 51) {list p t13 t14 t15} {r} (h : hensel_check_go (K + 1) (.c1 list p t13 t14 t15) = some r) : hensel_check_S cx (.c1 list p t13 t14 t15) r := by
  rw [hensel_check_go] at h
  rcases bcases h with ⟨h1, h⟩ | ⟨h1, h⟩
  · skip
    obtain ⟨x2, h3, h⟩ := obind h
    obtain ⟨x4, h5, h⟩ := obind h
    rcases bcases h with ⟨h6, h⟩ | ⟨h6, h⟩
    · skip
      have h := Option.some.inj h; subst h
      exact wk_ret (fuel := 108) [.go, .reg [oo], .br true, .reg [.op (.ix (ce_Lu32 x2)), oo, oo], .reg [oo, oo, .op (.call [[1], [0]] [(tl 1 x2 ce_u32), (ti .u32 p)] (ti .i64 x4)), oo], .br true, .reg [oo]] _ hn (by kernel_rfl) (aC h1 <| aC (gi_nn h3) <| aC (gi_at ce_Lu32 h3) <| aC (modpoly_Degree_holds h5) <| aC h6 <| aN)
    · skip
      exact wk_go (fuel := 100) [.go, .reg [oo], .br true, .reg [.op (.ix (ce_Lu32 x2)), oo, oo], .reg [oo, oo, .op (.call [[1], [0]] [(tl 1 x2 ce_u32), (ti .u32 p)] (ti .i64 x4)), oo], .br false, .reg [oo, oo], .pre [.keep [0,1,13,14,15] []]] _ hn (by kernel_rfl) (aC h1 <| aC (gi_nn h3) <| aC (gi_at ce_Lu32 h3) <| aC (modpoly_Degree_holds h5) <| aC h6 <| aN) (ih _ _ h cx hn)
  · skip
    exact wk_go (fuel := 80) [.go, .reg [oo], .br false, .reg [oo, .op (.ln (list.length : Int)), oo], .pre [.keep [0,1,24,25,26] []]] _ hn (by kernel_rfl) (aC h1 <| aC (ln_eq list ce_Lu32) <| aN) (ih _ _ h cx hn)

theorem hensel_check_c2 {K} (ih : hensel_check_H K) {cx} (hn : cx.n = 51) {list p t24 t25 t26} {r} (h : hensel_check_go (K + 1) (.c2 list p t24 t25 t26) = some r) : hensel_check_S cx (.c2 list p t24 t25 t26) r := by
  rw [hensel_check_go] at h
  rcases bcases h with ⟨h1, h⟩ | ⟨h1, h⟩
  · skip
    obtain ⟨x2, h3, h⟩ := obind h
    obtain ⟨h4, h⟩ := gd_some h
    exact wk_go (fuel := 84) [.go, .reg [oo], .br true, .reg [oo, .op (.ix (ce_Lu32 x2)), oo, oo, oo], .reg [oo, oo, .op (.slT 0 t26.toNat ((list.take t26.toNat).map ce_Lu32)), .op (.ln ((list.take t26.toNat).length : Int)), oo], .pre [.keep [0,1,8,24,25,26,33,34,35] []]] _ hn (by kernel_rfl) (aC h1 <| aC (gi_nn h3) <| aC (gi_at ce_Lu32 h3) <| aC r0 <| aC (⟨h4.1, rfl⟩ : 0 ≤ t26 ∧ t26.toNat = t26.toNat) <| aC h4.2.1 <| aC (ln_le _ h4.2.2 : t26.toNat ≤ (list.map ce_Lu32).length) <| aC (tk0_map _ _ _ : ((list.map ce_Lu32).take t26.toNat).drop 0 = (list.take t26.toNat).map ce_Lu32) <| aC (ln_eq (list.take t26.toNat) ce_Lu32) <| aN) (ih _ _ h cx hn)
  · skip
    have h := Option.some.inj h; subst h
    exact wk_ret (fuel := 78) [.go, .reg [oo], .br false, .reg [oo]] _ hn (by kernel_rfl) (aC h1 <| aN)

theorem hensel_check_c3 {K} (ih : hensel_check_H K) {cx} (hn : cx.n = 51) {list p g t24 t25 t26 t33 t34 t35} {r} (h : hensel_check_go (K + 1) (.c3 list p g t24 t25 t26 t33 t34 t35) = some r) : hensel_check_S cx (.c3 list p g t24 t25 t26 t33 t34 t35) r := by
  rw [hensel_check_go] at h
  rcases bcases h with ⟨h1, h⟩ | ⟨h1, h⟩
  · skip
    obtain ⟨x2, h3, h⟩ := obind h
    obtain ⟨x4, h5, h⟩ := obind h
    rcases bcases h with ⟨h6, h⟩ | ⟨h6, h⟩
    · skip
      have h := Option.some.inj h; subst h
      exact wk_ret (fuel := 124) [.go, .reg [oo], .br true, .reg [.op (.ix (ce_Lu32 x2)), oo, oo], .reg [oo, oo, oo, .op (.call [[1], [1], [0]] [(tl 1 g ce_u32), (tl 1 x2 ce_u32), (ti .u32 p)] (TV.tup [(false, [(T.sl 1 (x4.1.map ce_u32))]), (false, [(T.int .i64 x4.2)])])), oo, oo, oo, oo, oo], .reg [oo, .op (.ln (x4.1.length : Int)), oo], .br true, .reg [oo]] _ hn (by kernel_rfl) (aC h1 <| aC (gi_nn h3) <| aC (gi_at ce_Lu32 h3) <| aC (modpoly_Gcd_holds h5) <| aC (ln_eq x4.1 ce_u32) <| aC h6 <| aN)
    · skip
      exact wk_go (fuel := 108) [.go, .reg [oo], .br true, .reg [.op (.ix (ce_Lu32 x2)), oo, oo], .reg [oo, oo, oo, .op (.call [[1], [1], [0]] [(tl 1 g ce_u32), (tl 1 x2 ce_u32), (ti .u32 p)] (TV.tup [(false, [(T.sl 1 (x4.1.map ce_u32))]), (false, [(T.int .i64 x4.2)])])), oo, oo, oo, oo, oo], .reg [oo, .op (.ln (x4.1.length : Int)), oo], .br false, .reg [oo, oo], .pre [.keep [0,1,8,24,25,26,33,34,35] []]] _ hn (by kernel_rfl) (aC h1 <| aC (gi_nn h3) <| aC (gi_at ce_Lu32 h3) <| aC (modpoly_Gcd_holds h5) <| aC (ln_eq x4.1 ce_u32) <| aC h6 <| aN) (ih _ _ h cx hn)
  · skip
    exact wk_go (fuel := 78) [.go, .reg [oo], .br false, .reg [oo, oo], .pre [.keep [0,1,24,25,26] []]] _ hn (by kernel_rfl) (aC h1 <| aN) (ih _ _ h cx hn)

theorem hensel_check_all : ∀ K : Nat, hensel_check_H K
  | 0, c, r, h => by rw [hensel_check_go] at h; cases h
  | K + 1, .c0 .., r, h => fun cx hn => hensel_check_c0 (hensel_check_all K) hn h
  | K + 1, .c1 .., r, h => fun cx hn => hensel_check_c1 (hensel_check_all K) hn h
  | K + 1, .c2 .., r, h => fun cx hn => hensel_check_c2 (hensel_check_all K) hn h
  | K + 1, .c3 .., r, h => fun cx hn => hensel_check_c3 (hensel_check_all K) hn h

theorem hensel_check_holds {K : Nat} {list : (List (List Int))} {p : Int} {r : Int} (h : hensel_check K list p = some r) : Holds prog 112 [(tl 1 list ce_Lu32), (ti .u32 p)] (ti .i64 r) :=
  holds_wk [[0]] (by kernel_rfl) (by simp) fun cx hn => hensel_check_all K (.c0 list p) r h cx hn
end Go.Am.X
namespace Go.Am.X
open Go.Proofs.Try (prog)


inductive modpoly_Divide_Cut where
  | c0 (f : (List Int)) (g : (List Int)) (p : Int)

def modpoly_Divide_go : Nat → modpoly_Divide_Cut → Option ((List Int) × (List Int) × Int)
  | 0, _ => none
  | K + 1, .c0 f g p =>
    (modular_IsPrime K p).bind fun x1 =>
    bif (!x1) then
      some ([], [], (1 : Int))
    else
      (modpoly_Normal K f p).bind fun x4 =>
      (modpoly_Normal K g p).bind fun x6 =>
      bif (decide ((x6.length : Int) = (0 : Int))) then
        some ([], [], (2 : Int))
      else
        (modpoly_divide K x4 x6 p).bind fun x9 =>
        some (x9.1, x9.2, (0 : Int))

def modpoly_Divide (K : Nat) (f : (List Int)) (g : (List Int)) (p : Int) : Option ((List Int) × (List Int) × Int) := modpoly_Divide_go K (.c0 f g p)

noncomputable def modpoly_Divide_body : Code := bodyOf prog 118
noncomputable def modpoly_Divide_pos : modpoly_Divide_Cut → List Fr
  | .c0 .. => [.code modpoly_Divide_body]
def modpoly_Divide_st : modpoly_Divide_Cut → St
  | .c0 f g p => St.init [(tl 1 f ce_u32), (tl 1 g ce_u32), (ti .u32 p)]

def modpoly_Divide_S (cx : Cx) (c : modpoly_Divide_Cut) (r : ((List Int) × (List Int) × Int)) : Prop := Wk prog cx (EndsF prog 118 [[1], [1], [0]] (TV.tup [(false, [(T.sl 1 (r.1.map ce_u32))]), (false, [(T.sl 1 (r.2.1.map ce_u32))]), (false, [(T.int .i64 r.2.2)])])) (modpoly_Divide_pos c) .normal (modpoly_Divide_st c)
abbrev modpoly_Divide_H (K : Nat) : Prop := ∀ c r, modpoly_Divide_go K c = some r → ∀ cx : Cx, cx.n = 32 → modpoly_Divide_S cx c r

theorem modpoly_Divide_c0 {K} (_ : modpoly_Divide_H K) {cx} (hn : cx.n = 32) {f g p} {r} (h : modpoly_Divide_go (K + 1) (.c0 f g p) = some r) : modpoly_Divide_S cx (.c0 f g p) r := by
  rw [modpoly_Divide_go] at h
  obtain ⟨x1, h2, h⟩ := obind h
  rcases bcases h with ⟨h3, h⟩ | ⟨h3, h⟩
  · skip
    have h := Option.some.inj h; subst h
    exact wk_ret (fuel := 72) [.reg [oo, oo, oo], .reg [oo, .op (.call [[0]] [(ti .u32 p)] (TV.c (T.bool x1))), oo], .br true, .reg [oo, oo, oo]] _ hn (by kernel_rfl) (aC (modular_IsPrime_holds h2) <| aC h3 <| aN)
  · skip
    obtain ⟨x4, h5, h⟩ := obind h
    obtain ⟨x6, h7, h⟩ := obind h
    rcases bcases h with ⟨h8, h⟩ | ⟨h8, h⟩
    · skip
      have h := Option.some.inj h; subst h
      exact wk_ret (fuel := 98) [.reg [oo, oo, oo], .reg [oo, .op (.call [[0]] [(ti .u32 p)] (TV.c (T.bool x1))), oo], .br false, .reg [oo, oo, .op (.call [[1], [0]] [(tl 1 f ce_u32), (ti .u32 p)] (tl 1 x4 ce_u32)), oo, oo, .op (.call [[1], [0]] [(tl 1 g ce_u32), (ti .u32 p)] (tl 1 x6 ce_u32)), oo, oo], .reg [oo, .op (.ln (x6.length : Int)), oo], .br true, .reg [oo, oo, oo]] _ hn (by kernel_rfl) (aC (modular_IsPrime_holds h2) <| aC h3 <| aC (modpoly_Normal_holds h5) <| aC (modpoly_Normal_holds h7) <| aC (ln_eq x6 ce_u32) <| aC h8 <| aN)
    · skip
      obtain ⟨x9, h10, h⟩ := obind h
      have h := Option.some.inj h; subst h
      exact wk_ret (fuel := 106) [.reg [oo, oo, oo], .reg [oo, .op (.call [[0]] [(ti .u32 p)] (TV.c (T.bool x1))), oo], .br false, .reg [oo, oo, .op (.call [[1], [0]] [(tl 1 f ce_u32), (ti .u32 p)] (tl 1 x4 ce_u32)), oo, oo, .op (.call [[1], [0]] [(tl 1 g ce_u32), (ti .u32 p)] (tl 1 x6 ce_u32)), oo, oo], .reg [oo, .op (.ln (x6.length : Int)), oo], .br false, .reg [oo, oo, oo, .op (.call [[1], [1], [0]] [(tl 1 x4 ce_u32), (tl 1 x6 ce_u32), (ti .u32 p)] (TV.tup [(false, [(T.sl 1 (x9.1.map ce_u32))]), (false, [(T.sl 1 (x9.2.map ce_u32))])])), oo, oo, oo, oo, oo], .reg [oo, oo, oo, oo, oo]] _ hn (by kernel_rfl) (aC (modular_IsPrime_holds h2) <| aC h3 <| aC (modpoly_Normal_holds h5) <| aC (modpoly_Normal_holds h7) <| aC (ln_eq x6 ce_u32) <| aC h8 <| aC (modpoly_divide_holds h10) <| aN)

theorem modpoly_Divide_all : ∀ K : Nat, modpoly_Divide_H K
  | 0, c, r, h => by rw [modpoly_Divide_go] at h; cases h
  | K + 1, .c0 .., r, h => fun cx hn => modpoly_Divide_c0 (modpoly_Divide_all K) hn h

theorem modpoly_Divide_holds {K : Nat} {f : (List Int)} {g : (List Int)} {p : Int} {r : ((List Int) × (List Int) × Int)} (h : modpoly_Divide K f g p = some r) : Holds prog 118 [(tl 1 f ce_u32), (tl 1 g ce_u32), (ti .u32 p)] (TV.tup [(false, [(T.sl 1 (r.1.map ce_u32))]), (false, [(T.sl 1 (r.2.1.map ce_u32))]), (false, [(T.int .i64 r.2.2)])]) :=
  holds_wk [[1], [1], [0]] (by kernel_rfl) (by simp) fun cx hn => modpoly_Divide_all K (.c0 f g p) r h cx hn
end Go.Am.X
namespace Go.Am.X
open Go.Proofs.Try (prog)


inductive modpoly_Mul_Cut where
  | c0 (f : (List Int)) (g : (List Int)) (m : Int)
  | c1 (r26 : (List Int)) (g : (List Int)) (m : Int) (t27 : (List Int)) (t28 : Int) (t29 : Int)
  | c2 (r26 : (List Int)) (g : (List Int)) (m : Int) (i : Int) (a : Int) (t27 : (List Int)) (t28 : Int) (t29 : Int) (t34 : (List Int)) (t35 : Int) (t36 : Int)

def modpoly_Mul_go : Nat → modpoly_Mul_Cut → Option (List Int)
  | 0, _ => none
  | K + 1, .c0 f g m =>
    bif (decide ((f.length : Int) = (0 : Int))) then
      some []
    else
      bif (decide ((g.length : Int) = (0 : Int))) then
        some []
      else
        gd (0 ≤ (IntKind.i64.wrap ((IntKind.i64.wrap ((f.length : Int) + (g.length : Int))) - (1 : Int))) ∧ (IntKind.i64.wrap ((IntKind.i64.wrap ((f.length : Int) + (g.length : Int))) - (1 : Int))) ≤ (IntKind.i64.wrap ((IntKind.i64.wrap ((f.length : Int) + (g.length : Int))) - (1 : Int))) ∧ (4 : Int) * (IntKind.i64.wrap ((IntKind.i64.wrap ((f.length : Int) + (g.length : Int))) - (1 : Int))) ≤ 140737488355328) <|
        modpoly_Mul_go K (.c1 (List.replicate (IntKind.i64.wrap ((IntKind.i64.wrap ((f.length : Int) + (g.length : Int))) - (1 : Int))).toNat ((0 : Int) : Int)) g m f (f.length : Int) (0 : Int))
  | K + 1, .c1 r26 g m t27 t28 t29 =>
    bif (decide (t29 < t28)) then
      (gi t27 t29).bind fun x2 =>
      modpoly_Mul_go K (.c2 r26 g m t29 x2 t27 t28 t29 g (g.length : Int) (0 : Int))
    else
      (modpoly_trim K r26).bind fun x2 =>
      some x2
  | K + 1, .c2 r26 g m i a t27 t28 t29 t34 t35 t36 =>
    bif (decide (t36 < t35)) then
      (gi t34 t36).bind fun x2 =>
      (gi r26 (IntKind.i64.wrap (i + t36))).bind fun x4 =>
      (modular_Mul K a x2 m).bind fun x6 =>
      (modular_Add K x4 x6 m).bind fun x8 =>
      (gi r26 (IntKind.i64.wrap (i + t36))).bind fun _ =>
      modpoly_Mul_go K (.c2 (r26.set ((IntKind.i64.wrap (i + t36)).toNat) x8) g m i a t27 t28 t29 t34 t35 (IntKind.i64.wrap (t36 + (1 : Int))))
    else
      modpoly_Mul_go K (.c1 r26 g m t27 t28 (IntKind.i64.wrap (t29 + (1 : Int))))

def modpoly_Mul (K : Nat) (f : (List Int)) (g : (List Int)) (m : Int) : Option (List Int) := modpoly_Mul_go K (.c0 f g m)

noncomputable def modpoly_Mul_body : Code := bodyOf prog 119
noncomputable def modpoly_Mul_pos : modpoly_Mul_Cut → List Fr
  | .c0 .. => [.code modpoly_Mul_body]
  | .c1 .. => [.code (.loop (atC modpoly_Mul_body [1,1,1,0,1,0,0])), .blk 0, .code (atC modpoly_Mul_body [1,1,1,1])]
  | .c2 .. => [.code (.loop (atC modpoly_Mul_body [1,1,1,0,1,0,0,1,1,0,0,1,1,0,0])), .blk 2, .blk 1, .code (atC modpoly_Mul_body [1,1,1,0,1,0,0,1,1,1]), .lp (atC modpoly_Mul_body [1,1,1,0,1,0,0]), .blk 0, .code (atC modpoly_Mul_body [1,1,1,1])]
def modpoly_Mul_st : modpoly_Mul_Cut → St
  | .c0 f g m => St.init [(tl 1 f ce_u32), (tl 1 g ce_u32), (ti .u32 m)]
  | .c1 r26 g m t27 t28 t29 => ⟨[(1, vl 1 g ce_u32), (2, vi .u32 m), (7, .c (C.row 26 0 r26.length)), (27, vl 1 t27 ce_u32), (28, vi .i64 t28), (29, vi .i64 t29)], [(26, .row 101 1 (r26.map ce_u32) 0)], []⟩
  | .c2 r26 g m i a t27 t28 t29 t34 t35 t36 => ⟨[(1, vl 1 g ce_u32), (2, vi .u32 m), (7, .c (C.row 26 0 r26.length)), (8, vi .i64 i), (9, vi .u32 a), (27, vl 1 t27 ce_u32), (28, vi .i64 t28), (29, vi .i64 t29), (34, vl 1 t34 ce_u32), (35, vi .i64 t35), (36, vi .i64 t36)], [(26, .row 101 1 (r26.map ce_u32) 0)], []⟩

def modpoly_Mul_S (cx : Cx) (c : modpoly_Mul_Cut) (r : (List Int)) : Prop := Wk prog cx (EndsF prog 119 [[1]] (tl 1 r ce_u32)) (modpoly_Mul_pos c) .normal (modpoly_Mul_st c)
abbrev modpoly_Mul_H (K : Nat) : Prop := ∀ c r, modpoly_Mul_go K c = some r → ∀ cx : Cx, cx.n = 62 → modpoly_Mul_S cx c r

theorem modpoly_Mul_c0 {K} (ih : modpoly_Mul_H K) {cx} (hn : cx.n = 62) {f g m} {r} (h : modpoly_Mul_go (K + 1) (.c0 f g m) = some r) : modpoly_Mul_S cx (.c0 f g m) r := by
  rw [modpoly_Mul_go] at h
  rcases bcases h with ⟨h1, h⟩ | ⟨h1, h⟩
  · skip
    have h := Option.some.inj h; subst h
    exact wk_ret (fuel := 72) [.reg [oo], .reg [oo, .op (.ln (f.length : Int)), oo, oo, .sb 15 true, oo, oo, oo, oo], .br true, .reg [oo]] _ hn (by kernel_rfl) (aC (ln_eq f ce_u32) <| aC h1 <| aC rt <| aN)
  · skip
    rcases bcases h with ⟨h2, h⟩ | ⟨h2, h⟩
    · skip
      have h := Option.some.inj h; subst h
      exact wk_ret (fuel := 72) [.reg [oo], .reg [oo, .op (.ln (f.length : Int)), oo, oo, .sb 15 false, oo, .op (.ln (g.length : Int)), oo, oo], .br true, .reg [oo]] _ hn (by kernel_rfl) (aC (ln_eq f ce_u32) <| aC h1 <| aC (ln_eq g ce_u32) <| aC h2 <| aN)
    · skip
      obtain ⟨h3, h⟩ := gd_some h
      exact wk_go (fuel := 82) [.reg [oo], .reg [oo, .op (.ln (f.length : Int)), oo, oo, .sb 15 false, oo, .op (.ln (g.length : Int)), oo, oo], .br false, .reg [oo, .op (.ln (f.length : Int)), oo, .op (.ln (g.length : Int)), oo, oo, .op (.mk (ce_u32 (0 : Int)) ((List.replicate (IntKind.i64.wrap ((IntKind.i64.wrap ((f.length : Int) + (g.length : Int))) - (1 : Int))).toNat ((0 : Int) : Int)).map ce_u32)), oo], .reg [oo, .op (.ln (f.length : Int)), oo], .pre [.rl 7 0 (List.replicate (IntKind.i64.wrap ((IntKind.i64.wrap ((f.length : Int) + (g.length : Int))) - (1 : Int))).toNat ((0 : Int) : Int)).length, .keep [1,2,7,27,28,29] [26]]] _ hn (by kernel_rfl) (aC (ln_eq f ce_u32) <| aC h1 <| aC (ln_eq g ce_u32) <| aC h2 <| aC (ln_eq f ce_u32) <| aC (ln_eq g ce_u32) <| aC h3.1 <| aC h3.2.1 <| aC h3.2.2 <| aC (rep_map _ _ _ : List.replicate (IntKind.i64.wrap ((IntKind.i64.wrap ((f.length : Int) + (g.length : Int))) - (1 : Int))).toNat (ce_u32 (0 : Int)) = (List.replicate (IntKind.i64.wrap ((IntKind.i64.wrap ((f.length : Int) + (g.length : Int))) - (1 : Int))).toNat ((0 : Int) : Int)).map ce_u32) <| aC (ln_eq f ce_u32) <| aC r0 <| aC (by simp : (IntKind.i64.wrap ((IntKind.i64.wrap ((f.length : Int) + (g.length : Int))) - (1 : Int))).toNat = (List.replicate (IntKind.i64.wrap ((IntKind.i64.wrap ((f.length : Int) + (g.length : Int))) - (1 : Int))).toNat ((0 : Int) : Int)).length) <| aN) (ih _ _ h cx hn)

theorem modpoly_Mul_c1 {K} (ih : modpoly_Mul_H K) {cx} (hn : cx.n = 62) {r26 g m t27 t28 t29} {r} (h : modpoly_Mul_go (K + 1) (.c1 r26 g m t27 t28 t29) = some r) : modpoly_Mul_S cx (.c1 r26 g m t27 t28 t29) r := by
  rw [modpoly_Mul_go] at h
  rcases bcases h with ⟨h1, h⟩ | ⟨h1, h⟩
  · skip
    obtain ⟨x2, h3, h⟩ := obind h
    exact wk_go (fuel := 84) [.go, .reg [oo], .br true, .reg [oo, .op (.ix (ce_u32 x2)), oo, oo, oo], .reg [oo, .op (.ln (g.length : Int)), oo], .pre [.rl 7 0 r26.length, .keep [1,2,7,8,9,27,28,29,34,35,36] [26]]] _ hn (by kernel_rfl) (aC h1 <| aC (gi_nn h3) <| aC (gi_at ce_u32 h3) <| aC (ln_eq g ce_u32) <| aC r0 <| aC (lq r26) <| aN) (ih _ _ h cx hn)
  · skip
    obtain ⟨x2, h3, h⟩ := obind h
    have h := Option.some.inj h; subst h
    exact wk_ret (fuel := 78) [.go, .reg [oo], .br false, .reg [oo, .snap 60 (max 0 (0 + r26.length)) (r26.map ce_u32), .op (.call [[1]] [(tl 1 r26 ce_u32)] (tl 1 x2 ce_u32)), oo]] _ hn (by kernel_rfl) (aC h1 <| aC (sn_map _ _ _ (by simp) : ((r26.map ce_u32).drop 0).take r26.length = r26.map ce_u32) <| aC (rfl : (max 0 (0 + r26.length)) = (max 0 (0 + r26.length))) <| aC (modpoly_trim_holds h3) <| aN)

theorem modpoly_Mul_c2 {K} (ih : modpoly_Mul_H K) {cx} (hn : cx.n = 62) {r26 g m i a t27 t28 t29 t34 t35 t36} {r} (h : modpoly_Mul_go (K + 1) (.c2 r26 g m i a t27 t28 t29 t34 t35 t36) = some r) : modpoly_Mul_S cx (.c2 r26 g m i a t27 t28 t29 t34 t35 t36) r := by
  rw [modpoly_Mul_go] at h
  rcases bcases h with ⟨h1, h⟩ | ⟨h1, h⟩
  · skip
    obtain ⟨x2, h3, h⟩ := obind h
    obtain ⟨x4, h5, h⟩ := obind h
    obtain ⟨x6, h7, h⟩ := obind h
    obtain ⟨x8, h9, h⟩ := obind h
    obtain ⟨x10, h11, h⟩ := obind h
    exact wk_go (fuel := 90) [.go, .reg [oo], .br true, .reg [oo, .op (.ix (ce_u32 x2)), oo, oo, oo], .draw [.p, .p, .p, .p, .p, .p, .p, .p, .ir, (.ld (ce_u32 x4)), .p, .p, .p, (.call [[0], [0], [0]] [(ti .u32 a), (ti .u32 x2), (ti .u32 m)] (ti .u32 x6)), .p, (.call [[0], [0], [0]] [(ti .u32 x4), (ti .u32 x6), (ti .u32 m)] (ti .u32 x8))] [.op .ir, .op (.st (ce_u32 x10) ((r26.set ((IntKind.i64.wrap (i + t36)).toNat) x8).map ce_u32))], .reg [oo, oo], .pre [.rl 7 0 (r26.set ((IntKind.i64.wrap (i + t36)).toNat) x8).length, .keep [1,2,7,8,9,27,28,29,34,35,36] [26]]] _ hn (by kernel_rfl) (aC h1 <| aC (gi_nn h3) <| aC (gi_at ce_u32 h3) <| aC (gi_nn h5) <| aC (gi_lt2 h5 (by simp) : (IntKind.i64.wrap (i + t36)) < ((r26.length : Nat) : Int)) <| aC (gi_row ce_u32 h5 : (r26.map ce_u32)[(0 + (IntKind.i64.wrap (i + t36)).toNat)]? = some (ce_u32 x4)) <| aC (modular_Mul_holds h7) <| aC (modular_Add_holds h9) <| aC (gi_nn h11) <| aC (gi_lt2 h11 (by simp) : (IntKind.i64.wrap (i + t36)) < ((r26.length : Nat) : Int)) <| aC (gi_row ce_u32 h11 : (r26.map ce_u32)[(0 + (IntKind.i64.wrap (i + t36)).toNat)]? = some (ce_u32 x10)) <| aC (set_map _ _ x8 _ : (r26.map ce_u32).set (0 + (IntKind.i64.wrap (i + t36)).toNat) (splice (ce_u32 x10) 0 [(T.int .u32 x8)]) = (r26.set ((IntKind.i64.wrap (i + t36)).toNat) x8).map ce_u32) <| aC (Nat.zero_le _ : 0 ≤ (0 + (IntKind.i64.wrap (i + t36)).toNat)) <| aC r0 <| aC (by simp : r26.length = (r26.set ((IntKind.i64.wrap (i + t36)).toNat) x8).length) <| aN) (ih _ _ h cx hn)
  · skip
    exact wk_go (fuel := 78) [.go, .reg [oo], .br false, .reg [oo, oo], .pre [.rl 7 0 r26.length, .keep [1,2,7,27,28,29] [26]]] _ hn (by kernel_rfl) (aC h1 <| aC r0 <| aC (lq r26) <| aN) (ih _ _ h cx hn)

theorem modpoly_Mul_all : ∀ K : Nat, modpoly_Mul_H K
  | 0, c, r, h => by rw [modpoly_Mul_go] at h; cases h
  | K + 1, .c0 .., r, h => fun cx hn => modpoly_Mul_c0 (modpoly_Mul_all K) hn h
  | K + 1, .c1 .., r, h => fun cx hn => modpoly_Mul_c1 (modpoly_Mul_all K) hn h
  | K + 1, .c2 .., r, h => fun cx hn => modpoly_Mul_c2 (modpoly_Mul_all K) hn h

theorem modpoly_Mul_holds {K : Nat} {f : (List Int)} {g : (List Int)} {m : Int} {r : (List Int)} (h : modpoly_Mul K f g m = some r) : Holds prog 119 [(tl 1 f ce_u32), (tl 1 g ce_u32), (ti .u32 m)] (tl 1 r ce_u32) :=
  holds_wk [[1]] (by kernel_rfl) (by simp) fun cx hn => modpoly_Mul_all K (.c0 f g m) r h cx hn
end Go.Am.X
namespace Go.Am.X
open Go.Proofs.Try (prog)


inductive modpoly_at_Cut where
  | c0 (f : (List Int)) (i : Int)

def modpoly_at_go : Nat → modpoly_at_Cut → Option Int
  | 0, _ => none
  | _ + 1, .c0 f i =>
    bif (decide (i < (f.length : Int))) then
      (gi f i).bind fun x2 =>
      some x2
    else
      some (0 : Int)

def modpoly_at (K : Nat) (f : (List Int)) (i : Int) : Option Int := modpoly_at_go K (.c0 f i)

noncomputable def modpoly_at_body : Code := bodyOf prog 191
noncomputable def modpoly_at_pos : modpoly_at_Cut → List Fr
  | .c0 .. => [.code modpoly_at_body]
def modpoly_at_st : modpoly_at_Cut → St
  | .c0 f i => St.init [(tl 1 f ce_u32), (ti .i64 i)]

def modpoly_at_S (cx : Cx) (c : modpoly_at_Cut) (r : Int) : Prop := Wk prog cx (EndsF prog 191 [[0]] (ti .u32 r)) (modpoly_at_pos c) .normal (modpoly_at_st c)
abbrev modpoly_at_H (K : Nat) : Prop := ∀ c r, modpoly_at_go K c = some r → ∀ cx : Cx, cx.n = 13 → modpoly_at_S cx c r

theorem modpoly_at_c0 {K} (_ : modpoly_at_H K) {cx} (hn : cx.n = 13) {f i} {r} (h : modpoly_at_go (K + 1) (.c0 f i) = some r) : modpoly_at_S cx (.c0 f i) r := by
  rw [modpoly_at_go] at h
  rcases bcases h with ⟨h1, h⟩ | ⟨h1, h⟩
  · skip
    obtain ⟨x2, h3, h⟩ := obind h
    have h := Option.some.inj h; subst h
    exact wk_ret (fuel := 72) [.reg [oo], .reg [oo, oo, .op (.ln (f.length : Int)), oo], .br true, .reg [oo, oo, .op (.ix (ce_u32 x2)), oo, oo]] _ hn (by kernel_rfl) (aC (ln_eq f ce_u32) <| aC h1 <| aC (gi_nn h3) <| aC (gi_at ce_u32 h3) <| aN)
  · skip
    have h := Option.some.inj h; subst h
    exact wk_ret (fuel := 72) [.reg [oo], .reg [oo, oo, .op (.ln (f.length : Int)), oo], .br false, .reg [oo]] _ hn (by kernel_rfl) (aC (ln_eq f ce_u32) <| aC h1 <| aN)

theorem modpoly_at_all : ∀ K : Nat, modpoly_at_H K
  | 0, c, r, h => by rw [modpoly_at_go] at h; cases h
  | K + 1, .c0 .., r, h => fun cx hn => modpoly_at_c0 (modpoly_at_all K) hn h

theorem modpoly_at_holds {K : Nat} {f : (List Int)} {i : Int} {r : Int} (h : modpoly_at K f i = some r) : Holds prog 191 [(tl 1 f ce_u32), (ti .i64 i)] (ti .u32 r) :=
  holds_wk [[0]] (by kernel_rfl) (by simp) fun cx hn => modpoly_at_all K (.c0 f i) r h cx hn
end Go.Am.X
namespace Go.Am.X
open Go.Proofs.Try (prog)


inductive modpoly_Sub_Cut where
  | c0 (f : (List Int)) (g : (List Int)) (m : Int)
  | c1 (r14 : (List Int)) (f : (List Int)) (g : (List Int)) (m : Int) (t16 : Int) (t17 : Int)

def modpoly_Sub_go : Nat → modpoly_Sub_Cut → Option (List Int)
  | 0, _ => none
  | K + 1, .c0 f g m =>
    gd (0 ≤ (max (f.length : Int) (g.length : Int)) ∧ (max (f.length : Int) (g.length : Int)) ≤ (max (f.length : Int) (g.length : Int)) ∧ (4 : Int) * (max (f.length : Int) (g.length : Int)) ≤ 140737488355328) <|
    modpoly_Sub_go K (.c1 (List.replicate (max (f.length : Int) (g.length : Int)).toNat ((0 : Int) : Int)) f g m (((max (f.length : Int) (g.length : Int)).toNat : Nat) : Int) (0 : Int))
  | K + 1, .c1 r14 f g m t16 t17 =>
    bif (decide (t17 < t16)) then
      (modpoly_at K f t17).bind fun x2 =>
      (modpoly_at K g t17).bind fun x4 =>
      (modular_Sub K x2 x4 m).bind fun x6 =>
      (gi r14 t17).bind fun _ =>
      modpoly_Sub_go K (.c1 (r14.set (t17.toNat) x6) f g m t16 (IntKind.i64.wrap (t17 + (1 : Int))))
    else
      (modpoly_trim K r14).bind fun x2 =>
      some x2

def modpoly_Sub (K : Nat) (f : (List Int)) (g : (List Int)) (m : Int) : Option (List Int) := modpoly_Sub_go K (.c0 f g m)

noncomputable def modpoly_Sub_body : Code := bodyOf prog 182
noncomputable def modpoly_Sub_pos : modpoly_Sub_Cut → List Fr
  | .c0 .. => [.code modpoly_Sub_body]
  | .c1 .. => [.code (.loop (atC modpoly_Sub_body [1,1,0,1,0,0])), .blk 0, .code (atC modpoly_Sub_body [1,1,1])]
def modpoly_Sub_st : modpoly_Sub_Cut → St
  | .c0 f g m => St.init [(tl 1 f ce_u32), (tl 1 g ce_u32), (ti .u32 m)]
  | .c1 r14 f g m t16 t17 => ⟨[(0, vl 1 f ce_u32), (1, vl 1 g ce_u32), (2, vi .u32 m), (7, .c (C.row 14 0 r14.length)), (16, vi .i64 t16), (17, vi .i64 t17)], [(14, .row 101 1 (r14.map ce_u32) 0)], []⟩

def modpoly_Sub_S (cx : Cx) (c : modpoly_Sub_Cut) (r : (List Int)) : Prop := Wk prog cx (EndsF prog 182 [[1]] (tl 1 r ce_u32)) (modpoly_Sub_pos c) .normal (modpoly_Sub_st c)
abbrev modpoly_Sub_H (K : Nat) : Prop := ∀ c r, modpoly_Sub_go K c = some r → ∀ cx : Cx, cx.n = 34 → modpoly_Sub_S cx c r

theorem modpoly_Sub_c0 {K} (ih : modpoly_Sub_H K) {cx} (hn : cx.n = 34) {f g m} {r} (h : modpoly_Sub_go (K + 1) (.c0 f g m) = some r) : modpoly_Sub_S cx (.c0 f g m) r := by
  rw [modpoly_Sub_go] at h
  obtain ⟨h1, h⟩ := gd_some h
  exact wk_go (fuel := 64) [.reg [oo], .reg [oo, .op (.ln (f.length : Int)), oo, .op (.ln (g.length : Int)), oo, .op (.mk (ce_u32 (0 : Int)) ((List.replicate (max (f.length : Int) (g.length : Int)).toNat ((0 : Int) : Int)).map ce_u32)), oo], .reg [oo, oo, oo], .pre [.rl 7 0 (List.replicate (max (f.length : Int) (g.length : Int)).toNat ((0 : Int) : Int)).length, .keep [0,1,2,7,16,17] [14]]] _ hn (by kernel_rfl) (aC (ln_eq f ce_u32) <| aC (ln_eq g ce_u32) <| aC h1.1 <| aC h1.2.1 <| aC h1.2.2 <| aC (rep_map _ _ _ : List.replicate (max (f.length : Int) (g.length : Int)).toNat (ce_u32 (0 : Int)) = (List.replicate (max (f.length : Int) (g.length : Int)).toNat ((0 : Int) : Int)).map ce_u32) <| aC r0 <| aC (by simp : (max (f.length : Int) (g.length : Int)).toNat = (List.replicate (max (f.length : Int) (g.length : Int)).toNat ((0 : Int) : Int)).length) <| aN) (ih _ _ h cx hn)

theorem modpoly_Sub_c1 {K} (ih : modpoly_Sub_H K) {cx} (hn : cx.n = 34) {r14 f g m t16 t17} {r} (h : modpoly_Sub_go (K + 1) (.c1 r14 f g m t16 t17) = some r) : modpoly_Sub_S cx (.c1 r14 f g m t16 t17) r := by
  rw [modpoly_Sub_go] at h
  rcases bcases h with ⟨h1, h⟩ | ⟨h1, h⟩
  · skip
    obtain ⟨x2, h3, h⟩ := obind h
    obtain ⟨x4, h5, h⟩ := obind h
    obtain ⟨x6, h7, h⟩ := obind h
    obtain ⟨x8, h9, h⟩ := obind h
    exact wk_go (fuel := 90) [.go, .reg [oo], .br true, .reg [oo, oo], .reg [oo, oo, oo, oo, .op (.call [[1], [0]] [(tl 1 f ce_u32), (ti .i64 t17)] (ti .u32 x2)), oo, oo, .op (.call [[1], [0]] [(tl 1 g ce_u32), (ti .i64 t17)] (ti .u32 x4)), oo, .op (.call [[0], [0], [0]] [(ti .u32 x2), (ti .u32 x4), (ti .u32 m)] (ti .u32 x6)), .op .ir, .op (.st (ce_u32 x8) ((r14.set (t17.toNat) x6).map ce_u32))], .reg [oo, oo], .pre [.rl 7 0 (r14.set (t17.toNat) x6).length, .keep [0,1,2,7,16,17] [14]]] _ hn (by kernel_rfl) (aC h1 <| aC (modpoly_at_holds h3) <| aC (modpoly_at_holds h5) <| aC (modular_Sub_holds h7) <| aC (gi_nn h9) <| aC (gi_lt2 h9 (by simp) : t17 < ((r14.length : Nat) : Int)) <| aC (gi_row ce_u32 h9 : (r14.map ce_u32)[(0 + t17.toNat)]? = some (ce_u32 x8)) <| aC (set_map _ _ x6 _ : (r14.map ce_u32).set (0 + t17.toNat) (splice (ce_u32 x8) 0 [(T.int .u32 x6)]) = (r14.set (t17.toNat) x6).map ce_u32) <| aC (Nat.zero_le _ : 0 ≤ (0 + t17.toNat)) <| aC r0 <| aC (by simp : r14.length = (r14.set (t17.toNat) x6).length) <| aN) (ih _ _ h cx hn)
  · skip
    obtain ⟨x2, h3, h⟩ := obind h
    have h := Option.some.inj h; subst h
    exact wk_ret (fuel := 78) [.go, .reg [oo], .br false, .reg [oo, .snap 32 (max 0 (0 + r14.length)) (r14.map ce_u32), .op (.call [[1]] [(tl 1 r14 ce_u32)] (tl 1 x2 ce_u32)), oo]] _ hn (by kernel_rfl) (aC h1 <| aC (sn_map _ _ _ (by simp) : ((r14.map ce_u32).drop 0).take r14.length = r14.map ce_u32) <| aC (rfl : (max 0 (0 + r14.length)) = (max 0 (0 + r14.length))) <| aC (modpoly_trim_holds h3) <| aN)

theorem modpoly_Sub_all : ∀ K : Nat, modpoly_Sub_H K
  | 0, c, r, h => by rw [modpoly_Sub_go] at h; cases h
  | K + 1, .c0 .., r, h => fun cx hn => modpoly_Sub_c0 (modpoly_Sub_all K) hn h
  | K + 1, .c1 .., r, h => fun cx hn => modpoly_Sub_c1 (modpoly_Sub_all K) hn h

theorem modpoly_Sub_holds {K : Nat} {f : (List Int)} {g : (List Int)} {m : Int} {r : (List Int)} (h : modpoly_Sub K f g m = some r) : Holds prog 182 [(tl 1 f ce_u32), (tl 1 g ce_u32), (ti .u32 m)] (tl 1 r ce_u32) :=
  holds_wk [[1]] (by kernel_rfl) (by simp) fun cx hn => modpoly_Sub_all K (.c0 f g m) r h cx hn
end Go.Am.X
namespace Go.Am.X
open Go.Proofs.Try (prog)


inductive modpoly_inverse_Cut where
  | c0 (f : (List Int)) (g : (List Int)) (p : Int)
  | c1 (r26 : (List Int)) (g : (List Int)) (p : Int) (a : (List Int)) (b : (List Int))
  | c2 (r26 : (List Int)) (fz26 : Nat) (g : (List Int)) (p : Int) (a : (List Int)) (b : (List Int)) (u : (List Int))
  | c3 (g : (List Int)) (p : Int) (a : (List Int)) (b : (List Int)) (u : (List Int)) (v : (List Int))

def modpoly_inverse_go : Nat → modpoly_inverse_Cut → Option (List Int)
  | 0, _ => none
  | K + 1, .c0 f g p =>
    (modpoly_divide K f g p).bind fun x1 =>
    modpoly_inverse_go K (.c1 ([(1 : Int)] : List Int) g p x1.2 g)
  | K + 1, .c1 r26 g p a b =>
    bif (decide ((1 : Int) < (a.length : Int))) then
      (modpoly_divide K b a p).bind fun x2 =>
      (modpoly_Mul K x2.1 r26 p).bind fun x4 =>
      (modpoly_Sub K [] x4 p).bind fun x6 =>
      modpoly_inverse_go K (.c2 r26 (max 0 (0 + r26.length)) g p x2.2 a x6)
    else
      (gi a (0 : Int)).bind fun x2 =>
      (modular_Inverse K x2 p).bind fun x4 =>
      (modpoly_Scale K r26 x4.1 p).bind fun x6 =>
      (modpoly_divide K x6 g p).bind fun x8 =>
      some x8.2
  | K + 1, .c2 r26 _ g p a b u =>
    bif (decide ((1 : Int) < (a.length : Int))) then
      (modpoly_divide K b a p).bind fun x2 =>
      (modpoly_Mul K x2.1 u p).bind fun x4 =>
      (modpoly_Sub K r26 x4 p).bind fun x6 =>
      modpoly_inverse_go K (.c3 g p x2.2 a x6 u)
    else
      (gi a (0 : Int)).bind fun x2 =>
      (modular_Inverse K x2 p).bind fun x4 =>
      (modpoly_Scale K u x4.1 p).bind fun x6 =>
      (modpoly_divide K x6 g p).bind fun x8 =>
      some x8.2
  | K + 1, .c3 g p a b u v =>
    bif (decide ((1 : Int) < (a.length : Int))) then
      (modpoly_divide K b a p).bind fun x2 =>
      (modpoly_Mul K x2.1 u p).bind fun x4 =>
      (modpoly_Sub K v x4 p).bind fun x6 =>
      modpoly_inverse_go K (.c3 g p x2.2 a x6 u)
    else
      (gi a (0 : Int)).bind fun x2 =>
      (modular_Inverse K x2 p).bind fun x4 =>
      (modpoly_Scale K u x4.1 p).bind fun x6 =>
      (modpoly_divide K x6 g p).bind fun x8 =>
      some x8.2

def modpoly_inverse (K : Nat) (f : (List Int)) (g : (List Int)) (p : Int) : Option (List Int) := modpoly_inverse_go K (.c0 f g p)

noncomputable def modpoly_inverse_body : Code := bodyOf prog 181
noncomputable def modpoly_inverse_pos : modpoly_inverse_Cut → List Fr
  | .c0 .. => [.code modpoly_inverse_body]
  | .c1 .. => [.code (.loop (atC modpoly_inverse_body [1,1,1,1,0,0,0])), .blk 0, .code (atC modpoly_inverse_body [1,1,1,1,1])]
  | .c2 .. => [.code (.loop (atC modpoly_inverse_body [1,1,1,1,0,0,0])), .blk 0, .code (atC modpoly_inverse_body [1,1,1,1,1])]
  | .c3 .. => [.code (.loop (atC modpoly_inverse_body [1,1,1,1,0,0,0])), .blk 0, .code (atC modpoly_inverse_body [1,1,1,1,1])]
def modpoly_inverse_st : modpoly_inverse_Cut → St
  | .c0 f g p => St.init [(tl 1 f ce_u32), (tl 1 g ce_u32), (ti .u32 p)]
  | .c1 r26 g p a b => ⟨[(1, vl 1 g ce_u32), (2, vi .u32 p), (8, vl 1 a ce_u32), (9, vl 1 b ce_u32), (10, .c (C.row 26 0 r26.length)), (11, .c (C.nil))], [(26, .row 101 1 (r26.map ce_u32) 0)], []⟩
  | .c2 r26 fz26 g p a b u => ⟨[(1, vl 1 g ce_u32), (2, vi .u32 p), (8, vl 1 a ce_u32), (9, vl 1 b ce_u32), (10, vl 1 u ce_u32), (11, .c (C.row 26 0 r26.length))], [(26, .row 101 1 (r26.map ce_u32) fz26)], []⟩
  | .c3 g p a b u v => ⟨[(1, vl 1 g ce_u32), (2, vi .u32 p), (8, vl 1 a ce_u32), (9, vl 1 b ce_u32), (10, vl 1 u ce_u32), (11, vl 1 v ce_u32)], [], []⟩

def modpoly_inverse_S (cx : Cx) (c : modpoly_inverse_Cut) (r : (List Int)) : Prop := Wk prog cx (EndsF prog 181 [[1]] (tl 1 r ce_u32)) (modpoly_inverse_pos c) .normal (modpoly_inverse_st c)
abbrev modpoly_inverse_H (K : Nat) : Prop := ∀ c r, modpoly_inverse_go K c = some r → ∀ cx : Cx, cx.n = 66 → modpoly_inverse_S cx c r

theorem modpoly_inverse_c0 {K} (ih : modpoly_inverse_H K) {cx} (hn : cx.n = 66) {f g p} {r} (h : modpoly_inverse_go (K + 1) (.c0 f g p) = some r) : modpoly_inverse_S cx (.c0 f g p) r := by
  rw [modpoly_inverse_go] at h
  obtain ⟨x1, h2, h⟩ := obind h
  exact wk_go (fuel := 72) [.reg [oo], .reg [oo, oo, oo, .op (.call [[1], [1], [0]] [(tl 1 f ce_u32), (tl 1 g ce_u32), (ti .u32 p)] (TV.tup [(false, [(T.sl 1 (x1.1.map ce_u32))]), (false, [(T.sl 1 (x1.2.map ce_u32))])])), oo, oo, oo, oo, oo], .reg [oo, oo], .reg [.op (.lit (([(1 : Int)] : List Int).map ce_u32)), oo, oo], .pre [.rl 10 0 ([(1 : Int)] : List Int).length, .keep [1,2,8,9,10,11] [26]]] _ hn (by kernel_rfl) (aC (modpoly_divide_holds h2) <| aC (by kernel_rfl : [(T.int .u32 (1 : Int))] = (([(1 : Int)] : List Int).map ce_u32).flatten) <| aC r0 <| aC (by simp : 1 = ([(1 : Int)] : List Int).length) <| aN) (ih _ _ h cx hn)

theorem modpoly_inverse_c1 {K} (ih : modpoly_inverse_H K) {cx} (hn : cx.n = 66) {r26 g p a b} {r} (h : modpoly_inverse_go (K + 1) (.c1 r26 g p a b) = some r) : modpoly_inverse_S cx (.c1 r26 g p a b) r := by
  rw [modpoly_inverse_go] at h
  rcases bcases h with ⟨h1, h⟩ | ⟨h1, h⟩
  · skip
    obtain ⟨x2, h3, h⟩ := obind h
    obtain ⟨x4, h5, h⟩ := obind h
    obtain ⟨x6, h7, h⟩ := obind h
    exact wk_go (fuel := 90) [.go, .reg [oo, .op (.ln (a.length : Int)), oo], .br true, .reg [oo, oo, oo, .op (.call [[1], [1], [0]] [(tl 1 b ce_u32), (tl 1 a ce_u32), (ti .u32 p)] (TV.tup [(false, [(T.sl 1 (x2.1.map ce_u32))]), (false, [(T.sl 1 (x2.2.map ce_u32))])])), oo, oo, oo, oo, oo], .reg [oo, oo, oo, oo], .reg [oo, oo, oo, oo, .snap 41 (max 0 (0 + r26.length)) (r26.map ce_u32), .op (.call [[1], [1], [0]] [(tl 1 x2.1 ce_u32), (tl 1 r26 ce_u32), (ti .u32 p)] (tl 1 x4 ce_u32)), oo, .op (.call [[1], [1], [0]] [(TV.c (T.sl 1 ([].map ce_u32))), (tl 1 x4 ce_u32), (ti .u32 p)] (tl 1 x6 ce_u32)), oo, oo, oo], .pre [.rl 11 0 r26.length, .keep [1,2,8,9,10,11] [26]]] _ hn (by kernel_rfl) (aC (ln_eq a ce_u32) <| aC h1 <| aC (modpoly_divide_holds h3) <| aC (sn_map _ _ _ (by simp) : ((r26.map ce_u32).drop 0).take r26.length = r26.map ce_u32) <| aC (rfl : (max 0 (0 + r26.length)) = (max 0 (0 + r26.length))) <| aC (modpoly_Mul_holds h5) <| aC (modpoly_Sub_holds h7) <| aC r0 <| aC (lq r26) <| aN) (ih _ _ h cx hn)
  · skip
    obtain ⟨x2, h3, h⟩ := obind h
    obtain ⟨x4, h5, h⟩ := obind h
    obtain ⟨x6, h7, h⟩ := obind h
    obtain ⟨x8, h9, h⟩ := obind h
    have h := Option.some.inj h; subst h
    exact wk_ret (fuel := 94) [.go, .reg [oo, .op (.ln (a.length : Int)), oo], .br false, .reg [oo, .op (.ix (ce_u32 x2)), oo, oo, .op (.call [[0], [0]] [(ti .u32 x2), (ti .u32 p)] (TV.tup [(false, [(T.int .u32 x4.1)]), (false, [(T.int .i64 x4.2)])])), oo, oo, oo, oo, oo], .reg [oo, oo, oo, .snap 56 (max 0 (0 + r26.length)) (r26.map ce_u32), .op (.call [[1], [0], [0]] [(tl 1 r26 ce_u32), (ti .u32 x4.1), (ti .u32 p)] (tl 1 x6 ce_u32)), oo, oo, .op (.call [[1], [1], [0]] [(tl 1 x6 ce_u32), (tl 1 g ce_u32), (ti .u32 p)] (TV.tup [(false, [(T.sl 1 (x8.1.map ce_u32))]), (false, [(T.sl 1 (x8.2.map ce_u32))])])), oo, oo, oo, oo, oo], .reg [oo, oo]] _ hn (by kernel_rfl) (aC (ln_eq a ce_u32) <| aC h1 <| aC (gi_nn h3) <| aC (gi_at ce_u32 h3) <| aC (modular_Inverse_holds h5) <| aC (sn_map _ _ _ (by simp) : ((r26.map ce_u32).drop 0).take r26.length = r26.map ce_u32) <| aC (rfl : (max 0 (0 + r26.length)) = (max 0 (0 + r26.length))) <| aC (modpoly_Scale_holds h7) <| aC (modpoly_divide_holds h9) <| aN)

theorem modpoly_inverse_c2 {K} (ih : modpoly_inverse_H K) {cx} (hn : cx.n = 66) {r26 fz26 g p a b u} {r} (h : modpoly_inverse_go (K + 1) (.c2 r26 fz26 g p a b u) = some r) : modpoly_inverse_S cx (.c2 r26 fz26 g p a b u) r := by
  rw [modpoly_inverse_go] at h
  rcases bcases h with ⟨h1, h⟩ | ⟨h1, h⟩
  · skip
    obtain ⟨x2, h3, h⟩ := obind h
    obtain ⟨x4, h5, h⟩ := obind h
    obtain ⟨x6, h7, h⟩ := obind h
    exact wk_go (fuel := 90) [.go, .reg [oo, .op (.ln (a.length : Int)), oo], .br true, .reg [oo, oo, oo, .op (.call [[1], [1], [0]] [(tl 1 b ce_u32), (tl 1 a ce_u32), (ti .u32 p)] (TV.tup [(false, [(T.sl 1 (x2.1.map ce_u32))]), (false, [(T.sl 1 (x2.2.map ce_u32))])])), oo, oo, oo, oo, oo], .reg [oo, oo, oo, oo], .reg [oo, oo, oo, oo, .op (.call [[1], [1], [0]] [(tl 1 x2.1 ce_u32), (tl 1 u ce_u32), (ti .u32 p)] (tl 1 x4 ce_u32)), oo, .snap 39 (max fz26 (0 + r26.length)) (r26.map ce_u32), .op (.call [[1], [1], [0]] [(tl 1 r26 ce_u32), (tl 1 x4 ce_u32), (ti .u32 p)] (tl 1 x6 ce_u32)), oo, oo, oo], .pre [.keep [1,2,8,9,10,11] []]] _ hn (by kernel_rfl) (aC (ln_eq a ce_u32) <| aC h1 <| aC (modpoly_divide_holds h3) <| aC (modpoly_Mul_holds h5) <| aC (sn_map _ _ _ (by simp) : ((r26.map ce_u32).drop 0).take r26.length = r26.map ce_u32) <| aC (rfl : (max fz26 (0 + r26.length)) = (max fz26 (0 + r26.length))) <| aC (modpoly_Sub_holds h7) <| aN) (ih _ _ h cx hn)
  · skip
    obtain ⟨x2, h3, h⟩ := obind h
    obtain ⟨x4, h5, h⟩ := obind h
    obtain ⟨x6, h7, h⟩ := obind h
    obtain ⟨x8, h9, h⟩ := obind h
    have h := Option.some.inj h; subst h
    exact wk_ret (fuel := 94) [.go, .reg [oo, .op (.ln (a.length : Int)), oo], .br false, .reg [oo, .op (.ix (ce_u32 x2)), oo, oo, .op (.call [[0], [0]] [(ti .u32 x2), (ti .u32 p)] (TV.tup [(false, [(T.int .u32 x4.1)]), (false, [(T.int .i64 x4.2)])])), oo, oo, oo, oo, oo], .reg [oo, oo, oo, .op (.call [[1], [0], [0]] [(tl 1 u ce_u32), (ti .u32 x4.1), (ti .u32 p)] (tl 1 x6 ce_u32)), oo, oo, .op (.call [[1], [1], [0]] [(tl 1 x6 ce_u32), (tl 1 g ce_u32), (ti .u32 p)] (TV.tup [(false, [(T.sl 1 (x8.1.map ce_u32))]), (false, [(T.sl 1 (x8.2.map ce_u32))])])), oo, oo, oo, oo, oo], .reg [oo, oo]] _ hn (by kernel_rfl) (aC (ln_eq a ce_u32) <| aC h1 <| aC (gi_nn h3) <| aC (gi_at ce_u32 h3) <| aC (modular_Inverse_holds h5) <| aC (modpoly_Scale_holds h7) <| aC (modpoly_divide_holds h9) <| aN)

theorem modpoly_inverse_c3 {K} (ih : modpoly_inverse_H K) {cx} (hn : cx.n = 66) {g p a b u v} {r} (h : modpoly_inverse_go (K + 1) (.c3 g p a b u v) = some r) : modpoly_inverse_S cx (.c3 g p a b u v) r := by
  rw [modpoly_inverse_go] at h
  rcases bcases h with ⟨h1, h⟩ | ⟨h1, h⟩
  · skip
    obtain ⟨x2, h3, h⟩ := obind h
    obtain ⟨x4, h5, h⟩ := obind h
    obtain ⟨x6, h7, h⟩ := obind h
    exact wk_go (fuel := 90) [.go, .reg [oo, .op (.ln (a.length : Int)), oo], .br true, .reg [oo, oo, oo, .op (.call [[1], [1], [0]] [(tl 1 b ce_u32), (tl 1 a ce_u32), (ti .u32 p)] (TV.tup [(false, [(T.sl 1 (x2.1.map ce_u32))]), (false, [(T.sl 1 (x2.2.map ce_u32))])])), oo, oo, oo, oo, oo], .reg [oo, oo, oo, oo], .reg [oo, oo, oo, oo, .op (.call [[1], [1], [0]] [(tl 1 x2.1 ce_u32), (tl 1 u ce_u32), (ti .u32 p)] (tl 1 x4 ce_u32)), oo, .op (.call [[1], [1], [0]] [(tl 1 v ce_u32), (tl 1 x4 ce_u32), (ti .u32 p)] (tl 1 x6 ce_u32)), oo, oo, oo], .pre [.keep [1,2,8,9,10,11] []]] _ hn (by kernel_rfl) (aC (ln_eq a ce_u32) <| aC h1 <| aC (modpoly_divide_holds h3) <| aC (modpoly_Mul_holds h5) <| aC (modpoly_Sub_holds h7) <| aN) (ih _ _ h cx hn)
  · skip
    obtain ⟨x2, h3, h⟩ := obind h
    obtain ⟨x4, h5, h⟩ := obind h
    obtain ⟨x6, h7, h⟩ := obind h
    obtain ⟨x8, h9, h⟩ := obind h
    have h := Option.some.inj h; subst h
    exact wk_ret (fuel := 94) [.go, .reg [oo, .op (.ln (a.length : Int)), oo], .br false, .reg [oo, .op (.ix (ce_u32 x2)), oo, oo, .op (.call [[0], [0]] [(ti .u32 x2), (ti .u32 p)] (TV.tup [(false, [(T.int .u32 x4.1)]), (false, [(T.int .i64 x4.2)])])), oo, oo, oo, oo, oo], .reg [oo, oo, oo, .op (.call [[1], [0], [0]] [(tl 1 u ce_u32), (ti .u32 x4.1), (ti .u32 p)] (tl 1 x6 ce_u32)), oo, oo, .op (.call [[1], [1], [0]] [(tl 1 x6 ce_u32), (tl 1 g ce_u32), (ti .u32 p)] (TV.tup [(false, [(T.sl 1 (x8.1.map ce_u32))]), (false, [(T.sl 1 (x8.2.map ce_u32))])])), oo, oo, oo, oo, oo], .reg [oo, oo]] _ hn (by kernel_rfl) (aC (ln_eq a ce_u32) <| aC h1 <| aC (gi_nn h3) <| aC (gi_at ce_u32 h3) <| aC (modular_Inverse_holds h5) <| aC (modpoly_Scale_holds h7) <| aC (modpoly_divide_holds h9) <| aN)

theorem modpoly_inverse_all : ∀ K : Nat, modpoly_inverse_H K
  | 0, c, r, h => by rw [modpoly_inverse_go] at h; cases h
  | K + 1, .c0 .., r, h => fun cx hn => modpoly_inverse_c0 (modpoly_inverse_all K) hn h
  | K + 1, .c1 .., r, h => fun cx hn => modpoly_inverse_c1 (modpoly_inverse_all K) hn h
  | K + 1, .c2 .., r, h => fun cx hn => modpoly_inverse_c2 (modpoly_inverse_all K) hn h
  | K + 1, .c3 .., r, h => fun cx hn => modpoly_inverse_c3 (modpoly_inverse_all K) hn h

theorem modpoly_inverse_holds {K : Nat} {f : (List Int)} {g : (List Int)} {p : Int} {r : (List Int)} (h : modpoly_inverse K f g p = some r) : Holds prog 181 [(tl 1 f ce_u32), (tl 1 g ce_u32), (ti .u32 p)] (tl 1 r ce_u32) :=
  holds_wk [[1]] (by kernel_rfl) (by simp) fun cx hn => modpoly_inverse_all K (.c0 f g p) r h cx hn
end Go.Am.X
namespace Go.Am.X
open Go.Proofs.Try (prog)


inductive modpoly_Xgcd_Cut where
  | c0 (f : (List Int)) (g : (List Int)) (p : Int)

def modpoly_Xgcd_go : Nat → modpoly_Xgcd_Cut → Option ((List Int) × (List Int) × (List Int) × Int)
  | 0, _ => none
  | K + 1, .c0 f g p =>
    (modular_IsPrime K p).bind fun x1 =>
    bif (!x1) then
      some ([], [], [], (1 : Int))
    else
      (modpoly_Normal K f p).bind fun x4 =>
      (modpoly_Normal K g p).bind fun x6 =>
      (modpoly_gcd K x4 x6 p).bind fun x8 =>
      bif (decide ((x6.length : Int) = (0 : Int))) then
        bif (decide ((x4.length : Int) = (0 : Int))) then
          some ([], [], [], (0 : Int))
        else
          (gi x4 (IntKind.i64.wrap ((x4.length : Int) - (1 : Int)))).bind fun x12 =>
          (modular_Inverse K x12 p).bind fun x14 =>
          some (x8, ([x14.1] : List Int), [], (0 : Int))
      else
        (modpoly_divide K x6 x8 p).bind fun x11 =>
        bif (decide ((x11.1.length : Int) = (1 : Int))) then
          (gi x6 (IntKind.i64.wrap ((x6.length : Int) - (1 : Int)))).bind fun x14 =>
          (modular_Inverse K x14 p).bind fun x16 =>
          some (x8, [], ([x16.1] : List Int), (0 : Int))
        else
          (modpoly_divide K x4 x8 p).bind fun x14 =>
          (modpoly_inverse K x14.1 x11.1 p).bind fun x16 =>
          (modpoly_Mul K x16 x4 p).bind fun x18 =>
          (modpoly_Sub K x8 x18 p).bind fun x20 =>
          (modpoly_divide K x20 x6 p).bind fun x22 =>
          some (x8, x16, x22.1, (0 : Int))

def modpoly_Xgcd (K : Nat) (f : (List Int)) (g : (List Int)) (p : Int) : Option ((List Int) × (List Int) × (List Int) × Int) := modpoly_Xgcd_go K (.c0 f g p)

noncomputable def modpoly_Xgcd_body : Code := bodyOf prog 158
noncomputable def modpoly_Xgcd_pos : modpoly_Xgcd_Cut → List Fr
  | .c0 .. => [.code modpoly_Xgcd_body]
def modpoly_Xgcd_st : modpoly_Xgcd_Cut → St
  | .c0 f g p => St.init [(tl 1 f ce_u32), (tl 1 g ce_u32), (ti .u32 p)]

def modpoly_Xgcd_S (cx : Cx) (c : modpoly_Xgcd_Cut) (r : ((List Int) × (List Int) × (List Int) × Int)) : Prop := Wk prog cx (EndsF prog 158 [[1], [1], [1], [0]] (TV.tup [(false, [(T.sl 1 (r.1.map ce_u32))]), (false, [(T.sl 1 (r.2.1.map ce_u32))]), (false, [(T.sl 1 (r.2.2.1.map ce_u32))]), (false, [(T.int .i64 r.2.2.2)])])) (modpoly_Xgcd_pos c) .normal (modpoly_Xgcd_st c)
abbrev modpoly_Xgcd_H (K : Nat) : Prop := ∀ c r, modpoly_Xgcd_go K c = some r → ∀ cx : Cx, cx.n = 106 → modpoly_Xgcd_S cx c r

theorem modpoly_Xgcd_c0 {K} (_ : modpoly_Xgcd_H K) {cx} (hn : cx.n = 106) {f g p} {r} (h : modpoly_Xgcd_go (K + 1) (.c0 f g p) = some r) : modpoly_Xgcd_S cx (.c0 f g p) r := by
  rw [modpoly_Xgcd_go] at h
  obtain ⟨x1, h2, h⟩ := obind h
  rcases bcases h with ⟨h3, h⟩ | ⟨h3, h⟩
  · skip
    have h := Option.some.inj h; subst h
    exact wk_ret (fuel := 72) [.reg [oo, oo, oo, oo], .reg [oo, .op (.call [[0]] [(ti .u32 p)] (TV.c (T.bool x1))), oo], .br true, .reg [oo, oo, oo, oo]] _ hn (by kernel_rfl) (aC (modular_IsPrime_holds h2) <| aC h3 <| aN)
  · skip
    obtain ⟨x4, h5, h⟩ := obind h
    obtain ⟨x6, h7, h⟩ := obind h
    obtain ⟨x8, h9, h⟩ := obind h
    rcases bcases h with ⟨h10, h⟩ | ⟨h10, h⟩
    · skip
      rcases bcases h with ⟨h11, h⟩ | ⟨h11, h⟩
      · skip
        have h := Option.some.inj h; subst h
        exact wk_ret (fuel := 124) [.reg [oo, oo, oo, oo], .reg [oo, .op (.call [[0]] [(ti .u32 p)] (TV.c (T.bool x1))), oo], .br false, .reg [oo, oo, .op (.call [[1], [0]] [(tl 1 f ce_u32), (ti .u32 p)] (tl 1 x4 ce_u32)), oo, oo, .op (.call [[1], [0]] [(tl 1 g ce_u32), (ti .u32 p)] (tl 1 x6 ce_u32)), oo, oo], .reg [oo, oo, oo, .op (.call [[1], [1], [0]] [(tl 1 x4 ce_u32), (tl 1 x6 ce_u32), (ti .u32 p)] (tl 1 x8 ce_u32)), oo], .reg [oo, .op (.ln (x6.length : Int)), oo], .br true, .reg [oo, .op (.ln (x4.length : Int)), oo], .br true, .reg [oo, oo, oo, oo]] _ hn (by kernel_rfl) (aC (modular_IsPrime_holds h2) <| aC h3 <| aC (modpoly_Normal_holds h5) <| aC (modpoly_Normal_holds h7) <| aC (modpoly_gcd_holds h9) <| aC (ln_eq x6 ce_u32) <| aC h10 <| aC (ln_eq x4 ce_u32) <| aC h11 <| aN)
      · skip
        obtain ⟨x12, h13, h⟩ := obind h
        obtain ⟨x14, h15, h⟩ := obind h
        have h := Option.some.inj h; subst h
        exact wk_ret (fuel := 132) [.reg [oo, oo, oo, oo], .reg [oo, .op (.call [[0]] [(ti .u32 p)] (TV.c (T.bool x1))), oo], .br false, .reg [oo, oo, .op (.call [[1], [0]] [(tl 1 f ce_u32), (ti .u32 p)] (tl 1 x4 ce_u32)), oo, oo, .op (.call [[1], [0]] [(tl 1 g ce_u32), (ti .u32 p)] (tl 1 x6 ce_u32)), oo, oo], .reg [oo, oo, oo, .op (.call [[1], [1], [0]] [(tl 1 x4 ce_u32), (tl 1 x6 ce_u32), (ti .u32 p)] (tl 1 x8 ce_u32)), oo], .reg [oo, .op (.ln (x6.length : Int)), oo], .br true, .reg [oo, .op (.ln (x4.length : Int)), oo], .br false, .reg [oo, oo, .op (.ln (x4.length : Int)), oo, .op (.ix (ce_u32 x12)), oo, oo, .op (.call [[0], [0]] [(ti .u32 x12), (ti .u32 p)] (TV.tup [(false, [(T.int .u32 x14.1)]), (false, [(T.int .i64 x14.2)])])), oo, oo, oo, oo, oo], .reg [oo, oo, .op (.lit (([x14.1] : List Int).map ce_u32)), oo, oo, oo, oo, .snap 7 (max 0 (0 + 1)) (([x14.1] : List Int).map ce_u32)]] _ hn (by kernel_rfl) (aC (modular_IsPrime_holds h2) <| aC h3 <| aC (modpoly_Normal_holds h5) <| aC (modpoly_Normal_holds h7) <| aC (modpoly_gcd_holds h9) <| aC (ln_eq x6 ce_u32) <| aC h10 <| aC (ln_eq x4 ce_u32) <| aC h11 <| aC (ln_eq x4 ce_u32) <| aC (gi_nn h13) <| aC (gi_at ce_u32 h13) <| aC (modular_Inverse_holds h15) <| aC (by kernel_rfl : [(T.int .u32 x14.1)] = (([x14.1] : List Int).map ce_u32).flatten) <| aC (sn_map _ _ _ (by simp) : ((([x14.1] : List Int).map ce_u32).drop 0).take 1 = ([x14.1] : List Int).map ce_u32) <| aC (rfl : (max 0 (0 + 1)) = (max 0 (0 + 1))) <| aN)
    · skip
      obtain ⟨x11, h12, h⟩ := obind h
      rcases bcases h with ⟨h13, h⟩ | ⟨h13, h⟩
      · skip
        obtain ⟨x14, h15, h⟩ := obind h
        obtain ⟨x16, h17, h⟩ := obind h
        have h := Option.some.inj h; subst h
        exact wk_ret (fuel := 140) [.reg [oo, oo, oo, oo], .reg [oo, .op (.call [[0]] [(ti .u32 p)] (TV.c (T.bool x1))), oo], .br false, .reg [oo, oo, .op (.call [[1], [0]] [(tl 1 f ce_u32), (ti .u32 p)] (tl 1 x4 ce_u32)), oo, oo, .op (.call [[1], [0]] [(tl 1 g ce_u32), (ti .u32 p)] (tl 1 x6 ce_u32)), oo, oo], .reg [oo, oo, oo, .op (.call [[1], [1], [0]] [(tl 1 x4 ce_u32), (tl 1 x6 ce_u32), (ti .u32 p)] (tl 1 x8 ce_u32)), oo], .reg [oo, .op (.ln (x6.length : Int)), oo], .br false, .reg [oo, oo, oo, .op (.call [[1], [1], [0]] [(tl 1 x6 ce_u32), (tl 1 x8 ce_u32), (ti .u32 p)] (TV.tup [(false, [(T.sl 1 (x11.1.map ce_u32))]), (false, [(T.sl 1 (x11.2.map ce_u32))])])), oo, oo, oo, oo, oo], .reg [oo, .op (.ln (x11.1.length : Int)), oo], .br true, .reg [oo, oo, .op (.ln (x6.length : Int)), oo, .op (.ix (ce_u32 x14)), oo, oo, .op (.call [[0], [0]] [(ti .u32 x14), (ti .u32 p)] (TV.tup [(false, [(T.int .u32 x16.1)]), (false, [(T.int .i64 x16.2)])])), oo, oo, oo, oo, oo], .reg [oo, oo, .op (.lit (([x16.1] : List Int).map ce_u32)), oo, oo, oo, oo, .snap 8 (max 0 (0 + 1)) (([x16.1] : List Int).map ce_u32)]] _ hn (by kernel_rfl) (aC (modular_IsPrime_holds h2) <| aC h3 <| aC (modpoly_Normal_holds h5) <| aC (modpoly_Normal_holds h7) <| aC (modpoly_gcd_holds h9) <| aC (ln_eq x6 ce_u32) <| aC h10 <| aC (modpoly_divide_holds h12) <| aC (ln_eq x11.1 ce_u32) <| aC h13 <| aC (ln_eq x6 ce_u32) <| aC (gi_nn h15) <| aC (gi_at ce_u32 h15) <| aC (modular_Inverse_holds h17) <| aC (by kernel_rfl : [(T.int .u32 x16.1)] = (([x16.1] : List Int).map ce_u32).flatten) <| aC (sn_map _ _ _ (by simp) : ((([x16.1] : List Int).map ce_u32).drop 0).take 1 = ([x16.1] : List Int).map ce_u32) <| aC (rfl : (max 0 (0 + 1)) = (max 0 (0 + 1))) <| aN)
      · skip
        obtain ⟨x14, h15, h⟩ := obind h
        obtain ⟨x16, h17, h⟩ := obind h
        obtain ⟨x18, h19, h⟩ := obind h
        obtain ⟨x20, h21, h⟩ := obind h
        obtain ⟨x22, h23, h⟩ := obind h
        have h := Option.some.inj h; subst h
        exact wk_ret (fuel := 164) [.reg [oo, oo, oo, oo], .reg [oo, .op (.call [[0]] [(ti .u32 p)] (TV.c (T.bool x1))), oo], .br false, .reg [oo, oo, .op (.call [[1], [0]] [(tl 1 f ce_u32), (ti .u32 p)] (tl 1 x4 ce_u32)), oo, oo, .op (.call [[1], [0]] [(tl 1 g ce_u32), (ti .u32 p)] (tl 1 x6 ce_u32)), oo, oo], .reg [oo, oo, oo, .op (.call [[1], [1], [0]] [(tl 1 x4 ce_u32), (tl 1 x6 ce_u32), (ti .u32 p)] (tl 1 x8 ce_u32)), oo], .reg [oo, .op (.ln (x6.length : Int)), oo], .br false, .reg [oo, oo, oo, .op (.call [[1], [1], [0]] [(tl 1 x6 ce_u32), (tl 1 x8 ce_u32), (ti .u32 p)] (TV.tup [(false, [(T.sl 1 (x11.1.map ce_u32))]), (false, [(T.sl 1 (x11.2.map ce_u32))])])), oo, oo, oo, oo, oo], .reg [oo, .op (.ln (x11.1.length : Int)), oo], .br false, .reg [oo, oo, oo, .op (.call [[1], [1], [0]] [(tl 1 x4 ce_u32), (tl 1 x8 ce_u32), (ti .u32 p)] (TV.tup [(false, [(T.sl 1 (x14.1.map ce_u32))]), (false, [(T.sl 1 (x14.2.map ce_u32))])])), oo, oo, oo, oo, oo], .reg [oo, oo, oo, .op (.call [[1], [1], [0]] [(tl 1 x14.1 ce_u32), (tl 1 x11.1 ce_u32), (ti .u32 p)] (tl 1 x16 ce_u32)), oo], .reg [oo, oo, oo, oo, .op (.call [[1], [1], [0]] [(tl 1 x16 ce_u32), (tl 1 x4 ce_u32), (ti .u32 p)] (tl 1 x18 ce_u32)), oo, .op (.call [[1], [1], [0]] [(tl 1 x8 ce_u32), (tl 1 x18 ce_u32), (ti .u32 p)] (tl 1 x20 ce_u32)), oo], .reg [oo, oo, oo, .op (.call [[1], [1], [0]] [(tl 1 x20 ce_u32), (tl 1 x6 ce_u32), (ti .u32 p)] (TV.tup [(false, [(T.sl 1 (x22.1.map ce_u32))]), (false, [(T.sl 1 (x22.2.map ce_u32))])])), oo, oo, oo, oo], .reg [oo, oo, oo, oo, oo, oo, oo]] _ hn (by kernel_rfl) (aC (modular_IsPrime_holds h2) <| aC h3 <| aC (modpoly_Normal_holds h5) <| aC (modpoly_Normal_holds h7) <| aC (modpoly_gcd_holds h9) <| aC (ln_eq x6 ce_u32) <| aC h10 <| aC (modpoly_divide_holds h12) <| aC (ln_eq x11.1 ce_u32) <| aC h13 <| aC (modpoly_divide_holds h15) <| aC (modpoly_inverse_holds h17) <| aC (modpoly_Mul_holds h19) <| aC (modpoly_Sub_holds h21) <| aC (modpoly_divide_holds h23) <| aN)

theorem modpoly_Xgcd_all : ∀ K : Nat, modpoly_Xgcd_H K
  | 0, c, r, h => by rw [modpoly_Xgcd_go] at h; cases h
  | K + 1, .c0 .., r, h => fun cx hn => modpoly_Xgcd_c0 (modpoly_Xgcd_all K) hn h

theorem modpoly_Xgcd_holds {K : Nat} {f : (List Int)} {g : (List Int)} {p : Int} {r : ((List Int) × (List Int) × (List Int) × Int)} (h : modpoly_Xgcd K f g p = some r) : Holds prog 158 [(tl 1 f ce_u32), (tl 1 g ce_u32), (ti .u32 p)] (TV.tup [(false, [(T.sl 1 (r.1.map ce_u32))]), (false, [(T.sl 1 (r.2.1.map ce_u32))]), (false, [(T.sl 1 (r.2.2.1.map ce_u32))]), (false, [(T.int .i64 r.2.2.2)])]) :=
  holds_wk [[1], [1], [1], [0]] (by kernel_rfl) (by simp) fun cx hn => modpoly_Xgcd_all K (.c0 f g p) r h cx hn
end Go.Am.X
namespace Go.Am.X
open Go.Proofs.Try (prog)


inductive hensel_cofactors_Cut where
  | c0 (list : (List (List Int))) (p : Int)
  | c1 (list : (List (List Int))) (p : Int) (t20 : (List (List Int))) (t21 : Int) (t22 : Int)
  | c2 (r27 : (List Int)) (list : (List (List Int))) (p : Int) (i : Int) (g : (List Int)) (t20 : (List (List Int))) (t21 : Int) (t22 : Int) (t28 : (List (List Int))) (t29 : Int) (t30 : Int)
  | c3 (list : (List (List Int))) (p : Int) (i : Int) (g : (List Int)) (others : (List Int)) (t20 : (List (List Int))) (t21 : Int) (t22 : Int) (t28 : (List (List Int))) (t29 : Int) (t30 : Int)
  | c4 (r27 : (List Int)) (list : (List (List Int))) (p : Int) (i : Int) (g : (List Int)) (t20 : (List (List Int))) (t21 : Int) (t22 : Int) (t28 : (List (List Int))) (t29 : Int) (t30 : Int)
  | c5 (r74 : (List (List Int))) (list : (List (List Int))) (p : Int) (t20 : (List (List Int))) (t21 : Int) (t22 : Int)
  | c6 (list : (List (List Int))) (p : Int) (i : Int) (g : (List Int)) (others : (List Int)) (t20 : (List (List Int))) (t21 : Int) (t22 : Int) (t28 : (List (List Int))) (t29 : Int) (t30 : Int)
  | c7 (r27 : (List Int)) (r74 : (List (List Int))) (list : (List (List Int))) (p : Int) (i : Int) (g : (List Int)) (t20 : (List (List Int))) (t21 : Int) (t22 : Int) (t28 : (List (List Int))) (t29 : Int) (t30 : Int)
  | c8 (r74 : (List (List Int))) (list : (List (List Int))) (p : Int) (i : Int) (g : (List Int)) (others : (List Int)) (t20 : (List (List Int))) (t21 : Int) (t22 : Int) (t28 : (List (List Int))) (t29 : Int) (t30 : Int)
  | c9 (r27 : (List Int)) (r74 : (List (List Int))) (list : (List (List Int))) (p : Int) (i : Int) (g : (List Int)) (t20 : (List (List Int))) (t21 : Int) (t22 : Int) (t28 : (List (List Int))) (t29 : Int) (t30 : Int)
  | c10 (r74 : (List (List Int))) (list : (List (List Int))) (p : Int) (i : Int) (g : (List Int)) (others : (List Int)) (t20 : (List (List Int))) (t21 : Int) (t22 : Int) (t28 : (List (List Int))) (t29 : Int) (t30 : Int)

def hensel_cofactors_go : Nat → hensel_cofactors_Cut → Option (List (List Int))
  | 0, _ => none
  | K + 1, .c0 list p =>
    hensel_cofactors_go K (.c1 list p list (list.length : Int) (0 : Int))
  | K + 1, .c1 list p t20 t21 t22 =>
    bif (decide (t22 < t21)) then
      (gi t20 t22).bind fun x2 =>
      hensel_cofactors_go K (.c2 ([(1 : Int)] : List Int) list p t22 x2 t20 t21 t22 list (list.length : Int) (0 : Int))
    else
      some []
  | K + 1, .c2 r27 list p i g t20 t21 t22 t28 t29 t30 =>
    bif (decide (t30 < t29)) then
      (gi t28 t30).bind fun x2 =>
      bif (!decide (i = t30)) then
        (modpoly_Mul K r27 x2 p).bind fun x5 =>
        hensel_cofactors_go K (.c3 list p i g x5 t20 t21 t22 t28 t29 t30)
      else
        hensel_cofactors_go K (.c4 r27 list p i g t20 t21 t22 t28 t29 t30)
    else
      (modpoly_Xgcd K r27 g p).bind fun x2 =>
      (gi x2.1 (0 : Int)).bind fun x4 =>
      (modular_Inverse K x4 p).bind fun x6 =>
      (modpoly_Scale K x2.2.1 x6.1 p).bind fun x8 =>
      (modpoly_Divide K x8 g p).bind fun x10 =>
      hensel_cofactors_go K (.c5 ([x10.2.1] : List (List Int)) list p t20 t21 (IntKind.i64.wrap (t22 + (1 : Int))))
  | K + 1, .c3 list p i g others t20 t21 t22 t28 t29 t30 =>
    hensel_cofactors_go K (.c6 list p i g others t20 t21 t22 t28 t29 (IntKind.i64.wrap (t30 + (1 : Int))))
  | K + 1, .c4 r27 list p i g t20 t21 t22 t28 t29 t30 =>
    hensel_cofactors_go K (.c2 r27 list p i g t20 t21 t22 t28 t29 (IntKind.i64.wrap (t30 + (1 : Int))))
  | K + 1, .c5 r74 list p t20 t21 t22 =>
    bif (decide (t22 < t21)) then
      (gi t20 t22).bind fun x2 =>
      hensel_cofactors_go K (.c7 ([(1 : Int)] : List Int) r74 list p t22 x2 t20 t21 t22 list (list.length : Int) (0 : Int))
    else
      some r74
  | K + 1, .c6 list p i g others t20 t21 t22 t28 t29 t30 =>
    bif (decide (t30 < t29)) then
      (gi t28 t30).bind fun x2 =>
      bif (!decide (i = t30)) then
        (modpoly_Mul K others x2 p).bind fun x5 =>
        hensel_cofactors_go K (.c3 list p i g x5 t20 t21 t22 t28 t29 t30)
      else
        hensel_cofactors_go K (.c3 list p i g others t20 t21 t22 t28 t29 t30)
    else
      (modpoly_Xgcd K others g p).bind fun x2 =>
      (gi x2.1 (0 : Int)).bind fun x4 =>
      (modular_Inverse K x4 p).bind fun x6 =>
      (modpoly_Scale K x2.2.1 x6.1 p).bind fun x8 =>
      (modpoly_Divide K x8 g p).bind fun x10 =>
      hensel_cofactors_go K (.c5 ([x10.2.1] : List (List Int)) list p t20 t21 (IntKind.i64.wrap (t22 + (1 : Int))))
  | K + 1, .c7 r27 r74 list p i g t20 t21 t22 t28 t29 t30 =>
    bif (decide (t30 < t29)) then
      (gi t28 t30).bind fun x2 =>
      bif (!decide (i = t30)) then
        (modpoly_Mul K r27 x2 p).bind fun x5 =>
        hensel_cofactors_go K (.c8 r74 list p i g x5 t20 t21 t22 t28 t29 t30)
      else
        hensel_cofactors_go K (.c9 r27 r74 list p i g t20 t21 t22 t28 t29 t30)
    else
      (modpoly_Xgcd K r27 g p).bind fun x2 =>
      (gi x2.1 (0 : Int)).bind fun x4 =>
      (modular_Inverse K x4 p).bind fun x6 =>
      (modpoly_Scale K x2.2.1 x6.1 p).bind fun x8 =>
      (modpoly_Divide K x8 g p).bind fun x10 =>
      gd ((r74 ++ ([x10.2.1] : List (List Int))).length * 24 ≤ 140737488355328) <|
      hensel_cofactors_go K (.c5 (r74 ++ ([x10.2.1] : List (List Int))) list p t20 t21 (IntKind.i64.wrap (t22 + (1 : Int))))
  | K + 1, .c8 r74 list p i g others t20 t21 t22 t28 t29 t30 =>
    hensel_cofactors_go K (.c10 r74 list p i g others t20 t21 t22 t28 t29 (IntKind.i64.wrap (t30 + (1 : Int))))
  | K + 1, .c9 r27 r74 list p i g t20 t21 t22 t28 t29 t30 =>
    hensel_cofactors_go K (.c7 r27 r74 list p i g t20 t21 t22 t28 t29 (IntKind.i64.wrap (t30 + (1 : Int))))
  | K + 1, .c10 r74 list p i g others t20 t21 t22 t28 t29 t30 =>
    bif (decide (t30 < t29)) then
      (gi t28 t30).bind fun x2 =>
      bif (!decide (i = t30)) then
        (modpoly_Mul K others x2 p).bind fun x5 =>
        hensel_cofactors_go K (.c8 r74 list p i g x5 t20 t21 t22 t28 t29 t30)
      else
        hensel_cofactors_go K (.c8 r74 list p i g others t20 t21 t22 t28 t29 t30)
    else
      (modpoly_Xgcd K others g p).bind fun x2 =>
      (gi x2.1 (0 : Int)).bind fun x4 =>
      (modular_Inverse K x4 p).bind fun x6 =>
      (modpoly_Scale K x2.2.1 x6.1 p).bind fun x8 =>
      (modpoly_Divide K x8 g p).bind fun x10 =>
      gd ((r74 ++ ([x10.2.1] : List (List Int))).length * 24 ≤ 140737488355328) <|
      hensel_cofactors_go K (.c5 (r74 ++ ([x10.2.1] : List (List Int))) list p t20 t21 (IntKind.i64.wrap (t22 + (1 : Int))))

def hensel_cofactors (K : Nat) (list : (List (List Int))) (p : Int) : Option (List (List Int)) := hensel_cofactors_go K (.c0 list p)

noncomputable def hensel_cofactors_body : Code := bodyOf prog 115
noncomputable def hensel_cofactors_pos : hensel_cofactors_Cut → List Fr
  | .c0 .. => [.code hensel_cofactors_body]
  | .c1 .. => [.code (.loop (atC hensel_cofactors_body [1,1,0,1,0,0])), .blk 0, .code (atC hensel_cofactors_body [1,1,1])]
  | .c2 .. => [.code (.loop (atC hensel_cofactors_body [1,1,0,1,0,0,1,1,0,0,1,1,0,1,0,0])), .blk 2, .code (atC hensel_cofactors_body [1,1,0,1,0,0,1,1,0,0,1,1,1]), .blk 1, .code (atC hensel_cofactors_body [1,1,0,1,0,0,1,1,1]), .lp (atC hensel_cofactors_body [1,1,0,1,0,0]), .blk 0, .code (atC hensel_cofactors_body [1,1,1])]
  | .c3 .. => [.code (atC hensel_cofactors_body [1,1,0,1,0,0,1,1,0,0,1,1,0,1,0,0,1,1,1]), .lp (atC hensel_cofactors_body [1,1,0,1,0,0,1,1,0,0,1,1,0,1,0,0]), .blk 2, .code (atC hensel_cofactors_body [1,1,0,1,0,0,1,1,0,0,1,1,1]), .blk 1, .code (atC hensel_cofactors_body [1,1,0,1,0,0,1,1,1]), .lp (atC hensel_cofactors_body [1,1,0,1,0,0]), .blk 0, .code (atC hensel_cofactors_body [1,1,1])]
  | .c4 .. => [.code (atC hensel_cofactors_body [1,1,0,1,0,0,1,1,0,0,1,1,0,1,0,0,1,1,1]), .lp (atC hensel_cofactors_body [1,1,0,1,0,0,1,1,0,0,1,1,0,1,0,0]), .blk 2, .code (atC hensel_cofactors_body [1,1,0,1,0,0,1,1,0,0,1,1,1]), .blk 1, .code (atC hensel_cofactors_body [1,1,0,1,0,0,1,1,1]), .lp (atC hensel_cofactors_body [1,1,0,1,0,0]), .blk 0, .code (atC hensel_cofactors_body [1,1,1])]
  | .c5 .. => [.code (.loop (atC hensel_cofactors_body [1,1,0,1,0,0])), .blk 0, .code (atC hensel_cofactors_body [1,1,1])]
  | .c6 .. => [.code (.loop (atC hensel_cofactors_body [1,1,0,1,0,0,1,1,0,0,1,1,0,1,0,0])), .blk 2, .code (atC hensel_cofactors_body [1,1,0,1,0,0,1,1,0,0,1,1,1]), .blk 1, .code (atC hensel_cofactors_body [1,1,0,1,0,0,1,1,1]), .lp (atC hensel_cofactors_body [1,1,0,1,0,0]), .blk 0, .code (atC hensel_cofactors_body [1,1,1])]
  | .c7 .. => [.code (.loop (atC hensel_cofactors_body [1,1,0,1,0,0,1,1,0,0,1,1,0,1,0,0])), .blk 2, .code (atC hensel_cofactors_body [1,1,0,1,0,0,1,1,0,0,1,1,1]), .blk 1, .code (atC hensel_cofactors_body [1,1,0,1,0,0,1,1,1]), .lp (atC hensel_cofactors_body [1,1,0,1,0,0]), .blk 0, .code (atC hensel_cofactors_body [1,1,1])]
  | .c8 .. => [.code (atC hensel_cofactors_body [1,1,0,1,0,0,1,1,0,0,1,1,0,1,0,0,1,1,1]), .lp (atC hensel_cofactors_body [1,1,0,1,0,0,1,1,0,0,1,1,0,1,0,0]), .blk 2, .code (atC hensel_cofactors_body [1,1,0,1,0,0,1,1,0,0,1,1,1]), .blk 1, .code (atC hensel_cofactors_body [1,1,0,1,0,0,1,1,1]), .lp (atC hensel_cofactors_body [1,1,0,1,0,0]), .blk 0, .code (atC hensel_cofactors_body [1,1,1])]
  | .c9 .. => [.code (atC hensel_cofactors_body [1,1,0,1,0,0,1,1,0,0,1,1,0,1,0,0,1,1,1]), .lp (atC hensel_cofactors_body [1,1,0,1,0,0,1,1,0,0,1,1,0,1,0,0]), .blk 2, .code (atC hensel_cofactors_body [1,1,0,1,0,0,1,1,0,0,1,1,1]), .blk 1, .code (atC hensel_cofactors_body [1,1,0,1,0,0,1,1,1]), .lp (atC hensel_cofactors_body [1,1,0,1,0,0]), .blk 0, .code (atC hensel_cofactors_body [1,1,1])]
  | .c10 .. => [.code (.loop (atC hensel_cofactors_body [1,1,0,1,0,0,1,1,0,0,1,1,0,1,0,0])), .blk 2, .code (atC hensel_cofactors_body [1,1,0,1,0,0,1,1,0,0,1,1,1]), .blk 1, .code (atC hensel_cofactors_body [1,1,0,1,0,0,1,1,1]), .lp (atC hensel_cofactors_body [1,1,0,1,0,0]), .blk 0, .code (atC hensel_cofactors_body [1,1,1])]
def hensel_cofactors_st : hensel_cofactors_Cut → St
  | .c0 list p => St.init [(tl 1 list ce_Lu32), (ti .u32 p)]
  | .c1 list p t20 t21 t22 => ⟨[(0, vl 1 list ce_Lu32), (1, vi .u32 p), (5, .c (C.nil)), (20, vl 1 t20 ce_Lu32), (21, vi .i64 t21), (22, vi .i64 t22)], [], []⟩
  | .c2 r27 list p i g t20 t21 t22 t28 t29 t30 => ⟨[(0, vl 1 list ce_Lu32), (1, vi .u32 p), (5, .c (C.nil)), (6, vi .i64 i), (7, vl 1 g ce_u32), (8, .c (C.row 27 0 r27.length)), (20, vl 1 t20 ce_Lu32), (21, vi .i64 t21), (22, vi .i64 t22), (28, vl 1 t28 ce_Lu32), (29, vi .i64 t29), (30, vi .i64 t30)], [(27, .row 101 1 (r27.map ce_u32) 0)], []⟩
  | .c3 list p i g others t20 t21 t22 t28 t29 t30 => ⟨[(0, vl 1 list ce_Lu32), (1, vi .u32 p), (5, .c (C.nil)), (6, vi .i64 i), (7, vl 1 g ce_u32), (8, vl 1 others ce_u32), (20, vl 1 t20 ce_Lu32), (21, vi .i64 t21), (22, vi .i64 t22), (28, vl 1 t28 ce_Lu32), (29, vi .i64 t29), (30, vi .i64 t30)], [], []⟩
  | .c4 r27 list p i g t20 t21 t22 t28 t29 t30 => ⟨[(0, vl 1 list ce_Lu32), (1, vi .u32 p), (5, .c (C.nil)), (6, vi .i64 i), (7, vl 1 g ce_u32), (8, .c (C.row 27 0 r27.length)), (20, vl 1 t20 ce_Lu32), (21, vi .i64 t21), (22, vi .i64 t22), (28, vl 1 t28 ce_Lu32), (29, vi .i64 t29), (30, vi .i64 t30)], [(27, .row 101 1 (r27.map ce_u32) 0)], []⟩
  | .c5 r74 list p t20 t21 t22 => ⟨[(0, vl 1 list ce_Lu32), (1, vi .u32 p), (5, .c (C.row 74 0 r74.length)), (20, vl 1 t20 ce_Lu32), (21, vi .i64 t21), (22, vi .i64 t22)], [(74, .row 114 1 (r74.map ce_Lu32) 0)], []⟩
  | .c6 list p i g others t20 t21 t22 t28 t29 t30 => ⟨[(0, vl 1 list ce_Lu32), (1, vi .u32 p), (5, .c (C.nil)), (6, vi .i64 i), (7, vl 1 g ce_u32), (8, vl 1 others ce_u32), (20, vl 1 t20 ce_Lu32), (21, vi .i64 t21), (22, vi .i64 t22), (28, vl 1 t28 ce_Lu32), (29, vi .i64 t29), (30, vi .i64 t30)], [], []⟩
  | .c7 r27 r74 list p i g t20 t21 t22 t28 t29 t30 => ⟨[(0, vl 1 list ce_Lu32), (1, vi .u32 p), (5, .c (C.row 74 0 r74.length)), (6, vi .i64 i), (7, vl 1 g ce_u32), (8, .c (C.row 27 0 r27.length)), (20, vl 1 t20 ce_Lu32), (21, vi .i64 t21), (22, vi .i64 t22), (28, vl 1 t28 ce_Lu32), (29, vi .i64 t29), (30, vi .i64 t30)], [(27, .row 101 1 (r27.map ce_u32) 0), (74, .row 114 1 (r74.map ce_Lu32) 0)], []⟩
  | .c8 r74 list p i g others t20 t21 t22 t28 t29 t30 => ⟨[(0, vl 1 list ce_Lu32), (1, vi .u32 p), (5, .c (C.row 74 0 r74.length)), (6, vi .i64 i), (7, vl 1 g ce_u32), (8, vl 1 others ce_u32), (20, vl 1 t20 ce_Lu32), (21, vi .i64 t21), (22, vi .i64 t22), (28, vl 1 t28 ce_Lu32), (29, vi .i64 t29), (30, vi .i64 t30)], [(74, .row 114 1 (r74.map ce_Lu32) 0)], []⟩
  | .c9 r27 r74 list p i g t20 t21 t22 t28 t29 t30 => ⟨[(0, vl 1 list ce_Lu32), (1, vi .u32 p), (5, .c (C.row 74 0 r74.length)), (6, vi .i64 i), (7, vl 1 g ce_u32), (8, .c (C.row 27 0 r27.length)), (20, vl 1 t20 ce_Lu32), (21, vi .i64 t21), (22, vi .i64 t22), (28, vl 1 t28 ce_Lu32), (29, vi .i64 t29), (30, vi .i64 t30)], [(27, .row 101 1 (r27.map ce_u32) 0), (74, .row 114 1 (r74.map ce_Lu32) 0)], []⟩
  | .c10 r74 list p i g others t20 t21 t22 t28 t29 t30 => ⟨[(0, vl 1 list ce_Lu32), (1, vi .u32 p), (5, .c (C.row 74 0 r74.length)), (6, vi .i64 i), (7, vl 1 g ce_u32), (8, vl 1 others ce_u32), (20, vl 1 t20 ce_Lu32), (21, vi .i64 t21), (22, vi .i64 t22), (28, vl 1 t28 ce_Lu32), (29, vi .i64 t29), (30, vi .i64 t30)], [(74, .row 114 1 (r74.map ce_Lu32) 0)], []⟩

def hensel_cofactors_S (cx : Cx) (c : hensel_cofactors_Cut) (r : (List (List Int))) : Prop := Wk prog cx (EndsF prog 115 [[1]] (tl 1 r ce_Lu32)) (hensel_cofactors_pos c) .normal (hensel_cofactors_st c)
abbrev hensel_cofactors_H (K : Nat) : Prop := ∀ c r, hensel_cofactors_go K c = some r → ∀ cx : Cx, cx.n = 77 → hensel_cofactors_S cx c r

theorem hensel_cofactors_c0 {K} (ih : hensel_cofactors_H K) {cx} (hn : cx.n = 77) {list p} {r} (h : hensel_cofactors_go (K + 1) (.c0 list p) = some r) : hensel_cofactors_S cx (.c0 list p) r := by
  rw [hensel_cofactors_go] at h
  exact wk_go (fuel := 64) [.reg [oo], .reg [oo], .reg [oo, .op (.ln (list.length : Int)), oo], .pre [.keep [0,1,5,20,21,22] []]] _ hn (by kernel_rfl) (aC (ln_eq list ce_Lu32) <| aN) (ih _ _ h cx hn)

theorem hensel_cofactors_c1 {K} (ih : hensel_cofactors_H K) {cx} (hn : cx.n = 77) {list p t20 t21 t22} {r} (h : hensel_cofactors_go (K + 1) (.c1 list p t20 t21 t22) = some r) : hensel_cofactors_S cx (.c1 list p t20 t21 t22) r := by
  rw [hensel_cofactors_go] at h
  rcases bcases h with ⟨h1, h⟩ | ⟨h1, h⟩
  · skip
    obtain ⟨x2, h3, h⟩ := obind h
    exact wk_go (fuel := 94) [.go, .reg [oo], .br true, .reg [oo, .op (.ix (ce_Lu32 x2)), oo, oo, oo], .reg [.op (.lit (([(1 : Int)] : List Int).map ce_u32)), oo], .reg [oo, .op (.ln (list.length : Int)), oo], .pre [.rl 8 0 ([(1 : Int)] : List Int).length, .keep [0,1,5,6,7,8,20,21,22,28,29,30] [27]]] _ hn (by kernel_rfl) (aC h1 <| aC (gi_nn h3) <| aC (gi_at ce_Lu32 h3) <| aC (by kernel_rfl : [(T.int .u32 (1 : Int))] = (([(1 : Int)] : List Int).map ce_u32).flatten) <| aC (ln_eq list ce_Lu32) <| aC r0 <| aC (by simp : 1 = ([(1 : Int)] : List Int).length) <| aN) (ih _ _ h cx hn)
  · skip
    have h := Option.some.inj h; subst h
    exact wk_ret (fuel := 78) [.go, .reg [oo], .br false, .reg [oo, oo]] _ hn (by kernel_rfl) (aC h1 <| aN)

theorem hensel_cofactors_c2 {K} (ih : hensel_cofactors_H K) {cx} (hn : cx.n = 77) {r27 list p i g t20 t21 t22 t28 t29 t30} {r} (h : hensel_cofactors_go (K + 1) (.c2 r27 list p i g t20 t21 t22 t28 t29 t30) = some r) : hensel_cofactors_S cx (.c2 r27 list p i g t20 t21 t22 t28 t29 t30) r := by
  rw [hensel_cofactors_go] at h
  rcases bcases h with ⟨h1, h⟩ | ⟨h1, h⟩
  · skip
    obtain ⟨x2, h3, h⟩ := obind h
    rcases bcases h with ⟨h4, h⟩ | ⟨h4, h⟩
    · skip
      obtain ⟨x5, h6, h⟩ := obind h
      exact wk_go (fuel := 96) [.go, .reg [oo], .br true, .reg [oo, .op (.ix (ce_Lu32 x2)), oo, oo, oo], .reg [oo, oo, oo], .br true, .reg [oo, oo, oo, .snap 38 (max 0 (0 + r27.length)) (r27.map ce_u32), .op (.call [[1], [1], [0]] [(tl 1 r27 ce_u32), (tl 1 x2 ce_u32), (ti .u32 p)] (tl 1 x5 ce_u32)), oo], .pre [.keep [0,1,5,6,7,8,20,21,22,28,29,30] []]] _ hn (by kernel_rfl) (aC h1 <| aC (gi_nn h3) <| aC (gi_at ce_Lu32 h3) <| aC h4 <| aC (sn_map _ _ _ (by simp) : ((r27.map ce_u32).drop 0).take r27.length = r27.map ce_u32) <| aC (rfl : (max 0 (0 + r27.length)) = (max 0 (0 + r27.length))) <| aC (modpoly_Mul_holds h6) <| aN) (ih _ _ h cx hn)
    · skip
      exact wk_go (fuel := 92) [.go, .reg [oo], .br true, .reg [oo, .op (.ix (ce_Lu32 x2)), oo, oo, oo], .reg [oo, oo, oo], .br false, .pre [.rl 8 0 r27.length, .keep [0,1,5,6,7,8,20,21,22,28,29,30] [27]]] _ hn (by kernel_rfl) (aC h1 <| aC (gi_nn h3) <| aC (gi_at ce_Lu32 h3) <| aC h4 <| aC r0 <| aC (lq r27) <| aN) (ih _ _ h cx hn)
  · skip
    obtain ⟨x2, h3, h⟩ := obind h
    obtain ⟨x4, h5, h⟩ := obind h
    obtain ⟨x6, h7, h⟩ := obind h
    obtain ⟨x8, h9, h⟩ := obind h
    obtain ⟨x10, h11, h⟩ := obind h
    exact wk_go (fuel := 108) [.go, .reg [oo], .br false, .reg [oo, oo, oo, .snap 44 (max 0 (0 + r27.length)) (r27.map ce_u32), .op (.call [[1], [1], [0]] [(tl 1 r27 ce_u32), (tl 1 g ce_u32), (ti .u32 p)] (TV.tup [(false, [(T.sl 1 (x2.1.map ce_u32))]), (false, [(T.sl 1 (x2.2.1.map ce_u32))]), (false, [(T.sl 1 (x2.2.2.1.map ce_u32))]), (false, [(T.int .i64 x2.2.2.2)])])), oo, oo, oo, oo, oo, oo, oo, oo, oo], .reg [oo, .op (.ix (ce_u32 x4)), oo, oo, .op (.call [[0], [0]] [(ti .u32 x4), (ti .u32 p)] (TV.tup [(false, [(T.int .u32 x6.1)]), (false, [(T.int .i64 x6.2)])])), oo, oo, oo, oo, oo], .reg [oo, oo, oo, .op (.call [[1], [0], [0]] [(TV.c (T.sl 1 (x2.2.1.map ce_u32))), (ti .u32 x6.1), (ti .u32 p)] (tl 1 x8 ce_u32)), oo, oo, .op (.call [[1], [1], [0]] [(tl 1 x8 ce_u32), (tl 1 g ce_u32), (ti .u32 p)] (TV.tup [(false, [(T.sl 1 (x10.1.map ce_u32))]), (false, [(T.sl 1 (x10.2.1.map ce_u32))]), (false, [(T.int .i64 x10.2.2)])])), oo, oo, oo, oo, oo, oo, oo], .reg [oo, oo, .op (.lit (([x10.2.1] : List (List Int)).map ce_Lu32)), .op (.appN (([x10.2.1] : List (List Int)).map ce_Lu32)), oo], .reg [oo, oo], .pre [.rl 5 0 ([x10.2.1] : List (List Int)).length, .keep [0,1,5,20,21,22] [74]]] _ hn (by kernel_rfl) (aC h1 <| aC (sn_map _ _ _ (by simp) : ((r27.map ce_u32).drop 0).take r27.length = r27.map ce_u32) <| aC (rfl : (max 0 (0 + r27.length)) = (max 0 (0 + r27.length))) <| aC (modpoly_Xgcd_holds h3) <| aC (gi_nn h5) <| aC (gi_at ce_u32 h5) <| aC (modular_Inverse_holds h7) <| aC (modpoly_Scale_holds h9) <| aC (modpoly_Divide_holds h11) <| aC (by kernel_rfl : [(T.sl 1 (x10.2.1.map ce_u32))] = (([x10.2.1] : List (List Int)).map ce_Lu32).flatten) <| aC (sn_map _ _ _ (by simp) : ((([x10.2.1] : List (List Int)).map ce_Lu32).drop 0).take 1 = ([x10.2.1] : List (List Int)).map ce_Lu32) <| aC (by simp : 0 < (([x10.2.1] : List (List Int)).map ce_Lu32).length) <| aC (by simp : (([x10.2.1] : List (List Int)).map ce_Lu32).length * 24 ≤ 140737488355328) <| aC (by simp [maxLen] : (([x10.2.1] : List (List Int)).map ce_Lu32).length ≤ maxLen) <| aC r0 <| aC (by simp : (([x10.2.1] : List (List Int)).map ce_Lu32).length = ([x10.2.1] : List (List Int)).length) <| aN) (ih _ _ h cx hn)

theorem hensel_cofactors_c3 {K} (ih : hensel_cofactors_H K) {cx} (hn : cx.n = 77) {list p i g others t20 t21 t22 t28 t29 t30} {r} (h : hensel_cofactors_go (K + 1) (.c3 list p i g others t20 t21 t22 t28 t29 t30) = some r) : hensel_cofactors_S cx (.c3 list p i g others t20 t21 t22 t28 t29 t30) r := by
  rw [hensel_cofactors_go] at h
  exact wk_go (fuel := 44) [.reg [oo, oo], .pre [.keep [0,1,5,6,7,8,20,21,22,28,29,30] []]] _ hn (by kernel_rfl) aN (ih _ _ h cx hn)

theorem hensel_cofactors_c4 {K} (ih : hensel_cofactors_H K) {cx} (hn : cx.n = 77) {r27 list p i g t20 t21 t22 t28 t29 t30} {r} (h : hensel_cofactors_go (K + 1) (.c4 r27 list p i g t20 t21 t22 t28 t29 t30) = some r) : hensel_cofactors_S cx (.c4 r27 list p i g t20 t21 t22 t28 t29 t30) r := by
  rw [hensel_cofactors_go] at h
  exact wk_go (fuel := 44) [.reg [oo, oo], .pre [.rl 8 0 r27.length, .keep [0,1,5,6,7,8,20,21,22,28,29,30] [27]]] _ hn (by kernel_rfl) (aC r0 <| aC (lq r27) <| aN) (ih _ _ h cx hn)

theorem hensel_cofactors_c5 {K} (ih : hensel_cofactors_H K) {cx} (hn : cx.n = 77) {r74 list p t20 t21 t22} {r} (h : hensel_cofactors_go (K + 1) (.c5 r74 list p t20 t21 t22) = some r) : hensel_cofactors_S cx (.c5 r74 list p t20 t21 t22) r := by
  rw [hensel_cofactors_go] at h
  rcases bcases h with ⟨h1, h⟩ | ⟨h1, h⟩
  · skip
    obtain ⟨x2, h3, h⟩ := obind h
    exact wk_go (fuel := 94) [.go, .reg [oo], .br true, .reg [oo, .op (.ix (ce_Lu32 x2)), oo, oo, oo], .reg [.op (.lit (([(1 : Int)] : List Int).map ce_u32)), oo], .reg [oo, .op (.ln (list.length : Int)), oo], .pre [.rl 5 0 r74.length, .rl 8 0 ([(1 : Int)] : List Int).length, .keep [0,1,5,6,7,8,20,21,22,28,29,30] [27,74]]] _ hn (by kernel_rfl) (aC h1 <| aC (gi_nn h3) <| aC (gi_at ce_Lu32 h3) <| aC (by kernel_rfl : [(T.int .u32 (1 : Int))] = (([(1 : Int)] : List Int).map ce_u32).flatten) <| aC (ln_eq list ce_Lu32) <| aC r0 <| aC (lq r74) <| aC r0 <| aC (by simp : 1 = ([(1 : Int)] : List Int).length) <| aN) (ih _ _ h cx hn)
  · skip
    have h := Option.some.inj h; subst h
    exact wk_ret (fuel := 78) [.go, .reg [oo], .br false, .reg [oo, oo, .snap 4 (max 0 (0 + r74.length)) (r74.map ce_Lu32)]] _ hn (by kernel_rfl) (aC h1 <| aC (sn_map _ _ _ (by simp) : ((r74.map ce_Lu32).drop 0).take r74.length = r74.map ce_Lu32) <| aC (rfl : (max 0 (0 + r74.length)) = (max 0 (0 + r74.length))) <| aN)

theorem hensel_cofactors_c6 {K} (ih : hensel_cofactors_H K) {cx} (hn : cx.n = 77) {list p i g others t20 t21 t22 t28 t29 t30} {r} (h : hensel_cofactors_go (K + 1) (.c6 list p i g others t20 t21 t22 t28 t29 t30) = some r) : hensel_cofactors_S cx (.c6 list p i g others t20 t21 t22 t28 t29 t30) r := by
  rw [hensel_cofactors_go] at h
  rcases bcases h with ⟨h1, h⟩ | ⟨h1, h⟩
  · skip
    obtain ⟨x2, h3, h⟩ := obind h
    rcases bcases h with ⟨h4, h⟩ | ⟨h4, h⟩
    · skip
      obtain ⟨x5, h6, h⟩ := obind h
      exact wk_go (fuel := 96) [.go, .reg [oo], .br true, .reg [oo, .op (.ix (ce_Lu32 x2)), oo, oo, oo], .reg [oo, oo, oo], .br true, .reg [oo, oo, oo, .op (.call [[1], [1], [0]] [(tl 1 others ce_u32), (tl 1 x2 ce_u32), (ti .u32 p)] (tl 1 x5 ce_u32)), oo], .pre [.keep [0,1,5,6,7,8,20,21,22,28,29,30] []]] _ hn (by kernel_rfl) (aC h1 <| aC (gi_nn h3) <| aC (gi_at ce_Lu32 h3) <| aC h4 <| aC (modpoly_Mul_holds h6) <| aN) (ih _ _ h cx hn)
    · skip
      exact wk_go (fuel := 92) [.go, .reg [oo], .br true, .reg [oo, .op (.ix (ce_Lu32 x2)), oo, oo, oo], .reg [oo, oo, oo], .br false, .pre [.keep [0,1,5,6,7,8,20,21,22,28,29,30] []]] _ hn (by kernel_rfl) (aC h1 <| aC (gi_nn h3) <| aC (gi_at ce_Lu32 h3) <| aC h4 <| aN) (ih _ _ h cx hn)
  · skip
    obtain ⟨x2, h3, h⟩ := obind h
    obtain ⟨x4, h5, h⟩ := obind h
    obtain ⟨x6, h7, h⟩ := obind h
    obtain ⟨x8, h9, h⟩ := obind h
    obtain ⟨x10, h11, h⟩ := obind h
    exact wk_go (fuel := 108) [.go, .reg [oo], .br false, .reg [oo, oo, oo, .op (.call [[1], [1], [0]] [(tl 1 others ce_u32), (tl 1 g ce_u32), (ti .u32 p)] (TV.tup [(false, [(T.sl 1 (x2.1.map ce_u32))]), (false, [(T.sl 1 (x2.2.1.map ce_u32))]), (false, [(T.sl 1 (x2.2.2.1.map ce_u32))]), (false, [(T.int .i64 x2.2.2.2)])])), oo, oo, oo, oo, oo, oo, oo, oo, oo], .reg [oo, .op (.ix (ce_u32 x4)), oo, oo, .op (.call [[0], [0]] [(ti .u32 x4), (ti .u32 p)] (TV.tup [(false, [(T.int .u32 x6.1)]), (false, [(T.int .i64 x6.2)])])), oo, oo, oo, oo, oo], .reg [oo, oo, oo, .op (.call [[1], [0], [0]] [(TV.c (T.sl 1 (x2.2.1.map ce_u32))), (ti .u32 x6.1), (ti .u32 p)] (tl 1 x8 ce_u32)), oo, oo, .op (.call [[1], [1], [0]] [(tl 1 x8 ce_u32), (tl 1 g ce_u32), (ti .u32 p)] (TV.tup [(false, [(T.sl 1 (x10.1.map ce_u32))]), (false, [(T.sl 1 (x10.2.1.map ce_u32))]), (false, [(T.int .i64 x10.2.2)])])), oo, oo, oo, oo, oo, oo, oo], .reg [oo, oo, .op (.lit (([x10.2.1] : List (List Int)).map ce_Lu32)), .op (.appN (([x10.2.1] : List (List Int)).map ce_Lu32)), oo], .reg [oo, oo], .pre [.rl 5 0 ([x10.2.1] : List (List Int)).length, .keep [0,1,5,20,21,22] [74]]] _ hn (by kernel_rfl) (aC h1 <| aC (modpoly_Xgcd_holds h3) <| aC (gi_nn h5) <| aC (gi_at ce_u32 h5) <| aC (modular_Inverse_holds h7) <| aC (modpoly_Scale_holds h9) <| aC (modpoly_Divide_holds h11) <| aC (by kernel_rfl : [(T.sl 1 (x10.2.1.map ce_u32))] = (([x10.2.1] : List (List Int)).map ce_Lu32).flatten) <| aC (sn_map _ _ _ (by simp) : ((([x10.2.1] : List (List Int)).map ce_Lu32).drop 0).take 1 = ([x10.2.1] : List (List Int)).map ce_Lu32) <| aC (by simp : 0 < (([x10.2.1] : List (List Int)).map ce_Lu32).length) <| aC (by simp : (([x10.2.1] : List (List Int)).map ce_Lu32).length * 24 ≤ 140737488355328) <| aC (by simp [maxLen] : (([x10.2.1] : List (List Int)).map ce_Lu32).length ≤ maxLen) <| aC r0 <| aC (by simp : (([x10.2.1] : List (List Int)).map ce_Lu32).length = ([x10.2.1] : List (List Int)).length) <| aN) (ih _ _ h cx hn)

theorem hensel_cofactors_c7 {K} (ih : hensel_cofactors_H K) {cx} (hn : cx.n = 77) {r27 r74 list p i g t20 t21 t22 t28 t29 t30} {r} (h : hensel_cofactors_go (K + 1) (.c7 r27 r74 list p i g t20 t21 t22 t28 t29 t30) = some r) : hensel_cofactors_S cx (.c7 r27 r74 list p i g t20 t21 t22 t28 t29 t30) r := by
  rw [hensel_cofactors_go] at h
  rcases bcases h with ⟨h1, h⟩ | ⟨h1, h⟩
  · skip
    obtain ⟨x2, h3, h⟩ := obind h
    rcases bcases h with ⟨h4, h⟩ | ⟨h4, h⟩
    · skip
      obtain ⟨x5, h6, h⟩ := obind h
      exact wk_go (fuel := 96) [.go, .reg [oo], .br true, .reg [oo, .op (.ix (ce_Lu32 x2)), oo, oo, oo], .reg [oo, oo, oo], .br true, .reg [oo, oo, oo, .snap 38 (max 0 (0 + r27.length)) (r27.map ce_u32), .op (.call [[1], [1], [0]] [(tl 1 r27 ce_u32), (tl 1 x2 ce_u32), (ti .u32 p)] (tl 1 x5 ce_u32)), oo], .pre [.rl 5 0 r74.length, .keep [0,1,5,6,7,8,20,21,22,28,29,30] [74]]] _ hn (by kernel_rfl) (aC h1 <| aC (gi_nn h3) <| aC (gi_at ce_Lu32 h3) <| aC h4 <| aC (sn_map _ _ _ (by simp) : ((r27.map ce_u32).drop 0).take r27.length = r27.map ce_u32) <| aC (rfl : (max 0 (0 + r27.length)) = (max 0 (0 + r27.length))) <| aC (modpoly_Mul_holds h6) <| aC r0 <| aC (lq r74) <| aN) (ih _ _ h cx hn)
    · skip
      exact wk_go (fuel := 92) [.go, .reg [oo], .br true, .reg [oo, .op (.ix (ce_Lu32 x2)), oo, oo, oo], .reg [oo, oo, oo], .br false, .pre [.rl 5 0 r74.length, .rl 8 0 r27.length, .keep [0,1,5,6,7,8,20,21,22,28,29,30] [27,74]]] _ hn (by kernel_rfl) (aC h1 <| aC (gi_nn h3) <| aC (gi_at ce_Lu32 h3) <| aC h4 <| aC r0 <| aC (lq r74) <| aC r0 <| aC (lq r27) <| aN) (ih _ _ h cx hn)
  · skip
    obtain ⟨x2, h3, h⟩ := obind h
    obtain ⟨x4, h5, h⟩ := obind h
    obtain ⟨x6, h7, h⟩ := obind h
    obtain ⟨x8, h9, h⟩ := obind h
    obtain ⟨x10, h11, h⟩ := obind h
    obtain ⟨h12, h⟩ := gd_some h
    exact wk_go (fuel := 108) [.go, .reg [oo], .br false, .reg [oo, oo, oo, .snap 44 (max 0 (0 + r27.length)) (r27.map ce_u32), .op (.call [[1], [1], [0]] [(tl 1 r27 ce_u32), (tl 1 g ce_u32), (ti .u32 p)] (TV.tup [(false, [(T.sl 1 (x2.1.map ce_u32))]), (false, [(T.sl 1 (x2.2.1.map ce_u32))]), (false, [(T.sl 1 (x2.2.2.1.map ce_u32))]), (false, [(T.int .i64 x2.2.2.2)])])), oo, oo, oo, oo, oo, oo, oo, oo, oo], .reg [oo, .op (.ix (ce_u32 x4)), oo, oo, .op (.call [[0], [0]] [(ti .u32 x4), (ti .u32 p)] (TV.tup [(false, [(T.int .u32 x6.1)]), (false, [(T.int .i64 x6.2)])])), oo, oo, oo, oo, oo], .reg [oo, oo, oo, .op (.call [[1], [0], [0]] [(TV.c (T.sl 1 (x2.2.1.map ce_u32))), (ti .u32 x6.1), (ti .u32 p)] (tl 1 x8 ce_u32)), oo, oo, .op (.call [[1], [1], [0]] [(tl 1 x8 ce_u32), (tl 1 g ce_u32), (ti .u32 p)] (TV.tup [(false, [(T.sl 1 (x10.1.map ce_u32))]), (false, [(T.sl 1 (x10.2.1.map ce_u32))]), (false, [(T.int .i64 x10.2.2)])])), oo, oo, oo, oo, oo, oo, oo], .pre [.keep [0,1,5,18,20,21,22] [74]], .reg [oo, oo, .op (.lit (([x10.2.1] : List (List Int)).map ce_Lu32)), .appR (([x10.2.1] : List (List Int)).map ce_Lu32) ((r74 ++ ([x10.2.1] : List (List Int))).map ce_Lu32), oo], .reg [oo, oo], .pre [.rl 5 0 (r74 ++ ([x10.2.1] : List (List Int))).length, .keep [0,1,5,20,21,22] [74]]] _ hn (by kernel_rfl) (aC h1 <| aC (sn_map _ _ _ (by simp) : ((r27.map ce_u32).drop 0).take r27.length = r27.map ce_u32) <| aC (rfl : (max 0 (0 + r27.length)) = (max 0 (0 + r27.length))) <| aC (modpoly_Xgcd_holds h3) <| aC (gi_nn h5) <| aC (gi_at ce_u32 h5) <| aC (modular_Inverse_holds h7) <| aC (modpoly_Scale_holds h9) <| aC (modpoly_Divide_holds h11) <| aC (by kernel_rfl : [(T.sl 1 (x10.2.1.map ce_u32))] = (([x10.2.1] : List (List Int)).map ce_Lu32).flatten) <| aC (by simp : r74.length = (r74.map ce_Lu32).length) <| aC (sn_map _ _ _ (by simp) : ((([x10.2.1] : List (List Int)).map ce_Lu32).drop 0).take 1 = ([x10.2.1] : List (List Int)).map ce_Lu32) <| aC (app_map _ _ _ : r74.map ce_Lu32 ++ ([x10.2.1] : List (List Int)).map ce_Lu32 = (r74 ++ ([x10.2.1] : List (List Int))).map ce_Lu32) <| aC ((len_map _ _).symm ▸ h12 : ((r74 ++ ([x10.2.1] : List (List Int))).map ce_Lu32).length * 24 ≤ 140737488355328) <| aC ((len_map _ _).symm ▸ room (by decide) h12 : ((r74 ++ ([x10.2.1] : List (List Int))).map ce_Lu32).length ≤ maxLen) <| aC r0 <| aC (by simp : ((r74 ++ ([x10.2.1] : List (List Int))).map ce_Lu32).length = (r74 ++ ([x10.2.1] : List (List Int))).length) <| aN) (ih _ _ h cx hn)

theorem hensel_cofactors_c8 {K} (ih : hensel_cofactors_H K) {cx} (hn : cx.n = 77) {r74 list p i g others t20 t21 t22 t28 t29 t30} {r} (h : hensel_cofactors_go (K + 1) (.c8 r74 list p i g others t20 t21 t22 t28 t29 t30) = some r) : hensel_cofactors_S cx (.c8 r74 list p i g others t20 t21 t22 t28 t29 t30) r := by
  rw [hensel_cofactors_go] at h
  exact wk_go (fuel := 44) [.reg [oo, oo], .pre [.rl 5 0 r74.length, .keep [0,1,5,6,7,8,20,21,22,28,29,30] [74]]] _ hn (by kernel_rfl) (aC r0 <| aC (lq r74) <| aN) (ih _ _ h cx hn)

theorem hensel_cofactors_c9 {K} (ih : hensel_cofactors_H K) {cx} (hn : cx.n = 77) {r27 r74 list p i g t20 t21 t22 t28 t29 t30} {r} (h : hensel_cofactors_go (K + 1) (.c9 r27 r74 list p i g t20 t21 t22 t28 t29 t30) = some r) : hensel_cofactors_S cx (.c9 r27 r74 list p i g t20 t21 t22 t28 t29 t30) r := by
  rw [hensel_cofactors_go] at h
  exact wk_go (fuel := 44) [.reg [oo, oo], .pre [.rl 5 0 r74.length, .rl 8 0 r27.length, .keep [0,1,5,6,7,8,20,21,22,28,29,30] [27,74]]] _ hn (by kernel_rfl) (aC r0 <| aC (lq r74) <| aC r0 <| aC (lq r27) <| aN) (ih _ _ h cx hn)

theorem hensel_cofactors_c10 {K} (ih : hensel_cofactors_H K) {cx} (hn : cx.n = 77) {r74 list p i g others t20 t21 t22 t28 t29 t30} {r} (h : hensel_cofactors_go (K + 1) (.c10 r74 list p i g others t20 t21 t22 t28 t29 t30) = some r) : hensel_cofactors_S cx (.c10 r74 list p i g others t20 t21 t22 t28 t29 t30) r := by
  rw [hensel_cofactors_go] at h
  rcases bcases h with ⟨h1, h⟩ | ⟨h1, h⟩
  · skip
    obtain ⟨x2, h3, h⟩ := obind h
    rcases bcases h with ⟨h4, h⟩ | ⟨h4, h⟩
    · skip
      obtain ⟨x5, h6, h⟩ := obind h
      exact wk_go (fuel := 96) [.go, .reg [oo], .br true, .reg [oo, .op (.ix (ce_Lu32 x2)), oo, oo, oo], .reg [oo, oo, oo], .br true, .reg [oo, oo, oo, .op (.call [[1], [1], [0]] [(tl 1 others ce_u32), (tl 1 x2 ce_u32), (ti .u32 p)] (tl 1 x5 ce_u32)), oo], .pre [.rl 5 0 r74.length, .keep [0,1,5,6,7,8,20,21,22,28,29,30] [74]]] _ hn (by kernel_rfl) (aC h1 <| aC (gi_nn h3) <| aC (gi_at ce_Lu32 h3) <| aC h4 <| aC (modpoly_Mul_holds h6) <| aC r0 <| aC (lq r74) <| aN) (ih _ _ h cx hn)
    · skip
      exact wk_go (fuel := 92) [.go, .reg [oo], .br true, .reg [oo, .op (.ix (ce_Lu32 x2)), oo, oo, oo], .reg [oo, oo, oo], .br false, .pre [.rl 5 0 r74.length, .keep [0,1,5,6,7,8,20,21,22,28,29,30] [74]]] _ hn (by kernel_rfl) (aC h1 <| aC (gi_nn h3) <| aC (gi_at ce_Lu32 h3) <| aC h4 <| aC r0 <| aC (lq r74) <| aN) (ih _ _ h cx hn)
  · skip
    obtain ⟨x2, h3, h⟩ := obind h
    obtain ⟨x4, h5, h⟩ := obind h
    obtain ⟨x6, h7, h⟩ := obind h
    obtain ⟨x8, h9, h⟩ := obind h
    obtain ⟨x10, h11, h⟩ := obind h
    obtain ⟨h12, h⟩ := gd_some h
    exact wk_go (fuel := 108) [.go, .reg [oo], .br false, .reg [oo, oo, oo, .op (.call [[1], [1], [0]] [(tl 1 others ce_u32), (tl 1 g ce_u32), (ti .u32 p)] (TV.tup [(false, [(T.sl 1 (x2.1.map ce_u32))]), (false, [(T.sl 1 (x2.2.1.map ce_u32))]), (false, [(T.sl 1 (x2.2.2.1.map ce_u32))]), (false, [(T.int .i64 x2.2.2.2)])])), oo, oo, oo, oo, oo, oo, oo, oo, oo], .reg [oo, .op (.ix (ce_u32 x4)), oo, oo, .op (.call [[0], [0]] [(ti .u32 x4), (ti .u32 p)] (TV.tup [(false, [(T.int .u32 x6.1)]), (false, [(T.int .i64 x6.2)])])), oo, oo, oo, oo, oo], .reg [oo, oo, oo, .op (.call [[1], [0], [0]] [(TV.c (T.sl 1 (x2.2.1.map ce_u32))), (ti .u32 x6.1), (ti .u32 p)] (tl 1 x8 ce_u32)), oo, oo, .op (.call [[1], [1], [0]] [(tl 1 x8 ce_u32), (tl 1 g ce_u32), (ti .u32 p)] (TV.tup [(false, [(T.sl 1 (x10.1.map ce_u32))]), (false, [(T.sl 1 (x10.2.1.map ce_u32))]), (false, [(T.int .i64 x10.2.2)])])), oo, oo, oo, oo, oo, oo, oo], .pre [.keep [0,1,5,18,20,21,22] [74]], .reg [oo, oo, .op (.lit (([x10.2.1] : List (List Int)).map ce_Lu32)), .appR (([x10.2.1] : List (List Int)).map ce_Lu32) ((r74 ++ ([x10.2.1] : List (List Int))).map ce_Lu32), oo], .reg [oo, oo], .pre [.rl 5 0 (r74 ++ ([x10.2.1] : List (List Int))).length, .keep [0,1,5,20,21,22] [74]]] _ hn (by kernel_rfl) (aC h1 <| aC (modpoly_Xgcd_holds h3) <| aC (gi_nn h5) <| aC (gi_at ce_u32 h5) <| aC (modular_Inverse_holds h7) <| aC (modpoly_Scale_holds h9) <| aC (modpoly_Divide_holds h11) <| aC (by kernel_rfl : [(T.sl 1 (x10.2.1.map ce_u32))] = (([x10.2.1] : List (List Int)).map ce_Lu32).flatten) <| aC (by simp : r74.length = (r74.map ce_Lu32).length) <| aC (sn_map _ _ _ (by simp) : ((([x10.2.1] : List (List Int)).map ce_Lu32).drop 0).take 1 = ([x10.2.1] : List (List Int)).map ce_Lu32) <| aC (app_map _ _ _ : r74.map ce_Lu32 ++ ([x10.2.1] : List (List Int)).map ce_Lu32 = (r74 ++ ([x10.2.1] : List (List Int))).map ce_Lu32) <| aC ((len_map _ _).symm ▸ h12 : ((r74 ++ ([x10.2.1] : List (List Int))).map ce_Lu32).length * 24 ≤ 140737488355328) <| aC ((len_map _ _).symm ▸ room (by decide) h12 : ((r74 ++ ([x10.2.1] : List (List Int))).map ce_Lu32).length ≤ maxLen) <| aC r0 <| aC (by simp : ((r74 ++ ([x10.2.1] : List (List Int))).map ce_Lu32).length = (r74 ++ ([x10.2.1] : List (List Int))).length) <| aN) (ih _ _ h cx hn)

theorem hensel_cofactors_all : ∀ K : Nat, hensel_cofactors_H K
  | 0, c, r, h => by rw [hensel_cofactors_go] at h; cases h
  | K + 1, .c0 .., r, h => fun cx hn => hensel_cofactors_c0 (hensel_cofactors_all K) hn h
  | K + 1, .c1 .., r, h => fun cx hn => hensel_cofactors_c1 (hensel_cofactors_all K) hn h
  | K + 1, .c2 .., r, h => fun cx hn => hensel_cofactors_c2 (hensel_cofactors_all K) hn h
  | K + 1, .c3 .., r, h => fun cx hn => hensel_cofactors_c3 (hensel_cofactors_all K) hn h
  | K + 1, .c4 .., r, h => fun cx hn => hensel_cofactors_c4 (hensel_cofactors_all K) hn h
  | K + 1, .c5 .., r, h => fun cx hn => hensel_cofactors_c5 (hensel_cofactors_all K) hn h
  | K + 1, .c6 .., r, h => fun cx hn => hensel_cofactors_c6 (hensel_cofactors_all K) hn h
  | K + 1, .c7 .., r, h => fun cx hn => hensel_cofactors_c7 (hensel_cofactors_all K) hn h
  | K + 1, .c8 .., r, h => fun cx hn => hensel_cofactors_c8 (hensel_cofactors_all K) hn h
  | K + 1, .c9 .., r, h => fun cx hn => hensel_cofactors_c9 (hensel_cofactors_all K) hn h
  | K + 1, .c10 .., r, h => fun cx hn => hensel_cofactors_c10 (hensel_cofactors_all K) hn h

theorem hensel_cofactors_holds {K : Nat} {list : (List (List Int))} {p : Int} {r : (List (List Int))} (h : hensel_cofactors K list p = some r) : Holds prog 115 [(tl 1 list ce_Lu32), (ti .u32 p)] (tl 1 r ce_Lu32) :=
  holds_wk [[1]] (by kernel_rfl) (by simp) fun cx hn => hensel_cofactors_all K (.c0 list p) r h cx hn
end Go.Am.X
namespace Go.Am.X
open Go.Proofs.Try (prog)


inductive division_Xgcd_Cut where
  | c0 (a : integer_Int) (b : integer_Int)
  | c1 (a : integer_Int) (b : integer_Int) (g : integer_Int) (x : integer_Int) (y : integer_Int) (r_v : integer_Int) (s : integer_Int) (u : integer_Int) (v : integer_Int)

def division_Xgcd_go : Nat → division_Xgcd_Cut → Option (integer_Int × integer_Int × integer_Int)
  | 0, _ => none
  | K + 1, .c0 a b =>
    (division_zero K b).bind fun x1 =>
    bif x1 then
      (integer_Abs K a).bind fun x4 =>
      (integer_Sign K a).bind fun x6 =>
      (integer_Of K x6).bind fun x8 =>
      some (x4, x8, (integer_Int.mk false []))
    else
      (integer_Normal K a).bind fun x4 =>
      (integer_Normal K b).bind fun x6 =>
      (integer_Of K (1 : Int)).bind fun x8 =>
      division_Xgcd_go K (.c1 a b (integer_Int.mk false []) (integer_Int.mk false []) (integer_Int.mk false []) x4 x6 x8 (integer_Int.mk false []))
  | K + 1, .c1 a b g x y r_v s u v =>
    (division_zero K s).bind fun x1 =>
    bif (!x1) then
      (division_Quo K r_v s).bind fun x4 =>
      (integer_Mul K x4.1 v).bind fun x6 =>
      (integer_Sub K u x6).bind fun x8 =>
      division_Xgcd_go K (.c1 a b g x y s x4.2.1 v x8)
    else
      (integer_Abs K r_v).bind fun x4 =>
      bif r_v.Neg then
        (integer_Neg K u).bind fun x7 =>
        (integer_Abs K b).bind fun x9 =>
        (division_Exact K x9 x4).bind fun x11 =>
        (division_Symmetric K x7 x11.1).bind fun x13 =>
        (integer_Mul K x13.1 a).bind fun x15 =>
        (integer_Sub K x4 x15).bind fun x17 =>
        (division_Exact K x17 b).bind fun x19 =>
        some (x4, x13.1, x19.1)
      else
        (integer_Abs K b).bind fun x7 =>
        (division_Exact K x7 x4).bind fun x9 =>
        (division_Symmetric K u x9.1).bind fun x11 =>
        (integer_Mul K x11.1 a).bind fun x13 =>
        (integer_Sub K x4 x13).bind fun x15 =>
        (division_Exact K x15 b).bind fun x17 =>
        some (x4, x11.1, x17.1)

def division_Xgcd (K : Nat) (a : integer_Int) (b : integer_Int) : Option (integer_Int × integer_Int × integer_Int) := division_Xgcd_go K (.c0 a b)

noncomputable def division_Xgcd_body : Code := bodyOf prog 157
noncomputable def division_Xgcd_pos : division_Xgcd_Cut → List Fr
  | .c0 .. => [.code division_Xgcd_body]
  | .c1 .. => [.code (.loop (atC division_Xgcd_body [1,1,1,1,0,0,0])), .blk 0, .code (atC division_Xgcd_body [1,1,1,1,1])]
def division_Xgcd_st : division_Xgcd_Cut → St
  | .c0 a b => St.init [(TV.agg (ce_integer_Int a)), (TV.agg (ce_integer_Int b))]
  | .c1 a b g x y r_v s u v => ⟨[(2, .c (C.ptr 2 0)), (3, .c (C.ptr 3 0)), (4, .c (C.ptr 4 0)), (5, .c (C.ptr 5 0)), (6, .c (C.ptr 6 0)), (7, .c (C.ptr 7 0)), (8, .c (C.ptr 8 0)), (9, .c (C.ptr 9 0)), (10, .c (C.ptr 10 0))], [(2, .var ((ce_integer_Int a).map C.t)), (3, .var ((ce_integer_Int b).map C.t)), (4, .var ((ce_integer_Int g).map C.t)), (5, .var ((ce_integer_Int x).map C.t)), (6, .var ((ce_integer_Int y).map C.t)), (7, .var ((ce_integer_Int r_v).map C.t)), (8, .var ((ce_integer_Int s).map C.t)), (9, .var ((ce_integer_Int u).map C.t)), (10, .var ((ce_integer_Int v).map C.t))], []⟩

def division_Xgcd_S (cx : Cx) (c : division_Xgcd_Cut) (r : (integer_Int × integer_Int × integer_Int)) : Prop := Wk prog cx (EndsF prog 157 [[0,1], [0,1], [0,1]] (TV.tup [(true, ce_integer_Int r.1), (true, ce_integer_Int r.2.1), (true, ce_integer_Int r.2.2)])) (division_Xgcd_pos c) .normal (division_Xgcd_st c)
abbrev division_Xgcd_H (K : Nat) : Prop := ∀ c r, division_Xgcd_go K c = some r → ∀ cx : Cx, cx.n = 80 → division_Xgcd_S cx c r

theorem division_Xgcd_c0 {K} (ih : division_Xgcd_H K) {cx} (hn : cx.n = 80) {a b} {r} (h : division_Xgcd_go (K + 1) (.c0 a b) = some r) : division_Xgcd_S cx (.c0 a b) r := by
  rw [division_Xgcd_go] at h
  obtain ⟨x1, h2, h⟩ := obind h
  rcases bcases h with ⟨h3, h⟩ | ⟨h3, h⟩
  · skip
    obtain ⟨x4, h5, h⟩ := obind h
    obtain ⟨x6, h7, h⟩ := obind h
    obtain ⟨x8, h9, h⟩ := obind h
    have h := Option.some.inj h; subst h
    exact wk_ret (fuel := 72) [.reg [oo, oo, oo, oo, oo], .reg [oo, .op (.call [[0,1]] [(TV.agg (ce_integer_Int b))] (TV.c (T.bool x1)))], .br true, .draw [.p, (.call [[0,1]] [(TV.agg (ce_integer_Int a))] (TV.agg (ce_integer_Int x4))), .p, (.call [[0,1]] [(TV.agg (ce_integer_Int a))] (ti .i64 x6)), (.call [[0]] [(ti .i64 x6)] (TV.agg (ce_integer_Int x8))), .p, .p, .p] [.op .p]] _ hn (by kernel_rfl) (aC (division_zero_holds h2) <| aC h3 <| aC (integer_Abs_holds h5) <| aC (integer_Sign_holds h7) <| aC (integer_Of_holds h9) <| aN)
  · skip
    obtain ⟨x4, h5, h⟩ := obind h
    obtain ⟨x6, h7, h⟩ := obind h
    obtain ⟨x8, h9, h⟩ := obind h
    exact wk_go (fuel := 82) [.reg [oo, oo, oo, oo, oo], .reg [oo, .op (.call [[0,1]] [(TV.agg (ce_integer_Int b))] (TV.c (T.bool x1)))], .br false, .draw [.p, (.call [[0,1]] [(TV.agg (ce_integer_Int a))] (TV.agg (ce_integer_Int x4))), .p, (.call [[0,1]] [(TV.agg (ce_integer_Int b))] (TV.agg (ce_integer_Int x6))), .p, .p] [.op .p, .op .p], .reg [.op (.call [[0]] [(TV.c (T.int .i64 (1 : Int)))] (TV.agg (ce_integer_Int x8))), oo, oo, oo, oo, oo], .pre [.tellB 4 [0,1], .tellB 5 [0,1], .tellB 6 [0,1], .tellB 10 [0,1], .keep [2,3,4,5,6,7,8,9,10] [2,3,4,5,6,7,8,9,10]]] _ hn (by kernel_rfl) (aC (division_zero_holds h2) <| aC h3 <| aC (integer_Normal_holds h5) <| aC (integer_Normal_holds h7) <| aC (integer_Of_holds h9) <| aN) (ih _ _ h cx hn)

theorem division_Xgcd_c1 {K} (ih : division_Xgcd_H K) {cx} (hn : cx.n = 80) {a b g x y r_v s u v} {r} (h : division_Xgcd_go (K + 1) (.c1 a b g x y r_v s u v) = some r) : division_Xgcd_S cx (.c1 a b g x y r_v s u v) r := by
  rw [division_Xgcd_go] at h
  obtain ⟨x1, h2, h⟩ := obind h
  rcases bcases h with ⟨h3, h⟩ | ⟨h3, h⟩
  · skip
    obtain ⟨x4, h5, h⟩ := obind h
    obtain ⟨x6, h7, h⟩ := obind h
    obtain ⟨x8, h9, h⟩ := obind h
    exact wk_go (fuel := 90) [.go, .reg [oo, .op (.call [[0,1]] [(TV.agg (ce_integer_Int s))] (TV.c (T.bool x1))), oo], .br true, .reg [oo, oo, .op (.call [[0,1], [0,1]] [(TV.agg (ce_integer_Int r_v)), (TV.agg (ce_integer_Int s))] (TV.tup [(true, ce_integer_Int x4.1), (true, ce_integer_Int x4.2.1), (false, [(T.int .i64 x4.2.2)])])), oo, oo, oo, oo, oo, oo, oo, oo, oo], .draw [.p, .p, .p] [.op .p], .draw [.p, .p, .p, .p, (.call [[0,1], [0,1]] [(TV.agg (ce_integer_Int x4.1)), (TV.agg (ce_integer_Int v))] (TV.agg (ce_integer_Int x6))), (.call [[0,1], [0,1]] [(TV.agg (ce_integer_Int u)), (TV.agg (ce_integer_Int x6))] (TV.agg (ce_integer_Int x8)))] [.op .p, .op .p], .pre [.keep [2,3,4,5,6,7,8,9,10] [2,3,4,5,6,7,8,9,10]]] _ hn (by kernel_rfl) (aC (division_zero_holds h2) <| aC h3 <| aC (division_Quo_holds h5) <| aC (integer_Mul_holds h7) <| aC (integer_Sub_holds h9) <| aN) (ih _ _ h cx hn)
  · skip
    obtain ⟨x4, h5, h⟩ := obind h
    rcases bcases h with ⟨h6, h⟩ | ⟨h6, h⟩
    · skip
      obtain ⟨x7, h8, h⟩ := obind h
      obtain ⟨x9, h10, h⟩ := obind h
      obtain ⟨x11, h12, h⟩ := obind h
      obtain ⟨x13, h14, h⟩ := obind h
      obtain ⟨x15, h16, h⟩ := obind h
      obtain ⟨x17, h18, h⟩ := obind h
      obtain ⟨x19, h20, h⟩ := obind h
      have h := Option.some.inj h; subst h
      exact wk_ret (fuel := 132) [.go, .reg [oo, .op (.call [[0,1]] [(TV.agg (ce_integer_Int s))] (TV.c (T.bool x1))), oo], .br false, .reg [oo, .op (.call [[0,1]] [(TV.agg (ce_integer_Int r_v))] (TV.agg (ce_integer_Int x4))), oo], .reg [oo, oo], .br true, .reg [oo, .op (.call [[0,1]] [(TV.agg (ce_integer_Int u))] (TV.agg (ce_integer_Int x7))), oo], .draw [.p, (.call [[0,1]] [(TV.agg (ce_integer_Int b))] (TV.agg (ce_integer_Int x9))), .p, (.call [[0,1], [0,1]] [(TV.agg (ce_integer_Int x9)), (TV.agg (ce_integer_Int x4))] (TV.tup [(true, ce_integer_Int x11.1), (false, [(T.int .i64 x11.2)])])), .p, .p, .p, .p, .p] [.op .p], .reg [oo, oo, .op (.call [[0,1], [0,1]] [(TV.agg (ce_integer_Int x7)), (TV.agg (ce_integer_Int x11.1))] (TV.tup [(true, ce_integer_Int x13.1), (false, [(T.int .i64 x13.2)])])), oo, oo, oo, oo], .draw [.p, .p, .p, (.call [[0,1], [0,1]] [(TV.agg (ce_integer_Int x13.1)), (TV.agg (ce_integer_Int a))] (TV.agg (ce_integer_Int x15))), (.call [[0,1], [0,1]] [(TV.agg (ce_integer_Int x4)), (TV.agg (ce_integer_Int x15))] (TV.agg (ce_integer_Int x17))), .p, (.call [[0,1], [0,1]] [(TV.agg (ce_integer_Int x17)), (TV.agg (ce_integer_Int b))] (TV.tup [(true, ce_integer_Int x19.1), (false, [(T.int .i64 x19.2)])])), .p, .p, .p, .p] [], .draw [.p, .p, .p, .p, .p] [.op .p]] _ hn (by kernel_rfl) (aC (division_zero_holds h2) <| aC h3 <| aC (integer_Abs_holds h5) <| aC h6 <| aC (integer_Neg_holds h8) <| aC (integer_Abs_holds h10) <| aC (division_Exact_holds h12) <| aC (division_Symmetric_holds h14) <| aC (integer_Mul_holds h16) <| aC (integer_Sub_holds h18) <| aC (division_Exact_holds h20) <| aN)
    · skip
      obtain ⟨x7, h8, h⟩ := obind h
      obtain ⟨x9, h10, h⟩ := obind h
      obtain ⟨x11, h12, h⟩ := obind h
      obtain ⟨x13, h14, h⟩ := obind h
      obtain ⟨x15, h16, h⟩ := obind h
      obtain ⟨x17, h18, h⟩ := obind h
      have h := Option.some.inj h; subst h
      exact wk_ret (fuel := 128) [.go, .reg [oo, .op (.call [[0,1]] [(TV.agg (ce_integer_Int s))] (TV.c (T.bool x1))), oo], .br false, .reg [oo, .op (.call [[0,1]] [(TV.agg (ce_integer_Int r_v))] (TV.agg (ce_integer_Int x4))), oo], .reg [oo, oo], .br false, .draw [.p, (.call [[0,1]] [(TV.agg (ce_integer_Int b))] (TV.agg (ce_integer_Int x7))), .p, (.call [[0,1], [0,1]] [(TV.agg (ce_integer_Int x7)), (TV.agg (ce_integer_Int x4))] (TV.tup [(true, ce_integer_Int x9.1), (false, [(T.int .i64 x9.2)])])), .p, .p, .p, .p, .p] [.op .p], .reg [oo, oo, .op (.call [[0,1], [0,1]] [(TV.agg (ce_integer_Int u)), (TV.agg (ce_integer_Int x9.1))] (TV.tup [(true, ce_integer_Int x11.1), (false, [(T.int .i64 x11.2)])])), oo, oo, oo, oo], .draw [.p, .p, .p, (.call [[0,1], [0,1]] [(TV.agg (ce_integer_Int x11.1)), (TV.agg (ce_integer_Int a))] (TV.agg (ce_integer_Int x13))), (.call [[0,1], [0,1]] [(TV.agg (ce_integer_Int x4)), (TV.agg (ce_integer_Int x13))] (TV.agg (ce_integer_Int x15))), .p, (.call [[0,1], [0,1]] [(TV.agg (ce_integer_Int x15)), (TV.agg (ce_integer_Int b))] (TV.tup [(true, ce_integer_Int x17.1), (false, [(T.int .i64 x17.2)])])), .p, .p, .p, .p] [], .draw [.p, .p, .p, .p, .p] [.op .p]] _ hn (by kernel_rfl) (aC (division_zero_holds h2) <| aC h3 <| aC (integer_Abs_holds h5) <| aC h6 <| aC (integer_Abs_holds h8) <| aC (division_Exact_holds h10) <| aC (division_Symmetric_holds h12) <| aC (integer_Mul_holds h14) <| aC (integer_Sub_holds h16) <| aC (division_Exact_holds h18) <| aN)

theorem division_Xgcd_all : ∀ K : Nat, division_Xgcd_H K
  | 0, c, r, h => by rw [division_Xgcd_go] at h; cases h
  | K + 1, .c0 .., r, h => fun cx hn => division_Xgcd_c0 (division_Xgcd_all K) hn h
  | K + 1, .c1 .., r, h => fun cx hn => division_Xgcd_c1 (division_Xgcd_all K) hn h

theorem division_Xgcd_holds {K : Nat} {a : integer_Int} {b : integer_Int} {r : (integer_Int × integer_Int × integer_Int)} (h : division_Xgcd K a b = some r) : Holds prog 157 [(TV.agg (ce_integer_Int a)), (TV.agg (ce_integer_Int b))] (TV.tup [(true, ce_integer_Int r.1), (true, ce_integer_Int r.2.1), (true, ce_integer_Int r.2.2)]) :=
  holds_wk [[0,1], [0,1], [0,1]] (by kernel_rfl) (by simp) fun cx hn => division_Xgcd_all K (.c0 a b) r h cx hn
end Go.Am.X
namespace Go.Am.X
open Go.Proofs.Try (prog)


inductive modpoly_Monic_Cut where
  | c0 (f : (List Int)) (p : Int)

def modpoly_Monic_go : Nat → modpoly_Monic_Cut → Option ((List Int) × Int)
  | 0, _ => none
  | K + 1, .c0 f p =>
    (modular_IsPrime K p).bind fun x1 =>
    bif (!x1) then
      some ([], (1 : Int))
    else
      (modpoly_Normal K f p).bind fun x4 =>
      (modpoly_monic K x4 p).bind fun x6 =>
      some (x6, (0 : Int))

def modpoly_Monic (K : Nat) (f : (List Int)) (p : Int) : Option ((List Int) × Int) := modpoly_Monic_go K (.c0 f p)

noncomputable def modpoly_Monic_body : Code := bodyOf prog 154
noncomputable def modpoly_Monic_pos : modpoly_Monic_Cut → List Fr
  | .c0 .. => [.code modpoly_Monic_body]
def modpoly_Monic_st : modpoly_Monic_Cut → St
  | .c0 f p => St.init [(tl 1 f ce_u32), (ti .u32 p)]

def modpoly_Monic_S (cx : Cx) (c : modpoly_Monic_Cut) (r : ((List Int) × Int)) : Prop := Wk prog cx (EndsF prog 154 [[1], [0]] (TV.tup [(false, [(T.sl 1 (r.1.map ce_u32))]), (false, [(T.int .i64 r.2)])])) (modpoly_Monic_pos c) .normal (modpoly_Monic_st c)
abbrev modpoly_Monic_H (K : Nat) : Prop := ∀ c r, modpoly_Monic_go K c = some r → ∀ cx : Cx, cx.n = 14 → modpoly_Monic_S cx c r

theorem modpoly_Monic_c0 {K} (_ : modpoly_Monic_H K) {cx} (hn : cx.n = 14) {f p} {r} (h : modpoly_Monic_go (K + 1) (.c0 f p) = some r) : modpoly_Monic_S cx (.c0 f p) r := by
  rw [modpoly_Monic_go] at h
  obtain ⟨x1, h2, h⟩ := obind h
  rcases bcases h with ⟨h3, h⟩ | ⟨h3, h⟩
  · skip
    have h := Option.some.inj h; subst h
    exact wk_ret (fuel := 72) [.reg [oo, oo], .reg [oo, .op (.call [[0]] [(ti .u32 p)] (TV.c (T.bool x1))), oo], .br true, .reg [oo, oo]] _ hn (by kernel_rfl) (aC (modular_IsPrime_holds h2) <| aC h3 <| aN)
  · skip
    obtain ⟨x4, h5, h⟩ := obind h
    obtain ⟨x6, h7, h⟩ := obind h
    have h := Option.some.inj h; subst h
    exact wk_ret (fuel := 72) [.reg [oo, oo], .reg [oo, .op (.call [[0]] [(ti .u32 p)] (TV.c (T.bool x1))), oo], .br false, .reg [oo, oo, .op (.call [[1], [0]] [(tl 1 f ce_u32), (ti .u32 p)] (tl 1 x4 ce_u32)), oo, .op (.call [[1], [0]] [(tl 1 x4 ce_u32), (ti .u32 p)] (tl 1 x6 ce_u32)), oo, oo]] _ hn (by kernel_rfl) (aC (modular_IsPrime_holds h2) <| aC h3 <| aC (modpoly_Normal_holds h5) <| aC (modpoly_monic_holds h7) <| aN)

theorem modpoly_Monic_all : ∀ K : Nat, modpoly_Monic_H K
  | 0, c, r, h => by rw [modpoly_Monic_go] at h; cases h
  | K + 1, .c0 .., r, h => fun cx hn => modpoly_Monic_c0 (modpoly_Monic_all K) hn h

theorem modpoly_Monic_holds {K : Nat} {f : (List Int)} {p : Int} {r : ((List Int) × Int)} (h : modpoly_Monic K f p = some r) : Holds prog 154 [(tl 1 f ce_u32), (ti .u32 p)] (TV.tup [(false, [(T.sl 1 (r.1.map ce_u32))]), (false, [(T.int .i64 r.2)])]) :=
  holds_wk [[1], [0]] (by kernel_rfl) (by simp) fun cx hn => modpoly_Monic_all K (.c0 f p) r h cx hn
end Go.Am.X
namespace Go.Am.X
open Go.Proofs.Try (prog)


inductive modular_Reduce_Cut where
  | c0 (a : integer_Int) (m : Int)

def modular_Reduce_go : Nat → modular_Reduce_Cut → Option Int
  | 0, _ => none
  | K + 1, .c0 a m =>
    (natural_DivSmall K a.Abs (max m (1 : Int))).bind fun x1 =>
    bif a.Neg then
      bif (decide ((0 : Int) < x1.2.1)) then
        some (IntKind.u32.wrap ((max m (1 : Int)) - x1.2.1))
      else
        some x1.2.1
    else
      some x1.2.1

def modular_Reduce (K : Nat) (a : integer_Int) (m : Int) : Option Int := modular_Reduce_go K (.c0 a m)

noncomputable def modular_Reduce_body : Code := bodyOf prog 64
noncomputable def modular_Reduce_pos : modular_Reduce_Cut → List Fr
  | .c0 .. => [.code modular_Reduce_body]
def modular_Reduce_st : modular_Reduce_Cut → St
  | .c0 a m => St.init [(TV.agg (ce_integer_Int a)), (ti .u32 m)]

def modular_Reduce_S (cx : Cx) (c : modular_Reduce_Cut) (r : Int) : Prop := Wk prog cx (EndsF prog 64 [[0]] (ti .u32 r)) (modular_Reduce_pos c) .normal (modular_Reduce_st c)
abbrev modular_Reduce_H (K : Nat) : Prop := ∀ c r, modular_Reduce_go K c = some r → ∀ cx : Cx, cx.n = 28 → modular_Reduce_S cx c r

theorem modular_Reduce_c0 {K} (_ : modular_Reduce_H K) {cx} (hn : cx.n = 28) {a m} {r} (h : modular_Reduce_go (K + 1) (.c0 a m) = some r) : modular_Reduce_S cx (.c0 a m) r := by
  rw [modular_Reduce_go] at h
  obtain ⟨x1, h2, h⟩ := obind h
  rcases bcases h with ⟨h3, h⟩ | ⟨h3, h⟩
  · skip
    rcases bcases h with ⟨h4, h⟩ | ⟨h4, h⟩
    · skip
      have h := Option.some.inj h; subst h
      exact wk_ret (fuel := 84) [.reg [oo, oo], .reg [oo, oo, oo, oo, .op (.call [[1], [0]] [(TV.c (T.sl 1 (a.Abs.map ce_u32))), (TV.c (T.int .u32 (max m (1 : Int))))] (TV.tup [(false, [(T.sl 1 (x1.1.map ce_u32))]), (false, [(T.int .u32 x1.2.1)]), (false, [(T.bool x1.2.2)])])), oo, oo, oo, oo, oo, oo, oo], .reg [oo, oo, oo, .sb 19 true, oo, oo, oo], .br true, .reg [oo, oo, oo, oo, oo], .reg [oo, oo]] _ hn (by kernel_rfl) (aC (natural_DivSmall_holds h2) <| aC h3 <| aC h4 <| aN)
    · skip
      have h := Option.some.inj h; subst h
      exact wk_ret (fuel := 80) [.reg [oo, oo], .reg [oo, oo, oo, oo, .op (.call [[1], [0]] [(TV.c (T.sl 1 (a.Abs.map ce_u32))), (TV.c (T.int .u32 (max m (1 : Int))))] (TV.tup [(false, [(T.sl 1 (x1.1.map ce_u32))]), (false, [(T.int .u32 x1.2.1)]), (false, [(T.bool x1.2.2)])])), oo, oo, oo, oo, oo, oo, oo], .reg [oo, oo, oo, .sb 19 true, oo, oo, oo], .br false, .reg [oo, oo]] _ hn (by kernel_rfl) (aC (natural_DivSmall_holds h2) <| aC h3 <| aC h4 <| aN)
  · skip
    have h := Option.some.inj h; subst h
    exact wk_ret (fuel := 80) [.reg [oo, oo], .reg [oo, oo, oo, oo, .op (.call [[1], [0]] [(TV.c (T.sl 1 (a.Abs.map ce_u32))), (TV.c (T.int .u32 (max m (1 : Int))))] (TV.tup [(false, [(T.sl 1 (x1.1.map ce_u32))]), (false, [(T.int .u32 x1.2.1)]), (false, [(T.bool x1.2.2)])])), oo, oo, oo, oo, oo, oo, oo], .reg [oo, oo, oo, .sb 19 false, oo, oo, oo], .br false, .reg [oo, oo]] _ hn (by kernel_rfl) (aC (natural_DivSmall_holds h2) <| aC h3 <| aC rf <| aN)

theorem modular_Reduce_all : ∀ K : Nat, modular_Reduce_H K
  | 0, c, r, h => by rw [modular_Reduce_go] at h; cases h
  | K + 1, .c0 .., r, h => fun cx hn => modular_Reduce_c0 (modular_Reduce_all K) hn h

theorem modular_Reduce_holds {K : Nat} {a : integer_Int} {m : Int} {r : Int} (h : modular_Reduce K a m = some r) : Holds prog 64 [(TV.agg (ce_integer_Int a)), (ti .u32 m)] (ti .u32 r) :=
  holds_wk [[0]] (by kernel_rfl) (by simp) fun cx hn => modular_Reduce_all K (.c0 a m) r h cx hn
end Go.Am.X
namespace Go.Am.X
open Go.Proofs.Try (prog)


inductive modpoly_Reduce_Cut where
  | c0 (f : (List integer_Int)) (m : Int)
  | c1 (r10 : (List Int)) (m : Int) (t11 : (List integer_Int)) (t12 : Int) (t13 : Int)

def modpoly_Reduce_go : Nat → modpoly_Reduce_Cut → Option (List Int)
  | 0, _ => none
  | K + 1, .c0 f m =>
    gd (0 ≤ (f.length : Int) ∧ (f.length : Int) ≤ (f.length : Int) ∧ (4 : Int) * (f.length : Int) ≤ 140737488355328) <|
    modpoly_Reduce_go K (.c1 (List.replicate (f.length : Int).toNat ((0 : Int) : Int)) m f (f.length : Int) (0 : Int))
  | K + 1, .c1 r10 m t11 t12 t13 =>
    bif (decide (t13 < t12)) then
      (gi t11 t13).bind fun x2 =>
      (modular_Reduce K x2 m).bind fun x4 =>
      (gi r10 t13).bind fun _ =>
      modpoly_Reduce_go K (.c1 (r10.set (t13.toNat) x4) m t11 t12 (IntKind.i64.wrap (t13 + (1 : Int))))
    else
      (modpoly_trim K r10).bind fun x2 =>
      some x2

def modpoly_Reduce (K : Nat) (f : (List integer_Int)) (m : Int) : Option (List Int) := modpoly_Reduce_go K (.c0 f m)

noncomputable def modpoly_Reduce_body : Code := bodyOf prog 60
noncomputable def modpoly_Reduce_pos : modpoly_Reduce_Cut → List Fr
  | .c0 .. => [.code modpoly_Reduce_body]
  | .c1 .. => [.code (.loop (atC modpoly_Reduce_body [1,1,0,1,0,0])), .blk 0, .code (atC modpoly_Reduce_body [1,1,1])]
def modpoly_Reduce_st : modpoly_Reduce_Cut → St
  | .c0 f m => St.init [(tl 2 f ce_integer_Int), (ti .u32 m)]
  | .c1 r10 m t11 t12 t13 => ⟨[(1, vi .u32 m), (5, .c (C.row 10 0 r10.length)), (11, vl 2 t11 ce_integer_Int), (12, vi .i64 t12), (13, vi .i64 t13)], [(10, .row 101 1 (r10.map ce_u32) 0)], []⟩

def modpoly_Reduce_S (cx : Cx) (c : modpoly_Reduce_Cut) (r : (List Int)) : Prop := Wk prog cx (EndsF prog 60 [[1]] (tl 1 r ce_u32)) (modpoly_Reduce_pos c) .normal (modpoly_Reduce_st c)
abbrev modpoly_Reduce_H (K : Nat) : Prop := ∀ c r, modpoly_Reduce_go K c = some r → ∀ cx : Cx, cx.n = 27 → modpoly_Reduce_S cx c r

theorem modpoly_Reduce_c0 {K} (ih : modpoly_Reduce_H K) {cx} (hn : cx.n = 27) {f m} {r} (h : modpoly_Reduce_go (K + 1) (.c0 f m) = some r) : modpoly_Reduce_S cx (.c0 f m) r := by
  rw [modpoly_Reduce_go] at h
  obtain ⟨h1, h⟩ := gd_some h
  exact wk_go (fuel := 64) [.reg [oo], .reg [oo, .op (.ln (f.length : Int)), .op (.mk (ce_u32 (0 : Int)) ((List.replicate (f.length : Int).toNat ((0 : Int) : Int)).map ce_u32)), oo], .reg [oo, .op (.ln (f.length : Int)), oo], .pre [.rl 5 0 (List.replicate (f.length : Int).toNat ((0 : Int) : Int)).length, .keep [1,5,11,12,13] [10]]] _ hn (by kernel_rfl) (aC (ln_eq f ce_integer_Int) <| aC h1.1 <| aC h1.2.1 <| aC h1.2.2 <| aC (rep_map _ _ _ : List.replicate (f.length : Int).toNat (ce_u32 (0 : Int)) = (List.replicate (f.length : Int).toNat ((0 : Int) : Int)).map ce_u32) <| aC (ln_eq f ce_integer_Int) <| aC r0 <| aC (by simp : (f.length : Int).toNat = (List.replicate (f.length : Int).toNat ((0 : Int) : Int)).length) <| aN) (ih _ _ h cx hn)

theorem modpoly_Reduce_c1 {K} (ih : modpoly_Reduce_H K) {cx} (hn : cx.n = 27) {r10 m t11 t12 t13} {r} (h : modpoly_Reduce_go (K + 1) (.c1 r10 m t11 t12 t13) = some r) : modpoly_Reduce_S cx (.c1 r10 m t11 t12 t13) r := by
  rw [modpoly_Reduce_go] at h
  rcases bcases h with ⟨h1, h⟩ | ⟨h1, h⟩
  · skip
    obtain ⟨x2, h3, h⟩ := obind h
    obtain ⟨x4, h5, h⟩ := obind h
    obtain ⟨x6, h7, h⟩ := obind h
    exact wk_go (fuel := 90) [.go, .reg [oo], .br true, .reg [oo, .op (.ix (ce_integer_Int x2)), oo, oo, oo, oo], .reg [oo, oo, oo, oo, .op (.call [[0,1], [0]] [(TV.agg (ce_integer_Int x2)), (ti .u32 m)] (ti .u32 x4)), .op .ir, .op (.st (ce_u32 x6) ((r10.set (t13.toNat) x4).map ce_u32))], .reg [oo, oo], .pre [.rl 5 0 (r10.set (t13.toNat) x4).length, .keep [1,5,11,12,13] [10]]] _ hn (by kernel_rfl) (aC h1 <| aC (gi_nn h3) <| aC (gi_at ce_integer_Int h3) <| aC (modular_Reduce_holds h5) <| aC (gi_nn h7) <| aC (gi_lt2 h7 (by simp) : t13 < ((r10.length : Nat) : Int)) <| aC (gi_row ce_u32 h7 : (r10.map ce_u32)[(0 + t13.toNat)]? = some (ce_u32 x6)) <| aC (set_map _ _ x4 _ : (r10.map ce_u32).set (0 + t13.toNat) (splice (ce_u32 x6) 0 [(T.int .u32 x4)]) = (r10.set (t13.toNat) x4).map ce_u32) <| aC (Nat.zero_le _ : 0 ≤ (0 + t13.toNat)) <| aC r0 <| aC (by simp : r10.length = (r10.set (t13.toNat) x4).length) <| aN) (ih _ _ h cx hn)
  · skip
    obtain ⟨x2, h3, h⟩ := obind h
    have h := Option.some.inj h; subst h
    exact wk_ret (fuel := 78) [.go, .reg [oo], .br false, .reg [oo, .snap 25 (max 0 (0 + r10.length)) (r10.map ce_u32), .op (.call [[1]] [(tl 1 r10 ce_u32)] (tl 1 x2 ce_u32)), oo]] _ hn (by kernel_rfl) (aC h1 <| aC (sn_map _ _ _ (by simp) : ((r10.map ce_u32).drop 0).take r10.length = r10.map ce_u32) <| aC (rfl : (max 0 (0 + r10.length)) = (max 0 (0 + r10.length))) <| aC (modpoly_trim_holds h3) <| aN)

theorem modpoly_Reduce_all : ∀ K : Nat, modpoly_Reduce_H K
  | 0, c, r, h => by rw [modpoly_Reduce_go] at h; cases h
  | K + 1, .c0 .., r, h => fun cx hn => modpoly_Reduce_c0 (modpoly_Reduce_all K) hn h
  | K + 1, .c1 .., r, h => fun cx hn => modpoly_Reduce_c1 (modpoly_Reduce_all K) hn h

theorem modpoly_Reduce_holds {K : Nat} {f : (List integer_Int)} {m : Int} {r : (List Int)} (h : modpoly_Reduce K f m = some r) : Holds prog 60 [(tl 2 f ce_integer_Int), (ti .u32 m)] (tl 1 r ce_u32) :=
  holds_wk [[1]] (by kernel_rfl) (by simp) fun cx hn => modpoly_Reduce_all K (.c0 f m) r h cx hn
end Go.Am.X
namespace Go.Am.X
open Go.Proofs.Try (prog)


inductive modpoly_compare_Cut where
  | c0 (x : (List Int)) (y : (List Int))
  | c1 (x : (List Int)) (y : (List Int)) (i : Int)

def modpoly_compare_go : Nat → modpoly_compare_Cut → Option Int
  | 0, _ => none
  | K + 1, .c0 x y =>
    bif (!decide ((x.length : Int) = (y.length : Int))) then
      bif (decide ((x.length : Int) < (y.length : Int))) then
        some (-1 : Int)
      else
        some (1 : Int)
    else
      modpoly_compare_go K (.c1 x y (IntKind.i64.wrap ((x.length : Int) - (1 : Int))))
  | K + 1, .c1 x y i =>
    bif (decide ((0 : Int) ≤ i)) then
      (gi x i).bind fun x2 =>
      (gi y i).bind fun x4 =>
      bif (decide (x2 < x4)) then
        some (-1 : Int)
      else
        (gi x i).bind fun x7 =>
        (gi y i).bind fun x9 =>
        bif (decide (x9 < x7)) then
          some (1 : Int)
        else
          modpoly_compare_go K (.c1 x y (IntKind.i64.wrap (i - (1 : Int))))
    else
      some (0 : Int)

def modpoly_compare (K : Nat) (x : (List Int)) (y : (List Int)) : Option Int := modpoly_compare_go K (.c0 x y)

noncomputable def modpoly_compare_body : Code := bodyOf prog 190
noncomputable def modpoly_compare_pos : modpoly_compare_Cut → List Fr
  | .c0 .. => [.code modpoly_compare_body]
  | .c1 .. => [.code (.loop (atC modpoly_compare_body [1,1,0,1,0,0])), .blk 0, .code (atC modpoly_compare_body [1,1,1])]
def modpoly_compare_st : modpoly_compare_Cut → St
  | .c0 x y => St.init [(tl 1 x ce_u32), (tl 1 y ce_u32)]
  | .c1 x y i => ⟨[(0, vl 1 x ce_u32), (1, vl 1 y ce_u32), (5, vi .i64 i)], [], []⟩

def modpoly_compare_S (cx : Cx) (c : modpoly_compare_Cut) (r : Int) : Prop := Wk prog cx (EndsF prog 190 [[0]] (ti .i64 r)) (modpoly_compare_pos c) .normal (modpoly_compare_st c)
abbrev modpoly_compare_H (K : Nat) : Prop := ∀ c r, modpoly_compare_go K c = some r → ∀ cx : Cx, cx.n = 41 → modpoly_compare_S cx c r

theorem modpoly_compare_c0 {K} (ih : modpoly_compare_H K) {cx} (hn : cx.n = 41) {x y} {r} (h : modpoly_compare_go (K + 1) (.c0 x y) = some r) : modpoly_compare_S cx (.c0 x y) r := by
  rw [modpoly_compare_go] at h
  rcases bcases h with ⟨h1, h⟩ | ⟨h1, h⟩
  · skip
    rcases bcases h with ⟨h2, h⟩ | ⟨h2, h⟩
    · skip
      have h := Option.some.inj h; subst h
      exact wk_ret (fuel := 90) [.reg [oo], .reg [oo, .op (.ln (x.length : Int)), oo, .op (.ln (y.length : Int)), oo], .br true, .reg [oo, .op (.ln (x.length : Int)), oo, .op (.ln (y.length : Int)), oo], .br true, .reg [oo]] _ hn (by kernel_rfl) (aC (ln_eq x ce_u32) <| aC (ln_eq y ce_u32) <| aC h1 <| aC (ln_eq x ce_u32) <| aC (ln_eq y ce_u32) <| aC h2 <| aN)
    · skip
      have h := Option.some.inj h; subst h
      exact wk_ret (fuel := 90) [.reg [oo], .reg [oo, .op (.ln (x.length : Int)), oo, .op (.ln (y.length : Int)), oo], .br true, .reg [oo, .op (.ln (x.length : Int)), oo, .op (.ln (y.length : Int)), oo], .br false, .reg [oo]] _ hn (by kernel_rfl) (aC (ln_eq x ce_u32) <| aC (ln_eq y ce_u32) <| aC h1 <| aC (ln_eq x ce_u32) <| aC (ln_eq y ce_u32) <| aC h2 <| aN)
  · skip
    exact wk_go (fuel := 74) [.reg [oo], .reg [oo, .op (.ln (x.length : Int)), oo, .op (.ln (y.length : Int)), oo], .br false, .reg [oo, .op (.ln (x.length : Int)), oo, oo], .pre [.keep [0,1,5] []]] _ hn (by kernel_rfl) (aC (ln_eq x ce_u32) <| aC (ln_eq y ce_u32) <| aC h1 <| aC (ln_eq x ce_u32) <| aN) (ih _ _ h cx hn)

theorem modpoly_compare_c1 {K} (ih : modpoly_compare_H K) {cx} (hn : cx.n = 41) {x y i} {r} (h : modpoly_compare_go (K + 1) (.c1 x y i) = some r) : modpoly_compare_S cx (.c1 x y i) r := by
  rw [modpoly_compare_go] at h
  rcases bcases h with ⟨h1, h⟩ | ⟨h1, h⟩
  · skip
    obtain ⟨x2, h3, h⟩ := obind h
    obtain ⟨x4, h5, h⟩ := obind h
    rcases bcases h with ⟨h6, h⟩ | ⟨h6, h⟩
    · skip
      have h := Option.some.inj h; subst h
      exact wk_ret (fuel := 104) [.go, .reg [oo, oo], .br true, .draw [.p, .p, (.ix (ce_u32 x2)), .p, .p, .p, (.ix (ce_u32 x4)), .p] [.op .p], .br true, .reg [oo]] _ hn (by kernel_rfl) (aC h1 <| aC (gi_nn h3) <| aC (gi_at ce_u32 h3) <| aC (gi_nn h5) <| aC (gi_at ce_u32 h5) <| aC h6 <| aN)
    · skip
      obtain ⟨x7, h8, h⟩ := obind h
      obtain ⟨x9, h10, h⟩ := obind h
      rcases bcases h with ⟨h11, h⟩ | ⟨h11, h⟩
      · skip
        have h := Option.some.inj h; subst h
        exact wk_ret (fuel := 118) [.go, .reg [oo, oo], .br true, .draw [.p, .p, (.ix (ce_u32 x2)), .p, .p, .p, (.ix (ce_u32 x4)), .p] [.op .p], .br false, .draw [.p, .p, (.ix (ce_u32 x7)), .p, .p, .p, (.ix (ce_u32 x9)), .p] [.op .p], .br true, .reg [oo]] _ hn (by kernel_rfl) (aC h1 <| aC (gi_nn h3) <| aC (gi_at ce_u32 h3) <| aC (gi_nn h5) <| aC (gi_at ce_u32 h5) <| aC h6 <| aC (gi_nn h8) <| aC (gi_at ce_u32 h8) <| aC (gi_nn h10) <| aC (gi_at ce_u32 h10) <| aC h11 <| aN)
      · skip
        exact wk_go (fuel := 110) [.go, .reg [oo, oo], .br true, .draw [.p, .p, (.ix (ce_u32 x2)), .p, .p, .p, (.ix (ce_u32 x4)), .p] [.op .p], .br false, .draw [.p, .p, (.ix (ce_u32 x7)), .p, .p, .p, (.ix (ce_u32 x9)), .p] [.op .p], .br false, .reg [oo, oo, oo], .pre [.keep [0,1,5] []]] _ hn (by kernel_rfl) (aC h1 <| aC (gi_nn h3) <| aC (gi_at ce_u32 h3) <| aC (gi_nn h5) <| aC (gi_at ce_u32 h5) <| aC h6 <| aC (gi_nn h8) <| aC (gi_at ce_u32 h8) <| aC (gi_nn h10) <| aC (gi_at ce_u32 h10) <| aC h11 <| aN) (ih _ _ h cx hn)
  · skip
    have h := Option.some.inj h; subst h
    exact wk_ret (fuel := 78) [.go, .reg [oo, oo], .br false, .reg [oo]] _ hn (by kernel_rfl) (aC h1 <| aN)

theorem modpoly_compare_all : ∀ K : Nat, modpoly_compare_H K
  | 0, c, r, h => by rw [modpoly_compare_go] at h; cases h
  | K + 1, .c0 .., r, h => fun cx hn => modpoly_compare_c0 (modpoly_compare_all K) hn h
  | K + 1, .c1 .., r, h => fun cx hn => modpoly_compare_c1 (modpoly_compare_all K) hn h

theorem modpoly_compare_holds {K : Nat} {x : (List Int)} {y : (List Int)} {r : Int} (h : modpoly_compare K x y = some r) : Holds prog 190 [(tl 1 x ce_u32), (tl 1 y ce_u32)] (ti .i64 r) :=
  holds_wk [[0]] (by kernel_rfl) (by simp) fun cx hn => modpoly_compare_all K (.c0 x y) r h cx hn
end Go.Am.X
namespace Go.Am.X
open Go.Proofs.Try (prog)


inductive modpoly_Compare_Cut where
  | c0 (f : (List Int)) (g : (List Int)) (m : Int)

def modpoly_Compare_go : Nat → modpoly_Compare_Cut → Option Int
  | 0, _ => none
  | K + 1, .c0 f g m =>
    (modpoly_Normal K f m).bind fun x1 =>
    (modpoly_Normal K g m).bind fun x3 =>
    (modpoly_compare K x1 x3).bind fun x5 =>
    some x5

def modpoly_Compare (K : Nat) (f : (List Int)) (g : (List Int)) (m : Int) : Option Int := modpoly_Compare_go K (.c0 f g m)

noncomputable def modpoly_Compare_body : Code := bodyOf prog 180
noncomputable def modpoly_Compare_pos : modpoly_Compare_Cut → List Fr
  | .c0 .. => [.code modpoly_Compare_body]
def modpoly_Compare_st : modpoly_Compare_Cut → St
  | .c0 f g m => St.init [(tl 1 f ce_u32), (tl 1 g ce_u32), (ti .u32 m)]

def modpoly_Compare_S (cx : Cx) (c : modpoly_Compare_Cut) (r : Int) : Prop := Wk prog cx (EndsF prog 180 [[0]] (ti .i64 r)) (modpoly_Compare_pos c) .normal (modpoly_Compare_st c)
abbrev modpoly_Compare_H (K : Nat) : Prop := ∀ c r, modpoly_Compare_go K c = some r → ∀ cx : Cx, cx.n = 14 → modpoly_Compare_S cx c r

theorem modpoly_Compare_c0 {K} (_ : modpoly_Compare_H K) {cx} (hn : cx.n = 14) {f g m} {r} (h : modpoly_Compare_go (K + 1) (.c0 f g m) = some r) : modpoly_Compare_S cx (.c0 f g m) r := by
  rw [modpoly_Compare_go] at h
  obtain ⟨x1, h2, h⟩ := obind h
  obtain ⟨x3, h4, h⟩ := obind h
  obtain ⟨x5, h6, h⟩ := obind h
  have h := Option.some.inj h; subst h
  exact wk_ret (fuel := 54) [.reg [oo], .reg [oo, oo, .op (.call [[1], [0]] [(tl 1 f ce_u32), (ti .u32 m)] (tl 1 x1 ce_u32)), oo, oo, .op (.call [[1], [0]] [(tl 1 g ce_u32), (ti .u32 m)] (tl 1 x3 ce_u32)), .op (.call [[1], [1]] [(tl 1 x1 ce_u32), (tl 1 x3 ce_u32)] (ti .i64 x5)), oo]] _ hn (by kernel_rfl) (aC (modpoly_Normal_holds h2) <| aC (modpoly_Normal_holds h4) <| aC (modpoly_compare_holds h6) <| aN)

theorem modpoly_Compare_all : ∀ K : Nat, modpoly_Compare_H K
  | 0, c, r, h => by rw [modpoly_Compare_go] at h; cases h
  | K + 1, .c0 .., r, h => fun cx hn => modpoly_Compare_c0 (modpoly_Compare_all K) hn h

theorem modpoly_Compare_holds {K : Nat} {f : (List Int)} {g : (List Int)} {m : Int} {r : Int} (h : modpoly_Compare K f g m = some r) : Holds prog 180 [(tl 1 f ce_u32), (tl 1 g ce_u32), (ti .u32 m)] (ti .i64 r) :=
  holds_wk [[0]] (by kernel_rfl) (by simp) fun cx hn => modpoly_Compare_all K (.c0 f g m) r h cx hn
end Go.Am.X
namespace Go.Am.X
open Go.Proofs.Try (prog)


inductive modpoly_Same_Cut where
  | c0 (f : (List Int)) (g : (List Int)) (m : Int)

def modpoly_Same_go : Nat → modpoly_Same_Cut → Option Bool
  | 0, _ => none
  | K + 1, .c0 f g m =>
    (modpoly_Compare K f g m).bind fun x1 =>
    some (decide (x1 = (0 : Int)))

def modpoly_Same (K : Nat) (f : (List Int)) (g : (List Int)) (m : Int) : Option Bool := modpoly_Same_go K (.c0 f g m)

noncomputable def modpoly_Same_body : Code := bodyOf prog 155
noncomputable def modpoly_Same_pos : modpoly_Same_Cut → List Fr
  | .c0 .. => [.code modpoly_Same_body]
def modpoly_Same_st : modpoly_Same_Cut → St
  | .c0 f g m => St.init [(tl 1 f ce_u32), (tl 1 g ce_u32), (ti .u32 m)]

def modpoly_Same_S (cx : Cx) (c : modpoly_Same_Cut) (r : Bool) : Prop := Wk prog cx (EndsF prog 155 [[0]] (TV.c (T.bool r))) (modpoly_Same_pos c) .normal (modpoly_Same_st c)
abbrev modpoly_Same_H (K : Nat) : Prop := ∀ c r, modpoly_Same_go K c = some r → ∀ cx : Cx, cx.n = 12 → modpoly_Same_S cx c r

theorem modpoly_Same_c0 {K} (_ : modpoly_Same_H K) {cx} (hn : cx.n = 12) {f g m} {r} (h : modpoly_Same_go (K + 1) (.c0 f g m) = some r) : modpoly_Same_S cx (.c0 f g m) r := by
  rw [modpoly_Same_go] at h
  obtain ⟨x1, h2, h⟩ := obind h
  have h := Option.some.inj h; subst h
  exact wk_ret (fuel := 54) [.reg [oo], .reg [oo, oo, oo, .op (.call [[1], [1], [0]] [(tl 1 f ce_u32), (tl 1 g ce_u32), (ti .u32 m)] (ti .i64 x1)), oo, oo]] _ hn (by kernel_rfl) (aC (modpoly_Compare_holds h2) <| aN)

theorem modpoly_Same_all : ∀ K : Nat, modpoly_Same_H K
  | 0, c, r, h => by rw [modpoly_Same_go] at h; cases h
  | K + 1, .c0 .., r, h => fun cx hn => modpoly_Same_c0 (modpoly_Same_all K) hn h

theorem modpoly_Same_holds {K : Nat} {f : (List Int)} {g : (List Int)} {m : Int} {r : Bool} (h : modpoly_Same K f g m = some r) : Holds prog 155 [(tl 1 f ce_u32), (tl 1 g ce_u32), (ti .u32 m)] (TV.c (T.bool r)) :=
  holds_wk [[0]] (by kernel_rfl) (by simp) fun cx hn => modpoly_Same_all K (.c0 f g m) r h cx hn
end Go.Am.X
namespace Go.Am.X
open Go.Proofs.Try (prog)


inductive unipoly_Lead_Cut where
  | c0 (f : (List integer_Int))

def unipoly_Lead_go : Nat → unipoly_Lead_Cut → Option integer_Int
  | 0, _ => none
  | K + 1, .c0 f =>
    (unipoly_trim K f).bind fun x1 =>
    bif (decide ((x1.length : Int) = (0 : Int))) then
      some (integer_Int.mk false [])
    else
      (gi x1 (IntKind.i64.wrap ((x1.length : Int) - (1 : Int)))).bind fun x4 =>
      (integer_Normal K x4).bind fun x6 =>
      some x6

def unipoly_Lead (K : Nat) (f : (List integer_Int)) : Option integer_Int := unipoly_Lead_go K (.c0 f)

noncomputable def unipoly_Lead_body : Code := bodyOf prog 113
noncomputable def unipoly_Lead_pos : unipoly_Lead_Cut → List Fr
  | .c0 .. => [.code unipoly_Lead_body]
def unipoly_Lead_st : unipoly_Lead_Cut → St
  | .c0 f => St.init [(tl 2 f ce_integer_Int)]

def unipoly_Lead_S (cx : Cx) (c : unipoly_Lead_Cut) (r : integer_Int) : Prop := Wk prog cx (EndsF prog 113 [[0,1]] (TV.agg (ce_integer_Int r))) (unipoly_Lead_pos c) .normal (unipoly_Lead_st c)
abbrev unipoly_Lead_H (K : Nat) : Prop := ∀ c r, unipoly_Lead_go K c = some r → ∀ cx : Cx, cx.n = 16 → unipoly_Lead_S cx c r

theorem unipoly_Lead_c0 {K} (_ : unipoly_Lead_H K) {cx} (hn : cx.n = 16) {f} {r} (h : unipoly_Lead_go (K + 1) (.c0 f) = some r) : unipoly_Lead_S cx (.c0 f) r := by
  rw [unipoly_Lead_go] at h
  obtain ⟨x1, h2, h⟩ := obind h
  rcases bcases h with ⟨h3, h⟩ | ⟨h3, h⟩
  · skip
    have h := Option.some.inj h; subst h
    exact wk_ret (fuel := 80) [.reg [oo], .reg [oo, .op (.call [[2]] [(tl 2 f ce_integer_Int)] (tl 2 x1 ce_integer_Int)), oo], .reg [oo, .op (.ln (x1.length : Int)), oo], .br true, .reg [oo, oo]] _ hn (by kernel_rfl) (aC (unipoly_trim_holds h2) <| aC (ln_eq x1 ce_integer_Int) <| aC h3 <| aN)
  · skip
    obtain ⟨x4, h5, h⟩ := obind h
    obtain ⟨x6, h7, h⟩ := obind h
    have h := Option.some.inj h; subst h
    exact wk_ret (fuel := 80) [.reg [oo], .reg [oo, .op (.call [[2]] [(tl 2 f ce_integer_Int)] (tl 2 x1 ce_integer_Int)), oo], .reg [oo, .op (.ln (x1.length : Int)), oo], .br false, .reg [oo, oo, .op (.ln (x1.length : Int)), oo, .op (.ix (ce_integer_Int x4)), oo, .op (.call [[0,1]] [(TV.agg (ce_integer_Int x4))] (TV.agg (ce_integer_Int x6))), oo]] _ hn (by kernel_rfl) (aC (unipoly_trim_holds h2) <| aC (ln_eq x1 ce_integer_Int) <| aC h3 <| aC (ln_eq x1 ce_integer_Int) <| aC (gi_nn h5) <| aC (gi_at ce_integer_Int h5) <| aC (integer_Normal_holds h7) <| aN)

theorem unipoly_Lead_all : ∀ K : Nat, unipoly_Lead_H K
  | 0, c, r, h => by rw [unipoly_Lead_go] at h; cases h
  | K + 1, .c0 .., r, h => fun cx hn => unipoly_Lead_c0 (unipoly_Lead_all K) hn h

theorem unipoly_Lead_holds {K : Nat} {f : (List integer_Int)} {r : integer_Int} (h : unipoly_Lead K f = some r) : Holds prog 113 [(tl 2 f ce_integer_Int)] (TV.agg (ce_integer_Int r)) :=
  holds_wk [[0,1]] (by kernel_rfl) (by simp) fun cx hn => unipoly_Lead_all K (.c0 f) r h cx hn
end Go.Am.X
namespace Go.Am.X
open Go.Proofs.Try (prog)


inductive unipoly_Scale_Cut where
  | c0 (f : (List integer_Int)) (c : integer_Int)
  | c1 (c : integer_Int) (r10 : (List integer_Int)) (f : (List integer_Int)) (t12 : Int) (t13 : Int)

def unipoly_Scale_go : Nat → unipoly_Scale_Cut → Option (List integer_Int)
  | 0, _ => none
  | K + 1, .c0 f c =>
    (unipoly_trim K f).bind fun x1 =>
    gd (0 ≤ (x1.length : Int) ∧ (x1.length : Int) ≤ (x1.length : Int) ∧ (32 : Int) * (x1.length : Int) ≤ 140737488355328) <|
    unipoly_Scale_go K (.c1 c (List.replicate (x1.length : Int).toNat ((integer_Int.mk false []) : integer_Int)) f (((x1.length : Int).toNat : Nat) : Int) (0 : Int))
  | K + 1, .c1 c r10 f t12 t13 =>
    bif (decide (t13 < t12)) then
      (gi f t13).bind fun x2 =>
      (integer_Mul K c x2).bind fun x4 =>
      (gi r10 t13).bind fun _ =>
      unipoly_Scale_go K (.c1 c (r10.set (t13.toNat) x4) f t12 (IntKind.i64.wrap (t13 + (1 : Int))))
    else
      (unipoly_trim K r10).bind fun x2 =>
      some x2

def unipoly_Scale (K : Nat) (f : (List integer_Int)) (c : integer_Int) : Option (List integer_Int) := unipoly_Scale_go K (.c0 f c)

noncomputable def unipoly_Scale_body : Code := bodyOf prog 58
noncomputable def unipoly_Scale_pos : unipoly_Scale_Cut → List Fr
  | .c0 .. => [.code unipoly_Scale_body]
  | .c1 .. => [.code (.loop (atC unipoly_Scale_body [1,1,0,1,0,0])), .blk 0, .code (atC unipoly_Scale_body [1,1,1])]
def unipoly_Scale_st : unipoly_Scale_Cut → St
  | .c0 f c => St.init [(tl 2 f ce_integer_Int), (TV.agg (ce_integer_Int c))]
  | .c1 c r10 f t12 t13 => ⟨[(0, vl 2 f ce_integer_Int), (3, .c (C.ptr 3 0)), (5, .c (C.row 10 0 r10.length)), (12, vi .i64 t12), (13, vi .i64 t13)], [(3, .var ((ce_integer_Int c).map C.t)), (10, .row 45 2 (r10.map ce_integer_Int) 0)], []⟩

def unipoly_Scale_S (cx : Cx) (c : unipoly_Scale_Cut) (r : (List integer_Int)) : Prop := Wk prog cx (EndsF prog 58 [[2]] (tl 2 r ce_integer_Int)) (unipoly_Scale_pos c) .normal (unipoly_Scale_st c)
abbrev unipoly_Scale_H (K : Nat) : Prop := ∀ c r, unipoly_Scale_go K c = some r → ∀ cx : Cx, cx.n = 28 → unipoly_Scale_S cx c r

theorem unipoly_Scale_c0 {K} (ih : unipoly_Scale_H K) {cx} (hn : cx.n = 28) {f c} {r} (h : unipoly_Scale_go (K + 1) (.c0 f c) = some r) : unipoly_Scale_S cx (.c0 f c) r := by
  rw [unipoly_Scale_go] at h
  obtain ⟨x1, h2, h⟩ := obind h
  obtain ⟨h3, h⟩ := gd_some h
  exact wk_go (fuel := 64) [.reg [oo, oo], .reg [oo, .op (.call [[2]] [(tl 2 f ce_integer_Int)] (tl 2 x1 ce_integer_Int)), .op (.ln (x1.length : Int)), .op (.mk (ce_integer_Int (integer_Int.mk false [])) ((List.replicate (x1.length : Int).toNat ((integer_Int.mk false []) : integer_Int)).map ce_integer_Int)), oo], .reg [oo, oo, oo], .pre [.rl 5 0 (List.replicate (x1.length : Int).toNat ((integer_Int.mk false []) : integer_Int)).length, .keep [0,3,5,12,13] [3,10]]] _ hn (by kernel_rfl) (aC (unipoly_trim_holds h2) <| aC (ln_eq x1 ce_integer_Int) <| aC h3.1 <| aC h3.2.1 <| aC h3.2.2 <| aC (rep_map _ _ _ : List.replicate (x1.length : Int).toNat (ce_integer_Int (integer_Int.mk false [])) = (List.replicate (x1.length : Int).toNat ((integer_Int.mk false []) : integer_Int)).map ce_integer_Int) <| aC r0 <| aC (by simp : (x1.length : Int).toNat = (List.replicate (x1.length : Int).toNat ((integer_Int.mk false []) : integer_Int)).length) <| aN) (ih _ _ h cx hn)

theorem unipoly_Scale_c1 {K} (ih : unipoly_Scale_H K) {cx} (hn : cx.n = 28) {c r10 f t12 t13} {r} (h : unipoly_Scale_go (K + 1) (.c1 c r10 f t12 t13) = some r) : unipoly_Scale_S cx (.c1 c r10 f t12 t13) r := by
  rw [unipoly_Scale_go] at h
  rcases bcases h with ⟨h1, h⟩ | ⟨h1, h⟩
  · skip
    obtain ⟨x2, h3, h⟩ := obind h
    obtain ⟨x4, h5, h⟩ := obind h
    obtain ⟨x6, h7, h⟩ := obind h
    exact wk_go (fuel := 90) [.go, .reg [oo], .br true, .reg [oo, oo], .draw [.p, .p, .p, .p, .p, (.ix (ce_integer_Int x2)), .p, (.call [[0,1], [0,1]] [(TV.agg (ce_integer_Int c)), (TV.agg (ce_integer_Int x2))] (TV.agg (ce_integer_Int x4)))] [.op .ir, .op (.st (ce_integer_Int x6) ((r10.set (t13.toNat) x4).map ce_integer_Int))], .reg [oo, oo], .pre [.rl 5 0 (r10.set (t13.toNat) x4).length, .keep [0,3,5,12,13] [3,10]]] _ hn (by kernel_rfl) (aC h1 <| aC (gi_nn h3) <| aC (gi_at ce_integer_Int h3) <| aC (integer_Mul_holds h5) <| aC (gi_nn h7) <| aC (gi_lt2 h7 (by simp) : t13 < ((r10.length : Nat) : Int)) <| aC (gi_row ce_integer_Int h7 : (r10.map ce_integer_Int)[(0 + t13.toNat)]? = some (ce_integer_Int x6)) <| aC (set_map _ _ x4 _ : (r10.map ce_integer_Int).set (0 + t13.toNat) (splice (ce_integer_Int x6) 0 [(T.bool x4.Neg), (T.sl 1 (x4.Abs.map ce_u32))]) = (r10.set (t13.toNat) x4).map ce_integer_Int) <| aC (Nat.zero_le _ : 0 ≤ (0 + t13.toNat)) <| aC r0 <| aC (by simp : r10.length = (r10.set (t13.toNat) x4).length) <| aN) (ih _ _ h cx hn)
  · skip
    obtain ⟨x2, h3, h⟩ := obind h
    have h := Option.some.inj h; subst h
    exact wk_ret (fuel := 78) [.go, .reg [oo], .br false, .reg [oo, .snap 26 (max 0 (0 + r10.length)) (r10.map ce_integer_Int), .op (.call [[2]] [(tl 2 r10 ce_integer_Int)] (tl 2 x2 ce_integer_Int)), oo]] _ hn (by kernel_rfl) (aC h1 <| aC (sn_map _ _ _ (by simp) : ((r10.map ce_integer_Int).drop 0).take r10.length = r10.map ce_integer_Int) <| aC (rfl : (max 0 (0 + r10.length)) = (max 0 (0 + r10.length))) <| aC (unipoly_trim_holds h3) <| aN)

theorem unipoly_Scale_all : ∀ K : Nat, unipoly_Scale_H K
  | 0, c, r, h => by rw [unipoly_Scale_go] at h; cases h
  | K + 1, .c0 .., r, h => fun cx hn => unipoly_Scale_c0 (unipoly_Scale_all K) hn h
  | K + 1, .c1 .., r, h => fun cx hn => unipoly_Scale_c1 (unipoly_Scale_all K) hn h

theorem unipoly_Scale_holds {K : Nat} {f : (List integer_Int)} {c : integer_Int} {r : (List integer_Int)} (h : unipoly_Scale K f c = some r) : Holds prog 58 [(tl 2 f ce_integer_Int), (TV.agg (ce_integer_Int c))] (tl 2 r ce_integer_Int) :=
  holds_wk [[2]] (by kernel_rfl) (by simp) fun cx hn => unipoly_Scale_all K (.c0 f c) r h cx hn
end Go.Am.X
namespace Go.Am.X
open Go.Proofs.Try (prog)


inductive hensel_start_Cut where
  | c0 (f : (List integer_Int)) (list : (List (List Int))) (p : Int) (top : integer_Int)
  | c1 (top : integer_Int) (lead : integer_Int) (r29 : (List Int)) (f : (List integer_Int)) (p : Int) (t30 : (List (List Int))) (t31 : Int) (t32 : Int)
  | c2 (top : integer_Int) (lead : integer_Int) (r45 : (List (List Int))) (f : (List integer_Int)) (p : Int) (product : (List Int)) (t30 : (List (List Int))) (t31 : Int) (t32 : Int)

def hensel_start_go : Nat → hensel_start_Cut → Option ((List integer_Int) × (List (List Int)) × Int)
  | 0, _ => none
  | K + 1, .c0 f list p top =>
    (unipoly_Lead K f).bind fun x1 =>
    (modular_Reduce K x1 p).bind fun x3 =>
    bif (decide (x3 = (0 : Int))) then
      some ([], [], (3 : Int))
    else
      hensel_start_go K (.c1 top x1 ([(1 : Int)] : List Int) f p list (list.length : Int) (0 : Int))
  | K + 1, .c1 top lead r29 f p t30 t31 t32 =>
    bif (decide (t32 < t31)) then
      (gi t30 t32).bind fun x2 =>
      (modpoly_Monic K x2 p).bind fun x4 =>
      (modpoly_Mul K r29 x4.1 p).bind fun x7 =>
      hensel_start_go K (.c2 top lead ([x4.1] : List (List Int)) f p x7 t30 t31 (IntKind.i64.wrap (t32 + (1 : Int))))
    else
      (modpoly_Reduce K f p).bind fun x2 =>
      (modular_Reduce K lead p).bind fun x4 =>
      (modpoly_Scale K r29 x4 p).bind fun x6 =>
      (modpoly_Same K x2 x6 p).bind fun x8 =>
      bif (!x8) then
        some ([], [], (3 : Int))
      else
        (division_Xgcd K lead top).bind fun x11 =>
        (unipoly_Scale K f x11.2.1).bind fun x13 =>
        (hensel_Reduce K x13 top).bind fun x15 =>
        some (x15.1, [], (0 : Int))
  | K + 1, .c2 top lead r45 f p product t30 t31 t32 =>
    bif (decide (t32 < t31)) then
      (gi t30 t32).bind fun x2 =>
      (modpoly_Monic K x2 p).bind fun x4 =>
      gd ((r45 ++ ([x4.1] : List (List Int))).length * 24 ≤ 140737488355328) <|
      (modpoly_Mul K product x4.1 p).bind fun x7 =>
      hensel_start_go K (.c2 top lead (r45 ++ ([x4.1] : List (List Int))) f p x7 t30 t31 (IntKind.i64.wrap (t32 + (1 : Int))))
    else
      (modpoly_Reduce K f p).bind fun x2 =>
      (modular_Reduce K lead p).bind fun x4 =>
      (modpoly_Scale K product x4 p).bind fun x6 =>
      (modpoly_Same K x2 x6 p).bind fun x8 =>
      bif (!x8) then
        some ([], [], (3 : Int))
      else
        (division_Xgcd K lead top).bind fun x11 =>
        (unipoly_Scale K f x11.2.1).bind fun x13 =>
        (hensel_Reduce K x13 top).bind fun x15 =>
        some (x15.1, r45, (0 : Int))

def hensel_start (K : Nat) (f : (List integer_Int)) (list : (List (List Int))) (p : Int) (top : integer_Int) : Option ((List integer_Int) × (List (List Int)) × Int) := hensel_start_go K (.c0 f list p top)

noncomputable def hensel_start_body : Code := bodyOf prog 114
noncomputable def hensel_start_pos : hensel_start_Cut → List Fr
  | .c0 .. => [.code hensel_start_body]
  | .c1 .. => [.code (.loop (atC hensel_start_body [1,1,1,1,1,0,1,0,0])), .blk 0, .code (atC hensel_start_body [1,1,1,1,1,1])]
  | .c2 .. => [.code (.loop (atC hensel_start_body [1,1,1,1,1,0,1,0,0])), .blk 0, .code (atC hensel_start_body [1,1,1,1,1,1])]
def hensel_start_st : hensel_start_Cut → St
  | .c0 f list p top => St.init [(tl 2 f ce_integer_Int), (tl 1 list ce_Lu32), (ti .u32 p), (TV.agg (ce_integer_Int top))]
  | .c1 top lead r29 f p t30 t31 t32 => ⟨[(0, vl 2 f ce_integer_Int), (2, vi .u32 p), (7, .c (C.ptr 7 0)), (11, .c (C.ptr 11 0)), (12, .c (C.row 29 0 r29.length)), (13, .c (C.nil)), (30, vl 1 t30 ce_Lu32), (31, vi .i64 t31), (32, vi .i64 t32)], [(7, .var ((ce_integer_Int top).map C.t)), (11, .var ((ce_integer_Int lead).map C.t)), (29, .row 101 1 (r29.map ce_u32) 0)], []⟩
  | .c2 top lead r45 f p product t30 t31 t32 => ⟨[(0, vl 2 f ce_integer_Int), (2, vi .u32 p), (7, .c (C.ptr 7 0)), (11, .c (C.ptr 11 0)), (12, vl 1 product ce_u32), (13, .c (C.row 45 0 r45.length)), (30, vl 1 t30 ce_Lu32), (31, vi .i64 t31), (32, vi .i64 t32)], [(7, .var ((ce_integer_Int top).map C.t)), (11, .var ((ce_integer_Int lead).map C.t)), (45, .row 114 1 (r45.map ce_Lu32) 0)], []⟩

def hensel_start_S (cx : Cx) (c : hensel_start_Cut) (r : ((List integer_Int) × (List (List Int)) × Int)) : Prop := Wk prog cx (EndsF prog 114 [[2], [1], [0]] (TV.tup [(false, [(T.sl 2 (r.1.map ce_integer_Int))]), (false, [(T.sl 1 (r.2.1.map ce_Lu32))]), (false, [(T.int .i64 r.2.2)])])) (hensel_start_pos c) .normal (hensel_start_st c)
abbrev hensel_start_H (K : Nat) : Prop := ∀ c r, hensel_start_go K c = some r → ∀ cx : Cx, cx.n = 80 → hensel_start_S cx c r

theorem hensel_start_c0 {K} (ih : hensel_start_H K) {cx} (hn : cx.n = 80) {f list p top} {r} (h : hensel_start_go (K + 1) (.c0 f list p top) = some r) : hensel_start_S cx (.c0 f list p top) r := by
  rw [hensel_start_go] at h
  obtain ⟨x1, h2, h⟩ := obind h
  obtain ⟨x3, h4, h⟩ := obind h
  rcases bcases h with ⟨h5, h⟩ | ⟨h5, h⟩
  · skip
    have h := Option.some.inj h; subst h
    exact wk_ret (fuel := 80) [.reg [oo, oo, oo, oo], .reg [oo, .op (.call [[2]] [(tl 2 f ce_integer_Int)] (TV.agg (ce_integer_Int x1))), oo, oo], .reg [oo, oo, .op (.call [[0,1], [0]] [(TV.agg (ce_integer_Int x1)), (ti .u32 p)] (ti .u32 x3)), oo], .br true, .reg [oo, oo, oo]] _ hn (by kernel_rfl) (aC (unipoly_Lead_holds h2) <| aC (modular_Reduce_holds h4) <| aC h5 <| aN)
  · skip
    exact wk_go (fuel := 98) [.reg [oo, oo, oo, oo], .reg [oo, .op (.call [[2]] [(tl 2 f ce_integer_Int)] (TV.agg (ce_integer_Int x1))), oo, oo], .reg [oo, oo, .op (.call [[0,1], [0]] [(TV.agg (ce_integer_Int x1)), (ti .u32 p)] (ti .u32 x3)), oo], .br false, .reg [.op (.lit (([(1 : Int)] : List Int).map ce_u32)), oo], .reg [oo], .reg [oo, .op (.ln (list.length : Int)), oo], .pre [.rl 12 0 ([(1 : Int)] : List Int).length, .keep [0,2,7,11,12,13,30,31,32] [7,11,29]]] _ hn (by kernel_rfl) (aC (unipoly_Lead_holds h2) <| aC (modular_Reduce_holds h4) <| aC h5 <| aC (by kernel_rfl : [(T.int .u32 (1 : Int))] = (([(1 : Int)] : List Int).map ce_u32).flatten) <| aC (ln_eq list ce_Lu32) <| aC r0 <| aC (by simp : 1 = ([(1 : Int)] : List Int).length) <| aN) (ih _ _ h cx hn)

theorem hensel_start_c1 {K} (ih : hensel_start_H K) {cx} (hn : cx.n = 80) {top lead r29 f p t30 t31 t32} {r} (h : hensel_start_go (K + 1) (.c1 top lead r29 f p t30 t31 t32) = some r) : hensel_start_S cx (.c1 top lead r29 f p t30 t31 t32) r := by
  rw [hensel_start_go] at h
  rcases bcases h with ⟨h1, h⟩ | ⟨h1, h⟩
  · skip
    obtain ⟨x2, h3, h⟩ := obind h
    obtain ⟨x4, h5, h⟩ := obind h
    obtain ⟨x7, h8, h⟩ := obind h
    exact wk_go (fuel := 106) [.go, .reg [oo], .br true, .reg [.op (.ix (ce_Lu32 x2)), oo, oo], .reg [oo, oo, .op (.call [[1], [0]] [(tl 1 x2 ce_u32), (ti .u32 p)] (TV.tup [(false, [(T.sl 1 (x4.1.map ce_u32))]), (false, [(T.int .i64 x4.2)])])), oo, oo, oo, oo, oo], .reg [oo, oo, .op (.lit (([x4.1] : List (List Int)).map ce_Lu32)), .op (.appN (([x4.1] : List (List Int)).map ce_Lu32)), oo], .reg [oo, oo, oo, .snap 46 (max 0 (0 + r29.length)) (r29.map ce_u32), .op (.call [[1], [1], [0]] [(tl 1 r29 ce_u32), (tl 1 x4.1 ce_u32), (ti .u32 p)] (tl 1 x7 ce_u32)), oo], .reg [oo, oo], .pre [.rl 13 0 ([x4.1] : List (List Int)).length, .keep [0,2,7,11,12,13,30,31,32] [7,11,45]]] _ hn (by kernel_rfl) (aC h1 <| aC (gi_nn h3) <| aC (gi_at ce_Lu32 h3) <| aC (modpoly_Monic_holds h5) <| aC (by kernel_rfl : [(T.sl 1 (x4.1.map ce_u32))] = (([x4.1] : List (List Int)).map ce_Lu32).flatten) <| aC (sn_map _ _ _ (by simp) : ((([x4.1] : List (List Int)).map ce_Lu32).drop 0).take 1 = ([x4.1] : List (List Int)).map ce_Lu32) <| aC (by simp : 0 < (([x4.1] : List (List Int)).map ce_Lu32).length) <| aC (by simp : (([x4.1] : List (List Int)).map ce_Lu32).length * 24 ≤ 140737488355328) <| aC (by simp [maxLen] : (([x4.1] : List (List Int)).map ce_Lu32).length ≤ maxLen) <| aC (sn_map _ _ _ (by simp) : ((r29.map ce_u32).drop 0).take r29.length = r29.map ce_u32) <| aC (rfl : (max 0 (0 + r29.length)) = (max 0 (0 + r29.length))) <| aC (modpoly_Mul_holds h8) <| aC r0 <| aC (by simp : (([x4.1] : List (List Int)).map ce_Lu32).length = ([x4.1] : List (List Int)).length) <| aN) (ih _ _ h cx hn)
  · skip
    obtain ⟨x2, h3, h⟩ := obind h
    obtain ⟨x4, h5, h⟩ := obind h
    obtain ⟨x6, h7, h⟩ := obind h
    obtain ⟨x8, h9, h⟩ := obind h
    rcases bcases h with ⟨h10, h⟩ | ⟨h10, h⟩
    · skip
      have h := Option.some.inj h; subst h
      exact wk_ret (fuel := 96) [.go, .reg [oo], .br false, .pre [.snap 12 (max 0 (0 + r29.length)) (r29.map ce_u32)], .draw [.p, .p, (.call [[2], [0]] [(tl 2 f ce_integer_Int), (ti .u32 p)] (tl 1 x2 ce_u32)), .p, .p, .p, (.call [[0,1], [0]] [(TV.agg (ce_integer_Int lead)), (ti .u32 p)] (ti .u32 x4)), .p, (.call [[1], [0], [0]] [(tl 1 r29 ce_u32), (ti .u32 x4), (ti .u32 p)] (tl 1 x6 ce_u32)), .p] [.op (.call [[1], [1], [0]] [(tl 1 x2 ce_u32), (tl 1 x6 ce_u32), (ti .u32 p)] (TV.c (T.bool x8))), .op .p], .br true, .reg [oo, oo, oo]] _ hn (by kernel_rfl) (aC h1 <| aC (sn_map _ _ _ (by simp) : ((r29.map ce_u32).drop 0).take r29.length = r29.map ce_u32) <| aC (rfl : (max 0 (0 + r29.length)) = (max 0 (0 + r29.length))) <| aC (modpoly_Reduce_holds h3) <| aC (modular_Reduce_holds h5) <| aC (modpoly_Scale_holds h7) <| aC (modpoly_Same_holds h9) <| aC h10 <| aN)
    · skip
      obtain ⟨x11, h12, h⟩ := obind h
      obtain ⟨x13, h14, h⟩ := obind h
      obtain ⟨x15, h16, h⟩ := obind h
      have h := Option.some.inj h; subst h
      exact wk_ret (fuel := 112) [.go, .reg [oo], .br false, .pre [.snap 12 (max 0 (0 + r29.length)) (r29.map ce_u32)], .draw [.p, .p, (.call [[2], [0]] [(tl 2 f ce_integer_Int), (ti .u32 p)] (tl 1 x2 ce_u32)), .p, .p, .p, (.call [[0,1], [0]] [(TV.agg (ce_integer_Int lead)), (ti .u32 p)] (ti .u32 x4)), .p, (.call [[1], [0], [0]] [(tl 1 r29 ce_u32), (ti .u32 x4), (ti .u32 p)] (tl 1 x6 ce_u32)), .p] [.op (.call [[1], [1], [0]] [(tl 1 x2 ce_u32), (tl 1 x6 ce_u32), (ti .u32 p)] (TV.c (T.bool x8))), .op .p], .br false, .reg [oo, oo, .op (.call [[0,1], [0,1]] [(TV.agg (ce_integer_Int lead)), (TV.agg (ce_integer_Int top))] (TV.tup [(true, ce_integer_Int x11.1), (true, ce_integer_Int x11.2.1), (true, ce_integer_Int x11.2.2)])), oo, oo, oo, oo, oo, oo, oo, oo, oo, oo], .draw [.p, .p, (.call [[2], [0,1]] [(tl 2 f ce_integer_Int), (TV.agg (ce_integer_Int x11.2.1))] (tl 2 x13 ce_integer_Int)), .p, (.call [[2], [0,1]] [(tl 2 x13 ce_integer_Int), (TV.agg (ce_integer_Int top))] (TV.tup [(false, [(T.sl 2 (x15.1.map ce_integer_Int))]), (false, [(T.int .i64 x15.2)])])), .p, .p, .p, .p] [.op .p], .reg [oo, oo, oo, oo, oo]] _ hn (by kernel_rfl) (aC h1 <| aC (sn_map _ _ _ (by simp) : ((r29.map ce_u32).drop 0).take r29.length = r29.map ce_u32) <| aC (rfl : (max 0 (0 + r29.length)) = (max 0 (0 + r29.length))) <| aC (modpoly_Reduce_holds h3) <| aC (modular_Reduce_holds h5) <| aC (modpoly_Scale_holds h7) <| aC (modpoly_Same_holds h9) <| aC h10 <| aC (division_Xgcd_holds h12) <| aC (unipoly_Scale_holds h14) <| aC (hensel_Reduce_holds h16) <| aN)

theorem hensel_start_c2 {K} (ih : hensel_start_H K) {cx} (hn : cx.n = 80) {top lead r45 f p product t30 t31 t32} {r} (h : hensel_start_go (K + 1) (.c2 top lead r45 f p product t30 t31 t32) = some r) : hensel_start_S cx (.c2 top lead r45 f p product t30 t31 t32) r := by
  rw [hensel_start_go] at h
  rcases bcases h with ⟨h1, h⟩ | ⟨h1, h⟩
  · skip
    obtain ⟨x2, h3, h⟩ := obind h
    obtain ⟨x4, h5, h⟩ := obind h
    obtain ⟨h6, h⟩ := gd_some h
    obtain ⟨x7, h8, h⟩ := obind h
    exact wk_go (fuel := 106) [.go, .reg [oo], .br true, .reg [.op (.ix (ce_Lu32 x2)), oo, oo], .reg [oo, oo, .op (.call [[1], [0]] [(tl 1 x2 ce_u32), (ti .u32 p)] (TV.tup [(false, [(T.sl 1 (x4.1.map ce_u32))]), (false, [(T.int .i64 x4.2)])])), oo, oo, oo, oo, oo], .pre [.keep [0,2,7,11,12,13,16,30,31,32] [7,11,45]], .reg [oo, oo, .op (.lit (([x4.1] : List (List Int)).map ce_Lu32)), .appR (([x4.1] : List (List Int)).map ce_Lu32) ((r45 ++ ([x4.1] : List (List Int))).map ce_Lu32), oo], .reg [oo, oo, oo, .op (.call [[1], [1], [0]] [(tl 1 product ce_u32), (tl 1 x4.1 ce_u32), (ti .u32 p)] (tl 1 x7 ce_u32)), oo], .reg [oo, oo], .pre [.rl 13 0 (r45 ++ ([x4.1] : List (List Int))).length, .keep [0,2,7,11,12,13,30,31,32] [7,11,45]]] _ hn (by kernel_rfl) (aC h1 <| aC (gi_nn h3) <| aC (gi_at ce_Lu32 h3) <| aC (modpoly_Monic_holds h5) <| aC (by kernel_rfl : [(T.sl 1 (x4.1.map ce_u32))] = (([x4.1] : List (List Int)).map ce_Lu32).flatten) <| aC (by simp : r45.length = (r45.map ce_Lu32).length) <| aC (sn_map _ _ _ (by simp) : ((([x4.1] : List (List Int)).map ce_Lu32).drop 0).take 1 = ([x4.1] : List (List Int)).map ce_Lu32) <| aC (app_map _ _ _ : r45.map ce_Lu32 ++ ([x4.1] : List (List Int)).map ce_Lu32 = (r45 ++ ([x4.1] : List (List Int))).map ce_Lu32) <| aC ((len_map _ _).symm ▸ h6 : ((r45 ++ ([x4.1] : List (List Int))).map ce_Lu32).length * 24 ≤ 140737488355328) <| aC ((len_map _ _).symm ▸ room (by decide) h6 : ((r45 ++ ([x4.1] : List (List Int))).map ce_Lu32).length ≤ maxLen) <| aC (modpoly_Mul_holds h8) <| aC r0 <| aC (by simp : ((r45 ++ ([x4.1] : List (List Int))).map ce_Lu32).length = (r45 ++ ([x4.1] : List (List Int))).length) <| aN) (ih _ _ h cx hn)
  · skip
    obtain ⟨x2, h3, h⟩ := obind h
    obtain ⟨x4, h5, h⟩ := obind h
    obtain ⟨x6, h7, h⟩ := obind h
    obtain ⟨x8, h9, h⟩ := obind h
    rcases bcases h with ⟨h10, h⟩ | ⟨h10, h⟩
    · skip
      have h := Option.some.inj h; subst h
      exact wk_ret (fuel := 96) [.go, .reg [oo], .br false, .draw [.p, .p, (.call [[2], [0]] [(tl 2 f ce_integer_Int), (ti .u32 p)] (tl 1 x2 ce_u32)), .p, .p, .p, (.call [[0,1], [0]] [(TV.agg (ce_integer_Int lead)), (ti .u32 p)] (ti .u32 x4)), .p, (.call [[1], [0], [0]] [(tl 1 product ce_u32), (ti .u32 x4), (ti .u32 p)] (tl 1 x6 ce_u32)), .p] [.op (.call [[1], [1], [0]] [(tl 1 x2 ce_u32), (tl 1 x6 ce_u32), (ti .u32 p)] (TV.c (T.bool x8))), .op .p], .br true, .reg [oo, oo, oo]] _ hn (by kernel_rfl) (aC h1 <| aC (modpoly_Reduce_holds h3) <| aC (modular_Reduce_holds h5) <| aC (modpoly_Scale_holds h7) <| aC (modpoly_Same_holds h9) <| aC h10 <| aN)
    · skip
      obtain ⟨x11, h12, h⟩ := obind h
      obtain ⟨x13, h14, h⟩ := obind h
      obtain ⟨x15, h16, h⟩ := obind h
      have h := Option.some.inj h; subst h
      exact wk_ret (fuel := 112) [.go, .reg [oo], .br false, .draw [.p, .p, (.call [[2], [0]] [(tl 2 f ce_integer_Int), (ti .u32 p)] (tl 1 x2 ce_u32)), .p, .p, .p, (.call [[0,1], [0]] [(TV.agg (ce_integer_Int lead)), (ti .u32 p)] (ti .u32 x4)), .p, (.call [[1], [0], [0]] [(tl 1 product ce_u32), (ti .u32 x4), (ti .u32 p)] (tl 1 x6 ce_u32)), .p] [.op (.call [[1], [1], [0]] [(tl 1 x2 ce_u32), (tl 1 x6 ce_u32), (ti .u32 p)] (TV.c (T.bool x8))), .op .p], .br false, .reg [oo, oo, .op (.call [[0,1], [0,1]] [(TV.agg (ce_integer_Int lead)), (TV.agg (ce_integer_Int top))] (TV.tup [(true, ce_integer_Int x11.1), (true, ce_integer_Int x11.2.1), (true, ce_integer_Int x11.2.2)])), oo, oo, oo, oo, oo, oo, oo, oo, oo, oo], .draw [.p, .p, (.call [[2], [0,1]] [(tl 2 f ce_integer_Int), (TV.agg (ce_integer_Int x11.2.1))] (tl 2 x13 ce_integer_Int)), .p, (.call [[2], [0,1]] [(tl 2 x13 ce_integer_Int), (TV.agg (ce_integer_Int top))] (TV.tup [(false, [(T.sl 2 (x15.1.map ce_integer_Int))]), (false, [(T.int .i64 x15.2)])])), .p, .p, .p, .p] [.op .p], .reg [oo, oo, oo, oo, oo, .snap 9 (max 0 (0 + r45.length)) (r45.map ce_Lu32)]] _ hn (by kernel_rfl) (aC h1 <| aC (modpoly_Reduce_holds h3) <| aC (modular_Reduce_holds h5) <| aC (modpoly_Scale_holds h7) <| aC (modpoly_Same_holds h9) <| aC h10 <| aC (division_Xgcd_holds h12) <| aC (unipoly_Scale_holds h14) <| aC (hensel_Reduce_holds h16) <| aC (sn_map _ _ _ (by simp) : ((r45.map ce_Lu32).drop 0).take r45.length = r45.map ce_Lu32) <| aC (rfl : (max 0 (0 + r45.length)) = (max 0 (0 + r45.length))) <| aN)

theorem hensel_start_all : ∀ K : Nat, hensel_start_H K
  | 0, c, r, h => by rw [hensel_start_go] at h; cases h
  | K + 1, .c0 .., r, h => fun cx hn => hensel_start_c0 (hensel_start_all K) hn h
  | K + 1, .c1 .., r, h => fun cx hn => hensel_start_c1 (hensel_start_all K) hn h
  | K + 1, .c2 .., r, h => fun cx hn => hensel_start_c2 (hensel_start_all K) hn h

theorem hensel_start_holds {K : Nat} {f : (List integer_Int)} {list : (List (List Int))} {p : Int} {top : integer_Int} {r : ((List integer_Int) × (List (List Int)) × Int)} (h : hensel_start K f list p top = some r) : Holds prog 114 [(tl 2 f ce_integer_Int), (tl 1 list ce_Lu32), (ti .u32 p), (TV.agg (ce_integer_Int top))] (TV.tup [(false, [(T.sl 2 (r.1.map ce_integer_Int))]), (false, [(T.sl 1 (r.2.1.map ce_Lu32))]), (false, [(T.int .i64 r.2.2)])]) :=
  holds_wk [[2], [1], [0]] (by kernel_rfl) (by simp) fun cx hn => hensel_start_all K (.c0 f list p top) r h cx hn
end Go.Am.X
namespace Go.Am.X
open Go.Proofs.Try (prog)


inductive modular_Symmetric_Cut where
  | c0 (a : Int) (m : Int)

def modular_Symmetric_go : Nat → modular_Symmetric_Cut → Option Int
  | 0, _ => none
  | K + 1, .c0 a m =>
    (modular_wide K m).bind fun x1 =>
    gd ((IntKind.i64.wrap x1) ≠ 0) <|
    bif (decide ((IntKind.i64.wrap x1) < (IntKind.i64.wrap ((2 : Int) * (Int.tmod (IntKind.i64.wrap a) (IntKind.i64.wrap x1)))))) then
      some (IntKind.i64.wrap ((Int.tmod (IntKind.i64.wrap a) (IntKind.i64.wrap x1)) - (IntKind.i64.wrap x1)))
    else
      some (Int.tmod (IntKind.i64.wrap a) (IntKind.i64.wrap x1))

def modular_Symmetric (K : Nat) (a : Int) (m : Int) : Option Int := modular_Symmetric_go K (.c0 a m)

noncomputable def modular_Symmetric_body : Code := bodyOf prog 160
noncomputable def modular_Symmetric_pos : modular_Symmetric_Cut → List Fr
  | .c0 .. => [.code modular_Symmetric_body]
def modular_Symmetric_st : modular_Symmetric_Cut → St
  | .c0 a m => St.init [(ti .u32 a), (ti .u32 m)]

def modular_Symmetric_S (cx : Cx) (c : modular_Symmetric_Cut) (r : Int) : Prop := Wk prog cx (EndsF prog 160 [[0]] (ti .i64 r)) (modular_Symmetric_pos c) .normal (modular_Symmetric_st c)
abbrev modular_Symmetric_H (K : Nat) : Prop := ∀ c r, modular_Symmetric_go K c = some r → ∀ cx : Cx, cx.n = 22 → modular_Symmetric_S cx c r

theorem modular_Symmetric_c0 {K} (_ : modular_Symmetric_H K) {cx} (hn : cx.n = 22) {a m} {r} (h : modular_Symmetric_go (K + 1) (.c0 a m) = some r) : modular_Symmetric_S cx (.c0 a m) r := by
  rw [modular_Symmetric_go] at h
  obtain ⟨x1, h2, h⟩ := obind h
  obtain ⟨h3, h⟩ := gd_some h
  rcases bcases h with ⟨h4, h⟩ | ⟨h4, h⟩
  · skip
    have h := Option.some.inj h; subst h
    exact wk_ret (fuel := 92) [.reg [oo], .reg [oo, .op (.call [[0]] [(ti .u32 m)] (ti .u64 x1)), oo, oo], .reg [oo, oo, oo, .op .dv, oo], .reg [oo, oo, oo, oo], .br true, .reg [oo, oo, oo, oo], .reg [oo, oo]] _ hn (by kernel_rfl) (aC (modular_wide_holds h2) <| aC h3 <| aC h4 <| aN)
  · skip
    have h := Option.some.inj h; subst h
    exact wk_ret (fuel := 88) [.reg [oo], .reg [oo, .op (.call [[0]] [(ti .u32 m)] (ti .u64 x1)), oo, oo], .reg [oo, oo, oo, .op .dv, oo], .reg [oo, oo, oo, oo], .br false, .reg [oo, oo]] _ hn (by kernel_rfl) (aC (modular_wide_holds h2) <| aC h3 <| aC h4 <| aN)

theorem modular_Symmetric_all : ∀ K : Nat, modular_Symmetric_H K
  | 0, c, r, h => by rw [modular_Symmetric_go] at h; cases h
  | K + 1, .c0 .., r, h => fun cx hn => modular_Symmetric_c0 (modular_Symmetric_all K) hn h

theorem modular_Symmetric_holds {K : Nat} {a : Int} {m : Int} {r : Int} (h : modular_Symmetric K a m = some r) : Holds prog 160 [(ti .u32 a), (ti .u32 m)] (ti .i64 r) :=
  holds_wk [[0]] (by kernel_rfl) (by simp) fun cx hn => modular_Symmetric_all K (.c0 a m) r h cx hn
end Go.Am.X
namespace Go.Am.X
open Go.Proofs.Try (prog)


inductive modpoly_Symmetric_Cut where
  | c0 (f : (List Int)) (m : Int)
  | c1 (r10 : (List integer_Int)) (m : Int) (t11 : (List Int)) (t12 : Int) (t13 : Int)

def modpoly_Symmetric_go : Nat → modpoly_Symmetric_Cut → Option (List integer_Int)
  | 0, _ => none
  | K + 1, .c0 f m =>
    gd (0 ≤ (f.length : Int) ∧ (f.length : Int) ≤ (f.length : Int) ∧ (32 : Int) * (f.length : Int) ≤ 140737488355328) <|
    modpoly_Symmetric_go K (.c1 (List.replicate (f.length : Int).toNat ((integer_Int.mk false []) : integer_Int)) m f (f.length : Int) (0 : Int))
  | K + 1, .c1 r10 m t11 t12 t13 =>
    bif (decide (t13 < t12)) then
      (gi t11 t13).bind fun x2 =>
      (modular_Symmetric K x2 m).bind fun x4 =>
      (integer_Of K x4).bind fun x6 =>
      (gi r10 t13).bind fun _ =>
      modpoly_Symmetric_go K (.c1 (r10.set (t13.toNat) x6) m t11 t12 (IntKind.i64.wrap (t13 + (1 : Int))))
    else
      (unipoly_Normal K r10).bind fun x2 =>
      some x2

def modpoly_Symmetric (K : Nat) (f : (List Int)) (m : Int) : Option (List integer_Int) := modpoly_Symmetric_go K (.c0 f m)

noncomputable def modpoly_Symmetric_body : Code := bodyOf prog 116
noncomputable def modpoly_Symmetric_pos : modpoly_Symmetric_Cut → List Fr
  | .c0 .. => [.code modpoly_Symmetric_body]
  | .c1 .. => [.code (.loop (atC modpoly_Symmetric_body [1,1,0,1,0,0])), .blk 0, .code (atC modpoly_Symmetric_body [1,1,1])]
def modpoly_Symmetric_st : modpoly_Symmetric_Cut → St
  | .c0 f m => St.init [(tl 1 f ce_u32), (ti .u32 m)]
  | .c1 r10 m t11 t12 t13 => ⟨[(1, vi .u32 m), (5, .c (C.row 10 0 r10.length)), (11, vl 1 t11 ce_u32), (12, vi .i64 t12), (13, vi .i64 t13)], [(10, .row 45 2 (r10.map ce_integer_Int) 0)], []⟩

def modpoly_Symmetric_S (cx : Cx) (c : modpoly_Symmetric_Cut) (r : (List integer_Int)) : Prop := Wk prog cx (EndsF prog 116 [[2]] (tl 2 r ce_integer_Int)) (modpoly_Symmetric_pos c) .normal (modpoly_Symmetric_st c)
abbrev modpoly_Symmetric_H (K : Nat) : Prop := ∀ c r, modpoly_Symmetric_go K c = some r → ∀ cx : Cx, cx.n = 28 → modpoly_Symmetric_S cx c r

theorem modpoly_Symmetric_c0 {K} (ih : modpoly_Symmetric_H K) {cx} (hn : cx.n = 28) {f m} {r} (h : modpoly_Symmetric_go (K + 1) (.c0 f m) = some r) : modpoly_Symmetric_S cx (.c0 f m) r := by
  rw [modpoly_Symmetric_go] at h
  obtain ⟨h1, h⟩ := gd_some h
  exact wk_go (fuel := 64) [.reg [oo], .reg [oo, .op (.ln (f.length : Int)), .op (.mk (ce_integer_Int (integer_Int.mk false [])) ((List.replicate (f.length : Int).toNat ((integer_Int.mk false []) : integer_Int)).map ce_integer_Int)), oo], .reg [oo, .op (.ln (f.length : Int)), oo], .pre [.rl 5 0 (List.replicate (f.length : Int).toNat ((integer_Int.mk false []) : integer_Int)).length, .keep [1,5,11,12,13] [10]]] _ hn (by kernel_rfl) (aC (ln_eq f ce_u32) <| aC h1.1 <| aC h1.2.1 <| aC h1.2.2 <| aC (rep_map _ _ _ : List.replicate (f.length : Int).toNat (ce_integer_Int (integer_Int.mk false [])) = (List.replicate (f.length : Int).toNat ((integer_Int.mk false []) : integer_Int)).map ce_integer_Int) <| aC (ln_eq f ce_u32) <| aC r0 <| aC (by simp : (f.length : Int).toNat = (List.replicate (f.length : Int).toNat ((integer_Int.mk false []) : integer_Int)).length) <| aN) (ih _ _ h cx hn)

theorem modpoly_Symmetric_c1 {K} (ih : modpoly_Symmetric_H K) {cx} (hn : cx.n = 28) {r10 m t11 t12 t13} {r} (h : modpoly_Symmetric_go (K + 1) (.c1 r10 m t11 t12 t13) = some r) : modpoly_Symmetric_S cx (.c1 r10 m t11 t12 t13) r := by
  rw [modpoly_Symmetric_go] at h
  rcases bcases h with ⟨h1, h⟩ | ⟨h1, h⟩
  · skip
    obtain ⟨x2, h3, h⟩ := obind h
    obtain ⟨x4, h5, h⟩ := obind h
    obtain ⟨x6, h7, h⟩ := obind h
    obtain ⟨x8, h9, h⟩ := obind h
    exact wk_go (fuel := 90) [.go, .reg [oo], .br true, .reg [oo, .op (.ix (ce_u32 x2)), oo, oo, oo], .reg [oo, oo, oo, oo, .op (.call [[0], [0]] [(ti .u32 x2), (ti .u32 m)] (ti .i64 x4)), .op (.call [[0]] [(ti .i64 x4)] (TV.agg (ce_integer_Int x6))), .op .ir, .op (.st (ce_integer_Int x8) ((r10.set (t13.toNat) x6).map ce_integer_Int))], .reg [oo, oo], .pre [.rl 5 0 (r10.set (t13.toNat) x6).length, .keep [1,5,11,12,13] [10]]] _ hn (by kernel_rfl) (aC h1 <| aC (gi_nn h3) <| aC (gi_at ce_u32 h3) <| aC (modular_Symmetric_holds h5) <| aC (integer_Of_holds h7) <| aC (gi_nn h9) <| aC (gi_lt2 h9 (by simp) : t13 < ((r10.length : Nat) : Int)) <| aC (gi_row ce_integer_Int h9 : (r10.map ce_integer_Int)[(0 + t13.toNat)]? = some (ce_integer_Int x8)) <| aC (set_map _ _ x6 _ : (r10.map ce_integer_Int).set (0 + t13.toNat) (splice (ce_integer_Int x8) 0 [(T.bool x6.Neg), (T.sl 1 (x6.Abs.map ce_u32))]) = (r10.set (t13.toNat) x6).map ce_integer_Int) <| aC (Nat.zero_le _ : 0 ≤ (0 + t13.toNat)) <| aC r0 <| aC (by simp : r10.length = (r10.set (t13.toNat) x6).length) <| aN) (ih _ _ h cx hn)
  · skip
    obtain ⟨x2, h3, h⟩ := obind h
    have h := Option.some.inj h; subst h
    exact wk_ret (fuel := 78) [.go, .reg [oo], .br false, .reg [oo, .snap 26 (max 0 (0 + r10.length)) (r10.map ce_integer_Int), .op (.call [[2]] [(tl 2 r10 ce_integer_Int)] (tl 2 x2 ce_integer_Int)), oo]] _ hn (by kernel_rfl) (aC h1 <| aC (sn_map _ _ _ (by simp) : ((r10.map ce_integer_Int).drop 0).take r10.length = r10.map ce_integer_Int) <| aC (rfl : (max 0 (0 + r10.length)) = (max 0 (0 + r10.length))) <| aC (unipoly_Normal_holds h3) <| aN)

theorem modpoly_Symmetric_all : ∀ K : Nat, modpoly_Symmetric_H K
  | 0, c, r, h => by rw [modpoly_Symmetric_go] at h; cases h
  | K + 1, .c0 .., r, h => fun cx hn => modpoly_Symmetric_c0 (modpoly_Symmetric_all K) hn h
  | K + 1, .c1 .., r, h => fun cx hn => modpoly_Symmetric_c1 (modpoly_Symmetric_all K) hn h

theorem modpoly_Symmetric_holds {K : Nat} {f : (List Int)} {m : Int} {r : (List integer_Int)} (h : modpoly_Symmetric K f m = some r) : Holds prog 116 [(tl 1 f ce_u32), (ti .u32 m)] (tl 2 r ce_integer_Int) :=
  holds_wk [[2]] (by kernel_rfl) (by simp) fun cx hn => modpoly_Symmetric_all K (.c0 f m) r h cx hn
end Go.Am.X
namespace Go.Am.X
open Go.Proofs.Try (prog)


inductive unipoly_combine__unipoly_Poly_integer_Int__integer_Add_Cut where
  | c0 (a : (List integer_Int)) (b : (List integer_Int))
  | c1 (zero : integer_Int) (r17 : (List integer_Int)) (a : (List integer_Int)) (b : (List integer_Int)) (t19 : Int) (t20 : Int)
  | c2 (zero : integer_Int) (r17 : (List integer_Int)) (a : (List integer_Int)) (b : (List integer_Int)) (t19 : Int) (t20 : Int)

def unipoly_combine__unipoly_Poly_integer_Int__integer_Add_go : Nat → unipoly_combine__unipoly_Poly_integer_Int__integer_Add_Cut → Option (List integer_Int)
  | 0, _ => none
  | K + 1, .c0 a b =>
    gd (0 ≤ (max (a.length : Int) (b.length : Int)) ∧ (max (a.length : Int) (b.length : Int)) ≤ (max (a.length : Int) (b.length : Int)) ∧ (32 : Int) * (max (a.length : Int) (b.length : Int)) ≤ 140737488355328) <|
    unipoly_combine__unipoly_Poly_integer_Int__integer_Add_go K (.c1 (integer_Int.mk false []) (List.replicate (max (a.length : Int) (b.length : Int)).toNat ((integer_Int.mk false []) : integer_Int)) a b (((max (a.length : Int) (b.length : Int)).toNat : Nat) : Int) (0 : Int))
  | K + 1, .c1 zero r17 a b t19 t20 =>
    bif (decide (t20 < t19)) then
      bif (decide (t20 < (a.length : Int))) then
        (gi a t20).bind fun x3 =>
        bif (decide (t20 < (b.length : Int))) then
          (gi b t20).bind fun x6 =>
          (integer_Add K x3 x6).bind fun x8 =>
          (gi r17 t20).bind fun _ =>
          unipoly_combine__unipoly_Poly_integer_Int__integer_Add_go K (.c2 zero (r17.set (t20.toNat) x8) a b t19 t20)
        else
          (integer_Add K x3 zero).bind fun x6 =>
          (gi r17 t20).bind fun _ =>
          unipoly_combine__unipoly_Poly_integer_Int__integer_Add_go K (.c2 zero (r17.set (t20.toNat) x6) a b t19 t20)
      else
        bif (decide (t20 < (b.length : Int))) then
          (gi b t20).bind fun x4 =>
          (integer_Add K zero x4).bind fun x6 =>
          (gi r17 t20).bind fun _ =>
          unipoly_combine__unipoly_Poly_integer_Int__integer_Add_go K (.c2 zero (r17.set (t20.toNat) x6) a b t19 t20)
        else
          (integer_Add K zero zero).bind fun x4 =>
          (gi r17 t20).bind fun _ =>
          unipoly_combine__unipoly_Poly_integer_Int__integer_Add_go K (.c2 zero (r17.set (t20.toNat) x4) a b t19 t20)
    else
      some r17
  | K + 1, .c2 zero r17 a b t19 t20 =>
    unipoly_combine__unipoly_Poly_integer_Int__integer_Add_go K (.c1 zero r17 a b t19 (IntKind.i64.wrap (t20 + (1 : Int))))

def unipoly_combine__unipoly_Poly_integer_Int__integer_Add (K : Nat) (a : (List integer_Int)) (b : (List integer_Int)) : Option (List integer_Int) := unipoly_combine__unipoly_Poly_integer_Int__integer_Add_go K (.c0 a b)

noncomputable def unipoly_combine__unipoly_Poly_integer_Int__integer_Add_body : Code := bodyOf prog 145
noncomputable def unipoly_combine__unipoly_Poly_integer_Int__integer_Add_pos : unipoly_combine__unipoly_Poly_integer_Int__integer_Add_Cut → List Fr
  | .c0 .. => [.code unipoly_combine__unipoly_Poly_integer_Int__integer_Add_body]
  | .c1 .. => [.code (.loop (atC unipoly_combine__unipoly_Poly_integer_Int__integer_Add_body [1,1,1,0,1,0,0])), .blk 0, .code (atC unipoly_combine__unipoly_Poly_integer_Int__integer_Add_body [1,1,1,1])]
  | .c2 .. => [.code (atC unipoly_combine__unipoly_Poly_integer_Int__integer_Add_body [1,1,1,0,1,0,0,1,1,1]), .lp (atC unipoly_combine__unipoly_Poly_integer_Int__integer_Add_body [1,1,1,0,1,0,0]), .blk 0, .code (atC unipoly_combine__unipoly_Poly_integer_Int__integer_Add_body [1,1,1,1])]
def unipoly_combine__unipoly_Poly_integer_Int__integer_Add_st : unipoly_combine__unipoly_Poly_integer_Int__integer_Add_Cut → St
  | .c0 a b => St.init [(tl 2 a ce_integer_Int), (tl 2 b ce_integer_Int), (TV.c (T.fn 54))]
  | .c1 zero r17 a b t19 t20 => ⟨[(0, vl 2 a ce_integer_Int), (1, vl 2 b ce_integer_Int), (2, .c (C.t (T.fn 54))), (7, .c (C.row 17 0 r17.length)), (8, .c (C.ptr 8 0)), (19, vi .i64 t19), (20, vi .i64 t20)], [(8, .var ((ce_integer_Int zero).map C.t)), (17, .row 45 2 (r17.map ce_integer_Int) 0)], []⟩
  | .c2 zero r17 a b t19 t20 => ⟨[(0, vl 2 a ce_integer_Int), (1, vl 2 b ce_integer_Int), (2, .c (C.t (T.fn 54))), (7, .c (C.row 17 0 r17.length)), (8, .c (C.ptr 8 0)), (19, vi .i64 t19), (20, vi .i64 t20)], [(8, .var ((ce_integer_Int zero).map C.t)), (17, .row 45 2 (r17.map ce_integer_Int) 0)], []⟩

def unipoly_combine__unipoly_Poly_integer_Int__integer_Add_S (cx : Cx) (c : unipoly_combine__unipoly_Poly_integer_Int__integer_Add_Cut) (r : (List integer_Int)) : Prop := Wk prog cx (EndsF prog 145 [[2]] (tl 2 r ce_integer_Int)) (unipoly_combine__unipoly_Poly_integer_Int__integer_Add_pos c) .normal (unipoly_combine__unipoly_Poly_integer_Int__integer_Add_st c)
abbrev unipoly_combine__unipoly_Poly_integer_Int__integer_Add_H (K : Nat) : Prop := ∀ c r, unipoly_combine__unipoly_Poly_integer_Int__integer_Add_go K c = some r → ∀ cx : Cx, cx.n = 50 → unipoly_combine__unipoly_Poly_integer_Int__integer_Add_S cx c r

theorem unipoly_combine__unipoly_Poly_integer_Int__integer_Add_c0 {K} (ih : unipoly_combine__unipoly_Poly_integer_Int__integer_Add_H K) {cx} (hn : cx.n = 50) {a b} {r} (h : unipoly_combine__unipoly_Poly_integer_Int__integer_Add_go (K + 1) (.c0 a b) = some r) : unipoly_combine__unipoly_Poly_integer_Int__integer_Add_S cx (.c0 a b) r := by
  rw [unipoly_combine__unipoly_Poly_integer_Int__integer_Add_go] at h
  obtain ⟨h1, h⟩ := gd_some h
  exact wk_go (fuel := 72) [.reg [oo], .reg [oo, .op (.ln (a.length : Int)), oo, .op (.ln (b.length : Int)), oo, .op (.mk (ce_integer_Int (integer_Int.mk false [])) ((List.replicate (max (a.length : Int) (b.length : Int)).toNat ((integer_Int.mk false []) : integer_Int)).map ce_integer_Int)), oo], .reg [oo], .reg [oo, oo, oo], .pre [.tellB 8 [0,1], .rl 7 0 (List.replicate (max (a.length : Int) (b.length : Int)).toNat ((integer_Int.mk false []) : integer_Int)).length, .keep [0,1,2,7,8,19,20] [8,17]]] _ hn (by kernel_rfl) (aC (ln_eq a ce_integer_Int) <| aC (ln_eq b ce_integer_Int) <| aC h1.1 <| aC h1.2.1 <| aC h1.2.2 <| aC (rep_map _ _ _ : List.replicate (max (a.length : Int) (b.length : Int)).toNat (ce_integer_Int (integer_Int.mk false [])) = (List.replicate (max (a.length : Int) (b.length : Int)).toNat ((integer_Int.mk false []) : integer_Int)).map ce_integer_Int) <| aC r0 <| aC (by simp : (max (a.length : Int) (b.length : Int)).toNat = (List.replicate (max (a.length : Int) (b.length : Int)).toNat ((integer_Int.mk false []) : integer_Int)).length) <| aN) (ih _ _ h cx hn)

theorem unipoly_combine__unipoly_Poly_integer_Int__integer_Add_c1 {K} (ih : unipoly_combine__unipoly_Poly_integer_Int__integer_Add_H K) {cx} (hn : cx.n = 50) {zero r17 a b t19 t20} {r} (h : unipoly_combine__unipoly_Poly_integer_Int__integer_Add_go (K + 1) (.c1 zero r17 a b t19 t20) = some r) : unipoly_combine__unipoly_Poly_integer_Int__integer_Add_S cx (.c1 zero r17 a b t19 t20) r := by
  rw [unipoly_combine__unipoly_Poly_integer_Int__integer_Add_go] at h
  rcases bcases h with ⟨h1, h⟩ | ⟨h1, h⟩
  · skip
    rcases bcases h with ⟨h2, h⟩ | ⟨h2, h⟩
    · skip
      obtain ⟨x3, h4, h⟩ := obind h
      rcases bcases h with ⟨h5, h⟩ | ⟨h5, h⟩
      · skip
        obtain ⟨x6, h7, h⟩ := obind h
        obtain ⟨x8, h9, h⟩ := obind h
        obtain ⟨x10, h11, h⟩ := obind h
        exact wk_go (fuel := 134) [.go, .reg [oo], .br true, .reg [oo, oo], .draw [.p, .p, .p, .p, .p] [.op .p], .reg [oo, oo, .op (.ln (a.length : Int)), oo], .br true, .reg [oo, oo, .op (.ix (ce_integer_Int x3)), oo, oo], .reg [oo, oo, .op (.ln (b.length : Int)), oo], .br true, .reg [oo, oo, .op (.ix (ce_integer_Int x6)), oo, oo], .reg [oo, oo, oo, oo, oo, .op (.call [[0,1], [0,1]] [(TV.agg (ce_integer_Int x3)), (TV.agg (ce_integer_Int x6))] (TV.agg (ce_integer_Int x8))), .op .ir, .op (.st (ce_integer_Int x10) ((r17.set (t20.toNat) x8).map ce_integer_Int))], .pre [.rl 7 0 (r17.set (t20.toNat) x8).length, .keep [0,1,2,7,8,19,20] [8,17]]] _ hn (by kernel_rfl) (aC h1 <| aC (ln_eq a ce_integer_Int) <| aC h2 <| aC (gi_nn h4) <| aC (gi_at ce_integer_Int h4) <| aC (ln_eq b ce_integer_Int) <| aC h5 <| aC (gi_nn h7) <| aC (gi_at ce_integer_Int h7) <| aC (integer_Add_holds h9) <| aC (gi_nn h11) <| aC (gi_lt2 h11 (by simp) : t20 < ((r17.length : Nat) : Int)) <| aC (gi_row ce_integer_Int h11 : (r17.map ce_integer_Int)[(0 + t20.toNat)]? = some (ce_integer_Int x10)) <| aC (set_map _ _ x8 _ : (r17.map ce_integer_Int).set (0 + t20.toNat) (splice (ce_integer_Int x10) 0 [(T.bool x8.Neg), (T.sl 1 (x8.Abs.map ce_u32))]) = (r17.set (t20.toNat) x8).map ce_integer_Int) <| aC (Nat.zero_le _ : 0 ≤ (0 + t20.toNat)) <| aC r0 <| aC (by simp : r17.length = (r17.set (t20.toNat) x8).length) <| aN) (ih _ _ h cx hn)
      · skip
        obtain ⟨x6, h7, h⟩ := obind h
        obtain ⟨x8, h9, h⟩ := obind h
        exact wk_go (fuel := 130) [.go, .reg [oo], .br true, .reg [oo, oo], .draw [.p, .p, .p, .p, .p] [.op .p], .reg [oo, oo, .op (.ln (a.length : Int)), oo], .br true, .reg [oo, oo, .op (.ix (ce_integer_Int x3)), oo, oo], .reg [oo, oo, .op (.ln (b.length : Int)), oo], .br false, .reg [oo, oo, oo, oo, oo, .op (.call [[0,1], [0,1]] [(TV.agg (ce_integer_Int x3)), (TV.agg (ce_integer_Int zero))] (TV.agg (ce_integer_Int x6))), .op .ir, .op (.st (ce_integer_Int x8) ((r17.set (t20.toNat) x6).map ce_integer_Int))], .pre [.rl 7 0 (r17.set (t20.toNat) x6).length, .keep [0,1,2,7,8,19,20] [8,17]]] _ hn (by kernel_rfl) (aC h1 <| aC (ln_eq a ce_integer_Int) <| aC h2 <| aC (gi_nn h4) <| aC (gi_at ce_integer_Int h4) <| aC (ln_eq b ce_integer_Int) <| aC h5 <| aC (integer_Add_holds h7) <| aC (gi_nn h9) <| aC (gi_lt2 h9 (by simp) : t20 < ((r17.length : Nat) : Int)) <| aC (gi_row ce_integer_Int h9 : (r17.map ce_integer_Int)[(0 + t20.toNat)]? = some (ce_integer_Int x8)) <| aC (set_map _ _ x6 _ : (r17.map ce_integer_Int).set (0 + t20.toNat) (splice (ce_integer_Int x8) 0 [(T.bool x6.Neg), (T.sl 1 (x6.Abs.map ce_u32))]) = (r17.set (t20.toNat) x6).map ce_integer_Int) <| aC (Nat.zero_le _ : 0 ≤ (0 + t20.toNat)) <| aC r0 <| aC (by simp : r17.length = (r17.set (t20.toNat) x6).length) <| aN) (ih _ _ h cx hn)
    · skip
      rcases bcases h with ⟨h3, h⟩ | ⟨h3, h⟩
      · skip
        obtain ⟨x4, h5, h⟩ := obind h
        obtain ⟨x6, h7, h⟩ := obind h
        obtain ⟨x8, h9, h⟩ := obind h
        exact wk_go (fuel := 130) [.go, .reg [oo], .br true, .reg [oo, oo], .draw [.p, .p, .p, .p, .p] [.op .p], .reg [oo, oo, .op (.ln (a.length : Int)), oo], .br false, .reg [oo, oo, .op (.ln (b.length : Int)), oo], .br true, .reg [oo, oo, .op (.ix (ce_integer_Int x4)), oo, oo], .reg [oo, oo, oo, oo, oo, .op (.call [[0,1], [0,1]] [(TV.agg (ce_integer_Int zero)), (TV.agg (ce_integer_Int x4))] (TV.agg (ce_integer_Int x6))), .op .ir, .op (.st (ce_integer_Int x8) ((r17.set (t20.toNat) x6).map ce_integer_Int))], .pre [.rl 7 0 (r17.set (t20.toNat) x6).length, .keep [0,1,2,7,8,19,20] [8,17]]] _ hn (by kernel_rfl) (aC h1 <| aC (ln_eq a ce_integer_Int) <| aC h2 <| aC (ln_eq b ce_integer_Int) <| aC h3 <| aC (gi_nn h5) <| aC (gi_at ce_integer_Int h5) <| aC (integer_Add_holds h7) <| aC (gi_nn h9) <| aC (gi_lt2 h9 (by simp) : t20 < ((r17.length : Nat) : Int)) <| aC (gi_row ce_integer_Int h9 : (r17.map ce_integer_Int)[(0 + t20.toNat)]? = some (ce_integer_Int x8)) <| aC (set_map _ _ x6 _ : (r17.map ce_integer_Int).set (0 + t20.toNat) (splice (ce_integer_Int x8) 0 [(T.bool x6.Neg), (T.sl 1 (x6.Abs.map ce_u32))]) = (r17.set (t20.toNat) x6).map ce_integer_Int) <| aC (Nat.zero_le _ : 0 ≤ (0 + t20.toNat)) <| aC r0 <| aC (by simp : r17.length = (r17.set (t20.toNat) x6).length) <| aN) (ih _ _ h cx hn)
      · skip
        obtain ⟨x4, h5, h⟩ := obind h
        obtain ⟨x6, h7, h⟩ := obind h
        exact wk_go (fuel := 126) [.go, .reg [oo], .br true, .reg [oo, oo], .draw [.p, .p, .p, .p, .p] [.op .p], .reg [oo, oo, .op (.ln (a.length : Int)), oo], .br false, .reg [oo, oo, .op (.ln (b.length : Int)), oo], .br false, .reg [oo, oo, oo, oo, oo, .op (.call [[0,1], [0,1]] [(TV.agg (ce_integer_Int zero)), (TV.agg (ce_integer_Int zero))] (TV.agg (ce_integer_Int x4))), .op .ir, .op (.st (ce_integer_Int x6) ((r17.set (t20.toNat) x4).map ce_integer_Int))], .pre [.rl 7 0 (r17.set (t20.toNat) x4).length, .keep [0,1,2,7,8,19,20] [8,17]]] _ hn (by kernel_rfl) (aC h1 <| aC (ln_eq a ce_integer_Int) <| aC h2 <| aC (ln_eq b ce_integer_Int) <| aC h3 <| aC (integer_Add_holds h5) <| aC (gi_nn h7) <| aC (gi_lt2 h7 (by simp) : t20 < ((r17.length : Nat) : Int)) <| aC (gi_row ce_integer_Int h7 : (r17.map ce_integer_Int)[(0 + t20.toNat)]? = some (ce_integer_Int x6)) <| aC (set_map _ _ x4 _ : (r17.map ce_integer_Int).set (0 + t20.toNat) (splice (ce_integer_Int x6) 0 [(T.bool x4.Neg), (T.sl 1 (x4.Abs.map ce_u32))]) = (r17.set (t20.toNat) x4).map ce_integer_Int) <| aC (Nat.zero_le _ : 0 ≤ (0 + t20.toNat)) <| aC r0 <| aC (by simp : r17.length = (r17.set (t20.toNat) x4).length) <| aN) (ih _ _ h cx hn)
  · skip
    have h := Option.some.inj h; subst h
    exact wk_ret (fuel := 78) [.go, .reg [oo], .br false, .reg [oo, oo, .snap 6 (max 0 (0 + r17.length)) (r17.map ce_integer_Int)]] _ hn (by kernel_rfl) (aC h1 <| aC (sn_map _ _ _ (by simp) : ((r17.map ce_integer_Int).drop 0).take r17.length = r17.map ce_integer_Int) <| aC (rfl : (max 0 (0 + r17.length)) = (max 0 (0 + r17.length))) <| aN)

theorem unipoly_combine__unipoly_Poly_integer_Int__integer_Add_c2 {K} (ih : unipoly_combine__unipoly_Poly_integer_Int__integer_Add_H K) {cx} (hn : cx.n = 50) {zero r17 a b t19 t20} {r} (h : unipoly_combine__unipoly_Poly_integer_Int__integer_Add_go (K + 1) (.c2 zero r17 a b t19 t20) = some r) : unipoly_combine__unipoly_Poly_integer_Int__integer_Add_S cx (.c2 zero r17 a b t19 t20) r := by
  rw [unipoly_combine__unipoly_Poly_integer_Int__integer_Add_go] at h
  exact wk_go (fuel := 44) [.reg [oo, oo], .pre [.rl 7 0 r17.length, .keep [0,1,2,7,8,19,20] [8,17]]] _ hn (by kernel_rfl) (aC r0 <| aC (lq r17) <| aN) (ih _ _ h cx hn)

theorem unipoly_combine__unipoly_Poly_integer_Int__integer_Add_all : ∀ K : Nat, unipoly_combine__unipoly_Poly_integer_Int__integer_Add_H K
  | 0, c, r, h => by rw [unipoly_combine__unipoly_Poly_integer_Int__integer_Add_go] at h; cases h
  | K + 1, .c0 .., r, h => fun cx hn => unipoly_combine__unipoly_Poly_integer_Int__integer_Add_c0 (unipoly_combine__unipoly_Poly_integer_Int__integer_Add_all K) hn h
  | K + 1, .c1 .., r, h => fun cx hn => unipoly_combine__unipoly_Poly_integer_Int__integer_Add_c1 (unipoly_combine__unipoly_Poly_integer_Int__integer_Add_all K) hn h
  | K + 1, .c2 .., r, h => fun cx hn => unipoly_combine__unipoly_Poly_integer_Int__integer_Add_c2 (unipoly_combine__unipoly_Poly_integer_Int__integer_Add_all K) hn h

theorem unipoly_combine__unipoly_Poly_integer_Int__integer_Add_holds {K : Nat} {a : (List integer_Int)} {b : (List integer_Int)} {r : (List integer_Int)} (h : unipoly_combine__unipoly_Poly_integer_Int__integer_Add K a b = some r) : Holds prog 145 [(tl 2 a ce_integer_Int), (tl 2 b ce_integer_Int), (TV.c (T.fn 54))] (tl 2 r ce_integer_Int) :=
  holds_wk [[2]] (by kernel_rfl) (by simp) fun cx hn => unipoly_combine__unipoly_Poly_integer_Int__integer_Add_all K (.c0 a b) r h cx hn
end Go.Am.X
namespace Go.Am.X
open Go.Proofs.Try (prog)


inductive unipoly_Add_Cut where
  | c0 (f : (List integer_Int)) (g : (List integer_Int))

def unipoly_Add_go : Nat → unipoly_Add_Cut → Option (List integer_Int)
  | 0, _ => none
  | K + 1, .c0 f g =>
    (unipoly_combine__unipoly_Poly_integer_Int__integer_Add K f g).bind fun x1 =>
    (unipoly_trim K x1).bind fun x3 =>
    some x3

def unipoly_Add (K : Nat) (f : (List integer_Int)) (g : (List integer_Int)) : Option (List integer_Int) := unipoly_Add_go K (.c0 f g)

noncomputable def unipoly_Add_body : Code := bodyOf prog 120
noncomputable def unipoly_Add_pos : unipoly_Add_Cut → List Fr
  | .c0 .. => [.code unipoly_Add_body]
def unipoly_Add_st : unipoly_Add_Cut → St
  | .c0 f g => St.init [(tl 2 f ce_integer_Int), (tl 2 g ce_integer_Int)]

def unipoly_Add_S (cx : Cx) (c : unipoly_Add_Cut) (r : (List integer_Int)) : Prop := Wk prog cx (EndsF prog 120 [[2]] (tl 2 r ce_integer_Int)) (unipoly_Add_pos c) .normal (unipoly_Add_st c)
abbrev unipoly_Add_H (K : Nat) : Prop := ∀ c r, unipoly_Add_go K c = some r → ∀ cx : Cx, cx.n = 9 → unipoly_Add_S cx c r

theorem unipoly_Add_c0 {K} (_ : unipoly_Add_H K) {cx} (hn : cx.n = 9) {f g} {r} (h : unipoly_Add_go (K + 1) (.c0 f g) = some r) : unipoly_Add_S cx (.c0 f g) r := by
  rw [unipoly_Add_go] at h
  obtain ⟨x1, h2, h⟩ := obind h
  obtain ⟨x3, h4, h⟩ := obind h
  have h := Option.some.inj h; subst h
  exact wk_ret (fuel := 54) [.reg [oo], .reg [oo, oo, .op (.call [[2], [2], [0]] [(tl 2 f ce_integer_Int), (tl 2 g ce_integer_Int), (TV.c (T.fn 54))] (tl 2 x1 ce_integer_Int)), .op (.call [[2]] [(tl 2 x1 ce_integer_Int)] (tl 2 x3 ce_integer_Int)), oo]] _ hn (by kernel_rfl) (aC (unipoly_combine__unipoly_Poly_integer_Int__integer_Add_holds h2) <| aC (unipoly_trim_holds h4) <| aN)

theorem unipoly_Add_all : ∀ K : Nat, unipoly_Add_H K
  | 0, c, r, h => by rw [unipoly_Add_go] at h; cases h
  | K + 1, .c0 .., r, h => fun cx hn => unipoly_Add_c0 (unipoly_Add_all K) hn h

theorem unipoly_Add_holds {K : Nat} {f : (List integer_Int)} {g : (List integer_Int)} {r : (List integer_Int)} (h : unipoly_Add K f g = some r) : Holds prog 120 [(tl 2 f ce_integer_Int), (tl 2 g ce_integer_Int)] (tl 2 r ce_integer_Int) :=
  holds_wk [[2]] (by kernel_rfl) (by simp) fun cx hn => unipoly_Add_all K (.c0 f g) r h cx hn
end Go.Am.X
namespace Go.Am.X
open Go.Proofs.Try (prog)


inductive unipoly_combine__unipoly_Poly_integer_Int__integer_Sub_Cut where
  | c0 (a : (List integer_Int)) (b : (List integer_Int))
  | c1 (zero : integer_Int) (r17 : (List integer_Int)) (a : (List integer_Int)) (b : (List integer_Int)) (t19 : Int) (t20 : Int)
  | c2 (zero : integer_Int) (r17 : (List integer_Int)) (a : (List integer_Int)) (b : (List integer_Int)) (t19 : Int) (t20 : Int)

def unipoly_combine__unipoly_Poly_integer_Int__integer_Sub_go : Nat → unipoly_combine__unipoly_Poly_integer_Int__integer_Sub_Cut → Option (List integer_Int)
  | 0, _ => none
  | K + 1, .c0 a b =>
    gd (0 ≤ (max (a.length : Int) (b.length : Int)) ∧ (max (a.length : Int) (b.length : Int)) ≤ (max (a.length : Int) (b.length : Int)) ∧ (32 : Int) * (max (a.length : Int) (b.length : Int)) ≤ 140737488355328) <|
    unipoly_combine__unipoly_Poly_integer_Int__integer_Sub_go K (.c1 (integer_Int.mk false []) (List.replicate (max (a.length : Int) (b.length : Int)).toNat ((integer_Int.mk false []) : integer_Int)) a b (((max (a.length : Int) (b.length : Int)).toNat : Nat) : Int) (0 : Int))
  | K + 1, .c1 zero r17 a b t19 t20 =>
    bif (decide (t20 < t19)) then
      bif (decide (t20 < (a.length : Int))) then
        (gi a t20).bind fun x3 =>
        bif (decide (t20 < (b.length : Int))) then
          (gi b t20).bind fun x6 =>
          (integer_Sub K x3 x6).bind fun x8 =>
          (gi r17 t20).bind fun _ =>
          unipoly_combine__unipoly_Poly_integer_Int__integer_Sub_go K (.c2 zero (r17.set (t20.toNat) x8) a b t19 t20)
        else
          (integer_Sub K x3 zero).bind fun x6 =>
          (gi r17 t20).bind fun _ =>
          unipoly_combine__unipoly_Poly_integer_Int__integer_Sub_go K (.c2 zero (r17.set (t20.toNat) x6) a b t19 t20)
      else
        bif (decide (t20 < (b.length : Int))) then
          (gi b t20).bind fun x4 =>
          (integer_Sub K zero x4).bind fun x6 =>
          (gi r17 t20).bind fun _ =>
          unipoly_combine__unipoly_Poly_integer_Int__integer_Sub_go K (.c2 zero (r17.set (t20.toNat) x6) a b t19 t20)
        else
          (integer_Sub K zero zero).bind fun x4 =>
          (gi r17 t20).bind fun _ =>
          unipoly_combine__unipoly_Poly_integer_Int__integer_Sub_go K (.c2 zero (r17.set (t20.toNat) x4) a b t19 t20)
    else
      some r17
  | K + 1, .c2 zero r17 a b t19 t20 =>
    unipoly_combine__unipoly_Poly_integer_Int__integer_Sub_go K (.c1 zero r17 a b t19 (IntKind.i64.wrap (t20 + (1 : Int))))

def unipoly_combine__unipoly_Poly_integer_Int__integer_Sub (K : Nat) (a : (List integer_Int)) (b : (List integer_Int)) : Option (List integer_Int) := unipoly_combine__unipoly_Poly_integer_Int__integer_Sub_go K (.c0 a b)

noncomputable def unipoly_combine__unipoly_Poly_integer_Int__integer_Sub_body : Code := bodyOf prog 145
noncomputable def unipoly_combine__unipoly_Poly_integer_Int__integer_Sub_pos : unipoly_combine__unipoly_Poly_integer_Int__integer_Sub_Cut → List Fr
  | .c0 .. => [.code unipoly_combine__unipoly_Poly_integer_Int__integer_Sub_body]
  | .c1 .. => [.code (.loop (atC unipoly_combine__unipoly_Poly_integer_Int__integer_Sub_body [1,1,1,0,1,0,0])), .blk 0, .code (atC unipoly_combine__unipoly_Poly_integer_Int__integer_Sub_body [1,1,1,1])]
  | .c2 .. => [.code (atC unipoly_combine__unipoly_Poly_integer_Int__integer_Sub_body [1,1,1,0,1,0,0,1,1,1]), .lp (atC unipoly_combine__unipoly_Poly_integer_Int__integer_Sub_body [1,1,1,0,1,0,0]), .blk 0, .code (atC unipoly_combine__unipoly_Poly_integer_Int__integer_Sub_body [1,1,1,1])]
def unipoly_combine__unipoly_Poly_integer_Int__integer_Sub_st : unipoly_combine__unipoly_Poly_integer_Int__integer_Sub_Cut → St
  | .c0 a b => St.init [(tl 2 a ce_integer_Int), (tl 2 b ce_integer_Int), (TV.c (T.fn 143))]
  | .c1 zero r17 a b t19 t20 => ⟨[(0, vl 2 a ce_integer_Int), (1, vl 2 b ce_integer_Int), (2, .c (C.t (T.fn 143))), (7, .c (C.row 17 0 r17.length)), (8, .c (C.ptr 8 0)), (19, vi .i64 t19), (20, vi .i64 t20)], [(8, .var ((ce_integer_Int zero).map C.t)), (17, .row 45 2 (r17.map ce_integer_Int) 0)], []⟩
  | .c2 zero r17 a b t19 t20 => ⟨[(0, vl 2 a ce_integer_Int), (1, vl 2 b ce_integer_Int), (2, .c (C.t (T.fn 143))), (7, .c (C.row 17 0 r17.length)), (8, .c (C.ptr 8 0)), (19, vi .i64 t19), (20, vi .i64 t20)], [(8, .var ((ce_integer_Int zero).map C.t)), (17, .row 45 2 (r17.map ce_integer_Int) 0)], []⟩

def unipoly_combine__unipoly_Poly_integer_Int__integer_Sub_S (cx : Cx) (c : unipoly_combine__unipoly_Poly_integer_Int__integer_Sub_Cut) (r : (List integer_Int)) : Prop := Wk prog cx (EndsF prog 145 [[2]] (tl 2 r ce_integer_Int)) (unipoly_combine__unipoly_Poly_integer_Int__integer_Sub_pos c) .normal (unipoly_combine__unipoly_Poly_integer_Int__integer_Sub_st c)
abbrev unipoly_combine__unipoly_Poly_integer_Int__integer_Sub_H (K : Nat) : Prop := ∀ c r, unipoly_combine__unipoly_Poly_integer_Int__integer_Sub_go K c = some r → ∀ cx : Cx, cx.n = 50 → unipoly_combine__unipoly_Poly_integer_Int__integer_Sub_S cx c r

theorem unipoly_combine__unipoly_Poly_integer_Int__integer_Sub_c0 {K} (ih : unipoly_combine__unipoly_Poly_integer_Int__integer_Sub_H K) {cx} (hn : cx.n = 50) {a b} {r} (h : unipoly_combine__unipoly_Poly_integer_Int__integer_Sub_go (K + 1) (.c0 a b) = some r) : unipoly_combine__unipoly_Poly_integer_Int__integer_Sub_S cx (.c0 a b) r := by
  rw [unipoly_combine__unipoly_Poly_integer_Int__integer_Sub_go] at h
  obtain ⟨h1, h⟩ := gd_some h
  exact wk_go (fuel := 72) [.reg [oo], .reg [oo, .op (.ln (a.length : Int)), oo, .op (.ln (b.length : Int)), oo, .op (.mk (ce_integer_Int (integer_Int.mk false [])) ((List.replicate (max (a.length : Int) (b.length : Int)).toNat ((integer_Int.mk false []) : integer_Int)).map ce_integer_Int)), oo], .reg [oo], .reg [oo, oo, oo], .pre [.tellB 8 [0,1], .rl 7 0 (List.replicate (max (a.length : Int) (b.length : Int)).toNat ((integer_Int.mk false []) : integer_Int)).length, .keep [0,1,2,7,8,19,20] [8,17]]] _ hn (by kernel_rfl) (aC (ln_eq a ce_integer_Int) <| aC (ln_eq b ce_integer_Int) <| aC h1.1 <| aC h1.2.1 <| aC h1.2.2 <| aC (rep_map _ _ _ : List.replicate (max (a.length : Int) (b.length : Int)).toNat (ce_integer_Int (integer_Int.mk false [])) = (List.replicate (max (a.length : Int) (b.length : Int)).toNat ((integer_Int.mk false []) : integer_Int)).map ce_integer_Int) <| aC r0 <| aC (by simp : (max (a.length : Int) (b.length : Int)).toNat = (List.replicate (max (a.length : Int) (b.length : Int)).toNat ((integer_Int.mk false []) : integer_Int)).length) <| aN) (ih _ _ h cx hn)

theorem unipoly_combine__unipoly_Poly_integer_Int__integer_Sub_c1 {K} (ih : unipoly_combine__unipoly_Poly_integer_Int__integer_Sub_H K) {cx} (hn : cx.n = 50) {zero r17 a b t19 t20} {r} (h : unipoly_combine__unipoly_Poly_integer_Int__integer_Sub_go (K + 1) (.c1 zero r17 a b t19 t20) = some r) : unipoly_combine__unipoly_Poly_integer_Int__integer_Sub_S cx (.c1 zero r17 a b t19 t20) r := by
  rw [unipoly_combine__unipoly_Poly_integer_Int__integer_Sub_go] at h
  rcases bcases h with ⟨h1, h⟩ | ⟨h1, h⟩
  · skip
    rcases bcases h with ⟨h2, h⟩ | ⟨h2, h⟩
    · skip
      obtain ⟨x3, h4, h⟩ := obind h
      rcases bcases h with ⟨h5, h⟩ | ⟨h5, h⟩
      · skip
        obtain ⟨x6, h7, h⟩ := obind h
        obtain ⟨x8, h9, h⟩ := obind h
        obtain ⟨x10, h11, h⟩ := obind h
        exact wk_go (fuel := 134) [.go, .reg [oo], .br true, .reg [oo, oo], .draw [.p, .p, .p, .p, .p] [.op .p], .reg [oo, oo, .op (.ln (a.length : Int)), oo], .br true, .reg [oo, oo, .op (.ix (ce_integer_Int x3)), oo, oo], .reg [oo, oo, .op (.ln (b.length : Int)), oo], .br true, .reg [oo, oo, .op (.ix (ce_integer_Int x6)), oo, oo], .reg [oo, oo, oo, oo, oo, .op (.call [[0,1], [0,1]] [(TV.agg (ce_integer_Int x3)), (TV.agg (ce_integer_Int x6))] (TV.agg (ce_integer_Int x8))), .op .ir, .op (.st (ce_integer_Int x10) ((r17.set (t20.toNat) x8).map ce_integer_Int))], .pre [.rl 7 0 (r17.set (t20.toNat) x8).length, .keep [0,1,2,7,8,19,20] [8,17]]] _ hn (by kernel_rfl) (aC h1 <| aC (ln_eq a ce_integer_Int) <| aC h2 <| aC (gi_nn h4) <| aC (gi_at ce_integer_Int h4) <| aC (ln_eq b ce_integer_Int) <| aC h5 <| aC (gi_nn h7) <| aC (gi_at ce_integer_Int h7) <| aC (integer_Sub_holds h9) <| aC (gi_nn h11) <| aC (gi_lt2 h11 (by simp) : t20 < ((r17.length : Nat) : Int)) <| aC (gi_row ce_integer_Int h11 : (r17.map ce_integer_Int)[(0 + t20.toNat)]? = some (ce_integer_Int x10)) <| aC (set_map _ _ x8 _ : (r17.map ce_integer_Int).set (0 + t20.toNat) (splice (ce_integer_Int x10) 0 [(T.bool x8.Neg), (T.sl 1 (x8.Abs.map ce_u32))]) = (r17.set (t20.toNat) x8).map ce_integer_Int) <| aC (Nat.zero_le _ : 0 ≤ (0 + t20.toNat)) <| aC r0 <| aC (by simp : r17.length = (r17.set (t20.toNat) x8).length) <| aN) (ih _ _ h cx hn)
      · skip
        obtain ⟨x6, h7, h⟩ := obind h
        obtain ⟨x8, h9, h⟩ := obind h
        exact wk_go (fuel := 130) [.go, .reg [oo], .br true, .reg [oo, oo], .draw [.p, .p, .p, .p, .p] [.op .p], .reg [oo, oo, .op (.ln (a.length : Int)), oo], .br true, .reg [oo, oo, .op (.ix (ce_integer_Int x3)), oo, oo], .reg [oo, oo, .op (.ln (b.length : Int)), oo], .br false, .reg [oo, oo, oo, oo, oo, .op (.call [[0,1], [0,1]] [(TV.agg (ce_integer_Int x3)), (TV.agg (ce_integer_Int zero))] (TV.agg (ce_integer_Int x6))), .op .ir, .op (.st (ce_integer_Int x8) ((r17.set (t20.toNat) x6).map ce_integer_Int))], .pre [.rl 7 0 (r17.set (t20.toNat) x6).length, .keep [0,1,2,7,8,19,20] [8,17]]] _ hn (by kernel_rfl) (aC h1 <| aC (ln_eq a ce_integer_Int) <| aC h2 <| aC (gi_nn h4) <| aC (gi_at ce_integer_Int h4) <| aC (ln_eq b ce_integer_Int) <| aC h5 <| aC (integer_Sub_holds h7) <| aC (gi_nn h9) <| aC (gi_lt2 h9 (by simp) : t20 < ((r17.length : Nat) : Int)) <| aC (gi_row ce_integer_Int h9 : (r17.map ce_integer_Int)[(0 + t20.toNat)]? = some (ce_integer_Int x8)) <| aC (set_map _ _ x6 _ : (r17.map ce_integer_Int).set (0 + t20.toNat) (splice (ce_integer_Int x8) 0 [(T.bool x6.Neg), (T.sl 1 (x6.Abs.map ce_u32))]) = (r17.set (t20.toNat) x6).map ce_integer_Int) <| aC (Nat.zero_le _ : 0 ≤ (0 + t20.toNat)) <| aC r0 <| aC (by simp : r17.length = (r17.set (t20.toNat) x6).length) <| aN) (ih _ _ h cx hn)
    · skip
      rcases bcases h with ⟨h3, h⟩ | ⟨h3, h⟩
      · skip
        obtain ⟨x4, h5, h⟩ := obind h
        obtain ⟨x6, h7, h⟩ := obind h
        obtain ⟨x8, h9, h⟩ := obind h
        exact wk_go (fuel := 130) [.go, .reg [oo], .br true, .reg [oo, oo], .draw [.p, .p, .p, .p, .p] [.op .p], .reg [oo, oo, .op (.ln (a.length : Int)), oo], .br false, .reg [oo, oo, .op (.ln (b.length : Int)), oo], .br true, .reg [oo, oo, .op (.ix (ce_integer_Int x4)), oo, oo], .reg [oo, oo, oo, oo, oo, .op (.call [[0,1], [0,1]] [(TV.agg (ce_integer_Int zero)), (TV.agg (ce_integer_Int x4))] (TV.agg (ce_integer_Int x6))), .op .ir, .op (.st (ce_integer_Int x8) ((r17.set (t20.toNat) x6).map ce_integer_Int))], .pre [.rl 7 0 (r17.set (t20.toNat) x6).length, .keep [0,1,2,7,8,19,20] [8,17]]] _ hn (by kernel_rfl) (aC h1 <| aC (ln_eq a ce_integer_Int) <| aC h2 <| aC (ln_eq b ce_integer_Int) <| aC h3 <| aC (gi_nn h5) <| aC (gi_at ce_integer_Int h5) <| aC (integer_Sub_holds h7) <| aC (gi_nn h9) <| aC (gi_lt2 h9 (by simp) : t20 < ((r17.length : Nat) : Int)) <| aC (gi_row ce_integer_Int h9 : (r17.map ce_integer_Int)[(0 + t20.toNat)]? = some (ce_integer_Int x8)) <| aC (set_map _ _ x6 _ : (r17.map ce_integer_Int).set (0 + t20.toNat) (splice (ce_integer_Int x8) 0 [(T.bool x6.Neg), (T.sl 1 (x6.Abs.map ce_u32))]) = (r17.set (t20.toNat) x6).map ce_integer_Int) <| aC (Nat.zero_le _ : 0 ≤ (0 + t20.toNat)) <| aC r0 <| aC (by simp : r17.length = (r17.set (t20.toNat) x6).length) <| aN) (ih _ _ h cx hn)
      · skip
        obtain ⟨x4, h5, h⟩ := obind h
        obtain ⟨x6, h7, h⟩ := obind h
        exact wk_go (fuel := 126) [.go, .reg [oo], .br true, .reg [oo, oo], .draw [.p, .p, .p, .p, .p] [.op .p], .reg [oo, oo, .op (.ln (a.length : Int)), oo], .br false, .reg [oo, oo, .op (.ln (b.length : Int)), oo], .br false, .reg [oo, oo, oo, oo, oo, .op (.call [[0,1], [0,1]] [(TV.agg (ce_integer_Int zero)), (TV.agg (ce_integer_Int zero))] (TV.agg (ce_integer_Int x4))), .op .ir, .op (.st (ce_integer_Int x6) ((r17.set (t20.toNat) x4).map ce_integer_Int))], .pre [.rl 7 0 (r17.set (t20.toNat) x4).length, .keep [0,1,2,7,8,19,20] [8,17]]] _ hn (by kernel_rfl) (aC h1 <| aC (ln_eq a ce_integer_Int) <| aC h2 <| aC (ln_eq b ce_integer_Int) <| aC h3 <| aC (integer_Sub_holds h5) <| aC (gi_nn h7) <| aC (gi_lt2 h7 (by simp) : t20 < ((r17.length : Nat) : Int)) <| aC (gi_row ce_integer_Int h7 : (r17.map ce_integer_Int)[(0 + t20.toNat)]? = some (ce_integer_Int x6)) <| aC (set_map _ _ x4 _ : (r17.map ce_integer_Int).set (0 + t20.toNat) (splice (ce_integer_Int x6) 0 [(T.bool x4.Neg), (T.sl 1 (x4.Abs.map ce_u32))]) = (r17.set (t20.toNat) x4).map ce_integer_Int) <| aC (Nat.zero_le _ : 0 ≤ (0 + t20.toNat)) <| aC r0 <| aC (by simp : r17.length = (r17.set (t20.toNat) x4).length) <| aN) (ih _ _ h cx hn)
  · skip
    have h := Option.some.inj h; subst h
    exact wk_ret (fuel := 78) [.go, .reg [oo], .br false, .reg [oo, oo, .snap 6 (max 0 (0 + r17.length)) (r17.map ce_integer_Int)]] _ hn (by kernel_rfl) (aC h1 <| aC (sn_map _ _ _ (by simp) : ((r17.map ce_integer_Int).drop 0).take r17.length = r17.map ce_integer_Int) <| aC (rfl : (max 0 (0 + r17.length)) = (max 0 (0 + r17.length))) <| aN)

theorem unipoly_combine__unipoly_Poly_integer_Int__integer_Sub_c2 {K} (ih : unipoly_combine__unipoly_Poly_integer_Int__integer_Sub_H K) {cx} (hn : cx.n = 50) {zero r17 a b t19 t20} {r} (h : unipoly_combine__unipoly_Poly_integer_Int__integer_Sub_go (K + 1) (.c2 zero r17 a b t19 t20) = some r) : unipoly_combine__unipoly_Poly_integer_Int__integer_Sub_S cx (.c2 zero r17 a b t19 t20) r := by
  rw [unipoly_combine__unipoly_Poly_integer_Int__integer_Sub_go] at h
  exact wk_go (fuel := 44) [.reg [oo, oo], .pre [.rl 7 0 r17.length, .keep [0,1,2,7,8,19,20] [8,17]]] _ hn (by kernel_rfl) (aC r0 <| aC (lq r17) <| aN) (ih _ _ h cx hn)

theorem unipoly_combine__unipoly_Poly_integer_Int__integer_Sub_all : ∀ K : Nat, unipoly_combine__unipoly_Poly_integer_Int__integer_Sub_H K
  | 0, c, r, h => by rw [unipoly_combine__unipoly_Poly_integer_Int__integer_Sub_go] at h; cases h
  | K + 1, .c0 .., r, h => fun cx hn => unipoly_combine__unipoly_Poly_integer_Int__integer_Sub_c0 (unipoly_combine__unipoly_Poly_integer_Int__integer_Sub_all K) hn h
  | K + 1, .c1 .., r, h => fun cx hn => unipoly_combine__unipoly_Poly_integer_Int__integer_Sub_c1 (unipoly_combine__unipoly_Poly_integer_Int__integer_Sub_all K) hn h
  | K + 1, .c2 .., r, h => fun cx hn => unipoly_combine__unipoly_Poly_integer_Int__integer_Sub_c2 (unipoly_combine__unipoly_Poly_integer_Int__integer_Sub_all K) hn h

theorem unipoly_combine__unipoly_Poly_integer_Int__integer_Sub_holds {K : Nat} {a : (List integer_Int)} {b : (List integer_Int)} {r : (List integer_Int)} (h : unipoly_combine__unipoly_Poly_integer_Int__integer_Sub K a b = some r) : Holds prog 145 [(tl 2 a ce_integer_Int), (tl 2 b ce_integer_Int), (TV.c (T.fn 143))] (tl 2 r ce_integer_Int) :=
  holds_wk [[2]] (by kernel_rfl) (by simp) fun cx hn => unipoly_combine__unipoly_Poly_integer_Int__integer_Sub_all K (.c0 a b) r h cx hn
end Go.Am.X
namespace Go.Am.X
open Go.Proofs.Try (prog)


inductive unipoly_Sub_Cut where
  | c0 (f : (List integer_Int)) (g : (List integer_Int))

def unipoly_Sub_go : Nat → unipoly_Sub_Cut → Option (List integer_Int)
  | 0, _ => none
  | K + 1, .c0 f g =>
    (unipoly_combine__unipoly_Poly_integer_Int__integer_Sub K f g).bind fun x1 =>
    (unipoly_trim K x1).bind fun x3 =>
    some x3

def unipoly_Sub (K : Nat) (f : (List integer_Int)) (g : (List integer_Int)) : Option (List integer_Int) := unipoly_Sub_go K (.c0 f g)

noncomputable def unipoly_Sub_body : Code := bodyOf prog 100
noncomputable def unipoly_Sub_pos : unipoly_Sub_Cut → List Fr
  | .c0 .. => [.code unipoly_Sub_body]
def unipoly_Sub_st : unipoly_Sub_Cut → St
  | .c0 f g => St.init [(tl 2 f ce_integer_Int), (tl 2 g ce_integer_Int)]

def unipoly_Sub_S (cx : Cx) (c : unipoly_Sub_Cut) (r : (List integer_Int)) : Prop := Wk prog cx (EndsF prog 100 [[2]] (tl 2 r ce_integer_Int)) (unipoly_Sub_pos c) .normal (unipoly_Sub_st c)
abbrev unipoly_Sub_H (K : Nat) : Prop := ∀ c r, unipoly_Sub_go K c = some r → ∀ cx : Cx, cx.n = 9 → unipoly_Sub_S cx c r

theorem unipoly_Sub_c0 {K} (_ : unipoly_Sub_H K) {cx} (hn : cx.n = 9) {f g} {r} (h : unipoly_Sub_go (K + 1) (.c0 f g) = some r) : unipoly_Sub_S cx (.c0 f g) r := by
  rw [unipoly_Sub_go] at h
  obtain ⟨x1, h2, h⟩ := obind h
  obtain ⟨x3, h4, h⟩ := obind h
  have h := Option.some.inj h; subst h
  exact wk_ret (fuel := 54) [.reg [oo], .reg [oo, oo, .op (.call [[2], [2], [0]] [(tl 2 f ce_integer_Int), (tl 2 g ce_integer_Int), (TV.c (T.fn 143))] (tl 2 x1 ce_integer_Int)), .op (.call [[2]] [(tl 2 x1 ce_integer_Int)] (tl 2 x3 ce_integer_Int)), oo]] _ hn (by kernel_rfl) (aC (unipoly_combine__unipoly_Poly_integer_Int__integer_Sub_holds h2) <| aC (unipoly_trim_holds h4) <| aN)

theorem unipoly_Sub_all : ∀ K : Nat, unipoly_Sub_H K
  | 0, c, r, h => by rw [unipoly_Sub_go] at h; cases h
  | K + 1, .c0 .., r, h => fun cx hn => unipoly_Sub_c0 (unipoly_Sub_all K) hn h

theorem unipoly_Sub_holds {K : Nat} {f : (List integer_Int)} {g : (List integer_Int)} {r : (List integer_Int)} (h : unipoly_Sub K f g = some r) : Holds prog 100 [(tl 2 f ce_integer_Int), (tl 2 g ce_integer_Int)] (tl 2 r ce_integer_Int) :=
  holds_wk [[2]] (by kernel_rfl) (by simp) fun cx hn => unipoly_Sub_all K (.c0 f g) r h cx hn
end Go.Am.X
