/- Part 3 of the proof: Fn_math_bits_Len32 .. Fn_unipoly_Sub. -/
import Derived.Test.YteciehfkhmbfeaaTb
namespace Go.Am.X
open Go.Proofs.Try (prog)
inductive qlZ where
 | c0 (x : Int)
def qfI : Nat → qlZ → Option Int
 | 0, _ => none
 | _ + 1, .c0 x =>
  bif (decide ((65536 : Int) ≤ x)) then
   bif (decide ((256 : Int) ≤ (qd2 .u32 x (16 : Int)))) then
    (gi qbY (wU1 (qd2 .u32 (qd2 .u32 x (16 : Int)) (8 : Int)))).bind fun x3 =>
    some (wI6 ((wI6 ((16 : Int) + (8 : Int))) + (wI6 x3)))
   else
    (gi qbY (wU1 (qd2 .u32 x (16 : Int)))).bind fun x3 =>
    some (wI6 ((16 : Int) + (wI6 x3)))
  else
   bif (decide ((256 : Int) ≤ x)) then
    (gi qbY (wU1 (qd2 .u32 x (8 : Int)))).bind fun x3 =>
    some (wI6 ((wI6 ((0 : Int) + (8 : Int))) + (wI6 x3)))
   else
    (gi qbY (wU1 x)).bind fun x3 =>
    some (wI6 ((0 : Int) + (wI6 x3)))
def qjE (K : Nat) (x : Int) : Option Int := qfI K (.c0 x)
noncomputable def q44 : Code := qbQ prog 194
noncomputable def q7N : qlZ → List Fr
 | .c0 .. => [.code q44]
def zaE : qlZ → St
 | .c0 x => St.init [(ti .u32 x)]
def qz0 (cx : Cx) (c : qlZ) (r : Int) : Prop := Wk prog cx (qc2 prog 194 [[0]] (ti .i64 r)) (q7N c) .normal (zaE c)
abbrev qz1 (K : Nat) : Prop := ∀ c r, qfI K c = some r → ∀ cx : Cx, cx.n = 19 → qz0 cx c r
theorem zaG {K} (_ : qz1 K) {cx} (hn : cx.n = 19) {x} {r} (h : qfI (K + 1) (.c0 x) = some r) : qz0 cx (.c0 x) r := by
 rw [qfI] at h
 rcases qaQ h with ⟨h1, h⟩ | ⟨h1, h⟩
 ·rcases qaQ h with ⟨h2, h⟩ | ⟨h2, h⟩
  ·obtain ⟨x3, h4, h⟩ := qaH h
   have h := oinj h; subst h
   exact wkR [rg1, rg2, bTr, rg3, rg1, rg2, bTr, rg3, rg3, rgG [oo, oo, oo, opI (.sx x3), oo, oo, oo]] hn (aC h1 <| aC h2 <| aC (qa1 h4) <| aC (qvU h4 : qbY[(wU1 (qd2 .u32 (qd2 .u32 x (16 : Int)) (8 : Int))).toNat]? = some x3) <| aN)
  ·obtain ⟨x3, h4, h⟩ := qaH h
   have h := oinj h; subst h
   exact wkR [rg1, rg2, bTr, rg3, rg1, rg2, bFa, rgG [oo, oo, oo, opI (.sx x3), oo, oo, oo]] hn (aC h1 <| aC h2 <| aC (qa1 h4) <| aC (qvU h4 : qbY[(wU1 (qd2 .u32 x (16 : Int))).toNat]? = some x3) <| aN)
 ·rcases qaQ h with ⟨h2, h⟩ | ⟨h2, h⟩
  ·obtain ⟨x3, h4, h⟩ := qaH h
   have h := oinj h; subst h
   exact wkR [rg1, rg2, bFa, rg2, bTr, rg3, rg3, rgG [oo, oo, oo, opI (.sx x3), oo, oo, oo]] hn (aC h1 <| aC h2 <| aC (qa1 h4) <| aC (qvU h4 : qbY[(wU1 (qd2 .u32 x (8 : Int))).toNat]? = some x3) <| aN)
  ·obtain ⟨x3, h4, h⟩ := qaH h
   have h := oinj h; subst h
   exact wkR [rg1, rg2, bFa, rg2, bFa, rgG [oo, oo, oo, opI (.sx x3), oo, oo, oo]] hn (aC h1 <| aC h2 <| aC (qa1 h4) <| aC (qvU h4 : qbY[(wU1 x).toNat]? = some x3) <| aN)
theorem qxJ : ∀ K : Nat, qz1 K
 | 0, c, r, h => by rw [qfI] at h; cases h
 | K + 1, .c0 .., r, h => fun cx hn => zaG (qxJ K) hn h
theorem q30 {K : Nat} {x : Int} {r : Int} (h : qjE K x = some r) : qc5 prog 194 [(ti .u32 x)] (ti .i64 r) :=
 qa0 [[0]] (by kernel_rfl) (by simp) fun cx hn => qxJ K (.c0 x) r h cx hn
open Go.Proofs.Try (prog)
inductive qgL where
 | c0 (x : Int)
def qeP : Nat → qgL → Option Int
 | 0, _ => none
 | K + 1, .c0 x =>
  (qjE K x).bind fun x1 =>
  some (wI6 ((32 : Int) - x1))
def qh7 (K : Nat) (x : Int) : Option Int := qeP K (.c0 x)
noncomputable def qvT : Code := qbQ prog 187
noncomputable def qwF : qgL → List Fr
 | .c0 .. => [.code qvT]
def qxM : qgL → St
 | .c0 x => St.init [(ti .u32 x)]
def qo7 (cx : Cx) (c : qgL) (r : Int) : Prop := Wk prog cx (qc2 prog 187 [[0]] (ti .i64 r)) (qwF c) .normal (qxM c)
abbrev qo8 (K : Nat) : Prop := ∀ c r, qeP K c = some r → ∀ cx : Cx, cx.n = 6 → qo7 cx c r
theorem qxO {K} (_ : qo8 K) {cx} (hn : cx.n = 6) {x} {r} (h : qeP (K + 1) (.c0 x) = some r) : qo7 cx (.c0 x) r := by
 rw [qeP] at h
 obtain ⟨x1, h2, h⟩ := qaH h
 have h := oinj h; subst h
 exact wkR [rg1, rgG [oo, opI (.call [[0]] [(ti .u32 x)] (ti .i64 x1)), oo, oo]] hn (aC (q30 h2) <| aN)
theorem qnN : ∀ K : Nat, qo8 K
 | 0, c, r, h => by rw [qeP] at h; cases h
 | K + 1, .c0 .., r, h => fun cx hn => qxO (qnN K) hn h
theorem qlH {K : Nat} {x : Int} {r : Int} (h : qh7 K x = some r) : qc5 prog 187 [(ti .u32 x)] (ti .i64 r) :=
 qa0 [[0]] (by kernel_rfl) (by simp) fun cx hn => qnN K (.c0 x) r h cx hn
open Go.Proofs.Try (prog)
inductive ql1 where
 | c0 (hi : Int) (lo : Int) (y : Int)
def qh8 : Nat → ql1 → Option (Int × Int)
 | 0, _ => none
 | _ + 1, .c0 hi lo y =>
  bif (!decide (y = (0 : Int))) then
   bif (decide (y ≤ hi)) then
    none
   else
    gd ((wU6 y) ≠ 0) <|
    gd ((wU6 y) ≠ 0) <|
    some ((wU3 (wU6 (Int.tdiv (bits .or .u64 (qhT .u64 (wU6 hi) (32 : Int)) (wU6 lo)) (wU6 y)))), (wU3 (Int.tmod (bits .or .u64 (qhT .u64 (wU6 hi) (32 : Int)) (wU6 lo)) (wU6 y))))
  else
   gd ((wU6 y) ≠ 0) <|
   gd ((wU6 y) ≠ 0) <|
   some ((wU3 (wU6 (Int.tdiv (bits .or .u64 (qhT .u64 (wU6 hi) (32 : Int)) (wU6 lo)) (wU6 y)))), (wU3 (Int.tmod (bits .or .u64 (qhT .u64 (wU6 hi) (32 : Int)) (wU6 lo)) (wU6 y))))
def qsJ (K : Nat) (hi : Int) (lo : Int) (y : Int) : Option (Int × Int) := qh8 K (.c0 hi lo y)
noncomputable def q45 : Code := qbQ prog 166
noncomputable def q7P : ql1 → List Fr
 | .c0 .. => [.code q45]
def zaO : ql1 → St
 | .c0 hi lo y => St.init [(ti .u32 hi), (ti .u32 lo), (ti .u32 y)]
def qz2 (cx : Cx) (c : ql1) (r : (Int × Int)) : Prop := Wk prog cx (qc2 prog 166 [[0], [0]] (TV.tup [(false, [(T.int .u32 r.1)]), (false, [(T.int .u32 r.2)])])) (q7P c) .normal (zaO c)
abbrev qz3 (K : Nat) : Prop := ∀ c r, qh8 K c = some r → ∀ cx : Cx, cx.n = 33 → qz2 cx c r
theorem zaQ {K} (_ : qz3 K) {cx} (hn : cx.n = 33) {hi lo y} {r} (h : qh8 (K + 1) (.c0 hi lo y) = some r) : qz2 cx (.c0 hi lo y) r := by
 rw [qh8] at h
 rcases qaQ h with ⟨h1, h⟩ | ⟨h1, h⟩
 ·rcases qaQ h with ⟨h2, h⟩ | ⟨h2, h⟩
  ·cases h
  ·obtain ⟨h3, h⟩ := qbI h
   obtain ⟨h4, h⟩ := qbI h
   have h := oinj h; subst h
   exact wkR [rg2, rgG [oo, oo, oo, .sb 11 true, oo, oo, oo, oo], bFa, rgG [oo, oo, oo, oo, oo, oo, oo], .draw [.p, .p, .p, .dv, .p, .p, .p, .p, .dv, .p, .p] [.op .p]] hn (aC h1 <| aC h2 <| aC h3 <| aC h4 <| aN)
 ·obtain ⟨h2, h⟩ := qbI h
  obtain ⟨h3, h⟩ := qbI h
  have h := oinj h; subst h
  exact wkR [rg2, rgG [oo, oo, oo, .sb 11 false, oo, oo, oo, oo], bFa, rgG [oo, oo, oo, oo, oo, oo, oo], .draw [.p, .p, .p, .dv, .p, .p, .p, .p, .dv, .p, .p] [.op .p]] hn (aC h1 <| aC rf <| aC h2 <| aC h3 <| aN)
theorem qxP : ∀ K : Nat, qz3 K
 | 0, c, r, h => by rw [qh8] at h; cases h
 | K + 1, .c0 .., r, h => fun cx hn => zaQ (qxP K) hn h
theorem q31 {K : Nat} {hi : Int} {lo : Int} {y : Int} {r : (Int × Int)} (h : qsJ K hi lo y = some r) : qc5 prog 166 [(ti .u32 hi), (ti .u32 lo), (ti .u32 y)] (TV.tup [(false, [(T.int .u32 r.1)]), (false, [(T.int .u32 r.2)])]) :=
 qa0 [[0], [0]] (by kernel_rfl) (by simp) fun cx hn => qxP K (.c0 hi lo y) r h cx hn
open Go.Proofs.Try (prog)
inductive qkI where
 | c0 (a : (List Int)) (d : Int)
 | c1 (r16 : (List Int)) (a : (List Int)) (d : Int) (rest : Int) (i : Int)
def qc8 : Nat → qkI → Option ((List Int) × Int × Bool)
 | 0, _ => none
 | K + 1, .c0 a d =>
  bif (decide (d = (0 : Int))) then
   some ([], (0 : Int), false)
  else
   (qcD K a).bind fun x2 =>
   gd (0 ≤ (x2.length : Int) ∧ (x2.length : Int) ≤ (x2.length : Int) ∧ (4 : Int) * (x2.length : Int) ≤ 140737488355328) <|
   qc8 K (.c1 (List.replicate (x2.length : Int).toNat ((0 : Int) : Int)) x2 d (0 : Int) (wI6 ((x2.length : Int) - (1 : Int))))
 | K + 1, .c1 r16 a d rest i =>
  bif (decide ((0 : Int) ≤ i)) then
   (gi a i).bind fun x2 =>
   (qsJ K rest x2 d).bind fun x4 =>
   (gi r16 i).bind fun _ =>
   qc8 K (.c1 (r16.set (i.toNat) x4.1) a d x4.2 (wI6 (i - (1 : Int))))
  else
   (qcD K r16).bind fun x2 =>
   some (x2, rest, true)
def qmA (K : Nat) (a : (List Int)) (d : Int) : Option ((List Int) × Int × Bool) := qc8 K (.c0 a d)
noncomputable def qn0 : Code := qbQ prog 123
noncomputable def q4T : qkI → List Fr
 | .c0 .. => [.code qn0]
 | .c1 .. => [.code (.loop (atC qn0 [1,1,1,1,1,0,1,0,0])), .blk 0, .code (atC qn0 [1,1,1,1,1,1])]
def q68 : qkI → St
 | .c0 a d => St.init [(tl 1 a qaC), (ti .u32 d)]
 | .c1 r16 a d rest i => ⟨[(0, vl 1 a qaC), (1, vi .u32 d), (7, .c (C.row 16 0 r16.length)), (8, vi .u32 rest), (9, vi .i64 i)], [(16, .row 101 1 (r16.map qaC) 0)], []⟩
def qrV (cx : Cx) (c : qkI) (r : ((List Int) × Int × Bool)) : Prop := Wk prog cx (qc2 prog 123 [[1], [0], [0]] (TV.tup [(false, [(T.sl 1 (r.1.map qaC))]), (false, [(T.int .u32 r.2.1)]), (false, [(T.bool r.2.2)])])) (q4T c) .normal (q68 c)
abbrev qrW (K : Nat) : Prop := ∀ c r, qc8 K c = some r → ∀ cx : Cx, cx.n = 40 → qrV cx c r
theorem q7A {K} (ih : qrW K) {cx} (hn : cx.n = 40) {a d} {r} (h : qc8 (K + 1) (.c0 a d) = some r) : qrV cx (.c0 a d) r := by
 rw [qc8] at h
 rcases qaQ h with ⟨h1, h⟩ | ⟨h1, h⟩
 ·have h := oinj h; subst h
  exact wkR [rg3, rg2, bTr, rg3] hn (aC h1 <| aN)
 ·obtain ⟨x2, h3, h⟩ := qaH h
  obtain ⟨h4, h⟩ := qbI h
  exact wkG [rg3, rg2, bFa, rgG [oo, opI (.call [[1]] [(tl 1 a qaC)] (tl 1 x2 qaC)), oo], rgG [oo, opI (.ln (x2.length : Int)), opI (.mk (qaC (0 : Int)) ((List.replicate (x2.length : Int).toNat ((0 : Int) : Int)).map qaC)), oo], rg1, rgG [oo, opI (.ln (x2.length : Int)), oo, oo], .pre [.rl 7 0 (List.replicate (x2.length : Int).toNat ((0 : Int) : Int)).length, .keep [0,1,7,8,9] [16]]] hn (aC h1 <| aC (qaU h3) <| aC (qaX x2 qaC) <| aC h4.1 <| aC h4.2.1 <| aC h4.2.2 <| aC (qgM _ _ _ : List.replicate (x2.length : Int).toNat (qaC (0 : Int)) = (List.replicate (x2.length : Int).toNat ((0 : Int) : Int)).map qaC) <| aC (qaX x2 qaC) <| aC r0 <| aC (by simp : (x2.length : Int).toNat = (List.replicate (x2.length : Int).toNat ((0 : Int) : Int)).length) <| aN) (ih _ _ h cx hn)
theorem q69 {K} (ih : qrW K) {cx} (hn : cx.n = 40) {r16 a d rest i} {r} (h : qc8 (K + 1) (.c1 r16 a d rest i) = some r) : qrV cx (.c1 r16 a d rest i) r := by
 rw [qc8] at h
 rcases qaQ h with ⟨h1, h⟩ | ⟨h1, h⟩
 ·obtain ⟨x2, h3, h⟩ := qaH h
  obtain ⟨x4, h5, h⟩ := qaH h
  obtain ⟨x6, h7, h⟩ := qaH h
  exact wkG [.go, rg2, bTr, rgG [oo, oo, oo, oo, oo, opI (.ix (qaC x2)), oo, oo, opI (.call [[0], [0], [0]] [(ti .u32 rest), (ti .u32 x2), (ti .u32 d)] (TV.tup [(false, [(T.int .u32 x4.1)]), (false, [(T.int .u32 x4.2)])])), oo, oo, oo, .op .ir, opI (.st (qaC x6) ((r16.set (i.toNat) x4.1).map qaC)), oo], rg3, .pre [.rl 7 0 (r16.set (i.toNat) x4.1).length, .keep [0,1,7,8,9] [16]]] hn (aC h1 <| aC (qa1 h3) <| aC (qbS qaC h3) <| aC (q31 h5) <| aC (qa1 h7) <| aC (qcB h7 (by simp) : i < ((r16.length : Nat) : Int)) <| aC (qcA qaC h7 : (r16.map qaC)[(0 + i.toNat)]? = some (qaC x6)) <| aC (qc4 _ _ x4.1 _ : (r16.map qaC).set (0 + i.toNat) (qbW (qaC x6) 0 [(T.int .u32 x4.1)]) = (r16.set (i.toNat) x4.1).map qaC) <| aC (Nat.zero_le _ : 0 ≤ (0 + i.toNat)) <| aC r0 <| aC (by simp : r16.length = (r16.set (i.toNat) x4.1).length) <| aN) (ih _ _ h cx hn)
 ·obtain ⟨x2, h3, h⟩ := qaH h
  have h := oinj h; subst h
  exact wkR [.go, rg2, bFa, rgG [oo, .snap 37 (max 0 (0 + r16.length)) (r16.map qaC), opI (.call [[1]] [(tl 1 r16 qaC)] (tl 1 x2 qaC)), oo, oo, oo, oo]] hn (aC h1 <| aC (qbJ _ _ _ (by simp) : ((r16.map qaC).drop 0).take r16.length = r16.map qaC) <| aC (rfl : (max 0 (0 + r16.length)) = (max 0 (0 + r16.length))) <| aC (qaU h3) <| aN)
theorem qpD : ∀ K : Nat, qrW K
 | 0, c, r, h => by rw [qc8] at h; cases h
 | K + 1, .c0 .., r, h => fun cx hn => q7A (qpD K) hn h
 | K + 1, .c1 .., r, h => fun cx hn => q69 (qpD K) hn h
theorem qjL {K : Nat} {a : (List Int)} {d : Int} {r : ((List Int) × Int × Bool)} (h : qmA K a d = some r) : qc5 prog 123 [(tl 1 a qaC), (ti .u32 d)] (TV.tup [(false, [(T.sl 1 (r.1.map qaC))]), (false, [(T.int .u32 r.2.1)]), (false, [(T.bool r.2.2)])]) :=
 qa0 [[1], [0], [0]] (by kernel_rfl) (by simp) fun cx hn => qpD K (.c0 a d) r h cx hn
open Go.Proofs.Try (prog)
inductive qgO where
 | c0 (row : (List Int))
 | c1 (r28 : (List Int)) (n : Int)
 | c2 (r28 : (List Int)) (n : Int)
def qbG : Nat → qgO → Option (Option Nat)
 | 0, _ => none
 | K + 1, .c0 row =>
  qbG K (.c1 row ((row.length : Nat) : Int))
 | K + 1, .c1 r28 n =>
  bif (decide ((0 : Int) < n)) then
   (gi r28 (wI6 (n - (1 : Int)))).bind fun x2 =>
   bif (decide (x2 = (0 : Int))) then
    qbG K (.c1 r28 (wI6 (n - (1 : Int))))
   else
    qbG K (.c2 r28 n)
  else
   qbG K (.c2 r28 n)
 | _ + 1, .c2 r28 n =>
  bif (decide (n = (0 : Int))) then
   some none
  else
   gd (0 ≤ n ∧ 0 ≤ n.toNat ∧ n.toNat ≤ r28.length ∧ (0 = 0 ∨ 0 < r28.length)) <|
   some (some (n.toNat - 0))
def qjB (K : Nat) (row : (List Int)) : Option (Option Nat) := qbG K (.c0 row)
noncomputable def qfK : Code := q6V prog 144
noncomputable def q0Q : qgO → List Fr
 | .c0 .. => [.code qfK]
 | .c1 .. => [.code (.loop (atC qfK [1,1,0,0,0])), .blk 0, .code (atC qfK [1,1,1])]
 | .c2 .. => [.code (atC qfK [1,1,1,0,0]), .code (atC qfK [1,1,1,0,1]), .code (atC qfK [1,1,1,1])]
def q2L (H : List (Nat × Blk)) (exs : List V) : qgO → St
 | .c0 row => ⟨idxV 0 [.c (C.row 28 0 row.length)], [(28, .row 101 1 (row.map qaC) 0)] ++ H, exs⟩
 | .c1 r28 n => ⟨[(0, .c (C.row 28 0 r28.length)), (3, vi .i64 n)], [(28, .row 101 1 (r28.map qaC) 0)] ++ H, exs⟩
 | .c2 r28 n => ⟨[(0, .c (C.row 28 0 r28.length)), (3, vi .i64 n)], [(28, .row 101 1 (r28.map qaC) 0)] ++ H, exs⟩
def q0P : qgO → List Int
 | .c0 row => row
 | .c1 r28 _ => r28
 | .c2 r28 _ => r28
def qjY (cx : Cx) (H : List (Nat × Blk)) (exs : List V) (c : qgO) (r : (Option Nat)) : Prop := Wk prog cx (zvQ prog 144 ([(28, .row 101 1 ((q0P c).map qaC) 0)] ++ H) exs (zvW 28 r)) (q0Q c) .normal (q2L H exs c)
abbrev qjZ (K : Nat) : Prop := ∀ c r, qbG K c = some r → ∀ cx : Cx, cx.n = 23 → ∀ H exs, qjY cx H exs c r
theorem q2O {K} (ih : qjZ K) {cx} (hn : cx.n = 23) (H : List (Nat × Blk)) (exs : List V) {row} {r} (h : qbG (K + 1) (.c0 row) = some r) : qjY cx H exs (.c0 row) r := by
 rw [qbG] at h
 exact wkG [rg1, rg3, .pre [.rl 0 0 row.length, .keepT [0,3]]] hn (aC r0 <| aC (lq row) <| aN) (ih _ _ h cx hn H exs)
theorem q2N {K} (ih : qjZ K) {cx} (hn : cx.n = 23) (H : List (Nat × Blk)) (exs : List V) {r28 n} {r} (h : qbG (K + 1) (.c1 r28 n) = some r) : qjY cx H exs (.c1 r28 n) r := by
 rw [qbG] at h
 rcases qaQ h with ⟨h1, h⟩ | ⟨h1, h⟩
 ·obtain ⟨x2, h3, h⟩ := qaH h
  rcases qaQ h with ⟨h4, h⟩ | ⟨h4, h⟩
  ·exact wkG [.go, rgG [oo, oo, oo, .sb 8 true, oo, oo, oo, .op .ir, opI (.ld (qaC x2)), oo, oo], bTr, rg3, .pre [.rl 0 0 r28.length, .keepT [0,3]]] hn (aC h1 <| aC (qa1 h3) <| aC (qcB h3 (by simp) : (wI6 (n - (1 : Int))) < ((r28.length : Nat) : Int)) <| aC (qcA qaC h3 : (r28.map qaC)[(0 + (wI6 (n - (1 : Int))).toNat)]? = some (qaC x2)) <| aC h4 <| aC r0 <| aC (lq r28) <| aN) (ih _ _ h cx hn H exs)
  ·exact wkG [.go, rgG [oo, oo, oo, .sb 8 true, oo, oo, oo, .op .ir, opI (.ld (qaC x2)), oo, oo], bFa, .pre [.rl 0 0 r28.length, .keepT [0,3]]] hn (aC h1 <| aC (qa1 h3) <| aC (qcB h3 (by simp) : (wI6 (n - (1 : Int))) < ((r28.length : Nat) : Int)) <| aC (qcA qaC h3 : (r28.map qaC)[(0 + (wI6 (n - (1 : Int))).toNat)]? = some (qaC x2)) <| aC h4 <| aC r0 <| aC (lq r28) <| aN) (ih _ _ h cx hn H exs)
 ·exact wkG [.go, rgG [oo, oo, oo, .sb 8 false, oo, oo, oo, oo, oo, oo, oo], bFa, .pre [.rl 0 0 r28.length, .keepT [0,3]]] hn (aC h1 <| aC rf <| aC r0 <| aC (lq r28) <| aN) (ih _ _ h cx hn H exs)
theorem q2M {K} (_ : qjZ K) {cx} (hn : cx.n = 23) (H : List (Nat × Blk)) (exs : List V) {r28 n} {r} (h : qbG (K + 1) (.c2 r28 n) = some r) : qjY cx H exs (.c2 r28 n) r := by
 rw [qbG] at h
 rcases qaQ h with ⟨h1, h⟩ | ⟨h1, h⟩
 ·have h := oinj h; subst h
  exact zpE (fuel := 60) [rg2, bTr, rg1]
   _
   ((28, .row 101 1 (r28.map qaC) 0) :: H) hn (by kernel_rfl) (aC h1 <| aN) (fun _ => rfl)
 ·obtain ⟨h2, h⟩ := qbI h
  have h := oinj h; subst h
  exact zpE (fuel := 60) [rg2, bFa, rgG [oo, oo, opI (.slR 0 n.toNat 0 (n.toNat - 0)), oo]]
   _
   ((28, .row 101 1 (r28.map qaC) 0) :: H) hn (by kernel_rfl) (aC h1 <| aC r0 <| aC (⟨h2.1, rfl⟩ : 0 ≤ n ∧ n.toNat = n.toNat) <| aC h2.2.1 <| aC h2.2.2.1 <| aC h2.2.2.2 <| aC (rfl : 0 + 0 = 0) <| aC (rfl : n.toNat - 0 = (n.toNat - 0)) <| aN) (fun _ => rfl)
theorem qiK : ∀ K : Nat, qjZ K
 | 0, c, r, h => by rw [qbG] at h; cases h
 | K + 1, .c0 .., r, h => fun cx hn H exs => q2O (qiK K) hn H exs h
 | K + 1, .c1 .., r, h => fun cx hn H exs => q2N (qiK K) hn H exs h
 | K + 1, .c2 .., r, h => fun cx hn H exs => q2M (qiK K) hn H exs h
theorem qg2 {K : Nat} {row : List Int} {r : Option Nat} (h : qjB K row = some r) : zm5 prog 144 [.c (C.row 28 0 row.length)] [(28, .row 101 1 (row.map qaC) 0)] [(28, .row 101 1 (row.map qaC) 0)] (zvW 28 r) :=
 zoY (n := 23) (by kernel_rfl) (by simp) fun cx hn H exs => qiK K (.c0 row) r h cx hn H exs
open Go.Proofs.Try (prog)
inductive qnA where
 | c0 (a : (List Int)) (n : Int)
 | c1 (r28 : (List Int)) (shift : Int) (low : Int) (i : Int)
def qdT : Nat → qnA → Option (Option (List Int))
 | 0, _ => none
 | K + 1, .c0 a n =>
  (qcD K a).bind fun x1 =>
  bif (decide ((x1.length : Int) = (0 : Int))) then
   some none
  else
   gd (0 ≤ (wI6 ((wI6 ((wI6 (Int.tdiv (min (max n (0 : Int)) (16777216 : Int)) (32 : Int))) + (x1.length : Int))) + (1 : Int))) ∧ (wI6 ((wI6 ((wI6 (Int.tdiv (min (max n (0 : Int)) (16777216 : Int)) (32 : Int))) + (x1.length : Int))) + (1 : Int))) ≤ (wI6 ((wI6 ((wI6 (Int.tdiv (min (max n (0 : Int)) (16777216 : Int)) (32 : Int))) + (x1.length : Int))) + (1 : Int))) ∧ (4 : Int) * (wI6 ((wI6 ((wI6 (Int.tdiv (min (max n (0 : Int)) (16777216 : Int)) (32 : Int))) + (x1.length : Int))) + (1 : Int))) ≤ 140737488355328) <|
   gd (0 ≤ (wI6 (Int.tdiv (min (max n (0 : Int)) (16777216 : Int)) (32 : Int))) ∧ (wI6 (Int.tdiv (min (max n (0 : Int)) (16777216 : Int)) (32 : Int))).toNat ≤ (wI6 ((wI6 ((wI6 (Int.tdiv (min (max n (0 : Int)) (16777216 : Int)) (32 : Int))) + (x1.length : Int))) + (1 : Int))).toNat ∧ (wI6 ((wI6 ((wI6 (Int.tdiv (min (max n (0 : Int)) (16777216 : Int)) (32 : Int))) + (x1.length : Int))) + (1 : Int))).toNat ≤ (wI6 ((wI6 ((wI6 (Int.tdiv (min (max n (0 : Int)) (16777216 : Int)) (32 : Int))) + (x1.length : Int))) + (1 : Int))).toNat ∧ ((wI6 (Int.tdiv (min (max n (0 : Int)) (16777216 : Int)) (32 : Int))).toNat = 0 ∨ (wI6 (Int.tdiv (min (max n (0 : Int)) (16777216 : Int)) (32 : Int))).toNat < (wI6 ((wI6 ((wI6 (Int.tdiv (min (max n (0 : Int)) (16777216 : Int)) (32 : Int))) + (x1.length : Int))) + (1 : Int))).toNat)) <|
   gd ((0 + (wI6 (Int.tdiv (min (max n (0 : Int)) (16777216 : Int)) (32 : Int))).toNat) + ((wI6 ((wI6 ((wI6 (Int.tdiv (min (max n (0 : Int)) (16777216 : Int)) (32 : Int))) + (x1.length : Int))) + (1 : Int))).toNat - (wI6 (Int.tdiv (min (max n (0 : Int)) (16777216 : Int)) (32 : Int))).toNat) ≤ (List.replicate (wI6 ((wI6 ((wI6 (Int.tdiv (min (max n (0 : Int)) (16777216 : Int)) (32 : Int))) + (x1.length : Int))) + (1 : Int))).toNat ((0 : Int) : Int)).length) <|
   bif (decide ((0 : Int) < (Int.tmod (min (max n (0 : Int)) (16777216 : Int)) (32 : Int)))) then
    qdT K (.c1 (qeV (List.replicate (wI6 ((wI6 ((wI6 (Int.tdiv (min (max n (0 : Int)) (16777216 : Int)) (32 : Int))) + (x1.length : Int))) + (1 : Int))).toNat ((0 : Int) : Int)) (0 + (wI6 (Int.tdiv (min (max n (0 : Int)) (16777216 : Int)) (32 : Int))).toNat) ((wI6 ((wI6 ((wI6 (Int.tdiv (min (max n (0 : Int)) (16777216 : Int)) (32 : Int))) + (x1.length : Int))) + (1 : Int))).toNat - (wI6 (Int.tdiv (min (max n (0 : Int)) (16777216 : Int)) (32 : Int))).toNat) x1) (Int.tmod (min (max n (0 : Int)) (16777216 : Int)) (32 : Int)) (0 : Int) (wI6 (Int.tdiv (min (max n (0 : Int)) (16777216 : Int)) (32 : Int))))
   else
    (qjB K (qeV (List.replicate (wI6 ((wI6 ((wI6 (Int.tdiv (min (max n (0 : Int)) (16777216 : Int)) (32 : Int))) + (x1.length : Int))) + (1 : Int))).toNat ((0 : Int) : Int)) (0 + (wI6 (Int.tdiv (min (max n (0 : Int)) (16777216 : Int)) (32 : Int))).toNat) ((wI6 ((wI6 ((wI6 (Int.tdiv (min (max n (0 : Int)) (16777216 : Int)) (32 : Int))) + (x1.length : Int))) + (1 : Int))).toNat - (wI6 (Int.tdiv (min (max n (0 : Int)) (16777216 : Int)) (32 : Int))).toNat) x1)).bind fun x9 => match x9 with
    | none =>
     some none
    | some n10 =>
     gd (n10 ≤ (qeV (List.replicate (wI6 ((wI6 ((wI6 (Int.tdiv (min (max n (0 : Int)) (16777216 : Int)) (32 : Int))) + (x1.length : Int))) + (1 : Int))).toNat ((0 : Int) : Int)) (0 + (wI6 (Int.tdiv (min (max n (0 : Int)) (16777216 : Int)) (32 : Int))).toNat) ((wI6 ((wI6 ((wI6 (Int.tdiv (min (max n (0 : Int)) (16777216 : Int)) (32 : Int))) + (x1.length : Int))) + (1 : Int))).toNat - (wI6 (Int.tdiv (min (max n (0 : Int)) (16777216 : Int)) (32 : Int))).toNat) x1).length) <|
     some (some ((qeV (List.replicate (wI6 ((wI6 ((wI6 (Int.tdiv (min (max n (0 : Int)) (16777216 : Int)) (32 : Int))) + (x1.length : Int))) + (1 : Int))).toNat ((0 : Int) : Int)) (0 + (wI6 (Int.tdiv (min (max n (0 : Int)) (16777216 : Int)) (32 : Int))).toNat) ((wI6 ((wI6 ((wI6 (Int.tdiv (min (max n (0 : Int)) (16777216 : Int)) (32 : Int))) + (x1.length : Int))) + (1 : Int))).toNat - (wI6 (Int.tdiv (min (max n (0 : Int)) (16777216 : Int)) (32 : Int))).toNat) x1).take n10))
 | K + 1, .c1 r28 shift low i =>
  bif (decide (i < ((r28.length : Nat) : Int))) then
   (gi r28 i).bind fun x2 =>
   gd (0 ≤ shift) <|
   (gi r28 i).bind fun _ =>
   gd (0 ≤ (wI6 ((32 : Int) - shift))) <|
   qdT K (.c1 (r28.set (i.toNat) (bits .or .u32 (qhT .u32 x2 shift) low)) shift (qd2 .u32 x2 (wI6 ((32 : Int) - shift))) (wI6 (i + (1 : Int))))
  else
   (qjB K r28).bind fun x3 => match x3 with
   | none =>
    some none
   | some n4 =>
    gd (n4 ≤ r28.length) <|
    some (some (r28.take n4))
def quG (K : Nat) (a : (List Int)) (n : Int) : Option (Option (List Int)) := qdT K (.c0 a n)
noncomputable def qqV : Code := q6V prog 142
noncomputable def q84 : qnA → List Fr
 | .c0 .. => [.code qqV]
 | .c1 .. => [.code (.loop (atC qqV [1,1,1,1,1,1,1,0,1,0,1,1,0,0])), .blk 0, .code (atC qqV [1,1,1,1,1,1,1,1])]
def zb8 : qnA → St
 | .c0 a n => St.init [(tl 1 a qaC), (ti .i64 n)]
 | .c1 r28 shift low i => ⟨[(6, vi .i64 shift), (7, .c (C.row 28 0 r28.length)), (8, vi .u32 low), (9, vi .i64 i)], [(28, .row 101 1 (r28.map qaC) 0)], []⟩
def qvI (cx : Cx) (c : qnA) (r : (Option (List Int))) : Prop := Wk prog cx (zt6 prog 142 101 1 (r.map fun l => l.map qaC)) (q84 c) .normal (zb8 c)
abbrev qvJ (K : Nat) : Prop := ∀ c r, qdT K c = some r → ∀ cx : Cx, cx.n = 61 → qvI cx c r
theorem zcA {K} (ih : qvJ K) {cx} (hn : cx.n = 61) {a n} {r} (h : qdT (K + 1) (.c0 a n) = some r) : qvI cx (.c0 a n) r := by
 rw [qdT] at h
 obtain ⟨x1, h2, h⟩ := qaH h
 rcases qaQ h with ⟨h3, h⟩ | ⟨h3, h⟩
 ·have h := oinj h; subst h
  exact zm7 (fuel := 80) [rg1, rgG [oo, opI (.call [[1]] [(tl 1 a qaC)] (tl 1 x1 qaC)), oo], rgG [oo, opI (.ln (x1.length : Int)), oo], bTr, rg1] _ hn (by kernel_rfl) (aC (qaU h2) <| aC (qaX x1 qaC) <| aC h3 <| aN)
 ·obtain ⟨h4, h⟩ := qbI h
  obtain ⟨h5, h⟩ := qbI h
  obtain ⟨h6, h⟩ := qbI h
  rcases qaQ h with ⟨h7, h⟩ | ⟨h7, h⟩
  ·exact wkG [rg1, rgG [oo, opI (.call [[1]] [(tl 1 a qaC)] (tl 1 x1 qaC)), oo], rgG [oo, opI (.ln (x1.length : Int)), oo], bFa, rg4, rg6, rgG [oo, oo, opI (.ln (x1.length : Int)), oo, oo, opI (.mk (qaC (0 : Int)) ((List.replicate (wI6 ((wI6 ((wI6 (Int.tdiv (min (max n (0 : Int)) (16777216 : Int)) (32 : Int))) + (x1.length : Int))) + (1 : Int))).toNat ((0 : Int) : Int)).map qaC)), oo], rgG [oo, oo, opI (.slR ((wI6 (Int.tdiv (min (max n (0 : Int)) (16777216 : Int)) (32 : Int))).toNat) ((wI6 ((wI6 ((wI6 (Int.tdiv (min (max n (0 : Int)) (16777216 : Int)) (32 : Int))) + (x1.length : Int))) + (1 : Int))).toNat) (0 + (wI6 (Int.tdiv (min (max n (0 : Int)) (16777216 : Int)) (32 : Int))).toNat) ((wI6 ((wI6 ((wI6 (Int.tdiv (min (max n (0 : Int)) (16777216 : Int)) (32 : Int))) + (x1.length : Int))) + (1 : Int))).toNat - (wI6 (Int.tdiv (min (max n (0 : Int)) (16777216 : Int)) (32 : Int))).toNat)), oo, opI (.cp (x1.map qaC) ((qeV (List.replicate (wI6 ((wI6 ((wI6 (Int.tdiv (min (max n (0 : Int)) (16777216 : Int)) (32 : Int))) + (x1.length : Int))) + (1 : Int))).toNat ((0 : Int) : Int)) (0 + (wI6 (Int.tdiv (min (max n (0 : Int)) (16777216 : Int)) (32 : Int))).toNat) ((wI6 ((wI6 ((wI6 (Int.tdiv (min (max n (0 : Int)) (16777216 : Int)) (32 : Int))) + (x1.length : Int))) + (1 : Int))).toNat - (wI6 (Int.tdiv (min (max n (0 : Int)) (16777216 : Int)) (32 : Int))).toNat) x1).map qaC) ((min x1.length ((wI6 ((wI6 ((wI6 (Int.tdiv (min (max n (0 : Int)) (16777216 : Int)) (32 : Int))) + (x1.length : Int))) + (1 : Int))).toNat - (wI6 (Int.tdiv (min (max n (0 : Int)) (16777216 : Int)) (32 : Int))).toNat) : Nat) : Int))], rg2, bTr, rg1, rg2, .pre [.rl 7 0 (qeV (List.replicate (wI6 ((wI6 ((wI6 (Int.tdiv (min (max n (0 : Int)) (16777216 : Int)) (32 : Int))) + (x1.length : Int))) + (1 : Int))).toNat ((0 : Int) : Int)) (0 + (wI6 (Int.tdiv (min (max n (0 : Int)) (16777216 : Int)) (32 : Int))).toNat) ((wI6 ((wI6 ((wI6 (Int.tdiv (min (max n (0 : Int)) (16777216 : Int)) (32 : Int))) + (x1.length : Int))) + (1 : Int))).toNat - (wI6 (Int.tdiv (min (max n (0 : Int)) (16777216 : Int)) (32 : Int))).toNat) x1).length, .keep [6,7,8,9] [28]]] hn (aC (qaU h2) <| aC (qaX x1 qaC) <| aC h3 <| aC (qaX x1 qaC) <| aC h4.1 <| aC h4.2.1 <| aC h4.2.2 <| aC (qgM _ _ _ : List.replicate (wI6 ((wI6 ((wI6 (Int.tdiv (min (max n (0 : Int)) (16777216 : Int)) (32 : Int))) + (x1.length : Int))) + (1 : Int))).toNat (qaC (0 : Int)) = (List.replicate (wI6 ((wI6 ((wI6 (Int.tdiv (min (max n (0 : Int)) (16777216 : Int)) (32 : Int))) + (x1.length : Int))) + (1 : Int))).toNat ((0 : Int) : Int)).map qaC) <| aC (⟨h5.1, rfl⟩ : 0 ≤ (wI6 (Int.tdiv (min (max n (0 : Int)) (16777216 : Int)) (32 : Int))) ∧ (wI6 (Int.tdiv (min (max n (0 : Int)) (16777216 : Int)) (32 : Int))).toNat = (wI6 (Int.tdiv (min (max n (0 : Int)) (16777216 : Int)) (32 : Int))).toNat) <| aC (rfl : (wI6 ((wI6 ((wI6 (Int.tdiv (min (max n (0 : Int)) (16777216 : Int)) (32 : Int))) + (x1.length : Int))) + (1 : Int))).toNat = (wI6 ((wI6 ((wI6 (Int.tdiv (min (max n (0 : Int)) (16777216 : Int)) (32 : Int))) + (x1.length : Int))) + (1 : Int))).toNat) <| aC h5.2.1 <| aC h5.2.2.1 <| aC h5.2.2.2 <| aC (rfl : 0 + (wI6 (Int.tdiv (min (max n (0 : Int)) (16777216 : Int)) (32 : Int))).toNat = (0 + (wI6 (Int.tdiv (min (max n (0 : Int)) (16777216 : Int)) (32 : Int))).toNat)) <| aC (rfl : (wI6 ((wI6 ((wI6 (Int.tdiv (min (max n (0 : Int)) (16777216 : Int)) (32 : Int))) + (x1.length : Int))) + (1 : Int))).toNat - (wI6 (Int.tdiv (min (max n (0 : Int)) (16777216 : Int)) (32 : Int))).toNat = ((wI6 ((wI6 ((wI6 (Int.tdiv (min (max n (0 : Int)) (16777216 : Int)) (32 : Int))) + (x1.length : Int))) + (1 : Int))).toNat - (wI6 (Int.tdiv (min (max n (0 : Int)) (16777216 : Int)) (32 : Int))).toNat)) <| aC (rfl : x1.map qaC = x1.map qaC) <| aC (qt9 _ _ _ _ _ h6 : qbW ((List.replicate (wI6 ((wI6 ((wI6 (Int.tdiv (min (max n (0 : Int)) (16777216 : Int)) (32 : Int))) + (x1.length : Int))) + (1 : Int))).toNat ((0 : Int) : Int)).map qaC) (0 + (wI6 (Int.tdiv (min (max n (0 : Int)) (16777216 : Int)) (32 : Int))).toNat) ((x1.map qaC).take (min (x1.map qaC).length ((wI6 ((wI6 ((wI6 (Int.tdiv (min (max n (0 : Int)) (16777216 : Int)) (32 : Int))) + (x1.length : Int))) + (1 : Int))).toNat - (wI6 (Int.tdiv (min (max n (0 : Int)) (16777216 : Int)) (32 : Int))).toNat))) = (qeV (List.replicate (wI6 ((wI6 ((wI6 (Int.tdiv (min (max n (0 : Int)) (16777216 : Int)) (32 : Int))) + (x1.length : Int))) + (1 : Int))).toNat ((0 : Int) : Int)) (0 + (wI6 (Int.tdiv (min (max n (0 : Int)) (16777216 : Int)) (32 : Int))).toNat) ((wI6 ((wI6 ((wI6 (Int.tdiv (min (max n (0 : Int)) (16777216 : Int)) (32 : Int))) + (x1.length : Int))) + (1 : Int))).toNat - (wI6 (Int.tdiv (min (max n (0 : Int)) (16777216 : Int)) (32 : Int))).toNat) x1).map qaC) <| aC (by rw [qeF] : ((min (x1.map qaC).length ((wI6 ((wI6 ((wI6 (Int.tdiv (min (max n (0 : Int)) (16777216 : Int)) (32 : Int))) + (x1.length : Int))) + (1 : Int))).toNat - (wI6 (Int.tdiv (min (max n (0 : Int)) (16777216 : Int)) (32 : Int))).toNat) : Nat) : Int) = ((min x1.length ((wI6 ((wI6 ((wI6 (Int.tdiv (min (max n (0 : Int)) (16777216 : Int)) (32 : Int))) + (x1.length : Int))) + (1 : Int))).toNat - (wI6 (Int.tdiv (min (max n (0 : Int)) (16777216 : Int)) (32 : Int))).toNat) : Nat) : Int)) <| aC h7 <| aC r0 <| aC (by simp : (wI6 ((wI6 ((wI6 (Int.tdiv (min (max n (0 : Int)) (16777216 : Int)) (32 : Int))) + (x1.length : Int))) + (1 : Int))).toNat = (qeV (List.replicate (wI6 ((wI6 ((wI6 (Int.tdiv (min (max n (0 : Int)) (16777216 : Int)) (32 : Int))) + (x1.length : Int))) + (1 : Int))).toNat ((0 : Int) : Int)) (0 + (wI6 (Int.tdiv (min (max n (0 : Int)) (16777216 : Int)) (32 : Int))).toNat) ((wI6 ((wI6 ((wI6 (Int.tdiv (min (max n (0 : Int)) (16777216 : Int)) (32 : Int))) + (x1.length : Int))) + (1 : Int))).toNat - (wI6 (Int.tdiv (min (max n (0 : Int)) (16777216 : Int)) (32 : Int))).toNat) x1).length) <| aN) (ih _ _ h cx hn)
  ·obtain ⟨x9, h8, h⟩ := qaH h
   cases x9 with
   | none =>
    have h := oinj h; subst h
    exact zm7 (fuel := 130) [rg1, rgG [oo, opI (.call [[1]] [(tl 1 a qaC)] (tl 1 x1 qaC)), oo], rgG [oo, opI (.ln (x1.length : Int)), oo], bFa, rg4, rg6, rgG [oo, oo, opI (.ln (x1.length : Int)), oo, oo, opI (.mk (qaC (0 : Int)) ((List.replicate (wI6 ((wI6 ((wI6 (Int.tdiv (min (max n (0 : Int)) (16777216 : Int)) (32 : Int))) + (x1.length : Int))) + (1 : Int))).toNat ((0 : Int) : Int)).map qaC)), oo], rgG [oo, oo, opI (.slR ((wI6 (Int.tdiv (min (max n (0 : Int)) (16777216 : Int)) (32 : Int))).toNat) ((wI6 ((wI6 ((wI6 (Int.tdiv (min (max n (0 : Int)) (16777216 : Int)) (32 : Int))) + (x1.length : Int))) + (1 : Int))).toNat) (0 + (wI6 (Int.tdiv (min (max n (0 : Int)) (16777216 : Int)) (32 : Int))).toNat) ((wI6 ((wI6 ((wI6 (Int.tdiv (min (max n (0 : Int)) (16777216 : Int)) (32 : Int))) + (x1.length : Int))) + (1 : Int))).toNat - (wI6 (Int.tdiv (min (max n (0 : Int)) (16777216 : Int)) (32 : Int))).toNat)), oo, opI (.cp (x1.map qaC) ((qeV (List.replicate (wI6 ((wI6 ((wI6 (Int.tdiv (min (max n (0 : Int)) (16777216 : Int)) (32 : Int))) + (x1.length : Int))) + (1 : Int))).toNat ((0 : Int) : Int)) (0 + (wI6 (Int.tdiv (min (max n (0 : Int)) (16777216 : Int)) (32 : Int))).toNat) ((wI6 ((wI6 ((wI6 (Int.tdiv (min (max n (0 : Int)) (16777216 : Int)) (32 : Int))) + (x1.length : Int))) + (1 : Int))).toNat - (wI6 (Int.tdiv (min (max n (0 : Int)) (16777216 : Int)) (32 : Int))).toNat) x1).map qaC) ((min x1.length ((wI6 ((wI6 ((wI6 (Int.tdiv (min (max n (0 : Int)) (16777216 : Int)) (32 : Int))) + (x1.length : Int))) + (1 : Int))).toNat - (wI6 (Int.tdiv (min (max n (0 : Int)) (16777216 : Int)) (32 : Int))).toNat) : Nat) : Int))], rg2, bFa, rgG [oo, .rl 59 0 (qeV (List.replicate (wI6 ((wI6 ((wI6 (Int.tdiv (min (max n (0 : Int)) (16777216 : Int)) (32 : Int))) + (x1.length : Int))) + (1 : Int))).toNat ((0 : Int) : Int)) (0 + (wI6 (Int.tdiv (min (max n (0 : Int)) (16777216 : Int)) (32 : Int))).toNat) ((wI6 ((wI6 ((wI6 (Int.tdiv (min (max n (0 : Int)) (16777216 : Int)) (32 : Int))) + (x1.length : Int))) + (1 : Int))).toNat - (wI6 (Int.tdiv (min (max n (0 : Int)) (16777216 : Int)) (32 : Int))).toNat) x1).length, .callR [28] [(28, .row 101 1 ((qeV (List.replicate (wI6 ((wI6 ((wI6 (Int.tdiv (min (max n (0 : Int)) (16777216 : Int)) (32 : Int))) + (x1.length : Int))) + (1 : Int))).toNat ((0 : Int) : Int)) (0 + (wI6 (Int.tdiv (min (max n (0 : Int)) (16777216 : Int)) (32 : Int))).toNat) ((wI6 ((wI6 ((wI6 (Int.tdiv (min (max n (0 : Int)) (16777216 : Int)) (32 : Int))) + (x1.length : Int))) + (1 : Int))).toNat - (wI6 (Int.tdiv (min (max n (0 : Int)) (16777216 : Int)) (32 : Int))).toNat) x1).map qaC) 0)] (.c C.nil), oo]] _ hn (by kernel_rfl) (aC (qaU h2) <| aC (qaX x1 qaC) <| aC h3 <| aC (qaX x1 qaC) <| aC h4.1 <| aC h4.2.1 <| aC h4.2.2 <| aC (qgM _ _ _ : List.replicate (wI6 ((wI6 ((wI6 (Int.tdiv (min (max n (0 : Int)) (16777216 : Int)) (32 : Int))) + (x1.length : Int))) + (1 : Int))).toNat (qaC (0 : Int)) = (List.replicate (wI6 ((wI6 ((wI6 (Int.tdiv (min (max n (0 : Int)) (16777216 : Int)) (32 : Int))) + (x1.length : Int))) + (1 : Int))).toNat ((0 : Int) : Int)).map qaC) <| aC (⟨h5.1, rfl⟩ : 0 ≤ (wI6 (Int.tdiv (min (max n (0 : Int)) (16777216 : Int)) (32 : Int))) ∧ (wI6 (Int.tdiv (min (max n (0 : Int)) (16777216 : Int)) (32 : Int))).toNat = (wI6 (Int.tdiv (min (max n (0 : Int)) (16777216 : Int)) (32 : Int))).toNat) <| aC (rfl : (wI6 ((wI6 ((wI6 (Int.tdiv (min (max n (0 : Int)) (16777216 : Int)) (32 : Int))) + (x1.length : Int))) + (1 : Int))).toNat = (wI6 ((wI6 ((wI6 (Int.tdiv (min (max n (0 : Int)) (16777216 : Int)) (32 : Int))) + (x1.length : Int))) + (1 : Int))).toNat) <| aC h5.2.1 <| aC h5.2.2.1 <| aC h5.2.2.2 <| aC (rfl : 0 + (wI6 (Int.tdiv (min (max n (0 : Int)) (16777216 : Int)) (32 : Int))).toNat = (0 + (wI6 (Int.tdiv (min (max n (0 : Int)) (16777216 : Int)) (32 : Int))).toNat)) <| aC (rfl : (wI6 ((wI6 ((wI6 (Int.tdiv (min (max n (0 : Int)) (16777216 : Int)) (32 : Int))) + (x1.length : Int))) + (1 : Int))).toNat - (wI6 (Int.tdiv (min (max n (0 : Int)) (16777216 : Int)) (32 : Int))).toNat = ((wI6 ((wI6 ((wI6 (Int.tdiv (min (max n (0 : Int)) (16777216 : Int)) (32 : Int))) + (x1.length : Int))) + (1 : Int))).toNat - (wI6 (Int.tdiv (min (max n (0 : Int)) (16777216 : Int)) (32 : Int))).toNat)) <| aC (rfl : x1.map qaC = x1.map qaC) <| aC (qt9 _ _ _ _ _ h6 : qbW ((List.replicate (wI6 ((wI6 ((wI6 (Int.tdiv (min (max n (0 : Int)) (16777216 : Int)) (32 : Int))) + (x1.length : Int))) + (1 : Int))).toNat ((0 : Int) : Int)).map qaC) (0 + (wI6 (Int.tdiv (min (max n (0 : Int)) (16777216 : Int)) (32 : Int))).toNat) ((x1.map qaC).take (min (x1.map qaC).length ((wI6 ((wI6 ((wI6 (Int.tdiv (min (max n (0 : Int)) (16777216 : Int)) (32 : Int))) + (x1.length : Int))) + (1 : Int))).toNat - (wI6 (Int.tdiv (min (max n (0 : Int)) (16777216 : Int)) (32 : Int))).toNat))) = (qeV (List.replicate (wI6 ((wI6 ((wI6 (Int.tdiv (min (max n (0 : Int)) (16777216 : Int)) (32 : Int))) + (x1.length : Int))) + (1 : Int))).toNat ((0 : Int) : Int)) (0 + (wI6 (Int.tdiv (min (max n (0 : Int)) (16777216 : Int)) (32 : Int))).toNat) ((wI6 ((wI6 ((wI6 (Int.tdiv (min (max n (0 : Int)) (16777216 : Int)) (32 : Int))) + (x1.length : Int))) + (1 : Int))).toNat - (wI6 (Int.tdiv (min (max n (0 : Int)) (16777216 : Int)) (32 : Int))).toNat) x1).map qaC) <| aC (by rw [qeF] : ((min (x1.map qaC).length ((wI6 ((wI6 ((wI6 (Int.tdiv (min (max n (0 : Int)) (16777216 : Int)) (32 : Int))) + (x1.length : Int))) + (1 : Int))).toNat - (wI6 (Int.tdiv (min (max n (0 : Int)) (16777216 : Int)) (32 : Int))).toNat) : Nat) : Int) = ((min x1.length ((wI6 ((wI6 ((wI6 (Int.tdiv (min (max n (0 : Int)) (16777216 : Int)) (32 : Int))) + (x1.length : Int))) + (1 : Int))).toNat - (wI6 (Int.tdiv (min (max n (0 : Int)) (16777216 : Int)) (32 : Int))).toNat) : Nat) : Int)) <| aC h7 <| aC r0 <| aC (by simp : (wI6 ((wI6 ((wI6 (Int.tdiv (min (max n (0 : Int)) (16777216 : Int)) (32 : Int))) + (x1.length : Int))) + (1 : Int))).toNat = (qeV (List.replicate (wI6 ((wI6 ((wI6 (Int.tdiv (min (max n (0 : Int)) (16777216 : Int)) (32 : Int))) + (x1.length : Int))) + (1 : Int))).toNat ((0 : Int) : Int)) (0 + (wI6 (Int.tdiv (min (max n (0 : Int)) (16777216 : Int)) (32 : Int))).toNat) ((wI6 ((wI6 ((wI6 (Int.tdiv (min (max n (0 : Int)) (16777216 : Int)) (32 : Int))) + (x1.length : Int))) + (1 : Int))).toNat - (wI6 (Int.tdiv (min (max n (0 : Int)) (16777216 : Int)) (32 : Int))).toNat) x1).length) <| aC (qg2 h8) <| aN)
   | some n10 =>
    obtain ⟨h11, h⟩ := qbI h
    have h := oinj h; subst h
    exact zqC (es := (((qeV (List.replicate (wI6 ((wI6 ((wI6 (Int.tdiv (min (max n (0 : Int)) (16777216 : Int)) (32 : Int))) + (x1.length : Int))) + (1 : Int))).toNat ((0 : Int) : Int)) (0 + (wI6 (Int.tdiv (min (max n (0 : Int)) (16777216 : Int)) (32 : Int))).toNat) ((wI6 ((wI6 ((wI6 (Int.tdiv (min (max n (0 : Int)) (16777216 : Int)) (32 : Int))) + (x1.length : Int))) + (1 : Int))).toNat - (wI6 (Int.tdiv (min (max n (0 : Int)) (16777216 : Int)) (32 : Int))).toNat) x1).take n10).map qaC)) (m := n10) (es0 := (qeV (List.replicate (wI6 ((wI6 ((wI6 (Int.tdiv (min (max n (0 : Int)) (16777216 : Int)) (32 : Int))) + (x1.length : Int))) + (1 : Int))).toNat ((0 : Int) : Int)) (0 + (wI6 (Int.tdiv (min (max n (0 : Int)) (16777216 : Int)) (32 : Int))).toNat) ((wI6 ((wI6 ((wI6 (Int.tdiv (min (max n (0 : Int)) (16777216 : Int)) (32 : Int))) + (x1.length : Int))) + (1 : Int))).toNat - (wI6 (Int.tdiv (min (max n (0 : Int)) (16777216 : Int)) (32 : Int))).toNat) x1).map qaC) (fuel := 130) [rg1, rgG [oo, opI (.call [[1]] [(tl 1 a qaC)] (tl 1 x1 qaC)), oo], rgG [oo, opI (.ln (x1.length : Int)), oo], bFa, rg4, rg6, rgG [oo, oo, opI (.ln (x1.length : Int)), oo, oo, opI (.mk (qaC (0 : Int)) ((List.replicate (wI6 ((wI6 ((wI6 (Int.tdiv (min (max n (0 : Int)) (16777216 : Int)) (32 : Int))) + (x1.length : Int))) + (1 : Int))).toNat ((0 : Int) : Int)).map qaC)), oo], rgG [oo, oo, opI (.slR ((wI6 (Int.tdiv (min (max n (0 : Int)) (16777216 : Int)) (32 : Int))).toNat) ((wI6 ((wI6 ((wI6 (Int.tdiv (min (max n (0 : Int)) (16777216 : Int)) (32 : Int))) + (x1.length : Int))) + (1 : Int))).toNat) (0 + (wI6 (Int.tdiv (min (max n (0 : Int)) (16777216 : Int)) (32 : Int))).toNat) ((wI6 ((wI6 ((wI6 (Int.tdiv (min (max n (0 : Int)) (16777216 : Int)) (32 : Int))) + (x1.length : Int))) + (1 : Int))).toNat - (wI6 (Int.tdiv (min (max n (0 : Int)) (16777216 : Int)) (32 : Int))).toNat)), oo, opI (.cp (x1.map qaC) ((qeV (List.replicate (wI6 ((wI6 ((wI6 (Int.tdiv (min (max n (0 : Int)) (16777216 : Int)) (32 : Int))) + (x1.length : Int))) + (1 : Int))).toNat ((0 : Int) : Int)) (0 + (wI6 (Int.tdiv (min (max n (0 : Int)) (16777216 : Int)) (32 : Int))).toNat) ((wI6 ((wI6 ((wI6 (Int.tdiv (min (max n (0 : Int)) (16777216 : Int)) (32 : Int))) + (x1.length : Int))) + (1 : Int))).toNat - (wI6 (Int.tdiv (min (max n (0 : Int)) (16777216 : Int)) (32 : Int))).toNat) x1).map qaC) ((min x1.length ((wI6 ((wI6 ((wI6 (Int.tdiv (min (max n (0 : Int)) (16777216 : Int)) (32 : Int))) + (x1.length : Int))) + (1 : Int))).toNat - (wI6 (Int.tdiv (min (max n (0 : Int)) (16777216 : Int)) (32 : Int))).toNat) : Nat) : Int))], rg2, bFa, rgG [oo, .rl 59 0 (qeV (List.replicate (wI6 ((wI6 ((wI6 (Int.tdiv (min (max n (0 : Int)) (16777216 : Int)) (32 : Int))) + (x1.length : Int))) + (1 : Int))).toNat ((0 : Int) : Int)) (0 + (wI6 (Int.tdiv (min (max n (0 : Int)) (16777216 : Int)) (32 : Int))).toNat) ((wI6 ((wI6 ((wI6 (Int.tdiv (min (max n (0 : Int)) (16777216 : Int)) (32 : Int))) + (x1.length : Int))) + (1 : Int))).toNat - (wI6 (Int.tdiv (min (max n (0 : Int)) (16777216 : Int)) (32 : Int))).toNat) x1).length, .callR [28] [(28, .row 101 1 ((qeV (List.replicate (wI6 ((wI6 ((wI6 (Int.tdiv (min (max n (0 : Int)) (16777216 : Int)) (32 : Int))) + (x1.length : Int))) + (1 : Int))).toNat ((0 : Int) : Int)) (0 + (wI6 (Int.tdiv (min (max n (0 : Int)) (16777216 : Int)) (32 : Int))).toNat) ((wI6 ((wI6 ((wI6 (Int.tdiv (min (max n (0 : Int)) (16777216 : Int)) (32 : Int))) + (x1.length : Int))) + (1 : Int))).toNat - (wI6 (Int.tdiv (min (max n (0 : Int)) (16777216 : Int)) (32 : Int))).toNat) x1).map qaC) 0)] (.c (C.row 28 0 n10)), oo]] _ hn (by kernel_rfl) (aC (qaU h2) <| aC (qaX x1 qaC) <| aC h3 <| aC (qaX x1 qaC) <| aC h4.1 <| aC h4.2.1 <| aC h4.2.2 <| aC (qgM _ _ _ : List.replicate (wI6 ((wI6 ((wI6 (Int.tdiv (min (max n (0 : Int)) (16777216 : Int)) (32 : Int))) + (x1.length : Int))) + (1 : Int))).toNat (qaC (0 : Int)) = (List.replicate (wI6 ((wI6 ((wI6 (Int.tdiv (min (max n (0 : Int)) (16777216 : Int)) (32 : Int))) + (x1.length : Int))) + (1 : Int))).toNat ((0 : Int) : Int)).map qaC) <| aC (⟨h5.1, rfl⟩ : 0 ≤ (wI6 (Int.tdiv (min (max n (0 : Int)) (16777216 : Int)) (32 : Int))) ∧ (wI6 (Int.tdiv (min (max n (0 : Int)) (16777216 : Int)) (32 : Int))).toNat = (wI6 (Int.tdiv (min (max n (0 : Int)) (16777216 : Int)) (32 : Int))).toNat) <| aC (rfl : (wI6 ((wI6 ((wI6 (Int.tdiv (min (max n (0 : Int)) (16777216 : Int)) (32 : Int))) + (x1.length : Int))) + (1 : Int))).toNat = (wI6 ((wI6 ((wI6 (Int.tdiv (min (max n (0 : Int)) (16777216 : Int)) (32 : Int))) + (x1.length : Int))) + (1 : Int))).toNat) <| aC h5.2.1 <| aC h5.2.2.1 <| aC h5.2.2.2 <| aC (rfl : 0 + (wI6 (Int.tdiv (min (max n (0 : Int)) (16777216 : Int)) (32 : Int))).toNat = (0 + (wI6 (Int.tdiv (min (max n (0 : Int)) (16777216 : Int)) (32 : Int))).toNat)) <| aC (rfl : (wI6 ((wI6 ((wI6 (Int.tdiv (min (max n (0 : Int)) (16777216 : Int)) (32 : Int))) + (x1.length : Int))) + (1 : Int))).toNat - (wI6 (Int.tdiv (min (max n (0 : Int)) (16777216 : Int)) (32 : Int))).toNat = ((wI6 ((wI6 ((wI6 (Int.tdiv (min (max n (0 : Int)) (16777216 : Int)) (32 : Int))) + (x1.length : Int))) + (1 : Int))).toNat - (wI6 (Int.tdiv (min (max n (0 : Int)) (16777216 : Int)) (32 : Int))).toNat)) <| aC (rfl : x1.map qaC = x1.map qaC) <| aC (qt9 _ _ _ _ _ h6 : qbW ((List.replicate (wI6 ((wI6 ((wI6 (Int.tdiv (min (max n (0 : Int)) (16777216 : Int)) (32 : Int))) + (x1.length : Int))) + (1 : Int))).toNat ((0 : Int) : Int)).map qaC) (0 + (wI6 (Int.tdiv (min (max n (0 : Int)) (16777216 : Int)) (32 : Int))).toNat) ((x1.map qaC).take (min (x1.map qaC).length ((wI6 ((wI6 ((wI6 (Int.tdiv (min (max n (0 : Int)) (16777216 : Int)) (32 : Int))) + (x1.length : Int))) + (1 : Int))).toNat - (wI6 (Int.tdiv (min (max n (0 : Int)) (16777216 : Int)) (32 : Int))).toNat))) = (qeV (List.replicate (wI6 ((wI6 ((wI6 (Int.tdiv (min (max n (0 : Int)) (16777216 : Int)) (32 : Int))) + (x1.length : Int))) + (1 : Int))).toNat ((0 : Int) : Int)) (0 + (wI6 (Int.tdiv (min (max n (0 : Int)) (16777216 : Int)) (32 : Int))).toNat) ((wI6 ((wI6 ((wI6 (Int.tdiv (min (max n (0 : Int)) (16777216 : Int)) (32 : Int))) + (x1.length : Int))) + (1 : Int))).toNat - (wI6 (Int.tdiv (min (max n (0 : Int)) (16777216 : Int)) (32 : Int))).toNat) x1).map qaC) <| aC (by rw [qeF] : ((min (x1.map qaC).length ((wI6 ((wI6 ((wI6 (Int.tdiv (min (max n (0 : Int)) (16777216 : Int)) (32 : Int))) + (x1.length : Int))) + (1 : Int))).toNat - (wI6 (Int.tdiv (min (max n (0 : Int)) (16777216 : Int)) (32 : Int))).toNat) : Nat) : Int) = ((min x1.length ((wI6 ((wI6 ((wI6 (Int.tdiv (min (max n (0 : Int)) (16777216 : Int)) (32 : Int))) + (x1.length : Int))) + (1 : Int))).toNat - (wI6 (Int.tdiv (min (max n (0 : Int)) (16777216 : Int)) (32 : Int))).toNat) : Nat) : Int)) <| aC h7 <| aC r0 <| aC (by simp : (wI6 ((wI6 ((wI6 (Int.tdiv (min (max n (0 : Int)) (16777216 : Int)) (32 : Int))) + (x1.length : Int))) + (1 : Int))).toNat = (qeV (List.replicate (wI6 ((wI6 ((wI6 (Int.tdiv (min (max n (0 : Int)) (16777216 : Int)) (32 : Int))) + (x1.length : Int))) + (1 : Int))).toNat ((0 : Int) : Int)) (0 + (wI6 (Int.tdiv (min (max n (0 : Int)) (16777216 : Int)) (32 : Int))).toNat) ((wI6 ((wI6 ((wI6 (Int.tdiv (min (max n (0 : Int)) (16777216 : Int)) (32 : Int))) + (x1.length : Int))) + (1 : Int))).toNat - (wI6 (Int.tdiv (min (max n (0 : Int)) (16777216 : Int)) (32 : Int))).toNat) x1).length) <| aC (qg2 h8) <| aN) (by rw [List.length_map, List.length_take, Nat.min_eq_left h11]) (by rw [List.map_take])
theorem zb9 {K} (ih : qvJ K) {cx} (hn : cx.n = 61) {r28 shift low i} {r} (h : qdT (K + 1) (.c1 r28 shift low i) = some r) : qvI cx (.c1 r28 shift low i) r := by
 rw [qdT] at h
 rcases qaQ h with ⟨h1, h⟩ | ⟨h1, h⟩
 ·obtain ⟨x2, h3, h⟩ := qaH h
  obtain ⟨h4, h⟩ := qbI h
  obtain ⟨x5, h6, h⟩ := qaH h
  obtain ⟨h7, h⟩ := qbI h
  exact wkG [.go, rg4, bTr, rgG [oo, oo, .op .ir, opI (.ld (qaC x2)), oo], rgG [oo, oo, oo, oo, .op .dv, oo, oo, .op .ir, opI (.st (qaC x5) ((r28.set (i.toNat) (bits .or .u32 (qhT .u32 x2 shift) low)).map qaC))], rgG [oo, oo, oo, .op .dv, oo], rg3, .pre [.rl 7 0 (r28.set (i.toNat) (bits .or .u32 (qhT .u32 x2 shift) low)).length, .keep [6,7,8,9] [28]]] hn (aC h1 <| aC (qa1 h3) <| aC (qcB h3 (by simp) : i < ((r28.length : Nat) : Int)) <| aC (qcA qaC h3 : (r28.map qaC)[(0 + i.toNat)]? = some (qaC x2)) <| aC h4 <| aC (qa1 h6) <| aC (qcB h6 (by simp) : i < ((r28.length : Nat) : Int)) <| aC (qcA qaC h6 : (r28.map qaC)[(0 + i.toNat)]? = some (qaC x5)) <| aC (qc4 _ _ (bits .or .u32 (qhT .u32 x2 shift) low) _ : (r28.map qaC).set (0 + i.toNat) (qbW (qaC x5) 0 [(T.int .u32 (bits .or .u32 (qhT .u32 x2 shift) low))]) = (r28.set (i.toNat) (bits .or .u32 (qhT .u32 x2 shift) low)).map qaC) <| aC (Nat.zero_le _ : 0 ≤ (0 + i.toNat)) <| aC h7 <| aC r0 <| aC (by simp : r28.length = (r28.set (i.toNat) (bits .or .u32 (qhT .u32 x2 shift) low)).length) <| aN) (ih _ _ h cx hn)
 ·obtain ⟨x3, h2, h⟩ := qaH h
  cases x3 with
  | none =>
   have h := oinj h; subst h
   exact zm7 (fuel := 78) [.go, rg4, bFa, rgG [oo, .rl 59 0 r28.length, .callR [28] [(28, .row 101 1 (r28.map qaC) 0)] (.c C.nil), oo]] _ hn (by kernel_rfl) (aC h1 <| aC r0 <| aC (lq r28) <| aC (qg2 h2) <| aN)
  | some n4 =>
   obtain ⟨h5, h⟩ := qbI h
   have h := oinj h; subst h
   exact zqC (es := ((r28.take n4).map qaC)) (m := n4) (es0 := r28.map qaC) (fuel := 78) [.go, rg4, bFa, rgG [oo, .rl 59 0 r28.length, .callR [28] [(28, .row 101 1 (r28.map qaC) 0)] (.c (C.row 28 0 n4)), oo]] _ hn (by kernel_rfl) (aC h1 <| aC r0 <| aC (lq r28) <| aC (qg2 h2) <| aN) (by rw [List.length_map, List.length_take, Nat.min_eq_left h5]) (by rw [List.map_take])
theorem qrQ : ∀ K : Nat, qvJ K
 | 0, c, r, h => by rw [qdT] at h; cases h
 | K + 1, .c0 .., r, h => fun cx hn => zcA (qrQ K) hn h
 | K + 1, .c1 .., r, h => fun cx hn => zb9 (qrQ K) hn h
theorem quS {K : Nat} {a : (List Int)} {n : Int} {r : (Option (List Int))} (h : quG K a n = some r) : zo9 prog 142 [(tl 1 a qaC), (ti .i64 n)] 101 1 (r.map fun l => l.map qaC) :=
 zs9 (n := 61) (by kernel_rfl) (by simp) fun cx hn => qrQ K (.c0 a n) r h cx hn
open Go.Proofs.Try (prog)
inductive qrP where
 | c0 (a : (List Int)) (n : Int)
 | c1 (r25 : (List Int)) (shift : Int) (t29 : Int) (t30 : Int)
 | c2 (shift : Int) (t29 : Int) (t30 : Int)
 | c3 (r25 : (List Int)) (shift : Int) (t29 : Int) (t30 : Int)
def qcP : Nat → qrP → Option (List Int)
 | 0, _ => none
 | K + 1, .c0 a n =>
  (qcD K a).bind fun x1 =>
  bif (decide ((x1.length : Int) ≤ (wI6 (Int.tdiv (max n (0 : Int)) (32 : Int))))) then
   some []
  else
   gd (0 ≤ (wI6 (Int.tdiv (max n (0 : Int)) (32 : Int))) ∧ (wI6 (Int.tdiv (max n (0 : Int)) (32 : Int))).toNat ≤ x1.length ∧ x1.length ≤ x1.length) <|
   bif (decide (0 < ((x1.take x1.length).drop ((wI6 (Int.tdiv (max n (0 : Int)) (32 : Int))).toNat)).length)) then
    gd (((x1.take x1.length).drop ((wI6 (Int.tdiv (max n (0 : Int)) (32 : Int))).toNat)).length * 4 ≤ 140737488355328) <|
    bif (decide ((0 : Int) < (Int.tmod (max n (0 : Int)) (32 : Int)))) then
     qcP K (.c1 ((x1.take x1.length).drop ((wI6 (Int.tdiv (max n (0 : Int)) (32 : Int))).toNat)) (Int.tmod (max n (0 : Int)) (32 : Int)) (((((x1.take x1.length).drop ((wI6 (Int.tdiv (max n (0 : Int)) (32 : Int))).toNat)).map qaC).length : Nat) : Int) (0 : Int))
    else
     (qcD K ((x1.take x1.length).drop ((wI6 (Int.tdiv (max n (0 : Int)) (32 : Int))).toNat))).bind fun x8 =>
     some x8
   else
    bif (decide ((0 : Int) < (Int.tmod (max n (0 : Int)) (32 : Int)))) then
     qcP K (.c2 (Int.tmod (max n (0 : Int)) (32 : Int)) (0 : Int) (0 : Int))
    else
     (qcD K []).bind fun x8 =>
     some x8
 | K + 1, .c1 r25 shift t29 t30 =>
  bif (decide (t30 < t29)) then
   bif (decide ((wI6 (t30 + (1 : Int))) < ((r25.length : Nat) : Int))) then
    (gi r25 (wI6 (t30 + (1 : Int)))).bind fun x3 =>
    gd (0 ≤ (wI6 ((32 : Int) - shift))) <|
    (gi r25 t30).bind fun x6 =>
    gd (0 ≤ shift) <|
    (gi r25 t30).bind fun _ =>
    qcP K (.c3 (r25.set (t30.toNat) (bits .or .u32 (qd2 .u32 x6 shift) (qhT .u32 x3 (wI6 ((32 : Int) - shift))))) shift t29 t30)
   else
    (gi r25 t30).bind fun x3 =>
    gd (0 ≤ shift) <|
    (gi r25 t30).bind fun _ =>
    qcP K (.c3 (r25.set (t30.toNat) (bits .or .u32 (qd2 .u32 x3 shift) (0 : Int))) shift t29 t30)
  else
   (qcD K r25).bind fun x2 =>
   some x2
 | K + 1, .c2 _ t29 t30 =>
  bif (decide (t30 < t29)) then
   bif (decide ((wI6 (t30 + (1 : Int))) < (0 : Int))) then
    none
   else
    none
  else
   (qcD K []).bind fun x2 =>
   some x2
 | K + 1, .c3 r25 shift t29 t30 =>
  qcP K (.c1 r25 shift t29 (wI6 (t30 + (1 : Int))))
def qwY (K : Nat) (a : (List Int)) (n : Int) : Option (List Int) := qcP K (.c0 a n)
noncomputable def qg0 : Code := qbQ prog 189
noncomputable def zg9 : qrP → List Fr
 | .c0 .. => [.code qg0]
 | .c1 .. => [.code (.loop (atC qg0 [1,1,1,1,1,1,0,1,0,1,0,0])), .blk 0, .code (atC qg0 [1,1,1,1,1,1,1])]
 | .c2 .. => [.code (.loop (atC qg0 [1,1,1,1,1,1,0,1,0,1,0,0])), .blk 0, .code (atC qg0 [1,1,1,1,1,1,1])]
 | .c3 .. => [.code (atC qg0 [1,1,1,1,1,1,0,1,0,1,0,0,1,1,1]), .lp (atC qg0 [1,1,1,1,1,1,0,1,0,1,0,0]), .blk 0, .code (atC qg0 [1,1,1,1,1,1,1])]
def zkN : qrP → St
 | .c0 a n => St.init [(tl 1 a qaC), (ti .i64 n)]
 | .c1 r25 shift t29 t30 => ⟨[(6, vi .i64 shift), (7, .c (C.row 25 0 r25.length)), (29, vi .i64 t29), (30, vi .i64 t30)], [(25, .row 101 1 (r25.map qaC) 0)], []⟩
 | .c2 shift t29 t30 => ⟨[(6, vi .i64 shift), (7, .c (C.nil)), (29, vi .i64 t29), (30, vi .i64 t30)], [], []⟩
 | .c3 r25 shift t29 t30 => ⟨[(6, vi .i64 shift), (7, .c (C.row 25 0 r25.length)), (29, vi .i64 t29), (30, vi .i64 t30)], [(25, .row 101 1 (r25.map qaC) 0)], []⟩
def qrN (cx : Cx) (c : qrP) (r : (List Int)) : Prop := Wk prog cx (qc2 prog 189 [[1]] (tl 1 r qaC)) (zg9 c) .normal (zkN c)
abbrev qrO (K : Nat) : Prop := ∀ c r, qcP K c = some r → ∀ cx : Cx, cx.n = 60 → qrN cx c r
theorem zkS {K} (ih : qrO K) {cx} (hn : cx.n = 60) {a n} {r} (h : qcP (K + 1) (.c0 a n) = some r) : qrN cx (.c0 a n) r := by
 rw [qcP] at h
 obtain ⟨x1, h2, h⟩ := qaH h
 rcases qaQ h with ⟨h3, h⟩ | ⟨h3, h⟩
 ·have h := oinj h; subst h
  exact wkR [rg1, rgG [oo, opI (.call [[1]] [(tl 1 a qaC)] (tl 1 x1 qaC)), oo], rg3, rg6, rgG [oo, oo, opI (.ln (x1.length : Int)), oo], bTr, rg1] hn (aC (qaU h2) <| aC (qaX x1 qaC) <| aC h3 <| aN)
 ·obtain ⟨h4, h⟩ := qbI h
  rcases qaQ h with ⟨h6, h⟩ | ⟨h6, h⟩
  ·obtain ⟨h5, h⟩ := qbI h
   rcases qaQ h with ⟨h7, h⟩ | ⟨h7, h⟩
   ·exact wkG [rg1, rgG [oo, opI (.call [[1]] [(tl 1 a qaC)] (tl 1 x1 qaC)), oo], rg3, rg6, rgG [oo, oo, opI (.ln (x1.length : Int)), oo], bFa, rgG [oo, oo, opI (.slT ((wI6 (Int.tdiv (max n (0 : Int)) (32 : Int))).toNat) x1.length (((x1.take x1.length).drop ((wI6 (Int.tdiv (max n (0 : Int)) (32 : Int))).toNat)).map qaC)), opI (.appN (((x1.take x1.length).drop ((wI6 (Int.tdiv (max n (0 : Int)) (32 : Int))).toNat)).map qaC)), oo], rg2, bTr, rg3, .pre [.rl 7 0 ((x1.take x1.length).drop ((wI6 (Int.tdiv (max n (0 : Int)) (32 : Int))).toNat)).length, .keep [6,7,29,30] [25]]] hn (aC (qaU h2) <| aC (qaX x1 qaC) <| aC h3 <| aC (⟨h4.1, rfl⟩ : 0 ≤ (wI6 (Int.tdiv (max n (0 : Int)) (32 : Int))) ∧ (wI6 (Int.tdiv (max n (0 : Int)) (32 : Int))).toNat = (wI6 (Int.tdiv (max n (0 : Int)) (32 : Int))).toNat) <| aC (by simp : x1.length = (x1.map qaC).length) <| aC h4.2.1 <| aC (ze8 _ h4.2.2 : x1.length ≤ (x1.map qaC).length) <| aC (zqF _ _ _ _ : ((x1.map qaC).take x1.length).drop ((wI6 (Int.tdiv (max n (0 : Int)) (32 : Int))).toNat) = ((x1.take x1.length).drop ((wI6 (Int.tdiv (max n (0 : Int)) (32 : Int))).toNat)).map qaC) <| aC (rfl : ((x1.take x1.length).drop ((wI6 (Int.tdiv (max n (0 : Int)) (32 : Int))).toNat)).map qaC = ((x1.take x1.length).drop ((wI6 (Int.tdiv (max n (0 : Int)) (32 : Int))).toNat)).map qaC) <| aC ((qeF _ _).symm ▸ of_decide_eq_true h6 : 0 < (((x1.take x1.length).drop ((wI6 (Int.tdiv (max n (0 : Int)) (32 : Int))).toNat)).map qaC).length) <| aC ((qeF _ _).symm ▸ h5 : (((x1.take x1.length).drop ((wI6 (Int.tdiv (max n (0 : Int)) (32 : Int))).toNat)).map qaC).length * 4 ≤ 140737488355328) <| aC ((qeF _ _).symm ▸ room (by decide) h5 : (((x1.take x1.length).drop ((wI6 (Int.tdiv (max n (0 : Int)) (32 : Int))).toNat)).map qaC).length ≤ maxLen) <| aC h7 <| aC r0 <| aC (by simp : (((x1.take x1.length).drop ((wI6 (Int.tdiv (max n (0 : Int)) (32 : Int))).toNat)).map qaC).length = ((x1.take x1.length).drop ((wI6 (Int.tdiv (max n (0 : Int)) (32 : Int))).toNat)).length) <| aN) (ih _ _ h cx hn)
   ·obtain ⟨x8, h9, h⟩ := qaH h
    have h := oinj h; subst h
    exact wkR [rg1, rgG [oo, opI (.call [[1]] [(tl 1 a qaC)] (tl 1 x1 qaC)), oo], rg3, rg6, rgG [oo, oo, opI (.ln (x1.length : Int)), oo], bFa, rgG [oo, oo, opI (.slT ((wI6 (Int.tdiv (max n (0 : Int)) (32 : Int))).toNat) x1.length (((x1.take x1.length).drop ((wI6 (Int.tdiv (max n (0 : Int)) (32 : Int))).toNat)).map qaC)), opI (.appN (((x1.take x1.length).drop ((wI6 (Int.tdiv (max n (0 : Int)) (32 : Int))).toNat)).map qaC)), oo], rg2, bFa, rgG [oo, .snap 58 (max 0 (0 + (((x1.take x1.length).drop ((wI6 (Int.tdiv (max n (0 : Int)) (32 : Int))).toNat)).map qaC).length)) (((x1.take x1.length).drop ((wI6 (Int.tdiv (max n (0 : Int)) (32 : Int))).toNat)).map qaC), opI (.call [[1]] [(TV.c (T.sl 1 (((x1.take x1.length).drop ((wI6 (Int.tdiv (max n (0 : Int)) (32 : Int))).toNat)).map qaC)))] (tl 1 x8 qaC)), oo]] hn (aC (qaU h2) <| aC (qaX x1 qaC) <| aC h3 <| aC (⟨h4.1, rfl⟩ : 0 ≤ (wI6 (Int.tdiv (max n (0 : Int)) (32 : Int))) ∧ (wI6 (Int.tdiv (max n (0 : Int)) (32 : Int))).toNat = (wI6 (Int.tdiv (max n (0 : Int)) (32 : Int))).toNat) <| aC (by simp : x1.length = (x1.map qaC).length) <| aC h4.2.1 <| aC (ze8 _ h4.2.2 : x1.length ≤ (x1.map qaC).length) <| aC (zqF _ _ _ _ : ((x1.map qaC).take x1.length).drop ((wI6 (Int.tdiv (max n (0 : Int)) (32 : Int))).toNat) = ((x1.take x1.length).drop ((wI6 (Int.tdiv (max n (0 : Int)) (32 : Int))).toNat)).map qaC) <| aC (rfl : ((x1.take x1.length).drop ((wI6 (Int.tdiv (max n (0 : Int)) (32 : Int))).toNat)).map qaC = ((x1.take x1.length).drop ((wI6 (Int.tdiv (max n (0 : Int)) (32 : Int))).toNat)).map qaC) <| aC ((qeF _ _).symm ▸ of_decide_eq_true h6 : 0 < (((x1.take x1.length).drop ((wI6 (Int.tdiv (max n (0 : Int)) (32 : Int))).toNat)).map qaC).length) <| aC ((qeF _ _).symm ▸ h5 : (((x1.take x1.length).drop ((wI6 (Int.tdiv (max n (0 : Int)) (32 : Int))).toNat)).map qaC).length * 4 ≤ 140737488355328) <| aC ((qeF _ _).symm ▸ room (by decide) h5 : (((x1.take x1.length).drop ((wI6 (Int.tdiv (max n (0 : Int)) (32 : Int))).toNat)).map qaC).length ≤ maxLen) <| aC h7 <| aC (qbJ _ _ _ (by simp) : ((((x1.take x1.length).drop ((wI6 (Int.tdiv (max n (0 : Int)) (32 : Int))).toNat)).map qaC).drop 0).take ((((x1.take x1.length).drop ((wI6 (Int.tdiv (max n (0 : Int)) (32 : Int))).toNat)).map qaC).length) = ((x1.take x1.length).drop ((wI6 (Int.tdiv (max n (0 : Int)) (32 : Int))).toNat)).map qaC) <| aC (rfl : (max 0 (0 + (((x1.take x1.length).drop ((wI6 (Int.tdiv (max n (0 : Int)) (32 : Int))).toNat)).map qaC).length)) = (max 0 (0 + (((x1.take x1.length).drop ((wI6 (Int.tdiv (max n (0 : Int)) (32 : Int))).toNat)).map qaC).length))) <| aC (qaU h9) <| aN)
  ·rcases qaQ h with ⟨h7, h⟩ | ⟨h7, h⟩
   ·exact wkG [rg1, rgG [oo, opI (.call [[1]] [(tl 1 a qaC)] (tl 1 x1 qaC)), oo], rg3, rg6, rgG [oo, oo, opI (.ln (x1.length : Int)), oo], bFa, rgG [oo, oo, opI (.slT ((wI6 (Int.tdiv (max n (0 : Int)) (32 : Int))).toNat) x1.length (((x1.take x1.length).drop ((wI6 (Int.tdiv (max n (0 : Int)) (32 : Int))).toNat)).map qaC)), .op .app0, oo], rg2, bTr, rg3, .pre [.keep [6,7,29,30] []]] hn (aC (qaU h2) <| aC (qaX x1 qaC) <| aC h3 <| aC (⟨h4.1, rfl⟩ : 0 ≤ (wI6 (Int.tdiv (max n (0 : Int)) (32 : Int))) ∧ (wI6 (Int.tdiv (max n (0 : Int)) (32 : Int))).toNat = (wI6 (Int.tdiv (max n (0 : Int)) (32 : Int))).toNat) <| aC (by simp : x1.length = (x1.map qaC).length) <| aC h4.2.1 <| aC (ze8 _ h4.2.2 : x1.length ≤ (x1.map qaC).length) <| aC (zqF _ _ _ _ : ((x1.map qaC).take x1.length).drop ((wI6 (Int.tdiv (max n (0 : Int)) (32 : Int))).toNat) = ((x1.take x1.length).drop ((wI6 (Int.tdiv (max n (0 : Int)) (32 : Int))).toNat)).map qaC) <| aC (by rw [show ((x1.take x1.length).drop ((wI6 (Int.tdiv (max n (0 : Int)) (32 : Int))).toNat)) = [] from List.eq_nil_of_length_eq_zero (by have := of_decide_eq_false h6; omega)]; simp : ((x1.take x1.length).drop ((wI6 (Int.tdiv (max n (0 : Int)) (32 : Int))).toNat)).map qaC = []) <| aC h7 <| aN) (ih _ _ h cx hn)
   ·obtain ⟨x8, h9, h⟩ := qaH h
    have h := oinj h; subst h
    exact wkR [rg1, rgG [oo, opI (.call [[1]] [(tl 1 a qaC)] (tl 1 x1 qaC)), oo], rg3, rg6, rgG [oo, oo, opI (.ln (x1.length : Int)), oo], bFa, rgG [oo, oo, opI (.slT ((wI6 (Int.tdiv (max n (0 : Int)) (32 : Int))).toNat) x1.length (((x1.take x1.length).drop ((wI6 (Int.tdiv (max n (0 : Int)) (32 : Int))).toNat)).map qaC)), .op .app0, oo], rg2, bFa, rgG [oo, opI (.call [[1]] [(TV.c (T.sl 1 ([].map qaC)))] (tl 1 x8 qaC)), oo]] hn (aC (qaU h2) <| aC (qaX x1 qaC) <| aC h3 <| aC (⟨h4.1, rfl⟩ : 0 ≤ (wI6 (Int.tdiv (max n (0 : Int)) (32 : Int))) ∧ (wI6 (Int.tdiv (max n (0 : Int)) (32 : Int))).toNat = (wI6 (Int.tdiv (max n (0 : Int)) (32 : Int))).toNat) <| aC (by simp : x1.length = (x1.map qaC).length) <| aC h4.2.1 <| aC (ze8 _ h4.2.2 : x1.length ≤ (x1.map qaC).length) <| aC (zqF _ _ _ _ : ((x1.map qaC).take x1.length).drop ((wI6 (Int.tdiv (max n (0 : Int)) (32 : Int))).toNat) = ((x1.take x1.length).drop ((wI6 (Int.tdiv (max n (0 : Int)) (32 : Int))).toNat)).map qaC) <| aC (by rw [show ((x1.take x1.length).drop ((wI6 (Int.tdiv (max n (0 : Int)) (32 : Int))).toNat)) = [] from List.eq_nil_of_length_eq_zero (by have := of_decide_eq_false h6; omega)]; simp : ((x1.take x1.length).drop ((wI6 (Int.tdiv (max n (0 : Int)) (32 : Int))).toNat)).map qaC = []) <| aC h7 <| aC (qaU h9) <| aN)
theorem zkR {K} (ih : qrO K) {cx} (hn : cx.n = 60) {r25 shift t29 t30} {r} (h : qcP (K + 1) (.c1 r25 shift t29 t30) = some r) : qrN cx (.c1 r25 shift t29 t30) r := by
 rw [qcP] at h
 rcases qaQ h with ⟨h1, h⟩ | ⟨h1, h⟩
 ·rcases qaQ h with ⟨h2, h⟩ | ⟨h2, h⟩
  ·obtain ⟨x3, h4, h⟩ := qaH h
   obtain ⟨h5, h⟩ := qbI h
   obtain ⟨x6, h7, h⟩ := qaH h
   obtain ⟨h8, h⟩ := qbI h
   obtain ⟨x9, h10, h⟩ := qaH h
   exact wkG [.go, rg1, bTr, rg2, rg1, rg5, bTr, rgG [oo, oo, oo, .op .ir, opI (.ld (qaC x3)), oo, oo, .op .dv, oo], rgG [oo, oo, oo, oo, .op .ir, opI (.ld (qaC x6)), oo, .op .dv, oo, oo, .op .ir, opI (.st (qaC x9) ((r25.set (t30.toNat) (bits .or .u32 (qd2 .u32 x6 shift) (qhT .u32 x3 (wI6 ((32 : Int) - shift))))).map qaC))], .pre [.rl 7 0 (r25.set (t30.toNat) (bits .or .u32 (qd2 .u32 x6 shift) (qhT .u32 x3 (wI6 ((32 : Int) - shift))))).length, .keep [6,7,29,30] [25]]] hn (aC h1 <| aC h2 <| aC (qa1 h4) <| aC (qcB h4 (by simp) : (wI6 (t30 + (1 : Int))) < ((r25.length : Nat) : Int)) <| aC (qcA qaC h4 : (r25.map qaC)[(0 + (wI6 (t30 + (1 : Int))).toNat)]? = some (qaC x3)) <| aC h5 <| aC (qa1 h7) <| aC (qcB h7 (by simp) : t30 < ((r25.length : Nat) : Int)) <| aC (qcA qaC h7 : (r25.map qaC)[(0 + t30.toNat)]? = some (qaC x6)) <| aC h8 <| aC (qa1 h10) <| aC (qcB h10 (by simp) : t30 < ((r25.length : Nat) : Int)) <| aC (qcA qaC h10 : (r25.map qaC)[(0 + t30.toNat)]? = some (qaC x9)) <| aC (qc4 _ _ (bits .or .u32 (qd2 .u32 x6 shift) (qhT .u32 x3 (wI6 ((32 : Int) - shift)))) _ : (r25.map qaC).set (0 + t30.toNat) (qbW (qaC x9) 0 [(T.int .u32 (bits .or .u32 (qd2 .u32 x6 shift) (qhT .u32 x3 (wI6 ((32 : Int) - shift)))))]) = (r25.set (t30.toNat) (bits .or .u32 (qd2 .u32 x6 shift) (qhT .u32 x3 (wI6 ((32 : Int) - shift))))).map qaC) <| aC (Nat.zero_le _ : 0 ≤ (0 + t30.toNat)) <| aC r0 <| aC (by simp : r25.length = (r25.set (t30.toNat) (bits .or .u32 (qd2 .u32 x6 shift) (qhT .u32 x3 (wI6 ((32 : Int) - shift))))).length) <| aN) (ih _ _ h cx hn)
  ·obtain ⟨x3, h4, h⟩ := qaH h
   obtain ⟨h5, h⟩ := qbI h
   obtain ⟨x6, h7, h⟩ := qaH h
   exact wkG [.go, rg1, bTr, rg2, rg1, rg5, bFa, rgG [oo, oo, oo, oo, .op .ir, opI (.ld (qaC x3)), oo, .op .dv, oo, oo, .op .ir, opI (.st (qaC x6) ((r25.set (t30.toNat) (bits .or .u32 (qd2 .u32 x3 shift) (0 : Int))).map qaC))], .pre [.rl 7 0 (r25.set (t30.toNat) (bits .or .u32 (qd2 .u32 x3 shift) (0 : Int))).length, .keep [6,7,29,30] [25]]] hn (aC h1 <| aC h2 <| aC (qa1 h4) <| aC (qcB h4 (by simp) : t30 < ((r25.length : Nat) : Int)) <| aC (qcA qaC h4 : (r25.map qaC)[(0 + t30.toNat)]? = some (qaC x3)) <| aC h5 <| aC (qa1 h7) <| aC (qcB h7 (by simp) : t30 < ((r25.length : Nat) : Int)) <| aC (qcA qaC h7 : (r25.map qaC)[(0 + t30.toNat)]? = some (qaC x6)) <| aC (qc4 _ _ (bits .or .u32 (qd2 .u32 x3 shift) (0 : Int)) _ : (r25.map qaC).set (0 + t30.toNat) (qbW (qaC x6) 0 [(T.int .u32 (bits .or .u32 (qd2 .u32 x3 shift) (0 : Int)))]) = (r25.set (t30.toNat) (bits .or .u32 (qd2 .u32 x3 shift) (0 : Int))).map qaC) <| aC (Nat.zero_le _ : 0 ≤ (0 + t30.toNat)) <| aC r0 <| aC (by simp : r25.length = (r25.set (t30.toNat) (bits .or .u32 (qd2 .u32 x3 shift) (0 : Int))).length) <| aN) (ih _ _ h cx hn)
 ·obtain ⟨x2, h3, h⟩ := qaH h
  have h := oinj h; subst h
  exact wkR [.go, rg1, bFa, rgG [oo, .snap 58 (max 0 (0 + r25.length)) (r25.map qaC), opI (.call [[1]] [(tl 1 r25 qaC)] (tl 1 x2 qaC)), oo]] hn (aC h1 <| aC (qbJ _ _ _ (by simp) : ((r25.map qaC).drop 0).take r25.length = r25.map qaC) <| aC (rfl : (max 0 (0 + r25.length)) = (max 0 (0 + r25.length))) <| aC (qaU h3) <| aN)
theorem zkQ {K} (_ : qrO K) {cx} (hn : cx.n = 60) {shift t29 t30} {r} (h : qcP (K + 1) (.c2 shift t29 t30) = some r) : qrN cx (.c2 shift t29 t30) r := by
 rw [qcP] at h
 rcases qaQ h with ⟨h1, h⟩ | ⟨h1, h⟩
 ·rcases qaQ h with ⟨h2, h⟩ | ⟨h2, h⟩
  ·cases h
  ·cases h
 ·obtain ⟨x2, h3, h⟩ := qaH h
  have h := oinj h; subst h
  exact wkR [.go, rg1, bFa, rgG [oo, opI (.call [[1]] [(TV.c (T.sl 1 ([].map qaC)))] (tl 1 x2 qaC)), oo]] hn (aC h1 <| aC (qaU h3) <| aN)
theorem zkP {K} (ih : qrO K) {cx} (hn : cx.n = 60) {r25 shift t29 t30} {r} (h : qcP (K + 1) (.c3 r25 shift t29 t30) = some r) : qrN cx (.c3 r25 shift t29 t30) r := by
 rw [qcP] at h
 exact wkG [rg2, .pre [.rl 7 0 r25.length, .keep [6,7,29,30] [25]]] hn (aC r0 <| aC (lq r25) <| aN) (ih _ _ h cx hn)
theorem qnY : ∀ K : Nat, qrO K
 | 0, c, r, h => by rw [qcP] at h; cases h
 | K + 1, .c0 .., r, h => fun cx hn => zkS (qnY K) hn h
 | K + 1, .c1 .., r, h => fun cx hn => zkR (qnY K) hn h
 | K + 1, .c2 .., r, h => fun cx hn => zkQ (qnY K) hn h
 | K + 1, .c3 .., r, h => fun cx hn => zkP (qnY K) hn h
theorem qzG {K : Nat} {a : (List Int)} {n : Int} {r : (List Int)} (h : qwY K a n = some r) : qc5 prog 189 [(tl 1 a qaC), (ti .i64 n)] (tl 1 r qaC) :=
 qa0 [[1]] (by kernel_rfl) (by simp) fun cx hn => qnY K (.c0 a n) r h cx hn
open Go.Proofs.Try (prog)
inductive qo1 where
 | c0 (a : (List Int)) (b : (List Int))
 | c1 (r66 : (List Int)) (r71 : (List Int)) (n : Int) (shift : Int) (v : (List Int)) (top : Int) (next : Int) (j : Int)
 | c2 (r64 : (List Int)) (r71 : (List Int)) (n : Int) (shift : Int) (v : (List Int)) (top : Int) (next : Int) (j : Int)
 | c3 (r66 : (List Int)) (r71 : (List Int)) (n : Int) (shift : Int) (v : (List Int)) (top : Int) (next : Int) (j : Int) (guess : Int) (rest : Int)
 | c4 (r64 : (List Int)) (r71 : (List Int)) (n : Int) (shift : Int) (v : (List Int)) (top : Int) (next : Int) (j : Int) (guess : Int) (rest : Int)
 | c5 (r66 : (List Int)) (r71 : (List Int)) (n : Int) (shift : Int) (v : (List Int)) (top : Int) (next : Int) (j : Int) (guess : Int)
 | c6 (r64 : (List Int)) (r71 : (List Int)) (n : Int) (shift : Int) (v : (List Int)) (top : Int) (next : Int) (j : Int) (guess : Int)
 | c7 (r66 : (List Int)) (r71 : (List Int)) (n : Int) (shift : Int) (v : (List Int)) (top : Int) (next : Int) (j : Int) (guess : Int) (carry : Int) (borrow : Int) (t141 : (List Int)) (t142 : Int) (t143 : Int)
 | c8 (r64 : (List Int)) (r71 : (List Int)) (n : Int) (shift : Int) (v : (List Int)) (top : Int) (next : Int) (j : Int) (guess : Int) (carry : Int) (borrow : Int) (t141 : (List Int)) (t142 : Int) (t143 : Int)
 | c9 (r66 : (List Int)) (r71 : (List Int)) (n : Int) (shift : Int) (v : (List Int)) (top : Int) (next : Int) (j : Int)
 | c10 (r66 : (List Int)) (r71 : (List Int)) (n : Int) (shift : Int) (v : (List Int)) (top : Int) (next : Int) (j : Int) (sum : Int) (t210 : (List Int)) (t211 : Int) (t212 : Int)
 | c11 (r64 : (List Int)) (r71 : (List Int)) (n : Int) (shift : Int) (v : (List Int)) (top : Int) (next : Int) (j : Int)
 | c12 (r64 : (List Int)) (r71 : (List Int)) (n : Int) (shift : Int) (v : (List Int)) (top : Int) (next : Int) (j : Int) (sum : Int) (t210 : (List Int)) (t211 : Int) (t212 : Int)
def qaO : Nat → qo1 → Option ((List Int) × (List Int))
 | 0, _ => none
 | K + 1, .c0 a b =>
  (qiT K b).bind fun x1 =>
  (qn1 K a x1).bind fun x3 =>
  bif (decide (x3 < (0 : Int))) then
   (qiT K a).bind fun x6 =>
   some ([], x6)
  else
   bif (decide ((x1.length : Int) = (1 : Int))) then
    (gi x1 (0 : Int)).bind fun x7 =>
    (qmA K a x7).bind fun x9 =>
    (qwL K (wU6 x9.2.1)).bind fun x11 =>
    some (x9.1, x11)
   else
    (gi x1 (wI6 ((x1.length : Int) - (1 : Int)))).bind fun x7 =>
    (qh7 K x7).bind fun x9 =>
    (qtK K x1 x9).bind fun x11 =>
    (quG K a x9).bind fun x13 => match x13 with
    | none =>
     gd (0 ≤ (wI6 ((((([(0 : Int)] : List Int).map qaC).length : Nat) : Int) - (x1.length : Int))) ∧ (wI6 ((((([(0 : Int)] : List Int).map qaC).length : Nat) : Int) - (x1.length : Int))) ≤ (wI6 ((((([(0 : Int)] : List Int).map qaC).length : Nat) : Int) - (x1.length : Int))) ∧ (4 : Int) * (wI6 ((((([(0 : Int)] : List Int).map qaC).length : Nat) : Int) - (x1.length : Int))) ≤ 140737488355328) <|
     (gi x11 (wI6 ((x1.length : Int) - (1 : Int)))).bind fun x17 =>
     (gi x11 (wI6 ((x1.length : Int) - (2 : Int)))).bind fun x19 =>
     qaO K (.c1 ([(0 : Int)] : List Int) (List.replicate (wI6 ((((([(0 : Int)] : List Int).map qaC).length : Nat) : Int) - (x1.length : Int))).toNat ((0 : Int) : Int)) (x1.length : Int) x9 x11 (wU6 x17) (wU6 x19) (wI6 ((wI6 ((((([(0 : Int)] : List Int).map qaC).length : Nat) : Int) - (x1.length : Int))) - (1 : Int))))
    | some l15 =>
     gd ((l15 ++ ([(0 : Int)] : List Int)).length * 4 ≤ 140737488355328) <|
     gd (0 ≤ (wI6 (((((l15 ++ ([(0 : Int)] : List Int)).map qaC).length : Nat) : Int) - (x1.length : Int))) ∧ (wI6 (((((l15 ++ ([(0 : Int)] : List Int)).map qaC).length : Nat) : Int) - (x1.length : Int))) ≤ (wI6 (((((l15 ++ ([(0 : Int)] : List Int)).map qaC).length : Nat) : Int) - (x1.length : Int))) ∧ (4 : Int) * (wI6 (((((l15 ++ ([(0 : Int)] : List Int)).map qaC).length : Nat) : Int) - (x1.length : Int))) ≤ 140737488355328) <|
     (gi x11 (wI6 ((x1.length : Int) - (1 : Int)))).bind fun x18 =>
     (gi x11 (wI6 ((x1.length : Int) - (2 : Int)))).bind fun x20 =>
     qaO K (.c2 (l15 ++ ([(0 : Int)] : List Int)) (List.replicate (wI6 (((((l15 ++ ([(0 : Int)] : List Int)).map qaC).length : Nat) : Int) - (x1.length : Int))).toNat ((0 : Int) : Int)) (x1.length : Int) x9 x11 (wU6 x18) (wU6 x20) (wI6 ((wI6 (((((l15 ++ ([(0 : Int)] : List Int)).map qaC).length : Nat) : Int) - (x1.length : Int))) - (1 : Int))))
 | K + 1, .c1 r66 r71 n shift v top next j =>
  bif (decide ((0 : Int) ≤ j)) then
   (gi r66 (wI6 (j + n))).bind fun x2 =>
   (gi r66 (wI6 ((wI6 (j + n)) - (1 : Int)))).bind fun x4 =>
   (qn5 K (0 : Int) (bits .or .u64 (qhT .u64 (wU6 x2) (32 : Int)) (wU6 x4)) top).bind fun x6 =>
   qaO K (.c3 r66 r71 n shift v top next j x6.1 x6.2)
  else
   (qiT K r71).bind fun x2 =>
   gd (0 ≤ n ∧ 0 ≤ n.toNat ∧ n.toNat ≤ r66.length) <|
   (qwY K (r66.take n.toNat) shift).bind fun x5 =>
   some (x2, x5)
 | K + 1, .c2 r64 r71 n shift v top next j =>
  bif (decide ((0 : Int) ≤ j)) then
   (gi r64 (wI6 (j + n))).bind fun x2 =>
   (gi r64 (wI6 ((wI6 (j + n)) - (1 : Int)))).bind fun x4 =>
   (qn5 K (0 : Int) (bits .or .u64 (qhT .u64 (wU6 x2) (32 : Int)) (wU6 x4)) top).bind fun x6 =>
   qaO K (.c4 r64 r71 n shift v top next j x6.1 x6.2)
  else
   (qiT K r71).bind fun x2 =>
   gd (0 ≤ n ∧ 0 ≤ n.toNat ∧ n.toNat ≤ r64.length) <|
   (qwY K (r64.take n.toNat) shift).bind fun x5 =>
   some (x2, x5)
 | K + 1, .c3 r66 r71 n shift v top next j guess rest =>
  bif (decide ((4294967296 : Int) ≤ guess)) then
   bif (decide ((4294967296 : Int) ≤ (wU6 (rest + top)))) then
    qaO K (.c5 r66 r71 n shift v top next j (wU6 (guess - (1 : Int))))
   else
    qaO K (.c3 r66 r71 n shift v top next j (wU6 (guess - (1 : Int))) (wU6 (rest + top)))
  else
   (gi r66 (wI6 ((wI6 (j + n)) - (2 : Int)))).bind fun x2 =>
   bif (decide ((bits .or .u64 (qhT .u64 rest (32 : Int)) (wU6 x2)) < (wU6 (guess * next)))) then
    bif (decide ((4294967296 : Int) ≤ (wU6 (rest + top)))) then
     qaO K (.c5 r66 r71 n shift v top next j (wU6 (guess - (1 : Int))))
    else
     qaO K (.c3 r66 r71 n shift v top next j (wU6 (guess - (1 : Int))) (wU6 (rest + top)))
   else
    qaO K (.c5 r66 r71 n shift v top next j guess)
 | K + 1, .c4 r64 r71 n shift v top next j guess rest =>
  bif (decide ((4294967296 : Int) ≤ guess)) then
   bif (decide ((4294967296 : Int) ≤ (wU6 (rest + top)))) then
    qaO K (.c6 r64 r71 n shift v top next j (wU6 (guess - (1 : Int))))
   else
    qaO K (.c4 r64 r71 n shift v top next j (wU6 (guess - (1 : Int))) (wU6 (rest + top)))
  else
   (gi r64 (wI6 ((wI6 (j + n)) - (2 : Int)))).bind fun x2 =>
   bif (decide ((bits .or .u64 (qhT .u64 rest (32 : Int)) (wU6 x2)) < (wU6 (guess * next)))) then
    bif (decide ((4294967296 : Int) ≤ (wU6 (rest + top)))) then
     qaO K (.c6 r64 r71 n shift v top next j (wU6 (guess - (1 : Int))))
    else
     qaO K (.c4 r64 r71 n shift v top next j (wU6 (guess - (1 : Int))) (wU6 (rest + top)))
   else
    qaO K (.c6 r64 r71 n shift v top next j guess)
 | K + 1, .c5 r66 r71 n shift v top next j guess =>
  qaO K (.c7 r66 r71 n shift v top next j guess (0 : Int) (0 : Int) v (v.length : Int) (0 : Int))
 | K + 1, .c6 r64 r71 n shift v top next j guess =>
  qaO K (.c8 r64 r71 n shift v top next j guess (0 : Int) (0 : Int) v (v.length : Int) (0 : Int))
 | K + 1, .c7 r66 r71 n shift v top next j guess carry borrow t141 t142 t143 =>
  bif (decide (t143 < t142)) then
   (gi t141 t143).bind fun x2 =>
   (gi r66 (wI6 (t143 + j))).bind fun x4 =>
   (gi r66 (wI6 (t143 + j))).bind fun _ =>
   qaO K (.c7 (r66.set ((wI6 (t143 + j)).toNat) (wU3 (wU6 ((wU6 ((wU6 x4) - borrow)) - (bits .and .u64 (wU6 ((wU6 (guess * (wU6 x2))) + carry)) (4294967295 : Int)))))) r71 n shift v top next j guess (qd2 .u64 (wU6 ((wU6 (guess * (wU6 x2))) + carry)) (32 : Int)) (qd2 .u64 (wU6 ((wU6 ((wU6 x4) - borrow)) - (bits .and .u64 (wU6 ((wU6 (guess * (wU6 x2))) + carry)) (4294967295 : Int)))) (63 : Int)) t141 t142 (wI6 (t143 + (1 : Int))))
  else
   (gi r66 (wI6 (j + n))).bind fun x2 =>
   (gi r66 (wI6 (j + n))).bind fun _ =>
   (gi r71 j).bind fun _ =>
   bif (decide ((qd2 .u64 (wU6 ((wU6 ((wU6 x2) - borrow)) - carry)) (63 : Int)) = (0 : Int))) then
    qaO K (.c9 (r66.set ((wI6 (j + n)).toNat) (wU3 (wU6 ((wU6 ((wU6 x2) - borrow)) - carry)))) (r71.set (j.toNat) (wU3 guess)) n shift v top next j)
   else
    (gi (r71.set (j.toNat) (wU3 guess)) j).bind fun x9 =>
    (gi (r71.set (j.toNat) (wU3 guess)) j).bind fun _ =>
    qaO K (.c10 (r66.set ((wI6 (j + n)).toNat) (wU3 (wU6 ((wU6 ((wU6 x2) - borrow)) - carry)))) ((r71.set (j.toNat) (wU3 guess)).set (j.toNat) (wU3 (x9 - (1 : Int)))) n shift v top next j (0 : Int) v (v.length : Int) (0 : Int))
 | K + 1, .c8 r64 r71 n shift v top next j guess carry borrow t141 t142 t143 =>
  bif (decide (t143 < t142)) then
   (gi t141 t143).bind fun x2 =>
   (gi r64 (wI6 (t143 + j))).bind fun x4 =>
   (gi r64 (wI6 (t143 + j))).bind fun _ =>
   qaO K (.c8 (r64.set ((wI6 (t143 + j)).toNat) (wU3 (wU6 ((wU6 ((wU6 x4) - borrow)) - (bits .and .u64 (wU6 ((wU6 (guess * (wU6 x2))) + carry)) (4294967295 : Int)))))) r71 n shift v top next j guess (qd2 .u64 (wU6 ((wU6 (guess * (wU6 x2))) + carry)) (32 : Int)) (qd2 .u64 (wU6 ((wU6 ((wU6 x4) - borrow)) - (bits .and .u64 (wU6 ((wU6 (guess * (wU6 x2))) + carry)) (4294967295 : Int)))) (63 : Int)) t141 t142 (wI6 (t143 + (1 : Int))))
  else
   (gi r64 (wI6 (j + n))).bind fun x2 =>
   (gi r64 (wI6 (j + n))).bind fun _ =>
   (gi r71 j).bind fun _ =>
   bif (decide ((qd2 .u64 (wU6 ((wU6 ((wU6 x2) - borrow)) - carry)) (63 : Int)) = (0 : Int))) then
    qaO K (.c11 (r64.set ((wI6 (j + n)).toNat) (wU3 (wU6 ((wU6 ((wU6 x2) - borrow)) - carry)))) (r71.set (j.toNat) (wU3 guess)) n shift v top next j)
   else
    (gi (r71.set (j.toNat) (wU3 guess)) j).bind fun x9 =>
    (gi (r71.set (j.toNat) (wU3 guess)) j).bind fun _ =>
    qaO K (.c12 (r64.set ((wI6 (j + n)).toNat) (wU3 (wU6 ((wU6 ((wU6 x2) - borrow)) - carry)))) ((r71.set (j.toNat) (wU3 guess)).set (j.toNat) (wU3 (x9 - (1 : Int)))) n shift v top next j (0 : Int) v (v.length : Int) (0 : Int))
 | K + 1, .c9 r66 r71 n shift v top next j =>
  qaO K (.c1 r66 r71 n shift v top next (wI6 (j - (1 : Int))))
 | K + 1, .c10 r66 r71 n shift v top next j sum t210 t211 t212 =>
  bif (decide (t212 < t211)) then
   (gi t210 t212).bind fun x2 =>
   (gi r66 (wI6 (t212 + j))).bind fun x4 =>
   (qhY K x4 x2 sum).bind fun x6 =>
   (gi r66 (wI6 (t212 + j))).bind fun _ =>
   qaO K (.c10 (r66.set ((wI6 (t212 + j)).toNat) x6.1) r71 n shift v top next j x6.2 t210 t211 (wI6 (t212 + (1 : Int))))
  else
   (gi r66 (wI6 (j + n))).bind fun x2 =>
   (gi r66 (wI6 (j + n))).bind fun _ =>
   qaO K (.c9 (r66.set ((wI6 (j + n)).toNat) (wU3 (x2 + sum))) r71 n shift v top next j)
 | K + 1, .c11 r64 r71 n shift v top next j =>
  qaO K (.c2 r64 r71 n shift v top next (wI6 (j - (1 : Int))))
 | K + 1, .c12 r64 r71 n shift v top next j sum t210 t211 t212 =>
  bif (decide (t212 < t211)) then
   (gi t210 t212).bind fun x2 =>
   (gi r64 (wI6 (t212 + j))).bind fun x4 =>
   (qhY K x4 x2 sum).bind fun x6 =>
   (gi r64 (wI6 (t212 + j))).bind fun _ =>
   qaO K (.c12 (r64.set ((wI6 (t212 + j)).toNat) x6.1) r71 n shift v top next j x6.2 t210 t211 (wI6 (t212 + (1 : Int))))
  else
   (gi r64 (wI6 (j + n))).bind fun x2 =>
   (gi r64 (wI6 (j + n))).bind fun _ =>
   qaO K (.c11 (r64.set ((wI6 (j + n)).toNat) (wU3 (x2 + sum))) r71 n shift v top next j)
def qwH (K : Nat) (a : (List Int)) (b : (List Int)) : Option ((List Int) × (List Int)) := qaO K (.c0 a b)
noncomputable def qaS : Code := qbQ prog 177
noncomputable def zdM : qo1 → List Fr
 | .c0 .. => [.code qaS]
 | .c1 .. => [.code (.loop (atC qaS [1,0,1,1,1,1,1,1,1,1,1,1,0,1,0,0])), .blk 0, .code (atC qaS [1,0,1,1,1,1,1,1,1,1,1,1,1]), .sc]
 | .c2 .. => [.code (.loop (atC qaS [1,0,1,1,1,1,1,1,1,1,1,1,0,1,0,0])), .blk 0, .code (atC qaS [1,0,1,1,1,1,1,1,1,1,1,1,1]), .sc]
 | .c3 .. => [.code (.loop (atC qaS [1,0,1,1,1,1,1,1,1,1,1,1,0,1,0,0,1,0,0,1,0,0,0])), .blk 2, .code (atC qaS [1,0,1,1,1,1,1,1,1,1,1,1,0,1,0,0,1,0,0,1,1]), .blk 1, .code (atC qaS [1,0,1,1,1,1,1,1,1,1,1,1,0,1,0,0,1,1]), .lp (atC qaS [1,0,1,1,1,1,1,1,1,1,1,1,0,1,0,0]), .blk 0, .code (atC qaS [1,0,1,1,1,1,1,1,1,1,1,1,1]), .sc]
 | .c4 .. => [.code (.loop (atC qaS [1,0,1,1,1,1,1,1,1,1,1,1,0,1,0,0,1,0,0,1,0,0,0])), .blk 2, .code (atC qaS [1,0,1,1,1,1,1,1,1,1,1,1,0,1,0,0,1,0,0,1,1]), .blk 1, .code (atC qaS [1,0,1,1,1,1,1,1,1,1,1,1,0,1,0,0,1,1]), .lp (atC qaS [1,0,1,1,1,1,1,1,1,1,1,1,0,1,0,0]), .blk 0, .code (atC qaS [1,0,1,1,1,1,1,1,1,1,1,1,1]), .sc]
 | .c5 .. => [.code (atC qaS [1,0,1,1,1,1,1,1,1,1,1,1,0,1,0,0,1,0,0,1,1,0]), .code (atC qaS [1,0,1,1,1,1,1,1,1,1,1,1,0,1,0,0,1,0,0,1,1,1]), .blk 1, .code (atC qaS [1,0,1,1,1,1,1,1,1,1,1,1,0,1,0,0,1,1]), .lp (atC qaS [1,0,1,1,1,1,1,1,1,1,1,1,0,1,0,0]), .blk 0, .code (atC qaS [1,0,1,1,1,1,1,1,1,1,1,1,1]), .sc]
 | .c6 .. => [.code (atC qaS [1,0,1,1,1,1,1,1,1,1,1,1,0,1,0,0,1,0,0,1,1,0]), .code (atC qaS [1,0,1,1,1,1,1,1,1,1,1,1,0,1,0,0,1,0,0,1,1,1]), .blk 1, .code (atC qaS [1,0,1,1,1,1,1,1,1,1,1,1,0,1,0,0,1,1]), .lp (atC qaS [1,0,1,1,1,1,1,1,1,1,1,1,0,1,0,0]), .blk 0, .code (atC qaS [1,0,1,1,1,1,1,1,1,1,1,1,1]), .sc]
 | .c7 .. => [.code (.loop (atC qaS [1,0,1,1,1,1,1,1,1,1,1,1,0,1,0,0,1,0,0,1,1,1,0,1,0,0])), .blk 4, .code (atC qaS [1,0,1,1,1,1,1,1,1,1,1,1,0,1,0,0,1,0,0,1,1,1,1]), .blk 1, .code (atC qaS [1,0,1,1,1,1,1,1,1,1,1,1,0,1,0,0,1,1]), .lp (atC qaS [1,0,1,1,1,1,1,1,1,1,1,1,0,1,0,0]), .blk 0, .code (atC qaS [1,0,1,1,1,1,1,1,1,1,1,1,1]), .sc]
 | .c8 .. => [.code (.loop (atC qaS [1,0,1,1,1,1,1,1,1,1,1,1,0,1,0,0,1,0,0,1,1,1,0,1,0,0])), .blk 4, .code (atC qaS [1,0,1,1,1,1,1,1,1,1,1,1,0,1,0,0,1,0,0,1,1,1,1]), .blk 1, .code (atC qaS [1,0,1,1,1,1,1,1,1,1,1,1,0,1,0,0,1,1]), .lp (atC qaS [1,0,1,1,1,1,1,1,1,1,1,1,0,1,0,0]), .blk 0, .code (atC qaS [1,0,1,1,1,1,1,1,1,1,1,1,1]), .sc]
 | .c9 .. => [.code (atC qaS [1,0,1,1,1,1,1,1,1,1,1,1,0,1,0,0,1,1]), .lp (atC qaS [1,0,1,1,1,1,1,1,1,1,1,1,0,1,0,0]), .blk 0, .code (atC qaS [1,0,1,1,1,1,1,1,1,1,1,1,1]), .sc]
 | .c10 .. => [.code (.loop (atC qaS [1,0,1,1,1,1,1,1,1,1,1,1,0,1,0,0,1,0,0,1,1,1,1,1,1,1,1,1,1,0,1,0,0])), .blk 6, .code (atC qaS [1,0,1,1,1,1,1,1,1,1,1,1,0,1,0,0,1,0,0,1,1,1,1,1,1,1,1,1,1,1]), .blk 1, .code (atC qaS [1,0,1,1,1,1,1,1,1,1,1,1,0,1,0,0,1,1]), .lp (atC qaS [1,0,1,1,1,1,1,1,1,1,1,1,0,1,0,0]), .blk 0, .code (atC qaS [1,0,1,1,1,1,1,1,1,1,1,1,1]), .sc]
 | .c11 .. => [.code (atC qaS [1,0,1,1,1,1,1,1,1,1,1,1,0,1,0,0,1,1]), .lp (atC qaS [1,0,1,1,1,1,1,1,1,1,1,1,0,1,0,0]), .blk 0, .code (atC qaS [1,0,1,1,1,1,1,1,1,1,1,1,1]), .sc]
 | .c12 .. => [.code (.loop (atC qaS [1,0,1,1,1,1,1,1,1,1,1,1,0,1,0,0,1,0,0,1,1,1,1,1,1,1,1,1,1,0,1,0,0])), .blk 6, .code (atC qaS [1,0,1,1,1,1,1,1,1,1,1,1,0,1,0,0,1,0,0,1,1,1,1,1,1,1,1,1,1,1]), .blk 1, .code (atC qaS [1,0,1,1,1,1,1,1,1,1,1,1,0,1,0,0,1,1]), .lp (atC qaS [1,0,1,1,1,1,1,1,1,1,1,1,0,1,0,0]), .blk 0, .code (atC qaS [1,0,1,1,1,1,1,1,1,1,1,1,1]), .sc]
def zfR : qo1 → St
 | .c0 a b => St.init [(tl 1 a qaC), (tl 1 b qaC)]
 | .c1 r66 r71 n shift v top next j => ⟨[(4, .c (C.row 71 0 r71.length)), (6, vi .i64 n), (10, vi .i64 shift), (11, vl 1 v qaC), (12, .c (C.row 66 0 r66.length)), (13, vi .u64 top), (14, vi .u64 next), (15, vi .i64 j)], [(66, .row 101 1 (r66.map qaC) 0), (71, .row 101 1 (r71.map qaC) 0)], []⟩
 | .c2 r64 r71 n shift v top next j => ⟨[(4, .c (C.row 71 0 r71.length)), (6, vi .i64 n), (10, vi .i64 shift), (11, vl 1 v qaC), (12, .c (C.row 64 0 r64.length)), (13, vi .u64 top), (14, vi .u64 next), (15, vi .i64 j)], [(64, .row 101 1 (r64.map qaC) 0), (71, .row 101 1 (r71.map qaC) 0)], []⟩
 | .c3 r66 r71 n shift v top next j guess rest => ⟨[(4, .c (C.row 71 0 r71.length)), (6, vi .i64 n), (10, vi .i64 shift), (11, vl 1 v qaC), (12, .c (C.row 66 0 r66.length)), (13, vi .u64 top), (14, vi .u64 next), (15, vi .i64 j), (16, vi .u64 guess), (17, vi .u64 rest)], [(66, .row 101 1 (r66.map qaC) 0), (71, .row 101 1 (r71.map qaC) 0)], []⟩
 | .c4 r64 r71 n shift v top next j guess rest => ⟨[(4, .c (C.row 71 0 r71.length)), (6, vi .i64 n), (10, vi .i64 shift), (11, vl 1 v qaC), (12, .c (C.row 64 0 r64.length)), (13, vi .u64 top), (14, vi .u64 next), (15, vi .i64 j), (16, vi .u64 guess), (17, vi .u64 rest)], [(64, .row 101 1 (r64.map qaC) 0), (71, .row 101 1 (r71.map qaC) 0)], []⟩
 | .c5 r66 r71 n shift v top next j guess => ⟨[(4, .c (C.row 71 0 r71.length)), (6, vi .i64 n), (10, vi .i64 shift), (11, vl 1 v qaC), (12, .c (C.row 66 0 r66.length)), (13, vi .u64 top), (14, vi .u64 next), (15, vi .i64 j), (16, vi .u64 guess)], [(66, .row 101 1 (r66.map qaC) 0), (71, .row 101 1 (r71.map qaC) 0)], []⟩
 | .c6 r64 r71 n shift v top next j guess => ⟨[(4, .c (C.row 71 0 r71.length)), (6, vi .i64 n), (10, vi .i64 shift), (11, vl 1 v qaC), (12, .c (C.row 64 0 r64.length)), (13, vi .u64 top), (14, vi .u64 next), (15, vi .i64 j), (16, vi .u64 guess)], [(64, .row 101 1 (r64.map qaC) 0), (71, .row 101 1 (r71.map qaC) 0)], []⟩
 | .c7 r66 r71 n shift v top next j guess carry borrow t141 t142 t143 => ⟨[(4, .c (C.row 71 0 r71.length)), (6, vi .i64 n), (10, vi .i64 shift), (11, vl 1 v qaC), (12, .c (C.row 66 0 r66.length)), (13, vi .u64 top), (14, vi .u64 next), (15, vi .i64 j), (16, vi .u64 guess), (18, vi .u64 carry), (19, vi .u64 borrow), (141, vl 1 t141 qaC), (142, vi .i64 t142), (143, vi .i64 t143)], [(66, .row 101 1 (r66.map qaC) 0), (71, .row 101 1 (r71.map qaC) 0)], []⟩
 | .c8 r64 r71 n shift v top next j guess carry borrow t141 t142 t143 => ⟨[(4, .c (C.row 71 0 r71.length)), (6, vi .i64 n), (10, vi .i64 shift), (11, vl 1 v qaC), (12, .c (C.row 64 0 r64.length)), (13, vi .u64 top), (14, vi .u64 next), (15, vi .i64 j), (16, vi .u64 guess), (18, vi .u64 carry), (19, vi .u64 borrow), (141, vl 1 t141 qaC), (142, vi .i64 t142), (143, vi .i64 t143)], [(64, .row 101 1 (r64.map qaC) 0), (71, .row 101 1 (r71.map qaC) 0)], []⟩
 | .c9 r66 r71 n shift v top next j => ⟨[(4, .c (C.row 71 0 r71.length)), (6, vi .i64 n), (10, vi .i64 shift), (11, vl 1 v qaC), (12, .c (C.row 66 0 r66.length)), (13, vi .u64 top), (14, vi .u64 next), (15, vi .i64 j)], [(66, .row 101 1 (r66.map qaC) 0), (71, .row 101 1 (r71.map qaC) 0)], []⟩
 | .c10 r66 r71 n shift v top next j sum t210 t211 t212 => ⟨[(4, .c (C.row 71 0 r71.length)), (6, vi .i64 n), (10, vi .i64 shift), (11, vl 1 v qaC), (12, .c (C.row 66 0 r66.length)), (13, vi .u64 top), (14, vi .u64 next), (15, vi .i64 j), (25, vi .u32 sum), (210, vl 1 t210 qaC), (211, vi .i64 t211), (212, vi .i64 t212)], [(66, .row 101 1 (r66.map qaC) 0), (71, .row 101 1 (r71.map qaC) 0)], []⟩
 | .c11 r64 r71 n shift v top next j => ⟨[(4, .c (C.row 71 0 r71.length)), (6, vi .i64 n), (10, vi .i64 shift), (11, vl 1 v qaC), (12, .c (C.row 64 0 r64.length)), (13, vi .u64 top), (14, vi .u64 next), (15, vi .i64 j)], [(64, .row 101 1 (r64.map qaC) 0), (71, .row 101 1 (r71.map qaC) 0)], []⟩
 | .c12 r64 r71 n shift v top next j sum t210 t211 t212 => ⟨[(4, .c (C.row 71 0 r71.length)), (6, vi .i64 n), (10, vi .i64 shift), (11, vl 1 v qaC), (12, .c (C.row 64 0 r64.length)), (13, vi .u64 top), (14, vi .u64 next), (15, vi .i64 j), (25, vi .u32 sum), (210, vl 1 t210 qaC), (211, vi .i64 t211), (212, vi .i64 t212)], [(64, .row 101 1 (r64.map qaC) 0), (71, .row 101 1 (r71.map qaC) 0)], []⟩
def qeD (cx : Cx) (c : qo1) (r : ((List Int) × (List Int))) : Prop := Wk prog cx (qc2 prog 177 [[1], [1]] (TV.tup [(false, [(T.sl 1 (r.1.map qaC))]), (false, [(T.sl 1 (r.2.map qaC))])])) (zdM c) .normal (zfR c)
abbrev qeE (K : Nat) : Prop := ∀ c r, qaO K c = some r → ∀ cx : Cx, cx.n = 251 → qeD cx c r
theorem zf2 {K} (ih : qeE K) {cx} (hn : cx.n = 251) {a b} {r} (h : qaO (K + 1) (.c0 a b) = some r) : qeD cx (.c0 a b) r := by
 rw [qaO] at h
 obtain ⟨x1, h2, h⟩ := qaH h
 obtain ⟨x3, h4, h⟩ := qaH h
 rcases qaQ h with ⟨h5, h⟩ | ⟨h5, h⟩
 ·obtain ⟨x6, h7, h⟩ := qaH h
  have h := oinj h; subst h
  exact wkR [rg2, rgG [oo, opI (.call [[1]] [(tl 1 b qaC)] (tl 1 x1 qaC)), oo], rgG [oo, oo, opI (.call [[1], [1]] [(tl 1 a qaC), (tl 1 x1 qaC)] (ti .i64 x3)), oo], bTr, rgG [oo, opI (.call [[1]] [(tl 1 a qaC)] (tl 1 x6 qaC)), oo, oo]] hn (aC (qfB h2) <| aC (qe4 h4) <| aC h5 <| aC (qfB h7) <| aN)
 ·rcases qaQ h with ⟨h6, h⟩ | ⟨h6, h⟩
  ·obtain ⟨x7, h8, h⟩ := qaH h
   obtain ⟨x9, h10, h⟩ := qaH h
   obtain ⟨x11, h12, h⟩ := qaH h
   have h := oinj h; subst h
   exact wkR [rg2, rgG [oo, opI (.call [[1]] [(tl 1 b qaC)] (tl 1 x1 qaC)), oo], rgG [oo, oo, opI (.call [[1], [1]] [(tl 1 a qaC), (tl 1 x1 qaC)] (ti .i64 x3)), oo], bFa, rgG [oo, opI (.ln (x1.length : Int)), oo], rg2, bTr, rgG [oo, oo, opI (.ix (qaC x7)), oo, opI (.call [[1], [0]] [(tl 1 a qaC), (ti .u32 x7)] (TV.tup [(false, [(T.sl 1 (x9.1.map qaC))]), (false, [(T.int .u32 x9.2.1)]), (false, [(T.bool x9.2.2)])])), oo, oo, oo, oo, oo, oo, oo], rgG [oo, oo, oo, opI (.call [[0]] [(TV.c (T.int .u64 (wU6 x9.2.1)))] (tl 1 x11 qaC)), oo, oo]] hn (aC (qfB h2) <| aC (qe4 h4) <| aC h5 <| aC (qaX x1 qaC) <| aC h6 <| aC (qa1 h8) <| aC (qbS qaC h8) <| aC (qjL h10) <| aC (qvK h12) <| aN)
  ·obtain ⟨x7, h8, h⟩ := qaH h
   obtain ⟨x9, h10, h⟩ := qaH h
   obtain ⟨x11, h12, h⟩ := qaH h
   obtain ⟨x13, h14, h⟩ := qaH h
   cases x13 with
   | none =>
    obtain ⟨h16, h⟩ := qbI h
    obtain ⟨x17, h18, h⟩ := qaH h
    obtain ⟨x19, h20, h⟩ := qaH h
    exact wkG [rg2, rgG [oo, opI (.call [[1]] [(tl 1 b qaC)] (tl 1 x1 qaC)), oo], rgG [oo, oo, opI (.call [[1], [1]] [(tl 1 a qaC), (tl 1 x1 qaC)] (ti .i64 x3)), oo], bFa, rgG [oo, opI (.ln (x1.length : Int)), oo], rg2, bFa, rgG [oo, oo, oo, opI (.ix (qaC x7)), oo, opI (.call [[0]] [(ti .u32 x7)] (ti .i64 x9)), oo], rgG [oo, oo, opI (.call [[1], [0]] [(tl 1 x1 qaC), (ti .i64 x9)] (tl 1 x11 qaC)), oo], rgG [oo, oo, .callN [[1], [0]] 101 1 none, opI (.lit (([(0 : Int)] : List Int).map qaC)), opI (.appN (([(0 : Int)] : List Int).map qaC)), oo], rgG [oo, oo, oo, oo, opI (.mk (qaC (0 : Int)) ((List.replicate (wI6 ((((([(0 : Int)] : List Int).map qaC).length : Nat) : Int) - (x1.length : Int))).toNat ((0 : Int) : Int)).map qaC)), oo], .draw [.p, .p, .p, (.ix (qaC x17)), .p, .p, .p, .p, .p, (.ix (qaC x19)), .p, .p, .p] [.op .p], rg6, .pre [.rl 4 0 (List.replicate (wI6 ((((([(0 : Int)] : List Int).map qaC).length : Nat) : Int) - (x1.length : Int))).toNat ((0 : Int) : Int)).length, .rl 12 0 ([(0 : Int)] : List Int).length, .keep [4,6,10,11,12,13,14,15] [66,71]]] hn (aC (qfB h2) <| aC (qe4 h4) <| aC h5 <| aC (qaX x1 qaC) <| aC h6 <| aC (qa1 h8) <| aC (qbS qaC h8) <| aC (qlH h10) <| aC (qkV h12) <| aC (quS h14) <| aC (by kernel_rfl : [(T.int .u32 (0 : Int))] = (([(0 : Int)] : List Int).map qaC).flatten) <| aC (qbJ _ _ _ (by simp) : ((([(0 : Int)] : List Int).map qaC).drop 0).take 1 = ([(0 : Int)] : List Int).map qaC) <| aC (by simp : 0 < (([(0 : Int)] : List Int).map qaC).length) <| aC (by simp : (([(0 : Int)] : List Int).map qaC).length * 4 ≤ 140737488355328) <| aC (by simp [maxLen] : (([(0 : Int)] : List Int).map qaC).length ≤ maxLen) <| aC h16.1 <| aC h16.2.1 <| aC h16.2.2 <| aC (qgM _ _ _ : List.replicate (wI6 ((((([(0 : Int)] : List Int).map qaC).length : Nat) : Int) - (x1.length : Int))).toNat (qaC (0 : Int)) = (List.replicate (wI6 ((((([(0 : Int)] : List Int).map qaC).length : Nat) : Int) - (x1.length : Int))).toNat ((0 : Int) : Int)).map qaC) <| aC (qa1 h18) <| aC (qbS qaC h18) <| aC (qa1 h20) <| aC (qbS qaC h20) <| aC r0 <| aC (by simp : (wI6 ((((([(0 : Int)] : List Int).map qaC).length : Nat) : Int) - (x1.length : Int))).toNat = (List.replicate (wI6 ((((([(0 : Int)] : List Int).map qaC).length : Nat) : Int) - (x1.length : Int))).toNat ((0 : Int) : Int)).length) <| aC r0 <| aC (by simp : (([(0 : Int)] : List Int).map qaC).length = ([(0 : Int)] : List Int).length) <| aN) (ih _ _ h cx hn)
   | some l15 =>
    obtain ⟨h16, h⟩ := qbI h
    obtain ⟨h17, h⟩ := qbI h
    obtain ⟨x18, h19, h⟩ := qaH h
    obtain ⟨x20, h21, h⟩ := qaH h
    exact wkG [rg2, rgG [oo, opI (.call [[1]] [(tl 1 b qaC)] (tl 1 x1 qaC)), oo], rgG [oo, oo, opI (.call [[1], [1]] [(tl 1 a qaC), (tl 1 x1 qaC)] (ti .i64 x3)), oo], bFa, rgG [oo, opI (.ln (x1.length : Int)), oo], rg2, bFa, rgG [oo, oo, oo, opI (.ix (qaC x7)), oo, opI (.call [[0]] [(ti .u32 x7)] (ti .i64 x9)), oo], rgG [oo, oo, opI (.call [[1], [0]] [(tl 1 x1 qaC), (ti .i64 x9)] (tl 1 x11 qaC)), oo], rgG [oo, oo, .callN [[1], [0]] 101 1 (some (l15.map qaC)), opI (.lit (([(0 : Int)] : List Int).map qaC)), .appR (([(0 : Int)] : List Int).map qaC) ((l15 ++ ([(0 : Int)] : List Int)).map qaC), oo], rgG [oo, oo, oo, oo, opI (.mk (qaC (0 : Int)) ((List.replicate (wI6 (((((l15 ++ ([(0 : Int)] : List Int)).map qaC).length : Nat) : Int) - (x1.length : Int))).toNat ((0 : Int) : Int)).map qaC)), oo], .draw [.p, .p, .p, (.ix (qaC x18)), .p, .p, .p, .p, .p, (.ix (qaC x20)), .p, .p, .p] [.op .p], rg6, .pre [.rl 4 0 (List.replicate (wI6 (((((l15 ++ ([(0 : Int)] : List Int)).map qaC).length : Nat) : Int) - (x1.length : Int))).toNat ((0 : Int) : Int)).length, .rl 12 0 (l15 ++ ([(0 : Int)] : List Int)).length, .keep [4,6,10,11,12,13,14,15] [64,71]]] hn (aC (qfB h2) <| aC (qe4 h4) <| aC h5 <| aC (qaX x1 qaC) <| aC h6 <| aC (qa1 h8) <| aC (qbS qaC h8) <| aC (qlH h10) <| aC (qkV h12) <| aC (quS h14) <| aC (by kernel_rfl : [(T.int .u32 (0 : Int))] = (([(0 : Int)] : List Int).map qaC).flatten) <| aC (lq (l15.map qaC)) <| aC (qbJ _ _ _ (by simp) : ((([(0 : Int)] : List Int).map qaC).drop 0).take 1 = ([(0 : Int)] : List Int).map qaC) <| aC (qs5 _ _ _ : l15.map qaC ++ ([(0 : Int)] : List Int).map qaC = (l15 ++ ([(0 : Int)] : List Int)).map qaC) <| aC ((qeF _ _).symm ▸ h16 : ((l15 ++ ([(0 : Int)] : List Int)).map qaC).length * 4 ≤ 140737488355328) <| aC ((qeF _ _).symm ▸ room (by decide) h16 : ((l15 ++ ([(0 : Int)] : List Int)).map qaC).length ≤ maxLen) <| aC h17.1 <| aC h17.2.1 <| aC h17.2.2 <| aC (qgM _ _ _ : List.replicate (wI6 (((((l15 ++ ([(0 : Int)] : List Int)).map qaC).length : Nat) : Int) - (x1.length : Int))).toNat (qaC (0 : Int)) = (List.replicate (wI6 (((((l15 ++ ([(0 : Int)] : List Int)).map qaC).length : Nat) : Int) - (x1.length : Int))).toNat ((0 : Int) : Int)).map qaC) <| aC (qa1 h19) <| aC (qbS qaC h19) <| aC (qa1 h21) <| aC (qbS qaC h21) <| aC r0 <| aC (by simp : (wI6 (((((l15 ++ ([(0 : Int)] : List Int)).map qaC).length : Nat) : Int) - (x1.length : Int))).toNat = (List.replicate (wI6 (((((l15 ++ ([(0 : Int)] : List Int)).map qaC).length : Nat) : Int) - (x1.length : Int))).toNat ((0 : Int) : Int)).length) <| aC r0 <| aC (by simp : ((l15 ++ ([(0 : Int)] : List Int)).map qaC).length = (l15 ++ ([(0 : Int)] : List Int)).length) <| aN) (ih _ _ h cx hn)
theorem zf1 {K} (ih : qeE K) {cx} (hn : cx.n = 251) {r66 r71 n shift v top next j} {r} (h : qaO (K + 1) (.c1 r66 r71 n shift v top next j) = some r) : qeD cx (.c1 r66 r71 n shift v top next j) r := by
 rw [qaO] at h
 rcases qaQ h with ⟨h1, h⟩ | ⟨h1, h⟩
 ·obtain ⟨x2, h3, h⟩ := qaH h
  obtain ⟨x4, h5, h⟩ := qaH h
  obtain ⟨x6, h7, h⟩ := qaH h
  exact wkG [.go, rg2, bTr, .draw [.p, .p, .p, .p, .ir, (.ld (qaC x2)), .p, .p, .p, .p, .p, .p, .p, .ir, (.ld (qaC x4)), .p, .p, .p, (.call [[0], [0], [0]] [(TV.c (T.int .u64 (0 : Int))), (TV.c (T.int .u64 (bits .or .u64 (qhT .u64 (wU6 x2) (32 : Int)) (wU6 x4)))), (ti .u64 top)] (TV.tup [(false, [(T.int .u64 x6.1)]), (false, [(T.int .u64 x6.2)])])), .p, .p, .p, .p] [.op .p], .pre [.rl 4 0 r71.length, .rl 12 0 r66.length, .keep [4,6,10,11,12,13,14,15,16,17] [66,71]]] hn (aC h1 <| aC (qa1 h3) <| aC (qcB h3 (by simp) : (wI6 (j + n)) < ((r66.length : Nat) : Int)) <| aC (qcA qaC h3 : (r66.map qaC)[(0 + (wI6 (j + n)).toNat)]? = some (qaC x2)) <| aC (qa1 h5) <| aC (qcB h5 (by simp) : (wI6 ((wI6 (j + n)) - (1 : Int))) < ((r66.length : Nat) : Int)) <| aC (qcA qaC h5 : (r66.map qaC)[(0 + (wI6 ((wI6 (j + n)) - (1 : Int))).toNat)]? = some (qaC x4)) <| aC (quW h7) <| aC r0 <| aC (lq r71) <| aC r0 <| aC (lq r66) <| aN) (ih _ _ h cx hn)
 ·obtain ⟨x2, h3, h⟩ := qaH h
  obtain ⟨h4, h⟩ := qbI h
  obtain ⟨x5, h6, h⟩ := qaH h
  have h := oinj h; subst h
  exact wkR [.go, rg2, bFa, .pre [.snap 4 (max 0 (0 + r71.length)) (r71.map qaC), .snap 12 (max 0 (0 + r66.length)) (r66.map qaC)], .draw [.p, (.call [[1]] [(tl 1 r71 qaC)] (tl 1 x2 qaC)), .p, .p, (.slT 0 n.toNat ((r66.take n.toNat).map qaC)), .p] [opI (.call [[1], [0]] [(TV.c (T.sl 1 ((r66.take n.toNat).map qaC))), (ti .i64 shift)] (tl 1 x5 qaC)), .op .p, .op .p]] hn (aC h1 <| aC (qbJ _ _ _ (by simp) : ((r71.map qaC).drop 0).take r71.length = r71.map qaC) <| aC (rfl : (max 0 (0 + r71.length)) = (max 0 (0 + r71.length))) <| aC (qbJ _ _ _ (by simp) : ((r66.map qaC).drop 0).take r66.length = r66.map qaC) <| aC (rfl : (max 0 (0 + r66.length)) = (max 0 (0 + r66.length))) <| aC (qfB h3) <| aC r0 <| aC (⟨h4.1, rfl⟩ : 0 ≤ n ∧ n.toNat = n.toNat) <| aC h4.2.1 <| aC (ze8 _ h4.2.2 : n.toNat ≤ (r66.map qaC).length) <| aC (q27 _ _ _ : ((r66.map qaC).take n.toNat).drop 0 = (r66.take n.toNat).map qaC) <| aC (qzG h6) <| aN)
theorem zf0 {K} (ih : qeE K) {cx} (hn : cx.n = 251) {r64 r71 n shift v top next j} {r} (h : qaO (K + 1) (.c2 r64 r71 n shift v top next j) = some r) : qeD cx (.c2 r64 r71 n shift v top next j) r := by
 rw [qaO] at h
 rcases qaQ h with ⟨h1, h⟩ | ⟨h1, h⟩
 ·obtain ⟨x2, h3, h⟩ := qaH h
  obtain ⟨x4, h5, h⟩ := qaH h
  obtain ⟨x6, h7, h⟩ := qaH h
  exact wkG [.go, rg2, bTr, .draw [.p, .p, .p, .p, .ir, (.ld (qaC x2)), .p, .p, .p, .p, .p, .p, .p, .ir, (.ld (qaC x4)), .p, .p, .p, (.call [[0], [0], [0]] [(TV.c (T.int .u64 (0 : Int))), (TV.c (T.int .u64 (bits .or .u64 (qhT .u64 (wU6 x2) (32 : Int)) (wU6 x4)))), (ti .u64 top)] (TV.tup [(false, [(T.int .u64 x6.1)]), (false, [(T.int .u64 x6.2)])])), .p, .p, .p, .p] [.op .p], .pre [.rl 4 0 r71.length, .rl 12 0 r64.length, .keep [4,6,10,11,12,13,14,15,16,17] [64,71]]] hn (aC h1 <| aC (qa1 h3) <| aC (qcB h3 (by simp) : (wI6 (j + n)) < ((r64.length : Nat) : Int)) <| aC (qcA qaC h3 : (r64.map qaC)[(0 + (wI6 (j + n)).toNat)]? = some (qaC x2)) <| aC (qa1 h5) <| aC (qcB h5 (by simp) : (wI6 ((wI6 (j + n)) - (1 : Int))) < ((r64.length : Nat) : Int)) <| aC (qcA qaC h5 : (r64.map qaC)[(0 + (wI6 ((wI6 (j + n)) - (1 : Int))).toNat)]? = some (qaC x4)) <| aC (quW h7) <| aC r0 <| aC (lq r71) <| aC r0 <| aC (lq r64) <| aN) (ih _ _ h cx hn)
 ·obtain ⟨x2, h3, h⟩ := qaH h
  obtain ⟨h4, h⟩ := qbI h
  obtain ⟨x5, h6, h⟩ := qaH h
  have h := oinj h; subst h
  exact wkR [.go, rg2, bFa, .pre [.snap 4 (max 0 (0 + r71.length)) (r71.map qaC), .snap 12 (max 0 (0 + r64.length)) (r64.map qaC)], .draw [.p, (.call [[1]] [(tl 1 r71 qaC)] (tl 1 x2 qaC)), .p, .p, (.slT 0 n.toNat ((r64.take n.toNat).map qaC)), .p] [opI (.call [[1], [0]] [(TV.c (T.sl 1 ((r64.take n.toNat).map qaC))), (ti .i64 shift)] (tl 1 x5 qaC)), .op .p, .op .p]] hn (aC h1 <| aC (qbJ _ _ _ (by simp) : ((r71.map qaC).drop 0).take r71.length = r71.map qaC) <| aC (rfl : (max 0 (0 + r71.length)) = (max 0 (0 + r71.length))) <| aC (qbJ _ _ _ (by simp) : ((r64.map qaC).drop 0).take r64.length = r64.map qaC) <| aC (rfl : (max 0 (0 + r64.length)) = (max 0 (0 + r64.length))) <| aC (qfB h3) <| aC r0 <| aC (⟨h4.1, rfl⟩ : 0 ≤ n ∧ n.toNat = n.toNat) <| aC h4.2.1 <| aC (ze8 _ h4.2.2 : n.toNat ≤ (r64.map qaC).length) <| aC (q27 _ _ _ : ((r64.map qaC).take n.toNat).drop 0 = (r64.take n.toNat).map qaC) <| aC (qzG h6) <| aN)
theorem zfZ {K} (ih : qeE K) {cx} (hn : cx.n = 251) {r66 r71 n shift v top next j guess rest} {r} (h : qaO (K + 1) (.c3 r66 r71 n shift v top next j guess rest) = some r) : qeD cx (.c3 r66 r71 n shift v top next j guess rest) r := by
 rw [qaO] at h
 rcases qaQ h with ⟨h1, h⟩ | ⟨h1, h⟩
 ·rcases qaQ h with ⟨h2, h⟩ | ⟨h2, h⟩
  ·exact wkG [.go, rgG [oo, oo, oo, .sb 117 true, oo, oo, oo, oo, oo, oo, oo, oo, oo, oo, oo, oo, oo, oo, oo, oo], bTr, rg3, rg4, rg2, bTr, .pre [.rl 4 0 r71.length, .rl 12 0 r66.length, .keep [4,6,10,11,12,13,14,15,16] [66,71]]] hn (aC h1 <| aC rt <| aC h2 <| aC r0 <| aC (lq r71) <| aC r0 <| aC (lq r66) <| aN) (ih _ _ h cx hn)
  ·exact wkG [.go, rgG [oo, oo, oo, .sb 117 true, oo, oo, oo, oo, oo, oo, oo, oo, oo, oo, oo, oo, oo, oo, oo, oo], bTr, rg3, rg4, rg2, bFa, .pre [.rl 4 0 r71.length, .rl 12 0 r66.length, .keep [4,6,10,11,12,13,14,15,16,17] [66,71]]] hn (aC h1 <| aC rt <| aC h2 <| aC r0 <| aC (lq r71) <| aC r0 <| aC (lq r66) <| aN) (ih _ _ h cx hn)
 ·obtain ⟨x2, h3, h⟩ := qaH h
  rcases qaQ h with ⟨h4, h⟩ | ⟨h4, h⟩
  ·rcases qaQ h with ⟨h5, h⟩ | ⟨h5, h⟩
   ·exact wkG [.go, rgG [oo, oo, oo, .sb 117 false, oo, oo, oo, oo, oo, oo, oo, oo, oo, oo, .op .ir, opI (.ld (qaC x2)), oo, oo, oo, oo], bTr, rg3, rg4, rg2, bTr, .pre [.rl 4 0 r71.length, .rl 12 0 r66.length, .keep [4,6,10,11,12,13,14,15,16] [66,71]]] hn (aC h1 <| aC (qa1 h3) <| aC (qcB h3 (by simp) : (wI6 ((wI6 (j + n)) - (2 : Int))) < ((r66.length : Nat) : Int)) <| aC (qcA qaC h3 : (r66.map qaC)[(0 + (wI6 ((wI6 (j + n)) - (2 : Int))).toNat)]? = some (qaC x2)) <| aC h4 <| aC h5 <| aC r0 <| aC (lq r71) <| aC r0 <| aC (lq r66) <| aN) (ih _ _ h cx hn)
   ·exact wkG [.go, rgG [oo, oo, oo, .sb 117 false, oo, oo, oo, oo, oo, oo, oo, oo, oo, oo, .op .ir, opI (.ld (qaC x2)), oo, oo, oo, oo], bTr, rg3, rg4, rg2, bFa, .pre [.rl 4 0 r71.length, .rl 12 0 r66.length, .keep [4,6,10,11,12,13,14,15,16,17] [66,71]]] hn (aC h1 <| aC (qa1 h3) <| aC (qcB h3 (by simp) : (wI6 ((wI6 (j + n)) - (2 : Int))) < ((r66.length : Nat) : Int)) <| aC (qcA qaC h3 : (r66.map qaC)[(0 + (wI6 ((wI6 (j + n)) - (2 : Int))).toNat)]? = some (qaC x2)) <| aC h4 <| aC h5 <| aC r0 <| aC (lq r71) <| aC r0 <| aC (lq r66) <| aN) (ih _ _ h cx hn)
  ·exact wkG [.go, rgG [oo, oo, oo, .sb 117 false, oo, oo, oo, oo, oo, oo, oo, oo, oo, oo, .op .ir, opI (.ld (qaC x2)), oo, oo, oo, oo], bFa, .pre [.rl 4 0 r71.length, .rl 12 0 r66.length, .keep [4,6,10,11,12,13,14,15,16] [66,71]]] hn (aC h1 <| aC (qa1 h3) <| aC (qcB h3 (by simp) : (wI6 ((wI6 (j + n)) - (2 : Int))) < ((r66.length : Nat) : Int)) <| aC (qcA qaC h3 : (r66.map qaC)[(0 + (wI6 ((wI6 (j + n)) - (2 : Int))).toNat)]? = some (qaC x2)) <| aC h4 <| aC r0 <| aC (lq r71) <| aC r0 <| aC (lq r66) <| aN) (ih _ _ h cx hn)
theorem zfY {K} (ih : qeE K) {cx} (hn : cx.n = 251) {r64 r71 n shift v top next j guess rest} {r} (h : qaO (K + 1) (.c4 r64 r71 n shift v top next j guess rest) = some r) : qeD cx (.c4 r64 r71 n shift v top next j guess rest) r := by
 rw [qaO] at h
 rcases qaQ h with ⟨h1, h⟩ | ⟨h1, h⟩
 ·rcases qaQ h with ⟨h2, h⟩ | ⟨h2, h⟩
  ·exact wkG [.go, rgG [oo, oo, oo, .sb 117 true, oo, oo, oo, oo, oo, oo, oo, oo, oo, oo, oo, oo, oo, oo, oo, oo], bTr, rg3, rg4, rg2, bTr, .pre [.rl 4 0 r71.length, .rl 12 0 r64.length, .keep [4,6,10,11,12,13,14,15,16] [64,71]]] hn (aC h1 <| aC rt <| aC h2 <| aC r0 <| aC (lq r71) <| aC r0 <| aC (lq r64) <| aN) (ih _ _ h cx hn)
  ·exact wkG [.go, rgG [oo, oo, oo, .sb 117 true, oo, oo, oo, oo, oo, oo, oo, oo, oo, oo, oo, oo, oo, oo, oo, oo], bTr, rg3, rg4, rg2, bFa, .pre [.rl 4 0 r71.length, .rl 12 0 r64.length, .keep [4,6,10,11,12,13,14,15,16,17] [64,71]]] hn (aC h1 <| aC rt <| aC h2 <| aC r0 <| aC (lq r71) <| aC r0 <| aC (lq r64) <| aN) (ih _ _ h cx hn)
 ·obtain ⟨x2, h3, h⟩ := qaH h
  rcases qaQ h with ⟨h4, h⟩ | ⟨h4, h⟩
  ·rcases qaQ h with ⟨h5, h⟩ | ⟨h5, h⟩
   ·exact wkG [.go, rgG [oo, oo, oo, .sb 117 false, oo, oo, oo, oo, oo, oo, oo, oo, oo, oo, .op .ir, opI (.ld (qaC x2)), oo, oo, oo, oo], bTr, rg3, rg4, rg2, bTr, .pre [.rl 4 0 r71.length, .rl 12 0 r64.length, .keep [4,6,10,11,12,13,14,15,16] [64,71]]] hn (aC h1 <| aC (qa1 h3) <| aC (qcB h3 (by simp) : (wI6 ((wI6 (j + n)) - (2 : Int))) < ((r64.length : Nat) : Int)) <| aC (qcA qaC h3 : (r64.map qaC)[(0 + (wI6 ((wI6 (j + n)) - (2 : Int))).toNat)]? = some (qaC x2)) <| aC h4 <| aC h5 <| aC r0 <| aC (lq r71) <| aC r0 <| aC (lq r64) <| aN) (ih _ _ h cx hn)
   ·exact wkG [.go, rgG [oo, oo, oo, .sb 117 false, oo, oo, oo, oo, oo, oo, oo, oo, oo, oo, .op .ir, opI (.ld (qaC x2)), oo, oo, oo, oo], bTr, rg3, rg4, rg2, bFa, .pre [.rl 4 0 r71.length, .rl 12 0 r64.length, .keep [4,6,10,11,12,13,14,15,16,17] [64,71]]] hn (aC h1 <| aC (qa1 h3) <| aC (qcB h3 (by simp) : (wI6 ((wI6 (j + n)) - (2 : Int))) < ((r64.length : Nat) : Int)) <| aC (qcA qaC h3 : (r64.map qaC)[(0 + (wI6 ((wI6 (j + n)) - (2 : Int))).toNat)]? = some (qaC x2)) <| aC h4 <| aC h5 <| aC r0 <| aC (lq r71) <| aC r0 <| aC (lq r64) <| aN) (ih _ _ h cx hn)
  ·exact wkG [.go, rgG [oo, oo, oo, .sb 117 false, oo, oo, oo, oo, oo, oo, oo, oo, oo, oo, .op .ir, opI (.ld (qaC x2)), oo, oo, oo, oo], bFa, .pre [.rl 4 0 r71.length, .rl 12 0 r64.length, .keep [4,6,10,11,12,13,14,15,16] [64,71]]] hn (aC h1 <| aC (qa1 h3) <| aC (qcB h3 (by simp) : (wI6 ((wI6 (j + n)) - (2 : Int))) < ((r64.length : Nat) : Int)) <| aC (qcA qaC h3 : (r64.map qaC)[(0 + (wI6 ((wI6 (j + n)) - (2 : Int))).toNat)]? = some (qaC x2)) <| aC h4 <| aC r0 <| aC (lq r71) <| aC r0 <| aC (lq r64) <| aN) (ih _ _ h cx hn)
theorem zfX {K} (ih : qeE K) {cx} (hn : cx.n = 251) {r66 r71 n shift v top next j guess} {r} (h : qaO (K + 1) (.c5 r66 r71 n shift v top next j guess) = some r) : qeD cx (.c5 r66 r71 n shift v top next j guess) r := by
 rw [qaO] at h
 exact wkG [rg2, rgG [oo, opI (.ln (v.length : Int)), oo], .pre [.rl 4 0 r71.length, .rl 12 0 r66.length, .keep [4,6,10,11,12,13,14,15,16,18,19,141,142,143] [66,71]]] hn (aC (qaX v qaC) <| aC r0 <| aC (lq r71) <| aC r0 <| aC (lq r66) <| aN) (ih _ _ h cx hn)
theorem zfW {K} (ih : qeE K) {cx} (hn : cx.n = 251) {r64 r71 n shift v top next j guess} {r} (h : qaO (K + 1) (.c6 r64 r71 n shift v top next j guess) = some r) : qeD cx (.c6 r64 r71 n shift v top next j guess) r := by
 rw [qaO] at h
 exact wkG [rg2, rgG [oo, opI (.ln (v.length : Int)), oo], .pre [.rl 4 0 r71.length, .rl 12 0 r64.length, .keep [4,6,10,11,12,13,14,15,16,18,19,141,142,143] [64,71]]] hn (aC (qaX v qaC) <| aC r0 <| aC (lq r71) <| aC r0 <| aC (lq r64) <| aN) (ih _ _ h cx hn)
theorem zfV {K} (ih : qeE K) {cx} (hn : cx.n = 251) {r66 r71 n shift v top next j guess carry borrow t141 t142 t143} {r} (h : qaO (K + 1) (.c7 r66 r71 n shift v top next j guess carry borrow t141 t142 t143) = some r) : qeD cx (.c7 r66 r71 n shift v top next j guess carry borrow t141 t142 t143) r := by
 rw [qaO] at h
 rcases qaQ h with ⟨h1, h⟩ | ⟨h1, h⟩
 ·obtain ⟨x2, h3, h⟩ := qaH h
  obtain ⟨x4, h5, h⟩ := qaH h
  obtain ⟨x6, h7, h⟩ := qaH h
  exact wkG [.go, rg1, bTr, rgG [oo, opI (.ix (qaC x2)), oo, oo, oo], rgG [oo, oo, oo, oo, oo, oo, oo], rg3, rgG [oo, oo, oo, oo, .op .ir, opI (.ld (qaC x4)), oo, oo, oo, oo, oo, oo, oo], rgG [oo, oo, oo, oo, oo, oo, .op .ir, opI (.st (qaC x6) ((r66.set ((wI6 (t143 + j)).toNat) (wU3 (wU6 ((wU6 ((wU6 x4) - borrow)) - (bits .and .u64 (wU6 ((wU6 (guess * (wU6 x2))) + carry)) (4294967295 : Int)))))).map qaC))], rg3, rg2, .pre [.rl 4 0 r71.length, .rl 12 0 (r66.set ((wI6 (t143 + j)).toNat) (wU3 (wU6 ((wU6 ((wU6 x4) - borrow)) - (bits .and .u64 (wU6 ((wU6 (guess * (wU6 x2))) + carry)) (4294967295 : Int)))))).length, .keep [4,6,10,11,12,13,14,15,16,18,19,141,142,143] [66,71]]] hn (aC h1 <| aC (qa1 h3) <| aC (qbS qaC h3) <| aC (qa1 h5) <| aC (qcB h5 (by simp) : (wI6 (t143 + j)) < ((r66.length : Nat) : Int)) <| aC (qcA qaC h5 : (r66.map qaC)[(0 + (wI6 (t143 + j)).toNat)]? = some (qaC x4)) <| aC (qa1 h7) <| aC (qcB h7 (by simp) : (wI6 (t143 + j)) < ((r66.length : Nat) : Int)) <| aC (qcA qaC h7 : (r66.map qaC)[(0 + (wI6 (t143 + j)).toNat)]? = some (qaC x6)) <| aC (qc4 _ _ (wU3 (wU6 ((wU6 ((wU6 x4) - borrow)) - (bits .and .u64 (wU6 ((wU6 (guess * (wU6 x2))) + carry)) (4294967295 : Int))))) _ : (r66.map qaC).set (0 + (wI6 (t143 + j)).toNat) (qbW (qaC x6) 0 [(T.int .u32 (wU3 (wU6 ((wU6 ((wU6 x4) - borrow)) - (bits .and .u64 (wU6 ((wU6 (guess * (wU6 x2))) + carry)) (4294967295 : Int))))))]) = (r66.set ((wI6 (t143 + j)).toNat) (wU3 (wU6 ((wU6 ((wU6 x4) - borrow)) - (bits .and .u64 (wU6 ((wU6 (guess * (wU6 x2))) + carry)) (4294967295 : Int)))))).map qaC) <| aC (Nat.zero_le _ : 0 ≤ (0 + (wI6 (t143 + j)).toNat)) <| aC r0 <| aC (lq r71) <| aC r0 <| aC (by simp : r66.length = (r66.set ((wI6 (t143 + j)).toNat) (wU3 (wU6 ((wU6 ((wU6 x4) - borrow)) - (bits .and .u64 (wU6 ((wU6 (guess * (wU6 x2))) + carry)) (4294967295 : Int)))))).length) <| aN) (ih _ _ h cx hn)
 ·obtain ⟨x2, h3, h⟩ := qaH h
  obtain ⟨x4, h5, h⟩ := qaH h
  obtain ⟨x6, h7, h⟩ := qaH h
  rcases qaQ h with ⟨h8, h⟩ | ⟨h8, h⟩
  ·exact wkG [.go, rg1, bFa, rgG [oo, oo, oo, oo, .op .ir, opI (.ld (qaC x2)), oo, oo, oo, oo, oo, oo], rgG [oo, oo, oo, oo, oo, oo, .op .ir, opI (.st (qaC x4) ((r66.set ((wI6 (j + n)).toNat) (wU3 (wU6 ((wU6 ((wU6 x2) - borrow)) - carry)))).map qaC))], rgG [oo, oo, oo, oo, .op .ir, opI (.st (qaC x6) ((r71.set (j.toNat) (wU3 guess)).map qaC))], rg3, bTr, .pre [.rl 4 0 (r71.set (j.toNat) (wU3 guess)).length, .rl 12 0 (r66.set ((wI6 (j + n)).toNat) (wU3 (wU6 ((wU6 ((wU6 x2) - borrow)) - carry)))).length, .keep [4,6,10,11,12,13,14,15] [66,71]]] hn (aC h1 <| aC (qa1 h3) <| aC (qcB h3 (by simp) : (wI6 (j + n)) < ((r66.length : Nat) : Int)) <| aC (qcA qaC h3 : (r66.map qaC)[(0 + (wI6 (j + n)).toNat)]? = some (qaC x2)) <| aC (qa1 h5) <| aC (qcB h5 (by simp) : (wI6 (j + n)) < ((r66.length : Nat) : Int)) <| aC (qcA qaC h5 : (r66.map qaC)[(0 + (wI6 (j + n)).toNat)]? = some (qaC x4)) <| aC (qc4 _ _ (wU3 (wU6 ((wU6 ((wU6 x2) - borrow)) - carry))) _ : (r66.map qaC).set (0 + (wI6 (j + n)).toNat) (qbW (qaC x4) 0 [(T.int .u32 (wU3 (wU6 ((wU6 ((wU6 x2) - borrow)) - carry))))]) = (r66.set ((wI6 (j + n)).toNat) (wU3 (wU6 ((wU6 ((wU6 x2) - borrow)) - carry)))).map qaC) <| aC (Nat.zero_le _ : 0 ≤ (0 + (wI6 (j + n)).toNat)) <| aC (qa1 h7) <| aC (qcB h7 (by simp) : j < ((r71.length : Nat) : Int)) <| aC (qcA qaC h7 : (r71.map qaC)[(0 + j.toNat)]? = some (qaC x6)) <| aC (qc4 _ _ (wU3 guess) _ : (r71.map qaC).set (0 + j.toNat) (qbW (qaC x6) 0 [(T.int .u32 (wU3 guess))]) = (r71.set (j.toNat) (wU3 guess)).map qaC) <| aC (Nat.zero_le _ : 0 ≤ (0 + j.toNat)) <| aC h8 <| aC r0 <| aC (by simp : r71.length = (r71.set (j.toNat) (wU3 guess)).length) <| aC r0 <| aC (by simp : r66.length = (r66.set ((wI6 (j + n)).toNat) (wU3 (wU6 ((wU6 ((wU6 x2) - borrow)) - carry)))).length) <| aN) (ih _ _ h cx hn)
  ·obtain ⟨x9, h10, h⟩ := qaH h
   obtain ⟨x11, h12, h⟩ := qaH h
   exact wkG [.go, rg1, bFa, rgG [oo, oo, oo, oo, .op .ir, opI (.ld (qaC x2)), oo, oo, oo, oo, oo, oo], rgG [oo, oo, oo, oo, oo, oo, .op .ir, opI (.st (qaC x4) ((r66.set ((wI6 (j + n)).toNat) (wU3 (wU6 ((wU6 ((wU6 x2) - borrow)) - carry)))).map qaC))], rgG [oo, oo, oo, oo, .op .ir, opI (.st (qaC x6) ((r71.set (j.toNat) (wU3 guess)).map qaC))], rg3, bFa, rgG [oo, oo, .op .ir, opI (.ld (qaC x9)), oo, .op .ir, opI (.st (qaC x11) (((r71.set (j.toNat) (wU3 guess)).set (j.toNat) (wU3 (x9 - (1 : Int)))).map qaC))], rg1, rgG [oo, opI (.ln (v.length : Int)), oo], .pre [.rl 4 0 ((r71.set (j.toNat) (wU3 guess)).set (j.toNat) (wU3 (x9 - (1 : Int)))).length, .rl 12 0 (r66.set ((wI6 (j + n)).toNat) (wU3 (wU6 ((wU6 ((wU6 x2) - borrow)) - carry)))).length, .keep [4,6,10,11,12,13,14,15,25,210,211,212] [66,71]]] hn (aC h1 <| aC (qa1 h3) <| aC (qcB h3 (by simp) : (wI6 (j + n)) < ((r66.length : Nat) : Int)) <| aC (qcA qaC h3 : (r66.map qaC)[(0 + (wI6 (j + n)).toNat)]? = some (qaC x2)) <| aC (qa1 h5) <| aC (qcB h5 (by simp) : (wI6 (j + n)) < ((r66.length : Nat) : Int)) <| aC (qcA qaC h5 : (r66.map qaC)[(0 + (wI6 (j + n)).toNat)]? = some (qaC x4)) <| aC (qc4 _ _ (wU3 (wU6 ((wU6 ((wU6 x2) - borrow)) - carry))) _ : (r66.map qaC).set (0 + (wI6 (j + n)).toNat) (qbW (qaC x4) 0 [(T.int .u32 (wU3 (wU6 ((wU6 ((wU6 x2) - borrow)) - carry))))]) = (r66.set ((wI6 (j + n)).toNat) (wU3 (wU6 ((wU6 ((wU6 x2) - borrow)) - carry)))).map qaC) <| aC (Nat.zero_le _ : 0 ≤ (0 + (wI6 (j + n)).toNat)) <| aC (qa1 h7) <| aC (qcB h7 (by simp) : j < ((r71.length : Nat) : Int)) <| aC (qcA qaC h7 : (r71.map qaC)[(0 + j.toNat)]? = some (qaC x6)) <| aC (qc4 _ _ (wU3 guess) _ : (r71.map qaC).set (0 + j.toNat) (qbW (qaC x6) 0 [(T.int .u32 (wU3 guess))]) = (r71.set (j.toNat) (wU3 guess)).map qaC) <| aC (Nat.zero_le _ : 0 ≤ (0 + j.toNat)) <| aC h8 <| aC (qa1 h10) <| aC (qcB h10 (by simp) : j < ((r71.length : Nat) : Int)) <| aC (qcA qaC h10 : ((r71.set (j.toNat) (wU3 guess)).map qaC)[(0 + j.toNat)]? = some (qaC x9)) <| aC (qa1 h12) <| aC (qcB h12 (by simp) : j < ((r71.length : Nat) : Int)) <| aC (qcA qaC h12 : ((r71.set (j.toNat) (wU3 guess)).map qaC)[(0 + j.toNat)]? = some (qaC x11)) <| aC (qc4 _ _ (wU3 (x9 - (1 : Int))) _ : ((r71.set (j.toNat) (wU3 guess)).map qaC).set (0 + j.toNat) (qbW (qaC x11) 0 [(T.int .u32 (wU3 (x9 - (1 : Int))))]) = ((r71.set (j.toNat) (wU3 guess)).set (j.toNat) (wU3 (x9 - (1 : Int)))).map qaC) <| aC (Nat.zero_le _ : 0 ≤ (0 + j.toNat)) <| aC (qaX v qaC) <| aC r0 <| aC (by simp : r71.length = ((r71.set (j.toNat) (wU3 guess)).set (j.toNat) (wU3 (x9 - (1 : Int)))).length) <| aC r0 <| aC (by simp : r66.length = (r66.set ((wI6 (j + n)).toNat) (wU3 (wU6 ((wU6 ((wU6 x2) - borrow)) - carry)))).length) <| aN) (ih _ _ h cx hn)
theorem zfU {K} (ih : qeE K) {cx} (hn : cx.n = 251) {r64 r71 n shift v top next j guess carry borrow t141 t142 t143} {r} (h : qaO (K + 1) (.c8 r64 r71 n shift v top next j guess carry borrow t141 t142 t143) = some r) : qeD cx (.c8 r64 r71 n shift v top next j guess carry borrow t141 t142 t143) r := by
 rw [qaO] at h
 rcases qaQ h with ⟨h1, h⟩ | ⟨h1, h⟩
 ·obtain ⟨x2, h3, h⟩ := qaH h
  obtain ⟨x4, h5, h⟩ := qaH h
  obtain ⟨x6, h7, h⟩ := qaH h
  exact wkG [.go, rg1, bTr, rgG [oo, opI (.ix (qaC x2)), oo, oo, oo], rgG [oo, oo, oo, oo, oo, oo, oo], rg3, rgG [oo, oo, oo, oo, .op .ir, opI (.ld (qaC x4)), oo, oo, oo, oo, oo, oo, oo], rgG [oo, oo, oo, oo, oo, oo, .op .ir, opI (.st (qaC x6) ((r64.set ((wI6 (t143 + j)).toNat) (wU3 (wU6 ((wU6 ((wU6 x4) - borrow)) - (bits .and .u64 (wU6 ((wU6 (guess * (wU6 x2))) + carry)) (4294967295 : Int)))))).map qaC))], rg3, rg2, .pre [.rl 4 0 r71.length, .rl 12 0 (r64.set ((wI6 (t143 + j)).toNat) (wU3 (wU6 ((wU6 ((wU6 x4) - borrow)) - (bits .and .u64 (wU6 ((wU6 (guess * (wU6 x2))) + carry)) (4294967295 : Int)))))).length, .keep [4,6,10,11,12,13,14,15,16,18,19,141,142,143] [64,71]]] hn (aC h1 <| aC (qa1 h3) <| aC (qbS qaC h3) <| aC (qa1 h5) <| aC (qcB h5 (by simp) : (wI6 (t143 + j)) < ((r64.length : Nat) : Int)) <| aC (qcA qaC h5 : (r64.map qaC)[(0 + (wI6 (t143 + j)).toNat)]? = some (qaC x4)) <| aC (qa1 h7) <| aC (qcB h7 (by simp) : (wI6 (t143 + j)) < ((r64.length : Nat) : Int)) <| aC (qcA qaC h7 : (r64.map qaC)[(0 + (wI6 (t143 + j)).toNat)]? = some (qaC x6)) <| aC (qc4 _ _ (wU3 (wU6 ((wU6 ((wU6 x4) - borrow)) - (bits .and .u64 (wU6 ((wU6 (guess * (wU6 x2))) + carry)) (4294967295 : Int))))) _ : (r64.map qaC).set (0 + (wI6 (t143 + j)).toNat) (qbW (qaC x6) 0 [(T.int .u32 (wU3 (wU6 ((wU6 ((wU6 x4) - borrow)) - (bits .and .u64 (wU6 ((wU6 (guess * (wU6 x2))) + carry)) (4294967295 : Int))))))]) = (r64.set ((wI6 (t143 + j)).toNat) (wU3 (wU6 ((wU6 ((wU6 x4) - borrow)) - (bits .and .u64 (wU6 ((wU6 (guess * (wU6 x2))) + carry)) (4294967295 : Int)))))).map qaC) <| aC (Nat.zero_le _ : 0 ≤ (0 + (wI6 (t143 + j)).toNat)) <| aC r0 <| aC (lq r71) <| aC r0 <| aC (by simp : r64.length = (r64.set ((wI6 (t143 + j)).toNat) (wU3 (wU6 ((wU6 ((wU6 x4) - borrow)) - (bits .and .u64 (wU6 ((wU6 (guess * (wU6 x2))) + carry)) (4294967295 : Int)))))).length) <| aN) (ih _ _ h cx hn)
 ·obtain ⟨x2, h3, h⟩ := qaH h
  obtain ⟨x4, h5, h⟩ := qaH h
  obtain ⟨x6, h7, h⟩ := qaH h
  rcases qaQ h with ⟨h8, h⟩ | ⟨h8, h⟩
  ·exact wkG [.go, rg1, bFa, rgG [oo, oo, oo, oo, .op .ir, opI (.ld (qaC x2)), oo, oo, oo, oo, oo, oo], rgG [oo, oo, oo, oo, oo, oo, .op .ir, opI (.st (qaC x4) ((r64.set ((wI6 (j + n)).toNat) (wU3 (wU6 ((wU6 ((wU6 x2) - borrow)) - carry)))).map qaC))], rgG [oo, oo, oo, oo, .op .ir, opI (.st (qaC x6) ((r71.set (j.toNat) (wU3 guess)).map qaC))], rg3, bTr, .pre [.rl 4 0 (r71.set (j.toNat) (wU3 guess)).length, .rl 12 0 (r64.set ((wI6 (j + n)).toNat) (wU3 (wU6 ((wU6 ((wU6 x2) - borrow)) - carry)))).length, .keep [4,6,10,11,12,13,14,15] [64,71]]] hn (aC h1 <| aC (qa1 h3) <| aC (qcB h3 (by simp) : (wI6 (j + n)) < ((r64.length : Nat) : Int)) <| aC (qcA qaC h3 : (r64.map qaC)[(0 + (wI6 (j + n)).toNat)]? = some (qaC x2)) <| aC (qa1 h5) <| aC (qcB h5 (by simp) : (wI6 (j + n)) < ((r64.length : Nat) : Int)) <| aC (qcA qaC h5 : (r64.map qaC)[(0 + (wI6 (j + n)).toNat)]? = some (qaC x4)) <| aC (qc4 _ _ (wU3 (wU6 ((wU6 ((wU6 x2) - borrow)) - carry))) _ : (r64.map qaC).set (0 + (wI6 (j + n)).toNat) (qbW (qaC x4) 0 [(T.int .u32 (wU3 (wU6 ((wU6 ((wU6 x2) - borrow)) - carry))))]) = (r64.set ((wI6 (j + n)).toNat) (wU3 (wU6 ((wU6 ((wU6 x2) - borrow)) - carry)))).map qaC) <| aC (Nat.zero_le _ : 0 ≤ (0 + (wI6 (j + n)).toNat)) <| aC (qa1 h7) <| aC (qcB h7 (by simp) : j < ((r71.length : Nat) : Int)) <| aC (qcA qaC h7 : (r71.map qaC)[(0 + j.toNat)]? = some (qaC x6)) <| aC (qc4 _ _ (wU3 guess) _ : (r71.map qaC).set (0 + j.toNat) (qbW (qaC x6) 0 [(T.int .u32 (wU3 guess))]) = (r71.set (j.toNat) (wU3 guess)).map qaC) <| aC (Nat.zero_le _ : 0 ≤ (0 + j.toNat)) <| aC h8 <| aC r0 <| aC (by simp : r71.length = (r71.set (j.toNat) (wU3 guess)).length) <| aC r0 <| aC (by simp : r64.length = (r64.set ((wI6 (j + n)).toNat) (wU3 (wU6 ((wU6 ((wU6 x2) - borrow)) - carry)))).length) <| aN) (ih _ _ h cx hn)
  ·obtain ⟨x9, h10, h⟩ := qaH h
   obtain ⟨x11, h12, h⟩ := qaH h
   exact wkG [.go, rg1, bFa, rgG [oo, oo, oo, oo, .op .ir, opI (.ld (qaC x2)), oo, oo, oo, oo, oo, oo], rgG [oo, oo, oo, oo, oo, oo, .op .ir, opI (.st (qaC x4) ((r64.set ((wI6 (j + n)).toNat) (wU3 (wU6 ((wU6 ((wU6 x2) - borrow)) - carry)))).map qaC))], rgG [oo, oo, oo, oo, .op .ir, opI (.st (qaC x6) ((r71.set (j.toNat) (wU3 guess)).map qaC))], rg3, bFa, rgG [oo, oo, .op .ir, opI (.ld (qaC x9)), oo, .op .ir, opI (.st (qaC x11) (((r71.set (j.toNat) (wU3 guess)).set (j.toNat) (wU3 (x9 - (1 : Int)))).map qaC))], rg1, rgG [oo, opI (.ln (v.length : Int)), oo], .pre [.rl 4 0 ((r71.set (j.toNat) (wU3 guess)).set (j.toNat) (wU3 (x9 - (1 : Int)))).length, .rl 12 0 (r64.set ((wI6 (j + n)).toNat) (wU3 (wU6 ((wU6 ((wU6 x2) - borrow)) - carry)))).length, .keep [4,6,10,11,12,13,14,15,25,210,211,212] [64,71]]] hn (aC h1 <| aC (qa1 h3) <| aC (qcB h3 (by simp) : (wI6 (j + n)) < ((r64.length : Nat) : Int)) <| aC (qcA qaC h3 : (r64.map qaC)[(0 + (wI6 (j + n)).toNat)]? = some (qaC x2)) <| aC (qa1 h5) <| aC (qcB h5 (by simp) : (wI6 (j + n)) < ((r64.length : Nat) : Int)) <| aC (qcA qaC h5 : (r64.map qaC)[(0 + (wI6 (j + n)).toNat)]? = some (qaC x4)) <| aC (qc4 _ _ (wU3 (wU6 ((wU6 ((wU6 x2) - borrow)) - carry))) _ : (r64.map qaC).set (0 + (wI6 (j + n)).toNat) (qbW (qaC x4) 0 [(T.int .u32 (wU3 (wU6 ((wU6 ((wU6 x2) - borrow)) - carry))))]) = (r64.set ((wI6 (j + n)).toNat) (wU3 (wU6 ((wU6 ((wU6 x2) - borrow)) - carry)))).map qaC) <| aC (Nat.zero_le _ : 0 ≤ (0 + (wI6 (j + n)).toNat)) <| aC (qa1 h7) <| aC (qcB h7 (by simp) : j < ((r71.length : Nat) : Int)) <| aC (qcA qaC h7 : (r71.map qaC)[(0 + j.toNat)]? = some (qaC x6)) <| aC (qc4 _ _ (wU3 guess) _ : (r71.map qaC).set (0 + j.toNat) (qbW (qaC x6) 0 [(T.int .u32 (wU3 guess))]) = (r71.set (j.toNat) (wU3 guess)).map qaC) <| aC (Nat.zero_le _ : 0 ≤ (0 + j.toNat)) <| aC h8 <| aC (qa1 h10) <| aC (qcB h10 (by simp) : j < ((r71.length : Nat) : Int)) <| aC (qcA qaC h10 : ((r71.set (j.toNat) (wU3 guess)).map qaC)[(0 + j.toNat)]? = some (qaC x9)) <| aC (qa1 h12) <| aC (qcB h12 (by simp) : j < ((r71.length : Nat) : Int)) <| aC (qcA qaC h12 : ((r71.set (j.toNat) (wU3 guess)).map qaC)[(0 + j.toNat)]? = some (qaC x11)) <| aC (qc4 _ _ (wU3 (x9 - (1 : Int))) _ : ((r71.set (j.toNat) (wU3 guess)).map qaC).set (0 + j.toNat) (qbW (qaC x11) 0 [(T.int .u32 (wU3 (x9 - (1 : Int))))]) = ((r71.set (j.toNat) (wU3 guess)).set (j.toNat) (wU3 (x9 - (1 : Int)))).map qaC) <| aC (Nat.zero_le _ : 0 ≤ (0 + j.toNat)) <| aC (qaX v qaC) <| aC r0 <| aC (by simp : r71.length = ((r71.set (j.toNat) (wU3 guess)).set (j.toNat) (wU3 (x9 - (1 : Int)))).length) <| aC r0 <| aC (by simp : r64.length = (r64.set ((wI6 (j + n)).toNat) (wU3 (wU6 ((wU6 ((wU6 x2) - borrow)) - carry)))).length) <| aN) (ih _ _ h cx hn)
theorem zfT {K} (ih : qeE K) {cx} (hn : cx.n = 251) {r66 r71 n shift v top next j} {r} (h : qaO (K + 1) (.c9 r66 r71 n shift v top next j) = some r) : qeD cx (.c9 r66 r71 n shift v top next j) r := by
 rw [qaO] at h
 exact wkG [rg3, .pre [.rl 4 0 r71.length, .rl 12 0 r66.length, .keep [4,6,10,11,12,13,14,15] [66,71]]] hn (aC r0 <| aC (lq r71) <| aC r0 <| aC (lq r66) <| aN) (ih _ _ h cx hn)
theorem zdP {K} (ih : qeE K) {cx} (hn : cx.n = 251) {r66 r71 n shift v top next j sum t210 t211 t212} {r} (h : qaO (K + 1) (.c10 r66 r71 n shift v top next j sum t210 t211 t212) = some r) : qeD cx (.c10 r66 r71 n shift v top next j sum t210 t211 t212) r := by
 rw [qaO] at h
 rcases qaQ h with ⟨h1, h⟩ | ⟨h1, h⟩
 ·obtain ⟨x2, h3, h⟩ := qaH h
  obtain ⟨x4, h5, h⟩ := qaH h
  obtain ⟨x6, h7, h⟩ := qaH h
  obtain ⟨x8, h9, h⟩ := qaH h
  exact wkG [.go, rg1, bTr, rgG [oo, opI (.ix (qaC x2)), oo, oo, oo], rgG [oo, oo, oo, oo, oo, oo, oo, oo, .op .ir, opI (.ld (qaC x4)), oo, oo, opI (.call [[0], [0], [0]] [(ti .u32 x4), (ti .u32 x2), (ti .u32 sum)] (TV.tup [(false, [(T.int .u32 x6.1)]), (false, [(T.int .u32 x6.2)])])), oo, oo, oo, .op .ir, opI (.st (qaC x8) ((r66.set ((wI6 (t212 + j)).toNat) x6.1).map qaC)), oo], rg2, .pre [.rl 4 0 r71.length, .rl 12 0 (r66.set ((wI6 (t212 + j)).toNat) x6.1).length, .keep [4,6,10,11,12,13,14,15,25,210,211,212] [66,71]]] hn (aC h1 <| aC (qa1 h3) <| aC (qbS qaC h3) <| aC (qa1 h5) <| aC (qcB h5 (by simp) : (wI6 (t212 + j)) < ((r66.length : Nat) : Int)) <| aC (qcA qaC h5 : (r66.map qaC)[(0 + (wI6 (t212 + j)).toNat)]? = some (qaC x4)) <| aC (qhX h7) <| aC (qa1 h9) <| aC (qcB h9 (by simp) : (wI6 (t212 + j)) < ((r66.length : Nat) : Int)) <| aC (qcA qaC h9 : (r66.map qaC)[(0 + (wI6 (t212 + j)).toNat)]? = some (qaC x8)) <| aC (qc4 _ _ x6.1 _ : (r66.map qaC).set (0 + (wI6 (t212 + j)).toNat) (qbW (qaC x8) 0 [(T.int .u32 x6.1)]) = (r66.set ((wI6 (t212 + j)).toNat) x6.1).map qaC) <| aC (Nat.zero_le _ : 0 ≤ (0 + (wI6 (t212 + j)).toNat)) <| aC r0 <| aC (lq r71) <| aC r0 <| aC (by simp : r66.length = (r66.set ((wI6 (t212 + j)).toNat) x6.1).length) <| aN) (ih _ _ h cx hn)
 ·obtain ⟨x2, h3, h⟩ := qaH h
  obtain ⟨x4, h5, h⟩ := qaH h
  exact wkG [.go, rg1, bFa, rgG [oo, oo, oo, oo, .op .ir, opI (.ld (qaC x2)), oo, oo, .op .ir, opI (.st (qaC x4) ((r66.set ((wI6 (j + n)).toNat) (wU3 (x2 + sum))).map qaC))], .pre [.rl 4 0 r71.length, .rl 12 0 (r66.set ((wI6 (j + n)).toNat) (wU3 (x2 + sum))).length, .keep [4,6,10,11,12,13,14,15] [66,71]]] hn (aC h1 <| aC (qa1 h3) <| aC (qcB h3 (by simp) : (wI6 (j + n)) < ((r66.length : Nat) : Int)) <| aC (qcA qaC h3 : (r66.map qaC)[(0 + (wI6 (j + n)).toNat)]? = some (qaC x2)) <| aC (qa1 h5) <| aC (qcB h5 (by simp) : (wI6 (j + n)) < ((r66.length : Nat) : Int)) <| aC (qcA qaC h5 : (r66.map qaC)[(0 + (wI6 (j + n)).toNat)]? = some (qaC x4)) <| aC (qc4 _ _ (wU3 (x2 + sum)) _ : (r66.map qaC).set (0 + (wI6 (j + n)).toNat) (qbW (qaC x4) 0 [(T.int .u32 (wU3 (x2 + sum)))]) = (r66.set ((wI6 (j + n)).toNat) (wU3 (x2 + sum))).map qaC) <| aC (Nat.zero_le _ : 0 ≤ (0 + (wI6 (j + n)).toNat)) <| aC r0 <| aC (lq r71) <| aC r0 <| aC (by simp : r66.length = (r66.set ((wI6 (j + n)).toNat) (wU3 (x2 + sum))).length) <| aN) (ih _ _ h cx hn)
theorem zdO {K} (ih : qeE K) {cx} (hn : cx.n = 251) {r64 r71 n shift v top next j} {r} (h : qaO (K + 1) (.c11 r64 r71 n shift v top next j) = some r) : qeD cx (.c11 r64 r71 n shift v top next j) r := by
 rw [qaO] at h
 exact wkG [rg3, .pre [.rl 4 0 r71.length, .rl 12 0 r64.length, .keep [4,6,10,11,12,13,14,15] [64,71]]] hn (aC r0 <| aC (lq r71) <| aC r0 <| aC (lq r64) <| aN) (ih _ _ h cx hn)
theorem zdN {K} (ih : qeE K) {cx} (hn : cx.n = 251) {r64 r71 n shift v top next j sum t210 t211 t212} {r} (h : qaO (K + 1) (.c12 r64 r71 n shift v top next j sum t210 t211 t212) = some r) : qeD cx (.c12 r64 r71 n shift v top next j sum t210 t211 t212) r := by
 rw [qaO] at h
 rcases qaQ h with ⟨h1, h⟩ | ⟨h1, h⟩
 ·obtain ⟨x2, h3, h⟩ := qaH h
  obtain ⟨x4, h5, h⟩ := qaH h
  obtain ⟨x6, h7, h⟩ := qaH h
  obtain ⟨x8, h9, h⟩ := qaH h
  exact wkG [.go, rg1, bTr, rgG [oo, opI (.ix (qaC x2)), oo, oo, oo], rgG [oo, oo, oo, oo, oo, oo, oo, oo, .op .ir, opI (.ld (qaC x4)), oo, oo, opI (.call [[0], [0], [0]] [(ti .u32 x4), (ti .u32 x2), (ti .u32 sum)] (TV.tup [(false, [(T.int .u32 x6.1)]), (false, [(T.int .u32 x6.2)])])), oo, oo, oo, .op .ir, opI (.st (qaC x8) ((r64.set ((wI6 (t212 + j)).toNat) x6.1).map qaC)), oo], rg2, .pre [.rl 4 0 r71.length, .rl 12 0 (r64.set ((wI6 (t212 + j)).toNat) x6.1).length, .keep [4,6,10,11,12,13,14,15,25,210,211,212] [64,71]]] hn (aC h1 <| aC (qa1 h3) <| aC (qbS qaC h3) <| aC (qa1 h5) <| aC (qcB h5 (by simp) : (wI6 (t212 + j)) < ((r64.length : Nat) : Int)) <| aC (qcA qaC h5 : (r64.map qaC)[(0 + (wI6 (t212 + j)).toNat)]? = some (qaC x4)) <| aC (qhX h7) <| aC (qa1 h9) <| aC (qcB h9 (by simp) : (wI6 (t212 + j)) < ((r64.length : Nat) : Int)) <| aC (qcA qaC h9 : (r64.map qaC)[(0 + (wI6 (t212 + j)).toNat)]? = some (qaC x8)) <| aC (qc4 _ _ x6.1 _ : (r64.map qaC).set (0 + (wI6 (t212 + j)).toNat) (qbW (qaC x8) 0 [(T.int .u32 x6.1)]) = (r64.set ((wI6 (t212 + j)).toNat) x6.1).map qaC) <| aC (Nat.zero_le _ : 0 ≤ (0 + (wI6 (t212 + j)).toNat)) <| aC r0 <| aC (lq r71) <| aC r0 <| aC (by simp : r64.length = (r64.set ((wI6 (t212 + j)).toNat) x6.1).length) <| aN) (ih _ _ h cx hn)
 ·obtain ⟨x2, h3, h⟩ := qaH h
  obtain ⟨x4, h5, h⟩ := qaH h
  exact wkG [.go, rg1, bFa, rgG [oo, oo, oo, oo, .op .ir, opI (.ld (qaC x2)), oo, oo, .op .ir, opI (.st (qaC x4) ((r64.set ((wI6 (j + n)).toNat) (wU3 (x2 + sum))).map qaC))], .pre [.rl 4 0 r71.length, .rl 12 0 (r64.set ((wI6 (j + n)).toNat) (wU3 (x2 + sum))).length, .keep [4,6,10,11,12,13,14,15] [64,71]]] hn (aC h1 <| aC (qa1 h3) <| aC (qcB h3 (by simp) : (wI6 (j + n)) < ((r64.length : Nat) : Int)) <| aC (qcA qaC h3 : (r64.map qaC)[(0 + (wI6 (j + n)).toNat)]? = some (qaC x2)) <| aC (qa1 h5) <| aC (qcB h5 (by simp) : (wI6 (j + n)) < ((r64.length : Nat) : Int)) <| aC (qcA qaC h5 : (r64.map qaC)[(0 + (wI6 (j + n)).toNat)]? = some (qaC x4)) <| aC (qc4 _ _ (wU3 (x2 + sum)) _ : (r64.map qaC).set (0 + (wI6 (j + n)).toNat) (qbW (qaC x4) 0 [(T.int .u32 (wU3 (x2 + sum)))]) = (r64.set ((wI6 (j + n)).toNat) (wU3 (x2 + sum))).map qaC) <| aC (Nat.zero_le _ : 0 ≤ (0 + (wI6 (j + n)).toNat)) <| aC r0 <| aC (lq r71) <| aC r0 <| aC (by simp : r64.length = (r64.set ((wI6 (j + n)).toNat) (wU3 (x2 + sum))).length) <| aN) (ih _ _ h cx hn)
theorem qdK : ∀ K : Nat, qeE K
 | 0, c, r, h => by rw [qaO] at h; cases h
 | K + 1, .c0 .., r, h => fun cx hn => zf2 (qdK K) hn h
 | K + 1, .c1 .., r, h => fun cx hn => zf1 (qdK K) hn h
 | K + 1, .c2 .., r, h => fun cx hn => zf0 (qdK K) hn h
 | K + 1, .c3 .., r, h => fun cx hn => zfZ (qdK K) hn h
 | K + 1, .c4 .., r, h => fun cx hn => zfY (qdK K) hn h
 | K + 1, .c5 .., r, h => fun cx hn => zfX (qdK K) hn h
 | K + 1, .c6 .., r, h => fun cx hn => zfW (qdK K) hn h
 | K + 1, .c7 .., r, h => fun cx hn => zfV (qdK K) hn h
 | K + 1, .c8 .., r, h => fun cx hn => zfU (qdK K) hn h
 | K + 1, .c9 .., r, h => fun cx hn => zfT (qdK K) hn h
 | K + 1, .c10 .., r, h => fun cx hn => zdP (qdK K) hn h
 | K + 1, .c11 .., r, h => fun cx hn => zdO (qdK K) hn h
 | K + 1, .c12 .., r, h => fun cx hn => zdN (qdK K) hn h
theorem q75 {K : Nat} {a : (List Int)} {b : (List Int)} {r : ((List Int) × (List Int))} (h : qwH K a b = some r) : qc5 prog 177 [(tl 1 a qaC), (tl 1 b qaC)] (TV.tup [(false, [(T.sl 1 (r.1.map qaC))]), (false, [(T.sl 1 (r.2.map qaC))])]) :=
 qa0 [[1], [1]] (by kernel_rfl) (by simp) fun cx hn => qdK K (.c0 a b) r h cx hn
def wq (x : Int) : BitVec 64 := BitVec.ofInt 64 x
theorem zqB {x : Int} (h : 0 ≤ x ∧ x < 18446744073709551616) : (wq x).toNat = x.toNat := by
  unfold wq; rw [BitVec.toNat_ofInt]; omega
theorem zvV (v : BitVec 64) : wU6 (v.toNat : Int) = v.toNat := by
  rw [qo9]; have := v.isLt; omega
theorem ztV {x y : Int} : bits .or .u64 x y = ((wq x ||| wq y).toNat : Int) := zvV _
theorem zrW {x y : Int} : bits .and .u64 x y = ((wq x &&& wq y).toNat : Int) := zvV _
theorem zgD {x y : Int} (hx : 0 ≤ x ∧ x < 4294967296) (hy : 0 ≤ y ∧ y < 4294967296) : bits .or .u64 (qhT .u64 x 32) y = x * 4294967296 + y := by
  rw [zqI (by decide) (by decide), w_u64k, show ((32 : Int).toNat) = 32 from rfl, show (2 : Int) ^ 32 = 4294967296 by decide, Int.emod_eq_of_lt (by omega) (by omega)]
  rw [ztV, BitVec.toNat_or, zqB (by omega), zqB (by omega)]
  have h1 : (x * 4294967296).toNat = 2 ^ 32 * x.toNat := by omega
  have h2 : y.toNat < 2 ^ 32 := by omega
  rw [h1, ← Nat.two_pow_add_eq_or_of_lt h2]
  omega
theorem zvO {x : Int} (hx : 0 ≤ x ∧ x < 18446744073709551616) : bits .and .u64 x 4294967295 = x % 4294967296 := by
  rw [zrW, BitVec.toNat_and, zqB hx, zqB (by decide)]
  have : ((4294967295 : Int).toNat) = 2 ^ 32 - 1 := by decide
  rw [this, Nat.and_two_pow_sub_one_eq_mod]
  omega
theorem zaP {hi lo y : Int} (hh : 0 ≤ hi ∧ hi < y) (hl : 0 ≤ lo ∧ lo < 4294967296) (hy : 0 < y ∧ y < 4294967296) :
    Ev (fun K => qsJ K hi lo y) ((hi * 4294967296 + lo) / y, (hi * 4294967296 + lo) % y) := by
  refine qaJ ?_
  simp only [qsJ, qh8]
  have e1 : wU6 hi = hi := by rw [qo9]; omega
  have e2 : wU6 lo = lo := by rw [qo9]; omega
  have e3 : wU6 y = y := by rw [qo9]; omega
  rw [e1, e2, e3, zgD (by omega) hl]
  refine ev_t (by simp; omega) (ev_f (by simp; omega) (qeZ (by omega) (qeZ (by omega) (qeW (qaT _) ?_))))
  have h0 : 0 ≤ hi * 4294967296 + lo := by omega
  rw [Int.tdiv_eq_ediv_of_nonneg h0, Int.tmod_eq_emod_of_nonneg h0, q2K, qo9, q2K]
  have h1 : 0 ≤ (hi * 4294967296 + lo) / y := Int.ediv_nonneg h0 (by omega)
  have h2 : (hi * 4294967296 + lo) / y < 4294967296 := Int.ediv_lt_of_lt_mul hy.1 (by
    have := Int.mul_le_mul_of_nonneg_right (show hi + 1 ≤ y by omega) (show (0 : Int) ≤ 4294967296 by decide)
    rw [Int.add_mul, Int.mul_comm y] at this; omega)
  have h3 := Int.emod_nonneg (hi * 4294967296 + lo) (show y ≠ 0 by omega)
  have h4 := Int.emod_lt_of_pos (hi * 4294967296 + lo) hy.1
  rw [Int.emod_eq_of_lt h1 (by omega), Int.emod_eq_of_lt h1 h2, Int.emod_eq_of_lt h3 (by omega)]
theorem zaI {lo y : Int} (hl : 0 ≤ lo ∧ lo < 18446744073709551616) (hy : 0 < y) : Ev (fun K => qn5 K 0 lo y) (lo / y, lo % y) := by
  refine qaJ ?_
  simp only [qn5, qbA]
  refine ev_f (by simp; omega) (ev_f (by simp; omega) (ev_t rfl (qeZ (by omega) (qeZ (by omega) (qeW (qaT _) ?_)))))
  rw [Int.tdiv_eq_ediv_of_nonneg hl.1, Int.tmod_eq_emod_of_nonneg hl.1, qo9]
  have h1 : 0 ≤ lo / y := Int.ediv_nonneg hl.1 (by omega)
  have h2 : lo / y ≤ lo := Int.ediv_le_self _ hl.1
  rw [Int.emod_eq_of_lt h1 (by omega)]
theorem q4B {a : List Int} {i : Nat} (h : i < a.length) : val (a.drop i) = a[i] + 4294967296 * val (a.drop (i + 1)) := by
  rw [List.drop_eq_getElem_cons h, qpV]
theorem zvE {a : List Int} {i j : Nat} {x : Int} (h : i < j) : (a.set i x).drop j = a.drop j := by
  rw [List.drop_set, if_pos h]
theorem qw0 {a : List Int} {d : Int} (ha : Dig a) (hd : 0 < d ∧ d < 4294967296) (hs : a.length < 4611686018427387904) : ∀ (i : Nat) (r : List Int) (rest : Int), i ≤ a.length → Dig r → r.length = a.length → (0 ≤ rest ∧ rest < d) →
    val (r.drop i) * d + rest = val (a.drop i) → val r = 4294967296 ^ i * val (r.drop i) → (∀ j, j < i → r[j]? = some 0) → Ev (fun K => qc8 K (.c1 r a d rest ((i : Int) - 1))) (digs (val a / d), val a % d, true)
  | 0, r, rest, hi, hr, hl, hre, hv, hz, _ => by
    refine qaJ ?_
    simp only [qc8]
    rw [List.drop_zero, List.drop_zero] at hv
    have h1 := qb2 hr (by omega)
    have e1 : val a / d = val r := by
      rw [← hv, Int.add_comm, Int.add_mul_ediv_right _ _ (by omega), Int.ediv_eq_zero_of_lt hre.1 hre.2, Int.zero_add]
    have e2 : val a % d = rest := by
      rw [← hv, Int.add_comm, Int.add_mul_emod_self_right, Int.emod_eq_of_lt hre.1 hre.2]
    rw [e1, e2]
    exact ev_f (by simp) (qaG h1 (qaT _))
  | i + 1, r, rest, hi, hr, hl, hre, hv, hz, hzz => by
    refine qaJ ?_
    simp only [qc8]
    rw [show ((i + 1 : Nat) : Int) - 1 = (i : Int) by omega]
    have hia : i < a.length := by omega
    have hx := qe0 ha hia
    have hn0 : 0 ≤ rest * 4294967296 + a[i] := by omega
    have hq0 : 0 ≤ (rest * 4294967296 + a[i]) / d := Int.ediv_nonneg hn0 (by omega)
    have hq1 : (rest * 4294967296 + a[i]) / d < 4294967296 := Int.ediv_lt_of_lt_mul hd.1 (by
      have := Int.mul_le_mul_of_nonneg_right (show rest + 1 ≤ d by omega) (show (0 : Int) ≤ 4294967296 by decide)
      rw [Int.add_mul, Int.mul_comm d] at this; omega)
    have hr0 := Int.emod_nonneg (rest * 4294967296 + a[i]) (show d ≠ 0 by omega)
    have hr1 := Int.emod_lt_of_pos (rest * 4294967296 + a[i]) hd.1
    have hdm := Int.emod_add_mul_ediv (rest * 4294967296 + a[i]) d
    refine ev_t (by simp) (qa3 (qbN hia) (qaG (zaP hre hx hd) (qa3 (qbN (by omega)) ?_)))
    simp only
    rw [Int.toNat_natCast, qbR (by omega)]
    generalize (rest * 4294967296 + a[i]) / d = q at *
    generalize (rest * 4294967296 + a[i]) % d = t at *
    have hz0 : r[i]'(by omega) = 0 := by
      have := hzz i (by omega)
      rw [List.getElem?_eq_getElem (by omega)] at this
      exact Option.some.inj this
    have e1 : val ((r.set i q).drop i) = q + 4294967296 * val (r.drop (i + 1)) := by
      rw [q4B (by simp; omega), zvE (by omega)]
      congr 1
      simp
    refine qw0 ha hd hs i _ _ (by omega) (qpK hr i ⟨hq0, hq1⟩) (by simpa using hl) ⟨hr0, hr1⟩ ?_ ?_ (fun j hj => by rw [List.getElem?_set_ne (by omega)]; exact hzz j (by omega))
    · rw [e1, q4B hia, ← hv]; grind
    · rw [e1, qqQ (by omega), hz0, hz, Int.pow_succ]; grind
theorem qw1 {a : List Int} {d : Int} (ha : Dig a) (hd : 0 < d ∧ d < 4294967296) (hs : a.length ≤ 34359738360) : Ev (fun K => qmA K a d) (digs (val a / d), val a % d, true) := by
  refine qaJ ?_
  simp only [qmA, qc8]
  have va := qf1 (qbE ha)
  have la := qeX ha
  refine ev_f (by simp; omega) (qaG (qb2 ha (by omega)) (qeZ (by omega) ?_))
  rw [Int.toNat_natCast, qbR (by omega)]
  have := qw0 (qeG (val a)) hd (by omega) (digs (val a)).length (List.replicate (digs (val a)).length 0) 0 (Nat.le_refl _) (q8C (by decide)) (by simp) ⟨by decide, hd.1⟩
    (by rw [List.drop_of_length_le (by simp), List.drop_of_length_le (by simp)]; simp) (by rw [List.drop_of_length_le (by simp), q0L]; simp) (fun j hj => by rw [List.getElem?_replicate, if_pos hj])
  rw [va] at this
  exact this
theorem zo7 (x y : Int) : bits .or .u32 x y = bits .or .u32 y x := by rw [znY, znY, BitVec.or_comm]
theorem zoE {x y : Int} {s : Nat} (hx : 0 ≤ x ∧ x < 4294967296) (_ : 0 ≤ y ∧ y < 4294967296) (hs1 : 0 < s) (hs : s < 32) :
    ∃ d : Int, bits .or .u32 (qd2 .u32 x s) (qhT .u32 y (32 - s)) = d ∧ (0 ≤ d ∧ d < 4294967296) ∧ 2 ^ s * d + x % 2 ^ s = x + 4294967296 * (y % 2 ^ s) := by
  rw [zoC (by omega) (by show (s : Int) ≤ 32; omega), zqI (by omega) (by show (32 : Int) - s ≤ 32; omega), zvU, Int.toNat_natCast, show ((32 : Int) - s).toNat = 32 - s by omega]
  have hP : (0 : Int) < 2 ^ s := Int.pow_pos (by decide)
  have hQ : (0 : Int) < 2 ^ (32 - s) := Int.pow_pos (by decide)
  have hPQ : (2 : Int) ^ s * 2 ^ (32 - s) = 4294967296 := by rw [← Int.pow_add, show s + (32 - s) = 32 by omega]; rfl
  have hmul : y * 2 ^ (32 - s) % 4294967296 = y % 2 ^ s * 2 ^ (32 - s) := by rw [← hPQ, Int.mul_comm y, Int.mul_comm (2 ^ s), Int.mul_emod_mul_of_pos _ _ hQ, Int.mul_comm]
  have hm1 : 0 ≤ y % 2 ^ s := Int.emod_nonneg _ (by omega)
  have hm2 : y % 2 ^ s < 2 ^ s := Int.emod_lt_of_pos _ hP
  have hd1 : y % 2 ^ s * 2 ^ (32 - s) + 2 ^ (32 - s) ≤ 4294967296 := by
    have := Int.mul_le_mul_of_nonneg_right (show y % 2 ^ s + 1 ≤ 2 ^ s by omega) (Int.le_of_lt hQ)
    rw [hPQ, Int.add_mul, Int.one_mul] at this; exact this
  have hd0 : 0 ≤ y % 2 ^ s * 2 ^ (32 - s) := Int.mul_nonneg hm1 (Int.le_of_lt hQ)
  have hx0 : 0 ≤ x / 2 ^ s := Int.ediv_nonneg hx.1 (by omega)
  have hx1 : x / 2 ^ s < 2 ^ (32 - s) := Int.ediv_lt_of_lt_mul hP (by rw [Int.mul_comm, hPQ]; exact hx.2)
  rw [hmul, zo7, zj1 (s := 32 - s) ⟨hd0, by omega⟩ (Int.mul_emod_left _ _) ⟨hx0, hx1⟩ (by omega)]
  have hdiv := Int.emod_add_mul_ediv x (2 ^ s)
  refine ⟨_, rfl, ⟨by omega, by omega⟩, ?_⟩
  rw [← hPQ]
  generalize x / 2 ^ s = q at *
  generalize x % 2 ^ s = r at *
  generalize (2 : Int) ^ s = P at *
  generalize (2 : Int) ^ (32 - s) = Q at *
  rw [← hdiv]
  grind
theorem q5Y {a : List Int} (ha : Dig a) {s : Nat} (hs1 : 0 < s) (hs : s < 32) (hl : a.length < 4611686018427387904) : ∀ (m i : Nat) (r : List Int), i + m = a.length → Dig r → r.length = a.length →
    2 ^ s * val (r.take i) + a.getD 0 0 % 2 ^ s = val (a.take i) + 4294967296 ^ i * (a.getD i 0 % 2 ^ s) → (∀ j, i ≤ j → r[j]? = a[j]?) → Ev (fun K => qcP K (.c1 r s a.length i)) (digs (val a / 2 ^ s))
  | 0, i, r, hi, hr, hrl, hv, hz => by
    refine qaJ ?_
    simp only [qcP]
    have h1 := qb2 hr (by omega)
    rw [List.take_of_length_le (by omega), List.take_of_length_le (by omega)] at hv
    have e0 : a.getD i 0 = 0 := by simp [List.getD, List.getElem?_eq_none (show a.length ≤ i by omega)]
    rw [e0] at hv
    have hP : (0 : Int) < 2 ^ s := Int.pow_pos (by decide)
    have hm1 : 0 ≤ a.getD 0 0 % 2 ^ s := Int.emod_nonneg _ (by omega)
    have hm2 : a.getD 0 0 % 2 ^ s < 2 ^ s := Int.emod_lt_of_pos _ hP
    have e1 : val a / 2 ^ s = val r := by
      rw [show val a = a.getD 0 0 % 2 ^ s + 2 ^ s * val r by simp at hv ⊢; omega, Int.add_mul_ediv_left _ _ (by omega), Int.ediv_eq_zero_of_lt hm1 hm2, Int.zero_add]
    rw [e1]
    exact ev_f (by simp; omega) (qaG h1 (qaT _))
  | m + 1, i, r, hi, hr, hrl, hv, hz => by
    refine qaJ ?_
    simp only [qcP]
    have hia : i < a.length := by omega
    have hir : i < r.length := by omega
    have ei : r[i] = a[i] := by
      have := hz i (Nat.le_refl _)
      rw [List.getElem?_eq_getElem hir, List.getElem?_eq_getElem hia] at this
      exact Option.some.inj this
    have hx := qe0 hr hir
    have gi0 : a.getD i 0 = a[i] := by simp [List.getD, List.getElem?_eq_getElem hia]
    have next : ∀ d y : Int, (0 ≤ d ∧ d < 4294967296) → a.getD (i + 1) 0 = y → 2 ^ s * d + a[i] % 2 ^ s = a[i] + 4294967296 * (y % 2 ^ s) → Ev (fun K => qcP K (.c3 (r.set i d) s a.length i)) (digs (val a / 2 ^ s)) := by
      intro d y hd hy he
      refine qaJ ?_
      simp only [qcP]
      rw [qbR (by omega), show (i : Int) + 1 = ((i + 1 : Nat) : Int) by omega]
      refine q5Y ha hs1 hs hl m (i + 1) _ (by omega) (qpK hr i hd) (by simpa using hrl) ?_ (fun j hj => by rw [List.getElem?_set_ne (by omega)]; exact hz j (by omega))
      rw [qeB (by simpa using hir), qeB hia, hy, Int.pow_succ]
      have e3 : (r.set i d).take i = r.take i := by rw [List.take_set_of_le (Nat.le_refl _)]
      rw [e3]
      simp only [List.getElem_set_self]
      rw [gi0] at hv
      generalize (4294967296 : Int) ^ i = A at *
      generalize (2 : Int) ^ s = P at *
      grind
    refine ev_t (by simp; omega) ?_
    rw [qbR (x := (i : Int) + 1) (by omega), qbR (x := (32 : Int) - s) (by omega)]
    by_cases hin : i + 1 < r.length
    · have hin2 : i + 1 < a.length := by omega
      have ej : r[i + 1] = a[i + 1] := by
        have := hz (i + 1) (by omega)
        rw [List.getElem?_eq_getElem hin, List.getElem?_eq_getElem hin2] at this
        exact Option.some.inj this
      have hy := qe0 hr hin
      obtain ⟨d, e1, hd, e2⟩ := zoE hx hy hs1 hs
      rw [show (i : Int) + 1 = ((i + 1 : Nat) : Int) by omega]
      refine ev_t (by simp; omega) (qa3 (qbN hin) (qeZ (by omega) (qa3 (qbN hir) (qeZ (by omega) (qa3 (qbN hir) ?_)))))
      rw [e1, Int.toNat_natCast]
      rw [ei] at e2
      exact next d _ hd (by rw [ej]; simp [List.getD, List.getElem?_eq_getElem hin2]) e2
    · obtain ⟨d, e1, hd, e2⟩ := zoE hx (show 0 ≤ (0 : Int) ∧ (0 : Int) < 4294967296 by decide) hs1 hs
      have e4 : qhT .u32 0 ((32 : Int) - s) = 0 := by rw [zqI (by omega) (by show (32 : Int) - s ≤ 32; omega), Int.zero_mul]; rfl
      rw [e4] at e1
      refine ev_f (by simp; omega) (qa3 (qbN hir) (qeZ (by omega) (qa3 (qbN hir) ?_)))
      rw [e1, Int.toNat_natCast]
      rw [ei] at e2
      exact next d 0 hd (by simp [List.getD, List.getElem?_eq_none (show a.length ≤ i + 1 by omega)]) e2
theorem zkO {a : List Int} (ha : Dig a) {s : Nat} (hs : s < 32) (hl : a.length ≤ 34359738360) : Ev (fun K => qwY K a s) (digs (val a / 2 ^ s)) := by
  refine qaJ ?_
  simp only [qwY, qcP]
  have va := qf1 (qbE ha)
  have la := qeX ha
  have e0 : max (s : Int) 0 = s := by omega
  have e1 : wI6 (Int.tdiv (s : Int) 32) = 0 := by
    rw [Int.tdiv_eq_ediv_of_nonneg (by omega), qbR (by omega)]; omega
  have e2 : Int.tmod (s : Int) 32 = s := by
    rw [Int.tmod_eq_emod_of_nonneg (by omega)]; omega
  rw [e0, e1, e2]
  refine qaG (qb2 ha (by omega)) ?_
  by_cases h : digs (val a) = []
  · refine ev_t (by simp [h]) (qeW (qaT _) ?_)
    rw [(qlJ (qbE ha)).1 h, Int.zero_ediv, qgT]
  · have hp := List.length_pos_iff.2 h
    refine ev_f (by simp; omega) (qeZ (by simp) ?_)
    rw [show ((0 : Int).toNat) = 0 from rfl, List.drop_zero, List.take_length]
    refine ev_t (by simpa using hp) (qeZ (by omega) ?_)
    by_cases h0 : s = 0
    · subst h0
      refine ev_f (by simp) ?_
      have := zb7 (val a) (qbE ha) (by omega)
      rw [Int.pow_zero, Int.ediv_one]
      exact qaG this (qaT _)
    · refine ev_t (by simp; omega) ?_
      have := q5Y (qeG (val a)) (s := s) (by omega) hs (by omega) _ 0 _ (Nat.zero_add _) (qeG (val a)) rfl (by simp) (fun _ _ => rfl)
      rw [va] at this
      rw [List.length_map]
      exact this
theorem zw6 : ∀ i : Fin 256, ∃ t : Fin 9, qbY[i.val]? = some (t.val : Int) ∧ (i.val = 0 ∨ (1 ≤ t.val ∧ 2 ^ (t.val - 1) ≤ i.val ∧ i.val < 2 ^ t.val)) := by decide +kernel
theorem tab_at {i : Int} (h : 0 < i ∧ i < 256) : ∃ t : Nat, gi qbY i = some (t : Int) ∧ 1 ≤ t ∧ t ≤ 8 ∧ (2 : Int) ^ (t - 1) ≤ i ∧ i < 2 ^ t := by
  obtain ⟨t, h1, h2⟩ := zw6 ⟨i.toNat, by omega⟩
  simp only at h1 h2
  have h3 : i = ((i.toNat : Nat) : Int) := by omega
  rcases h2 with h2 | ⟨h4, h5, h6⟩
  · omega
  · refine ⟨t.val, ?_, h4, by have := t.isLt; omega, ?_, ?_⟩
    · unfold gi; rw [if_pos (by omega)]; exact h1
    · rw [h3]; exact_mod_cast h5
    · rw [h3]; exact_mod_cast h6
theorem zaF {x : Int} (hx : 0 < x ∧ x < 4294967296) : ∃ t : Nat, Ev (fun K => qjE K x) (t : Int) ∧ 1 ≤ t ∧ t ≤ 32 ∧ (2 : Int) ^ (t - 1) ≤ x ∧ x < 2 ^ t := by
  have s16 : qd2 .u32 x 16 = x / 65536 := zoD _ _ _
  have s8 : qd2 .u32 x 8 = x / 256 := zoD _ _ _
  have key : ∀ (k : Nat) (y : Int), y = x / 2 ^ k → 0 < y → y < 256 → k ≤ 24 → ∃ t : Nat, (gi qbY y = some (t : Int)) ∧ 1 ≤ t ∧ t ≤ 8 ∧ (2 : Int) ^ (k + t - 1) ≤ x ∧ x < 2 ^ (k + t) := by
    intro k y e h0 h1 hk
    obtain ⟨t, g1, g2, g3, g4, g5⟩ := tab_at ⟨h0, h1⟩
    have hP : (0 : Int) < 2 ^ k := Int.pow_pos (by decide)
    have hd := Int.emod_add_mul_ediv x (2 ^ k)
    have hm1 := Int.emod_nonneg x (show (2 : Int) ^ k ≠ 0 by omega)
    have hm2 := Int.emod_lt_of_pos x hP
    rw [← e] at hd
    refine ⟨t, g1, g2, g3, ?_, ?_⟩
    · rw [show k + t - 1 = k + (t - 1) by omega, Int.pow_add]
      have := Int.mul_le_mul_of_nonneg_left g4 (Int.le_of_lt hP)
      omega
    · rw [Int.pow_add]
      have := Int.mul_le_mul_of_nonneg_left (show y + 1 ≤ 2 ^ t by omega) (Int.le_of_lt hP)
      rw [Int.mul_add] at this
      omega
  by_cases h1 : 65536 ≤ x
  · by_cases h2 : 256 ≤ x / 65536
    · obtain ⟨t, g1, g2, g3, g4, g5⟩ := key 24 (x / 65536 / 256) (by show x / 65536 / 256 = x / 16777216; omega) (by omega) (by omega) (by omega)
      refine ⟨24 + t, ?_, by omega, by omega, g4, g5⟩
      refine qaJ ?_
      simp only [qjE, qfI]
      have s24 : qd2 .u32 (x / 65536) 8 = x / 65536 / 256 := zoD _ _ _
      rw [s16, s24, show wU1 (x / 65536 / 256) = x / 65536 / 256 by rw [w_u8]; omega]
      refine ev_t (by simpa using h1) (ev_t (by simpa using h2) (qa3 g1 (qeW (qaT _) ?_)))
      rw [qbR (x := (t : Int)) (by omega), qbR (x := (16 : Int) + 8) (by omega), qbR (by omega)]; omega
    · obtain ⟨t, g1, g2, g3, g4, g5⟩ := key 16 (x / 65536) rfl (by omega) (by omega) (by omega)
      refine ⟨16 + t, ?_, by omega, by omega, g4, g5⟩
      refine qaJ ?_
      simp only [qjE, qfI]
      rw [s16, show wU1 (x / 65536) = x / 65536 by rw [w_u8]; omega]
      refine ev_t (by simpa using h1) (ev_f (by simpa using h2) (qa3 g1 (qeW (qaT _) ?_)))
      rw [qbR (x := (t : Int)) (by omega), qbR (by omega)]; omega
  · by_cases h2 : 256 ≤ x
    · obtain ⟨t, g1, g2, g3, g4, g5⟩ := key 8 (x / 256) rfl (by omega) (by omega) (by omega)
      refine ⟨8 + t, ?_, by omega, by omega, g4, g5⟩
      refine qaJ ?_
      simp only [qjE, qfI]
      rw [s8, show wU1 (x / 256) = x / 256 by rw [w_u8]; omega]
      refine ev_f (by simpa using h1) (ev_t (by simpa using h2) (qa3 g1 (qeW (qaT _) ?_)))
      rw [qbR (x := (t : Int)) (by omega), qbR (x := (0 : Int) + 8) (by omega), qbR (by omega)]; omega
    · obtain ⟨t, g1, g2, g3, g4, g5⟩ := key 0 x (by simp) (by omega) (by omega) (by omega)
      refine ⟨0 + t, ?_, by omega, by omega, g4, g5⟩
      refine qaJ ?_
      simp only [qjE, qfI]
      rw [show wU1 x = x by rw [w_u8]; omega]
      refine ev_f (by simpa using h1) (ev_f (by simpa using h2) (qa3 g1 (qeW (qaT _) ?_)))
      rw [qbR (x := (t : Int)) (by omega), qbR (by omega)]; omega
theorem qxN {x : Int} (hx : 0 < x ∧ x < 4294967296) : ∃ s : Nat, Ev (fun K => qh7 K x) (s : Int) ∧ s ≤ 31 ∧ (2147483648 : Int) ≤ x * 2 ^ s ∧ x < 2 ^ (32 - s) := by
  obtain ⟨t, g1, g2, g3, g4, g5⟩ := zaF hx
  refine ⟨32 - t, ?_, by omega, ?_, by rw [show 32 - (32 - t) = t by omega]; exact g5⟩
  · refine qaJ ?_
    simp only [qh7, qeP]
    refine qaG g1 (qeW (qaT _) ?_)
    rw [qbR (by omega)]; omega
  · have hP : (0 : Int) < 2 ^ (32 - t) := Int.pow_pos (by decide)
    have h1 := Int.mul_le_mul_of_nonneg_right g4 (Int.le_of_lt hP)
    rw [← Int.pow_add, show t - 1 + (32 - t) = 31 by omega] at h1
    exact h1
theorem qwU {r : List Int} {n : Nat} (hn : n ≤ r.length) : Ev (fun K => qbG K (.c2 r n)) (if n = 0 then none else some n) := by
  refine qaJ ?_
  simp only [qbG]
  by_cases h : n = 0
  · subst h; exact ev_t (by simp) (qaT _)
  · rw [if_neg h]
    refine ev_f (by simpa using h) (qeZ (by omega) (qeW (qaT _) ?_))
    rw [Int.toNat_natCast, Nat.sub_zero]
theorem qwV {r : List Int} (hd : Dig r) (hs : r.length < 4611686018427387904) : ∀ {n : Nat}, n ≤ r.length → val (r.take n) = val r →
    Ev (fun K => qbG K (.c1 r n)) (if (digs (val r)).length = 0 then none else some (digs (val r)).length)
  | 0, hn, hv => by
    refine qaJ ?_
    simp only [qbG]
    have := qwU (r := r) (Nat.zero_le _)
    rw [List.take_zero, q6X] at hv
    rw [← hv, qgT]
    exact ev_f (by simp) this
  | n + 1, hn, hv => by
    refine qaJ ?_
    simp only [qbG]
    refine ev_t (by simp) ?_
    rw [qbR (by omega), show ((n + 1 : Nat) : Int) - 1 = (n : Int) by omega]
    refine qa3 (qbN (by omega)) ?_
    by_cases h : r[n]'(by omega) = 0
    · refine ev_t (by simp [h]) (qwV hd hs (by omega) ?_)
      rw [← hv, qxR (by rw [List.getElem?_eq_getElem (by omega), h])]
    · refine ev_f (by simp [h]) ?_
      have e : digs (val r) = r.take (n + 1) := by
        rw [← hv]
        refine q08 (q8D (qjN hd _) fun x hx => ?_)
        rw [List.getLast?_take, if_neg (by omega), Nat.add_sub_cancel, List.getElem?_eq_getElem (by omega)] at hx
        simp at hx
        rw [← hx]; exact h
      have el : (digs (val r)).length = n + 1 := by rw [e, List.length_take]; omega
      rw [el]
      exact qwU hn
theorem qwW {r : List Int} (hd : Dig r) (hs : r.length < 4611686018427387904) : Ev (fun K => qjB K r) (if (digs (val r)).length = 0 then none else some (digs (val r)).length) := by
  refine qaJ ?_
  simp only [qjB, qbG]
  exact qwV hd hs (Nat.le_refl _) (by rw [List.take_length])
theorem zn8 {r : List Int} (hd : Dig r) : r.take (digs (val r)).length = digs (val r) :=
  (congrArg (List.take (digs (val r)).length) (zqV hd)).trans (List.take_left' rfl)
def optD (z : Int) : Option (List Int) := if (digs z).length = 0 then none else some (digs z)
theorem q3E {r0 : List Int} (h0 : Dig r0) {s : Nat} (hs1 : 0 < s) (hs : s < 32) (hl : r0.length < 4611686018427387904) (hlast : val r0 * 2 ^ s < 4294967296 ^ r0.length) : ∀ (m i : Nat) (l : Int) (r : List Int), i + m = r0.length → (0 ≤ l ∧ l < 2 ^ s) → Dig r → r.length = r0.length →
    val r + 4294967296 ^ i * l = 2 ^ s * val (r0.take i) + 4294967296 ^ i * val (r0.drop i) → (∀ j, i ≤ j → r[j]? = r0[j]?) → Ev (fun K => qdT K (.c1 r s l i)) (optD (val r0 * 2 ^ s))
  | 0, i, l, r, hi, hlo, hr, hrl, hv, hz => by
    refine qaJ ?_
    simp only [qdT]
    refine ev_f (by simp; omega) ?_
    have h1 := qwW hr (by omega)
    rw [List.take_of_length_le (by omega), List.drop_of_length_le (by omega), q6X, Int.mul_zero, Int.add_zero, Int.mul_comm (2 ^ s)] at hv
    have hp := qe2 i
    have hn := qbE hr
    rw [show r0.length = i by omega] at hlast
    have hl0 : l = 0 := by
      apply Classical.byContradiction; intro hne
      have := Int.mul_le_mul_of_nonneg_left (show 1 ≤ l by omega) (Int.le_of_lt hp)
      omega
    subst hl0
    rw [Int.mul_zero, Int.add_zero] at hv
    refine qaG h1 ?_
    have htd := zn8 hr
    have hle := qeX hr
    rw [hv] at htd hle ⊢
    unfold optD
    by_cases h : (digs (val r0 * 2 ^ s)).length = 0
    · rw [if_pos h, if_pos h]; exact qaT _
    · rw [if_neg h, if_neg h]
      refine qeZ hle (qeW (qaT _) ?_)
      rw [htd]
  | m + 1, i, l, r, hi, hlo, hr, hrl, hv, hz => by
    refine qaJ ?_
    simp only [qdT]
    have hir : i < r.length := by omega
    have hi0 : i < r0.length := by omega
    have hx := qe0 hr hir
    obtain ⟨d, q, e1, e2, hd, hq, e3⟩ := zoF hx hlo hs
    refine ev_t (by simp; omega) (qa3 (qbN hir) (qeZ (by omega) (qa3 (qbN hir) (qeZ (by rw [qbR (by omega)]; omega) ?_))))
    rw [qbR (x := (32 : Int) - s) (by omega), e1, e2, Int.toNat_natCast, qbR (by omega), show (i : Int) + 1 = ((i + 1 : Nat) : Int) by omega]
    refine q3E h0 hs1 hs hl hlast m (i + 1) q _ (by omega) hq (qpK hr i hd) (by simpa using hrl) ?_ (fun j hj => ?_)
    · have e4 : r[i] = r0[i] := by
        have := hz i (Nat.le_refl _)
        rw [List.getElem?_eq_getElem hir, List.getElem?_eq_getElem hi0] at this
        exact Option.some.inj this
      rw [qqQ hir, qeB hi0, Int.pow_succ]
      rw [List.drop_eq_getElem_cons hi0, qpV] at hv
      rw [e4] at e3 ⊢
      generalize (4294967296 : Int) ^ i = A at *
      generalize (2 : Int) ^ s = P at *
      grind
    · rw [List.getElem?_set_ne (by omega)]; exact hz j (by omega)
theorem zhB {a : List Int} (ha : Dig a) {n : Nat} (hn : n < 32) (hs : a.length ≤ 34359738360 - 524288) : Ev (fun K => quG K a n) (optD (val a * 2 ^ n)) := by
  refine qaJ ?_
  simp only [quG, qdT]
  have va := qf1 (qbE ha)
  have la := qeX ha
  refine qaG (qb2 ha (by omega)) ?_
  by_cases h1 : digs (val a) = []
  · refine ev_t (by simp [h1]) (qeW (qaT _) ?_)
    rw [(qlJ (qbE ha)).1 h1, Int.zero_mul]; simp [optD, qgT]
  · refine ev_f (by simpa using h1) ?_
    have e0 : min (max (n : Int) 0) 16777216 = n := by omega
    have e1 : wI6 (Int.tdiv (n : Int) 32) = 0 := by
      rw [Int.tdiv_eq_ediv_of_nonneg (by omega), qbR (by omega)]; omega
    have e2 : Int.tmod (n : Int) 32 = n := by
      rw [Int.tmod_eq_emod_of_nonneg (by omega)]; omega
    rw [e0, e1, e2, qbR (x := (0 : Int) + ((digs (val a)).length : Int)) (by omega), qbR (by omega),
      show (0 : Int) + ((digs (val a)).length : Int) + 1 = (((digs (val a)).length + 1 : Nat) : Int) by omega]
    simp only [Int.toNat_natCast, List.length_replicate, Nat.zero_add, Int.toNat_zero]
    refine qeZ (by omega) (qeZ (by omega) (qeZ (by omega) ?_))
    have hcp : qeV (List.replicate ((digs (val a)).length + 1) (0 : Int)) 0 ((digs (val a)).length + 1 - 0) (digs (val a)) = digs (val a) ++ [0] := by
      unfold qeV
      rw [if_pos (by simp), List.take_of_length_le (by omega)]
      unfold qbW
      rw [List.take_zero, List.drop_replicate, Nat.zero_add, show (digs (val a)).length + 1 - (digs (val a)).length = 1 by omega]
      rfl
    rw [hcp]
    have hd : Dig (digs (val a) ++ [0]) := q4Q.2 ⟨qeG _, qkO.2 ⟨by decide, qxZ⟩⟩
    have hv : val (digs (val a) ++ [0]) = val a := by rw [qkQ, va]; simp
    have hl : (digs (val a) ++ [0]).length = (digs (val a)).length + 1 := by simp
    by_cases h2 : n = 0
    · refine ev_f (by simp [h2]) ?_
      have := qwW hd (by omega)
      refine qaG this ?_
      rw [h2, Int.pow_zero, Int.mul_one]
      have htd := zn8 hd
      have hle := qeX hd
      rw [hv] at htd hle ⊢
      unfold optD
      by_cases h : (digs (val a)).length = 0
      · rw [if_pos h, if_pos h]; exact qaT _
      · rw [if_neg h, if_neg h]
        refine qeZ hle (qeW (qaT _) ?_)
        rw [htd]
    · refine ev_t (by simp; omega) ?_
      have hlast : val (digs (val a) ++ [0]) * 2 ^ n < 4294967296 ^ (digs (val a) ++ [0]).length := by
        rw [hv, hl, Int.pow_succ]
        have h3 := qlD (qeG (val a))
        rw [va] at h3
        have h4 : (2 : Int) ^ n < 4294967296 := by
          have : (2 : Nat) ^ n ≤ 2 ^ 31 := Nat.pow_le_pow_right (by decide) (by omega)
          have : ((2 ^ n : Nat) : Int) ≤ ((2 ^ 31 : Nat) : Int) := by exact_mod_cast this
          simp at this; omega
        have h8 := qbE ha
        calc val a * 2 ^ n ≤ val a * 4294967296 := Int.mul_le_mul_of_nonneg_left (Int.le_of_lt h4) h8
          _ < 4294967296 ^ (digs (val a)).length * 4294967296 := Int.mul_lt_mul_of_pos_right h3 (by decide)
      have := q3E hd (s := n) (by omega) (by omega) (by omega) hlast _ 0 0 _ (Nat.zero_add _) ⟨Int.le_refl 0, Int.pow_pos (by decide)⟩ hd rfl (by simp) (fun _ _ => rfl)
      rw [hv] at this
      exact this
def Top (k : Nat) (u : List Int) : Prop := ∀ j, k ≤ j → j < u.length → u[j]? = some 0
theorem zgV {k : Nat} {u : List Int} (h : Top k u) : val u = val (u.take k) := by
  by_cases hk : k ≤ u.length
  · rw [qoG u k hk, zqE (l := u.drop k)]
    · simp
    · intro x hx
      obtain ⟨j, hj, rfl⟩ := List.getElem_of_mem hx
      have := h (k + j) (by omega) (by simp at hj; omega)
      simp only [List.getElem_drop]
      rw [List.getElem?_eq_getElem (by simp at hj; omega)] at this
      exact Option.some.inj this
  · rw [List.take_of_length_le (by omega)]
theorem top_lt {k : Nat} {u : List Int} (hu : Dig u) (h : Top k u) : val u < 4294967296 ^ k := by
  rw [zgV h]
  have h1 := qlD (qjN hu k)
  have h2 := qq8 (show (u.take k).length ≤ k by rw [List.length_take]; omega)
  omega
theorem zn7 {k : Nat} {u : List Int} (hu : Dig u) (h : val u < 4294967296 ^ k) : Top k u := by
  intro j hj hjl
  rw [List.getElem?_eq_getElem hjl]
  congr 1
  have h1 := qoG u j (by omega)
  rw [q4B hjl] at h1
  have h2 := qbE (qjN hu j)
  have h3 := qbE (zvF hu (j + 1))
  have h4 := qe0 hu hjl
  have h5 := qq8 hj
  have h6 := qe2 j
  apply Classical.byContradiction; intro hne
  have := Int.mul_le_mul_of_nonneg_left (show 1 ≤ u[j] + 4294967296 * val (u.drop (j + 1)) by omega) (Int.le_of_lt h6)
  omega
theorem zgW {k i : Nat} {u : List Int} {x : Int} (h : Top k u) (hi : i < k) : Top k (u.set i x) := by
  intro j hj hjl
  rw [List.getElem?_set_ne (by omega)]
  exact h j hj (by simpa using hjl)
theorem zw4 {u : List Int} {k : Nat} (hk : k + 2 < u.length) (h : Top (k + 3) u) : val u = val (u.take k) + 4294967296 ^ k * (u[k] + 4294967296 * u[k + 1] + 18446744073709551616 * u[k + 2]) := by
  rw [zgV h, qeB (i := k + 2) (by omega), qeB (i := k + 1) (by omega), qeB (i := k) (by omega), show (4294967296 : Int) ^ (k + 2) = 4294967296 ^ k * 18446744073709551616 by rw [Int.pow_add]; rfl, Int.pow_succ]
  generalize (4294967296 : Int) ^ k = A
  grind
structure Dv (v : List Int) (n s : Nat) (top next : Int) : Prop where
  dig : Dig v
  len : v.length = n
  two : 2 ≤ n
  small : n < 2305843009213693952
  sh : s < 32
  htop : v[n - 1]? = some top
  hnext : v[n - 2]? = some next
  great : 2147483648 ≤ top
theorem Dv.form {v : List Int} {n s : Nat} {top next : Int} (h : Dv v n s top next) : ∃ w, val v = w + 4294967296 ^ (n - 2) * (next + 4294967296 * top) ∧ 0 ≤ w ∧ w < 4294967296 ^ (n - 2) ∧ (0 ≤ next ∧ next < 4294967296) ∧ (2147483648 ≤ top ∧ top < 4294967296) := by
  have h1 := h.len
  have h2 := h.two
  obtain ⟨g1, e1⟩ := List.getElem?_eq_some_iff.1 h.htop
  obtain ⟨g2, e2⟩ := List.getElem?_eq_some_iff.1 h.hnext
  have d1 := qe0 h.dig g1
  have d2 := qe0 h.dig g2
  refine ⟨val (v.take (n - 2)), ?_, qbE (qjN h.dig _), ?_, by omega, by have := h.great; omega⟩
  · have e : val v = val (v.take (n - 2 + 1 + 1)) := by rw [List.take_of_length_le (by omega)]
    rw [e, qeB (by omega), qeB (by omega), Int.pow_succ, e2]
    have e3 : v[n - 2 + 1]'(by omega) = top := by rw [← e1]; congr 1; omega
    rw [e3]
    generalize (4294967296 : Int) ^ (n - 2) = A
    grind
  · have := qlD (qjN h.dig (n - 2))
    rw [List.length_take, Nat.min_eq_left (by omega)] at this
    exact this
theorem zo2 {v : List Int} {n s : Nat} {top next : Int} (h : Dv v n s top next) (j : Nat) :
    (top * 4294967296 + next) * 4294967296 ^ (j + n - 2) ≤ 4294967296 ^ j * val v ∧ 4294967296 ^ j * val v < (top * 4294967296 + next + 1) * 4294967296 ^ (j + n - 2) := by
  obtain ⟨w, e, h0, h1, _, _⟩ := h.form
  have h2 := h.two
  rw [e, show j + n - 2 = j + (n - 2) by omega, Int.pow_add]
  have hA := qe2 j
  have hw := Int.mul_nonneg (Int.le_of_lt hA) h0
  have hw2 := Int.mul_lt_mul_of_pos_left h1 hA
  generalize (4294967296 : Int) ^ j = A at *
  generalize (4294967296 : Int) ^ (n - 2) = C at *
  constructor <;> grind
theorem zrQ {r71 v u : List Int} {n s j : Nat} {top next : Int} {res : List Int × List Int} (hv : Dv v n s top next) (hu : Dig u) (hl : j + n < u.length) (hls : u.length < 2305843009213693952) (ht : Top (j + n + 1) u)
    (hU : val u < 4294967296 * (4294967296 ^ j * val v))
    (hk : ∀ g : Int, 0 ≤ g → g < 4294967296 → (g - 1) * (4294967296 ^ j * val v) ≤ val u → val u < (g + 1) * (4294967296 ^ j * val v) → Ev (fun K => qaO K (.c6 u r71 n s v top next j g)) res) :
    ∀ (m : Nat) (g rest : Int), g.toNat = m → 0 ≤ g → g < 17179869184 → 0 ≤ rest → rest < 4294967296 → g * top + rest = u[j + n] * 4294967296 + u[j + n - 1]'(by omega) → val u < (g + 1) * (4294967296 ^ j * val v) →
      Ev (fun K => qaO K (.c4 u r71 n s v top next j g rest)) res := by
  have h2 := hv.two
  obtain ⟨w, ev, _, _, hnx, htp⟩ := hv.form
  obtain ⟨b1, b2⟩ := zo2 hv j
  have e3 := zw4 (u := u) (k := j + n - 2) (by omega) (by rw [show j + n - 2 + 3 = j + n + 1 by omega]; exact ht)
  have ei1 : u[j + n - 2 + 1]'(by omega) = u[j + n - 1]'(by omega) := by congr 1; omega
  have ei2 : u[j + n - 2 + 2]'(by omega) = u[j + n] := by congr 1; omega
  rw [ei1, ei2] at e3
  have l1 := qbE (qjN hu (j + n - 2))
  have l2 := qlD (qjN hu (j + n - 2))
  rw [List.length_take, Nat.min_eq_left (by omega)] at l2
  have d0 := qe0 hu (show j + n - 2 < u.length by omega)
  have d1 := qe0 hu (show j + n - 1 < u.length by omega)
  have d2 := qe0 hu (show j + n < u.length by omega)
  have hP := qe2 (j + n - 2)
  have hUn := qbE hu
  have hVn : 0 ≤ 4294967296 ^ j * val v := Int.mul_nonneg (Int.le_of_lt (qe2 j)) (qbE hv.dig)
  generalize hu2 : u[j + n - 2]'(by omega) = u2 at *
  generalize hu1 : u[j + n - 1]'(by omega) = u1 at *
  generalize hu0 : u[j + n]'(by omega) = u0 at *
  generalize (4294967296 : Int) ^ (j + n - 2) = P at *
  generalize 4294967296 ^ j * val v = W at *
  have hlo : ((u0 * 4294967296 + u1) * 4294967296 + u2) * P ≤ val u := by
    have : ((u0 * 4294967296 + u1) * 4294967296 + u2) * P = P * (u2 + 4294967296 * u1 + 18446744073709551616 * u0) := by grind
    omega
  have hhi : val u < ((u0 * 4294967296 + u1) * 4294967296 + u2 + 1) * P := by
    have : ((u0 * 4294967296 + u1) * 4294967296 + u2 + 1) * P = P * (u2 + 4294967296 * u1 + 18446744073709551616 * u0) + P := by grind
    omega
  have hu0t : u0 ≤ top := by
    apply Classical.byContradiction; intro hne
    have h3 : (u0 * 4294967296 * 4294967296) * P ≤ val u := by
      have := Int.mul_le_mul_of_nonneg_right (show u0 * 4294967296 * 4294967296 ≤ (u0 * 4294967296 + u1) * 4294967296 + u2 by omega) (Int.le_of_lt hP)
      omega
    have h4 : ((top * 4294967296 + next + 1) * 4294967296) * P ≤ (u0 * 4294967296 * 4294967296) * P := Int.mul_le_mul_of_nonneg_right (by omega) (Int.le_of_lt hP)
    have h5 : ((top * 4294967296 + next + 1) * 4294967296) * P = 4294967296 * ((top * 4294967296 + next + 1) * P) := by grind
    omega
  -- the end of the loop
  have fin : ∀ g rest : Int, 0 ≤ g → g < 4294967296 → g * top + rest = u0 * 4294967296 + u1 → g * next ≤ rest * 4294967296 + u2 → val u < (g + 1) * W → Ev (fun K => qaO K (.c6 u r71 n s v top next j g)) res := by
    intro g rest g0 g1 e hle hgu
    refine hk g g0 g1 (zxL hP g0 (by omega) hVn hUn b2 hlo ?_) hgu
    have : g * (top * 4294967296 + next) = (g * top) * 4294967296 + g * next := by grind
    omega
  intro m
  induction m with
  | zero =>
    intro g rest hm g0 g1 r0 r1 e hgu
    have : g = 0 := by omega
    subst this
    refine qaJ ?_
    simp only [qaO]
    refine ev_f (by simp) ?_
    rw [qbR (x := (j : Int) + n) (by omega), qbR (by omega), show (j : Int) + n - 2 = ((j + n - 2 : Nat) : Int) by omega]
    refine qa3 (qbN (by omega)) (ev_f ?_ (fin 0 rest (by omega) (by omega) e (by omega) hgu))
    rw [hu2, Int.zero_mul, qo9, qo9, Int.emod_eq_of_lt d0.1 (by omega), zgD ⟨r0, r1⟩ d0]
    simp; omega
  | succ m ih =>
    intro g rest hm g0 g1 r0 r1 e hgu
    have dec : val u < g * W → Ev (fun K => bif decide (4294967296 ≤ wU6 (rest + top)) then qaO K (.c6 u r71 n s v top next j (wU6 (g - 1))) else qaO K (.c4 u r71 n s v top next j (wU6 (g - 1)) (wU6 (rest + top)))) res := by
      intro hlt
      rw [qo9, qo9, Int.emod_eq_of_lt (by omega) (by omega), Int.emod_eq_of_lt (by omega) (by omega)]
      have e' : (g - 1) * top + (rest + top) = u0 * 4294967296 + u1 := by rw [Int.sub_mul]; omega
      by_cases hb : 4294967296 ≤ rest + top
      · refine ev_t (by simpa using hb) ?_
        have hg : g - 1 < 4294967296 := by
          apply Classical.byContradiction; intro hne
          have := Int.mul_le_mul_of_nonneg_right (show 4294967296 ≤ g - 1 by omega) (show 0 ≤ top by omega)
          omega
        refine fin (g - 1) (rest + top) (by omega) hg e' ?_ (by rw [Int.sub_add_cancel]; exact hlt)
        have := q64 ⟨show 0 ≤ g - 1 by omega, hg⟩ hnx
        omega
      · refine ev_f (by simpa using hb) (ih (g - 1) (rest + top) (by omega) (by omega) (by omega) (by omega) (by omega) e' (by rw [Int.sub_add_cancel]; exact hlt))
    refine qaJ ?_
    simp only [qaO]
    by_cases hg : 4294967296 ≤ g
    · refine ev_t (by simpa using hg) (dec ?_)
      have := Int.mul_le_mul_of_nonneg_right hg hVn
      omega
    · refine ev_f (by simpa using hg) ?_
      rw [qbR (x := (j : Int) + n) (by omega), qbR (by omega), show (j : Int) + n - 2 = ((j + n - 2 : Nat) : Int) by omega]
      refine qa3 (qbN (by omega)) ?_
      have hgn := q64 ⟨g0, show g < 4294967296 by omega⟩ hnx
      have e4 : wU6 u2 = u2 := by rw [qo9]; omega
      have e5 : wU6 (g * next) = g * next := by rw [qo9]; omega
      rw [hu2, e4, e5, zgD ⟨r0, r1⟩ d0]
      by_cases hc : rest * 4294967296 + u2 < g * next
      · refine ev_t (by simpa using hc) (dec (zv8 hP g0 b1 hhi ?_))
        have : g * (top * 4294967296 + next) = (g * top) * 4294967296 + g * next := by grind
        omega
      · exact ev_f (by simpa using hc) (fin g rest g0 (by omega) e (by omega) hgu)
theorem zeH {r71 v : List Int} {n s j : Nat} {top next : Int} {res : List Int × List Int} (hv : Dv v n s top next) (L : Nat) (hl : j + n < L) (hls : L < 2305843009213693952) (W0 : Int)
    (hk : ∀ u : List Int, Dig u → u.length = L → Top (j + n + 1) u → (∃ k : Int, 0 ≤ k ∧ val u = W0 + 4294967296 ^ j * val v - 4294967296 ^ (j + n + 1) * k) → Ev (fun K => qaO K (.c11 u r71 n s v top next j)) res) :
    ∀ (m i : Nat) (c : Int) (u : List Int), i + m = n → (c = 0 ∨ c = 1) → Dig u → u.length = L → Top (j + n + 1) u → val u + 4294967296 ^ (i + j) * c = W0 + 4294967296 ^ j * val (v.take i) →
      Ev (fun K => qaO K (.c12 u r71 n s v top next j c v n i)) res
  | 0, i, c, u, hi, hc, hu, hul, ht, hval => by
    have h2 := hv.two
    refine qaJ ?_
    simp only [qaO]
    refine ev_f (by simp; omega) ?_
    rw [qbR (by omega), show (j : Int) + n = ((j + n : Nat) : Int) by omega, Int.toNat_natCast]
    refine qa3 (qbN (by omega)) (qa3 (qbN (by omega)) ?_)
    have d := qe0 hu (show j + n < u.length by omega)
    rw [q2K]
    refine hk _ (qpK hu _ (by omega)) (by simpa using hul) (zgW ht (by omega)) ⟨(u[j + n]'(by omega) + c) / 4294967296, by omega, ?_⟩
    rw [qqQ (by omega)]
    rw [List.take_of_length_le (by have := hv.len; omega), show i + j = j + n by omega] at hval
    have := Int.emod_add_mul_ediv (u[j + n]'(by omega) + c) 4294967296
    rw [Int.pow_succ]
    generalize (u[j + n]'(by omega) + c) % 4294967296 = p at *
    generalize (u[j + n]'(by omega) + c) / 4294967296 = q at *
    generalize (4294967296 : Int) ^ (j + n) = A at *
    grind
  | m + 1, i, c, u, hi, hc, hu, hul, ht, hval => by
    have h2 := hv.two
    have h3 := hv.len
    refine qaJ ?_
    simp only [qaO]
    have hiv : i < v.length := by omega
    have hiu : i + j < u.length := by omega
    refine ev_t (by simp; omega) (qa3 (qbN hiv) ?_)
    rw [qbR (x := (i : Int) + j) (by omega), show (i : Int) + j = ((i + j : Nat) : Int) by omega, Int.toNat_natCast]
    have d := qe0 hu hiu
    have dv := qe0 hv.dig hiv
    refine qa3 (qbN hiu) (qaG (qnO d dv (by omega)) (qa3 (qbN hiu) ?_))
    simp only
    rw [qbR (by omega), show (i : Int) + 1 = ((i + 1 : Nat) : Int) by omega]
    refine zeH hv L hl hls W0 hk m (i + 1) _ _ (by omega) (by omega) (qpK hu _ (by omega)) (by simpa using hul) (zgW ht (by omega)) ?_
    rw [qqQ hiu, qeB hiv, show i + 1 + j = i + j + 1 by omega, Int.pow_succ]
    have := Int.emod_add_mul_ediv (u[i + j] + v[i] + c) 4294967296
    generalize (u[i + j] + v[i] + c) % 4294967296 = p at *
    generalize (u[i + j] + v[i] + c) / 4294967296 = q at *
    rw [Int.pow_add] at *
    generalize (4294967296 : Int) ^ i = A at *
    generalize (4294967296 : Int) ^ j = C at *
    grind
theorem ztS {r71 v u : List Int} {n s j : Nat} {top next : Int} {res : List Int × List Int} (hv : Dv v n s top next) (hl : j + n < u.length) (hls : u.length < 2305843009213693952) (hu : Dig u) (ht : Top (j + n + 1) u)
    (hk : ∀ u' : List Int, Dig u' → u'.length = u.length → Top (j + n + 1) u' → (∃ k : Int, 0 ≤ k ∧ val u' = val u + 4294967296 ^ j * val v - 4294967296 ^ (j + n + 1) * k) → Ev (fun K => qaO K (.c11 u' r71 n s v top next j)) res) :
    Ev (fun K => qaO K (.c12 u r71 n s v top next j 0 v v.length 0)) res := by
  have := zeH hv u.length hl hls (val u) hk n 0 0 u (by omega) (.inl rfl) hu rfl ht (by simp)
  rw [hv.len]
  exact this
theorem zhG {r71 v : List Int} {n s j : Nat} {top next : Int} {res : List Int × List Int} (hv : Dv v n s top next) (L : Nat) (hl : j + n < L) (hls : L < 2305843009213693952) (hj : j < r71.length) (g U : Int) (hg : 0 ≤ g ∧ g < 4294967296) (hU0 : 0 ≤ U)
    (hg1 : (g - 1) * (4294967296 ^ j * val v) ≤ U) (hg2 : U < (g + 1) * (4294967296 ^ j * val v))
    (hk : ∀ (u : List Int) (g' : Int), Dig u → u.length = L → 0 ≤ g' → g' < 4294967296 → val u = U - g' * (4294967296 ^ j * val v) → val u < 4294967296 ^ j * val v → Ev (fun K => qaO K (.c11 u (r71.set j g') n s v top next j)) res) :
    ∀ (m i : Nat) (c b : Int) (u : List Int), i + m = n → (0 ≤ c ∧ c < 4294967296) → (b = 0 ∨ b = 1) → Dig u → u.length = L → Top (j + n + 1) u → val u - 4294967296 ^ (i + j) * (b + c) = U - g * (4294967296 ^ j * val (v.take i)) →
      Ev (fun K => qaO K (.c8 u r71 n s v top next j g c b v n i)) res
  | 0, i, c, b, u, hi, hc, hb, hu, hul, ht, hval => by
    have h2 := hv.two
    have h3 := hv.len
    refine qaJ ?_
    simp only [qaO]
    refine ev_f (by simp; omega) ?_
    rw [qbR (by omega), show (j : Int) + n = ((j + n : Nat) : Int) by omega, Int.toNat_natCast, Int.toNat_natCast]
    have d := qe0 hu (show j + n < u.length by omega)
    refine qa3 (qbN (by omega)) (qa3 (qbN (by omega)) (qa3 (qbN hj) ?_))
    rw [List.take_of_length_le (by omega), show i + j = j + n by omega] at hval
    have eg : wU3 g = g := by rw [q2K]; omega
    have ex : wU6 (wU6 (wU6 (u[j + n]'(by omega)) - b) - c) = (u[j + n]'(by omega) - (b + c)) % 18446744073709551616 := by simp only [qo9]; omega
    rw [ex, eg, zoC (by decide) (by decide), q2K, show (2 : Int) ^ ((63 : Int).toNat) = 9223372036854775808 by decide]
    have hvs : ∀ x : Int, val (u.set (j + n) x) = val u + 4294967296 ^ (j + n) * (x - u[j + n]'(by omega)) := fun x => qqQ (by omega) x
    have htk := zgV (zgW (x := u[j + n]'(by omega) - (b + c)) ht (show j + n < j + n + 1 by omega))
    have hA := qe2 (j + n)
    have hW : 0 ≤ 4294967296 ^ j * val v := Int.mul_nonneg (Int.le_of_lt (qe2 j)) (qbE hv.dig)
    by_cases hD : 0 ≤ u[j + n]'(by omega) - (b + c)
    · refine ev_t (by simp; omega) ?_
      have e1 : (u[j + n]'(by omega) - (b + c)) % 18446744073709551616 % 4294967296 = u[j + n]'(by omega) - (b + c) := by omega
      rw [e1]
      have hdig := qpK hu (j + n) (x := u[j + n]'(by omega) - (b + c)) (by omega)
      have hval2 : val (u.set (j + n) (u[j + n]'(by omega) - (b + c))) = U - g * (4294967296 ^ j * val v) := by
        rw [hvs, ← hval]; grind
      refine hk _ g hdig (by simpa using hul) hg.1 hg.2 hval2 ?_
      rw [hval2, Int.add_mul, Int.one_mul] at *
      omega
    · refine ev_f (by simp; omega) ?_
      have e1 : (u[j + n]'(by omega) - (b + c)) % 18446744073709551616 % 4294967296 = u[j + n]'(by omega) - (b + c) + 4294967296 := by omega
      rw [e1]
      have hdig := qpK hu (j + n) (x := u[j + n]'(by omega) - (b + c) + 4294967296) (by omega)
      have htop := zgW (x := u[j + n]'(by omega) - (b + c) + 4294967296) ht (show j + n < j + n + 1 by omega)
      have hval2 : val (u.set (j + n) (u[j + n]'(by omega) - (b + c) + 4294967296)) = U - g * (4294967296 ^ j * val v) + 4294967296 ^ (j + n + 1) := by
        rw [hvs, ← hval, Int.pow_succ]; grind
      -- the guess was one too many
      have hneg : U - g * (4294967296 ^ j * val v) < 0 := by
        have h4 : val (u.take (j + n)) < 4294967296 ^ (j + n) := by
          have := qlD (qjN hu (j + n))
          rwa [List.length_take, Nat.min_eq_left (by omega)] at this
        have h5 := zgV ht
        rw [qeB (by omega)] at h5
        have h6 := Int.mul_le_mul_of_nonneg_left (show u[j + n]'(by omega) - (b + c) + 1 ≤ 0 by omega) (Int.le_of_lt hA)
        rw [← hval, h5]
        have h7 : 4294967296 ^ (j + n) * (u[j + n]'(by omega) - (b + c) + 1) = 4294967296 ^ (j + n) * u[j + n]'(by omega) - 4294967296 ^ (j + n) * (b + c) + 4294967296 ^ (j + n) := by grind
        omega
      have hgp : 1 ≤ g := by
        apply Classical.byContradiction; intro hne
        have : g = 0 := by omega
        subst this; simp at hneg; omega
      have hgj : gi (r71.set j g) (j : Int) = some g := qsV (by simp [hj])
      refine qa3 hgj (qa3 hgj ?_)
      have eg1 : wU3 (g - 1) = g - 1 := by rw [q2K]; omega
      rw [q2K, Int.emod_eq_of_lt (by omega) (by omega), List.set_set]
      refine ztS hv (by simp; omega) (by simp; omega) hdig htop fun u' hu' hul' ht' ⟨k, hk0, hke⟩ => ?_
      rw [hval2] at hke
      have hlt := top_lt hu' ht'
      have hn' := qbE hu'
      have hX : U - (g - 1) * (4294967296 ^ j * val v) = U - g * (4294967296 ^ j * val v) + 4294967296 ^ j * val v := by grind
      have hB := qe2 (j + n + 1)
      have hk1 : k = 1 := by
        have hWB : 4294967296 ^ j * val v < 4294967296 ^ (j + n + 1) := by
          have h4 := qlD hv.dig
          rw [h3] at h4
          have h5 := Int.mul_lt_mul_of_pos_left h4 (qe2 j)
          rw [← Int.pow_add] at h5
          have h6 := qq8 (show j + n ≤ j + n + 1 by omega)
          omega
        apply Classical.byContradiction; intro hne
        rcases Int.lt_or_gt_of_ne hne with hlt1 | hgt1
        · have : k = 0 := by omega
          subst this
          omega
        · have := Int.mul_le_mul_of_nonneg_left (show 2 ≤ k by omega) (Int.le_of_lt hB)
          omega
      subst hk1
      refine hk u' (g - 1) hu' (by rw [hul']; simpa using hul) (by omega) (by omega) (by omega) (by omega)
  | m + 1, i, c, b, u, hi, hc, hb, hu, hul, ht, hval => by
    have h2 := hv.two
    have h3 := hv.len
    refine qaJ ?_
    simp only [qaO]
    have hiv : i < v.length := by omega
    have hiu : i + j < u.length := by omega
    refine ev_t (by simp; omega) (qa3 (qbN hiv) ?_)
    rw [qbR (x := (i : Int) + j) (by omega), show (i : Int) + j = ((i + j : Nat) : Int) by omega, Int.toNat_natCast]
    have d := qe0 hu hiu
    have dv := qe0 hv.dig hiv
    have hp := q64 hg dv
    refine qa3 (qbN hiu) (qa3 (qbN hiu) ?_)
    have e1 : wU6 (wU6 (g * wU6 v[i]) + c) = g * v[i] + c := by
      rw [qo9 v[i], Int.emod_eq_of_lt dv.1 (by omega), qo9, qo9, Int.emod_eq_of_lt hp.1 (by omega), Int.emod_eq_of_lt (by omega) (by omega)]
    obtain ⟨c', b', y', q1, q2, q3, hc', hb', hy', he⟩ := zuI hg dv hc hb d
    rw [e1, zvO (by omega), zgB, zoC (by decide) (by decide), show (2 : Int) ^ ((63 : Int).toNat) = 9223372036854775808 by decide]
    have e2 : wU6 (wU6 (wU6 u[i + j] - b) - (g * v[i] + c) % 4294967296) = (u[i + j] - b - (g * v[i] + c) % 4294967296) % 18446744073709551616 := by simp only [qo9]; omega
    rw [e2, q2K, q1, q2, q3, qbR (by omega), show (i : Int) + 1 = ((i + 1 : Nat) : Int) by omega]
    refine zhG hv L hl hls hj g U hg hU0 hg1 hg2 hk m (i + 1) c' b' _ (by omega) hc' hb' (qpK hu _ hy') (by simpa using hul) (zgW ht (by omega)) ?_
    rw [qqQ hiu, qeB hiv, show i + 1 + j = i + j + 1 by omega, Int.pow_succ]
    rw [Int.pow_add] at *
    generalize (4294967296 : Int) ^ i = A at *
    generalize (4294967296 : Int) ^ j = C at *
    grind
theorem zoU {v : List Int} {n s : Nat} {top next : Int} (hv : Dv v n s top next) (L : Nat) (hnL : n < L) (hls : L < 34359738360) (A : Int) :
    ∀ (jj : Nat) (u q : List Int), jj + n ≤ L → Dig u → u.length = L → Dig q → jj ≤ q.length → q.length = L - n → val u < 4294967296 ^ jj * val v → A = val u + val q * val v → (∀ i, i < jj → q[i]? = some 0) →
      Ev (fun K => qaO K (.c2 u q n s v top next ((jj : Int) - 1))) (digs (A / val v), digs (A % val v / 2 ^ s))
  | 0, u, q, hj, hu, hul, hq, hjq, hql, hU, hA, hz => by
    have h2 := hv.two
    rw [Int.pow_zero, Int.one_mul] at hU
    have hu0 := qbE hu
    refine qaJ ?_
    simp only [qaO]
    have e1 : A / val v = val q := by rw [hA, Int.add_mul_ediv_right _ _ (by omega), Int.ediv_eq_zero_of_lt hu0 hU, Int.zero_add]
    have e2 : A % val v = val u := by rw [hA, Int.add_mul_emod_self_right, Int.emod_eq_of_lt hu0 hU]
    have hvl := qlD hv.dig
    rw [hv.len] at hvl
    have ht := zn7 hu (show val u < 4294967296 ^ n by omega)
    have hs := zkO (qjN hu n) hv.sh (by rw [List.length_take]; omega)
    rw [← zgV ht] at hs
    rw [e1, e2]
    refine ev_f (by simp) (qaG (qoN hq (by omega)) (qeZ (by omega) ?_))
    rw [Int.toNat_natCast]
    exact qaG hs (qaT _)
  | j + 1, u, q, hj, hu, hul, hq, hjq, hql, hU, hA, hz => by
    have h2 := hv.two
    have h3 := hv.len
    obtain ⟨w, evv, _, _, hnx, htp⟩ := hv.form
    refine qaJ ?_
    simp only [qaO]
    rw [show ((j + 1 : Nat) : Int) - 1 = (j : Int) by omega]
    refine ev_t (by simp) ?_
    rw [qbR (x := (j : Int) + n) (by omega), qbR (x := (j : Int) + n - 1) (by omega), show (j : Int) + n - 1 = ((j + n - 1 : Nat) : Int) by omega, show (j : Int) + n = ((j + n : Nat) : Int) by omega]
    have hU' : val u < 4294967296 * (4294967296 ^ j * val v) := by
      rw [Int.pow_succ] at hU
      have : 4294967296 ^ j * 4294967296 * val v = 4294967296 * (4294967296 ^ j * val v) := by grind
      omega
    have hvl := qlD hv.dig
    rw [h3] at hvl
    have ht : Top (j + n + 1) u := by
      refine zn7 hu ?_
      have := Int.mul_lt_mul_of_pos_left hvl (qe2 (j + 1))
      rw [← Int.pow_add, show j + 1 + n = j + n + 1 by omega] at this
      omega
    have d1 := qe0 hu (show j + n - 1 < u.length by omega)
    have d2 := qe0 hu (show j + n < u.length by omega)
    refine qa3 (qbN (by omega)) (qa3 (qbN (by omega)) ?_)
    have e1 : wU6 (u[j + n]'(by omega)) = u[j + n]'(by omega) := by rw [qo9]; omega
    have e2 : wU6 (u[j + n - 1]'(by omega)) = u[j + n - 1]'(by omega) := by rw [qo9]; omega
    rw [e1, e2, zgD d2 d1]
    refine qaG (zaI ⟨by omega, by omega⟩ (by omega)) ?_
    simp only
    have hN0 : 0 ≤ u[j + n]'(by omega) * 4294967296 + u[j + n - 1]'(by omega) := by omega
    have hdm := Int.emod_add_mul_ediv (u[j + n]'(by omega) * 4294967296 + u[j + n - 1]'(by omega)) top
    have hr0 := Int.emod_nonneg (u[j + n]'(by omega) * 4294967296 + u[j + n - 1]'(by omega)) (show top ≠ 0 by omega)
    have hr1 := Int.emod_lt_of_pos (u[j + n]'(by omega) * 4294967296 + u[j + n - 1]'(by omega)) (show 0 < top by omega)
    have hq0 : 0 ≤ (u[j + n]'(by omega) * 4294967296 + u[j + n - 1]'(by omega)) / top := Int.ediv_nonneg hN0 (by omega)
    have hq1 : (u[j + n]'(by omega) * 4294967296 + u[j + n - 1]'(by omega)) / top < 17179869184 := Int.ediv_lt_of_lt_mul (by omega) (by
      have := Int.mul_le_mul_of_nonneg_left htp.1 (show (0 : Int) ≤ 17179869184 by decide)
      omega)
    -- the quotient's bound for the first guess
    obtain ⟨b1, _⟩ := zo2 hv j
    have e3 := zw4 (u := u) (k := j + n - 2) (by omega) (by rw [show j + n - 2 + 3 = j + n + 1 by omega]; exact ht)
    have ei1 : u[j + n - 2 + 1]'(by omega) = u[j + n - 1]'(by omega) := by congr 1; omega
    have ei2 : u[j + n - 2 + 2]'(by omega) = u[j + n]'(by omega) := by congr 1; omega
    rw [ei1, ei2] at e3
    have l2 := qlD (qjN hu (j + n - 2))
    rw [List.length_take, Nat.min_eq_left (by omega)] at l2
    have d0 := qe0 hu (show j + n - 2 < u.length by omega)
    have hP := qe2 (j + n - 2)
    have hhi : val u < ((u[j + n]'(by omega) * 4294967296 + u[j + n - 1]'(by omega)) * 4294967296 + u[j + n - 2]'(by omega) + 1) * 4294967296 ^ (j + n - 2) := by
      have : ((u[j + n]'(by omega) * 4294967296 + u[j + n - 1]'(by omega)) * 4294967296 + u[j + n - 2]'(by omega) + 1) * 4294967296 ^ (j + n - 2) = 4294967296 ^ (j + n - 2) * (u[j + n - 2]'(by omega) + 4294967296 * u[j + n - 1]'(by omega) + 18446744073709551616 * u[j + n]'(by omega)) + 4294967296 ^ (j + n - 2) := by
        generalize (4294967296 : Int) ^ (j + n - 2) = P
        grind
      omega
    have hfirst : val u < ((u[j + n]'(by omega) * 4294967296 + u[j + n - 1]'(by omega)) / top + 1) * (4294967296 ^ j * val v) := by
      refine zv8 hP (by omega) b1 hhi ?_
      generalize (u[j + n]'(by omega) * 4294967296 + u[j + n - 1]'(by omega)) / top = Q at *
      have h5 : (Q + 1) * (top * 4294967296 + next) = (top * Q + top) * 4294967296 + (Q + 1) * next := by grind
      have h6 : 0 ≤ (Q + 1) * next := Int.mul_nonneg (by omega) hnx.1
      omega
    refine zrQ hv hu (by omega) (by omega) ht hU' ?_ _ _ _ rfl hq0 hq1 hr0 (by omega) (by rw [Int.mul_comm]; omega) hfirst
    intro g g0 g1 hg1 hg2
    refine qaJ ?_
    simp only [qaO]
    have hqj : q[j]'(by omega) = 0 := by
      have := hz j (by omega)
      rw [List.getElem?_eq_getElem (by omega)] at this
      exact Option.some.inj this
    have := zhG (r71 := q) hv L (by omega) (by omega) (by omega) g (val u) ⟨g0, g1⟩ (qbE hu) hg1 hg2 (res := (digs (A / val v), digs (A % val v / 2 ^ s))) ?_ n 0 0 0 u (by omega) (by decide) (.inl rfl) hu hul ht (by simp)
    · rw [h3]
      exact this
    · intro u' g' hu' hul' hg0' hg1' hval hlt
      refine qaJ ?_
      simp only [qaO]
      rw [qbR (by omega)]
      refine zoU hv L hnL hls A j u' (q.set j g') (by omega) hu' hul' (qpK hq j ⟨hg0', hg1'⟩) (by simp; omega) (by simpa using hql) hlt ?_ (fun i hi => by rw [List.getElem?_set_ne (by omega)]; exact hz i (by omega))
      rw [hA, qqQ (by omega), hqj, hval]
      grind
open Go.Proofs.Try (prog)
inductive qqM where
 | c0 (a : qaB) (b : qaB)
def qk9 : Nat → qqM → Option (qaB × qaB × Int)
 | 0, _ => none
 | K + 1, .c0 a b =>
  (qgS K b).bind fun x1 =>
  bif x1 then
   some ((qaB.mk false []), (qaB.mk false []), (2 : Int))
  else
   (qwH K a.Abs b.Abs).bind fun x4 =>
   (qlI K (!(a.Neg == b.Neg)) x4.1).bind fun x6 =>
   (qlI K a.Neg x4.2).bind fun x8 =>
   some (x6, x8, (0 : Int))
def qoA (K : Nat) (a : qaB) (b : qaB) : Option (qaB × qaB × Int) := qk9 K (.c0 a b)
noncomputable def zdR : Code := qbQ prog 147
noncomputable def zf7 : qqM → List Fr
 | .c0 .. => [.code zdR]
def zjN : qqM → St
 | .c0 a b => St.init [(TV.agg (qaA a)), (TV.agg (qaA b))]
def q6R (cx : Cx) (c : qqM) (r : (qaB × qaB × Int)) : Prop := Wk prog cx (qc2 prog 147 [[0,1], [0,1], [0]] (TV.tup [(true, qaA r.1), (true, qaA r.2.1), (false, [(T.int .i64 r.2.2)])])) (zf7 c) .normal (zjN c)
abbrev q6S (K : Nat) : Prop := ∀ c r, qk9 K c = some r → ∀ cx : Cx, cx.n = 32 → q6R cx c r
theorem zjO {K} (_ : q6S K) {cx} (hn : cx.n = 32) {a b} {r} (h : qk9 (K + 1) (.c0 a b) = some r) : q6R cx (.c0 a b) r := by
 rw [qk9] at h
 obtain ⟨x1, h2, h⟩ := qaH h
 rcases qaQ h with ⟨h3, h⟩ | ⟨h3, h⟩
 ·have h := oinj h; subst h
  exact wkR [rg5, rgG [oo, opI (.call [[0,1]] [(TV.agg (qaA b))] (TV.c (T.bool x1)))], bTr, .draw [.p, .p, .p] [.op .p, .op .p]] hn (aC (qcC h2) <| aC h3 <| aN)
 ·obtain ⟨x4, h5, h⟩ := qaH h
  obtain ⟨x6, h7, h⟩ := qaH h
  obtain ⟨x8, h9, h⟩ := qaH h
  have h := oinj h; subst h
  exact wkR [rg5, rgG [oo, opI (.call [[0,1]] [(TV.agg (qaA b))] (TV.c (T.bool x1)))], bFa, rgG [oo, oo, oo, oo, opI (.call [[1], [1]] [(TV.c (T.sl 1 (a.Abs.map qaC))), (TV.c (T.sl 1 (b.Abs.map qaC)))] (TV.tup [(false, [(T.sl 1 (x4.1.map qaC))]), (false, [(T.sl 1 (x4.2.map qaC))])])), oo, oo, oo, oo, oo], .draw [.p, .p, .p, .p, .p, .p, (.call [[0], [1]] [(TV.c (T.bool (!(a.Neg == b.Neg)))), (tl 1 x4.1 qaC)] (TV.agg (qaA x6))), .p, .p, .p] [opI (.call [[0], [1]] [(TV.c (T.bool a.Neg)), (tl 1 x4.2 qaC)] (TV.agg (qaA x8))), .op .p, .op .p, .op .p]] hn (aC (qcC h2) <| aC h3 <| aC (q75 h5) <| aC (qj5 h7) <| aC (qj5 h9) <| aN)
theorem q2E : ∀ K : Nat, q6S K
 | 0, c, r, h => by rw [qk9] at h; cases h
 | K + 1, .c0 .., r, h => fun cx hn => zjO (q2E K) hn h
theorem qfJ {K : Nat} {a : qaB} {b : qaB} {r : (qaB × qaB × Int)} (h : qoA K a b = some r) : qc5 prog 147 [(TV.agg (qaA a)), (TV.agg (qaA b))] (TV.tup [(true, qaA r.1), (true, qaA r.2.1), (false, [(T.int .i64 r.2.2)])]) :=
 qa0 [[0,1], [0,1], [0]] (by kernel_rfl) (by simp) fun cx hn => q2E K (.c0 a b) r h cx hn
open Go.Proofs.Try (prog)
inductive qsL where
 | c0 (a : qaB) (b : qaB)
def qmR : Nat → qsL → Option qaB
 | 0, _ => none
 | K + 1, .c0 a b =>
  (qiH K a (qaB.mk (!b.Neg) b.Abs)).bind fun x1 =>
  some x1
def qgQ (K : Nat) (a : qaB) (b : qaB) : Option qaB := qmR K (.c0 a b)
noncomputable def zfA : Code := qbQ prog 143
noncomputable def zh9 : qsL → List Fr
 | .c0 .. => [.code zfA]
def zlZ : qsL → St
 | .c0 a b => St.init [(TV.agg (qaA a)), (TV.agg (qaA b))]
def zaT (cx : Cx) (c : qsL) (r : qaB) : Prop := Wk prog cx (qc2 prog 143 [[0,1]] (TV.agg (qaA r))) (zh9 c) .normal (zlZ c)
abbrev zaU (K : Nat) : Prop := ∀ c r, qmR K c = some r → ∀ cx : Cx, cx.n = 13 → zaT cx c r
theorem zl0 {K} (_ : zaU K) {cx} (hn : cx.n = 13) {a b} {r} (h : qmR (K + 1) (.c0 a b) = some r) : zaT cx (.c0 a b) r := by
 rw [qmR] at h
 obtain ⟨x1, h2, h⟩ := qaH h
 have h := oinj h; subst h
 exact wkR [rg3, rgG [oo, oo, oo, oo, oo, oo, oo, opI (.call [[0,1], [0,1]] [(TV.agg (qaA a)), (TV.agg (qaA (qaB.mk (!b.Neg) b.Abs)))] (TV.agg (qaA x1))), oo]] hn (aC (qfA h2) <| aN)
theorem q33 : ∀ K : Nat, zaU K
 | 0, c, r, h => by rw [qmR] at h; cases h
 | K + 1, .c0 .., r, h => fun cx hn => zl0 (q33 K) hn h
theorem qfT {K : Nat} {a : qaB} {b : qaB} {r : qaB} (h : qgQ K a b = some r) : qc5 prog 143 [(TV.agg (qaA a)), (TV.agg (qaA b))] (TV.agg (qaA r)) :=
 qa0 [[0,1]] (by kernel_rfl) (by simp) fun cx hn => q33 K (.c0 a b) r h cx hn
open Go.Proofs.Try (prog)
inductive qnS where
 | c0 (a : qaB) (b : qaB)
def qi6 : Nat → qnS → Option (qaB × qaB × Int)
 | 0, _ => none
 | K + 1, .c0 a b =>
  (qoA K a b).bind fun x1 =>
  bif (decide (x1.2.2 = (0 : Int))) then
   (qgS K x1.2.1).bind fun x4 =>
   bif (!x4) then
    bif (!(x1.2.1.Neg == b.Neg)) then
     (qiA K (1 : Int)).bind fun x8 =>
     (qgQ K x1.1 x8).bind fun x10 =>
     (qiH K x1.2.1 b).bind fun x12 =>
     some (x10, x12, x1.2.2)
    else
     some (x1.1, x1.2.1, x1.2.2)
   else
    some (x1.1, x1.2.1, x1.2.2)
  else
   some (x1.1, x1.2.1, x1.2.2)
def quP (K : Nat) (a : qaB) (b : qaB) : Option (qaB × qaB × Int) := qi6 K (.c0 a b)
noncomputable def q76 : Code := qbQ prog 176
noncomputable def zbF : qnS → List Fr
 | .c0 .. => [.code q76]
def zdT : qnS → St
 | .c0 a b => St.init [(TV.agg (qaA a)), (TV.agg (qaA b))]
def q2G (cx : Cx) (c : qnS) (r : (qaB × qaB × Int)) : Prop := Wk prog cx (qc2 prog 176 [[0,1], [0,1], [0]] (TV.tup [(true, qaA r.1), (true, qaA r.2.1), (false, [(T.int .i64 r.2.2)])])) (zbF c) .normal (zdT c)
abbrev q2H (K : Nat) : Prop := ∀ c r, qi6 K c = some r → ∀ cx : Cx, cx.n = 37 → q2G cx c r
theorem zdV {K} (_ : q2H K) {cx} (hn : cx.n = 37) {a b} {r} (h : qi6 (K + 1) (.c0 a b) = some r) : q2G cx (.c0 a b) r := by
 rw [qi6] at h
 obtain ⟨x1, h2, h⟩ := qaH h
 rcases qaQ h with ⟨h3, h⟩ | ⟨h3, h⟩
 ·obtain ⟨x4, h5, h⟩ := qaH h
  rcases qaQ h with ⟨h6, h⟩ | ⟨h6, h⟩
  ·rcases qaQ h with ⟨h7, h⟩ | ⟨h7, h⟩
   ·obtain ⟨x8, h9, h⟩ := qaH h
    obtain ⟨x10, h11, h⟩ := qaH h
    obtain ⟨x12, h13, h⟩ := qaH h
    have h := oinj h; subst h
    exact wkR [rg5, rgG [oo, oo, opI (.call [[0,1], [0,1]] [(TV.agg (qaA a)), (TV.agg (qaA b))] (TV.tup [(true, qaA x1.1), (true, qaA x1.2.1), (false, [(T.int .i64 x1.2.2)])])), oo, oo, oo, oo, oo, oo, oo], rgG [oo, oo, oo, .sb 16 true, oo, opI (.call [[0,1]] [(TV.agg (qaA x1.2.1))] (TV.c (T.bool x4))), oo, oo, oo, .sb 21 true, oo, oo, oo, oo, oo, oo], bTr, .draw [.p, (.call [[0]] [(TV.c (T.int .i64 (1 : Int)))] (TV.agg (qaA x8))), (.call [[0,1], [0,1]] [(TV.agg (qaA x1.1)), (TV.agg (qaA x8))] (TV.agg (qaA x10))), .p, .p] [opI (.call [[0,1], [0,1]] [(TV.agg (qaA x1.2.1)), (TV.agg (qaA b))] (TV.agg (qaA x12))), .op .p, .op .p], .draw [.p, .p, .p, .p, .p] [.op .p]] hn (aC (qfJ h2) <| aC h3 <| aC (qcC h5) <| aC h6 <| aC h7 <| aC (qd8 h9) <| aC (qfT h11) <| aC (qfA h13) <| aN)
   ·have h := oinj h; subst h
    exact wkR [rg5, rgG [oo, oo, opI (.call [[0,1], [0,1]] [(TV.agg (qaA a)), (TV.agg (qaA b))] (TV.tup [(true, qaA x1.1), (true, qaA x1.2.1), (false, [(T.int .i64 x1.2.2)])])), oo, oo, oo, oo, oo, oo, oo], rgG [oo, oo, oo, .sb 16 true, oo, opI (.call [[0,1]] [(TV.agg (qaA x1.2.1))] (TV.c (T.bool x4))), oo, oo, oo, .sb 21 true, oo, oo, oo, oo, oo, oo], bFa, .draw [.p, .p, .p, .p, .p] [.op .p]] hn (aC (qfJ h2) <| aC h3 <| aC (qcC h5) <| aC h6 <| aC h7 <| aN)
  ·have h := oinj h; subst h
   exact wkR [rg5, rgG [oo, oo, opI (.call [[0,1], [0,1]] [(TV.agg (qaA a)), (TV.agg (qaA b))] (TV.tup [(true, qaA x1.1), (true, qaA x1.2.1), (false, [(T.int .i64 x1.2.2)])])), oo, oo, oo, oo, oo, oo, oo], rgG [oo, oo, oo, .sb 16 true, oo, opI (.call [[0,1]] [(TV.agg (qaA x1.2.1))] (TV.c (T.bool x4))), oo, oo, oo, .sb 21 false, oo, oo, oo, oo, oo, oo], bFa, .draw [.p, .p, .p, .p, .p] [.op .p]] hn (aC (qfJ h2) <| aC h3 <| aC (qcC h5) <| aC h6 <| aC rf <| aN)
 ·have h := oinj h; subst h
  exact wkR [rg5, rgG [oo, oo, opI (.call [[0,1], [0,1]] [(TV.agg (qaA a)), (TV.agg (qaA b))] (TV.tup [(true, qaA x1.1), (true, qaA x1.2.1), (false, [(T.int .i64 x1.2.2)])])), oo, oo, oo, oo, oo, oo, oo], rgG [oo, oo, oo, .sb 16 false, oo, oo, oo, oo, oo, oo, oo, oo, oo, oo, oo], bFa, .draw [.p, .p, .p, .p, .p] [.op .p]] hn (aC (qfJ h2) <| aC h3 <| aC rf <| aN)
theorem qyV : ∀ K : Nat, q2H K
 | 0, c, r, h => by rw [qi6] at h; cases h
 | K + 1, .c0 .., r, h => fun cx hn => zdV (qyV K) hn h
theorem q49 {K : Nat} {a : qaB} {b : qaB} {r : (qaB × qaB × Int)} (h : quP K a b = some r) : qc5 prog 176 [(TV.agg (qaA a)), (TV.agg (qaA b))] (TV.tup [(true, qaA r.1), (true, qaA r.2.1), (false, [(T.int .i64 r.2.2)])]) :=
 qa0 [[0,1], [0,1], [0]] (by kernel_rfl) (by simp) fun cx hn => qyV K (.c0 a b) r h cx hn
open Go.Proofs.Try (prog)
inductive qnT where
 | c0 (a : qaB) (b : qaB)
def qi7 : Nat → qnT → Option (qaB × Int)
 | 0, _ => none
 | K + 1, .c0 a b =>
  (qoA K a b).bind fun x1 =>
  bif (decide (x1.2.2 = (0 : Int))) then
   (qgS K x1.2.1).bind fun x4 =>
   bif (!x4) then
    some ((qaB.mk false []), (3 : Int))
   else
    some (x1.1, x1.2.2)
  else
   some (x1.1, x1.2.2)
def qeU (K : Nat) (a : qaB) (b : qaB) : Option (qaB × Int) := qi7 K (.c0 a b)
noncomputable def q77 : Code := qbQ prog 117
noncomputable def zbG : qnT → List Fr
 | .c0 .. => [.code q77]
def zdW : qnT → St
 | .c0 a b => St.init [(TV.agg (qaA a)), (TV.agg (qaA b))]
def q2I (cx : Cx) (c : qnT) (r : (qaB × Int)) : Prop := Wk prog cx (qc2 prog 117 [[0,1], [0]] (TV.tup [(true, qaA r.1), (false, [(T.int .i64 r.2)])])) (zbG c) .normal (zdW c)
abbrev q2J (K : Nat) : Prop := ∀ c r, qi7 K c = some r → ∀ cx : Cx, cx.n = 26 → q2I cx c r
theorem zdX {K} (_ : q2J K) {cx} (hn : cx.n = 26) {a b} {r} (h : qi7 (K + 1) (.c0 a b) = some r) : q2I cx (.c0 a b) r := by
 rw [qi7] at h
 obtain ⟨x1, h2, h⟩ := qaH h
 rcases qaQ h with ⟨h3, h⟩ | ⟨h3, h⟩
 ·obtain ⟨x4, h5, h⟩ := qaH h
  rcases qaQ h with ⟨h6, h⟩ | ⟨h6, h⟩
  ·have h := oinj h; subst h
   exact wkR [rg4, rgG [oo, oo, opI (.call [[0,1], [0,1]] [(TV.agg (qaA a)), (TV.agg (qaA b))] (TV.tup [(true, qaA x1.1), (true, qaA x1.2.1), (false, [(T.int .i64 x1.2.2)])])), oo, oo, oo, oo, oo, oo, oo, oo, oo], rgG [oo, oo, oo, .sb 18 true, oo, opI (.call [[0,1]] [(TV.agg (qaA x1.2.1))] (TV.c (T.bool x4))), oo, oo], bTr, rg3] hn (aC (qfJ h2) <| aC h3 <| aC (qcC h5) <| aC h6 <| aN)
  ·have h := oinj h; subst h
   exact wkR [rg4, rgG [oo, oo, opI (.call [[0,1], [0,1]] [(TV.agg (qaA a)), (TV.agg (qaA b))] (TV.tup [(true, qaA x1.1), (true, qaA x1.2.1), (false, [(T.int .i64 x1.2.2)])])), oo, oo, oo, oo, oo, oo, oo, oo, oo], rgG [oo, oo, oo, .sb 18 true, oo, opI (.call [[0,1]] [(TV.agg (qaA x1.2.1))] (TV.c (T.bool x4))), oo, oo], bFa, rg4] hn (aC (qfJ h2) <| aC h3 <| aC (qcC h5) <| aC h6 <| aN)
 ·have h := oinj h; subst h
  exact wkR [rg4, rgG [oo, oo, opI (.call [[0,1], [0,1]] [(TV.agg (qaA a)), (TV.agg (qaA b))] (TV.tup [(true, qaA x1.1), (true, qaA x1.2.1), (false, [(T.int .i64 x1.2.2)])])), oo, oo, oo, oo, oo, oo, oo, oo, oo], rgG [oo, oo, oo, .sb 18 false, oo, oo, oo, oo], bFa, rg4] hn (aC (qfJ h2) <| aC h3 <| aC rf <| aN)
theorem qyW : ∀ K : Nat, q2J K
 | 0, c, r, h => by rw [qi7] at h; cases h
 | K + 1, .c0 .., r, h => fun cx hn => zdX (qyW K) hn h
theorem qfD {K : Nat} {a : qaB} {b : qaB} {r : (qaB × Int)} (h : qeU K a b = some r) : qc5 prog 117 [(TV.agg (qaA a)), (TV.agg (qaA b))] (TV.tup [(true, qaA r.1), (false, [(T.int .i64 r.2)])]) :=
 qa0 [[0,1], [0]] (by kernel_rfl) (by simp) fun cx hn => qyW K (.c0 a b) r h cx hn
open Go.Proofs.Try (prog)
open Go.Proofs.Try (prog)
inductive qqN where
 | c0 (a : qaB) (m : qaB)
def qlA : Nat → qqN → Option (qaB × Int)
 | 0, _ => none
 | K + 1, .c0 a m =>
  (qhA K m).bind fun x1 =>
  (quP K a x1).bind fun x3 =>
  some (x3.2.1, x3.2.2)
def qyU (K : Nat) (a : qaB) (m : qaB) : Option (qaB × Int) := qlA K (.c0 a m)
noncomputable def zdS : Code := qbQ prog 141
noncomputable def zf8 : qqN → List Fr
 | .c0 .. => [.code zdS]
def zjP : qqN → St
 | .c0 a m => St.init [(TV.agg (qaA a)), (TV.agg (qaA m))]
def q6T (cx : Cx) (c : qqN) (r : (qaB × Int)) : Prop := Wk prog cx (qc2 prog 141 [[0,1], [0]] (TV.tup [(true, qaA r.1), (false, [(T.int .i64 r.2)])])) (zf8 c) .normal (zjP c)
abbrev q6U (K : Nat) : Prop := ∀ c r, qlA K c = some r → ∀ cx : Cx, cx.n = 19 → q6T cx c r
theorem zjR {K} (_ : q6U K) {cx} (hn : cx.n = 19) {a m} {r} (h : qlA (K + 1) (.c0 a m) = some r) : q6T cx (.c0 a m) r := by
 rw [qlA] at h
 obtain ⟨x1, h2, h⟩ := qaH h
 obtain ⟨x3, h4, h⟩ := qaH h
 have h := oinj h; subst h
 exact wkR [rg4, .draw [.p, .p, (.call [[0,1]] [(TV.agg (qaA m))] (TV.agg (qaA x1))), (.call [[0,1], [0,1]] [(TV.agg (qaA a)), (TV.agg (qaA x1))] (TV.tup [(true, qaA x3.1), (true, qaA x3.2.1), (false, [(T.int .i64 x3.2.2)])])), .p, .p, .p, .p, .p, .p, .p, .p] [.op .p], rg4] hn (aC (qdW h2) <| aC (q49 h4) <| aN)
theorem q2F : ∀ K : Nat, q6U K
 | 0, c, r, h => by rw [qlA] at h; cases h
 | K + 1, .c0 .., r, h => fun cx hn => zjR (q2F K) hn h
theorem qsZ {K : Nat} {a : qaB} {m : qaB} {r : (qaB × Int)} (h : qyU K a m = some r) : qc5 prog 141 [(TV.agg (qaA a)), (TV.agg (qaA m))] (TV.tup [(true, qaA r.1), (false, [(T.int .i64 r.2)])]) :=
 qa0 [[0,1], [0]] (by kernel_rfl) (by simp) fun cx hn => q2F K (.c0 a m) r h cx hn
open Go.Proofs.Try (prog)
inductive qjM where
 | c0 (a : qaB) (m : qaB)
def qgH : Nat → qjM → Option (qaB × Int)
 | 0, _ => none
 | K + 1, .c0 a m =>
  (qyU K a m).bind fun x1 =>
  bif (decide (x1.2 = (0 : Int))) then
   (qtK K x1.1.Abs (1 : Int)).bind fun x4 =>
   (qn1 K x4 m.Abs).bind fun x6 =>
   bif (decide ((0 : Int) < x6)) then
    (qhA K m).bind fun x9 =>
    (qgQ K x1.1 x9).bind fun x11 =>
    some (x11, x1.2)
   else
    some (x1.1, x1.2)
  else
   some (x1.1, x1.2)
def qf4 (K : Nat) (a : qaB) (m : qaB) : Option (qaB × Int) := qgH K (.c0 a m)
noncomputable def q07 : Code := qbQ prog 95
noncomputable def q2R : qjM → List Fr
 | .c0 .. => [.code q07]
def q4E : qjM → St
 | .c0 a m => St.init [(TV.agg (qaA a)), (TV.agg (qaA m))]
def qvZ (cx : Cx) (c : qjM) (r : (qaB × Int)) : Prop := Wk prog cx (qc2 prog 95 [[0,1], [0]] (TV.tup [(true, qaA r.1), (false, [(T.int .i64 r.2)])])) (q2R c) .normal (q4E c)
abbrev qv0 (K : Nat) : Prop := ∀ c r, qgH K c = some r → ∀ cx : Cx, cx.n = 31 → qvZ cx c r
theorem q4F {K} (_ : qv0 K) {cx} (hn : cx.n = 31) {a m} {r} (h : qgH (K + 1) (.c0 a m) = some r) : qvZ cx (.c0 a m) r := by
 rw [qgH] at h
 obtain ⟨x1, h2, h⟩ := qaH h
 rcases qaQ h with ⟨h3, h⟩ | ⟨h3, h⟩
 ·obtain ⟨x4, h5, h⟩ := qaH h
  obtain ⟨x6, h7, h⟩ := qaH h
  rcases qaQ h with ⟨h8, h⟩ | ⟨h8, h⟩
  ·obtain ⟨x9, h10, h⟩ := qaH h
   obtain ⟨x11, h12, h⟩ := qaH h
   have h := oinj h; subst h
   exact wkR [rg4, rgG [oo, oo, opI (.call [[0,1], [0,1]] [(TV.agg (qaA a)), (TV.agg (qaA m))] (TV.tup [(true, qaA x1.1), (false, [(T.int .i64 x1.2)])])), oo, oo, oo, oo, oo, oo], .draw [.p, .p, .p, (.ga true .p), (.ga true .p), (.ga true (.call [[1], [0]] [(TV.c (T.sl 1 (x1.1.Abs.map qaC))), (TV.c (T.int .i64 (1 : Int)))] (tl 1 x4 qaC))), (.ga true .p), (.ga true .p), (.ga true (.call [[1], [1]] [(tl 1 x4 qaC), (TV.c (T.sl 1 (m.Abs.map qaC)))] (ti .i64 x6))), (.ga true .p), (.pk true)] [], bTr, .draw [.p, .p, (.call [[0,1]] [(TV.agg (qaA m))] (TV.agg (qaA x9)))] [opI (.call [[0,1], [0,1]] [(TV.agg (qaA x1.1)), (TV.agg (qaA x9))] (TV.agg (qaA x11))), .op .p], rg4] hn (aC (qsZ h2) <| aC h3 <| aC h3 <| aC h3 <| aC (qkV h5) <| aC h3 <| aC h3 <| aC h3 <| aC (qe4 h7) <| aC h3 <| aC h3 <| aC h8 <| aC (qdW h10) <| aC (qfT h12) <| aN)
  ·have h := oinj h; subst h
   exact wkR [rg4, rgG [oo, oo, opI (.call [[0,1], [0,1]] [(TV.agg (qaA a)), (TV.agg (qaA m))] (TV.tup [(true, qaA x1.1), (false, [(T.int .i64 x1.2)])])), oo, oo, oo, oo, oo, oo], .draw [.p, .p, .p, (.ga true .p), (.ga true .p), (.ga true (.call [[1], [0]] [(TV.c (T.sl 1 (x1.1.Abs.map qaC))), (TV.c (T.int .i64 (1 : Int)))] (tl 1 x4 qaC))), (.ga true .p), (.ga true .p), (.ga true (.call [[1], [1]] [(tl 1 x4 qaC), (TV.c (T.sl 1 (m.Abs.map qaC)))] (ti .i64 x6))), (.ga true .p), (.pk true)] [], bFa, rg4] hn (aC (qsZ h2) <| aC h3 <| aC h3 <| aC h3 <| aC (qkV h5) <| aC h3 <| aC h3 <| aC h3 <| aC (qe4 h7) <| aC h3 <| aC h3 <| aC h8 <| aN)
 ·have h := oinj h; subst h
  exact wkR [rg4, rgG [oo, oo, opI (.call [[0,1], [0,1]] [(TV.agg (qaA a)), (TV.agg (qaA m))] (TV.tup [(true, qaA x1.1), (false, [(T.int .i64 x1.2)])])), oo, oo, oo, oo, oo, oo], .draw [.p, .p, .p, (.ga false .p), (.ga false .p), (.ga false .p), (.ga false .p), (.ga false .p), (.ga false .p), (.ga false .p), (.pk false)] [], bFa, rg4] hn (aC (qsZ h2) <| aC h3 <| aC h3 <| aC h3 <| aC h3 <| aC h3 <| aC h3 <| aC h3 <| aC h3 <| aC rf <| aN)
theorem qtB : ∀ K : Nat, qv0 K
 | 0, c, r, h => by rw [qgH] at h; cases h
 | K + 1, .c0 .., r, h => fun cx hn => q4F (qtB K) hn h
theorem qgG {K : Nat} {a : qaB} {m : qaB} {r : (qaB × Int)} (h : qf4 K a m = some r) : qc5 prog 95 [(TV.agg (qaA a)), (TV.agg (qaA m))] (TV.tup [(true, qaA r.1), (false, [(T.int .i64 r.2)])]) :=
 qa0 [[0,1], [0]] (by kernel_rfl) (by simp) fun cx hn => qtB K (.c0 a m) r h cx hn
theorem zp1 {z : Int} {n : Nat} (h0 : 0 ≤ z) (h1 : z < 4294967296 ^ (n + 1)) (h2 : 4294967296 ^ n ≤ z) : (digs z).length = n + 1 := by
  have h3 := qq5 h1
  have h4 : ¬ (digs z).length ≤ n := fun h => by have := q8B h0 h; omega
  omega
theorem zfS {a b : List Int} (ha : Dig a) (hb : Dig b) (hs : a.length ≤ 17179869184) (ht : b.length ≤ 17179869184) (h0 : val b ≠ 0) : Ev (fun K => qwH K a b) (digs (val a / val b), digs (val a % val b)) := by
  refine qaJ ?_
  simp only [qwH, qaO]
  have na := qbE ha
  have nb := qbE hb
  have lb := qeX hb
  have vb := qf1 nb
  have hc := qfX (val a) (val b)
  have hcmp := qpO ha (qeG (val b)) (by omega) (by omega)
  rw [vb] at hcmp
  refine qaG (qoN hb (by omega)) (qaG hcmp ?_)
  by_cases hlt : val a < val b
  · refine ev_t (by simp; omega) (qaG (qoN ha (by omega)) (qeW (qaT _) ?_))
    rw [Int.ediv_eq_zero_of_lt na hlt, Int.emod_eq_of_lt na hlt, qgT]
  · refine ev_f (by simp; omega) ?_
    have hne : digs (val b) ≠ [] := fun e => h0 ((qlJ nb).1 e)
    have hlp := List.length_pos_iff.2 hne
    by_cases h1 : (digs (val b)).length = 1
    · have e1 : gi (digs (val b)) 0 = some (val b) := by
        obtain ⟨x, hd⟩ : ∃ x, digs (val b) = [x] := List.length_eq_one_iff.1 h1
        rw [hd] at vb ⊢
        simp at vb
        rw [← vb]; rfl
      have hlb : val b < 4294967296 := by have := q8B nb (Nat.le_of_eq h1); simpa using this
      refine ev_t (by simp; omega) (qa3 e1 ?_)
      have hr0 := Int.emod_nonneg (val a) h0
      have hr1 := Int.emod_lt_of_pos (val a) (show 0 < val b by omega)
      refine qaG (qw1 ha (by omega) (by omega)) ?_
      simp only
      rw [qo9, Int.emod_eq_of_lt hr0 (by omega)]
      exact qaG (q0T hr0 (by omega)) (qaT _)
    · -- the long way
      obtain ⟨n, hn⟩ : ∃ n, (digs (val b)).length = n + 2 := ⟨(digs (val b)).length - 2, by omega⟩
      have hdt := qe0 (qeG (val b)) (show n + 1 < (digs (val b)).length by omega)
      have hlast := zq3 (qyZ (val b)) hne
      rw [List.getLast_eq_getElem] at hlast
      have el : (digs (val b))[(digs (val b)).length - 1]'(by omega) = (digs (val b))[n + 1]'(by omega) := by congr 1; omega
      rw [el] at hlast
      obtain ⟨s, hsev, hs31, hs1, hs2⟩ := qxN (x := (digs (val b))[n + 1]'(by omega)) (by omega)
      -- the value of b
      have hsplit := qoG (digs (val b)) (n + 1) (by omega)
      rw [q4B (by omega), List.drop_of_length_le (l := digs (val b)) (i := n + 1 + 1) (by omega), q6X, vb] at hsplit
      have hlow := qlD (qjN (qeG (val b)) (n + 1))
      rw [List.length_take, Nat.min_eq_left (by omega)] at hlow
      have hlow0 := qbE (qjN (qeG (val b)) (n + 1))
      generalize hx : (digs (val b))[n + 1]'(by omega) = x at *
      generalize val ((digs (val b)).take (n + 1)) = w at *
      have hA := qe2 (n + 1)
      have hP : (0 : Int) < 2 ^ s := Int.pow_pos (by decide)
      have hPQ : (2 : Int) ^ (32 - s) * 2 ^ s = 4294967296 := by rw [← Int.pow_add, show 32 - s + s = 32 by omega]; rfl
      have hxs : (x + 1) * 2 ^ s ≤ 4294967296 := by
        have := Int.mul_le_mul_of_nonneg_right (show x + 1 ≤ 2 ^ (32 - s) by omega) (Int.le_of_lt hP)
        omega
      have hV : val b * 2 ^ s = w * 2 ^ s + 4294967296 ^ (n + 1) * (x * 2 ^ s) := by
        rw [hsplit]; generalize (4294967296 : Int) ^ (n + 1) = A; generalize (2 : Int) ^ s = P; grind
      have hVhi : val b * 2 ^ s < 4294967296 ^ (n + 2) := by
        have h3 := Int.mul_lt_mul_of_pos_right hlow hP
        have h4 := Int.mul_le_mul_of_nonneg_left hxs (Int.le_of_lt hA)
        rw [Int.pow_succ _ (n + 1)]
        have h5 : 4294967296 ^ (n + 1) * ((x + 1) * 2 ^ s) = 4294967296 ^ (n + 1) * (x * 2 ^ s) + 4294967296 ^ (n + 1) * 2 ^ s := by
          generalize (4294967296 : Int) ^ (n + 1) = A; generalize (2 : Int) ^ s = P; grind
        omega
      have hw0 : 0 ≤ w * 2 ^ s := Int.mul_nonneg hlow0 (Int.le_of_lt hP)
      have hVlo : 4294967296 ^ (n + 1) * 2147483648 ≤ val b * 2 ^ s := by
        have := Int.mul_le_mul_of_nonneg_left hs1 (Int.le_of_lt hA)
        omega
      have hVlo1 : 4294967296 ^ (n + 1) ≤ val b * 2 ^ s := by omega
      have hVn : 0 ≤ val b * 2 ^ s := by omega
      have hvl := zp1 hVn hVhi hVlo1
      have hvv := qf1 hVn
      -- the divisor
      have hdtop := qoG (digs (val b * 2 ^ s)) (n + 1) (by omega)
      rw [q4B (by omega), List.drop_of_length_le (l := digs (val b * 2 ^ s)) (i := n + 1 + 1) (by omega), q6X, hvv] at hdtop
      have hlow' := qlD (qjN (qeG (val b * 2 ^ s)) (n + 1))
      rw [List.length_take, Nat.min_eq_left (by omega)] at hlow'
      have hgreat : 2147483648 ≤ (digs (val b * 2 ^ s))[n + 1]'(by omega) := by
        apply Classical.byContradiction; intro hne
        have := Int.mul_le_mul_of_nonneg_left (show (digs (val b * 2 ^ s))[n + 1]'(by omega) + 4294967296 * 0 + 1 ≤ 2147483648 by omega) (Int.le_of_lt hA)
        rw [Int.mul_add _ _ 1, Int.mul_one] at this
        omega
      have hDv : Dv (digs (val b * 2 ^ s)) (n + 2) s ((digs (val b * 2 ^ s))[n + 1]'(by omega)) ((digs (val b * 2 ^ s))[n]'(by omega)) :=
        ⟨qeG _, hvl, by omega, by omega, by omega, by rw [show n + 2 - 1 = n + 1 by omega]; exact List.getElem?_eq_getElem (by omega), by rw [Nat.add_sub_cancel]; exact List.getElem?_eq_getElem (by omega), hgreat⟩
      refine ev_f (by simp; omega) ?_
      rw [hn, qbR (x := ((n + 2 : Nat) : Int) - 1) (by omega), qbR (x := ((n + 2 : Nat) : Int) - 2) (by omega), show ((n + 2 : Nat) : Int) - 1 = ((n + 1 : Nat) : Int) by omega, show ((n + 2 : Nat) : Int) - 2 = (n : Int) by omega]
      have hgx : gi (digs (val b)) ((n + 1 : Nat) : Int) = some x := by rw [qbN (by omega), hx]
      have hshl := qy4 (qeG (val b)) (n := s) (by omega) (by omega)
      rw [vb] at hshl
      have hshn := zhB ha (n := s) (by omega) (by omega)
      have hAge : val b * 2 ^ s ≤ val a * 2 ^ s := Int.mul_le_mul_of_nonneg_right (by omega) (Int.le_of_lt hP)
      have hAn : 0 ≤ val a * 2 ^ s := by omega
      have hml : n + 2 ≤ (digs (val a * 2 ^ s)).length := by
        apply Classical.byContradiction; intro hne
        have := q8B hAn (show (digs (val a * 2 ^ s)).length ≤ n + 1 by omega)
        omega
      have hopt : optD (val a * 2 ^ s) = some (digs (val a * 2 ^ s)) := by unfold optD; rw [if_neg (by omega)]
      rw [hopt] at hshn
      refine qa3 hgx (qaG hsev (qaG hshl (qaG hshn ?_)))
      have hua : (digs (val a * 2 ^ s)).length ≤ a.length + 1 := by
        refine qq5 ?_
        have h3 := qlD ha
        have h4 : (2 : Int) ^ s < 4294967296 := by
          have : (2 : Nat) ^ s ≤ 2 ^ 31 := Nat.pow_le_pow_right (by decide) (by omega)
          have : ((2 ^ s : Nat) : Int) ≤ ((2 ^ 31 : Nat) : Int) := by exact_mod_cast this
          simp at this; omega
        rw [Int.pow_succ]
        calc val a * 2 ^ s ≤ val a * 4294967296 := Int.mul_le_mul_of_nonneg_left (Int.le_of_lt h4) na
          _ < 4294967296 ^ a.length * 4294967296 := Int.mul_lt_mul_of_pos_right h3 (by decide)
      have hul : (digs (val a * 2 ^ s) ++ [0]).length = (digs (val a * 2 ^ s)).length + 1 := by simp
      have hud : Dig (digs (val a * 2 ^ s) ++ [0]) := q4Q.2 ⟨qeG _, qkO.2 ⟨by decide, qxZ⟩⟩
      have huv : val (digs (val a * 2 ^ s) ++ [0]) = val a * 2 ^ s := by rw [qkQ, qf1 hAn]; simp
      simp only [List.length_map, hul]
      generalize hM : (digs (val a * 2 ^ s)).length = M at *
      rw [qbR (x := ((M + 1 : Nat) : Int) - ((n + 2 : Nat) : Int)) (by omega), show ((M + 1 : Nat) : Int) - ((n + 2 : Nat) : Int) = ((M - n - 1 : Nat) : Int) by omega]
      refine qeZ (by omega) (qeZ (by omega) (qa3 (qbN (by omega)) (qa3 (qbN (by omega)) ?_)))
      have dtop := qe0 (qeG (val b * 2 ^ s)) (show n + 1 < (digs (val b * 2 ^ s)).length by omega)
      have dnext := qe0 (qeG (val b * 2 ^ s)) (show n < (digs (val b * 2 ^ s)).length by omega)
      rw [qo9, Int.emod_eq_of_lt dtop.1 (by omega), qo9, Int.emod_eq_of_lt dnext.1 (by omega), Int.toNat_natCast, qbR (by omega)]
      have hml2 := qlD (qeG (val a * 2 ^ s))
      rw [qf1 hAn, hM] at hml2
      have := zoU hDv (M + 1) (by omega) (by omega) (val a * 2 ^ s) (M - n - 1) (digs (val a * 2 ^ s) ++ [0]) (List.replicate (M - n - 1) 0) (by omega) hud (by simp [hM]) (q8C (by decide)) (by simp) (by simp; omega)
        (by
          rw [huv, hvv]
          have h5 := Int.mul_le_mul_of_nonneg_left hVlo1 (Int.le_of_lt (qe2 (M - n - 1)))
          rw [← Int.pow_add, show M - n - 1 + (n + 1) = M by omega] at h5
          omega)
        (by rw [q0L, huv]; simp) (fun i hi => by rw [List.getElem?_replicate, if_pos hi])
      have er : val a * 2 ^ s % (val b * 2 ^ s) / 2 ^ s = val a % val b := by
        rw [Int.mul_comm (val a), Int.mul_comm (val b), Int.mul_emod_mul_of_pos _ _ hP, Int.mul_ediv_cancel_left _ (by omega)]
      rw [hvv, er, Int.mul_ediv_mul_of_pos_left _ _ hP] at this
      exact this
def Sm (a : qaB) : Prop := Dig a.Abs ∧ a.Abs.length ≤ 17179869000
theorem q1P {z : Int} {n : Nat} (hn : n ≤ 17179869000) (h1 : -(4294967296 ^ n) < z) (h2 : z < 4294967296 ^ n) : Sm (mkI z) := ⟨qfZ z, by have := qjD h1 h2; omega⟩
theorem zpG {a : qaB} (h : Dig a.Abs) : ((ival a).natAbs : Int) < 4294967296 ^ a.Abs.length := by rw [← qvC a h]; exact qlD h
theorem zgX {a : qaB} (h : Sm a) {z : Int} (hz : z.natAbs ≤ (ival a).natAbs) : Sm (mkI z) := by
  have h1 := zpG h.1
  exact q1P h.2 (by omega) (by omega)
theorem zsB {a : qaB} (h : Sm a) : Sm (mkI (ival a)) := zgX h (Nat.le_refl _)
theorem zh2 : mkI 0 = ⟨false, []⟩ := by rw [q3W (Int.le_refl 0), qgT]
theorem q28 : Sm ⟨false, []⟩ := ⟨qxZ, Nat.zero_le _⟩
theorem qmS {a b : qaB} (ha : Sm a) (hb : Sm b) : Ev (fun K => qgQ K a b) (mkI (ival a - ival b)) := by
  refine qaJ ?_
  simp only [qgQ, qmR]
  have := qpQ (a := a) (b := ⟨!b.Neg, b.Abs⟩) ha.1 hb.1 (by have := ha.2; omega) (by have := hb.2; simp only; omega)
  have e : ival ⟨!b.Neg, b.Abs⟩ = -ival b := by unfold ival; cases b.Neg <;> simp
  rw [e, ← Int.sub_eq_add_neg] at this
  exact qaG this (qaT _)
theorem qn9 {a b : qaB} (ha : Sm a) (hb : Sm b) (h0 : ival b ≠ 0) : Ev (fun K => qoA K a b) (mkI ((ival a).tdiv (ival b)), mkI ((ival a).tmod (ival b)), 0) := by
  refine qaJ ?_
  simp only [qoA, qk9]
  have na := qbE ha.1
  have nb := qbE hb.1
  have hvb := qvC b hb.1
  have hb0 : val b.Abs ≠ 0 := by omega
  have hq0 : 0 ≤ val a.Abs / val b.Abs := Int.ediv_nonneg na nb
  have hr0 := Int.emod_nonneg (val a.Abs) hb0
  have hql : (digs (val a.Abs / val b.Abs)).length ≤ a.Abs.length := by
    refine qq5 ?_
    have := Int.ediv_le_self (val b.Abs) na
    have := qlD ha.1
    omega
  have hrl : (digs (val a.Abs % val b.Abs)).length ≤ b.Abs.length := by
    refine qq5 ?_
    have := Int.emod_lt_of_pos (val a.Abs) (show 0 < val b.Abs by omega)
    have := qlD hb.1
    omega
  have s1 := ha.2
  have s2 := hb.2
  have f1 := qn7 (!(a.Neg == b.Neg)) (qeG (val a.Abs / val b.Abs)) (by omega)
  have f2 := qn7 a.Neg (qeG (val a.Abs % val b.Abs)) (by omega)
  rw [qf1 hq0] at f1
  rw [qf1 hr0] at f2
  refine qaG (qgA hb.1 (by omega)) (ev_f (by simpa using h0) (qaG (zfS ha.1 hb.1 (by omega) (by omega) hb0) ?_))
  refine qaG f1 (qaG f2 (qeW (qaT _) ?_))
  obtain ⟨s, a⟩ := a
  obtain ⟨t, b⟩ := b
  simp only at na nb hb0
  unfold ival
  have e1 := Int.tdiv_eq_ediv_of_nonneg (b := val b) na
  have e2 := Int.tmod_eq_emod_of_nonneg (b := val b) na
  cases s <;> cases t <;> simp [Int.neg_tdiv, Int.tdiv_neg, Int.neg_tmod, Int.tmod_neg, e1, e2]
theorem zmT (x y : Int) (hy : 0 < y) : -y < x.tmod y ∧ x.tmod y < y ∧ y * x.tdiv y + x.tmod y = x := by
  have h1 := Int.mul_tdiv_add_tmod x y
  have h2 := Int.natAbs_tmod x y
  have h3 : x.natAbs % y.natAbs < y.natAbs := Nat.mod_lt _ (by omega)
  omega
theorem zu6 (x y : Int) (hy : 0 < y) : (x.tmod y < 0 → x / y = x.tdiv y - 1 ∧ x % y = x.tmod y + y) ∧ (0 ≤ x.tmod y → x / y = x.tdiv y ∧ x % y = x.tmod y) := by
  obtain ⟨h1, h2, h3⟩ := zmT x y hy
  constructor
  · intro h
    rw [Int.ediv_emod_unique hy]
    refine ⟨?_, by omega, by omega⟩
    rw [Int.mul_sub, Int.mul_one]; omega
  · intro h
    rw [Int.ediv_emod_unique hy]
    exact ⟨by omega, by omega, by omega⟩
theorem q60 (x y : Int) : (x.tdiv y).natAbs ≤ x.natAbs := by rw [Int.natAbs_tdiv]; exact Nat.div_le_self _ _
theorem zdU {a : qaB} {y : Int} (ha : Sm a) (hy : 0 < y) (hb : Sm (mkI y)) : Ev (fun K => quP K a (mkI y)) (mkI (ival a / y), mkI (ival a % y), 0) := by
  have hq := qn9 ha hb (by rw [qa2]; omega)
  rw [qa2] at hq
  obtain ⟨t1, t2, t3⟩ := zmT (ival a) y hy
  obtain ⟨f1, f2⟩ := zu6 (ival a) y hy
  have sr : Sm (mkI ((ival a).tmod y)) := zgX hb (by rw [qa2]; omega)
  have sq : Sm (mkI ((ival a).tdiv y)) := zgX ha (q60 _ _)
  refine qaJ ?_
  simp only [quP, qi6]
  have hz := qgA sr.1 (by have := sr.2; omega)
  rw [qa2] at hz
  refine qaG hq (ev_t rfl (qaG hz ?_))
  have hn : (mkI y).Neg = false := by rw [q3W (by omega)]
  by_cases h0 : (ival a).tmod y = 0
  · refine ev_f (by simpa using h0) (qeW (qaT _) ?_)
    obtain ⟨g1, g2⟩ := f2 (by omega)
    rw [g1, g2]
  · refine ev_t (by simpa using h0) ?_
    by_cases hneg : (ival a).tmod y < 0
    · obtain ⟨g1, g2⟩ := f1 hneg
      have hs : (mkI ((ival a).tmod y)).Neg = true := by rw [zpR hneg]
      have sub := qmS sq (q1P (z := 1) (n := 1) (by decide) (by decide) (by decide))
      rw [qa2, qa2] at sub
      have add := qpQ sr.1 hb.1 (by have := sr.2; omega) (by have := hb.2; omega)
      rw [qa2, qa2] at add
      refine ev_t (by simp [hs, hn]) (qaG (qf9 (by decide)) (qaG sub (qaG add (qeW (qaT _) ?_))))
      rw [g1, g2]
    · obtain ⟨g1, g2⟩ := f2 (by omega)
      have hs : (mkI ((ival a).tmod y)).Neg = false := by rw [q3W (by omega)]
      refine ev_f (by simp [hs, hn]) (qeW (qaT _) ?_)
      rw [g1, g2]
theorem zjQ {a m : qaB} (ha : Sm a) (hm : Sm m) (h0 : ival m ≠ 0) : Ev (fun K => qyU K a m) (mkI (ival a % ((ival m).natAbs : Int)), 0) := by
  refine qaJ ?_
  simp only [qyU, qlA]
  exact qaG (qkB hm.1 (by have := hm.2; omega)) (qaG (zdU ha (by omega) (zgX hm (by omega))) (qaT _))
def sym (x m : Int) : Int := if (m.natAbs : Int) < 2 * (x % (m.natAbs : Int)) then x % (m.natAbs : Int) - m.natAbs else x % (m.natAbs : Int)
theorem q61 {x m : Int} (h : m ≠ 0) : (sym x m).natAbs ≤ m.natAbs := by
  have h1 := Int.emod_nonneg x (show (m.natAbs : Int) ≠ 0 by omega)
  have h2 := Int.emod_lt_of_pos x (show (0 : Int) < (m.natAbs : Int) by omega)
  unfold sym; split <;> omega
theorem znD (x m : Int) : m ∣ sym x m - x := by
  have h1 := Int.emod_add_mul_ediv x (m.natAbs : Int)
  have h2 : m ∣ (m.natAbs : Int) := Int.dvd_natAbs.2 (Int.dvd_refl m)
  unfold sym
  split
  · have h3 : x % (m.natAbs : Int) - m.natAbs - x = (m.natAbs : Int) * (-(x / (m.natAbs : Int)) - 1) := by
      generalize x / (m.natAbs : Int) = q at *
      generalize x % (m.natAbs : Int) = r at *
      rw [← h1]; grind
    rw [h3]; exact Int.dvd_mul_of_dvd_left h2
  · have h3 : x % (m.natAbs : Int) - x = (m.natAbs : Int) * (-(x / (m.natAbs : Int))) := by
      generalize x / (m.natAbs : Int) = q at *
      generalize x % (m.natAbs : Int) = r at *
      rw [← h1]; grind
    rw [h3]; exact Int.dvd_mul_of_dvd_left h2
theorem zoA {x y m : Int} (h : m ∣ x - y) : sym x m = sym y m := by
  have h2 : (m.natAbs : Int) ∣ x - y := Int.natAbs_dvd.2 h
  have : x % (m.natAbs : Int) = y % (m.natAbs : Int) := Int.emod_eq_emod_iff_emod_sub_eq_zero.2 (Int.emod_eq_zero_of_dvd h2)
  unfold sym; rw [this]
theorem zn9 {x m : Int} (h1 : -(m.natAbs : Int) < 2 * x) (h2 : 2 * x ≤ m.natAbs) : sym x m = x := by
  unfold sym
  by_cases h : 0 ≤ x
  · rw [Int.emod_eq_of_lt h (by omega), if_neg (by omega)]
  · have e : x % (m.natAbs : Int) = x + m.natAbs := by
      have := Int.add_mul_emod_self_left x (m.natAbs : Int) 1
      rw [Int.mul_one] at this
      rw [← this, Int.emod_eq_of_lt (by omega) (by omega)]
    rw [e, if_pos (by omega)]; omega
theorem qn8 {a m : qaB} (ha : Sm a) (hm : Sm m) (h0 : ival m ≠ 0) : Ev (fun K => qf4 K a m) (mkI (sym (ival a) (ival m)), 0) := by
  refine qaJ ?_
  simp only [qf4, qgH]
  have hr0 := Int.emod_nonneg (ival a) (show ((ival m).natAbs : Int) ≠ 0 by omega)
  have hr1 := Int.emod_lt_of_pos (ival a) (show (0 : Int) < ((ival m).natAbs : Int) by omega)
  have sr : Sm (mkI (ival a % ((ival m).natAbs : Int))) := zgX hm (by omega)
  have sab : Sm (mkI ((ival m).natAbs : Int)) := zgX hm (by omega)
  have s1 := sr.2
  have s2 := hm.2
  have shl := qy4 sr.1 (n := 1) (by decide) (by omega)
  have e1 : val (mkI (ival a % ((ival m).natAbs : Int))).Abs = ival a % ((ival m).natAbs : Int) := by rw [q3W hr0]; exact qf1 hr0
  rw [e1, show ival a % ((ival m).natAbs : Int) * 2 ^ 1 = 2 * (ival a % ((ival m).natAbs : Int)) by omega] at shl
  have hl : (digs (2 * (ival a % ((ival m).natAbs : Int)))).length ≤ m.Abs.length + 1 := by
    refine qq5 ?_
    have := zpG hm.1
    rw [Int.pow_succ]; omega
  have cmp := qpO (qeG (2 * (ival a % ((ival m).natAbs : Int)))) hm.1 (by omega) (by omega)
  rw [qf1 (by omega), qvC m hm.1] at cmp
  have hc := qfX (2 * (ival a % ((ival m).natAbs : Int))) ((ival m).natAbs : Int)
  refine qaG (zjQ ha hm h0) (ev_t rfl (qaG shl (qaG cmp ?_)))
  unfold sym
  by_cases h : ((ival m).natAbs : Int) < 2 * (ival a % ((ival m).natAbs : Int))
  · have sub := qmS sr sab
    rw [qa2, qa2] at sub
    rw [if_pos h]
    exact ev_t (by simp; omega) (qaG (qkB hm.1 (by omega)) (qaG sub (qaT _)))
  · rw [if_neg h]
    exact ev_f (by simp; omega) (qaT _)
theorem qt4 {a b : qaB} (ha : Sm a) (hb : Sm b) (h0 : ival b ≠ 0) (hd : ival b ∣ ival a) : Ev (fun K => qeU K a b) (mkI (ival a / ival b), 0) := by
  refine qaJ ?_
  simp only [qeU, qi7]
  have hm : (ival a).tmod (ival b) = 0 := Int.dvd_iff_tmod_eq_zero.1 hd
  have hq : (ival a).tdiv (ival b) = ival a / ival b := by
    obtain ⟨c, hc⟩ := hd
    rw [hc, Int.mul_tdiv_cancel_left _ h0, Int.mul_ediv_cancel_left _ h0]
  have := qn9 ha hb h0
  rw [hm, hq] at this
  have hz := qgA (a := mkI 0) (qfZ 0) (by rw [zh2]; simp)
  rw [qa2] at hz
  exact qaG this (ev_t rfl (qaG hz (ev_f rfl (qaT _))))
def co (l : List Int) (k : Nat) : Int := l.getD k 0
def xm (f : Nat → Int) (k : Nat) : Int := match k with | 0 => 0 | k + 1 => f k
def lm : List Int → (Nat → Int) → Nat → Int
  | [], _ => fun _ => 0
  | a :: l, g => fun k => a * g k + xm (lm l g) k
def pone (k : Nat) : Int := if k = 0 then 1 else 0
@[simp] theorem co_nil (k : Nat) : co [] k = 0 := by simp [co]
@[simp] theorem zp3 (a : Int) (l : List Int) : co (a :: l) 0 = a := by simp [co]
@[simp] theorem znS (a : Int) (l : List Int) (k : Nat) : co (a :: l) (k + 1) = co l k := by simp [co]
theorem qdP {l : List Int} {k : Nat} (h : k < l.length) : co l k = l[k] := by simp [co, List.getD, List.getElem?_eq_getElem h]
theorem qdH {l : List Int} {k : Nat} (h : l.length ≤ k) : co l k = 0 := by simp [co, List.getD, List.getElem?_eq_none h]
theorem ztN (a : Int) (l : List Int) : co (a :: l) = fun k => a * pone k + xm (co l) k := by
  funext k; cases k <;> simp [pone, xm]
theorem zs1 (l : List Int) (f g : Nat → Int) : lm l (fun k => f k + g k) = fun k => lm l f k + lm l g k := by
  induction l with
  | nil => rfl
  | cons a l ih =>
    funext k
    simp only [lm, ih]
    cases k <;> simp only [xm] <;> grind
theorem zsY (l : List Int) (c : Int) (f : Nat → Int) : lm l (fun k => c * f k) = fun k => c * lm l f k := by
  induction l with
  | nil => funext k; simp [lm]
  | cons a l ih =>
    funext k
    simp only [lm, ih]
    cases k <;> simp only [xm] <;> grind
theorem lm_xm (l : List Int) (f : Nat → Int) : lm l (xm f) = xm (lm l f) := by
  induction l with
  | nil => funext k; cases k <;> simp [lm, xm]
  | cons a l ih =>
    funext k
    simp only [lm, ih]
    cases k <;> simp [xm]
theorem zc5 (l : List Int) : lm l (fun _ => 0) = fun _ => 0 := by
  induction l with
  | nil => rfl
  | cons a l ih => funext k; simp only [lm, ih]; cases k <;> simp [xm]
theorem lm_one (l : List Int) : lm l pone = co l := by
  induction l with
  | nil => funext k; simp [lm]
  | cons a l ih => rw [ztN]; funext k; simp only [lm, ih]
theorem q03 (f g : List Int) : lm f (co g) = lm g (co f) := by
  induction f with
  | nil =>
    rw [show co [] = fun _ => 0 by funext k; simp, zc5]
    rfl
  | cons a f ih =>
    rw [ztN, zs1, zsY, lm_xm, lm_one, ← ih]
    rfl
theorem lm_lm (f g : List Int) (h : Nat → Int) : lm f (lm g h) = lm g (lm f h) := by
  induction f with
  | nil =>
    show (fun _ => 0) = lm g (fun _ => 0)
    rw [zc5]
  | cons a f ih =>
    show (fun k => a * lm g h k + xm (lm f (lm g h)) k) = lm g (fun k => a * h k + xm (lm f h) k)
    rw [zs1, zsY, lm_xm, ih]
theorem zh4 {f g : List Int} (h : co f = co g) (u : List Int) : lm f (co u) = lm g (co u) := by
  rw [q03 f, q03 g, h]
theorem zlY (l : List Int) (f g : Nat → Int) (k : Nat) (h : ∀ j, j ≤ k → f j = g j) : lm l f k = lm l g k := by
  induction l generalizing k with
  | nil => rfl
  | cons a l ih =>
    simp only [lm, h k (Nat.le_refl _)]
    cases k with
    | zero => rfl
    | succ k => simp only [xm, ih k (fun j hj => h j (by omega))]
def Cong (m : Int) (f g : Nat → Int) : Prop := ∀ k, m ∣ f k - g k
theorem Cong.refl (m : Int) (f : Nat → Int) : Cong m f f := fun k => by rw [Int.sub_self]; exact Int.dvd_zero m
theorem Cong.symm {m : Int} {f g : Nat → Int} (h : Cong m f g) : Cong m g f := fun k => by
  have := Int.dvd_neg.2 (h k); rwa [Int.neg_sub] at this
theorem Cong.trans {m : Int} {f g h : Nat → Int} (h1 : Cong m f g) (h2 : Cong m g h) : Cong m f h := fun k => by
  have := Int.dvd_add (h1 k) (h2 k); rwa [show f k - g k + (g k - h k) = f k - h k by omega] at this
theorem Cong.lm_left {m : Int} (l : List Int) {f g : Nat → Int} (h : Cong m f g) : Cong m (lm l f) (lm l g) := by
  induction l with
  | nil => exact Cong.refl _ _
  | cons a l ih =>
    intro k
    have h1 := Int.dvd_mul_of_dvd_right (b := a) (h k)
    simp only [lm]
    rw [Int.mul_sub] at h1
    cases k with
    | zero => simpa [xm] using h1
    | succ k =>
      have := Int.dvd_add h1 (ih k)
      simp only [xm]
      rwa [show a * f (k + 1) - a * g (k + 1) + (lm l f k - lm l g k) = a * f (k + 1) + lm l f k - (a * g (k + 1) + lm l g k) by omega] at this
theorem Cong.mul {m : Int} {f f' g g' : List Int} (h : Cong m (co f) (co f')) (h' : Cong m (co g) (co g')) : Cong m (lm f (co g)) (lm f' (co g')) := by
  refine (Cong.lm_left f h').trans ?_
  rw [q03 f, q03 f']
  exact Cong.lm_left g' h
def xpow (i : Nat) (f : Nat → Int) (k : Nat) : Int := if i ≤ k then f (k - i) else 0
theorem zxK (l : List Int) (a : Int) (g : Nat → Int) : lm (l ++ [a]) g = fun k => lm l g k + a * xpow l.length g k := by
  induction l with
  | nil => funext k; simp only [List.nil_append, lm, xpow, List.length_nil]; cases k <;> simp [xm]
  | cons b l ih =>
    funext k
    simp only [List.cons_append, lm, ih, List.length_cons]
    cases k with
    | zero => simp [xm, xpow]
    | succ k =>
      simp only [xm, xpow, Nat.succ_le_succ_iff, Nat.add_sub_add_right]
      omega
theorem zoV (f : List Int) (i : Nat) (h : i < f.length) (g : Nat → Int) : lm (f.take (i + 1)) g = fun k => lm (f.take i) g k + f[i] * xpow i g k := by
  rw [List.take_add_one, List.getElem?_eq_getElem h, Option.toList_some, zxK, List.length_take, Nat.min_eq_left (by omega)]
theorem zsZ (f g : List Int) (k : Nat) (h : f.length + g.length ≤ k + 1) : lm f (co g) k = 0 ∨ f = [] ∨ g = [] := by
  by_cases hf : f = []
  · exact .inr (.inl hf)
  · by_cases hg : g = []
    · exact .inr (.inr hg)
    · refine .inl ?_
      clear hf
      induction f generalizing k with
      | nil => rfl
      | cons a f ih =>
        simp only [lm]
        simp only [List.length_cons] at h
        have hgl : 0 < g.length := List.length_pos_iff.2 hg
        rw [qdH (l := g) (by omega), Int.mul_zero, Int.zero_add]
        cases k with
        | zero => rfl
        | succ k => simp only [xm]; exact ih k (by omega)
open Go.Proofs.Try (prog)
inductive qpX where
 | c0 (f : (List qaB))
 | c1 (f : (List qaB)) (n : Int)
 | c2 (f : (List qaB)) (n : Int)
def qcS : Nat → qpX → Option (List qaB)
 | 0, _ => none
 | K + 1, .c0 f =>
  qcS K (.c1 f (f.length : Int))
 | K + 1, .c1 f n =>
  bif (decide ((0 : Int) < n)) then
   (gi f (wI6 (n - (1 : Int)))).bind fun x2 =>
   (qmK K x2.Abs).bind fun x4 =>
   bif x4 then
    qcS K (.c1 f (wI6 (n - (1 : Int))))
   else
    qcS K (.c2 f n)
  else
   qcS K (.c2 f n)
 | _ + 1, .c2 f n =>
  bif (decide (n = (0 : Int))) then
   some []
  else
   gd (0 ≤ n ∧ 0 ≤ n.toNat ∧ n.toNat ≤ f.length) <|
   some (f.take n.toNat)
def qeH (K : Nat) (f : (List qaB)) : Option (List qaB) := qcS K (.c0 f)
noncomputable def qiU : Code := qbQ prog 102
noncomputable def zeJ : qpX → List Fr
 | .c0 .. => [.code qiU]
 | .c1 .. => [.code (.loop (atC qiU [1,1,0,0,0])), .blk 0, .code (atC qiU [1,1,1])]
 | .c2 .. => [.code (atC qiU [1,1,1,0,0]), .code (atC qiU [1,1,1,0,1]), .code (atC qiU [1,1,1,1])]
def zgJ : qpX → St
 | .c0 f => St.init [(tl 2 f qaA)]
 | .c1 f n => ⟨[(0, vl 2 f qaA), (3, vi .i64 n)], [], []⟩
 | .c2 f n => ⟨[(0, vl 2 f qaA), (3, vi .i64 n)], [], []⟩
def quA (cx : Cx) (c : qpX) (r : (List qaB)) : Prop := Wk prog cx (qc2 prog 102 [[2]] (tl 2 r qaA)) (zeJ c) .normal (zgJ c)
abbrev quB (K : Nat) : Prop := ∀ c r, qcS K c = some r → ∀ cx : Cx, cx.n = 24 → quA cx c r
theorem zgM {K} (ih : quB K) {cx} (hn : cx.n = 24) {f} {r} (h : qcS (K + 1) (.c0 f) = some r) : quA cx (.c0 f) r := by
 rw [qcS] at h
 exact wkG [rg1, rgG [oo, opI (.ln (f.length : Int)), oo], .pre [.keep [0,3] []]] hn (aC (qaX f qaA) <| aN) (ih _ _ h cx hn)
theorem zgL {K} (ih : quB K) {cx} (hn : cx.n = 24) {f n} {r} (h : qcS (K + 1) (.c1 f n) = some r) : quA cx (.c1 f n) r := by
 rw [qcS] at h
 rcases qaQ h with ⟨h1, h⟩ | ⟨h1, h⟩
 ·obtain ⟨x2, h3, h⟩ := qaH h
  obtain ⟨x4, h5, h⟩ := qaH h
  rcases qaQ h with ⟨h6, h⟩ | ⟨h6, h⟩
  ·exact wkG [.go, rgG [oo, oo, oo, .sb 8 true, oo, oo, oo, opI (.ix (qaA x2)), oo, oo, opI (.call [[1]] [(TV.c (T.sl 1 (x2.Abs.map qaC)))] (TV.c (T.bool x4))), oo], bTr, rg3, .pre [.keep [0,3] []]] hn (aC h1 <| aC (qa1 h3) <| aC (qbS qaA h3) <| aC (qgX h5) <| aC h6 <| aN) (ih _ _ h cx hn)
  ·exact wkG [.go, rgG [oo, oo, oo, .sb 8 true, oo, oo, oo, opI (.ix (qaA x2)), oo, oo, opI (.call [[1]] [(TV.c (T.sl 1 (x2.Abs.map qaC)))] (TV.c (T.bool x4))), oo], bFa, .pre [.keep [0,3] []]] hn (aC h1 <| aC (qa1 h3) <| aC (qbS qaA h3) <| aC (qgX h5) <| aC h6 <| aN) (ih _ _ h cx hn)
 ·exact wkG [.go, rgG [oo, oo, oo, .sb 8 false, oo, oo, oo, oo, oo, oo, oo, oo], bFa, .pre [.keep [0,3] []]] hn (aC h1 <| aC rf <| aN) (ih _ _ h cx hn)
theorem zgK {K} (_ : quB K) {cx} (hn : cx.n = 24) {f n} {r} (h : qcS (K + 1) (.c2 f n) = some r) : quA cx (.c2 f n) r := by
 rw [qcS] at h
 rcases qaQ h with ⟨h1, h⟩ | ⟨h1, h⟩
 ·have h := oinj h; subst h
  exact wkR [rg2, bTr, rg1] hn (aC h1 <| aN)
 ·obtain ⟨h2, h⟩ := qbI h
  have h := oinj h; subst h
  exact wkR [rg2, bFa, rgG [oo, oo, opI (.slT 0 n.toNat ((f.take n.toNat).map qaA)), oo]] hn (aC h1 <| aC r0 <| aC (⟨h2.1, rfl⟩ : 0 ≤ n ∧ n.toNat = n.toNat) <| aC h2.2.1 <| aC (ze8 _ h2.2.2 : n.toNat ≤ (f.map qaA).length) <| aC (q27 _ _ _ : ((f.map qaA).take n.toNat).drop 0 = (f.take n.toNat).map qaA) <| aN)
theorem qpW : ∀ K : Nat, quB K
 | 0, c, r, h => by rw [qcS] at h; cases h
 | K + 1, .c0 .., r, h => fun cx hn => zgM (qpW K) hn h
 | K + 1, .c1 .., r, h => fun cx hn => zgL (qpW K) hn h
 | K + 1, .c2 .., r, h => fun cx hn => zgK (qpW K) hn h
theorem qbL {K : Nat} {f : (List qaB)} {r : (List qaB)} (h : qeH K f = some r) : qc5 prog 102 [(tl 2 f qaA)] (tl 2 r qaA) :=
 qa0 [[2]] (by kernel_rfl) (by simp) fun cx hn => qpW K (.c0 f) r h cx hn
open Go.Proofs.Try (prog)
inductive qm4 where
 | c0 (f : (List qaB))
 | c1 (r8 : (List qaB)) (f : (List qaB)) (t10 : Int) (t11 : Int)
def qdS : Nat → qm4 → Option (List qaB)
 | 0, _ => none
 | K + 1, .c0 f =>
  (qeH K f).bind fun x1 =>
  gd (0 ≤ (x1.length : Int) ∧ (x1.length : Int) ≤ (x1.length : Int) ∧ (32 : Int) * (x1.length : Int) ≤ 140737488355328) <|
  qdS K (.c1 (List.replicate (x1.length : Int).toNat ((qaB.mk false []) : qaB)) f (((x1.length : Int).toNat : Nat) : Int) (0 : Int))
 | K + 1, .c1 r8 f t10 t11 =>
  bif (decide (t11 < t10)) then
   (gi f t11).bind fun x2 =>
   (qj9 K x2).bind fun x4 =>
   (gi r8 t11).bind fun _ =>
   qdS K (.c1 (r8.set (t11.toNat) x4) f t10 (wI6 (t11 + (1 : Int))))
  else
   (qeH K r8).bind fun x2 =>
   some x2
def qpM (K : Nat) (f : (List qaB)) : Option (List qaB) := qdS K (.c0 f)
noncomputable def qqR : Code := qbQ prog 96
noncomputable def q8O : qm4 → List Fr
 | .c0 .. => [.code qqR]
 | .c1 .. => [.code (.loop (atC qqR [1,1,0,1,0,0])), .blk 0, .code (atC qqR [1,1,1])]
def zbQ : qm4 → St
 | .c0 f => St.init [(tl 2 f qaA)]
 | .c1 r8 f t10 t11 => ⟨[(0, vl 2 f qaA), (3, .c (C.row 8 0 r8.length)), (10, vi .i64 t10), (11, vi .i64 t11)], [(8, .row 45 2 (r8.map qaA) 0)], []⟩
def qvE (cx : Cx) (c : qm4) (r : (List qaB)) : Prop := Wk prog cx (qc2 prog 96 [[2]] (tl 2 r qaA)) (q8O c) .normal (zbQ c)
abbrev qvF (K : Nat) : Prop := ∀ c r, qdS K c = some r → ∀ cx : Cx, cx.n = 25 → qvE cx c r
theorem zbS {K} (ih : qvF K) {cx} (hn : cx.n = 25) {f} {r} (h : qdS (K + 1) (.c0 f) = some r) : qvE cx (.c0 f) r := by
 rw [qdS] at h
 obtain ⟨x1, h2, h⟩ := qaH h
 obtain ⟨h3, h⟩ := qbI h
 exact wkG [rg1, rgG [oo, opI (.call [[2]] [(tl 2 f qaA)] (tl 2 x1 qaA)), opI (.ln (x1.length : Int)), opI (.mk (qaA (qaB.mk false [])) ((List.replicate (x1.length : Int).toNat ((qaB.mk false []) : qaB)).map qaA)), oo], rg3, .pre [.rl 3 0 (List.replicate (x1.length : Int).toNat ((qaB.mk false []) : qaB)).length, .keep [0,3,10,11] [8]]] hn (aC (qbL h2) <| aC (qaX x1 qaA) <| aC h3.1 <| aC h3.2.1 <| aC h3.2.2 <| aC (qgM _ _ _ : List.replicate (x1.length : Int).toNat (qaA (qaB.mk false [])) = (List.replicate (x1.length : Int).toNat ((qaB.mk false []) : qaB)).map qaA) <| aC r0 <| aC (by simp : (x1.length : Int).toNat = (List.replicate (x1.length : Int).toNat ((qaB.mk false []) : qaB)).length) <| aN) (ih _ _ h cx hn)
theorem zbR {K} (ih : qvF K) {cx} (hn : cx.n = 25) {r8 f t10 t11} {r} (h : qdS (K + 1) (.c1 r8 f t10 t11) = some r) : qvE cx (.c1 r8 f t10 t11) r := by
 rw [qdS] at h
 rcases qaQ h with ⟨h1, h⟩ | ⟨h1, h⟩
 ·obtain ⟨x2, h3, h⟩ := qaH h
  obtain ⟨x4, h5, h⟩ := qaH h
  obtain ⟨x6, h7, h⟩ := qaH h
  exact wkG [.go, rg1, bTr, rg2, rgG [oo, oo, oo, oo, opI (.ix (qaA x2)), oo, opI (.call [[0,1]] [(TV.agg (qaA x2))] (TV.agg (qaA x4))), .op .ir, opI (.st (qaA x6) ((r8.set (t11.toNat) x4).map qaA))], rg2, .pre [.rl 3 0 (r8.set (t11.toNat) x4).length, .keep [0,3,10,11] [8]]] hn (aC h1 <| aC (qa1 h3) <| aC (qbS qaA h3) <| aC (qkL h5) <| aC (qa1 h7) <| aC (qcB h7 (by simp) : t11 < ((r8.length : Nat) : Int)) <| aC (qcA qaA h7 : (r8.map qaA)[(0 + t11.toNat)]? = some (qaA x6)) <| aC (qc4 _ _ x4 _ : (r8.map qaA).set (0 + t11.toNat) (qbW (qaA x6) 0 [(T.bool x4.Neg), (T.sl 1 (x4.Abs.map qaC))]) = (r8.set (t11.toNat) x4).map qaA) <| aC (Nat.zero_le _ : 0 ≤ (0 + t11.toNat)) <| aC r0 <| aC (by simp : r8.length = (r8.set (t11.toNat) x4).length) <| aN) (ih _ _ h cx hn)
 ·obtain ⟨x2, h3, h⟩ := qaH h
  have h := oinj h; subst h
  exact wkR [.go, rg1, bFa, rgG [oo, .snap 23 (max 0 (0 + r8.length)) (r8.map qaA), opI (.call [[2]] [(tl 2 r8 qaA)] (tl 2 x2 qaA)), oo]] hn (aC h1 <| aC (qbJ _ _ _ (by simp) : ((r8.map qaA).drop 0).take r8.length = r8.map qaA) <| aC (rfl : (max 0 (0 + r8.length)) = (max 0 (0 + r8.length))) <| aC (qbL h3) <| aN)
theorem qrG : ∀ K : Nat, qvF K
 | 0, c, r, h => by rw [qdS] at h; cases h
 | K + 1, .c0 .., r, h => fun cx hn => zbS (qrG K) hn h
 | K + 1, .c1 .., r, h => fun cx hn => zbR (qrG K) hn h
theorem qvX {K : Nat} {f : (List qaB)} {r : (List qaB)} (h : qpM K f = some r) : qc5 prog 96 [(tl 2 f qaA)] (tl 2 r qaA) :=
 qa0 [[2]] (by kernel_rfl) (by simp) fun cx hn => qrG K (.c0 f) r h cx hn
open Go.Proofs.Try (prog)
inductive quC where
 | c0 (coefs : (List Int))
 | c1 (r8 : (List qaB)) (t9 : (List Int)) (t10 : Int) (t11 : Int)
def qfR : Nat → quC → Option (List qaB)
 | 0, _ => none
 | K + 1, .c0 coefs =>
  gd (0 ≤ (coefs.length : Int) ∧ (coefs.length : Int) ≤ (coefs.length : Int) ∧ (32 : Int) * (coefs.length : Int) ≤ 140737488355328) <|
  qfR K (.c1 (List.replicate (coefs.length : Int).toNat ((qaB.mk false []) : qaB)) coefs (coefs.length : Int) (0 : Int))
 | K + 1, .c1 r8 t9 t10 t11 =>
  bif (decide (t11 < t10)) then
   (gi t9 t11).bind fun x2 =>
   (qiA K x2).bind fun x4 =>
   (gi r8 t11).bind fun _ =>
   qfR K (.c1 (r8.set (t11.toNat) x4) t9 t10 (wI6 (t11 + (1 : Int))))
  else
   (qeH K r8).bind fun x2 =>
   some x2
def qiV (K : Nat) (coefs : (List Int)) : Option (List qaB) := qfR K (.c0 coefs)
noncomputable def qwQ : Code := qbQ prog 51
noncomputable def zkA : quC → List Fr
 | .c0 .. => [.code qwQ]
 | .c1 .. => [.code (.loop (atC qwQ [1,1,0,1,0,0])), .blk 0, .code (atC qwQ [1,1,1])]
def zm9 : quC → St
 | .c0 coefs => St.init [(tl 1 coefs qd4)]
 | .c1 r8 t9 t10 t11 => ⟨[(3, .c (C.row 8 0 r8.length)), (9, vl 1 t9 qd4), (10, vi .i64 t10), (11, vi .i64 t11)], [(8, .row 45 2 (r8.map qaA) 0)], []⟩
def q22 (cx : Cx) (c : quC) (r : (List qaB)) : Prop := Wk prog cx (qc2 prog 51 [[2]] (tl 2 r qaA)) (zkA c) .normal (zm9 c)
abbrev q23 (K : Nat) : Prop := ∀ c r, qfR K c = some r → ∀ cx : Cx, cx.n = 24 → q22 cx c r
theorem znB {K} (ih : q23 K) {cx} (hn : cx.n = 24) {coefs} {r} (h : qfR (K + 1) (.c0 coefs) = some r) : q22 cx (.c0 coefs) r := by
 rw [qfR] at h
 obtain ⟨h1, h⟩ := qbI h
 exact wkG [rg1, rgG [oo, opI (.ln (coefs.length : Int)), opI (.mk (qaA (qaB.mk false [])) ((List.replicate (coefs.length : Int).toNat ((qaB.mk false []) : qaB)).map qaA)), oo], rgG [oo, opI (.ln (coefs.length : Int)), oo], .pre [.rl 3 0 (List.replicate (coefs.length : Int).toNat ((qaB.mk false []) : qaB)).length, .keep [3,9,10,11] [8]]] hn (aC (qaX coefs qd4) <| aC h1.1 <| aC h1.2.1 <| aC h1.2.2 <| aC (qgM _ _ _ : List.replicate (coefs.length : Int).toNat (qaA (qaB.mk false [])) = (List.replicate (coefs.length : Int).toNat ((qaB.mk false []) : qaB)).map qaA) <| aC (qaX coefs qd4) <| aC r0 <| aC (by simp : (coefs.length : Int).toNat = (List.replicate (coefs.length : Int).toNat ((qaB.mk false []) : qaB)).length) <| aN) (ih _ _ h cx hn)
theorem znA {K} (ih : q23 K) {cx} (hn : cx.n = 24) {r8 t9 t10 t11} {r} (h : qfR (K + 1) (.c1 r8 t9 t10 t11) = some r) : q22 cx (.c1 r8 t9 t10 t11) r := by
 rw [qfR] at h
 rcases qaQ h with ⟨h1, h⟩ | ⟨h1, h⟩
 ·obtain ⟨x2, h3, h⟩ := qaH h
  obtain ⟨x4, h5, h⟩ := qaH h
  obtain ⟨x6, h7, h⟩ := qaH h
  exact wkG [.go, rg1, bTr, rgG [oo, opI (.ix (qd4 x2)), oo, oo, oo], rgG [oo, oo, oo, opI (.call [[0]] [(ti .i64 x2)] (TV.agg (qaA x4))), .op .ir, opI (.st (qaA x6) ((r8.set (t11.toNat) x4).map qaA))], rg2, .pre [.rl 3 0 (r8.set (t11.toNat) x4).length, .keep [3,9,10,11] [8]]] hn (aC h1 <| aC (qa1 h3) <| aC (qbS qd4 h3) <| aC (qd8 h5) <| aC (qa1 h7) <| aC (qcB h7 (by simp) : t11 < ((r8.length : Nat) : Int)) <| aC (qcA qaA h7 : (r8.map qaA)[(0 + t11.toNat)]? = some (qaA x6)) <| aC (qc4 _ _ x4 _ : (r8.map qaA).set (0 + t11.toNat) (qbW (qaA x6) 0 [(T.bool x4.Neg), (T.sl 1 (x4.Abs.map qaC))]) = (r8.set (t11.toNat) x4).map qaA) <| aC (Nat.zero_le _ : 0 ≤ (0 + t11.toNat)) <| aC r0 <| aC (by simp : r8.length = (r8.set (t11.toNat) x4).length) <| aN) (ih _ _ h cx hn)
 ·obtain ⟨x2, h3, h⟩ := qaH h
  have h := oinj h; subst h
  exact wkR [.go, rg1, bFa, rgG [oo, .snap 22 (max 0 (0 + r8.length)) (r8.map qaA), opI (.call [[2]] [(tl 2 r8 qaA)] (tl 2 x2 qaA)), oo]] hn (aC h1 <| aC (qbJ _ _ _ (by simp) : ((r8.map qaA).drop 0).take r8.length = r8.map qaA) <| aC (rfl : (max 0 (0 + r8.length)) = (max 0 (0 + r8.length))) <| aC (qbL h3) <| aN)
theorem qy2 : ∀ K : Nat, q23 K
 | 0, c, r, h => by rw [qfR] at h; cases h
 | K + 1, .c0 .., r, h => fun cx hn => znB (qy2 K) hn h
 | K + 1, .c1 .., r, h => fun cx hn => znA (qy2 K) hn h
theorem qeM {K : Nat} {coefs : (List Int)} {r : (List qaB)} (h : qiV K coefs = some r) : qc5 prog 51 [(tl 1 coefs qd4)] (tl 2 r qaA) :=
 qa0 [[2]] (by kernel_rfl) (by simp) fun cx hn => qy2 K (.c0 coefs) r h cx hn
open Go.Proofs.Try (prog)
def tz : List Int → List Int
  | [] => []
  | a :: l => match tz l with
    | [] => if a = 0 then [] else [a]
    | b :: r => a :: b :: r
theorem q0I (l : List Int) : co (tz l) = co l := by
  induction l with
  | nil => rfl
  | cons a l ih =>
    funext k
    simp only [tz]
    split
    · rename_i h
      rw [h] at ih
      split
      · rename_i h0
        cases k with
        | zero => simp [h0]
        | succ k => have := congrFun ih k; simp at this; simp [← this]
      · cases k with
        | zero => simp
        | succ k => have := congrFun ih k; simp at this; simp [← this]
    · rename_i b r h
      rw [h] at ih
      cases k with
      | zero => simp
      | succ k => rw [znS, znS, ih]
theorem qwI (l : List Int) : tz l = [] ↔ ∀ k, co l k = 0 := by
  constructor
  · intro h k; rw [← q0I, h]; simp
  · intro h
    induction l with
    | nil => rfl
    | cons a l ih =>
      have h0 := h 0
      have := ih (fun k => by have := h (k + 1); simpa using this)
      simp only [tz, this]
      simp at h0
      simp [h0]
theorem q8W : ∀ (f g : List Int), co f = co g → tz f = tz g
  | [], g, h => by
    symm; show tz g = []
    rw [qwI]; intro k; rw [← h]; simp
  | f, [], h => by
    show tz f = []
    rw [qwI]; intro k; rw [h]; simp
  | a :: f, b :: g, h => by
    have h0 : a = b := by have := congrFun h 0; simpa using this
    have h1 : co f = co g := by funext k; have := congrFun h (k + 1); simpa using this
    simp only [tz, q8W f g h1, h0]
theorem zn6 (l : List Int) : tz (tz l) = tz l := q8W _ _ (q0I l)
theorem qrA (l : List Int) : (tz l).length ≤ l.length := by
  induction l with
  | nil => simp [tz]
  | cons a l ih =>
    simp only [tz]
    split
    · split <;> simp
    · rename_i b r h; rw [h] at ih; simp at ih ⊢; omega
theorem zpF (l : List Int) : ∀ x, (tz l).getLast? = some x → x ≠ 0 := by
  induction l with
  | nil => intro x h; simp [tz] at h
  | cons a l ih =>
    intro x h
    simp only [tz] at h
    split at h
    · split at h
      · simp at h
      · simp at h; subst h; assumption
    · rename_i b r h2
      rw [List.getLast?_cons_cons, ← h2] at h
      exact ih x h
theorem zb2 : ∀ (l : List Int), (∀ x, l.getLast? = some x → x ≠ 0) → tz l = l
  | [], _ => rfl
  | [a], h => by simp [tz, h a rfl]
  | a :: b :: l, h => by
    have := zb2 (b :: l) (fun x hx => h x (by rw [List.getLast?_cons_cons]; exact hx))
    simp only [tz] at this ⊢
    rw [this]
theorem qnX : ∀ (l : List Int), tz l = l.take (tz l).length
  | [] => rfl
  | a :: l => by
    have ih := qnX l
    simp only [tz]
    split
    · split <;> simp
    · rename_i b r h
      rw [h] at ih
      simp only [List.length_cons, List.take_succ_cons] at ih ⊢
      rw [← ih]
theorem q5Q {l : List Int} {x : Int} (h : x ∈ tz l) : x ∈ l := by rw [qnX] at h; exact List.mem_of_mem_take h
theorem qzD {l : List Int} {n : Nat} (hn : n ≤ l.length) (hz : ∀ k, n ≤ k → co l k = 0) (h : n ≠ 0 → co l (n - 1) ≠ 0) : (tz l).length = n := by
  have e : tz l = l.take n := by
    rw [← zb2 (l.take n)]
    · refine q8W _ _ ?_
      funext k
      by_cases hk : k < n
      · rw [qdP (by omega), qdP (by simp; omega)]; simp
      · rw [hz k (by omega), qdH (by simp; omega)]
    · intro x hx
      by_cases h0 : n = 0
      · subst h0; simp at hx
      · rw [List.getLast?_take, if_neg h0, List.getElem?_eq_getElem (by omega)] at hx
        simp at hx
        subst hx
        have := h h0
        rwa [qdP (by omega)] at this
  rw [e, List.length_take]; omega
def pv (f : List qaB) : List Int := f.map ival
def mkP (l : List Int) : List qaB := l.map mkI
def Wf (f : List qaB) : Prop := ∀ a ∈ f, Dig a.Abs ∧ a.Abs.length ≤ 17179869184
theorem qiI (l : List Int) : pv (mkP l) = l := by
  unfold pv mkP
  rw [List.map_map]
  exact (List.map_congr_left fun x _ => qa2 x).trans (List.map_id l)
theorem qf8 (f : List qaB) : (pv f).length = f.length := by simp [pv]
theorem qc1 (l : List Int) : (mkP l).length = l.length := by simp [mkP]
theorem znF (f : List qaB) (n : Nat) : pv (f.take n) = (pv f).take n := by simp [pv]
theorem zuV (f : List Int) (n : Nat) : mkP (f.take n) = (mkP f).take n := by simp [mkP]
theorem zr5 {f : List qaB} (h : Wf f) (n : Nat) : Wf (f.take n) := fun a ha => h a (List.mem_of_mem_take ha)
theorem zgH {f : List qaB} (h : Wf f) {i : Nat} (hi : i < f.length) : Dig f[i].Abs ∧ f[i].Abs.length ≤ 17179869184 := h _ (List.getElem_mem hi)
theorem zbI {f : List qaB} {i : Nat} (hi : i < f.length) : co (pv f) i = ival f[i] := by rw [qdP (by rw [qf8]; exact hi)]; simp [pv]
theorem zr6 {l : List Int} {n : Nat} (hn : n ≤ 17179869184) (h : ∀ x ∈ l, -(4294967296 ^ n) < x ∧ x < 4294967296 ^ n) : Wf (mkP l) := by
  intro a ha
  obtain ⟨x, hx, rfl⟩ := List.mem_map.1 ha
  have := qjD (h x hx).1 (h x hx).2
  exact ⟨qfZ x, by omega⟩
theorem q2Z {f : List qaB} {n : Nat} (hn : n ≤ f.length) : Ev (fun K => qcS K (.c2 f n)) (f.take n) := by
  refine qaJ ?_
  simp only [qcS]
  by_cases h : n = 0
  · subst h; exact ev_t (by simp) (qaT _)
  · refine ev_f (by simpa using h) (qeZ (by omega) (qeW (qaT _) ?_))
    rw [Int.toNat_natCast]
theorem q20 {f : List qaB} (hf : Wf f) (hs : f.length < 4611686018427387904) : ∀ {n : Nat}, n ≤ f.length → (∀ k, n ≤ k → co (pv f) k = 0) → Ev (fun K => qcS K (.c1 f n)) (f.take (tz (pv f)).length)
  | 0, hn, hz => by
    refine qaJ ?_
    simp only [qcS]
    rw [qzD (n := 0) (by simp) (fun k _ => hz k (by omega)) (fun h => absurd rfl h)]
    exact ev_f (by simp) (q2Z (Nat.zero_le _))
  | n + 1, hn, hz => by
    refine qaJ ?_
    simp only [qcS]
    refine ev_t (by simp) ?_
    rw [qbR (by omega), show ((n + 1 : Nat) : Int) - 1 = (n : Int) by omega]
    have hg := zgH hf (show n < f.length by omega)
    refine qa3 (qbN (by omega)) (qaG (qtL hg.1 (by omega)) ?_)
    have hc := zbI (show n < f.length by omega)
    have hv := qvC _ hg.1
    by_cases h : val (f[n]'(by omega)).Abs = 0
    · refine ev_t (by simpa using h) (q20 hf hs (by omega) fun k hk => ?_)
      by_cases hkn : k = n
      · subst hkn; rw [hc]; omega
      · exact hz k (by omega)
    · refine ev_f (by simpa using h) ?_
      rw [qzD (n := n + 1) (by rw [qf8]; omega) hz (fun _ => by rw [Nat.add_sub_cancel, hc]; omega)]
      exact q2Z hn
theorem qeO {f : List qaB} (hf : Wf f) (hs : f.length < 4611686018427387904) : Ev (fun K => qeH K f) (f.take (tz (pv f)).length) := by
  refine qaJ ?_
  simp only [qeH, qcS]
  exact q20 hf hs (Nat.le_refl _) (fun k hk => qdH (by rw [qf8]; exact hk))
theorem qjR {l : List Int} (hf : Wf (mkP l)) (hs : l.length < 4611686018427387904) : Ev (fun K => qeH K (mkP l)) (mkP (tz l)) := by
  have := qeO hf (by rw [qc1]; exact hs)
  rw [qiI, ← zuV, ← qnX] at this
  exact this
theorem qsW {α : Type} {l : List α} {z x : α} {i n : Nat} (hn : n = l.length) (hx : l[i]? = some x) : (l.take i ++ List.replicate (n - i) z).set i x = l.take (i + 1) ++ List.replicate (n - (i + 1)) z := by
  subst hn
  obtain ⟨h, rfl⟩ := List.getElem?_eq_some_iff.1 hx
  have h1 : (l.take i).length = i := by simp; omega
  rw [show l.length - i = (l.length - (i + 1)) + 1 by omega, List.replicate_succ, List.set_append, if_neg (by omega), h1, Nat.sub_self, List.set_cons_zero, List.take_add_one, List.getElem?_eq_getElem h, Option.toList_some, List.append_assoc]
  rfl
theorem qxV {α : Type} {l : List α} {z : α} {i n : Nat} (hn : n = l.length) (h : i < n) : gi (l.take i ++ List.replicate (n - i) z) (i : Int) = some z := by
  subst hn
  refine qsV ?_
  have h1 : (l.take i).length = i := by simp; omega
  rw [List.getElem?_append_right (by omega), h1, Nat.sub_self, List.getElem?_replicate, if_pos (by omega)]
theorem qsX {α : Type} {l : List α} {z : α} {i n : Nat} (hn : n = l.length) (h : i = n) : l.take i ++ List.replicate (n - i) z = l := by subst hn; subst h; simp
theorem qsH {l : List Int} {i : Nat} {x : Int} (h : l[i]? = some x) : (mkP l)[i]? = some (mkI x) := by simp [mkP, h]
theorem qzA {f : List qaB} (hf : Wf f) (l : List Int) (hl : l = (pv f).take l.length) (hs : f.length < 4398046511104) : ∀ (m i : Nat), i + m = l.length →
    Ev (fun K => qdS K (.c1 ((mkP l).take i ++ List.replicate (l.length - i) ⟨false, []⟩) f l.length i)) (mkP (tz l))
  | 0, i, hi => by
    have hlf : l.length ≤ f.length := by rw [hl, List.length_take, qf8]; omega
    refine qaJ ?_
    simp only [qdS]
    refine ev_f (by simp; omega) ?_
    rw [qsX (qc1 l).symm (by omega)]
    refine qaG (qjR ?_ (by omega)) (qaT _)
    intro a ha
    obtain ⟨x, hx, rfl⟩ := List.mem_map.1 ha
    rw [hl] at hx
    obtain ⟨y, hy, rfl⟩ := List.mem_map.1 (List.mem_of_mem_take hx)
    refine ⟨qfZ _, ?_⟩
    have h1 := hf y hy
    have h2 := qeX h1.1
    rw [qvC y h1.1] at h2
    have : (mkI (ival y)).Abs = digs (ival y).natAbs := rfl
    rw [this]; omega
  | m + 1, i, hi => by
    have hlf : l.length ≤ f.length := by rw [hl, List.length_take, qf8]; omega
    refine qaJ ?_
    simp only [qdS]
    refine ev_t (by simp; omega) ?_
    have hif : i < f.length := by omega
    have hg := zgH hf hif
    refine qa3 (qbN hif) (qaG (qoY hg.1 (by omega)) (qa3 (qxV (qc1 l).symm (by omega)) ?_))
    · have e : ival f[i] = l[i]'(by omega) := by
        have h1 : l[i]'(by omega) = ((pv f).take l.length)[i]'(by rw [← hl]; omega) := by congr 1
        rw [h1, List.getElem_take]; simp [pv]
      rw [e, Int.toNat_natCast, qsW (qc1 l).symm (qsH (List.getElem?_eq_getElem (by omega))), qbR (by omega), show (i : Int) + 1 = ((i + 1 : Nat) : Int) by omega]
      exact qzA hf l hl hs m (i + 1) (by omega)
theorem qzB {f : List qaB} (hf : Wf f) (hs : f.length < 4398046511104) : Ev (fun K => qpM K f) (mkP (tz (pv f))) := by
  refine qaJ ?_
  simp only [qpM, qdS]
  have hle := qrA (pv f)
  rw [qf8] at hle
  have hlt : (f.take (tz (pv f)).length).length = (tz (pv f)).length := by rw [List.length_take]; omega
  refine qaG (qeO hf (by omega)) (qeZ (by rw [hlt]; omega) ?_)
  rw [hlt, Int.toNat_natCast]
  have := qzA hf (tz (pv f)) (qnX _) hs _ 0 (Nat.zero_add _)
  rw [zn6] at this
  simpa using this
theorem q8N (l : List Int) (hb : ∀ x ∈ l, -9223372036854775808 ≤ x ∧ x < 9223372036854775808) (hs : l.length < 4398046511104) : ∀ (m i : Nat), i + m = l.length →
    Ev (fun K => qfR K (.c1 ((mkP l).take i ++ List.replicate (l.length - i) ⟨false, []⟩) l l.length i)) (mkP (tz l))
  | 0, i, hi => by
    refine qaJ ?_
    simp only [qfR]
    refine ev_f (by simp; omega) ?_
    rw [qsX (qc1 l).symm (by omega)]
    exact qaG (qjR (zr6 (n := 2) (by omega) (fun x hx => by have := hb x hx; omega)) (by omega)) (qaT _)
  | m + 1, i, hi => by
    refine qaJ ?_
    simp only [qfR]
    refine ev_t (by simp; omega) ?_
    have hil : i < l.length := by omega
    refine qa3 (qbN hil) (qaG (qf9 (hb _ (List.getElem_mem hil))) (qa3 (qxV (qc1 l).symm (by omega)) ?_))
    rw [Int.toNat_natCast, qsW (qc1 l).symm (qsH (List.getElem?_eq_getElem (by omega))), qbR (by omega), show (i : Int) + 1 = ((i + 1 : Nat) : Int) by omega]
    exact q8N l hb hs m (i + 1) (by omega)
theorem qv3 (l : List Int) (hb : ∀ x ∈ l, -9223372036854775808 ≤ x ∧ x < 9223372036854775808) (hs : l.length < 4398046511104) : Ev (fun K => qiV K l) (mkP (tz l)) := by
  refine qaJ ?_
  simp only [qiV, qfR]
  refine qeZ (by omega) ?_
  have := q8N l hb hs _ 0 (Nat.zero_add _)
  rw [Int.toNat_natCast]
  simpa using this
open Go.Proofs.Try (prog)
inductive qpZ where
 | c0 (f : (List qaB))
def qkS : Nat → qpZ → Option qaB
 | 0, _ => none
 | K + 1, .c0 f =>
  (qeH K f).bind fun x1 =>
  bif (decide ((x1.length : Int) = (0 : Int))) then
   some (qaB.mk false [])
  else
   (gi x1 (wI6 ((x1.length : Int) - (1 : Int)))).bind fun x4 =>
   (qj9 K x4).bind fun x6 =>
   some x6
def qlE (K : Nat) (f : (List qaB)) : Option qaB := qkS K (.c0 f)
noncomputable def zbT : Code := qbQ prog 113
noncomputable def zeP : qpZ → List Fr
 | .c0 .. => [.code zbT]
def zgS : qpZ → St
 | .c0 f => St.init [(tl 2 f qaA)]
def q5O (cx : Cx) (c : qpZ) (r : qaB) : Prop := Wk prog cx (qc2 prog 113 [[0,1]] (TV.agg (qaA r))) (zeP c) .normal (zgS c)
abbrev q5P (K : Nat) : Prop := ∀ c r, qkS K c = some r → ∀ cx : Cx, cx.n = 16 → q5O cx c r
theorem zgT {K} (_ : q5P K) {cx} (hn : cx.n = 16) {f} {r} (h : qkS (K + 1) (.c0 f) = some r) : q5O cx (.c0 f) r := by
 rw [qkS] at h
 obtain ⟨x1, h2, h⟩ := qaH h
 rcases qaQ h with ⟨h3, h⟩ | ⟨h3, h⟩
 ·have h := oinj h; subst h
  exact wkR [rg1, rgG [oo, opI (.call [[2]] [(tl 2 f qaA)] (tl 2 x1 qaA)), oo], rgG [oo, opI (.ln (x1.length : Int)), oo], bTr, rg2] hn (aC (qbL h2) <| aC (qaX x1 qaA) <| aC h3 <| aN)
 ·obtain ⟨x4, h5, h⟩ := qaH h
  obtain ⟨x6, h7, h⟩ := qaH h
  have h := oinj h; subst h
  exact wkR [rg1, rgG [oo, opI (.call [[2]] [(tl 2 f qaA)] (tl 2 x1 qaA)), oo], rgG [oo, opI (.ln (x1.length : Int)), oo], bFa, rgG [oo, oo, opI (.ln (x1.length : Int)), oo, opI (.ix (qaA x4)), oo, opI (.call [[0,1]] [(TV.agg (qaA x4))] (TV.agg (qaA x6))), oo]] hn (aC (qbL h2) <| aC (qaX x1 qaA) <| aC h3 <| aC (qaX x1 qaA) <| aC (qa1 h5) <| aC (qbS qaA h5) <| aC (qkL h7) <| aN)
theorem q1M : ∀ K : Nat, q5P K
 | 0, c, r, h => by rw [qkS] at h; cases h
 | K + 1, .c0 .., r, h => fun cx hn => zgT (q1M K) hn h
theorem qm5 {K : Nat} {f : (List qaB)} {r : qaB} (h : qlE K f = some r) : qc5 prog 113 [(tl 2 f qaA)] (TV.agg (qaA r)) :=
 qa0 [[0,1]] (by kernel_rfl) (by simp) fun cx hn => q1M K (.c0 f) r h cx hn
open Go.Proofs.Try (prog)
inductive qlO where
 | c0 (f : (List qaB)) (g : (List qaB))
 | c1 (f : (List qaB)) (g : (List qaB)) (i : Int)
def qcO : Nat → qlO → Option Int
 | 0, _ => none
 | K + 1, .c0 f g =>
  (qeH K f).bind fun x1 =>
  (qeH K g).bind fun x3 =>
  bif (decide ((x3.length : Int) < (x1.length : Int))) then
   some (1 : Int)
  else
   bif (decide ((x1.length : Int) < (x3.length : Int))) then
    some (-1 : Int)
   else
    qcO K (.c1 x1 x3 (wI6 ((x1.length : Int) - (1 : Int))))
 | K + 1, .c1 f g i =>
  bif (decide ((0 : Int) ≤ i)) then
   (gi f i).bind fun x2 =>
   (gi g i).bind fun x4 =>
   (qg9 K x2 x4).bind fun x6 =>
   bif (!decide (x6 = (0 : Int))) then
    some x6
   else
    qcO K (.c1 f g (wI6 (i - (1 : Int))))
  else
   some (0 : Int)
def qkT (K : Nat) (f : (List qaB)) (g : (List qaB)) : Option Int := qcO K (.c0 f g)
noncomputable def qpA : Code := qbQ prog 124
noncomputable def q6Z : qlO → List Fr
 | .c0 .. => [.code qpA]
 | .c1 .. => [.code (.loop (atC qpA [1,1,1,0,1,0,0])), .blk 1, .code (atC qpA [1,1,1,1])]
def q8R : qlO → St
 | .c0 f g => St.init [(tl 2 f qaA), (tl 2 g qaA)]
 | .c1 f g i => ⟨[(0, vl 2 f qaA), (1, vl 2 g qaA), (5, vi .i64 i)], [], []⟩
def qtG (cx : Cx) (c : qlO) (r : Int) : Prop := Wk prog cx (qc2 prog 124 [[0]] (ti .i64 r)) (q6Z c) .normal (q8R c)
abbrev qtH (K : Nat) : Prop := ∀ c r, qcO K c = some r → ∀ cx : Cx, cx.n = 42 → qtG cx c r
theorem q8T {K} (ih : qtH K) {cx} (hn : cx.n = 42) {f g} {r} (h : qcO (K + 1) (.c0 f g) = some r) : qtG cx (.c0 f g) r := by
 rw [qcO] at h
 obtain ⟨x1, h2, h⟩ := qaH h
 obtain ⟨x3, h4, h⟩ := qaH h
 rcases qaQ h with ⟨h5, h⟩ | ⟨h5, h⟩
 ·have h := oinj h; subst h
  exact wkR [rg1, rgG [oo, opI (.call [[2]] [(tl 2 f qaA)] (tl 2 x1 qaA)), oo, opI (.call [[2]] [(tl 2 g qaA)] (tl 2 x3 qaA)), oo, oo], rgG [oo, opI (.ln (x1.length : Int)), oo, opI (.ln (x3.length : Int)), oo, oo], bTr, rg1] hn (aC (qbL h2) <| aC (qbL h4) <| aC (qaX x1 qaA) <| aC (qaX x3 qaA) <| aC h5 <| aN)
 ·rcases qaQ h with ⟨h6, h⟩ | ⟨h6, h⟩
  ·have h := oinj h; subst h
   exact wkR [rg1, rgG [oo, opI (.call [[2]] [(tl 2 f qaA)] (tl 2 x1 qaA)), oo, opI (.call [[2]] [(tl 2 g qaA)] (tl 2 x3 qaA)), oo, oo], rgG [oo, opI (.ln (x1.length : Int)), oo, opI (.ln (x3.length : Int)), oo, oo], bFa, rgG [oo, opI (.ln (x1.length : Int)), oo, opI (.ln (x3.length : Int)), oo, oo], bTr, rg1] hn (aC (qbL h2) <| aC (qbL h4) <| aC (qaX x1 qaA) <| aC (qaX x3 qaA) <| aC h5 <| aC (qaX x1 qaA) <| aC (qaX x3 qaA) <| aC h6 <| aN)
  ·exact wkG [rg1, rgG [oo, opI (.call [[2]] [(tl 2 f qaA)] (tl 2 x1 qaA)), oo, opI (.call [[2]] [(tl 2 g qaA)] (tl 2 x3 qaA)), oo, oo], rgG [oo, opI (.ln (x1.length : Int)), oo, opI (.ln (x3.length : Int)), oo, oo], bFa, rgG [oo, opI (.ln (x1.length : Int)), oo, opI (.ln (x3.length : Int)), oo, oo], bFa, rgG [oo, opI (.ln (x1.length : Int)), oo, oo], .pre [.keep [0,1,5] []]] hn (aC (qbL h2) <| aC (qbL h4) <| aC (qaX x1 qaA) <| aC (qaX x3 qaA) <| aC h5 <| aC (qaX x1 qaA) <| aC (qaX x3 qaA) <| aC h6 <| aC (qaX x1 qaA) <| aN) (ih _ _ h cx hn)
theorem q8S {K} (ih : qtH K) {cx} (hn : cx.n = 42) {f g i} {r} (h : qcO (K + 1) (.c1 f g i) = some r) : qtG cx (.c1 f g i) r := by
 rw [qcO] at h
 rcases qaQ h with ⟨h1, h⟩ | ⟨h1, h⟩
 ·obtain ⟨x2, h3, h⟩ := qaH h
  obtain ⟨x4, h5, h⟩ := qaH h
  obtain ⟨x6, h7, h⟩ := qaH h
  rcases qaQ h with ⟨h8, h⟩ | ⟨h8, h⟩
  ·have h := oinj h; subst h
   exact wkR [.go, rg2, bTr, .draw [.p, .p, (.ix (qaA x2)), .p, .p, .p, (.ix (qaA x4)), .p] [opI (.call [[0,1], [0,1]] [(TV.agg (qaA x2)), (TV.agg (qaA x4))] (ti .i64 x6)), .op .p], rg2, bTr, rg2] hn (aC h1 <| aC (qa1 h3) <| aC (qbS qaA h3) <| aC (qa1 h5) <| aC (qbS qaA h5) <| aC (qdA h7) <| aC h8 <| aN)
  ·exact wkG [.go, rg2, bTr, .draw [.p, .p, (.ix (qaA x2)), .p, .p, .p, (.ix (qaA x4)), .p] [opI (.call [[0,1], [0,1]] [(TV.agg (qaA x2)), (TV.agg (qaA x4))] (ti .i64 x6)), .op .p], rg2, bFa, rg3, .pre [.keep [0,1,5] []]] hn (aC h1 <| aC (qa1 h3) <| aC (qbS qaA h3) <| aC (qa1 h5) <| aC (qbS qaA h5) <| aC (qdA h7) <| aC h8 <| aN) (ih _ _ h cx hn)
 ·have h := oinj h; subst h
  exact wkR [.go, rg2, bFa, rg1] hn (aC h1 <| aN)
theorem qqS : ∀ K : Nat, qtH K
 | 0, c, r, h => by rw [qcO] at h; cases h
 | K + 1, .c0 .., r, h => fun cx hn => q8T (qqS K) hn h
 | K + 1, .c1 .., r, h => fun cx hn => q8S (qqS K) hn h
theorem q25 {K : Nat} {f : (List qaB)} {g : (List qaB)} {r : Int} (h : qkT K f g = some r) : qc5 prog 124 [(tl 2 f qaA), (tl 2 g qaA)] (ti .i64 r) :=
 qa0 [[0]] (by kernel_rfl) (by simp) fun cx hn => qqS K (.c0 f g) r h cx hn
open Go.Proofs.Try (prog)
inductive qpY where
 | c0 (f : (List qaB)) (g : (List qaB))
def qkR : Nat → qpY → Option Bool
 | 0, _ => none
 | K + 1, .c0 f g =>
  (qkT K f g).bind fun x1 =>
  some (decide (x1 = (0 : Int)))
def qq9 (K : Nat) (f : (List qaB)) (g : (List qaB)) : Option Bool := qkR K (.c0 f g)
noncomputable def zbP : Code := qbQ prog 65
noncomputable def zeO : qpY → List Fr
 | .c0 .. => [.code zbP]
def zgO : qpY → St
 | .c0 f g => St.init [(tl 2 f qaA), (tl 2 g qaA)]
def q5J (cx : Cx) (c : qpY) (r : Bool) : Prop := Wk prog cx (qc2 prog 65 [[0]] (TV.c (T.bool r))) (zeO c) .normal (zgO c)
abbrev q5K (K : Nat) : Prop := ∀ c r, qkR K c = some r → ∀ cx : Cx, cx.n = 9 → q5J cx c r
theorem zgQ {K} (_ : q5K K) {cx} (hn : cx.n = 9) {f g} {r} (h : qkR (K + 1) (.c0 f g) = some r) : q5J cx (.c0 f g) r := by
 rw [qkR] at h
 obtain ⟨x1, h2, h⟩ := qaH h
 have h := oinj h; subst h
 exact wkR [rg1, rgG [oo, oo, opI (.call [[2], [2]] [(tl 2 f qaA), (tl 2 g qaA)] (ti .i64 x1)), oo, oo]] hn (aC (q25 h2) <| aN)
theorem q1L : ∀ K : Nat, q5K K
 | 0, c, r, h => by rw [qkR] at h; cases h
 | K + 1, .c0 .., r, h => fun cx hn => zgQ (q1L K) hn h
theorem qjX {K : Nat} {f : (List qaB)} {g : (List qaB)} {r : Bool} (h : qq9 K f g = some r) : qc5 prog 65 [(tl 2 f qaA), (tl 2 g qaA)] (TV.c (T.bool r)) :=
 qa0 [[0]] (by kernel_rfl) (by simp) fun cx hn => q1L K (.c0 f g) r h cx hn
open Go.Proofs.Try (prog)
inductive qm7 where
 | c0 (f : (List qaB))
 | c1 (b2 : qaB) (out : qaB) (t8 : (List qaB)) (t9 : Int) (t10 : Int)
 | c2 (b2 : qaB) (out : qaB) (t8 : (List qaB)) (t9 : Int) (t10 : Int)
def qb4 : Nat → qm7 → Option qaB
 | 0, _ => none
 | K + 1, .c0 f =>
  qb4 K (.c1 (qaB.mk false []) (qaB.mk false []) f (f.length : Int) (0 : Int))
 | K + 1, .c1 b2 out t8 t9 t10 =>
  bif (decide (t10 < t9)) then
   (gi t8 t10).bind fun x2 =>
   (qhA K x2).bind fun x4 =>
   (qg9 K x4 out).bind fun x6 =>
   bif (decide ((0 : Int) < x6)) then
    qb4 K (.c2 b2 x4 t8 t9 t10)
   else
    qb4 K (.c2 b2 out t8 t9 t10)
  else
   some out
 | K + 1, .c2 b2 out t8 t9 t10 =>
  qb4 K (.c1 b2 out t8 t9 (wI6 (t10 + (1 : Int))))
def qmI (K : Nat) (f : (List qaB)) : Option qaB := qb4 K (.c0 f)
noncomputable def qg5 : Code := qbQ prog 61
noncomputable def q8P : qm7 → List Fr
 | .c0 .. => [.code qg5]
 | .c1 .. => [.code (.loop (atC qg5 [1,1,0,1,0,0])), .blk 0, .code (atC qg5 [1,1,1])]
 | .c2 .. => [.code (atC qg5 [1,1,0,1,0,0,1,1,1]), .lp (atC qg5 [1,1,0,1,0,0]), .blk 0, .code (atC qg5 [1,1,1])]
def zbU : qm7 → St
 | .c0 f => St.init [(tl 2 f qaA)]
 | .c1 b2 out t8 t9 t10 => ⟨[(2, .c (C.ptr 2 0)), (3, .c (C.ptr 3 0)), (8, vl 2 t8 qaA), (9, vi .i64 t9), (10, vi .i64 t10)], [(2, .var ((qaA b2).map C.t)), (3, .var ((qaA out).map C.t))], []⟩
 | .c2 b2 out t8 t9 t10 => ⟨[(2, .c (C.ptr 2 0)), (3, .c (C.ptr 3 0)), (8, vl 2 t8 qaA), (9, vi .i64 t9), (10, vi .i64 t10)], [(2, .var ((qaA b2).map C.t)), (3, .var ((qaA out).map C.t))], []⟩
def qp0 (cx : Cx) (c : qm7) (r : qaB) : Prop := Wk prog cx (qc2 prog 61 [[0,1]] (TV.agg (qaA r))) (q8P c) .normal (zbU c)
abbrev qp1 (K : Nat) : Prop := ∀ c r, qb4 K c = some r → ∀ cx : Cx, cx.n = 23 → qp0 cx c r
theorem zbY {K} (ih : qp1 K) {cx} (hn : cx.n = 23) {f} {r} (h : qb4 (K + 1) (.c0 f) = some r) : qp0 cx (.c0 f) r := by
 rw [qb4] at h
 exact wkG [rg1, rg3, rgG [oo, opI (.ln (f.length : Int)), oo], .pre [.tellB 2 [0,1], .tellB 3 [0,1], .keep [2,3,8,9,10] [2,3]]] hn (aC (qaX f qaA) <| aN) (ih _ _ h cx hn)
theorem zbX {K} (ih : qp1 K) {cx} (hn : cx.n = 23) {b2 out t8 t9 t10} {r} (h : qb4 (K + 1) (.c1 b2 out t8 t9 t10) = some r) : qp0 cx (.c1 b2 out t8 t9 t10) r := by
 rw [qb4] at h
 rcases qaQ h with ⟨h1, h⟩ | ⟨h1, h⟩
 ·obtain ⟨x2, h3, h⟩ := qaH h
  obtain ⟨x4, h5, h⟩ := qaH h
  obtain ⟨x6, h7, h⟩ := qaH h
  rcases qaQ h with ⟨h8, h⟩ | ⟨h8, h⟩
  ·exact wkG [.go, rg1, bTr, rgG [opI (.ix (qaA x2)), oo, oo, oo], rgG [oo, opI (.call [[0,1]] [(TV.agg (qaA x2))] (TV.agg (qaA x4))), oo, oo], rgG [oo, oo, opI (.call [[0,1], [0,1]] [(TV.agg (qaA x4)), (TV.agg (qaA out))] (ti .i64 x6)), oo], bTr, rg2, .pre [.keep [2,3,8,9,10] [2,3]]] hn (aC h1 <| aC (qa1 h3) <| aC (qbS qaA h3) <| aC (qdW h5) <| aC (qdA h7) <| aC h8 <| aN) (ih _ _ h cx hn)
  ·exact wkG [.go, rg1, bTr, rgG [opI (.ix (qaA x2)), oo, oo, oo], rgG [oo, opI (.call [[0,1]] [(TV.agg (qaA x2))] (TV.agg (qaA x4))), oo, oo], rgG [oo, oo, opI (.call [[0,1], [0,1]] [(TV.agg (qaA x4)), (TV.agg (qaA out))] (ti .i64 x6)), oo], bFa, .pre [.keep [2,3,8,9,10] [2,3]]] hn (aC h1 <| aC (qa1 h3) <| aC (qbS qaA h3) <| aC (qdW h5) <| aC (qdA h7) <| aC h8 <| aN) (ih _ _ h cx hn)
 ·have h := oinj h; subst h
  exact wkR [.go, rg1, bFa, rg2] hn (aC h1 <| aN)
theorem zbW {K} (ih : qp1 K) {cx} (hn : cx.n = 23) {b2 out t8 t9 t10} {r} (h : qb4 (K + 1) (.c2 b2 out t8 t9 t10) = some r) : qp0 cx (.c2 b2 out t8 t9 t10) r := by
 rw [qb4] at h
 exact zrC (fuel := 44) [rg2, .pre [.keep [2,3,8,9,10] [2,3]]] _ hn (by kernel_rfl) aN (ih _ _ h cx hn)
theorem qm6 : ∀ K : Nat, qp1 K
 | 0, c, r, h => by rw [qb4] at h; cases h
 | K + 1, .c0 .., r, h => fun cx hn => zbY (qm6 K) hn h
 | K + 1, .c1 .., r, h => fun cx hn => zbX (qm6 K) hn h
 | K + 1, .c2 .., r, h => fun cx hn => zbW (qm6 K) hn h
theorem qkH {K : Nat} {f : (List qaB)} {r : qaB} (h : qmI K f = some r) : qc5 prog 61 [(tl 2 f qaA)] (TV.agg (qaA r)) :=
 qa0 [[0,1]] (by kernel_rfl) (by simp) fun cx hn => qm6 K (.c0 f) r h cx hn
open Go.Proofs.Try (prog)
inductive qoI where
 | c0 (f : (List qaB)) (c : qaB)
 | c1 (c : qaB) (r10 : (List qaB)) (f : (List qaB)) (t12 : Int) (t13 : Int)
def qd6 : Nat → qoI → Option (List qaB)
 | 0, _ => none
 | K + 1, .c0 f c =>
  (qeH K f).bind fun x1 =>
  gd (0 ≤ (x1.length : Int) ∧ (x1.length : Int) ≤ (x1.length : Int) ∧ (32 : Int) * (x1.length : Int) ≤ 140737488355328) <|
  qd6 K (.c1 c (List.replicate (x1.length : Int).toNat ((qaB.mk false []) : qaB)) f (((x1.length : Int).toNat : Nat) : Int) (0 : Int))
 | K + 1, .c1 c r10 f t12 t13 =>
  bif (decide (t13 < t12)) then
   (gi f t13).bind fun x2 =>
   (qf0 K c x2).bind fun x4 =>
   (gi r10 t13).bind fun _ =>
   qd6 K (.c1 c (r10.set (t13.toNat) x4) f t12 (wI6 (t13 + (1 : Int))))
  else
   (qeH K r10).bind fun x2 =>
   some x2
def qeK (K : Nat) (f : (List qaB)) (c : qaB) : Option (List qaB) := qd6 K (.c0 f c)
noncomputable def qrF : Code := qbQ prog 58
noncomputable def zbO : qoI → List Fr
 | .c0 .. => [.code qrF]
 | .c1 .. => [.code (.loop (atC qrF [1,1,0,1,0,0])), .blk 0, .code (atC qrF [1,1,1])]
def zeL : qoI → St
 | .c0 f c => St.init [(tl 2 f qaA), (TV.agg (qaA c))]
 | .c1 c r10 f t12 t13 => ⟨[(0, vl 2 f qaA), (3, .c (C.ptr 3 0)), (5, .c (C.row 10 0 r10.length)), (12, vi .i64 t12), (13, vi .i64 t13)], [(3, .var ((qaA c).map C.t)), (10, .row 45 2 (r10.map qaA) 0)], []⟩
def qwO (cx : Cx) (c : qoI) (r : (List qaB)) : Prop := Wk prog cx (qc2 prog 58 [[2]] (tl 2 r qaA)) (zbO c) .normal (zeL c)
abbrev qwP (K : Nat) : Prop := ∀ c r, qd6 K c = some r → ∀ cx : Cx, cx.n = 28 → qwO cx c r
theorem zeN {K} (ih : qwP K) {cx} (hn : cx.n = 28) {f c} {r} (h : qd6 (K + 1) (.c0 f c) = some r) : qwO cx (.c0 f c) r := by
 rw [qd6] at h
 obtain ⟨x1, h2, h⟩ := qaH h
 obtain ⟨h3, h⟩ := qbI h
 exact wkG [rg2, rgG [oo, opI (.call [[2]] [(tl 2 f qaA)] (tl 2 x1 qaA)), opI (.ln (x1.length : Int)), opI (.mk (qaA (qaB.mk false [])) ((List.replicate (x1.length : Int).toNat ((qaB.mk false []) : qaB)).map qaA)), oo], rg3, .pre [.rl 5 0 (List.replicate (x1.length : Int).toNat ((qaB.mk false []) : qaB)).length, .keep [0,3,5,12,13] [3,10]]] hn (aC (qbL h2) <| aC (qaX x1 qaA) <| aC h3.1 <| aC h3.2.1 <| aC h3.2.2 <| aC (qgM _ _ _ : List.replicate (x1.length : Int).toNat (qaA (qaB.mk false [])) = (List.replicate (x1.length : Int).toNat ((qaB.mk false []) : qaB)).map qaA) <| aC r0 <| aC (by simp : (x1.length : Int).toNat = (List.replicate (x1.length : Int).toNat ((qaB.mk false []) : qaB)).length) <| aN) (ih _ _ h cx hn)
theorem zeM {K} (ih : qwP K) {cx} (hn : cx.n = 28) {c r10 f t12 t13} {r} (h : qd6 (K + 1) (.c1 c r10 f t12 t13) = some r) : qwO cx (.c1 c r10 f t12 t13) r := by
 rw [qd6] at h
 rcases qaQ h with ⟨h1, h⟩ | ⟨h1, h⟩
 ·obtain ⟨x2, h3, h⟩ := qaH h
  obtain ⟨x4, h5, h⟩ := qaH h
  obtain ⟨x6, h7, h⟩ := qaH h
  exact wkG [.go, rg1, bTr, rg2, .draw [.p, .p, .p, .p, .p, (.ix (qaA x2)), .p, (.call [[0,1], [0,1]] [(TV.agg (qaA c)), (TV.agg (qaA x2))] (TV.agg (qaA x4)))] [.op .ir, opI (.st (qaA x6) ((r10.set (t13.toNat) x4).map qaA))], rg2, .pre [.rl 5 0 (r10.set (t13.toNat) x4).length, .keep [0,3,5,12,13] [3,10]]] hn (aC h1 <| aC (qa1 h3) <| aC (qbS qaA h3) <| aC (qd9 h5) <| aC (qa1 h7) <| aC (qcB h7 (by simp) : t13 < ((r10.length : Nat) : Int)) <| aC (qcA qaA h7 : (r10.map qaA)[(0 + t13.toNat)]? = some (qaA x6)) <| aC (qc4 _ _ x4 _ : (r10.map qaA).set (0 + t13.toNat) (qbW (qaA x6) 0 [(T.bool x4.Neg), (T.sl 1 (x4.Abs.map qaC))]) = (r10.set (t13.toNat) x4).map qaA) <| aC (Nat.zero_le _ : 0 ≤ (0 + t13.toNat)) <| aC r0 <| aC (by simp : r10.length = (r10.set (t13.toNat) x4).length) <| aN) (ih _ _ h cx hn)
 ·obtain ⟨x2, h3, h⟩ := qaH h
  have h := oinj h; subst h
  exact wkR [.go, rg1, bFa, rgG [oo, .snap 26 (max 0 (0 + r10.length)) (r10.map qaA), opI (.call [[2]] [(tl 2 r10 qaA)] (tl 2 x2 qaA)), oo]] hn (aC h1 <| aC (qbJ _ _ _ (by simp) : ((r10.map qaA).drop 0).take r10.length = r10.map qaA) <| aC (rfl : (max 0 (0 + r10.length)) = (max 0 (0 + r10.length))) <| aC (qbL h3) <| aN)
theorem qtF : ∀ K : Nat, qwP K
 | 0, c, r, h => by rw [qd6] at h; cases h
 | K + 1, .c0 .., r, h => fun cx hn => zeN (qtF K) hn h
 | K + 1, .c1 .., r, h => fun cx hn => zeM (qtF K) hn h
theorem qd1 {K : Nat} {f : (List qaB)} {c : qaB} {r : (List qaB)} (h : qeK K f c = some r) : qc5 prog 58 [(tl 2 f qaA), (TV.agg (qaA c))] (tl 2 r qaA) :=
 qa0 [[2]] (by kernel_rfl) (by simp) fun cx hn => qtF K (.c0 f c) r h cx hn
open Go.Proofs.Try (prog)
theorem q24 {f : List qaB} (hf : Wf f) (hs : f.length < 4611686018427387904) : Ev (fun K => qlE K f) (mkI ((tz (pv f)).getLastD 0)) := by
  refine qaJ ?_
  simp only [qlE, qkS]
  have hle := qrA (pv f)
  rw [qf8] at hle
  have hlt : (f.take (tz (pv f)).length).length = (tz (pv f)).length := by rw [List.length_take]; omega
  refine qaG (qeO hf hs) ?_
  by_cases h : tz (pv f) = []
  · refine ev_t (by simp [h]) (qeW (qaT _) ?_)
    rw [h]; simp [mkI, qgT]
  · have hp := List.length_pos_iff.2 h
    refine ev_f (by rw [hlt]; simp [h]) ?_
    rw [hlt, qbR (by omega), show ((tz (pv f)).length : Int) - 1 = (((tz (pv f)).length - 1 : Nat) : Int) by omega]
    have hg := zgH hf (show (tz (pv f)).length - 1 < f.length by omega)
    have hx : (f.take (tz (pv f)).length)[(tz (pv f)).length - 1]? = some (f[(tz (pv f)).length - 1]'(by omega)) := by
      rw [List.getElem?_take, if_pos (by omega), List.getElem?_eq_getElem (by omega)]
    refine qa3 (qsV hx) (qaG (qoY hg.1 (by omega)) (qeW (qaT _) ?_))
    congr 1
    rw [← zbI, ← q0I, qdP (by omega), List.getLastD_eq_getLast?, List.getLast?_eq_getElem?, List.getElem?_eq_getElem (by omega)]
    rfl
theorem q1K {f : List qaB} (hf : Wf f) {c : qaB} (hc : Dig c.Abs ∧ c.Abs.length ≤ 17179869184) (n : Nat) (hn : n ≤ f.length) (l : List Int) (hl : l = ((pv f).take n).map (ival c * ·)) (hs : f.length < 4398046511104) (hw : Wf (mkP l)) : ∀ (m i : Nat), i + m = n →
    Ev (fun K => qd6 K (.c1 c ((mkP l).take i ++ List.replicate (n - i) ⟨false, []⟩) f n i)) (mkP (tz l))
  | 0, i, hi => by
    have hll : l.length = n := by rw [hl]; simp [qf8]; omega
    refine qaJ ?_
    simp only [qd6]
    refine ev_f (by simp; omega) ?_
    rw [qsX (by rw [qc1, hll]) (by omega)]
    exact qaG (qjR hw (by omega)) (qaT _)
  | m + 1, i, hi => by
    have hll : l.length = n := by rw [hl]; simp [qf8]; omega
    refine qaJ ?_
    simp only [qd6]
    refine ev_t (by simp; omega) ?_
    have hif : i < f.length := by omega
    have hg := zgH hf hif
    have hlt : (f.take n).length = n := by rw [List.length_take]; omega
    refine qa3 (qbN hif) (qaG (qfQ hc.1 hg.1 (by omega)) (qa3 (qxV (by rw [qc1, hll]) (by omega)) ?_))
    have e : l[i]? = some (ival c * ival f[i]) := by
      rw [hl, List.getElem?_map, List.getElem?_take, if_pos (by omega)]
      simp [pv, List.getElem?_eq_getElem hif]
    rw [Int.toNat_natCast, qsW (by rw [qc1, hll]) (qsH e), qbR (by omega), show (i : Int) + 1 = ((i + 1 : Nat) : Int) by omega]
    exact q1K hf hc n hn l hl hs hw m (i + 1) (by omega)
theorem zrL (c : Int) (l : List Int) : tz ((tz l).map (c * ·)) = tz (l.map (c * ·)) := by
  refine q8W _ _ ?_
  have key : ∀ m : List Int, co (m.map (c * ·)) = fun k => c * co m k := by
    intro m; funext k; simp only [co, List.getD_eq_getElem?_getD, List.getElem?_map]
    cases m[k]? <;> simp
  rw [key, key, q0I]
theorem qvD {f : List qaB} (hf : Wf f) {c : qaB} (hc : Dig c.Abs ∧ c.Abs.length ≤ 17179869184) (hs : f.length < 4398046511104) (hw : Wf (mkP ((pv f).map (ival c * ·)))) :
    Ev (fun K => qeK K f c) (mkP (tz ((pv f).map (ival c * ·)))) := by
  refine qaJ ?_
  simp only [qeK, qd6]
  have hle := qrA (pv f)
  rw [qf8] at hle
  have hlt : (f.take (tz (pv f)).length).length = (tz (pv f)).length := by rw [List.length_take]; omega
  refine qaG (qeO hf (by omega)) (qeZ (by rw [hlt]; omega) ?_)
  rw [hlt, Int.toNat_natCast, ← zrL]
  have := q1K hf hc (tz (pv f)).length hle (((pv f).take (tz (pv f)).length).map (ival c * ·)) rfl hs (fun a ha => by
    obtain ⟨x, hx, rfl⟩ := List.mem_map.1 ha
    refine hw _ (List.mem_map.2 ⟨x, ?_, rfl⟩)
    rw [List.map_take] at hx
    exact List.mem_of_mem_take hx) _ 0 (Nat.zero_add _)
  rw [← qnX] at this
  simpa using this
theorem qyC {f g : List qaB} (hf : Wf f) (hg : Wf g) (hl : f.length = g.length) (hs : f.length < 4611686018427387904) : ∀ {n : Nat}, n ≤ f.length →
    ∃ r : Int, Ev (fun K => qcO K (.c1 f g ((n : Int) - 1))) r ∧ (r = 0 ↔ (pv f).take n = (pv g).take n)
  | 0, hn => ⟨0, by
    refine qaJ ?_
    simp only [qcO]
    exact ev_f (by simp) (qaT _), by simp⟩
  | n + 1, hn => by
    have h1 := zgH hf (show n < f.length by omega)
    have h2 := zgH hg (show n < g.length by omega)
    have hc := qfX (ival (f[n]'(by omega))) (ival (g[n]'(by omega)))
    obtain ⟨r, hr, hi⟩ := qyC hf hg hl hs (n := n) (by omega)
    have htf : (pv f).take (n + 1) = (pv f).take n ++ [ival (f[n]'(by omega))] := by
      rw [List.take_add_one, List.getElem?_eq_getElem (by rw [qf8]; omega)]; simp [pv]
    have htg : (pv g).take (n + 1) = (pv g).take n ++ [ival (g[n]'(by omega))] := by
      rw [List.take_add_one, List.getElem?_eq_getElem (by rw [qf8]; omega)]; simp [pv]
    have hll : ((pv f).take n).length = ((pv g).take n).length := by simp [qf8]; omega
    by_cases he : ival (f[n]'(by omega)) = ival (g[n]'(by omega))
    · refine ⟨r, ?_, ?_⟩
      · refine qaJ ?_
        simp only [qcO]
        rw [show ((n + 1 : Nat) : Int) - 1 = (n : Int) by omega]
        refine ev_t (by simp) (qa3 (qbN (by omega)) (qa3 (qbN (by omega)) (qaG (qkA h1.1 h2.1 (by omega) (by omega)) (ev_f ?_ ?_))))
        · simp; omega
        · rw [qbR (by omega)]; exact hr
      · rw [hi, htf, htg, he]; simp
    · refine ⟨cmpI (ival (f[n]'(by omega))) (ival (g[n]'(by omega))), ?_, ?_⟩
      · refine qaJ ?_
        simp only [qcO]
        rw [show ((n + 1 : Nat) : Int) - 1 = (n : Int) by omega]
        refine ev_t (by simp) (qa3 (qbN (by omega)) (qa3 (qbN (by omega)) (qaG (qkA h1.1 h2.1 (by omega) (by omega)) (ev_t ?_ (qaT _)))))
        simp; omega
      · rw [htf, htg]
        constructor
        · intro h; omega
        · intro h
          have := List.append_inj' h rfl
          simp at this; exact absurd this.2 he
theorem zgP {f g : List qaB} (hf : Wf f) (hg : Wf g) (hs : f.length < 4611686018427387904) (ht : g.length < 4611686018427387904) : Ev (fun K => qq9 K f g) (decide (tz (pv f) = tz (pv g))) := by
  refine qaJ ?_
  simp only [qq9, qkR]
  have hle := qrA (pv f)
  rw [qf8] at hle
  have hle' := qrA (pv g)
  rw [qf8] at hle'
  have hlt : (f.take (tz (pv f)).length).length = (tz (pv f)).length := by rw [List.length_take]; omega
  have hlt' : (g.take (tz (pv g)).length).length = (tz (pv g)).length := by rw [List.length_take]; omega
  suffices h : ∃ r : Int, Ev (fun K => qkT K f g) r ∧ (r = 0 ↔ tz (pv f) = tz (pv g)) by
    obtain ⟨r, h1, h2⟩ := h
    refine qaG h1 (qeW (qaT _) ?_)
    rw [decide_eq_decide]; exact h2
  by_cases h1 : (tz (pv g)).length < (tz (pv f)).length
  · refine ⟨1, ?_, by simp; intro h; rw [h] at h1; omega⟩
    refine qaJ ?_
    simp only [qkT, qcO]
    refine qaG (qeO hf hs) (qaG (qeO hg ht) (ev_t ?_ (qaT _)))
    rw [hlt, hlt']; simpa using h1
  · by_cases h2 : (tz (pv f)).length < (tz (pv g)).length
    · refine ⟨-1, ?_, by simp; intro h; rw [h] at h2; omega⟩
      refine qaJ ?_
      simp only [qkT, qcO]
      refine qaG (qeO hf hs) (qaG (qeO hg ht) (ev_f ?_ (ev_t ?_ (qaT _))))
      · rw [hlt, hlt']; simpa using h1
      · rw [hlt, hlt']; simpa using h2
    · obtain ⟨r, hr, hi⟩ := qyC (zr5 hf (tz (pv f)).length) (zr5 hg (tz (pv g)).length) (by omega) (by omega) (Nat.le_refl _)
      refine ⟨r, ?_, ?_⟩
      · refine qaJ ?_
        simp only [qkT, qcO]
        refine qaG (qeO hf hs) (qaG (qeO hg ht) (ev_f ?_ (ev_f ?_ ?_)))
        · rw [hlt, hlt']; simpa using h1
        · rw [hlt, hlt']; simpa using h2
        · rw [qbR (by omega)]
          exact hr
      · rw [hi, znF, znF, ← qnX, ← qnX, hlt, List.take_length, List.take_of_length_le (by omega)]
def maxA : List Int → Int
  | [] => 0
  | a :: l => max (a.natAbs : Int) (maxA l)
theorem zh3 (l : List Int) : 0 ≤ maxA l := by
  induction l with
  | nil => exact Int.le_refl 0
  | cons a l ih => simp only [maxA]; omega
theorem qzC {b2 : qaB} {f : List qaB} (hf : Wf f) (hs : f.length < 4611686018427387904) : ∀ (m i : Nat) (z : Int), i + m = f.length → 0 ≤ z → (mkI z).Abs.length ≤ 17179869184 →
    Ev (fun K => qb4 K (.c1 b2 (mkI z) f f.length i)) (mkI (max z (maxA ((pv f).drop i))))
  | 0, i, z, hi, hz, hzl => by
    refine qaJ ?_
    simp only [qb4]
    refine ev_f (by simp; omega) (qeW (qaT _) ?_)
    rw [List.drop_of_length_le (by rw [qf8]; omega)]
    congr 1; simp only [maxA]; omega
  | m + 1, i, z, hi, hz, hzl => by
    refine qaJ ?_
    simp only [qb4]
    have hif : i < f.length := by omega
    have hg := zgH hf hif
    have hal : (mkI (ival f[i]).natAbs).Abs.length ≤ 17179869184 := by
      have h2 := qeX hg.1
      rw [qvC _ hg.1] at h2
      have : (mkI ((ival f[i]).natAbs : Int)).Abs = digs (ival f[i]).natAbs := by rw [q3W (by omega)]
      rw [this]; omega
    refine ev_t (by simp; omega) (qa3 (qbN hif) (qaG (qkB hg.1 (by omega)) (qaG (qkA (qfZ _) (qfZ _) (by omega) (by omega)) ?_)))
    rw [qa2, qa2]
    have hd : (pv f).drop i = ival f[i] :: (pv f).drop (i + 1) := by
      rw [List.drop_eq_getElem_cons (by rw [qf8]; exact hif)]; simp [pv]
    have next : ∀ y : Int, 0 ≤ y → (mkI y).Abs.length ≤ 17179869184 → y = max z (ival f[i]).natAbs → Ev (fun K => qb4 K (.c2 b2 (mkI y) f f.length i)) (mkI (max z (maxA ((pv f).drop i)))) := by
      intro y h1 h2 h3
      refine qaJ ?_
      simp only [qb4]
      rw [qbR (by omega), show (i : Int) + 1 = ((i + 1 : Nat) : Int) by omega]
      refine qeW (qzC hf hs m (i + 1) y (by omega) h1 h2) ?_
      rw [hd, h3]; simp only [maxA]; congr 1; omega
    have hc := qfX ((ival f[i]).natAbs : Int) z
    by_cases h : z < (ival f[i]).natAbs
    · refine ev_t (by simp; omega) (next _ (by omega) hal (by omega))
    · refine ev_f (by simp; omega) (next _ hz hzl (by omega))
theorem zbV {f : List qaB} (hf : Wf f) (hs : f.length < 4611686018427387904) : Ev (fun K => qmI K f) (mkI (maxA (pv f))) := by
  refine qaJ ?_
  simp only [qmI, qb4]
  have := qzC (b2 := ⟨false, []⟩) hf hs _ 0 0 (Nat.zero_add _) (Int.le_refl 0) (by simp [mkI, qgT])
  rw [show mkI 0 = ⟨false, []⟩ by simp [mkI, qgT], List.drop_zero] at this
  have hm := zh3 (pv f)
  rw [show max 0 (maxA (pv f)) = maxA (pv f) by omega] at this
  exact this
open Go.Proofs.Try (prog)
inductive qb7 where
 | c0 (a : (List qaB)) (b : (List qaB))
 | c1 (zero : qaB) (r17 : (List qaB)) (a : (List qaB)) (b : (List qaB)) (t19 : Int) (t20 : Int)
 | c2 (zero : qaB) (r17 : (List qaB)) (a : (List qaB)) (b : (List qaB)) (t19 : Int) (t20 : Int)
def qaK : Nat → qb7 → Option (List qaB)
 | 0, _ => none
 | K + 1, .c0 a b =>
  gd (0 ≤ (max (a.length : Int) (b.length : Int)) ∧ (max (a.length : Int) (b.length : Int)) ≤ (max (a.length : Int) (b.length : Int)) ∧ (32 : Int) * (max (a.length : Int) (b.length : Int)) ≤ 140737488355328) <|
  qaK K (.c1 (qaB.mk false []) (List.replicate (max (a.length : Int) (b.length : Int)).toNat ((qaB.mk false []) : qaB)) a b (((max (a.length : Int) (b.length : Int)).toNat : Nat) : Int) (0 : Int))
 | K + 1, .c1 zero r17 a b t19 t20 =>
  bif (decide (t20 < t19)) then
   bif (decide (t20 < (a.length : Int))) then
    (gi a t20).bind fun x3 =>
    bif (decide (t20 < (b.length : Int))) then
     (gi b t20).bind fun x6 =>
     (qgQ K x3 x6).bind fun x8 =>
     (gi r17 t20).bind fun _ =>
     qaK K (.c2 zero (r17.set (t20.toNat) x8) a b t19 t20)
    else
     (qgQ K x3 zero).bind fun x6 =>
     (gi r17 t20).bind fun _ =>
     qaK K (.c2 zero (r17.set (t20.toNat) x6) a b t19 t20)
   else
    bif (decide (t20 < (b.length : Int))) then
     (gi b t20).bind fun x4 =>
     (qgQ K zero x4).bind fun x6 =>
     (gi r17 t20).bind fun _ =>
     qaK K (.c2 zero (r17.set (t20.toNat) x6) a b t19 t20)
    else
     (qgQ K zero zero).bind fun x4 =>
     (gi r17 t20).bind fun _ =>
     qaK K (.c2 zero (r17.set (t20.toNat) x4) a b t19 t20)
  else
   some r17
 | K + 1, .c2 zero r17 a b t19 t20 =>
  qaK K (.c1 zero r17 a b t19 (wI6 (t20 + (1 : Int))))
def qcM (K : Nat) (a : (List qaB)) (b : (List qaB)) : Option (List qaB) := qaK K (.c0 a b)
noncomputable def qbB : Code := qbQ prog 145
noncomputable def qhD : qb7 → List Fr
 | .c0 .. => [.code qbB]
 | .c1 .. => [.code (.loop (atC qbB [1,1,1,0,1,0,0])), .blk 0, .code (atC qbB [1,1,1,1])]
 | .c2 .. => [.code (atC qbB [1,1,1,0,1,0,0,1,1,1]), .lp (atC qbB [1,1,1,0,1,0,0]), .blk 0, .code (atC qbB [1,1,1,1])]
def qhL : qb7 → St
 | .c0 a b => St.init [(tl 2 a qaA), (tl 2 b qaA), (TV.c (T.fn 143))]
 | .c1 zero r17 a b t19 t20 => ⟨[(0, vl 2 a qaA), (1, vl 2 b qaA), (2, .c (C.t (T.fn 143))), (7, .c (C.row 17 0 r17.length)), (8, .c (C.ptr 8 0)), (19, vi .i64 t19), (20, vi .i64 t20)], [(8, .var ((qaA zero).map C.t)), (17, .row 45 2 (r17.map qaA) 0)], []⟩
 | .c2 zero r17 a b t19 t20 => ⟨[(0, vl 2 a qaA), (1, vl 2 b qaA), (2, .c (C.t (T.fn 143))), (7, .c (C.row 17 0 r17.length)), (8, .c (C.ptr 8 0)), (19, vi .i64 t19), (20, vi .i64 t20)], [(8, .var ((qaA zero).map C.t)), (17, .row 45 2 (r17.map qaA) 0)], []⟩
def qcI (cx : Cx) (c : qb7) (r : (List qaB)) : Prop := Wk prog cx (qc2 prog 145 [[2]] (tl 2 r qaA)) (qhD c) .normal (qhL c)
abbrev qcJ (K : Nat) : Prop := ∀ c r, qaK K c = some r → ∀ cx : Cx, cx.n = 50 → qcI cx c r
theorem qhO {K} (ih : qcJ K) {cx} (hn : cx.n = 50) {a b} {r} (h : qaK (K + 1) (.c0 a b) = some r) : qcI cx (.c0 a b) r := by
 rw [qaK] at h
 obtain ⟨h1, h⟩ := qbI h
 exact wkG [rg1, rgG [oo, opI (.ln (a.length : Int)), oo, opI (.ln (b.length : Int)), oo, opI (.mk (qaA (qaB.mk false [])) ((List.replicate (max (a.length : Int) (b.length : Int)).toNat ((qaB.mk false []) : qaB)).map qaA)), oo], rg1, rg3, .pre [.tellB 8 [0,1], .rl 7 0 (List.replicate (max (a.length : Int) (b.length : Int)).toNat ((qaB.mk false []) : qaB)).length, .keep [0,1,2,7,8,19,20] [8,17]]] hn (aC (qaX a qaA) <| aC (qaX b qaA) <| aC h1.1 <| aC h1.2.1 <| aC h1.2.2 <| aC (qgM _ _ _ : List.replicate (max (a.length : Int) (b.length : Int)).toNat (qaA (qaB.mk false [])) = (List.replicate (max (a.length : Int) (b.length : Int)).toNat ((qaB.mk false []) : qaB)).map qaA) <| aC r0 <| aC (by simp : (max (a.length : Int) (b.length : Int)).toNat = (List.replicate (max (a.length : Int) (b.length : Int)).toNat ((qaB.mk false []) : qaB)).length) <| aN) (ih _ _ h cx hn)
theorem qhN {K} (ih : qcJ K) {cx} (hn : cx.n = 50) {zero r17 a b t19 t20} {r} (h : qaK (K + 1) (.c1 zero r17 a b t19 t20) = some r) : qcI cx (.c1 zero r17 a b t19 t20) r := by
 rw [qaK] at h
 rcases qaQ h with ⟨h1, h⟩ | ⟨h1, h⟩
 ·rcases qaQ h with ⟨h2, h⟩ | ⟨h2, h⟩
  ·obtain ⟨x3, h4, h⟩ := qaH h
   rcases qaQ h with ⟨h5, h⟩ | ⟨h5, h⟩
   ·obtain ⟨x6, h7, h⟩ := qaH h
    obtain ⟨x8, h9, h⟩ := qaH h
    obtain ⟨x10, h11, h⟩ := qaH h
    exact wkG [.go, rg1, bTr, rg2, .draw [.p, .p, .p, .p, .p] [.op .p], rgG [oo, oo, opI (.ln (a.length : Int)), oo], bTr, rgG [oo, oo, opI (.ix (qaA x3)), oo, oo], rgG [oo, oo, opI (.ln (b.length : Int)), oo], bTr, rgG [oo, oo, opI (.ix (qaA x6)), oo, oo], rgG [oo, oo, oo, oo, oo, opI (.call [[0,1], [0,1]] [(TV.agg (qaA x3)), (TV.agg (qaA x6))] (TV.agg (qaA x8))), .op .ir, opI (.st (qaA x10) ((r17.set (t20.toNat) x8).map qaA))], .pre [.rl 7 0 (r17.set (t20.toNat) x8).length, .keep [0,1,2,7,8,19,20] [8,17]]] hn (aC h1 <| aC (qaX a qaA) <| aC h2 <| aC (qa1 h4) <| aC (qbS qaA h4) <| aC (qaX b qaA) <| aC h5 <| aC (qa1 h7) <| aC (qbS qaA h7) <| aC (qfT h9) <| aC (qa1 h11) <| aC (qcB h11 (by simp) : t20 < ((r17.length : Nat) : Int)) <| aC (qcA qaA h11 : (r17.map qaA)[(0 + t20.toNat)]? = some (qaA x10)) <| aC (qc4 _ _ x8 _ : (r17.map qaA).set (0 + t20.toNat) (qbW (qaA x10) 0 [(T.bool x8.Neg), (T.sl 1 (x8.Abs.map qaC))]) = (r17.set (t20.toNat) x8).map qaA) <| aC (Nat.zero_le _ : 0 ≤ (0 + t20.toNat)) <| aC r0 <| aC (by simp : r17.length = (r17.set (t20.toNat) x8).length) <| aN) (ih _ _ h cx hn)
   ·obtain ⟨x6, h7, h⟩ := qaH h
    obtain ⟨x8, h9, h⟩ := qaH h
    exact wkG [.go, rg1, bTr, rg2, .draw [.p, .p, .p, .p, .p] [.op .p], rgG [oo, oo, opI (.ln (a.length : Int)), oo], bTr, rgG [oo, oo, opI (.ix (qaA x3)), oo, oo], rgG [oo, oo, opI (.ln (b.length : Int)), oo], bFa, rgG [oo, oo, oo, oo, oo, opI (.call [[0,1], [0,1]] [(TV.agg (qaA x3)), (TV.agg (qaA zero))] (TV.agg (qaA x6))), .op .ir, opI (.st (qaA x8) ((r17.set (t20.toNat) x6).map qaA))], .pre [.rl 7 0 (r17.set (t20.toNat) x6).length, .keep [0,1,2,7,8,19,20] [8,17]]] hn (aC h1 <| aC (qaX a qaA) <| aC h2 <| aC (qa1 h4) <| aC (qbS qaA h4) <| aC (qaX b qaA) <| aC h5 <| aC (qfT h7) <| aC (qa1 h9) <| aC (qcB h9 (by simp) : t20 < ((r17.length : Nat) : Int)) <| aC (qcA qaA h9 : (r17.map qaA)[(0 + t20.toNat)]? = some (qaA x8)) <| aC (qc4 _ _ x6 _ : (r17.map qaA).set (0 + t20.toNat) (qbW (qaA x8) 0 [(T.bool x6.Neg), (T.sl 1 (x6.Abs.map qaC))]) = (r17.set (t20.toNat) x6).map qaA) <| aC (Nat.zero_le _ : 0 ≤ (0 + t20.toNat)) <| aC r0 <| aC (by simp : r17.length = (r17.set (t20.toNat) x6).length) <| aN) (ih _ _ h cx hn)
  ·rcases qaQ h with ⟨h3, h⟩ | ⟨h3, h⟩
   ·obtain ⟨x4, h5, h⟩ := qaH h
    obtain ⟨x6, h7, h⟩ := qaH h
    obtain ⟨x8, h9, h⟩ := qaH h
    exact wkG [.go, rg1, bTr, rg2, .draw [.p, .p, .p, .p, .p] [.op .p], rgG [oo, oo, opI (.ln (a.length : Int)), oo], bFa, rgG [oo, oo, opI (.ln (b.length : Int)), oo], bTr, rgG [oo, oo, opI (.ix (qaA x4)), oo, oo], rgG [oo, oo, oo, oo, oo, opI (.call [[0,1], [0,1]] [(TV.agg (qaA zero)), (TV.agg (qaA x4))] (TV.agg (qaA x6))), .op .ir, opI (.st (qaA x8) ((r17.set (t20.toNat) x6).map qaA))], .pre [.rl 7 0 (r17.set (t20.toNat) x6).length, .keep [0,1,2,7,8,19,20] [8,17]]] hn (aC h1 <| aC (qaX a qaA) <| aC h2 <| aC (qaX b qaA) <| aC h3 <| aC (qa1 h5) <| aC (qbS qaA h5) <| aC (qfT h7) <| aC (qa1 h9) <| aC (qcB h9 (by simp) : t20 < ((r17.length : Nat) : Int)) <| aC (qcA qaA h9 : (r17.map qaA)[(0 + t20.toNat)]? = some (qaA x8)) <| aC (qc4 _ _ x6 _ : (r17.map qaA).set (0 + t20.toNat) (qbW (qaA x8) 0 [(T.bool x6.Neg), (T.sl 1 (x6.Abs.map qaC))]) = (r17.set (t20.toNat) x6).map qaA) <| aC (Nat.zero_le _ : 0 ≤ (0 + t20.toNat)) <| aC r0 <| aC (by simp : r17.length = (r17.set (t20.toNat) x6).length) <| aN) (ih _ _ h cx hn)
   ·obtain ⟨x4, h5, h⟩ := qaH h
    obtain ⟨x6, h7, h⟩ := qaH h
    exact wkG [.go, rg1, bTr, rg2, .draw [.p, .p, .p, .p, .p] [.op .p], rgG [oo, oo, opI (.ln (a.length : Int)), oo], bFa, rgG [oo, oo, opI (.ln (b.length : Int)), oo], bFa, rgG [oo, oo, oo, oo, oo, opI (.call [[0,1], [0,1]] [(TV.agg (qaA zero)), (TV.agg (qaA zero))] (TV.agg (qaA x4))), .op .ir, opI (.st (qaA x6) ((r17.set (t20.toNat) x4).map qaA))], .pre [.rl 7 0 (r17.set (t20.toNat) x4).length, .keep [0,1,2,7,8,19,20] [8,17]]] hn (aC h1 <| aC (qaX a qaA) <| aC h2 <| aC (qaX b qaA) <| aC h3 <| aC (qfT h5) <| aC (qa1 h7) <| aC (qcB h7 (by simp) : t20 < ((r17.length : Nat) : Int)) <| aC (qcA qaA h7 : (r17.map qaA)[(0 + t20.toNat)]? = some (qaA x6)) <| aC (qc4 _ _ x4 _ : (r17.map qaA).set (0 + t20.toNat) (qbW (qaA x6) 0 [(T.bool x4.Neg), (T.sl 1 (x4.Abs.map qaC))]) = (r17.set (t20.toNat) x4).map qaA) <| aC (Nat.zero_le _ : 0 ≤ (0 + t20.toNat)) <| aC r0 <| aC (by simp : r17.length = (r17.set (t20.toNat) x4).length) <| aN) (ih _ _ h cx hn)
 ·have h := oinj h; subst h
  exact wkR [.go, rg1, bFa, rgG [oo, oo, .snap 6 (max 0 (0 + r17.length)) (r17.map qaA)]] hn (aC h1 <| aC (qbJ _ _ _ (by simp) : ((r17.map qaA).drop 0).take r17.length = r17.map qaA) <| aC (rfl : (max 0 (0 + r17.length)) = (max 0 (0 + r17.length))) <| aN)
theorem qhM {K} (ih : qcJ K) {cx} (hn : cx.n = 50) {zero r17 a b t19 t20} {r} (h : qaK (K + 1) (.c2 zero r17 a b t19 t20) = some r) : qcI cx (.c2 zero r17 a b t19 t20) r := by
 rw [qaK] at h
 exact wkG [rg2, .pre [.rl 7 0 r17.length, .keep [0,1,2,7,8,19,20] [8,17]]] hn (aC r0 <| aC (lq r17) <| aN) (ih _ _ h cx hn)
theorem qb6 : ∀ K : Nat, qcJ K
 | 0, c, r, h => by rw [qaK] at h; cases h
 | K + 1, .c0 .., r, h => fun cx hn => qhO (qb6 K) hn h
 | K + 1, .c1 .., r, h => fun cx hn => qhN (qb6 K) hn h
 | K + 1, .c2 .., r, h => fun cx hn => qhM (qb6 K) hn h
theorem qg3 {K : Nat} {a : (List qaB)} {b : (List qaB)} {r : (List qaB)} (h : qcM K a b = some r) : qc5 prog 145 [(tl 2 a qaA), (tl 2 b qaA), (TV.c (T.fn 143))] (tl 2 r qaA) :=
 qa0 [[2]] (by kernel_rfl) (by simp) fun cx hn => qb6 K (.c0 a b) r h cx hn
open Go.Proofs.Try (prog)
inductive qrE where
 | c0 (f : (List qaB)) (g : (List qaB))
def qmH : Nat → qrE → Option (List qaB)
 | 0, _ => none
 | K + 1, .c0 f g =>
  (qcM K f g).bind fun x1 =>
  (qeH K x1).bind fun x3 =>
  some x3
def qjA (K : Nat) (f : (List qaB)) (g : (List qaB)) : Option (List qaB) := qmH K (.c0 f g)
noncomputable def zeK : Code := qbQ prog 100
noncomputable def zgN : qrE → List Fr
 | .c0 .. => [.code zeK]
def zj8 : qrE → St
 | .c0 f g => St.init [(tl 2 f qaA), (tl 2 g qaA)]
def q8L (cx : Cx) (c : qrE) (r : (List qaB)) : Prop := Wk prog cx (qc2 prog 100 [[2]] (tl 2 r qaA)) (zgN c) .normal (zj8 c)
abbrev q8M (K : Nat) : Prop := ∀ c r, qmH K c = some r → ∀ cx : Cx, cx.n = 9 → q8L cx c r
theorem zj9 {K} (_ : q8M K) {cx} (hn : cx.n = 9) {f g} {r} (h : qmH (K + 1) (.c0 f g) = some r) : q8L cx (.c0 f g) r := by
 rw [qmH] at h
 obtain ⟨x1, h2, h⟩ := qaH h
 obtain ⟨x3, h4, h⟩ := qaH h
 have h := oinj h; subst h
 exact wkR [rg1, rgG [oo, oo, opI (.call [[2], [2], [0]] [(tl 2 f qaA), (tl 2 g qaA), (TV.c (T.fn 143))] (tl 2 x1 qaA)), opI (.call [[2]] [(tl 2 x1 qaA)] (tl 2 x3 qaA)), oo]] hn (aC (qg3 h2) <| aC (qbL h4) <| aN)
theorem q21 : ∀ K : Nat, q8M K
 | 0, c, r, h => by rw [qmH] at h; cases h
 | K + 1, .c0 .., r, h => fun cx hn => zj9 (q21 K) hn h
theorem qoH {K : Nat} {f : (List qaB)} {g : (List qaB)} {r : (List qaB)} (h : qjA K f g = some r) : qc5 prog 100 [(tl 2 f qaA), (tl 2 g qaA)] (tl 2 r qaA) :=
 qa0 [[2]] (by kernel_rfl) (by simp) fun cx hn => q21 K (.c0 f g) r h cx hn
end Go.Am.X
