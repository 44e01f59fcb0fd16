/- Part 4 of the proof: Fn_unipoly_Compare .. Fn_modpoly_Same. -/
import Derived.Test.YteciehfkhmbfeaaRb
import Derived.Test.YteciehfkhmbfeaaRc
namespace Go.Am.X
open Go.Proofs.Try (prog)
inductive qj2 where
  | c0 (f : (List qaB)) (g : (List qaB))
  | c1 (f : (List qaB)) (g : (List qaB)) (i : Int)
def qcE : Nat → qj2 → Option Int
  | 0, _ => none
  | K + 1, .c0 f g =>
    (qdU K f).bind fun x1 =>
    (qdU K g).bind fun x3 =>
    bif (decide ((x3.length : Int) < (x1.length : Int))) then
      some (1 : Int)
    else
      bif (decide ((x1.length : Int) < (x3.length : Int))) then
        some (-1 : Int)
      else
        qcE K (.c1 x1 x3 (wI6 ((x1.length : Int) - (1 : Int))))
  | K + 1, .c1 f g i =>
    bif (decide ((0 : Int) ≤ i)) then
      (gi f i).bind fun x2 =>
      (gi g i).bind fun x4 =>
      (qiQ K x2 x4).bind fun x6 =>
      bif (!decide (x6 = (0 : Int))) then
        some x6
      else
        qcE K (.c1 f g (wI6 (i - (1 : Int))))
    else
      some (0 : Int)
def qi6 (K : Nat) (f : (List qaB)) (g : (List qaB)) : Option Int := qcE K (.c0 f g)
noncomputable def qm5 : Code := qbN prog 124
noncomputable def unipoly_Compare_pos : qj2 → List Fr
  | .c0 .. => [.code qm5]
  | .c1 .. => [.code (.loop (atC qm5 [1,1,1,0,1,0,0])), .blk 1, .code (atC qm5 [1,1,1,1])]
def unipoly_Compare_st : qj2 → St
  | .c0 f g => St.init [(tl 2 f qaA), (tl 2 g qaA)]
  | .c1 f g i => ⟨[(0, vl 2 f qaA), (1, vl 2 g qaA), (5, vi .i64 i)], [], []⟩
def qq5 (cx : Cx) (c : qj2) (r : Int) : Prop := Wk prog cx (qcT prog 124 [[0]] (ti .i64 r)) (unipoly_Compare_pos c) .normal (unipoly_Compare_st c)
abbrev qq6 (K : Nat) : Prop := ∀ c r, qcE K c = some r → ∀ cx : Cx, cx.n = 42 → qq5 cx c r
theorem unipoly_Compare_c0 {K} (ih : qq6 K) {cx} (hn : cx.n = 42) {f g} {r} (h : qcE (K + 1) (.c0 f g) = some r) : qq5 cx (.c0 f g) r := by
  rw [qcE] at h
  obtain ⟨x1, h2, h⟩ := qaH h
  obtain ⟨x3, h4, h⟩ := qaH h
  rcases qaK h with ⟨h5, h⟩ | ⟨h5, h⟩
  · skip
    have h := Option.some.inj h; subst h
    exact qaN (fuel := 84) [rgG [oo], rgG [oo, opI (.call [[2]] [(tl 2 f qaA)] (tl 2 x1 qaA)), oo, opI (.call [[2]] [(tl 2 g qaA)] (tl 2 x3 qaA)), oo, oo], rgG [oo, opI (.ln (x1.length : Int)), oo, opI (.ln (x3.length : Int)), oo, oo], .br true, rgG [oo]] _ hn (by kernel_rfl) (aC (qbF h2) <| aC (qbF h4) <| aC (qaT x1 qaA) <| aC (qaT x3 qaA) <| aC h5 <| aN)
  · skip
    rcases qaK h with ⟨h6, h⟩ | ⟨h6, h⟩
    · skip
      have h := Option.some.inj h; subst h
      exact qaN (fuel := 98) [rgG [oo], rgG [oo, opI (.call [[2]] [(tl 2 f qaA)] (tl 2 x1 qaA)), oo, opI (.call [[2]] [(tl 2 g qaA)] (tl 2 x3 qaA)), oo, oo], rgG [oo, opI (.ln (x1.length : Int)), oo, opI (.ln (x3.length : Int)), oo, oo], .br false, rgG [oo, opI (.ln (x1.length : Int)), oo, opI (.ln (x3.length : Int)), oo, oo], .br true, rgG [oo]] _ hn (by kernel_rfl) (aC (qbF h2) <| aC (qbF h4) <| aC (qaT x1 qaA) <| aC (qaT x3 qaA) <| aC h5 <| aC (qaT x1 qaA) <| aC (qaT x3 qaA) <| aC h6 <| aN)
    · skip
      exact qaU (fuel := 100) [rgG [oo], rgG [oo, opI (.call [[2]] [(tl 2 f qaA)] (tl 2 x1 qaA)), oo, opI (.call [[2]] [(tl 2 g qaA)] (tl 2 x3 qaA)), oo, oo], rgG [oo, opI (.ln (x1.length : Int)), oo, opI (.ln (x3.length : Int)), oo, oo], .br false, rgG [oo, opI (.ln (x1.length : Int)), oo, opI (.ln (x3.length : Int)), oo, oo], .br false, rgG [oo, opI (.ln (x1.length : Int)), oo, oo], .pre [.keep [0,1,5] []]] _ hn (by kernel_rfl) (aC (qbF h2) <| aC (qbF h4) <| aC (qaT x1 qaA) <| aC (qaT x3 qaA) <| aC h5 <| aC (qaT x1 qaA) <| aC (qaT x3 qaA) <| aC h6 <| aC (qaT x1 qaA) <| aN) (ih _ _ h cx hn)
theorem unipoly_Compare_c1 {K} (ih : qq6 K) {cx} (hn : cx.n = 42) {f g i} {r} (h : qcE (K + 1) (.c1 f g i) = some r) : qq5 cx (.c1 f g i) r := by
  rw [qcE] at h
  rcases qaK h with ⟨h1, h⟩ | ⟨h1, h⟩
  · skip
    obtain ⟨x2, h3, h⟩ := qaH h
    obtain ⟨x4, h5, h⟩ := qaH h
    obtain ⟨x6, h7, h⟩ := qaH h
    rcases qaK h with ⟨h8, h⟩ | ⟨h8, h⟩
    · skip
      have h := Option.some.inj h; subst h
      exact qaN (fuel := 108) [.go, rgG [oo, oo], .br true, .draw [.p, .p, (.ix (qaA x2)), .p, .p, .p, (.ix (qaA x4)), .p] [opI (.call [[0,1], [0,1]] [(TV.agg (qaA x2)), (TV.agg (qaA x4))] (ti .i64 x6)), .op .p], rgG [oo, oo], .br true, rgG [oo, oo]] _ hn (by kernel_rfl) (aC h1 <| aC (qa0 h3) <| aC (qbH qaA h3) <| aC (qa0 h5) <| aC (qbH qaA h5) <| aC (qd0 h7) <| aC h8 <| aN)
    · skip
      exact qaU (fuel := 100) [.go, rgG [oo, oo], .br true, .draw [.p, .p, (.ix (qaA x2)), .p, .p, .p, (.ix (qaA x4)), .p] [opI (.call [[0,1], [0,1]] [(TV.agg (qaA x2)), (TV.agg (qaA x4))] (ti .i64 x6)), .op .p], rgG [oo, oo], .br false, rgG [oo, oo, oo], .pre [.keep [0,1,5] []]] _ hn (by kernel_rfl) (aC h1 <| aC (qa0 h3) <| aC (qbH qaA h3) <| aC (qa0 h5) <| aC (qbH qaA h5) <| aC (qd0 h7) <| aC h8 <| aN) (ih _ _ h cx hn)
  · skip
    have h := Option.some.inj h; subst h
    exact qaN (fuel := 78) [.go, rgG [oo, oo], .br false, rgG [oo]] _ hn (by kernel_rfl) (aC h1 <| aN)
theorem qoN : ∀ K : Nat, qq6 K
  | 0, c, r, h => by rw [qcE] at h; cases h
  | K + 1, .c0 .., r, h => fun cx hn => unipoly_Compare_c0 (qoN K) hn h
  | K + 1, .c1 .., r, h => fun cx hn => unipoly_Compare_c1 (qoN K) hn h
theorem unipoly_Compare_holds {K : Nat} {f : (List qaB)} {g : (List qaB)} {r : Int} (h : qi6 K f g = some r) : qcX prog 124 [(tl 2 f qaA), (tl 2 g qaA)] (ti .i64 r) :=
  qa2 [[0]] (by kernel_rfl) (by simp) fun cx hn => qoN K (.c0 f g) r h cx hn
end Go.Am.X
namespace Go.Am.X
open Go.Proofs.Try (prog)
inductive qnV where
  | c0 (f : (List qaB)) (g : (List qaB))
def qi3 : Nat → qnV → Option Bool
  | 0, _ => none
  | K + 1, .c0 f g =>
    (qi6 K f g).bind fun x1 =>
    some (decide (x1 = (0 : Int)))
def qsC (K : Nat) (f : (List qaB)) (g : (List qaB)) : Option Bool := qi3 K (.c0 f g)
noncomputable def unipoly_Same_body : Code := qbN prog 65
noncomputable def unipoly_Same_pos : qnV → List Fr
  | .c0 .. => [.code unipoly_Same_body]
def unipoly_Same_st : qnV → St
  | .c0 f g => St.init [(tl 2 f qaA), (tl 2 g qaA)]
def unipoly_Same_S (cx : Cx) (c : qnV) (r : Bool) : Prop := Wk prog cx (qcT prog 65 [[0]] (TV.c (T.bool r))) (unipoly_Same_pos c) .normal (unipoly_Same_st c)
abbrev unipoly_Same_H (K : Nat) : Prop := ∀ c r, qi3 K c = some r → ∀ cx : Cx, cx.n = 9 → unipoly_Same_S cx c r
theorem unipoly_Same_c0 {K} (_ : unipoly_Same_H K) {cx} (hn : cx.n = 9) {f g} {r} (h : qi3 (K + 1) (.c0 f g) = some r) : unipoly_Same_S cx (.c0 f g) r := by
  rw [qi3] at h
  obtain ⟨x1, h2, h⟩ := qaH h
  have h := Option.some.inj h; subst h
  exact qaN (fuel := 54) [rgG [oo], rgG [oo, oo, opI (.call [[2], [2]] [(tl 2 f qaA), (tl 2 g qaA)] (ti .i64 x1)), oo, oo]] _ hn (by kernel_rfl) (aC (unipoly_Compare_holds h2) <| aN)
theorem unipoly_Same_all : ∀ K : Nat, unipoly_Same_H K
  | 0, c, r, h => by rw [qi3] at h; cases h
  | K + 1, .c0 .., r, h => fun cx hn => unipoly_Same_c0 (unipoly_Same_all K) hn h
theorem qo9 {K : Nat} {f : (List qaB)} {g : (List qaB)} {r : Bool} (h : qsC K f g = some r) : qcX prog 65 [(tl 2 f qaA), (tl 2 g qaA)] (TV.c (T.bool r)) :=
  qa2 [[0]] (by kernel_rfl) (by simp) fun cx hn => unipoly_Same_all K (.c0 f g) r h cx hn
end Go.Am.X
namespace Go.Am.X
open Go.Proofs.Try (prog)
inductive qlA where
  | c0 (f : (List qaB))
  | c1 (b2 : qaB) (out : qaB) (t8 : (List qaB)) (t9 : Int) (t10 : Int)
  | c2 (b2 : qaB) (out : qaB) (t8 : (List qaB)) (t9 : Int) (t10 : Int)
def qbZ : Nat → qlA → Option qaB
  | 0, _ => none
  | K + 1, .c0 f =>
    qbZ K (.c1 (qaB.mk false []) (qaB.mk false []) f (f.length : Int) (0 : Int))
  | K + 1, .c1 b2 out t8 t9 t10 =>
    bif (decide (t10 < t9)) then
      (gi t8 t10).bind fun x2 =>
      (qg7 K x2).bind fun x4 =>
      (qiQ K x4 out).bind fun x6 =>
      bif (decide ((0 : Int) < x6)) then
        qbZ K (.c2 b2 x4 t8 t9 t10)
      else
        qbZ K (.c2 b2 out t8 t9 t10)
    else
      some out
  | K + 1, .c2 b2 out t8 t9 t10 =>
    qbZ K (.c1 b2 out t8 t9 (wI6 (t10 + (1 : Int))))
def unipoly_Height (K : Nat) (f : (List qaB)) : Option qaB := qbZ K (.c0 f)
noncomputable def qf5 : Code := qbN prog 61
noncomputable def unipoly_Height_pos : qlA → List Fr
  | .c0 .. => [.code qf5]
  | .c1 .. => [.code (.loop (atC qf5 [1,1,0,1,0,0])), .blk 0, .code (atC qf5 [1,1,1])]
  | .c2 .. => [.code (atC qf5 [1,1,0,1,0,0,1,1,1]), .lp (atC qf5 [1,1,0,1,0,0]), .blk 0, .code (atC qf5 [1,1,1])]
def unipoly_Height_st : qlA → St
  | .c0 f => St.init [(tl 2 f qaA)]
  | .c1 b2 out t8 t9 t10 => ⟨[(2, .c (C.ptr 2 0)), (3, .c (C.ptr 3 0)), (8, vl 2 t8 qaA), (9, vi .i64 t9), (10, vi .i64 t10)], [(2, .var ((qaA b2).map C.t)), (3, .var ((qaA out).map C.t))], []⟩
  | .c2 b2 out t8 t9 t10 => ⟨[(2, .c (C.ptr 2 0)), (3, .c (C.ptr 3 0)), (8, vl 2 t8 qaA), (9, vi .i64 t9), (10, vi .i64 t10)], [(2, .var ((qaA b2).map C.t)), (3, .var ((qaA out).map C.t))], []⟩
def qnX (cx : Cx) (c : qlA) (r : qaB) : Prop := Wk prog cx (qcT prog 61 [[0,1]] (TV.agg (qaA r))) (unipoly_Height_pos c) .normal (unipoly_Height_st c)
abbrev qnY (K : Nat) : Prop := ∀ c r, qbZ K c = some r → ∀ cx : Cx, cx.n = 23 → qnX cx c r
theorem unipoly_Height_c0 {K} (ih : qnY K) {cx} (hn : cx.n = 23) {f} {r} (h : qbZ (K + 1) (.c0 f) = some r) : qnX cx (.c0 f) r := by
  rw [qbZ] at h
  exact qaU (fuel := 64) [rgG [oo], rgG [oo, oo, oo], rgG [oo, opI (.ln (f.length : Int)), oo], .pre [.tellB 2 [0,1], .tellB 3 [0,1], .keep [2,3,8,9,10] [2,3]]] _ hn (by kernel_rfl) (aC (qaT f qaA) <| aN) (ih _ _ h cx hn)
theorem unipoly_Height_c1 {K} (ih : qnY K) {cx} (hn : cx.n = 23) {b2 out t8 t9 t10} {r} (h : qbZ (K + 1) (.c1 b2 out t8 t9 t10) = some r) : qnX cx (.c1 b2 out t8 t9 t10) r := by
  rw [qbZ] at h
  rcases qaK h with ⟨h1, h⟩ | ⟨h1, h⟩
  · skip
    obtain ⟨x2, h3, h⟩ := qaH h
    obtain ⟨x4, h5, h⟩ := qaH h
    obtain ⟨x6, h7, h⟩ := qaH h
    rcases qaK h with ⟨h8, h⟩ | ⟨h8, h⟩
    · skip
      exact qaU (fuel := 104) [.go, rgG [oo], .br true, rgG [opI (.ix (qaA x2)), oo, oo, oo], rgG [oo, opI (.call [[0,1]] [(TV.agg (qaA x2))] (TV.agg (qaA x4))), oo, oo], rgG [oo, oo, opI (.call [[0,1], [0,1]] [(TV.agg (qaA x4)), (TV.agg (qaA out))] (ti .i64 x6)), oo], .br true, rgG [oo, oo], .pre [.keep [2,3,8,9,10] [2,3]]] _ hn (by kernel_rfl) (aC h1 <| aC (qa0 h3) <| aC (qbH qaA h3) <| aC (qdA h5) <| aC (qd0 h7) <| aC h8 <| aN) (ih _ _ h cx hn)
    · skip
      exact qaU (fuel := 100) [.go, rgG [oo], .br true, rgG [opI (.ix (qaA x2)), oo, oo, oo], rgG [oo, opI (.call [[0,1]] [(TV.agg (qaA x2))] (TV.agg (qaA x4))), oo, oo], rgG [oo, oo, opI (.call [[0,1], [0,1]] [(TV.agg (qaA x4)), (TV.agg (qaA out))] (ti .i64 x6)), oo], .br false, .pre [.keep [2,3,8,9,10] [2,3]]] _ hn (by kernel_rfl) (aC h1 <| aC (qa0 h3) <| aC (qbH qaA h3) <| aC (qdA h5) <| aC (qd0 h7) <| aC h8 <| aN) (ih _ _ h cx hn)
  · skip
    have h := Option.some.inj h; subst h
    exact qaN (fuel := 78) [.go, rgG [oo], .br false, rgG [oo, oo]] _ hn (by kernel_rfl) (aC h1 <| aN)
theorem unipoly_Height_c2 {K} (ih : qnY K) {cx} (hn : cx.n = 23) {b2 out t8 t9 t10} {r} (h : qbZ (K + 1) (.c2 b2 out t8 t9 t10) = some r) : qnX cx (.c2 b2 out t8 t9 t10) r := by
  rw [qbZ] at h
  exact qaU (fuel := 44) [rgG [oo, oo], .pre [.keep [2,3,8,9,10] [2,3]]] _ hn (by kernel_rfl) aN (ih _ _ h cx hn)
theorem qk9 : ∀ K : Nat, qnY K
  | 0, c, r, h => by rw [qbZ] at h; cases h
  | K + 1, .c0 .., r, h => fun cx hn => unipoly_Height_c0 (qk9 K) hn h
  | K + 1, .c1 .., r, h => fun cx hn => unipoly_Height_c1 (qk9 K) hn h
  | K + 1, .c2 .., r, h => fun cx hn => unipoly_Height_c2 (qk9 K) hn h
theorem unipoly_Height_holds {K : Nat} {f : (List qaB)} {r : qaB} (h : unipoly_Height K f = some r) : qcX prog 61 [(tl 2 f qaA)] (TV.agg (qaA r)) :=
  qa2 [[0,1]] (by kernel_rfl) (by simp) fun cx hn => qk9 K (.c0 f) r h cx hn
end Go.Am.X
namespace Go.Am.X
open Go.Proofs.Try (prog)
inductive qmI where
  | c0 (f : (List qaB)) (c : qaB)
  | c1 (c : qaB) (r10 : (List qaB)) (f : (List qaB)) (t12 : Int) (t13 : Int)
def qdJ : Nat → qmI → Option (List qaB)
  | 0, _ => none
  | K + 1, .c0 f c =>
    (qdU K f).bind fun x1 =>
    gd (0 ≤ (x1.length : Int) ∧ (x1.length : Int) ≤ (x1.length : Int) ∧ (32 : Int) * (x1.length : Int) ≤ 140737488355328) <|
    qdJ K (.c1 c (List.replicate (x1.length : Int).toNat ((qaB.mk false []) : qaB)) f (((x1.length : Int).toNat : Nat) : Int) (0 : Int))
  | K + 1, .c1 c r10 f t12 t13 =>
    bif (decide (t13 < t12)) then
      (gi f t13).bind fun x2 =>
      (qdI K c x2).bind fun x4 =>
      (gi r10 t13).bind fun _ =>
      qdJ K (.c1 c (r10.set (t13.toNat) x4) f t12 (wI6 (t13 + (1 : Int))))
    else
      (qdU K r10).bind fun x2 =>
      some x2
def qdP (K : Nat) (f : (List qaB)) (c : qaB) : Option (List qaB) := qdJ K (.c0 f c)
noncomputable def qo8 : Code := qbN prog 58
noncomputable def unipoly_Scale_pos : qmI → List Fr
  | .c0 .. => [.code qo8]
  | .c1 .. => [.code (.loop (atC qo8 [1,1,0,1,0,0])), .blk 0, .code (atC qo8 [1,1,1])]
def unipoly_Scale_st : qmI → St
  | .c0 f c => St.init [(tl 2 f qaA), (TV.agg (qaA c))]
  | .c1 c r10 f t12 t13 => ⟨[(0, vl 2 f qaA), (3, .c (C.ptr 3 0)), (5, .c (C.row 10 0 r10.length)), (12, vi .i64 t12), (13, vi .i64 t13)], [(3, .var ((qaA c).map C.t)), (10, .row 45 2 (r10.map qaA) 0)], []⟩
def qt1 (cx : Cx) (c : qmI) (r : (List qaB)) : Prop := Wk prog cx (qcT prog 58 [[2]] (tl 2 r qaA)) (unipoly_Scale_pos c) .normal (unipoly_Scale_st c)
abbrev qt2 (K : Nat) : Prop := ∀ c r, qdJ K c = some r → ∀ cx : Cx, cx.n = 28 → qt1 cx c r
theorem unipoly_Scale_c0 {K} (ih : qt2 K) {cx} (hn : cx.n = 28) {f c} {r} (h : qdJ (K + 1) (.c0 f c) = some r) : qt1 cx (.c0 f c) r := by
  rw [qdJ] at h
  obtain ⟨x1, h2, h⟩ := qaH h
  obtain ⟨h3, h⟩ := qbE h
  exact qaU (fuel := 64) [rgG [oo, oo], rgG [oo, opI (.call [[2]] [(tl 2 f qaA)] (tl 2 x1 qaA)), opI (.ln (x1.length : Int)), opI (.mk (qaA (qaB.mk false [])) ((List.replicate (x1.length : Int).toNat ((qaB.mk false []) : qaB)).map qaA)), oo], rgG [oo, oo, oo], .pre [.rl 5 0 (List.replicate (x1.length : Int).toNat ((qaB.mk false []) : qaB)).length, .keep [0,3,5,12,13] [3,10]]] _ hn (by kernel_rfl) (aC (qbF h2) <| aC (qaT x1 qaA) <| aC h3.1 <| aC h3.2.1 <| aC h3.2.2 <| aC (qf1 _ _ _ : List.replicate (x1.length : Int).toNat (qaA (qaB.mk false [])) = (List.replicate (x1.length : Int).toNat ((qaB.mk false []) : qaB)).map qaA) <| aC r0 <| aC (by simp : (x1.length : Int).toNat = (List.replicate (x1.length : Int).toNat ((qaB.mk false []) : qaB)).length) <| aN) (ih _ _ h cx hn)
theorem unipoly_Scale_c1 {K} (ih : qt2 K) {cx} (hn : cx.n = 28) {c r10 f t12 t13} {r} (h : qdJ (K + 1) (.c1 c r10 f t12 t13) = some r) : qt1 cx (.c1 c r10 f t12 t13) r := by
  rw [qdJ] at h
  rcases qaK h with ⟨h1, h⟩ | ⟨h1, h⟩
  · skip
    obtain ⟨x2, h3, h⟩ := qaH h
    obtain ⟨x4, h5, h⟩ := qaH h
    obtain ⟨x6, h7, h⟩ := qaH h
    exact qaU (fuel := 90) [.go, rgG [oo], .br true, rgG [oo, oo], .draw [.p, .p, .p, .p, .p, (.ix (qaA x2)), .p, (.call [[0,1], [0,1]] [(TV.agg (qaA c)), (TV.agg (qaA x2))] (TV.agg (qaA x4)))] [.op .ir, opI (.st (qaA x6) ((r10.set (t13.toNat) x4).map qaA))], rgG [oo, oo], .pre [.rl 5 0 (r10.set (t13.toNat) x4).length, .keep [0,3,5,12,13] [3,10]]] _ hn (by kernel_rfl) (aC h1 <| aC (qa0 h3) <| aC (qbH qaA h3) <| aC (qbT h5) <| aC (qa0 h7) <| aC (qcH h7 (by simp) : t13 < ((r10.length : Nat) : Int)) <| aC (qcG qaA h7 : (r10.map qaA)[(0 + t13.toNat)]? = some (qaA x6)) <| aC (qc7 _ _ x4 _ : (r10.map qaA).set (0 + t13.toNat) (qbY (qaA x6) 0 [(T.bool x4.Neg), (T.sl 1 (x4.Abs.map qaC))]) = (r10.set (t13.toNat) x4).map qaA) <| aC (Nat.zero_le _ : 0 ≤ (0 + t13.toNat)) <| aC r0 <| aC (by simp : r10.length = (r10.set (t13.toNat) x4).length) <| aN) (ih _ _ h cx hn)
  · skip
    obtain ⟨x2, h3, h⟩ := qaH h
    have h := Option.some.inj h; subst h
    exact qaN (fuel := 78) [.go, rgG [oo], .br false, rgG [oo, .snap 26 (max 0 (0 + r10.length)) (r10.map qaA), opI (.call [[2]] [(tl 2 r10 qaA)] (tl 2 x2 qaA)), oo]] _ hn (by kernel_rfl) (aC h1 <| aC (qbI _ _ _ (by simp) : ((r10.map qaA).drop 0).take r10.length = r10.map qaA) <| aC (rfl : (max 0 (0 + r10.length)) = (max 0 (0 + r10.length))) <| aC (qbF h3) <| aN)
theorem qq3 : ∀ K : Nat, qt2 K
  | 0, c, r, h => by rw [qdJ] at h; cases h
  | K + 1, .c0 .., r, h => fun cx hn => unipoly_Scale_c0 (qq3 K) hn h
  | K + 1, .c1 .., r, h => fun cx hn => unipoly_Scale_c1 (qq3 K) hn h
theorem qcK {K : Nat} {f : (List qaB)} {c : qaB} {r : (List qaB)} (h : qdP K f c = some r) : qcX prog 58 [(tl 2 f qaA), (TV.agg (qaA c))] (tl 2 r qaA) :=
  qa2 [[2]] (by kernel_rfl) (by simp) fun cx hn => qq3 K (.c0 f c) r h cx hn
end Go.Am.X
namespace Go.Am.X
open Go.Proofs.Try (prog)
inductive qiN where
  | c0 (f : (List qaB)) (most : Int)
  | c1 (t11 : (List qaB)) (t12 : Int) (t13 : Int)
def qcO : Nat → qiN → Option Bool
  | 0, _ => none
  | K + 1, .c0 f most =>
    bif (decide (most < (f.length : Int))) then
      some false
    else
      qcO K (.c1 f (f.length : Int) (0 : Int))
  | K + 1, .c1 t11 t12 t13 =>
    bif (decide (t13 < t12)) then
      (gi t11 t13).bind fun x2 =>
      bif (decide ((10 : Int) < (x2.Abs.length : Int))) then
        some false
      else
        qcO K (.c1 t11 t12 (wI6 (t13 + (1 : Int))))
    else
      some true
def qjU (K : Nat) (f : (List qaB)) (most : Int) : Option Bool := qcO K (.c0 f most)
noncomputable def qk6 : Code := qbN prog 44
noncomputable def cylinderlaw12_Few_pos : qiN → List Fr
  | .c0 .. => [.code qk6]
  | .c1 .. => [.code (.loop (atC qk6 [1,1,0,1,0,0])), .blk 0, .code (atC qk6 [1,1,1])]
def cylinderlaw12_Few_st : qiN → St
  | .c0 f most => St.init [(tl 2 f qaA), (ti .i64 most)]
  | .c1 t11 t12 t13 => ⟨[(11, vl 2 t11 qaA), (12, vi .i64 t12), (13, vi .i64 t13)], [], []⟩
def qo1 (cx : Cx) (c : qiN) (r : Bool) : Prop := Wk prog cx (qcT prog 44 [[0]] (TV.c (T.bool r))) (cylinderlaw12_Few_pos c) .normal (cylinderlaw12_Few_st c)
abbrev qo2 (K : Nat) : Prop := ∀ c r, qcO K c = some r → ∀ cx : Cx, cx.n = 22 → qo1 cx c r
theorem cylinderlaw12_Few_c0 {K} (ih : qo2 K) {cx} (hn : cx.n = 22) {f most} {r} (h : qcO (K + 1) (.c0 f most) = some r) : qo1 cx (.c0 f most) r := by
  rw [qcO] at h
  rcases qaK h with ⟨h1, h⟩ | ⟨h1, h⟩
  · skip
    have h := Option.some.inj h; subst h
    exact qaN (fuel := 72) [rgG [oo], rgG [oo, opI (.ln (f.length : Int)), oo, oo], .br true, rgG [oo]] _ hn (by kernel_rfl) (aC (qaT f qaA) <| aC h1 <| aN)
  · skip
    exact qaU (fuel := 74) [rgG [oo], rgG [oo, opI (.ln (f.length : Int)), oo, oo], .br false, rgG [oo, opI (.ln (f.length : Int)), oo], .pre [.keep [11,12,13] []]] _ hn (by kernel_rfl) (aC (qaT f qaA) <| aC h1 <| aC (qaT f qaA) <| aN) (ih _ _ h cx hn)
theorem cylinderlaw12_Few_c1 {K} (ih : qo2 K) {cx} (hn : cx.n = 22) {t11 t12 t13} {r} (h : qcO (K + 1) (.c1 t11 t12 t13) = some r) : qo1 cx (.c1 t11 t12 t13) r := by
  rw [qcO] at h
  rcases qaK h with ⟨h1, h⟩ | ⟨h1, h⟩
  · skip
    obtain ⟨x2, h3, h⟩ := qaH h
    rcases qaK h with ⟨h4, h⟩ | ⟨h4, h⟩
    · skip
      have h := Option.some.inj h; subst h
      exact qaN (fuel := 108) [.go, rgG [oo], .br true, rgG [opI (.ix (qaA x2)), oo, oo, oo], rgG [oo, oo, opI (.ln (x2.Abs.length : Int)), oo], .br true, rgG [oo]] _ hn (by kernel_rfl) (aC h1 <| aC (qa0 h3) <| aC (qbH qaA h3) <| aC (qaT x2.Abs qaC) <| aC h4 <| aN)
    · skip
      exact qaU (fuel := 100) [.go, rgG [oo], .br true, rgG [opI (.ix (qaA x2)), oo, oo, oo], rgG [oo, oo, opI (.ln (x2.Abs.length : Int)), oo], .br false, rgG [oo, oo], .pre [.keep [11,12,13] []]] _ hn (by kernel_rfl) (aC h1 <| aC (qa0 h3) <| aC (qbH qaA h3) <| aC (qaT x2.Abs qaC) <| aC h4 <| aN) (ih _ _ h cx hn)
  · skip
    have h := Option.some.inj h; subst h
    exact qaN (fuel := 78) [.go, rgG [oo], .br false, rgG [oo]] _ hn (by kernel_rfl) (aC h1 <| aN)
theorem qmD : ∀ K : Nat, qo2 K
  | 0, c, r, h => by rw [qcO] at h; cases h
  | K + 1, .c0 .., r, h => fun cx hn => cylinderlaw12_Few_c0 (qmD K) hn h
  | K + 1, .c1 .., r, h => fun cx hn => cylinderlaw12_Few_c1 (qmD K) hn h
theorem qaX {K : Nat} {f : (List qaB)} {most : Int} {r : Bool} (h : qjU K f most = some r) : qcX prog 44 [(tl 2 f qaA), (ti .i64 most)] (TV.c (T.bool r)) :=
  qa2 [[0]] (by kernel_rfl) (by simp) fun cx hn => qmD K (.c0 f most) r h cx hn
end Go.Am.X
namespace Go.Am.X
theorem qtJ (f : List qaB) (hs : f.length < 4611686018427387904) : ∀ (m i : Nat), i + m = f.length →
    Ev (fun K => qcO K (.c1 f f.length i)) (decide (∀ a ∈ f.drop i, a.Abs.length ≤ 10))
  | 0, i, hi => by
    refine qaS ?_
    simp only [qcO]
    refine ev_f (by simp; omega) (qe5 (qa3 _) ?_)
    rw [List.drop_of_length_le (by omega)]; simp
  | m + 1, i, hi => by
    refine qaS ?_
    simp only [qcO]
    refine ev_t (by simp; omega) (qb6 (qc0 (by omega)) ?_)
    have hd : f.drop i = f[i]'(by omega) :: f.drop (i + 1) := List.drop_eq_getElem_cons (by omega)
    by_cases h : 10 < (f[i]'(by omega)).Abs.length
    · refine ev_t (by simp; omega) (qe5 (qa3 _) ?_)
      symm; rw [decide_eq_false_iff_not, hd]; intro h2; have := h2 _ (List.mem_cons_self ..); omega
    · refine ev_f (by simp; omega) ?_
      rw [qdN (by omega), show (i : Int) + 1 = ((i + 1 : Nat) : Int) by omega]
      refine qe5 (qtJ f hs m (i + 1) (by omega)) ?_
      rw [hd, decide_eq_decide]; simp only [List.mem_cons, forall_eq_or_imp]
      exact ⟨fun h3 => ⟨by omega, h3⟩, fun h3 => h3.2⟩
theorem qtK (f : List qaB) (n : Nat) (hn : n < 4611686018427387904) : Ev (fun K => qjU K f n) (decide (f.length ≤ n ∧ ∀ a ∈ f, a.Abs.length ≤ 10)) := by
  refine qaS ?_
  simp only [qjU, qcO]
  by_cases h : n < f.length
  · refine ev_t (by simpa using h) (qe5 (qa3 _) ?_)
    symm; rw [decide_eq_false_iff_not]; omega
  · refine ev_f (by simpa using h) (qe5 (qtJ f (by omega) _ 0 (Nat.zero_add _)) ?_)
    rw [decide_eq_decide]; simp; omega
theorem unipoly_Lead_ev {f : List qaB} (hf : Wf f) (hs : f.length < 4611686018427387904) : Ev (fun K => qsD K f) (mkI ((tz (pv f)).getLastD 0)) := by
  refine qaS ?_
  simp only [qsD, qi5]
  have hle := tz_len (pv f)
  rw [qfC] at hle
  have hlt : (f.take (tz (pv f)).length).length = (tz (pv f)).length := by rw [List.length_take]; omega
  refine qaP (qdX hf hs) ?_
  by_cases h : tz (pv f) = []
  · refine ev_t (by simp [h]) (qe5 (qa3 _) ?_)
    rw [h]; simp [mkI, qfV]
  · have hp := List.length_pos_iff.2 h
    refine ev_f (by rw [hlt]; simp [h]) ?_
    rw [hlt, qdN (by omega), show ((tz (pv f)).length : Int) - 1 = (((tz (pv f)).length - 1 : Nat) : Int) by omega]
    have hg := wf_get hf (show (tz (pv f)).length - 1 < f.length by omega)
    have hx : (f.take (tz (pv f)).length)[(tz (pv f)).length - 1]? = some (f[(tz (pv f)).length - 1]'(by omega)) := by
      rw [List.getElem?_take, if_pos (by omega), List.getElem?_eq_getElem (by omega)]
    refine qb6 (gi_get hx) (qaP (integer_Normal_ev hg.1 (by omega)) (qe5 (qa3 _) ?_))
    congr 1
    rw [← co_pv, ← co_tz, qqS (by omega), List.getLastD_eq_getLast?, List.getLast?_eq_getElem?, List.getElem?_eq_getElem (by omega)]
    rfl
theorem unipoly_Scale_v1 {f : List qaB} (hf : Wf f) {c : qaB} (hc : Dig c.Abs ∧ c.Abs.length ≤ 17179869184) (n : Nat) (hn : n ≤ f.length) (l : List Int) (hl : l = ((pv f).take n).map (ival c * ·)) (hs : f.length < 4398046511104) (hw : Wf (mkP l)) : ∀ (m i : Nat), i + m = n →
    Ev (fun K => qdJ K (.c1 c ((mkP l).take i ++ List.replicate (n - i) ⟨false, []⟩) f n i)) (mkP (tz l))
  | 0, i, hi => by
    have hll : l.length = n := by rw [hl]; simp [qfC]; omega
    refine qaS ?_
    simp only [qdJ]
    refine ev_f (by simp; omega) ?_
    rw [fill_end (by rw [qhB, hll]) (by omega)]
    exact qaP (qh5 hw (by omega)) (qa3 _)
  | m + 1, i, hi => by
    have hll : l.length = n := by rw [hl]; simp [qfC]; omega
    refine qaS ?_
    simp only [qdJ]
    refine ev_t (by simp; omega) ?_
    have hif : i < f.length := by omega
    have hg := wf_get hf hif
    have hlt : (f.take n).length = n := by rw [List.length_take]; omega
    refine qb6 (qc0 hif) (qaP (qr8 hc.1 hg.1 (by omega)) (qb6 (fill_gi (by rw [qhB, hll]) (by omega)) ?_))
    have e : l[i]? = some (ival c * ival f[i]) := by
      rw [hl, List.getElem?_map, List.getElem?_take, if_pos (by omega)]
      simp [pv, List.getElem?_eq_getElem hif]
    rw [Int.toNat_natCast, fill_set (by rw [qhB, hll]) (mkP_get e), qdN (by omega), show (i : Int) + 1 = ((i + 1 : Nat) : Int) by omega]
    exact unipoly_Scale_v1 hf hc n hn l hl hs hw m (i + 1) (by omega)
theorem map_mul_tz (c : Int) (l : List Int) : tz ((tz l).map (c * ·)) = tz (l.map (c * ·)) := by
  refine tz_ext _ _ ?_
  have key : ∀ m : List Int, co (m.map (c * ·)) = fun k => c * co m k := by
    intro m; funext k; simp only [co, List.getD_eq_getElem?_getD, List.getElem?_map]
    cases m[k]? <;> simp
  rw [key, key, co_tz]
theorem unipoly_Scale_ev {f : List qaB} (hf : Wf f) {c : qaB} (hc : Dig c.Abs ∧ c.Abs.length ≤ 17179869184) (hs : f.length < 4398046511104) (hw : Wf (mkP ((pv f).map (ival c * ·)))) :
    Ev (fun K => qdP K f c) (mkP (tz ((pv f).map (ival c * ·)))) := by
  refine qaS ?_
  simp only [qdP, qdJ]
  have hle := tz_len (pv f)
  rw [qfC] at hle
  have hlt : (f.take (tz (pv f)).length).length = (tz (pv f)).length := by rw [List.length_take]; omega
  refine qaP (qdX hf (by omega)) (qjP (by rw [hlt]; omega) ?_)
  rw [hlt, Int.toNat_natCast, ← map_mul_tz]
  have := unipoly_Scale_v1 hf hc (tz (pv f)).length hle (((pv f).take (tz (pv f)).length).map (ival c * ·)) rfl hs (fun a ha => by
    obtain ⟨x, hx, rfl⟩ := List.mem_map.1 ha
    refine hw _ (List.mem_map.2 ⟨x, ?_, rfl⟩)
    rw [List.map_take] at hx
    exact List.mem_of_mem_take hx) _ 0 (Nat.zero_add _)
  rw [← qpF] at this
  simpa using this
theorem qvJ {f g : List qaB} (hf : Wf f) (hg : Wf g) (hl : f.length = g.length) (hs : f.length < 4611686018427387904) : ∀ {n : Nat}, n ≤ f.length →
    ∃ r : Int, Ev (fun K => qcE K (.c1 f g ((n : Int) - 1))) r ∧ (r = 0 ↔ (pv f).take n = (pv g).take n)
  | 0, hn => ⟨0, by
    refine qaS ?_
    simp only [qcE]
    exact ev_f (by simp) (qa3 _), by simp⟩
  | n + 1, hn => by
    have h1 := wf_get hf (show n < f.length by omega)
    have h2 := wf_get hg (show n < g.length by omega)
    have hc := qfB (ival (f[n]'(by omega))) (ival (g[n]'(by omega)))
    obtain ⟨r, hr, hi⟩ := qvJ hf hg hl hs (n := n) (by omega)
    have htf : (pv f).take (n + 1) = (pv f).take n ++ [ival (f[n]'(by omega))] := by
      rw [List.take_add_one, List.getElem?_eq_getElem (by rw [qfC]; omega)]; simp [pv]
    have htg : (pv g).take (n + 1) = (pv g).take n ++ [ival (g[n]'(by omega))] := by
      rw [List.take_add_one, List.getElem?_eq_getElem (by rw [qfC]; omega)]; simp [pv]
    have hll : ((pv f).take n).length = ((pv g).take n).length := by simp [qfC]; omega
    by_cases he : ival (f[n]'(by omega)) = ival (g[n]'(by omega))
    · refine ⟨r, ?_, ?_⟩
      · refine qaS ?_
        simp only [qcE]
        rw [show ((n + 1 : Nat) : Int) - 1 = (n : Int) by omega]
        refine ev_t (by simp) (qb6 (qc0 (by omega)) (qb6 (qc0 (by omega)) (qaP (qk1 h1.1 h2.1 (by omega) (by omega)) (ev_f ?_ ?_))))
        · simp; omega
        · rw [qdN (by omega)]; exact hr
      · rw [hi, htf, htg, he]; simp
    · refine ⟨cmpI (ival (f[n]'(by omega))) (ival (g[n]'(by omega))), ?_, ?_⟩
      · refine qaS ?_
        simp only [qcE]
        rw [show ((n + 1 : Nat) : Int) - 1 = (n : Int) by omega]
        refine ev_t (by simp) (qb6 (qc0 (by omega)) (qb6 (qc0 (by omega)) (qaP (qk1 h1.1 h2.1 (by omega) (by omega)) (ev_t ?_ (qa3 _)))))
        simp; omega
      · rw [htf, htg]
        constructor
        · intro h; omega
        · intro h
          have := List.append_inj' h rfl
          simp at this; exact absurd this.2 he
theorem unipoly_Same_ev {f g : List qaB} (hf : Wf f) (hg : Wf g) (hs : f.length < 4611686018427387904) (ht : g.length < 4611686018427387904) : Ev (fun K => qsC K f g) (decide (tz (pv f) = tz (pv g))) := by
  refine qaS ?_
  simp only [qsC, qi3]
  have hle := tz_len (pv f)
  rw [qfC] at hle
  have hle' := tz_len (pv g)
  rw [qfC] at hle'
  have hlt : (f.take (tz (pv f)).length).length = (tz (pv f)).length := by rw [List.length_take]; omega
  have hlt' : (g.take (tz (pv g)).length).length = (tz (pv g)).length := by rw [List.length_take]; omega
  suffices h : ∃ r : Int, Ev (fun K => qi6 K f g) r ∧ (r = 0 ↔ tz (pv f) = tz (pv g)) by
    obtain ⟨r, h1, h2⟩ := h
    refine qaP h1 (qe5 (qa3 _) ?_)
    rw [decide_eq_decide]; exact h2
  by_cases h1 : (tz (pv g)).length < (tz (pv f)).length
  · refine ⟨1, ?_, by simp; intro h; rw [h] at h1; omega⟩
    refine qaS ?_
    simp only [qi6, qcE]
    refine qaP (qdX hf hs) (qaP (qdX hg ht) (ev_t ?_ (qa3 _)))
    rw [hlt, hlt']; simpa using h1
  · by_cases h2 : (tz (pv f)).length < (tz (pv g)).length
    · refine ⟨-1, ?_, by simp; intro h; rw [h] at h2; omega⟩
      refine qaS ?_
      simp only [qi6, qcE]
      refine qaP (qdX hf hs) (qaP (qdX hg ht) (ev_f ?_ (ev_t ?_ (qa3 _))))
      · rw [hlt, hlt']; simpa using h1
      · rw [hlt, hlt']; simpa using h2
    · obtain ⟨r, hr, hi⟩ := qvJ (wf_take hf (tz (pv f)).length) (wf_take hg (tz (pv g)).length) (by omega) (by omega) (Nat.le_refl _)
      refine ⟨r, ?_, ?_⟩
      · refine qaS ?_
        simp only [qi6, qcE]
        refine qaP (qdX hf hs) (qaP (qdX hg ht) (ev_f ?_ (ev_f ?_ ?_)))
        · rw [hlt, hlt']; simpa using h1
        · rw [hlt, hlt']; simpa using h2
        · rw [qdN (by omega)]
          exact hr
      · rw [hi, pv_take, pv_take, ← qpF, ← qpF, hlt, List.take_length, List.take_of_length_le (by omega)]
def maxA : List Int → Int
  | [] => 0
  | a :: l => max (a.natAbs : Int) (maxA l)
theorem maxA_nonneg (l : List Int) : 0 ≤ maxA l := by
  induction l with
  | nil => exact Int.le_refl 0
  | cons a l ih => simp only [maxA]; omega
theorem unipoly_Height_v1 {b2 : qaB} {f : List qaB} (hf : Wf f) (hs : f.length < 4611686018427387904) : ∀ (m i : Nat) (z : Int), i + m = f.length → 0 ≤ z → (mkI z).Abs.length ≤ 17179869184 →
    Ev (fun K => qbZ K (.c1 b2 (mkI z) f f.length i)) (mkI (max z (maxA ((pv f).drop i))))
  | 0, i, z, hi, hz, hzl => by
    refine qaS ?_
    simp only [qbZ]
    refine ev_f (by simp; omega) (qe5 (qa3 _) ?_)
    rw [List.drop_of_length_le (by rw [qfC]; omega)]
    congr 1; simp only [maxA]; omega
  | m + 1, i, z, hi, hz, hzl => by
    refine qaS ?_
    simp only [qbZ]
    have hif : i < f.length := by omega
    have hg := wf_get hf hif
    have hal : (mkI (ival f[i]).natAbs).Abs.length ≤ 17179869184 := by
      have h2 := qd4 hg.1
      rw [qsT _ hg.1] at h2
      have : (mkI ((ival f[i]).natAbs : Int)).Abs = digs (ival f[i]).natAbs := by rw [mkI_pos (by omega)]
      rw [this]; omega
    refine ev_t (by simp; omega) (qb6 (qc0 hif) (qaP (qnN hg.1 (by omega)) (qaP (qk1 (qjH _) (qjH _) (by omega) (by omega)) ?_)))
    rw [qd5, qd5]
    have hd : (pv f).drop i = ival f[i] :: (pv f).drop (i + 1) := by
      rw [List.drop_eq_getElem_cons (by rw [qfC]; exact hif)]; simp [pv]
    have next : ∀ y : Int, 0 ≤ y → (mkI y).Abs.length ≤ 17179869184 → y = max z (ival f[i]).natAbs → Ev (fun K => qbZ K (.c2 b2 (mkI y) f f.length i)) (mkI (max z (maxA ((pv f).drop i)))) := by
      intro y h1 h2 h3
      refine qaS ?_
      simp only [qbZ]
      rw [qdN (by omega), show (i : Int) + 1 = ((i + 1 : Nat) : Int) by omega]
      refine qe5 (unipoly_Height_v1 hf hs m (i + 1) y (by omega) h1 h2) ?_
      rw [hd, h3]; simp only [maxA]; congr 1; omega
    have hc := qfB ((ival f[i]).natAbs : Int) z
    by_cases h : z < (ival f[i]).natAbs
    · refine ev_t (by simp; omega) (next _ (by omega) hal (by omega))
    · refine ev_f (by simp; omega) (next _ hz hzl (by omega))
theorem unipoly_Height_ev {f : List qaB} (hf : Wf f) (hs : f.length < 4611686018427387904) : Ev (fun K => unipoly_Height K f) (mkI (maxA (pv f))) := by
  refine qaS ?_
  simp only [unipoly_Height, qbZ]
  have := unipoly_Height_v1 (b2 := ⟨false, []⟩) hf hs _ 0 0 (Nat.zero_add _) (Int.le_refl 0) (by simp [mkI, qfV])
  rw [show mkI 0 = ⟨false, []⟩ by simp [mkI, qfV], List.drop_zero] at this
  have hm := maxA_nonneg (pv f)
  rw [show max 0 (maxA (pv f)) = maxA (pv f) by omega] at this
  exact this
end Go.Am.X
namespace Go.Am.X
open Go.Proofs.Try (prog)
inductive qb1 where
  | c0 (a : (List qaB)) (b : (List qaB))
  | c1 (zero : qaB) (r17 : (List qaB)) (a : (List qaB)) (b : (List qaB)) (t19 : Int) (t20 : Int)
  | c2 (zero : qaB) (r17 : (List qaB)) (a : (List qaB)) (b : (List qaB)) (t19 : Int) (t20 : Int)
def qaI : Nat → qb1 → Option (List qaB)
  | 0, _ => none
  | K + 1, .c0 a b =>
    gd (0 ≤ (max (a.length : Int) (b.length : Int)) ∧ (max (a.length : Int) (b.length : Int)) ≤ (max (a.length : Int) (b.length : Int)) ∧ (32 : Int) * (max (a.length : Int) (b.length : Int)) ≤ 140737488355328) <|
    qaI K (.c1 (qaB.mk false []) (List.replicate (max (a.length : Int) (b.length : Int)).toNat ((qaB.mk false []) : qaB)) a b (((max (a.length : Int) (b.length : Int)).toNat : Nat) : Int) (0 : Int))
  | K + 1, .c1 zero r17 a b t19 t20 =>
    bif (decide (t20 < t19)) then
      bif (decide (t20 < (a.length : Int))) then
        (gi a t20).bind fun x3 =>
        bif (decide (t20 < (b.length : Int))) then
          (gi b t20).bind fun x6 =>
          (qf7 K x3 x6).bind fun x8 =>
          (gi r17 t20).bind fun _ =>
          qaI K (.c2 zero (r17.set (t20.toNat) x8) a b t19 t20)
        else
          (qf7 K x3 zero).bind fun x6 =>
          (gi r17 t20).bind fun _ =>
          qaI K (.c2 zero (r17.set (t20.toNat) x6) a b t19 t20)
      else
        bif (decide (t20 < (b.length : Int))) then
          (gi b t20).bind fun x4 =>
          (qf7 K zero x4).bind fun x6 =>
          (gi r17 t20).bind fun _ =>
          qaI K (.c2 zero (r17.set (t20.toNat) x6) a b t19 t20)
        else
          (qf7 K zero zero).bind fun x4 =>
          (gi r17 t20).bind fun _ =>
          qaI K (.c2 zero (r17.set (t20.toNat) x4) a b t19 t20)
    else
      some r17
  | K + 1, .c2 zero r17 a b t19 t20 =>
    qaI K (.c1 zero r17 a b t19 (wI6 (t20 + (1 : Int))))
def qcC (K : Nat) (a : (List qaB)) (b : (List qaB)) : Option (List qaB) := qaI K (.c0 a b)
noncomputable def qa7 : Code := qbN prog 145
noncomputable def qgA : qb1 → List Fr
  | .c0 .. => [.code qa7]
  | .c1 .. => [.code (.loop (atC qa7 [1,1,1,0,1,0,0])), .blk 0, .code (atC qa7 [1,1,1,1])]
  | .c2 .. => [.code (atC qa7 [1,1,1,0,1,0,0,1,1,1]), .lp (atC qa7 [1,1,1,0,1,0,0]), .blk 0, .code (atC qa7 [1,1,1,1])]
def qgI : qb1 → St
  | .c0 a b => St.init [(tl 2 a qaA), (tl 2 b qaA), (TV.c (T.fn 143))]
  | .c1 zero r17 a b t19 t20 => ⟨[(0, vl 2 a qaA), (1, vl 2 b qaA), (2, .c (C.t (T.fn 143))), (7, .c (C.row 17 0 r17.length)), (8, .c (C.ptr 8 0)), (19, vi .i64 t19), (20, vi .i64 t20)], [(8, .var ((qaA zero).map C.t)), (17, .row 45 2 (r17.map qaA) 0)], []⟩
  | .c2 zero r17 a b t19 t20 => ⟨[(0, vl 2 a qaA), (1, vl 2 b qaA), (2, .c (C.t (T.fn 143))), (7, .c (C.row 17 0 r17.length)), (8, .c (C.ptr 8 0)), (19, vi .i64 t19), (20, vi .i64 t20)], [(8, .var ((qaA zero).map C.t)), (17, .row 45 2 (r17.map qaA) 0)], []⟩
def qb8 (cx : Cx) (c : qb1) (r : (List qaB)) : Prop := Wk prog cx (qcT prog 145 [[2]] (tl 2 r qaA)) (qgA c) .normal (qgI c)
abbrev qb9 (K : Nat) : Prop := ∀ c r, qaI K c = some r → ∀ cx : Cx, cx.n = 50 → qb8 cx c r
theorem qgL {K} (ih : qb9 K) {cx} (hn : cx.n = 50) {a b} {r} (h : qaI (K + 1) (.c0 a b) = some r) : qb8 cx (.c0 a b) r := by
  rw [qaI] at h
  obtain ⟨h1, h⟩ := qbE h
  exact qaU (fuel := 72) [rgG [oo], rgG [oo, opI (.ln (a.length : Int)), oo, opI (.ln (b.length : Int)), oo, opI (.mk (qaA (qaB.mk false [])) ((List.replicate (max (a.length : Int) (b.length : Int)).toNat ((qaB.mk false []) : qaB)).map qaA)), oo], rgG [oo], rgG [oo, oo, oo], .pre [.tellB 8 [0,1], .rl 7 0 (List.replicate (max (a.length : Int) (b.length : Int)).toNat ((qaB.mk false []) : qaB)).length, .keep [0,1,2,7,8,19,20] [8,17]]] _ hn (by kernel_rfl) (aC (qaT a qaA) <| aC (qaT b qaA) <| aC h1.1 <| aC h1.2.1 <| aC h1.2.2 <| aC (qf1 _ _ _ : List.replicate (max (a.length : Int) (b.length : Int)).toNat (qaA (qaB.mk false [])) = (List.replicate (max (a.length : Int) (b.length : Int)).toNat ((qaB.mk false []) : qaB)).map qaA) <| aC r0 <| aC (by simp : (max (a.length : Int) (b.length : Int)).toNat = (List.replicate (max (a.length : Int) (b.length : Int)).toNat ((qaB.mk false []) : qaB)).length) <| aN) (ih _ _ h cx hn)
theorem qgK {K} (ih : qb9 K) {cx} (hn : cx.n = 50) {zero r17 a b t19 t20} {r} (h : qaI (K + 1) (.c1 zero r17 a b t19 t20) = some r) : qb8 cx (.c1 zero r17 a b t19 t20) r := by
  rw [qaI] at h
  rcases qaK h with ⟨h1, h⟩ | ⟨h1, h⟩
  · skip
    rcases qaK h with ⟨h2, h⟩ | ⟨h2, h⟩
    · skip
      obtain ⟨x3, h4, h⟩ := qaH h
      rcases qaK h with ⟨h5, h⟩ | ⟨h5, h⟩
      · skip
        obtain ⟨x6, h7, h⟩ := qaH h
        obtain ⟨x8, h9, h⟩ := qaH h
        obtain ⟨x10, h11, h⟩ := qaH h
        exact qaU (fuel := 134) [.go, rgG [oo], .br true, rgG [oo, oo], .draw [.p, .p, .p, .p, .p] [.op .p], rgG [oo, oo, opI (.ln (a.length : Int)), oo], .br true, rgG [oo, oo, opI (.ix (qaA x3)), oo, oo], rgG [oo, oo, opI (.ln (b.length : Int)), oo], .br true, rgG [oo, oo, opI (.ix (qaA x6)), oo, oo], rgG [oo, oo, oo, oo, oo, opI (.call [[0,1], [0,1]] [(TV.agg (qaA x3)), (TV.agg (qaA x6))] (TV.agg (qaA x8))), .op .ir, opI (.st (qaA x10) ((r17.set (t20.toNat) x8).map qaA))], .pre [.rl 7 0 (r17.set (t20.toNat) x8).length, .keep [0,1,2,7,8,19,20] [8,17]]] _ hn (by kernel_rfl) (aC h1 <| aC (qaT a qaA) <| aC h2 <| aC (qa0 h4) <| aC (qbH qaA h4) <| aC (qaT b qaA) <| aC h5 <| aC (qa0 h7) <| aC (qbH qaA h7) <| aC (qe1 h9) <| aC (qa0 h11) <| aC (qcH h11 (by simp) : t20 < ((r17.length : Nat) : Int)) <| aC (qcG qaA h11 : (r17.map qaA)[(0 + t20.toNat)]? = some (qaA x10)) <| aC (qc7 _ _ x8 _ : (r17.map qaA).set (0 + t20.toNat) (qbY (qaA x10) 0 [(T.bool x8.Neg), (T.sl 1 (x8.Abs.map qaC))]) = (r17.set (t20.toNat) x8).map qaA) <| aC (Nat.zero_le _ : 0 ≤ (0 + t20.toNat)) <| aC r0 <| aC (by simp : r17.length = (r17.set (t20.toNat) x8).length) <| aN) (ih _ _ h cx hn)
      · skip
        obtain ⟨x6, h7, h⟩ := qaH h
        obtain ⟨x8, h9, h⟩ := qaH h
        exact qaU (fuel := 130) [.go, rgG [oo], .br true, rgG [oo, oo], .draw [.p, .p, .p, .p, .p] [.op .p], rgG [oo, oo, opI (.ln (a.length : Int)), oo], .br true, rgG [oo, oo, opI (.ix (qaA x3)), oo, oo], rgG [oo, oo, opI (.ln (b.length : Int)), oo], .br false, rgG [oo, oo, oo, oo, oo, opI (.call [[0,1], [0,1]] [(TV.agg (qaA x3)), (TV.agg (qaA zero))] (TV.agg (qaA x6))), .op .ir, opI (.st (qaA x8) ((r17.set (t20.toNat) x6).map qaA))], .pre [.rl 7 0 (r17.set (t20.toNat) x6).length, .keep [0,1,2,7,8,19,20] [8,17]]] _ hn (by kernel_rfl) (aC h1 <| aC (qaT a qaA) <| aC h2 <| aC (qa0 h4) <| aC (qbH qaA h4) <| aC (qaT b qaA) <| aC h5 <| aC (qe1 h7) <| aC (qa0 h9) <| aC (qcH h9 (by simp) : t20 < ((r17.length : Nat) : Int)) <| aC (qcG qaA h9 : (r17.map qaA)[(0 + t20.toNat)]? = some (qaA x8)) <| aC (qc7 _ _ x6 _ : (r17.map qaA).set (0 + t20.toNat) (qbY (qaA x8) 0 [(T.bool x6.Neg), (T.sl 1 (x6.Abs.map qaC))]) = (r17.set (t20.toNat) x6).map qaA) <| aC (Nat.zero_le _ : 0 ≤ (0 + t20.toNat)) <| aC r0 <| aC (by simp : r17.length = (r17.set (t20.toNat) x6).length) <| aN) (ih _ _ h cx hn)
    · skip
      rcases qaK h with ⟨h3, h⟩ | ⟨h3, h⟩
      · skip
        obtain ⟨x4, h5, h⟩ := qaH h
        obtain ⟨x6, h7, h⟩ := qaH h
        obtain ⟨x8, h9, h⟩ := qaH h
        exact qaU (fuel := 130) [.go, rgG [oo], .br true, rgG [oo, oo], .draw [.p, .p, .p, .p, .p] [.op .p], rgG [oo, oo, opI (.ln (a.length : Int)), oo], .br false, rgG [oo, oo, opI (.ln (b.length : Int)), oo], .br true, rgG [oo, oo, opI (.ix (qaA x4)), oo, oo], rgG [oo, oo, oo, oo, oo, opI (.call [[0,1], [0,1]] [(TV.agg (qaA zero)), (TV.agg (qaA x4))] (TV.agg (qaA x6))), .op .ir, opI (.st (qaA x8) ((r17.set (t20.toNat) x6).map qaA))], .pre [.rl 7 0 (r17.set (t20.toNat) x6).length, .keep [0,1,2,7,8,19,20] [8,17]]] _ hn (by kernel_rfl) (aC h1 <| aC (qaT a qaA) <| aC h2 <| aC (qaT b qaA) <| aC h3 <| aC (qa0 h5) <| aC (qbH qaA h5) <| aC (qe1 h7) <| aC (qa0 h9) <| aC (qcH h9 (by simp) : t20 < ((r17.length : Nat) : Int)) <| aC (qcG qaA h9 : (r17.map qaA)[(0 + t20.toNat)]? = some (qaA x8)) <| aC (qc7 _ _ x6 _ : (r17.map qaA).set (0 + t20.toNat) (qbY (qaA x8) 0 [(T.bool x6.Neg), (T.sl 1 (x6.Abs.map qaC))]) = (r17.set (t20.toNat) x6).map qaA) <| aC (Nat.zero_le _ : 0 ≤ (0 + t20.toNat)) <| aC r0 <| aC (by simp : r17.length = (r17.set (t20.toNat) x6).length) <| aN) (ih _ _ h cx hn)
      · skip
        obtain ⟨x4, h5, h⟩ := qaH h
        obtain ⟨x6, h7, h⟩ := qaH h
        exact qaU (fuel := 126) [.go, rgG [oo], .br true, rgG [oo, oo], .draw [.p, .p, .p, .p, .p] [.op .p], rgG [oo, oo, opI (.ln (a.length : Int)), oo], .br false, rgG [oo, oo, opI (.ln (b.length : Int)), oo], .br false, rgG [oo, oo, oo, oo, oo, opI (.call [[0,1], [0,1]] [(TV.agg (qaA zero)), (TV.agg (qaA zero))] (TV.agg (qaA x4))), .op .ir, opI (.st (qaA x6) ((r17.set (t20.toNat) x4).map qaA))], .pre [.rl 7 0 (r17.set (t20.toNat) x4).length, .keep [0,1,2,7,8,19,20] [8,17]]] _ hn (by kernel_rfl) (aC h1 <| aC (qaT a qaA) <| aC h2 <| aC (qaT b qaA) <| aC h3 <| aC (qe1 h5) <| aC (qa0 h7) <| aC (qcH h7 (by simp) : t20 < ((r17.length : Nat) : Int)) <| aC (qcG qaA h7 : (r17.map qaA)[(0 + t20.toNat)]? = some (qaA x6)) <| aC (qc7 _ _ x4 _ : (r17.map qaA).set (0 + t20.toNat) (qbY (qaA x6) 0 [(T.bool x4.Neg), (T.sl 1 (x4.Abs.map qaC))]) = (r17.set (t20.toNat) x4).map qaA) <| aC (Nat.zero_le _ : 0 ≤ (0 + t20.toNat)) <| aC r0 <| aC (by simp : r17.length = (r17.set (t20.toNat) x4).length) <| aN) (ih _ _ h cx hn)
  · skip
    have h := Option.some.inj h; subst h
    exact qaN (fuel := 78) [.go, rgG [oo], .br false, rgG [oo, oo, .snap 6 (max 0 (0 + r17.length)) (r17.map qaA)]] _ hn (by kernel_rfl) (aC h1 <| aC (qbI _ _ _ (by simp) : ((r17.map qaA).drop 0).take r17.length = r17.map qaA) <| aC (rfl : (max 0 (0 + r17.length)) = (max 0 (0 + r17.length))) <| aN)
theorem qgJ {K} (ih : qb9 K) {cx} (hn : cx.n = 50) {zero r17 a b t19 t20} {r} (h : qaI (K + 1) (.c2 zero r17 a b t19 t20) = some r) : qb8 cx (.c2 zero r17 a b t19 t20) r := by
  rw [qaI] at h
  exact qaU (fuel := 44) [rgG [oo, oo], .pre [.rl 7 0 r17.length, .keep [0,1,2,7,8,19,20] [8,17]]] _ hn (by kernel_rfl) (aC r0 <| aC (lq r17) <| aN) (ih _ _ h cx hn)
theorem qb0 : ∀ K : Nat, qb9 K
  | 0, c, r, h => by rw [qaI] at h; cases h
  | K + 1, .c0 .., r, h => fun cx hn => qgL (qb0 K) hn h
  | K + 1, .c1 .., r, h => fun cx hn => qgK (qb0 K) hn h
  | K + 1, .c2 .., r, h => fun cx hn => qgJ (qb0 K) hn h
theorem qf3 {K : Nat} {a : (List qaB)} {b : (List qaB)} {r : (List qaB)} (h : qcC K a b = some r) : qcX prog 145 [(tl 2 a qaA), (tl 2 b qaA), (TV.c (T.fn 143))] (tl 2 r qaA) :=
  qa2 [[2]] (by kernel_rfl) (by simp) fun cx hn => qb0 K (.c0 a b) r h cx hn
end Go.Am.X
namespace Go.Am.X
open Go.Proofs.Try (prog)
inductive qo7 where
  | c0 (f : (List qaB)) (g : (List qaB))
def qkT : Nat → qo7 → Option (List qaB)
  | 0, _ => none
  | K + 1, .c0 f g =>
    (qcC K f g).bind fun x1 =>
    (qdU K x1).bind fun x3 =>
    some x3
def qg3 (K : Nat) (f : (List qaB)) (g : (List qaB)) : Option (List qaB) := qkT K (.c0 f g)
noncomputable def unipoly_Sub_body : Code := qbN prog 100
noncomputable def unipoly_Sub_pos : qo7 → List Fr
  | .c0 .. => [.code unipoly_Sub_body]
def unipoly_Sub_st : qo7 → St
  | .c0 f g => St.init [(tl 2 f qaA), (tl 2 g qaA)]
def unipoly_Sub_S (cx : Cx) (c : qo7) (r : (List qaB)) : Prop := Wk prog cx (qcT prog 100 [[2]] (tl 2 r qaA)) (unipoly_Sub_pos c) .normal (unipoly_Sub_st c)
abbrev unipoly_Sub_H (K : Nat) : Prop := ∀ c r, qkT K c = some r → ∀ cx : Cx, cx.n = 9 → unipoly_Sub_S cx c r
theorem unipoly_Sub_c0 {K} (_ : unipoly_Sub_H K) {cx} (hn : cx.n = 9) {f g} {r} (h : qkT (K + 1) (.c0 f g) = some r) : unipoly_Sub_S cx (.c0 f g) r := by
  rw [qkT] at h
  obtain ⟨x1, h2, h⟩ := qaH h
  obtain ⟨x3, h4, h⟩ := qaH h
  have h := Option.some.inj h; subst h
  exact qaN (fuel := 54) [rgG [oo], rgG [oo, oo, opI (.call [[2], [2], [0]] [(tl 2 f qaA), (tl 2 g qaA), (TV.c (T.fn 143))] (tl 2 x1 qaA)), opI (.call [[2]] [(tl 2 x1 qaA)] (tl 2 x3 qaA)), oo]] _ hn (by kernel_rfl) (aC (qf3 h2) <| aC (qbF h4) <| aN)
theorem unipoly_Sub_all : ∀ K : Nat, unipoly_Sub_H K
  | 0, c, r, h => by rw [qkT] at h; cases h
  | K + 1, .c0 .., r, h => fun cx hn => unipoly_Sub_c0 (unipoly_Sub_all K) hn h
theorem qeX {K : Nat} {f : (List qaB)} {g : (List qaB)} {r : (List qaB)} (h : qg3 K f g = some r) : qcX prog 100 [(tl 2 f qaA), (tl 2 g qaA)] (tl 2 r qaA) :=
  qa2 [[2]] (by kernel_rfl) (by simp) fun cx hn => unipoly_Sub_all K (.c0 f g) r h cx hn
end Go.Am.X
namespace Go.Am.X
open Go.Proofs.Try (prog)
inductive qb3 where
  | c0 (a : (List qaB)) (b : (List qaB))
  | c1 (zero : qaB) (r17 : (List qaB)) (a : (List qaB)) (b : (List qaB)) (t19 : Int) (t20 : Int)
  | c2 (zero : qaB) (r17 : (List qaB)) (a : (List qaB)) (b : (List qaB)) (t19 : Int) (t20 : Int)
def qaJ : Nat → qb3 → Option (List qaB)
  | 0, _ => none
  | K + 1, .c0 a b =>
    gd (0 ≤ (max (a.length : Int) (b.length : Int)) ∧ (max (a.length : Int) (b.length : Int)) ≤ (max (a.length : Int) (b.length : Int)) ∧ (32 : Int) * (max (a.length : Int) (b.length : Int)) ≤ 140737488355328) <|
    qaJ K (.c1 (qaB.mk false []) (List.replicate (max (a.length : Int) (b.length : Int)).toNat ((qaB.mk false []) : qaB)) a b (((max (a.length : Int) (b.length : Int)).toNat : Nat) : Int) (0 : Int))
  | K + 1, .c1 zero r17 a b t19 t20 =>
    bif (decide (t20 < t19)) then
      bif (decide (t20 < (a.length : Int))) then
        (gi a t20).bind fun x3 =>
        bif (decide (t20 < (b.length : Int))) then
          (gi b t20).bind fun x6 =>
          (qg6 K x3 x6).bind fun x8 =>
          (gi r17 t20).bind fun _ =>
          qaJ K (.c2 zero (r17.set (t20.toNat) x8) a b t19 t20)
        else
          (qg6 K x3 zero).bind fun x6 =>
          (gi r17 t20).bind fun _ =>
          qaJ K (.c2 zero (r17.set (t20.toNat) x6) a b t19 t20)
      else
        bif (decide (t20 < (b.length : Int))) then
          (gi b t20).bind fun x4 =>
          (qg6 K zero x4).bind fun x6 =>
          (gi r17 t20).bind fun _ =>
          qaJ K (.c2 zero (r17.set (t20.toNat) x6) a b t19 t20)
        else
          (qg6 K zero zero).bind fun x4 =>
          (gi r17 t20).bind fun _ =>
          qaJ K (.c2 zero (r17.set (t20.toNat) x4) a b t19 t20)
    else
      some r17
  | K + 1, .c2 zero r17 a b t19 t20 =>
    qaJ K (.c1 zero r17 a b t19 (wI6 (t20 + (1 : Int))))
def qcD (K : Nat) (a : (List qaB)) (b : (List qaB)) : Option (List qaB) := qaJ K (.c0 a b)
noncomputable def qa8 : Code := qbN prog 145
noncomputable def qgB : qb3 → List Fr
  | .c0 .. => [.code qa8]
  | .c1 .. => [.code (.loop (atC qa8 [1,1,1,0,1,0,0])), .blk 0, .code (atC qa8 [1,1,1,1])]
  | .c2 .. => [.code (atC qa8 [1,1,1,0,1,0,0,1,1,1]), .lp (atC qa8 [1,1,1,0,1,0,0]), .blk 0, .code (atC qa8 [1,1,1,1])]
def qgM : qb3 → St
  | .c0 a b => St.init [(tl 2 a qaA), (tl 2 b qaA), (TV.c (T.fn 54))]
  | .c1 zero r17 a b t19 t20 => ⟨[(0, vl 2 a qaA), (1, vl 2 b qaA), (2, .c (C.t (T.fn 54))), (7, .c (C.row 17 0 r17.length)), (8, .c (C.ptr 8 0)), (19, vi .i64 t19), (20, vi .i64 t20)], [(8, .var ((qaA zero).map C.t)), (17, .row 45 2 (r17.map qaA) 0)], []⟩
  | .c2 zero r17 a b t19 t20 => ⟨[(0, vl 2 a qaA), (1, vl 2 b qaA), (2, .c (C.t (T.fn 54))), (7, .c (C.row 17 0 r17.length)), (8, .c (C.ptr 8 0)), (19, vi .i64 t19), (20, vi .i64 t20)], [(8, .var ((qaA zero).map C.t)), (17, .row 45 2 (r17.map qaA) 0)], []⟩
def qcA (cx : Cx) (c : qb3) (r : (List qaB)) : Prop := Wk prog cx (qcT prog 145 [[2]] (tl 2 r qaA)) (qgB c) .normal (qgM c)
abbrev qcB (K : Nat) : Prop := ∀ c r, qaJ K c = some r → ∀ cx : Cx, cx.n = 50 → qcA cx c r
theorem qgP {K} (ih : qcB K) {cx} (hn : cx.n = 50) {a b} {r} (h : qaJ (K + 1) (.c0 a b) = some r) : qcA cx (.c0 a b) r := by
  rw [qaJ] at h
  obtain ⟨h1, h⟩ := qbE h
  exact qaU (fuel := 72) [rgG [oo], rgG [oo, opI (.ln (a.length : Int)), oo, opI (.ln (b.length : Int)), oo, opI (.mk (qaA (qaB.mk false [])) ((List.replicate (max (a.length : Int) (b.length : Int)).toNat ((qaB.mk false []) : qaB)).map qaA)), oo], rgG [oo], rgG [oo, oo, oo], .pre [.tellB 8 [0,1], .rl 7 0 (List.replicate (max (a.length : Int) (b.length : Int)).toNat ((qaB.mk false []) : qaB)).length, .keep [0,1,2,7,8,19,20] [8,17]]] _ hn (by kernel_rfl) (aC (qaT a qaA) <| aC (qaT b qaA) <| aC h1.1 <| aC h1.2.1 <| aC h1.2.2 <| aC (qf1 _ _ _ : List.replicate (max (a.length : Int) (b.length : Int)).toNat (qaA (qaB.mk false [])) = (List.replicate (max (a.length : Int) (b.length : Int)).toNat ((qaB.mk false []) : qaB)).map qaA) <| aC r0 <| aC (by simp : (max (a.length : Int) (b.length : Int)).toNat = (List.replicate (max (a.length : Int) (b.length : Int)).toNat ((qaB.mk false []) : qaB)).length) <| aN) (ih _ _ h cx hn)
theorem qgO {K} (ih : qcB K) {cx} (hn : cx.n = 50) {zero r17 a b t19 t20} {r} (h : qaJ (K + 1) (.c1 zero r17 a b t19 t20) = some r) : qcA cx (.c1 zero r17 a b t19 t20) r := by
  rw [qaJ] at h
  rcases qaK h with ⟨h1, h⟩ | ⟨h1, h⟩
  · skip
    rcases qaK h with ⟨h2, h⟩ | ⟨h2, h⟩
    · skip
      obtain ⟨x3, h4, h⟩ := qaH h
      rcases qaK h with ⟨h5, h⟩ | ⟨h5, h⟩
      · skip
        obtain ⟨x6, h7, h⟩ := qaH h
        obtain ⟨x8, h9, h⟩ := qaH h
        obtain ⟨x10, h11, h⟩ := qaH h
        exact qaU (fuel := 134) [.go, rgG [oo], .br true, rgG [oo, oo], .draw [.p, .p, .p, .p, .p] [.op .p], rgG [oo, oo, opI (.ln (a.length : Int)), oo], .br true, rgG [oo, oo, opI (.ix (qaA x3)), oo, oo], rgG [oo, oo, opI (.ln (b.length : Int)), oo], .br true, rgG [oo, oo, opI (.ix (qaA x6)), oo, oo], rgG [oo, oo, oo, oo, oo, opI (.call [[0,1], [0,1]] [(TV.agg (qaA x3)), (TV.agg (qaA x6))] (TV.agg (qaA x8))), .op .ir, opI (.st (qaA x10) ((r17.set (t20.toNat) x8).map qaA))], .pre [.rl 7 0 (r17.set (t20.toNat) x8).length, .keep [0,1,2,7,8,19,20] [8,17]]] _ hn (by kernel_rfl) (aC h1 <| aC (qaT a qaA) <| aC h2 <| aC (qa0 h4) <| aC (qbH qaA h4) <| aC (qaT b qaA) <| aC h5 <| aC (qa0 h7) <| aC (qbH qaA h7) <| aC (qeH h9) <| aC (qa0 h11) <| aC (qcH h11 (by simp) : t20 < ((r17.length : Nat) : Int)) <| aC (qcG qaA h11 : (r17.map qaA)[(0 + t20.toNat)]? = some (qaA x10)) <| aC (qc7 _ _ x8 _ : (r17.map qaA).set (0 + t20.toNat) (qbY (qaA x10) 0 [(T.bool x8.Neg), (T.sl 1 (x8.Abs.map qaC))]) = (r17.set (t20.toNat) x8).map qaA) <| aC (Nat.zero_le _ : 0 ≤ (0 + t20.toNat)) <| aC r0 <| aC (by simp : r17.length = (r17.set (t20.toNat) x8).length) <| aN) (ih _ _ h cx hn)
      · skip
        obtain ⟨x6, h7, h⟩ := qaH h
        obtain ⟨x8, h9, h⟩ := qaH h
        exact qaU (fuel := 130) [.go, rgG [oo], .br true, rgG [oo, oo], .draw [.p, .p, .p, .p, .p] [.op .p], rgG [oo, oo, opI (.ln (a.length : Int)), oo], .br true, rgG [oo, oo, opI (.ix (qaA x3)), oo, oo], rgG [oo, oo, opI (.ln (b.length : Int)), oo], .br false, rgG [oo, oo, oo, oo, oo, opI (.call [[0,1], [0,1]] [(TV.agg (qaA x3)), (TV.agg (qaA zero))] (TV.agg (qaA x6))), .op .ir, opI (.st (qaA x8) ((r17.set (t20.toNat) x6).map qaA))], .pre [.rl 7 0 (r17.set (t20.toNat) x6).length, .keep [0,1,2,7,8,19,20] [8,17]]] _ hn (by kernel_rfl) (aC h1 <| aC (qaT a qaA) <| aC h2 <| aC (qa0 h4) <| aC (qbH qaA h4) <| aC (qaT b qaA) <| aC h5 <| aC (qeH h7) <| aC (qa0 h9) <| aC (qcH h9 (by simp) : t20 < ((r17.length : Nat) : Int)) <| aC (qcG qaA h9 : (r17.map qaA)[(0 + t20.toNat)]? = some (qaA x8)) <| aC (qc7 _ _ x6 _ : (r17.map qaA).set (0 + t20.toNat) (qbY (qaA x8) 0 [(T.bool x6.Neg), (T.sl 1 (x6.Abs.map qaC))]) = (r17.set (t20.toNat) x6).map qaA) <| aC (Nat.zero_le _ : 0 ≤ (0 + t20.toNat)) <| aC r0 <| aC (by simp : r17.length = (r17.set (t20.toNat) x6).length) <| aN) (ih _ _ h cx hn)
    · skip
      rcases qaK h with ⟨h3, h⟩ | ⟨h3, h⟩
      · skip
        obtain ⟨x4, h5, h⟩ := qaH h
        obtain ⟨x6, h7, h⟩ := qaH h
        obtain ⟨x8, h9, h⟩ := qaH h
        exact qaU (fuel := 130) [.go, rgG [oo], .br true, rgG [oo, oo], .draw [.p, .p, .p, .p, .p] [.op .p], rgG [oo, oo, opI (.ln (a.length : Int)), oo], .br false, rgG [oo, oo, opI (.ln (b.length : Int)), oo], .br true, rgG [oo, oo, opI (.ix (qaA x4)), oo, oo], rgG [oo, oo, oo, oo, oo, opI (.call [[0,1], [0,1]] [(TV.agg (qaA zero)), (TV.agg (qaA x4))] (TV.agg (qaA x6))), .op .ir, opI (.st (qaA x8) ((r17.set (t20.toNat) x6).map qaA))], .pre [.rl 7 0 (r17.set (t20.toNat) x6).length, .keep [0,1,2,7,8,19,20] [8,17]]] _ hn (by kernel_rfl) (aC h1 <| aC (qaT a qaA) <| aC h2 <| aC (qaT b qaA) <| aC h3 <| aC (qa0 h5) <| aC (qbH qaA h5) <| aC (qeH h7) <| aC (qa0 h9) <| aC (qcH h9 (by simp) : t20 < ((r17.length : Nat) : Int)) <| aC (qcG qaA h9 : (r17.map qaA)[(0 + t20.toNat)]? = some (qaA x8)) <| aC (qc7 _ _ x6 _ : (r17.map qaA).set (0 + t20.toNat) (qbY (qaA x8) 0 [(T.bool x6.Neg), (T.sl 1 (x6.Abs.map qaC))]) = (r17.set (t20.toNat) x6).map qaA) <| aC (Nat.zero_le _ : 0 ≤ (0 + t20.toNat)) <| aC r0 <| aC (by simp : r17.length = (r17.set (t20.toNat) x6).length) <| aN) (ih _ _ h cx hn)
      · skip
        obtain ⟨x4, h5, h⟩ := qaH h
        obtain ⟨x6, h7, h⟩ := qaH h
        exact qaU (fuel := 126) [.go, rgG [oo], .br true, rgG [oo, oo], .draw [.p, .p, .p, .p, .p] [.op .p], rgG [oo, oo, opI (.ln (a.length : Int)), oo], .br false, rgG [oo, oo, opI (.ln (b.length : Int)), oo], .br false, rgG [oo, oo, oo, oo, oo, opI (.call [[0,1], [0,1]] [(TV.agg (qaA zero)), (TV.agg (qaA zero))] (TV.agg (qaA x4))), .op .ir, opI (.st (qaA x6) ((r17.set (t20.toNat) x4).map qaA))], .pre [.rl 7 0 (r17.set (t20.toNat) x4).length, .keep [0,1,2,7,8,19,20] [8,17]]] _ hn (by kernel_rfl) (aC h1 <| aC (qaT a qaA) <| aC h2 <| aC (qaT b qaA) <| aC h3 <| aC (qeH h5) <| aC (qa0 h7) <| aC (qcH h7 (by simp) : t20 < ((r17.length : Nat) : Int)) <| aC (qcG qaA h7 : (r17.map qaA)[(0 + t20.toNat)]? = some (qaA x6)) <| aC (qc7 _ _ x4 _ : (r17.map qaA).set (0 + t20.toNat) (qbY (qaA x6) 0 [(T.bool x4.Neg), (T.sl 1 (x4.Abs.map qaC))]) = (r17.set (t20.toNat) x4).map qaA) <| aC (Nat.zero_le _ : 0 ≤ (0 + t20.toNat)) <| aC r0 <| aC (by simp : r17.length = (r17.set (t20.toNat) x4).length) <| aN) (ih _ _ h cx hn)
  · skip
    have h := Option.some.inj h; subst h
    exact qaN (fuel := 78) [.go, rgG [oo], .br false, rgG [oo, oo, .snap 6 (max 0 (0 + r17.length)) (r17.map qaA)]] _ hn (by kernel_rfl) (aC h1 <| aC (qbI _ _ _ (by simp) : ((r17.map qaA).drop 0).take r17.length = r17.map qaA) <| aC (rfl : (max 0 (0 + r17.length)) = (max 0 (0 + r17.length))) <| aN)
theorem qgN {K} (ih : qcB K) {cx} (hn : cx.n = 50) {zero r17 a b t19 t20} {r} (h : qaJ (K + 1) (.c2 zero r17 a b t19 t20) = some r) : qcA cx (.c2 zero r17 a b t19 t20) r := by
  rw [qaJ] at h
  exact qaU (fuel := 44) [rgG [oo, oo], .pre [.rl 7 0 r17.length, .keep [0,1,2,7,8,19,20] [8,17]]] _ hn (by kernel_rfl) (aC r0 <| aC (lq r17) <| aN) (ih _ _ h cx hn)
theorem qb2 : ∀ K : Nat, qcB K
  | 0, c, r, h => by rw [qaJ] at h; cases h
  | K + 1, .c0 .., r, h => fun cx hn => qgP (qb2 K) hn h
  | K + 1, .c1 .., r, h => fun cx hn => qgO (qb2 K) hn h
  | K + 1, .c2 .., r, h => fun cx hn => qgN (qb2 K) hn h
theorem qf4 {K : Nat} {a : (List qaB)} {b : (List qaB)} {r : (List qaB)} (h : qcD K a b = some r) : qcX prog 145 [(tl 2 a qaA), (tl 2 b qaA), (TV.c (T.fn 54))] (tl 2 r qaA) :=
  qa2 [[2]] (by kernel_rfl) (by simp) fun cx hn => qb2 K (.c0 a b) r h cx hn
end Go.Am.X
namespace Go.Am.X
open Go.Proofs.Try (prog)
inductive qpE where
  | c0 (f : (List qaB)) (g : (List qaB))
def qkU : Nat → qpE → Option (List qaB)
  | 0, _ => none
  | K + 1, .c0 f g =>
    (qcD K f g).bind fun x1 =>
    (qdU K x1).bind fun x3 =>
    some x3
def qfJ (K : Nat) (f : (List qaB)) (g : (List qaB)) : Option (List qaB) := qkU K (.c0 f g)
noncomputable def unipoly_Add_body : Code := qbN prog 120
noncomputable def unipoly_Add_pos : qpE → List Fr
  | .c0 .. => [.code unipoly_Add_body]
def unipoly_Add_st : qpE → St
  | .c0 f g => St.init [(tl 2 f qaA), (tl 2 g qaA)]
def unipoly_Add_S (cx : Cx) (c : qpE) (r : (List qaB)) : Prop := Wk prog cx (qcT prog 120 [[2]] (tl 2 r qaA)) (unipoly_Add_pos c) .normal (unipoly_Add_st c)
abbrev unipoly_Add_H (K : Nat) : Prop := ∀ c r, qkU K c = some r → ∀ cx : Cx, cx.n = 9 → unipoly_Add_S cx c r
theorem unipoly_Add_c0 {K} (_ : unipoly_Add_H K) {cx} (hn : cx.n = 9) {f g} {r} (h : qkU (K + 1) (.c0 f g) = some r) : unipoly_Add_S cx (.c0 f g) r := by
  rw [qkU] at h
  obtain ⟨x1, h2, h⟩ := qaH h
  obtain ⟨x3, h4, h⟩ := qaH h
  have h := Option.some.inj h; subst h
  exact qaN (fuel := 54) [rgG [oo], rgG [oo, oo, opI (.call [[2], [2], [0]] [(tl 2 f qaA), (tl 2 g qaA), (TV.c (T.fn 54))] (tl 2 x1 qaA)), opI (.call [[2]] [(tl 2 x1 qaA)] (tl 2 x3 qaA)), oo]] _ hn (by kernel_rfl) (aC (qf4 h2) <| aC (qbF h4) <| aN)
theorem unipoly_Add_all : ∀ K : Nat, unipoly_Add_H K
  | 0, c, r, h => by rw [qkU] at h; cases h
  | K + 1, .c0 .., r, h => fun cx hn => unipoly_Add_c0 (unipoly_Add_all K) hn h
theorem qdK {K : Nat} {f : (List qaB)} {g : (List qaB)} {r : (List qaB)} (h : qfJ K f g = some r) : qcX prog 120 [(tl 2 f qaA), (tl 2 g qaA)] (tl 2 r qaA) :=
  qa2 [[2]] (by kernel_rfl) (by simp) fun cx hn => unipoly_Add_all K (.c0 f g) r h cx hn
end Go.Am.X
namespace Go.Am.X
def Ws (f : List qaB) : Prop := ∀ a ∈ f, Sm a
theorem ws_wf {f : List qaB} (h : Ws f) : Wf f := fun a ha => ⟨(h a ha).1, by have := (h a ha).2; omega⟩
theorem big_exp : ∃ n : Nat, n = 17179869000 := ⟨_, rfl⟩
noncomputable def N0 : Nat := Classical.choose big_exp
theorem N0_eq : N0 = 17179869000 := Classical.choose_spec big_exp
theorem ws_co {f : List qaB} (h : Ws f) (k : Nat) : -(4294967296 ^ N0) < co (pv f) k ∧ co (pv f) k < 4294967296 ^ N0 := by
  by_cases hk : k < f.length
  · have h1 := h _ (List.getElem_mem hk)
    have h2 := sm_lt h1.1
    have h3 := qrV (show f[k].Abs.length ≤ N0 by rw [N0_eq]; exact h1.2)
    rw [co_pv hk]
    generalize (4294967296 : Int) ^ N0 = A at *
    omega
  · rw [qgH (by rw [qfC]; omega)]
    have := qfA N0
    generalize (4294967296 : Int) ^ N0 = A at *
    omega
def subL (n : Nat) (F G : List Int) : List Int := (List.range n).map fun k => co F k - co G k
def addL (n : Nat) (F G : List Int) : List Int := (List.range n).map fun k => co F k + co G k
theorem comb_Sub_v1 {f g : List qaB} (hf : Ws f) (hg : Ws g) (n : Nat) (hn : n < 4398046511104) (hfl : f.length ≤ n) (hgl : g.length ≤ n) : ∀ (m i : Nat), i + m = n →
    Ev (fun K => qaI K (.c1 ⟨false, []⟩ ((mkP (subL n (pv f) (pv g))).take i ++ List.replicate (n - i) (⟨false, []⟩ : qaB)) f g n i)) (mkP (subL n (pv f) (pv g)))
  | 0, i, hi => by
    refine qaS ?_
    simp only [qaI]
    refine ev_f (by simp; omega) (qe5 (qa3 _) ?_)
    exact fill_end (by simp [mkP, subL]) (by omega)
  | m + 1, i, hi => by
    refine qaS ?_
    simp only [qaI]
    refine ev_t (by simp; omega) ?_
    have hlen : n = (mkP (subL n (pv f) (pv g))).length := by simp [mkP, subL]
    have hx : (subL n (pv f) (pv g))[i]? = some (co (pv f) i - co (pv g) i) := by simp [subL, List.getElem?_range (show i < n by omega)]
    have next : ∀ a b : qaB, Sm a → Sm b → ival a = co (pv f) i → ival b = co (pv g) i →
        Ev (fun K => (qf7 K a b).bind fun x8 => (gi ((mkP (subL n (pv f) (pv g))).take i ++ List.replicate (n - i) (⟨false, []⟩ : qaB)) (i : Int)).bind fun _ =>
          qaI K (.c2 ⟨false, []⟩ (((mkP (subL n (pv f) (pv g))).take i ++ List.replicate (n - i) (⟨false, []⟩ : qaB)).set ((i : Int).toNat) x8) f g n i)) (mkP (subL n (pv f) (pv g))) := by
      intro a b sa sb ea eb
      have h1 := sa.2
      have h2 := sb.2
      have ho := integer_Sub_ev sa sb
      rw [ea, eb] at ho
      refine qaP ho (qb6 (fill_gi hlen (by omega)) ?_)
      rw [Int.toNat_natCast, fill_set hlen (mkP_get hx)]
      refine qaS ?_
      simp only [qaI]
      rw [qdN (by omega), show (i : Int) + 1 = ((i + 1 : Nat) : Int) by omega]
      exact comb_Sub_v1 hf hg n hn hfl hgl m (i + 1) (by omega)
    by_cases h1 : i < f.length
    · refine ev_t (by simpa using h1) (qb6 (qc0 h1) ?_)
      by_cases h2 : i < g.length
      · exact ev_t (by simpa using h2) (qb6 (qc0 h2) (next _ _ (hf _ (List.getElem_mem h1)) (hg _ (List.getElem_mem h2)) (co_pv h1).symm (co_pv h2).symm))
      · exact ev_f (by simpa using h2) (next _ _ (hf _ (List.getElem_mem h1)) sm_zero (co_pv h1).symm (by rw [qgH (by rw [qfC]; omega)]; rfl))
    · refine ev_f (by simpa using h1) ?_
      by_cases h2 : i < g.length
      · exact ev_t (by simpa using h2) (qb6 (qc0 h2) (next _ _ sm_zero (hg _ (List.getElem_mem h2)) (by rw [qgH (by rw [qfC]; omega)]; rfl) (co_pv h2).symm))
      · exact ev_f (by simpa using h2) (next _ _ sm_zero sm_zero (by rw [qgH (by rw [qfC]; omega)]; rfl) (by rw [qgH (by rw [qfC]; omega)]; rfl))
theorem unipoly_Sub_ev {f g : List qaB} (hf : Ws f) (hg : Ws g) (hfl : f.length < 4398046511104) (hgl : g.length < 4398046511104) : Ev (fun K => qg3 K f g) (mkP (tz (subL (max f.length g.length) (pv f) (pv g)))) := by
  refine qaS ?_
  simp only [qg3, qkT]
  have hc : Ev (fun K => qcC K f g) (mkP (subL (max f.length g.length) (pv f) (pv g))) := by
    refine qaS ?_
    simp only [qcC, qaI]
    rw [show max (f.length : Int) (g.length : Int) = ((max f.length g.length : Nat) : Int) by omega, Int.toNat_natCast]
    refine qjP (by omega) ?_
    have := comb_Sub_v1 hf hg (max f.length g.length) (by omega) (by omega) (by omega) _ 0 (Nat.zero_add _)
    simpa using this
  refine qaP hc (qaP (qh5 ?_ (by simp [subL]; omega)) (qa3 _))
  intro a ha
  obtain ⟨x, hx, rfl⟩ := List.mem_map.1 ha
  obtain ⟨k, _, rfl⟩ := List.mem_map.1 hx
  have h1 := ws_co hf k
  have h2 := ws_co hg k
  have := mkI_len (z := co (pv f) k - co (pv g) k) (n := N0 + 1) (by rw [Int.pow_succ]; omega) (by rw [Int.pow_succ]; omega)
  exact ⟨qjH _, by rw [N0_eq] at this; omega⟩
theorem co_subL {n : Nat} {F G : List Int} (hf : F.length ≤ n) (hg : G.length ≤ n) : co (subL n F G) = fun k => co F k - co G k := by
  funext k
  by_cases h : k < n
  · rw [qqS (by simp [subL]; exact h)]; simp [subL]
  · rw [qgH (by simp [subL]; omega), qgH (l := F) (by omega), qgH (l := G) (by omega)]; rfl
theorem comb_Add_v1 {f g : List qaB} (hf : Ws f) (hg : Ws g) (n : Nat) (hn : n < 4398046511104) (hfl : f.length ≤ n) (hgl : g.length ≤ n) : ∀ (m i : Nat), i + m = n →
    Ev (fun K => qaJ K (.c1 ⟨false, []⟩ ((mkP (addL n (pv f) (pv g))).take i ++ List.replicate (n - i) (⟨false, []⟩ : qaB)) f g n i)) (mkP (addL n (pv f) (pv g)))
  | 0, i, hi => by
    refine qaS ?_
    simp only [qaJ]
    refine ev_f (by simp; omega) (qe5 (qa3 _) ?_)
    exact fill_end (by simp [mkP, addL]) (by omega)
  | m + 1, i, hi => by
    refine qaS ?_
    simp only [qaJ]
    refine ev_t (by simp; omega) ?_
    have hlen : n = (mkP (addL n (pv f) (pv g))).length := by simp [mkP, addL]
    have hx : (addL n (pv f) (pv g))[i]? = some (co (pv f) i + co (pv g) i) := by simp [addL, List.getElem?_range (show i < n by omega)]
    have next : ∀ a b : qaB, Sm a → Sm b → ival a = co (pv f) i → ival b = co (pv g) i →
        Ev (fun K => (qg6 K a b).bind fun x8 => (gi ((mkP (addL n (pv f) (pv g))).take i ++ List.replicate (n - i) (⟨false, []⟩ : qaB)) (i : Int)).bind fun _ =>
          qaJ K (.c2 ⟨false, []⟩ (((mkP (addL n (pv f) (pv g))).take i ++ List.replicate (n - i) (⟨false, []⟩ : qaB)).set ((i : Int).toNat) x8) f g n i)) (mkP (addL n (pv f) (pv g))) := by
      intro a b sa sb ea eb
      have h1 := sa.2
      have h2 := sb.2
      have ho := qnM sa.1 sb.1 (by omega) (by omega)
      rw [ea, eb] at ho
      refine qaP ho (qb6 (fill_gi hlen (by omega)) ?_)
      rw [Int.toNat_natCast, fill_set hlen (mkP_get hx)]
      refine qaS ?_
      simp only [qaJ]
      rw [qdN (by omega), show (i : Int) + 1 = ((i + 1 : Nat) : Int) by omega]
      exact comb_Add_v1 hf hg n hn hfl hgl m (i + 1) (by omega)
    by_cases h1 : i < f.length
    · refine ev_t (by simpa using h1) (qb6 (qc0 h1) ?_)
      by_cases h2 : i < g.length
      · exact ev_t (by simpa using h2) (qb6 (qc0 h2) (next _ _ (hf _ (List.getElem_mem h1)) (hg _ (List.getElem_mem h2)) (co_pv h1).symm (co_pv h2).symm))
      · exact ev_f (by simpa using h2) (next _ _ (hf _ (List.getElem_mem h1)) sm_zero (co_pv h1).symm (by rw [qgH (by rw [qfC]; omega)]; rfl))
    · refine ev_f (by simpa using h1) ?_
      by_cases h2 : i < g.length
      · exact ev_t (by simpa using h2) (qb6 (qc0 h2) (next _ _ sm_zero (hg _ (List.getElem_mem h2)) (by rw [qgH (by rw [qfC]; omega)]; rfl) (co_pv h2).symm))
      · exact ev_f (by simpa using h2) (next _ _ sm_zero sm_zero (by rw [qgH (by rw [qfC]; omega)]; rfl) (by rw [qgH (by rw [qfC]; omega)]; rfl))
theorem unipoly_Add_ev {f g : List qaB} (hf : Ws f) (hg : Ws g) (hfl : f.length < 4398046511104) (hgl : g.length < 4398046511104) : Ev (fun K => qfJ K f g) (mkP (tz (addL (max f.length g.length) (pv f) (pv g)))) := by
  refine qaS ?_
  simp only [qfJ, qkU]
  have hc : Ev (fun K => qcD K f g) (mkP (addL (max f.length g.length) (pv f) (pv g))) := by
    refine qaS ?_
    simp only [qcD, qaJ]
    rw [show max (f.length : Int) (g.length : Int) = ((max f.length g.length : Nat) : Int) by omega, Int.toNat_natCast]
    refine qjP (by omega) ?_
    have := comb_Add_v1 hf hg (max f.length g.length) (by omega) (by omega) (by omega) _ 0 (Nat.zero_add _)
    simpa using this
  refine qaP hc (qaP (qh5 ?_ (by simp [addL]; omega)) (qa3 _))
  intro a ha
  obtain ⟨x, hx, rfl⟩ := List.mem_map.1 ha
  obtain ⟨k, _, rfl⟩ := List.mem_map.1 hx
  have h1 := ws_co hf k
  have h2 := ws_co hg k
  have := mkI_len (z := co (pv f) k + co (pv g) k) (n := N0 + 1) (by rw [Int.pow_succ]; omega) (by rw [Int.pow_succ]; omega)
  exact ⟨qjH _, by rw [N0_eq] at this; omega⟩
theorem co_addL {n : Nat} {F G : List Int} (hf : F.length ≤ n) (hg : G.length ≤ n) : co (addL n F G) = fun k => co F k + co G k := by
  funext k
  by_cases h : k < n
  · rw [qqS (by simp [addL]; exact h)]; simp [addL]
  · rw [qgH (by simp [addL]; omega), qgH (l := F) (by omega), qgH (l := G) (by omega)]; rfl
end Go.Am.X
namespace Go.Am.X
open Go.Proofs.Try (prog)
inductive qpD where
  | c0 (f : (List qaB)) (g : (List qaB))
  | c1 (r28 : (List qaB)) (g : (List qaB)) (t29 : (List qaB)) (t30 : Int) (t31 : Int)
  | c2 (r28 : (List qaB)) (g : (List qaB)) (t29 : (List qaB)) (t30 : Int) (t31 : Int)
  | c3 (a : qaB) (r28 : (List qaB)) (g : (List qaB)) (i : Int) (t29 : (List qaB)) (t30 : Int) (t31 : Int) (t39 : (List qaB)) (t40 : Int) (t41 : Int)
def qbP : Nat → qpD → Option (List qaB)
  | 0, _ => none
  | K + 1, .c0 f g =>
    (qdU K f).bind fun x1 =>
    (qdU K g).bind fun x3 =>
    bif (decide ((x1.length : Int) = (0 : Int))) then
      some []
    else
      bif (decide ((x3.length : Int) = (0 : Int))) then
        some []
      else
        gd (0 ≤ (wI6 ((wI6 ((x1.length : Int) + (x3.length : Int))) - (1 : Int))) ∧ (wI6 ((wI6 ((x1.length : Int) + (x3.length : Int))) - (1 : Int))) ≤ (wI6 ((wI6 ((x1.length : Int) + (x3.length : Int))) - (1 : Int))) ∧ (32 : Int) * (wI6 ((wI6 ((x1.length : Int) + (x3.length : Int))) - (1 : Int))) ≤ 140737488355328) <|
        qbP K (.c1 (List.replicate (wI6 ((wI6 ((x1.length : Int) + (x3.length : Int))) - (1 : Int))).toNat ((qaB.mk false []) : qaB)) x3 x1 (x1.length : Int) (0 : Int))
  | K + 1, .c1 r28 g t29 t30 t31 =>
    bif (decide (t31 < t30)) then
      (gi t29 t31).bind fun x2 =>
      (qiJ K x2).bind fun x4 =>
      bif (decide (x4 = (0 : Int))) then
        qbP K (.c2 r28 g t29 t30 t31)
      else
        qbP K (.c3 x2 r28 g t31 t29 t30 t31 g (g.length : Int) (0 : Int))
    else
      (qdU K r28).bind fun x2 =>
      some x2
  | K + 1, .c2 r28 g t29 t30 t31 =>
    qbP K (.c1 r28 g t29 t30 (wI6 (t31 + (1 : Int))))
  | K + 1, .c3 a r28 g i t29 t30 t31 t39 t40 t41 =>
    bif (decide (t41 < t40)) then
      (gi t39 t41).bind fun x2 =>
      (gi r28 (wI6 (i + t41))).bind fun x4 =>
      (qdI K a x2).bind fun x6 =>
      (qg6 K x4 x6).bind fun x8 =>
      (gi r28 (wI6 (i + t41))).bind fun _ =>
      qbP K (.c3 a (r28.set ((wI6 (i + t41)).toNat) x8) g i t29 t30 t31 t39 t40 (wI6 (t41 + (1 : Int))))
    else
      qbP K (.c2 r28 g t29 t30 t31)
def qq4 (K : Nat) (f : (List qaB)) (g : (List qaB)) : Option (List qaB) := qbP K (.c0 f g)
noncomputable def qeU : Code := qbN prog 50
noncomputable def unipoly_Mul_pos : qpD → List Fr
  | .c0 .. => [.code qeU]
  | .c1 .. => [.code (.loop (atC qeU [1,1,1,1,0,1,0,0])), .blk 0, .code (atC qeU [1,1,1,1,1])]
  | .c2 .. => [.code (atC qeU [1,1,1,1,0,1,0,0,1,1,1]), .lp (atC qeU [1,1,1,1,0,1,0,0]), .blk 0, .code (atC qeU [1,1,1,1,1])]
  | .c3 .. => [.code (.loop (atC qeU [1,1,1,1,0,1,0,0,1,1,0,0,1,1,1,0,0])), .blk 2, .blk 1, .code (atC qeU [1,1,1,1,0,1,0,0,1,1,1]), .lp (atC qeU [1,1,1,1,0,1,0,0]), .blk 0, .code (atC qeU [1,1,1,1,1])]
def unipoly_Mul_st : qpD → St
  | .c0 f g => St.init [(tl 2 f qaA), (tl 2 g qaA)]
  | .c1 r28 g t29 t30 t31 => ⟨[(1, vl 2 g qaA), (5, .c (C.row 28 0 r28.length)), (29, vl 2 t29 qaA), (30, vi .i64 t30), (31, vi .i64 t31)], [(28, .row 45 2 (r28.map qaA) 0)], []⟩
  | .c2 r28 g t29 t30 t31 => ⟨[(1, vl 2 g qaA), (5, .c (C.row 28 0 r28.length)), (29, vl 2 t29 qaA), (30, vi .i64 t30), (31, vi .i64 t31)], [(28, .row 45 2 (r28.map qaA) 0)], []⟩
  | .c3 a r28 g i t29 t30 t31 t39 t40 t41 => ⟨[(1, vl 2 g qaA), (5, .c (C.row 28 0 r28.length)), (6, vi .i64 i), (7, .c (C.ptr 7 0)), (29, vl 2 t29 qaA), (30, vi .i64 t30), (31, vi .i64 t31), (39, vl 2 t39 qaA), (40, vi .i64 t40), (41, vi .i64 t41)], [(7, .var ((qaA a).map C.t)), (28, .row 45 2 (r28.map qaA) 0)], []⟩
def qpB (cx : Cx) (c : qpD) (r : (List qaB)) : Prop := Wk prog cx (qcT prog 50 [[2]] (tl 2 r qaA)) (unipoly_Mul_pos c) .normal (unipoly_Mul_st c)
abbrev qpC (K : Nat) : Prop := ∀ c r, qbP K c = some r → ∀ cx : Cx, cx.n = 65 → qpB cx c r
theorem unipoly_Mul_c0 {K} (ih : qpC K) {cx} (hn : cx.n = 65) {f g} {r} (h : qbP (K + 1) (.c0 f g) = some r) : qpB cx (.c0 f g) r := by
  rw [qbP] at h
  obtain ⟨x1, h2, h⟩ := qaH h
  obtain ⟨x3, h4, h⟩ := qaH h
  rcases qaK h with ⟨h5, h⟩ | ⟨h5, h⟩
  · skip
    have h := Option.some.inj h; subst h
    exact qaN (fuel := 80) [rgG [oo], rgG [oo, opI (.call [[2]] [(tl 2 f qaA)] (tl 2 x1 qaA)), oo, opI (.call [[2]] [(tl 2 g qaA)] (tl 2 x3 qaA)), oo, oo], rgG [oo, opI (.ln (x1.length : Int)), oo, oo, .sb 17 true, oo, oo, oo, oo], .br true, rgG [oo]] _ hn (by kernel_rfl) (aC (qbF h2) <| aC (qbF h4) <| aC (qaT x1 qaA) <| aC h5 <| aC rt <| aN)
  · skip
    rcases qaK h with ⟨h6, h⟩ | ⟨h6, h⟩
    · skip
      have h := Option.some.inj h; subst h
      exact qaN (fuel := 80) [rgG [oo], rgG [oo, opI (.call [[2]] [(tl 2 f qaA)] (tl 2 x1 qaA)), oo, opI (.call [[2]] [(tl 2 g qaA)] (tl 2 x3 qaA)), oo, oo], rgG [oo, opI (.ln (x1.length : Int)), oo, oo, .sb 17 false, oo, opI (.ln (x3.length : Int)), oo, oo], .br true, rgG [oo]] _ hn (by kernel_rfl) (aC (qbF h2) <| aC (qbF h4) <| aC (qaT x1 qaA) <| aC h5 <| aC (qaT x3 qaA) <| aC h6 <| aN)
    · skip
      obtain ⟨h7, h⟩ := qbE h
      exact qaU (fuel := 90) [rgG [oo], rgG [oo, opI (.call [[2]] [(tl 2 f qaA)] (tl 2 x1 qaA)), oo, opI (.call [[2]] [(tl 2 g qaA)] (tl 2 x3 qaA)), oo, oo], rgG [oo, opI (.ln (x1.length : Int)), oo, oo, .sb 17 false, oo, opI (.ln (x3.length : Int)), oo, oo], .br false, rgG [oo, opI (.ln (x1.length : Int)), oo, opI (.ln (x3.length : Int)), oo, oo, opI (.mk (qaA (qaB.mk false [])) ((List.replicate (wI6 ((wI6 ((x1.length : Int) + (x3.length : Int))) - (1 : Int))).toNat ((qaB.mk false []) : qaB)).map qaA)), oo], rgG [oo, opI (.ln (x1.length : Int)), oo], .pre [.rl 5 0 (List.replicate (wI6 ((wI6 ((x1.length : Int) + (x3.length : Int))) - (1 : Int))).toNat ((qaB.mk false []) : qaB)).length, .keep [1,5,29,30,31] [28]]] _ hn (by kernel_rfl) (aC (qbF h2) <| aC (qbF h4) <| aC (qaT x1 qaA) <| aC h5 <| aC (qaT x3 qaA) <| aC h6 <| aC (qaT x1 qaA) <| aC (qaT x3 qaA) <| aC h7.1 <| aC h7.2.1 <| aC h7.2.2 <| aC (qf1 _ _ _ : List.replicate (wI6 ((wI6 ((x1.length : Int) + (x3.length : Int))) - (1 : Int))).toNat (qaA (qaB.mk false [])) = (List.replicate (wI6 ((wI6 ((x1.length : Int) + (x3.length : Int))) - (1 : Int))).toNat ((qaB.mk false []) : qaB)).map qaA) <| aC (qaT x1 qaA) <| aC r0 <| aC (by simp : (wI6 ((wI6 ((x1.length : Int) + (x3.length : Int))) - (1 : Int))).toNat = (List.replicate (wI6 ((wI6 ((x1.length : Int) + (x3.length : Int))) - (1 : Int))).toNat ((qaB.mk false []) : qaB)).length) <| aN) (ih _ _ h cx hn)
theorem unipoly_Mul_c1 {K} (ih : qpC K) {cx} (hn : cx.n = 65) {r28 g t29 t30 t31} {r} (h : qbP (K + 1) (.c1 r28 g t29 t30 t31) = some r) : qpB cx (.c1 r28 g t29 t30 t31) r := by
  rw [qbP] at h
  rcases qaK h with ⟨h1, h⟩ | ⟨h1, h⟩
  · skip
    obtain ⟨x2, h3, h⟩ := qaH h
    obtain ⟨x4, h5, h⟩ := qaH h
    rcases qaK h with ⟨h6, h⟩ | ⟨h6, h⟩
    · skip
      exact qaU (fuel := 96) [.go, rgG [oo], .br true, rgG [oo, opI (.ix (qaA x2)), oo, oo, oo, oo], rgG [oo, opI (.call [[0,1]] [(TV.agg (qaA x2))] (ti .i64 x4)), oo], .br true, .pre [.rl 5 0 r28.length, .keep [1,5,29,30,31] [28]]] _ hn (by kernel_rfl) (aC h1 <| aC (qa0 h3) <| aC (qbH qaA h3) <| aC (qbC h5) <| aC h6 <| aC r0 <| aC (lq r28) <| aN) (ih _ _ h cx hn)
    · skip
      exact qaU (fuel := 102) [.go, rgG [oo], .br true, rgG [oo, opI (.ix (qaA x2)), oo, oo, oo, oo], rgG [oo, opI (.call [[0,1]] [(TV.agg (qaA x2))] (ti .i64 x4)), oo], .br false, rgG [oo, opI (.ln (g.length : Int)), oo], .pre [.rl 5 0 r28.length, .keep [1,5,6,7,29,30,31,39,40,41] [7,28]]] _ hn (by kernel_rfl) (aC h1 <| aC (qa0 h3) <| aC (qbH qaA h3) <| aC (qbC h5) <| aC h6 <| aC (qaT g qaA) <| aC r0 <| aC (lq r28) <| aN) (ih _ _ h cx hn)
  · skip
    obtain ⟨x2, h3, h⟩ := qaH h
    have h := Option.some.inj h; subst h
    exact qaN (fuel := 78) [.go, rgG [oo], .br false, rgG [oo, .snap 63 (max 0 (0 + r28.length)) (r28.map qaA), opI (.call [[2]] [(tl 2 r28 qaA)] (tl 2 x2 qaA)), oo]] _ hn (by kernel_rfl) (aC h1 <| aC (qbI _ _ _ (by simp) : ((r28.map qaA).drop 0).take r28.length = r28.map qaA) <| aC (rfl : (max 0 (0 + r28.length)) = (max 0 (0 + r28.length))) <| aC (qbF h3) <| aN)
theorem unipoly_Mul_c2 {K} (ih : qpC K) {cx} (hn : cx.n = 65) {r28 g t29 t30 t31} {r} (h : qbP (K + 1) (.c2 r28 g t29 t30 t31) = some r) : qpB cx (.c2 r28 g t29 t30 t31) r := by
  rw [qbP] at h
  exact qaU (fuel := 44) [rgG [oo, oo], .pre [.rl 5 0 r28.length, .keep [1,5,29,30,31] [28]]] _ hn (by kernel_rfl) (aC r0 <| aC (lq r28) <| aN) (ih _ _ h cx hn)
theorem unipoly_Mul_c3 {K} (ih : qpC K) {cx} (hn : cx.n = 65) {a r28 g i t29 t30 t31 t39 t40 t41} {r} (h : qbP (K + 1) (.c3 a r28 g i t29 t30 t31 t39 t40 t41) = some r) : qpB cx (.c3 a r28 g i t29 t30 t31 t39 t40 t41) r := by
  rw [qbP] at h
  rcases qaK h with ⟨h1, h⟩ | ⟨h1, h⟩
  · skip
    obtain ⟨x2, h3, h⟩ := qaH h
    obtain ⟨x4, h5, h⟩ := qaH h
    obtain ⟨x6, h7, h⟩ := qaH h
    obtain ⟨x8, h9, h⟩ := qaH h
    obtain ⟨x10, h11, h⟩ := qaH h
    exact qaU (fuel := 90) [.go, rgG [oo], .br true, rgG [oo, opI (.ix (qaA x2)), oo, oo, oo, oo], .draw [.p, .p, .p, .p, .p, .p, .p, .p, .ir, (.ld (qaA x4)), .p, .p, (.call [[0,1], [0,1]] [(TV.agg (qaA a)), (TV.agg (qaA x2))] (TV.agg (qaA x6))), (.call [[0,1], [0,1]] [(TV.agg (qaA x4)), (TV.agg (qaA x6))] (TV.agg (qaA x8)))] [.op .ir, opI (.st (qaA x10) ((r28.set ((wI6 (i + t41)).toNat) x8).map qaA))], rgG [oo, oo], .pre [.rl 5 0 (r28.set ((wI6 (i + t41)).toNat) x8).length, .keep [1,5,6,7,29,30,31,39,40,41] [7,28]]] _ hn (by kernel_rfl) (aC h1 <| aC (qa0 h3) <| aC (qbH qaA h3) <| aC (qa0 h5) <| aC (qcH h5 (by simp) : (wI6 (i + t41)) < ((r28.length : Nat) : Int)) <| aC (qcG qaA h5 : (r28.map qaA)[(0 + (wI6 (i + t41)).toNat)]? = some (qaA x4)) <| aC (qbT h7) <| aC (qeH h9) <| aC (qa0 h11) <| aC (qcH h11 (by simp) : (wI6 (i + t41)) < ((r28.length : Nat) : Int)) <| aC (qcG qaA h11 : (r28.map qaA)[(0 + (wI6 (i + t41)).toNat)]? = some (qaA x10)) <| aC (qc7 _ _ x8 _ : (r28.map qaA).set (0 + (wI6 (i + t41)).toNat) (qbY (qaA x10) 0 [(T.bool x8.Neg), (T.sl 1 (x8.Abs.map qaC))]) = (r28.set ((wI6 (i + t41)).toNat) x8).map qaA) <| aC (Nat.zero_le _ : 0 ≤ (0 + (wI6 (i + t41)).toNat)) <| aC r0 <| aC (by simp : r28.length = (r28.set ((wI6 (i + t41)).toNat) x8).length) <| aN) (ih _ _ h cx hn)
  · skip
    exact qaU (fuel := 70) [.go, rgG [oo], .br false, .pre [.rl 5 0 r28.length, .keep [1,5,29,30,31] [28]]] _ hn (by kernel_rfl) (aC h1 <| aC r0 <| aC (lq r28) <| aN) (ih _ _ h cx hn)
theorem qlY : ∀ K : Nat, qpC K
  | 0, c, r, h => by rw [qbP] at h; cases h
  | K + 1, .c0 .., r, h => fun cx hn => unipoly_Mul_c0 (qlY K) hn h
  | K + 1, .c1 .., r, h => fun cx hn => unipoly_Mul_c1 (qlY K) hn h
  | K + 1, .c2 .., r, h => fun cx hn => unipoly_Mul_c2 (qlY K) hn h
  | K + 1, .c3 .., r, h => fun cx hn => unipoly_Mul_c3 (qlY K) hn h
theorem qi4 {K : Nat} {f : (List qaB)} {g : (List qaB)} {r : (List qaB)} (h : qq4 K f g = some r) : qcX prog 50 [(tl 2 f qaA), (tl 2 g qaA)] (tl 2 r qaA) :=
  qa2 [[2]] (by kernel_rfl) (by simp) fun cx hn => qlY K (.c0 f g) r h cx hn
end Go.Am.X
namespace Go.Am.X
def mulL (F G : List Int) : List Int := (List.range (F.length + G.length)).map (lm F (co G))
theorem qtD (F G : List Int) : co (mulL F G) = lm F (co G) := by
  funext k
  by_cases h : k < F.length + G.length
  · rw [qqS (by simp [mulL]; exact h)]; simp [mulL]
  · rw [qgH (by simp [mulL]; omega)]
    rcases lm_ge F G k (by omega) with h1 | h1 | h1
    · exact h1.symm
    · subst h1; rfl
    · subst h1; rw [show co [] = fun _ => 0 by funext k; simp, lm_zero]
theorem lm_bound {l : List Int} {g : Nat → Int} {A C : Int} (hA : 0 ≤ A) (hC : 0 ≤ C) (h1 : ∀ x ∈ l, -A ≤ x ∧ x ≤ A) (h2 : ∀ k, -C ≤ g k ∧ g k ≤ C) : ∀ k, -((l.length : Int) * (A * C)) ≤ lm l g k ∧ lm l g k ≤ (l.length : Int) * (A * C) := by
  have hAC := Int.mul_nonneg hA hC
  induction l with
  | nil => intro k; simp [lm]
  | cons a l ih =>
    intro k
    have ih := ih fun x hx => h1 x (List.mem_cons_of_mem _ hx)
    have ha := h1 a (List.mem_cons_self ..)
    have hp : -(A * C) ≤ a * g k ∧ a * g k ≤ A * C := by
      have h3 : (a * g k).natAbs ≤ (A * C).natAbs := by
        rw [Int.natAbs_mul, Int.natAbs_mul]
        exact Nat.mul_le_mul (by omega) (by have := h2 k; omega)
      omega
    have e : ((a :: l).length : Int) * (A * C) = (l.length : Int) * (A * C) + A * C := by
      rw [List.length_cons, Int.natCast_add, Int.add_mul]; simp
    rw [e]
    simp only [lm]
    cases k with
    | zero =>
      have := Int.mul_nonneg (show (0 : Int) ≤ (l.length : Int) by omega) hAC
      simp only [xm]; omega
    | succ k => have := ih k; simp only [xm]; omega
def Bd (n : Nat) (l : List Int) : Prop := ∀ x ∈ l, -(4294967296 ^ n) < x ∧ x < 4294967296 ^ n
theorem bd_co {n : Nat} {l : List Int} (h : Bd n l) (k : Nat) : -(4294967296 ^ n) < co l k ∧ co l k < 4294967296 ^ n := by
  by_cases hk : k < l.length
  · rw [qqS hk]; exact h _ (List.getElem_mem hk)
  · rw [qgH (by omega)]; have := qfA n; omega
theorem bd_tz {n : Nat} {l : List Int} (h : Bd n l) : Bd n (tz l) := fun x hx => h x (tz_mem hx)
theorem bd_take {n : Nat} {l : List Int} (h : Bd n l) (i : Nat) : Bd n (l.take i) := fun x hx => h x (List.mem_of_mem_take hx)
theorem bd_mono {m n : Nat} (hmn : m ≤ n) {l : List Int} (h : Bd m l) : Bd n l := fun x hx => by have := h x hx; have := qrV hmn; omega
theorem ws_mkP {n : Nat} (hn : n ≤ 17179869000) {l : List Int} (h : Bd n l) : Ws (mkP l) := fun a ha => by
  obtain ⟨x, hx, rfl⟩ := List.mem_map.1 ha
  exact sm_mkI hn (h x hx).1 (h x hx).2
theorem bd_of_len {f : List qaB} {n : Nat} (h : ∀ a ∈ f, Dig a.Abs ∧ a.Abs.length ≤ n) : Bd n (pv f) := by
  intro x hx
  obtain ⟨a, ha, rfl⟩ := List.mem_map.1 hx
  have h1 := sm_lt (h a ha).1
  have h2 := qrV (h a ha).2
  omega
theorem lm_bd {F : List Int} {g : Nat → Int} {p q : Nat} (hF : Bd p F) (hg : ∀ k, -(4294967296 ^ q) < g k ∧ g k < 4294967296 ^ q) (hl : F.length < 4294967296) (k : Nat) : -(4294967296 ^ (p + q + 1)) < lm F g k ∧ lm F g k < 4294967296 ^ (p + q + 1) := by
  have hp := qfA p
  have hq := qfA q
  have h := lm_bound (g := g) (A := 4294967296 ^ p) (C := 4294967296 ^ q) (by omega) (by omega) (fun x hx => by have := hF x hx; omega) (fun k => by have := hg k; omega) k
  rw [← Int.pow_add] at h
  have h2 := Int.mul_lt_mul_of_pos_right (show (F.length : Int) < 4294967296 by omega) (qfA (p + q))
  rw [Int.pow_succ, Int.mul_comm (4294967296 ^ (p + q))]
  omega
def part (F G : List Int) (i k j : Nat) : Int := lm (F.take i) (co G) j + co F i * xpow i (co (G.take k)) j
theorem co_take (l : List Int) (i k : Nat) : co (l.take i) k = if k < i then co l k else 0 := by
  simp only [co, List.getD_eq_getElem?_getD, List.getElem?_take]
  split <;> simp
theorem part_zero (F G : List Int) (i j : Nat) : part F G i 0 j = lm (F.take i) (co G) j := by
  simp [part, xpow]
theorem part_end (F G : List Int) (i : Nat) (h : i < F.length) : part F G i G.length = lm (F.take (i + 1)) (co G) := by
  funext j
  rw [lm_take_succ F i h, part, List.take_length, qqS h]
theorem part_succ (F G : List Int) (i k j : Nat) : part F G i (k + 1) j = part F G i k j + if j = i + k then co F i * co G k else 0 := by
  simp only [part, xpow, co_take]
  by_cases h1 : i ≤ j
  · simp only [h1, if_true]
    by_cases h2 : j = i + k
    · subst h2
      rw [if_pos (by omega), if_neg (by omega), if_pos rfl, Nat.add_sub_cancel_left]; omega
    · rw [if_neg h2]
      by_cases h3 : j - i < k
      · rw [if_pos (by omega), if_pos h3]; omega
      · rw [if_neg (by omega), if_neg h3]; omega
  · simp only [h1, if_false]
    rw [if_neg (by omega), Int.add_zero]
theorem unipoly_Mul_v3 {f g : List qaB} (hf : Ws f) (hg : Ws g) {p q : Nat} (hp : Bd p (pv f)) (hq : Bd q (pv g)) (hpq : p + q ≤ 1000000000) (hfl : f.length < 2147483648) (hgl : g.length < 2147483648) (L : Nat) (hL : L + 1 = f.length + g.length) {res : List qaB}
    {t : List qaB} {t1 t2 : Int} (i : Nat) (hi : i < f.length)
    (hk : Ev (fun K => qbP K (.c2 (mkP ((List.range L).map (part (pv f) (pv g) i g.length))) g t t1 t2)) res) : ∀ (m k : Nat), k + m = g.length →
      Ev (fun K => qbP K (.c3 f[i] (mkP ((List.range L).map (part (pv f) (pv g) i k))) g i t t1 t2 g g.length k)) res
  | 0, k, hkm => by
    refine qaS ?_
    simp only [qbP]
    have : k = g.length := by omega
    subst this
    exact ev_f (by simp) hk
  | m + 1, k, hkm => by
    refine qaS ?_
    simp only [qbP]
    have hkg : k < g.length := by omega
    have sg := hg _ (List.getElem_mem hkg)
    have sf := hf _ (List.getElem_mem hi)
    have g1 := sg.2
    have f1 := sf.2
    refine ev_t (by simp; omega) (qb6 (qc0 hkg) ?_)
    rw [qdN (by omega), show (i : Int) + k = ((i + k : Nat) : Int) by omega]
    have hik : i + k < L := by omega
    have hget : (mkP ((List.range L).map (part (pv f) (pv g) i k)))[i + k]? = some (mkI (part (pv f) (pv g) i k (i + k))) := mkP_get (by simp [List.getElem?_range hik])
    have hmul := qr8 sf.1 sg.1 (by omega)
    -- bounds
    have hFi := bd_co hp i
    have hGk := bd_co hq k
    have hb1 : ∀ k', -(2 * 4294967296 ^ (p + q + 1)) < part (pv f) (pv g) i k' (i + k) ∧ part (pv f) (pv g) i k' (i + k) < 2 * 4294967296 ^ (p + q + 1) := by
      intro k'
      have h1 := lm_bd (bd_take hp i) (bd_co hq) (by rw [List.length_take, qfC]; omega) (i + k)
      have h2 := lm_bd (F := [co (pv f) i]) (p := p) (fun x hx => by simp at hx; subst hx; exact hFi) (g := xpow i (co ((pv g).take k'))) (q := q) (fun j => by
        unfold xpow; split
        · exact bd_co (bd_take hq k') _
        · have := qfA q; omega) (by simp) (i + k)
      have h3 : lm [co (pv f) i] (xpow i (co ((pv g).take k'))) (i + k) = co (pv f) i * xpow i (co ((pv g).take k')) (i + k) := by
        cases h : i + k <;> simp [lm, xm]
      rw [h3] at h2
      unfold part; omega
    have hlen : (mkI (part (pv f) (pv g) i k (i + k))).Abs.length ≤ p + q + 2 := by
      have := hb1 k
      exact mkI_len (by rw [Int.pow_succ]; omega) (by rw [Int.pow_succ]; omega)
    have hprod : ival f[i] * ival g[k] = co (pv f) i * co (pv g) k := by rw [co_pv hi, co_pv hkg]
    rw [hprod] at hmul
    have hps := part_succ (pv f) (pv g) i k (i + k)
    rw [if_pos rfl] at hps
    have hlen2 : (mkI (co (pv f) i * co (pv g) k)).Abs.length ≤ p + q + 3 := by
      have h1 := hb1 k
      have h2 := hb1 (k + 1)
      refine mkI_len ?_ ?_
      · rw [Int.pow_succ, Int.pow_succ]; omega
      · rw [Int.pow_succ, Int.pow_succ]; omega
    have hadd := qnM (qjH (part (pv f) (pv g) i k (i + k))) (qjH (co (pv f) i * co (pv g) k)) (by omega) (by omega)
    rw [qd5, qd5, ← hps] at hadd
    refine qb6 (gi_get hget) (qaP hmul (qaP hadd (qb6 (gi_get hget) ?_)))
    rw [Int.toNat_natCast, qdN (by omega), show (k : Int) + 1 = ((k + 1 : Nat) : Int) by omega]
    have hset : (mkP ((List.range L).map (part (pv f) (pv g) i k))).set (i + k) (mkI (part (pv f) (pv g) i (k + 1) (i + k))) = mkP ((List.range L).map (part (pv f) (pv g) i (k + 1))) := by
      apply List.ext_getElem?
      intro j
      rw [List.getElem?_set]
      by_cases hj : i + k = j
      · subst hj
        rw [if_pos rfl, if_pos (by simp [mkP]; exact hik), mkP_get (x := part (pv f) (pv g) i (k + 1) (i + k)) (by simp [List.getElem?_range hik])]
      · rw [if_neg hj]
        simp only [mkP, List.getElem?_map, List.map_map]
        by_cases hjL : j < L
        · rw [List.getElem?_range hjL]
          simp only [Option.map_some, Function.comp]
          rw [part_succ, if_neg (fun e => hj e.symm), Int.add_zero]
        · rw [List.getElem?_eq_none (by simp; omega)]; rfl
    rw [hset]
    exact unipoly_Mul_v3 hf hg hp hq hpq hfl hgl L hL i hi hk m (k + 1) (by omega)
theorem unipoly_Mul_v1 {f g : List qaB} (hf : Ws f) (hg : Ws g) {p q : Nat} (hp : Bd p (pv f)) (hq : Bd q (pv g)) (hpq : p + q ≤ 1000000000) (hfl : f.length < 2147483648) (hgl : g.length < 2147483648) (hf0 : 0 < f.length) (hg0 : 0 < g.length) (L : Nat) (hL : L + 1 = f.length + g.length) : ∀ (m i : Nat), i + m = f.length →
    Ev (fun K => qbP K (.c1 (mkP ((List.range L).map (lm ((pv f).take i) (co (pv g))))) g f f.length i)) (mkP (tz (mulL (pv f) (pv g))))
  | 0, i, hi => by
    refine qaS ?_
    simp only [qbP]
    refine ev_f (by simp; omega) ?_
    rw [List.take_of_length_le (by rw [qfC]; omega)]
    have hw : Wf (mkP ((List.range L).map (lm (pv f) (co (pv g))))) := by
      refine wf_mkP (n := p + q + 1) (by omega) fun x hx => ?_
      obtain ⟨k, _, rfl⟩ := List.mem_map.1 hx
      exact lm_bd hp (bd_co hq) (by rw [qfC]; omega) k
    have := qh5 hw (by simp; omega)
    have e : tz ((List.range L).map (lm (pv f) (co (pv g)))) = tz (mulL (pv f) (pv g)) := by
      refine tz_ext _ _ ?_
      rw [qtD]
      funext k
      by_cases h : k < L
      · rw [qqS (by simp; exact h)]; simp
      · rw [qgH (by simp; omega)]
        rcases lm_ge (pv f) (pv g) k (by rw [qfC, qfC]; omega) with h1 | h1 | h1
        · exact h1.symm
        · have : f.length = 0 := by rw [← qfC, h1]; rfl
          omega
        · have : g.length = 0 := by rw [← qfC, h1]; rfl
          omega
    rw [e] at this
    exact qaP this (qa3 _)
  | m + 1, i, hi => by
    refine qaS ?_
    simp only [qbP]
    have hif : i < f.length := by omega
    have sf := hf _ (List.getElem_mem hif)
    have f1 := sf.2
    have hc := qfB (ival f[i]) 0
    refine ev_t (by simp; omega) (qb6 (qc0 hif) (qaP (qjK sf.1 (by omega)) ?_))
    have next : Ev (fun K => qbP K (.c2 (mkP ((List.range L).map (part (pv f) (pv g) i g.length))) g f f.length i)) (mkP (tz (mulL (pv f) (pv g)))) := by
      refine qaS ?_
      simp only [qbP]
      rw [qdN (by omega), show (i : Int) + 1 = ((i + 1 : Nat) : Int) by omega]
      have e := part_end (pv f) (pv g) i (by rw [qfC]; exact hif)
      rw [qfC] at e
      rw [e]
      exact unipoly_Mul_v1 hf hg hp hq hpq hfl hgl hf0 hg0 L hL m (i + 1) (by omega)
    by_cases h0 : ival f[i] = 0
    · refine ev_t (by simp; omega) ?_
      have e : part (pv f) (pv g) i g.length = lm ((pv f).take i) (co (pv g)) := by
        funext j; simp [part, co_pv hif, h0]
      rw [e] at next
      exact next
    · refine ev_f (by simp; omega) ?_
      have e : lm ((pv f).take i) (co (pv g)) = part (pv f) (pv g) i 0 := by funext j; rw [part_zero]
      rw [e]
      exact unipoly_Mul_v3 hf hg hp hq hpq hfl hgl L hL i hif next g.length 0 (Nat.zero_add _)
theorem unipoly_Mul_ev {f g : List qaB} (hf : Ws f) (hg : Ws g) {p q : Nat} (hp : Bd p (pv f)) (hq : Bd q (pv g)) (hpq : p + q ≤ 1000000000) (hfl : f.length < 2147483648) (hgl : g.length < 2147483648) : Ev (fun K => qq4 K f g) (mkP (tz (mulL (pv f) (pv g)))) := by
  refine qaS ?_
  simp only [qq4, qbP]
  have lf := tz_len (pv f)
  have lg := tz_len (pv g)
  rw [qfC] at lf lg
  have hft : (f.take (tz (pv f)).length).length = (tz (pv f)).length := by rw [List.length_take]; omega
  have hgt : (g.take (tz (pv g)).length).length = (tz (pv g)).length := by rw [List.length_take]; omega
  have hpf : pv (f.take (tz (pv f)).length) = tz (pv f) := by rw [pv_take, ← qpF]
  have hpg : pv (g.take (tz (pv g)).length) = tz (pv g) := by rw [pv_take, ← qpF]
  have htz : tz (mulL (pv f) (pv g)) = tz (mulL (tz (pv f)) (tz (pv g))) := by
    refine tz_ext _ _ ?_
    rw [qtD, qtD, co_tz, lm_congr_co (co_tz (pv f))]
  refine qaP (qdX (ws_wf hf) (by omega)) (qaP (qdX (ws_wf hg) (by omega)) ?_)
  rw [hft, hgt, htz]
  by_cases h1 : tz (pv f) = []
  · refine ev_t (by simp [h1]) (qe5 (qa3 _) ?_)
    rw [h1, (tz_nil_iff _).2 fun k => by rw [qtD]; rfl]
    rfl
  · have p1 := List.length_pos_iff.2 h1
    refine ev_f (by simp [h1]) ?_
    by_cases h2 : tz (pv g) = []
    · refine ev_t (by simp [h2]) (qe5 (qa3 _) ?_)
      rw [h2, (tz_nil_iff _).2 fun k => by rw [qtD, show co [] = fun _ => 0 by funext k; simp, lm_zero]]
      rfl
    · have p2 := List.length_pos_iff.2 h2
      refine ev_f (by simp [h2]) ?_
      rw [qdN (x := ((tz (pv f)).length : Int) + ((tz (pv g)).length : Int)) (by omega), qdN (by omega)]
      refine qjP (by omega) ?_
      have hwf : Ws (f.take (tz (pv f)).length) := fun a ha => hf a (List.mem_of_mem_take ha)
      have hwg : Ws (g.take (tz (pv g)).length) := fun a ha => hg a (List.mem_of_mem_take ha)
      have := unipoly_Mul_v1 hwf hwg (p := p) (q := q) (by rw [hpf]; exact bd_tz hp) (by rw [hpg]; exact bd_tz hq) hpq (by omega) (by omega) (by omega) (by omega) ((tz (pv f)).length + (tz (pv g)).length - 1) (by omega) _ 0 (Nat.zero_add _)
      rw [hpf, hpg, hft] at this
      have e : mkP ((List.range ((tz (pv f)).length + (tz (pv g)).length - 1)).map (lm ((tz (pv f)).take 0) (co (tz (pv g))))) = List.replicate (((tz (pv f)).length : Int) + ((tz (pv g)).length : Int) - 1).toNat (⟨false, []⟩ : qaB) := by
        rw [show (((tz (pv f)).length : Int) + ((tz (pv g)).length : Int) - 1).toNat = (tz (pv f)).length + (tz (pv g)).length - 1 by omega]
        apply List.ext_getElem?
        intro j
        simp only [mkP, List.map_map, List.getElem?_map, List.getElem?_replicate]
        by_cases hj : j < (tz (pv f)).length + (tz (pv g)).length - 1
        · rw [List.getElem?_range hj, if_pos hj]
          simp only [Option.map_some, Function.comp, List.take_zero]
          show some (mkI 0) = _
          rw [mk_zero]
        · rw [List.getElem?_eq_none (by simp; omega), if_neg hj]; rfl
      rw [e] at this
      exact this
end Go.Am.X
namespace Go.Am.X
open Go.Proofs.Try (prog)
inductive qmU where
  | c0 (f : (List qaB)) (m : qaB)
  | c1 (m : qaB) (r14 : (List qaB)) (t15 : (List qaB)) (t16 : Int) (t17 : Int)
def qdE : Nat → qmU → Option ((List qaB) × Int)
  | 0, _ => none
  | K + 1, .c0 f m =>
    (qiJ K m).bind fun x1 =>
    bif (decide (x1 = (0 : Int))) then
      some ([], (2 : Int))
    else
      gd (0 ≤ (f.length : Int) ∧ (f.length : Int) ≤ (f.length : Int) ∧ (32 : Int) * (f.length : Int) ≤ 140737488355328) <|
      qdE K (.c1 m (List.replicate (f.length : Int).toNat ((qaB.mk false []) : qaB)) f (f.length : Int) (0 : Int))
  | K + 1, .c1 m r14 t15 t16 t17 =>
    bif (decide (t17 < t16)) then
      (gi t15 t17).bind fun x2 =>
      (qfU K x2 m).bind fun x4 =>
      (gi r14 t17).bind fun _ =>
      qdE K (.c1 m (r14.set (t17.toNat) x4.1) t15 t16 (wI6 (t17 + (1 : Int))))
    else
      (qnE K r14).bind fun x2 =>
      some (x2, (0 : Int))
def qbO (K : Nat) (f : (List qaB)) (m : qaB) : Option ((List qaB) × Int) := qdE K (.c0 f m)
noncomputable def qqN : Code := qbN prog 45
noncomputable def hensel_Reduce_pos : qmU → List Fr
  | .c0 .. => [.code qqN]
  | .c1 .. => [.code (.loop (atC qqN [1,1,1,0,1,0,0])), .blk 0, .code (atC qqN [1,1,1,1])]
def hensel_Reduce_st : qmU → St
  | .c0 f m => St.init [(tl 2 f qaA), (TV.agg (qaA m))]
  | .c1 m r14 t15 t16 t17 => ⟨[(3, .c (C.ptr 3 0)), (6, .c (C.row 14 0 r14.length)), (15, vl 2 t15 qaA), (16, vi .i64 t16), (17, vi .i64 t17)], [(3, .var ((qaA m).map C.t)), (14, .row 45 2 (r14.map qaA) 0)], []⟩
def qu2 (cx : Cx) (c : qmU) (r : ((List qaB) × Int)) : Prop := Wk prog cx (qcT prog 45 [[2], [0]] (TV.tup [(false, [(T.sl 2 (r.1.map qaA))]), (false, [(T.int .i64 r.2)])])) (hensel_Reduce_pos c) .normal (hensel_Reduce_st c)
abbrev qu3 (K : Nat) : Prop := ∀ c r, qdE K c = some r → ∀ cx : Cx, cx.n = 34 → qu2 cx c r
theorem hensel_Reduce_c0 {K} (ih : qu3 K) {cx} (hn : cx.n = 34) {f m} {r} (h : qdE (K + 1) (.c0 f m) = some r) : qu2 cx (.c0 f m) r := by
  rw [qdE] at h
  obtain ⟨x1, h2, h⟩ := qaH h
  rcases qaK h with ⟨h3, h⟩ | ⟨h3, h⟩
  · skip
    have h := Option.some.inj h; subst h
    exact qaN (fuel := 72) [rgG [oo, oo, oo], rgG [oo, opI (.call [[0,1]] [(TV.agg (qaA m))] (ti .i64 x1)), oo], .br true, rgG [oo, oo]] _ hn (by kernel_rfl) (aC (qbC h2) <| aC h3 <| aN)
  · skip
    obtain ⟨h4, h⟩ := qbE h
    exact qaU (fuel := 82) [rgG [oo, oo, oo], rgG [oo, opI (.call [[0,1]] [(TV.agg (qaA m))] (ti .i64 x1)), oo], .br false, rgG [oo, opI (.ln (f.length : Int)), opI (.mk (qaA (qaB.mk false [])) ((List.replicate (f.length : Int).toNat ((qaB.mk false []) : qaB)).map qaA)), oo], rgG [oo, opI (.ln (f.length : Int)), oo], .pre [.rl 6 0 (List.replicate (f.length : Int).toNat ((qaB.mk false []) : qaB)).length, .keep [3,6,15,16,17] [3,14]]] _ hn (by kernel_rfl) (aC (qbC h2) <| aC h3 <| aC (qaT f qaA) <| aC h4.1 <| aC h4.2.1 <| aC h4.2.2 <| aC (qf1 _ _ _ : List.replicate (f.length : Int).toNat (qaA (qaB.mk false [])) = (List.replicate (f.length : Int).toNat ((qaB.mk false []) : qaB)).map qaA) <| aC (qaT f qaA) <| aC r0 <| aC (by simp : (f.length : Int).toNat = (List.replicate (f.length : Int).toNat ((qaB.mk false []) : qaB)).length) <| aN) (ih _ _ h cx hn)
theorem hensel_Reduce_c1 {K} (ih : qu3 K) {cx} (hn : cx.n = 34) {m r14 t15 t16 t17} {r} (h : qdE (K + 1) (.c1 m r14 t15 t16 t17) = some r) : qu2 cx (.c1 m r14 t15 t16 t17) r := by
  rw [qdE] at h
  rcases qaK h with ⟨h1, h⟩ | ⟨h1, h⟩
  · skip
    obtain ⟨x2, h3, h⟩ := qaH h
    obtain ⟨x4, h5, h⟩ := qaH h
    obtain ⟨x6, h7, h⟩ := qaH h
    exact qaU (fuel := 90) [.go, rgG [oo], .br true, rgG [oo, opI (.ix (qaA x2)), oo, oo, oo, oo], rgG [oo, oo, oo, oo, opI (.call [[0,1], [0,1]] [(TV.agg (qaA x2)), (TV.agg (qaA m))] (TV.tup [(true, qaA x4.1), (false, [(T.int .i64 x4.2)])])), oo, oo, oo, .op .ir, opI (.st (qaA x6) ((r14.set (t17.toNat) x4.1).map qaA))], rgG [oo, oo], .pre [.rl 6 0 (r14.set (t17.toNat) x4.1).length, .keep [3,6,15,16,17] [3,14]]] _ hn (by kernel_rfl) (aC h1 <| aC (qa0 h3) <| aC (qbH qaA h3) <| aC (qfN h5) <| aC (qa0 h7) <| aC (qcH h7 (by simp) : t17 < ((r14.length : Nat) : Int)) <| aC (qcG qaA h7 : (r14.map qaA)[(0 + t17.toNat)]? = some (qaA x6)) <| aC (qc7 _ _ x4.1 _ : (r14.map qaA).set (0 + t17.toNat) (qbY (qaA x6) 0 [(T.bool x4.1.Neg), (T.sl 1 (x4.1.Abs.map qaC))]) = (r14.set (t17.toNat) x4.1).map qaA) <| aC (Nat.zero_le _ : 0 ≤ (0 + t17.toNat)) <| aC r0 <| aC (by simp : r14.length = (r14.set (t17.toNat) x4.1).length) <| aN) (ih _ _ h cx hn)
  · skip
    obtain ⟨x2, h3, h⟩ := qaH h
    have h := Option.some.inj h; subst h
    exact qaN (fuel := 78) [.go, rgG [oo], .br false, rgG [oo, .snap 32 (max 0 (0 + r14.length)) (r14.map qaA), opI (.call [[2]] [(tl 2 r14 qaA)] (tl 2 x2 qaA)), oo, oo]] _ hn (by kernel_rfl) (aC h1 <| aC (qbI _ _ _ (by simp) : ((r14.map qaA).drop 0).take r14.length = r14.map qaA) <| aC (rfl : (max 0 (0 + r14.length)) = (max 0 (0 + r14.length))) <| aC (qtE h3) <| aN)
theorem qrM : ∀ K : Nat, qu3 K
  | 0, c, r, h => by rw [qdE] at h; cases h
  | K + 1, .c0 .., r, h => fun cx hn => hensel_Reduce_c0 (qrM K) hn h
  | K + 1, .c1 .., r, h => fun cx hn => hensel_Reduce_c1 (qrM K) hn h
theorem qaV {K : Nat} {f : (List qaB)} {m : qaB} {r : ((List qaB) × Int)} (h : qbO K f m = some r) : qcX prog 45 [(tl 2 f qaA), (TV.agg (qaA m))] (TV.tup [(false, [(T.sl 2 (r.1.map qaA))]), (false, [(T.int .i64 r.2)])]) :=
  qa2 [[2], [0]] (by kernel_rfl) (by simp) fun cx hn => qrM K (.c0 f m) r h cx hn
end Go.Am.X
namespace Go.Am.X
open Go.Proofs.Try (prog)
inductive qlT where
  | c0 (list : (List (List qaB))) (m : qaB)
  | c1 (m : qaB) (out : (List qaB)) (e_v : Int) (t17 : (List (List qaB))) (t18 : Int) (t19 : Int)
  | c2 (m : qaB) (out : (List qaB)) (e_v : Int) (t17 : (List (List qaB))) (t18 : Int) (t19 : Int)
def qbG : Nat → qlT → Option ((List qaB) × Int)
  | 0, _ => none
  | K + 1, .c0 list m =>
    (qo3 K ([(1 : Int)] : List Int)).bind fun x1 =>
    (qbO K x1 m).bind fun x3 =>
    qbG K (.c1 m x3.1 x3.2 list (list.length : Int) (0 : Int))
  | K + 1, .c1 m out e_v t17 t18 t19 =>
    bif (decide (t19 < t18)) then
      (gi t17 t19).bind fun x2 =>
      bif (decide (e_v = (0 : Int))) then
        (qq4 K out x2).bind fun x5 =>
        (qbO K x5 m).bind fun x7 =>
        qbG K (.c2 m x7.1 x7.2 t17 t18 t19)
      else
        qbG K (.c2 m out e_v t17 t18 t19)
    else
      some (out, e_v)
  | K + 1, .c2 m out e_v t17 t18 t19 =>
    qbG K (.c1 m out e_v t17 t18 (wI6 (t19 + (1 : Int))))
def qdS (K : Nat) (list : (List (List qaB))) (m : qaB) : Option ((List qaB) × Int) := qbG K (.c0 list m)
noncomputable def qf8 : Code := qbN prog 46
noncomputable def hensel_Product_pos : qlT → List Fr
  | .c0 .. => [.code qf8]
  | .c1 .. => [.code (.loop (atC qf8 [1,1,0,1,0,0])), .blk 0, .code (atC qf8 [1,1,1])]
  | .c2 .. => [.code (atC qf8 [1,1,0,1,0,0,1,1,1]), .lp (atC qf8 [1,1,0,1,0,0]), .blk 0, .code (atC qf8 [1,1,1])]
def hensel_Product_st : qlT → St
  | .c0 list m => St.init [(tl 1 list qaD), (TV.agg (qaA m))]
  | .c1 m out e_v t17 t18 t19 => ⟨[(3, .c (C.ptr 3 0)), (6, vl 2 out qaA), (7, vi .i64 e_v), (17, vl 1 t17 qaD), (18, vi .i64 t18), (19, vi .i64 t19)], [(3, .var ((qaA m).map C.t))], []⟩
  | .c2 m out e_v t17 t18 t19 => ⟨[(3, .c (C.ptr 3 0)), (6, vl 2 out qaA), (7, vi .i64 e_v), (17, vl 1 t17 qaD), (18, vi .i64 t18), (19, vi .i64 t19)], [(3, .var ((qaA m).map C.t))], []⟩
def qoF (cx : Cx) (c : qlT) (r : ((List qaB) × Int)) : Prop := Wk prog cx (qcT prog 46 [[2], [0]] (TV.tup [(false, [(T.sl 2 (r.1.map qaA))]), (false, [(T.int .i64 r.2)])])) (hensel_Product_pos c) .normal (hensel_Product_st c)
abbrev qoG (K : Nat) : Prop := ∀ c r, qbG K c = some r → ∀ cx : Cx, cx.n = 36 → qoF cx c r
theorem hensel_Product_c0 {K} (ih : qoG K) {cx} (hn : cx.n = 36) {list m} {r} (h : qbG (K + 1) (.c0 list m) = some r) : qoF cx (.c0 list m) r := by
  rw [qbG] at h
  obtain ⟨x1, h2, h⟩ := qaH h
  obtain ⟨x3, h4, h⟩ := qaH h
  exact qaU (fuel := 64) [rgG [oo, oo, oo], .draw [(.litT (([(1 : Int)] : List Int).map qeT)), (.call [[1]] [(TV.c (T.sl 1 (([(1 : Int)] : List Int).map qeT)))] (tl 2 x1 qaA)), .p, (.call [[2], [0,1]] [(tl 2 x1 qaA), (TV.agg (qaA m))] (TV.tup [(false, [(T.sl 2 (x3.1.map qaA))]), (false, [(T.int .i64 x3.2)])])), .p, .p, .p, .p] [.op .p], rgG [oo, opI (.ln (list.length : Int)), oo], .pre [.keep [3,6,7,17,18,19] [3]]] _ hn (by kernel_rfl) (aC (by kernel_rfl : [(T.int .i64 (1 : Int))] = (([(1 : Int)] : List Int).map qeT).flatten) <| aC (qfF h2) <| aC (qaV h4) <| aC (qaT list qaD) <| aN) (ih _ _ h cx hn)
theorem hensel_Product_c1 {K} (ih : qoG K) {cx} (hn : cx.n = 36) {m out e_v t17 t18 t19} {r} (h : qbG (K + 1) (.c1 m out e_v t17 t18 t19) = some r) : qoF cx (.c1 m out e_v t17 t18 t19) r := by
  rw [qbG] at h
  rcases qaK h with ⟨h1, h⟩ | ⟨h1, h⟩
  · skip
    obtain ⟨x2, h3, h⟩ := qaH h
    rcases qaK h with ⟨h4, h⟩ | ⟨h4, h⟩
    · skip
      obtain ⟨x5, h6, h⟩ := qaH h
      obtain ⟨x7, h8, h⟩ := qaH h
      exact qaU (fuel := 96) [.go, rgG [oo], .br true, rgG [opI (.ix (qaD x2)), oo, oo], rgG [oo, oo], .br true, .draw [.p, .p, (.call [[2], [2]] [(tl 2 out qaA), (tl 2 x2 qaA)] (tl 2 x5 qaA)), .p, (.call [[2], [0,1]] [(tl 2 x5 qaA), (TV.agg (qaA m))] (TV.tup [(false, [(T.sl 2 (x7.1.map qaA))]), (false, [(T.int .i64 x7.2)])])), .p, .p, .p, .p] [.op .p], .pre [.keep [3,6,7,17,18,19] [3]]] _ hn (by kernel_rfl) (aC h1 <| aC (qa0 h3) <| aC (qbH qaD h3) <| aC h4 <| aC (qi4 h6) <| aC (qaV h8) <| aN) (ih _ _ h cx hn)
    · skip
      exact qaU (fuel := 92) [.go, rgG [oo], .br true, rgG [opI (.ix (qaD x2)), oo, oo], rgG [oo, oo], .br false, .pre [.keep [3,6,7,17,18,19] [3]]] _ hn (by kernel_rfl) (aC h1 <| aC (qa0 h3) <| aC (qbH qaD h3) <| aC h4 <| aN) (ih _ _ h cx hn)
  · skip
    have h := Option.some.inj h; subst h
    exact qaN (fuel := 78) [.go, rgG [oo], .br false, rgG [oo, oo, oo, oo]] _ hn (by kernel_rfl) (aC h1 <| aN)
theorem hensel_Product_c2 {K} (ih : qoG K) {cx} (hn : cx.n = 36) {m out e_v t17 t18 t19} {r} (h : qbG (K + 1) (.c2 m out e_v t17 t18 t19) = some r) : qoF cx (.c2 m out e_v t17 t18 t19) r := by
  rw [qbG] at h
  exact qaU (fuel := 44) [rgG [oo, oo], .pre [.keep [3,6,7,17,18,19] [3]]] _ hn (by kernel_rfl) aN (ih _ _ h cx hn)
theorem qlS : ∀ K : Nat, qoG K
  | 0, c, r, h => by rw [qbG] at h; cases h
  | K + 1, .c0 .., r, h => fun cx hn => hensel_Product_c0 (qlS K) hn h
  | K + 1, .c1 .., r, h => fun cx hn => hensel_Product_c1 (qlS K) hn h
  | K + 1, .c2 .., r, h => fun cx hn => hensel_Product_c2 (qlS K) hn h
theorem qaZ {K : Nat} {list : (List (List qaB))} {m : qaB} {r : ((List qaB) × Int)} (h : qdS K list m = some r) : qcX prog 46 [(tl 1 list qaD), (TV.agg (qaA m))] (TV.tup [(false, [(T.sl 2 (r.1.map qaA))]), (false, [(T.int .i64 r.2)])]) :=
  qa2 [[2], [0]] (by kernel_rfl) (by simp) fun cx hn => qlS K (.c0 list m) r h cx hn
end Go.Am.X
namespace Go.Am.X
open Go.Proofs.Try (prog)
inductive qd2 where
  | c0 (s : (List Int))
def qdF : Nat → qd2 → Option (List Int)
  | 0, _ => none
  | _ + 1, .c0 s =>
    gd (0 ≤ (s.length : Int) ∧ 0 ≤ (s.length : Int) ∧ (s.length : Int).toNat ≤ (s.length : Int).toNat ∧ (s.length : Int).toNat ≤ s.length) <|
    some (s.take ((s.length : Int).toNat))
def qiU (K : Nat) (s : (List Int)) : Option (List Int) := qdF K (.c0 s)
noncomputable def qm6 : Code := qbN prog 152
noncomputable def qnF : qd2 → List Fr
  | .c0 .. => [.code qm6]
def qoO : qd2 → St
  | .c0 s => St.init [(tl 1 s qaC)]
def qh1 (cx : Cx) (c : qd2) (r : (List Int)) : Prop := Wk prog cx (qcT prog 152 [[1]] (tl 1 r qaC)) (qnF c) .normal (qoO c)
abbrev qh2 (K : Nat) : Prop := ∀ c r, qdF K c = some r → ∀ cx : Cx, cx.n = 9 → qh1 cx c r
theorem qoP {K} (_ : qh2 K) {cx} (hn : cx.n = 9) {s} {r} (h : qdF (K + 1) (.c0 s) = some r) : qh1 cx (.c0 s) r := by
  rw [qdF] at h
  obtain ⟨h1, h⟩ := qbE h
  have h := Option.some.inj h; subst h
  exact qaN (fuel := 54) [rgG [oo], rgG [oo, oo, opI (.ln (s.length : Int)), oo, opI (.ln (s.length : Int)), opI (.slM 0 ((s.length : Int).toNat) ((s.length : Int).toNat) ((s.take ((s.length : Int).toNat)).map qaC)), oo]] _ hn (by kernel_rfl) (aC (qaT s qaC) <| aC (qaT s qaC) <| aC r0 <| aC (⟨h1.1, rfl⟩ : 0 ≤ (s.length : Int) ∧ (s.length : Int).toNat = (s.length : Int).toNat) <| aC (⟨h1.2.1, rfl⟩ : 0 ≤ (s.length : Int) ∧ (s.length : Int).toNat = (s.length : Int).toNat) <| aC (Nat.zero_le _ : 0 ≤ (s.length : Int).toNat) <| aC h1.2.2.1 <| aC (ln_le _ h1.2.2.2 : (s.length : Int).toNat ≤ (s.map qaC).length) <| aC (tk0_map _ _ _ : ((s.map qaC).take ((s.length : Int).toNat)).drop 0 = (s.take ((s.length : Int).toNat)).map qaC) <| aN)
theorem qhG : ∀ K : Nat, qh2 K
  | 0, c, r, h => by rw [qdF] at h; cases h
  | K + 1, .c0 .., r, h => fun cx hn => qoP (qhG K) hn h
theorem qmJ {K : Nat} {s : (List Int)} {r : (List Int)} (h : qiU K s = some r) : qcX prog 152 [(tl 1 s qaC)] (tl 1 r qaC) :=
  qa2 [[1]] (by kernel_rfl) (by simp) fun cx hn => qhG K (.c0 s) r h cx hn
end Go.Am.X
namespace Go.Am.X
open Go.Proofs.Try (prog)
inductive qn3 where
  | c0 (f : (List Int))
  | c1 (f : (List Int)) (n : Int)
  | c2 (f : (List Int)) (n : Int)
def qdY : Nat → qn3 → Option (List Int)
  | 0, _ => none
  | K + 1, .c0 f =>
    qdY K (.c1 f (f.length : Int))
  | K + 1, .c1 f n =>
    bif (decide ((0 : Int) < n)) then
      (gi f (wI6 (n - (1 : Int)))).bind fun x2 =>
      bif (decide (x2 = (0 : Int))) then
        qdY K (.c1 f (wI6 (n - (1 : Int))))
      else
        qdY K (.c2 f n)
    else
      qdY K (.c2 f n)
  | K + 1, .c2 f n =>
    gd (0 ≤ n ∧ 0 ≤ n.toNat ∧ n.toNat ≤ f.length) <|
    (qiU K (f.take n.toNat)).bind fun x2 =>
    some x2
def qiF (K : Nat) (f : (List Int)) : Option (List Int) := qdY K (.c0 f)
noncomputable def qjB : Code := qbN prog 110
noncomputable def modpoly_trim_pos : qn3 → List Fr
  | .c0 .. => [.code qjB]
  | .c1 .. => [.code (.loop (atC qjB [1,1,0,0,0])), .blk 0, .code (atC qjB [1,1,1])]
  | .c2 .. => [.code (atC qjB [1,1,1,0]), .code (atC qjB [1,1,1,1])]
def modpoly_trim_st : qn3 → St
  | .c0 f => St.init [(tl 1 f qaC)]
  | .c1 f n => ⟨[(0, vl 1 f qaC), (3, vi .i64 n)], [], []⟩
  | .c2 f n => ⟨[(0, vl 1 f qaC), (3, vi .i64 n)], [], []⟩
def qr4 (cx : Cx) (c : qn3) (r : (List Int)) : Prop := Wk prog cx (qcT prog 110 [[1]] (tl 1 r qaC)) (modpoly_trim_pos c) .normal (modpoly_trim_st c)
abbrev qr5 (K : Nat) : Prop := ∀ c r, qdY K c = some r → ∀ cx : Cx, cx.n = 22 → qr4 cx c r
theorem modpoly_trim_c0 {K} (ih : qr5 K) {cx} (hn : cx.n = 22) {f} {r} (h : qdY (K + 1) (.c0 f) = some r) : qr4 cx (.c0 f) r := by
  rw [qdY] at h
  exact qaU (fuel := 56) [rgG [oo], rgG [oo, opI (.ln (f.length : Int)), oo], .pre [.keep [0,3] []]] _ hn (by kernel_rfl) (aC (qaT f qaC) <| aN) (ih _ _ h cx hn)
theorem modpoly_trim_c1 {K} (ih : qr5 K) {cx} (hn : cx.n = 22) {f n} {r} (h : qdY (K + 1) (.c1 f n) = some r) : qr4 cx (.c1 f n) r := by
  rw [qdY] at h
  rcases qaK h with ⟨h1, h⟩ | ⟨h1, h⟩
  · skip
    obtain ⟨x2, h3, h⟩ := qaH h
    rcases qaK h with ⟨h4, h⟩ | ⟨h4, h⟩
    · skip
      exact qaU (fuel := 74) [.go, rgG [oo, oo, oo, .sb 8 true, oo, oo, oo, opI (.ix (qaC x2)), oo, oo, oo], .br true, rgG [oo, oo, oo], .pre [.keep [0,3] []]] _ hn (by kernel_rfl) (aC h1 <| aC (qa0 h3) <| aC (qbH qaC h3) <| aC h4 <| aN) (ih _ _ h cx hn)
    · skip
      exact qaU (fuel := 70) [.go, rgG [oo, oo, oo, .sb 8 true, oo, oo, oo, opI (.ix (qaC x2)), oo, oo, oo], .br false, .pre [.keep [0,3] []]] _ hn (by kernel_rfl) (aC h1 <| aC (qa0 h3) <| aC (qbH qaC h3) <| aC h4 <| aN) (ih _ _ h cx hn)
  · skip
    exact qaU (fuel := 70) [.go, rgG [oo, oo, oo, .sb 8 false, oo, oo, oo, oo, oo, oo, oo], .br false, .pre [.keep [0,3] []]] _ hn (by kernel_rfl) (aC h1 <| aC rf <| aN) (ih _ _ h cx hn)
theorem modpoly_trim_c2 {K} (_ : qr5 K) {cx} (hn : cx.n = 22) {f n} {r} (h : qdY (K + 1) (.c2 f n) = some r) : qr4 cx (.c2 f n) r := by
  rw [qdY] at h
  obtain ⟨h1, h⟩ := qbE h
  obtain ⟨x2, h3, h⟩ := qaH h
  have h := Option.some.inj h; subst h
  exact qaN (fuel := 44) [rgG [oo, oo, opI (.slT 0 n.toNat ((f.take n.toNat).map qaC)), opI (.call [[1]] [(TV.c (T.sl 1 ((f.take n.toNat).map qaC)))] (tl 1 x2 qaC)), oo]] _ hn (by kernel_rfl) (aC r0 <| aC (⟨h1.1, rfl⟩ : 0 ≤ n ∧ n.toNat = n.toNat) <| aC h1.2.1 <| aC (ln_le _ h1.2.2 : n.toNat ≤ (f.map qaC).length) <| aC (tk0_map _ _ _ : ((f.map qaC).take n.toNat).drop 0 = (f.take n.toNat).map qaC) <| aC (qmJ h3) <| aN)
theorem qn2 : ∀ K : Nat, qr5 K
  | 0, c, r, h => by rw [qdY] at h; cases h
  | K + 1, .c0 .., r, h => fun cx hn => modpoly_trim_c0 (qn2 K) hn h
  | K + 1, .c1 .., r, h => fun cx hn => modpoly_trim_c1 (qn2 K) hn h
  | K + 1, .c2 .., r, h => fun cx hn => modpoly_trim_c2 (qn2 K) hn h
theorem qe7 {K : Nat} {f : (List Int)} {r : (List Int)} (h : qiF K f = some r) : qcX prog 110 [(tl 1 f qaC)] (tl 1 r qaC) :=
  qa2 [[1]] (by kernel_rfl) (by simp) fun cx hn => qn2 K (.c0 f) r h cx hn
end Go.Am.X
namespace Go.Am.X
open Go.Proofs.Try (prog)
inductive qn1 where
  | c0 (m : Int)
def ql3 : Nat → qn1 → Option Int
  | 0, _ => none
  | _ + 1, .c0 m =>
    some (wU6 (max m (1 : Int)))
def qo5 (K : Nat) (m : Int) : Option Int := ql3 K (.c0 m)
noncomputable def modular_wide_body : Code := qbN prog 183
noncomputable def modular_wide_pos : qn1 → List Fr
  | .c0 .. => [.code modular_wide_body]
def modular_wide_st : qn1 → St
  | .c0 m => St.init [(ti .u32 m)]
def modular_wide_S (cx : Cx) (c : qn1) (r : Int) : Prop := Wk prog cx (qcT prog 183 [[0]] (ti .u64 r)) (modular_wide_pos c) .normal (modular_wide_st c)
abbrev modular_wide_H (K : Nat) : Prop := ∀ c r, ql3 K c = some r → ∀ cx : Cx, cx.n = 6 → modular_wide_S cx c r
theorem modular_wide_c0 {K} (_ : modular_wide_H K) {cx} (hn : cx.n = 6) {m} {r} (h : ql3 (K + 1) (.c0 m) = some r) : modular_wide_S cx (.c0 m) r := by
  rw [ql3] at h
  have h := Option.some.inj h; subst h
  exact qaN (fuel := 54) [rgG [oo], rgG [oo, oo, oo, oo]] _ hn (by kernel_rfl) aN
theorem modular_wide_all : ∀ K : Nat, modular_wide_H K
  | 0, c, r, h => by rw [ql3] at h; cases h
  | K + 1, .c0 .., r, h => fun cx hn => modular_wide_c0 (modular_wide_all K) hn h
theorem qgW {K : Nat} {m : Int} {r : Int} (h : qo5 K m = some r) : qcX prog 183 [(ti .u32 m)] (ti .u64 r) :=
  qa2 [[0]] (by kernel_rfl) (by simp) fun cx hn => modular_wide_all K (.c0 m) r h cx hn
end Go.Am.X
namespace Go.Am.X
open Go.Proofs.Try (prog)
inductive qp1 where
  | c0 (a : Int) (b : Int) (m : Int)
def qnK : Nat → qp1 → Option Int
  | 0, _ => none
  | K + 1, .c0 a b m =>
    (qo5 K m).bind fun x1 =>
    gd (x1 ≠ 0) <|
    some (wU3 (Int.tmod (wU6 ((wU6 a) + (wU6 b))) x1))
def modular_Add (K : Nat) (a : Int) (b : Int) (m : Int) : Option Int := qnK K (.c0 a b m)
noncomputable def modular_Add_body : Code := qbN prog 163
noncomputable def modular_Add_pos : qp1 → List Fr
  | .c0 .. => [.code modular_Add_body]
def modular_Add_st : qp1 → St
  | .c0 a b m => St.init [(ti .u32 a), (ti .u32 b), (ti .u32 m)]
def modular_Add_S (cx : Cx) (c : qp1) (r : Int) : Prop := Wk prog cx (qcT prog 163 [[0]] (ti .u32 r)) (modular_Add_pos c) .normal (modular_Add_st c)
abbrev modular_Add_H (K : Nat) : Prop := ∀ c r, qnK K c = some r → ∀ cx : Cx, cx.n = 16 → modular_Add_S cx c r
theorem modular_Add_c0 {K} (_ : modular_Add_H K) {cx} (hn : cx.n = 16) {a b m} {r} (h : qnK (K + 1) (.c0 a b m) = some r) : modular_Add_S cx (.c0 a b m) r := by
  rw [qnK] at h
  obtain ⟨x1, h2, h⟩ := qaH h
  obtain ⟨h3, h⟩ := qbE h
  have h := Option.some.inj h; subst h
  exact qaN (fuel := 54) [rgG [oo], rgG [oo, oo, oo, oo, oo, oo, opI (.call [[0]] [(ti .u32 m)] (ti .u64 x1)), .op .dv, oo, oo]] _ hn (by kernel_rfl) (aC (qgW h2) <| aC h3 <| aN)
theorem modular_Add_all : ∀ K : Nat, modular_Add_H K
  | 0, c, r, h => by rw [qnK] at h; cases h
  | K + 1, .c0 .., r, h => fun cx hn => modular_Add_c0 (modular_Add_all K) hn h
theorem modular_Add_holds {K : Nat} {a : Int} {b : Int} {m : Int} {r : Int} (h : modular_Add K a b m = some r) : qcX prog 163 [(ti .u32 a), (ti .u32 b), (ti .u32 m)] (ti .u32 r) :=
  qa2 [[0]] (by kernel_rfl) (by simp) fun cx hn => modular_Add_all K (.c0 a b m) r h cx hn
end Go.Am.X
namespace Go.Am.X
open Go.Proofs.Try (prog)
inductive qlL where
  | c0 (f : (List Int)) (m : Int)
  | c1 (r9 : (List Int)) (f : (List Int)) (m : Int) (t11 : Int) (t12 : Int)
def qe0 : Nat → qlL → Option (List Int)
  | 0, _ => none
  | K + 1, .c0 f m =>
    gd (0 ≤ (f.length : Int) ∧ (f.length : Int) ≤ (f.length : Int) ∧ (4 : Int) * (f.length : Int) ≤ 140737488355328) <|
    qe0 K (.c1 (List.replicate (f.length : Int).toNat ((0 : Int) : Int)) f m (f.length : Int) (0 : Int))
  | K + 1, .c1 r9 f m t11 t12 =>
    bif (decide (t12 < t11)) then
      (gi f t12).bind fun x2 =>
      (modular_Add K x2 (0 : Int) m).bind fun x4 =>
      (gi r9 t12).bind fun _ =>
      qe0 K (.c1 (r9.set (t12.toNat) x4) f m t11 (wI6 (t12 + (1 : Int))))
    else
      (qiF K r9).bind fun x2 =>
      some x2
def qfD (K : Nat) (f : (List Int)) (m : Int) : Option (List Int) := qe0 K (.c0 f m)
noncomputable def qoY : Code := qbN prog 161
noncomputable def modpoly_Normal_pos : qlL → List Fr
  | .c0 .. => [.code qoY]
  | .c1 .. => [.code (.loop (atC qoY [1,1,0,1,0,0])), .blk 0, .code (atC qoY [1,1,1])]
def modpoly_Normal_st : qlL → St
  | .c0 f m => St.init [(tl 1 f qaC), (ti .u32 m)]
  | .c1 r9 f m t11 t12 => ⟨[(0, vl 1 f qaC), (1, vi .u32 m), (5, .c (C.row 9 0 r9.length)), (11, vi .i64 t11), (12, vi .i64 t12)], [(9, .row 101 1 (r9.map qaC) 0)], []⟩
def qs5 (cx : Cx) (c : qlL) (r : (List Int)) : Prop := Wk prog cx (qcT prog 161 [[1]] (tl 1 r qaC)) (modpoly_Normal_pos c) .normal (modpoly_Normal_st c)
abbrev qs6 (K : Nat) : Prop := ∀ c r, qe0 K c = some r → ∀ cx : Cx, cx.n = 27 → qs5 cx c r
theorem modpoly_Normal_c0 {K} (ih : qs6 K) {cx} (hn : cx.n = 27) {f m} {r} (h : qe0 (K + 1) (.c0 f m) = some r) : qs5 cx (.c0 f m) r := by
  rw [qe0] at h
  obtain ⟨h1, h⟩ := qbE h
  exact qaU (fuel := 64) [rgG [oo], rgG [oo, opI (.ln (f.length : Int)), opI (.mk (qaC (0 : Int)) ((List.replicate (f.length : Int).toNat ((0 : Int) : Int)).map qaC)), oo], rgG [oo, opI (.ln (f.length : Int)), oo], .pre [.rl 5 0 (List.replicate (f.length : Int).toNat ((0 : Int) : Int)).length, .keep [0,1,5,11,12] [9]]] _ hn (by kernel_rfl) (aC (qaT f qaC) <| aC h1.1 <| aC h1.2.1 <| aC h1.2.2 <| aC (qf1 _ _ _ : List.replicate (f.length : Int).toNat (qaC (0 : Int)) = (List.replicate (f.length : Int).toNat ((0 : Int) : Int)).map qaC) <| aC (qaT f qaC) <| aC r0 <| aC (by simp : (f.length : Int).toNat = (List.replicate (f.length : Int).toNat ((0 : Int) : Int)).length) <| aN) (ih _ _ h cx hn)
theorem modpoly_Normal_c1 {K} (ih : qs6 K) {cx} (hn : cx.n = 27) {r9 f m t11 t12} {r} (h : qe0 (K + 1) (.c1 r9 f m t11 t12) = some r) : qs5 cx (.c1 r9 f m t11 t12) r := by
  rw [qe0] at h
  rcases qaK h with ⟨h1, h⟩ | ⟨h1, h⟩
  · skip
    obtain ⟨x2, h3, h⟩ := qaH h
    obtain ⟨x4, h5, h⟩ := qaH h
    obtain ⟨x6, h7, h⟩ := qaH h
    exact qaU (fuel := 90) [.go, rgG [oo], .br true, rgG [oo, oo], rgG [oo, oo, oo, oo, opI (.ix (qaC x2)), oo, oo, opI (.call [[0], [0], [0]] [(ti .u32 x2), (TV.c (T.int .u32 (0 : Int))), (ti .u32 m)] (ti .u32 x4)), .op .ir, opI (.st (qaC x6) ((r9.set (t12.toNat) x4).map qaC))], rgG [oo, oo], .pre [.rl 5 0 (r9.set (t12.toNat) x4).length, .keep [0,1,5,11,12] [9]]] _ hn (by kernel_rfl) (aC h1 <| aC (qa0 h3) <| aC (qbH qaC h3) <| aC (modular_Add_holds h5) <| aC (qa0 h7) <| aC (qcH h7 (by simp) : t12 < ((r9.length : Nat) : Int)) <| aC (qcG qaC h7 : (r9.map qaC)[(0 + t12.toNat)]? = some (qaC x6)) <| aC (qc7 _ _ x4 _ : (r9.map qaC).set (0 + t12.toNat) (qbY (qaC x6) 0 [(T.int .u32 x4)]) = (r9.set (t12.toNat) x4).map qaC) <| aC (Nat.zero_le _ : 0 ≤ (0 + t12.toNat)) <| aC r0 <| aC (by simp : r9.length = (r9.set (t12.toNat) x4).length) <| aN) (ih _ _ h cx hn)
  · skip
    obtain ⟨x2, h3, h⟩ := qaH h
    have h := Option.some.inj h; subst h
    exact qaN (fuel := 78) [.go, rgG [oo], .br false, rgG [oo, .snap 25 (max 0 (0 + r9.length)) (r9.map qaC), opI (.call [[1]] [(tl 1 r9 qaC)] (tl 1 x2 qaC)), oo]] _ hn (by kernel_rfl) (aC h1 <| aC (qbI _ _ _ (by simp) : ((r9.map qaC).drop 0).take r9.length = r9.map qaC) <| aC (rfl : (max 0 (0 + r9.length)) = (max 0 (0 + r9.length))) <| aC (qe7 h3) <| aN)
theorem qp7 : ∀ K : Nat, qs6 K
  | 0, c, r, h => by rw [qe0] at h; cases h
  | K + 1, .c0 .., r, h => fun cx hn => modpoly_Normal_c0 (qp7 K) hn h
  | K + 1, .c1 .., r, h => fun cx hn => modpoly_Normal_c1 (qp7 K) hn h
theorem qbK {K : Nat} {f : (List Int)} {m : Int} {r : (List Int)} (h : qfD K f m = some r) : qcX prog 161 [(tl 1 f qaC), (ti .u32 m)] (tl 1 r qaC) :=
  qa2 [[1]] (by kernel_rfl) (by simp) fun cx hn => qp7 K (.c0 f m) r h cx hn
end Go.Am.X
namespace Go.Am.X
open Go.Proofs.Try (prog)
inductive qlN where
  | c0 (f : (List Int)) (m : Int)
def qjG : Nat → qlN → Option Int
  | 0, _ => none
  | K + 1, .c0 f m =>
    (qfD K f m).bind fun x1 =>
    some (wI6 ((x1.length : Int) - (1 : Int)))
def modpoly_Degree (K : Nat) (f : (List Int)) (m : Int) : Option Int := qjG K (.c0 f m)
noncomputable def modpoly_Degree_body : Code := qbN prog 122
noncomputable def modpoly_Degree_pos : qlN → List Fr
  | .c0 .. => [.code modpoly_Degree_body]
def modpoly_Degree_st : qlN → St
  | .c0 f m => St.init [(tl 1 f qaC), (ti .u32 m)]
def modpoly_Degree_S (cx : Cx) (c : qlN) (r : Int) : Prop := Wk prog cx (qcT prog 122 [[0]] (ti .i64 r)) (modpoly_Degree_pos c) .normal (modpoly_Degree_st c)
abbrev modpoly_Degree_H (K : Nat) : Prop := ∀ c r, qjG K c = some r → ∀ cx : Cx, cx.n = 10 → modpoly_Degree_S cx c r
theorem modpoly_Degree_c0 {K} (_ : modpoly_Degree_H K) {cx} (hn : cx.n = 10) {f m} {r} (h : qjG (K + 1) (.c0 f m) = some r) : modpoly_Degree_S cx (.c0 f m) r := by
  rw [qjG] at h
  obtain ⟨x1, h2, h⟩ := qaH h
  have h := Option.some.inj h; subst h
  exact qaN (fuel := 54) [rgG [oo], rgG [oo, oo, opI (.call [[1], [0]] [(tl 1 f qaC), (ti .u32 m)] (tl 1 x1 qaC)), opI (.ln (x1.length : Int)), oo, oo]] _ hn (by kernel_rfl) (aC (qbK h2) <| aC (qaT x1 qaC) <| aN)
theorem qvP : ∀ K : Nat, modpoly_Degree_H K
  | 0, c, r, h => by rw [qjG] at h; cases h
  | K + 1, .c0 .., r, h => fun cx hn => modpoly_Degree_c0 (qvP K) hn h
theorem qtF {K : Nat} {f : (List Int)} {m : Int} {r : Int} (h : modpoly_Degree K f m = some r) : qcX prog 122 [(tl 1 f qaC), (ti .u32 m)] (ti .i64 r) :=
  qa2 [[0]] (by kernel_rfl) (by simp) fun cx hn => qvP K (.c0 f m) r h cx hn
end Go.Am.X
namespace Go.Am.X
open Go.Proofs.Try (prog)
inductive qj6 where
  | c0 (a : Int) (m : Int)
  | c1 (n : Int) (r_v : Int) (s : Int) (u : Int) (v : Int)
def qeL : Nat → qj6 → Option (Int × Int)
  | 0, _ => none
  | K + 1, .c0 a m =>
    (qo5 K m).bind fun x1 =>
    gd ((wI6 x1) ≠ 0) <|
    qeL K (.c1 (wI6 x1) (wI6 x1) (Int.tmod (wI6 a) (wI6 x1)) (0 : Int) (1 : Int))
  | K + 1, .c1 n r_v s u v =>
    bif (!decide (s = (0 : Int))) then
      gd (s ≠ 0) <|
      qeL K (.c1 n s (wI6 (r_v - (wI6 ((wI6 (Int.tdiv r_v s)) * s)))) v (wI6 (u - (wI6 ((wI6 (Int.tdiv r_v s)) * v)))))
    else
      bif (!decide (r_v = (1 : Int))) then
        some ((0 : Int), (5 : Int))
      else
        gd (n ≠ 0) <|
        gd (n ≠ 0) <|
        some ((wU3 (Int.tmod (wI6 ((Int.tmod u n) + n)) n)), (0 : Int))
def qd8 (K : Nat) (a : Int) (m : Int) : Option (Int × Int) := qeL K (.c0 a m)
noncomputable def qnA : Code := qbN prog 159
noncomputable def modular_Inverse_pos : qj6 → List Fr
  | .c0 .. => [.code qnA]
  | .c1 .. => [.code (.loop (atC qnA [1,1,1,1,0,0,0])), .blk 0, .code (atC qnA [1,1,1,1,1])]
def modular_Inverse_st : qj6 → St
  | .c0 a m => St.init [(ti .u32 a), (ti .u32 m)]
  | .c1 n r_v s u v => ⟨[(6, vi .i64 n), (7, vi .i64 r_v), (8, vi .i64 s), (9, vi .i64 u), (10, vi .i64 v)], [], []⟩
def qrF (cx : Cx) (c : qj6) (r : (Int × Int)) : Prop := Wk prog cx (qcT prog 159 [[0], [0]] (TV.tup [(false, [(T.int .u32 r.1)]), (false, [(T.int .i64 r.2)])])) (modular_Inverse_pos c) .normal (modular_Inverse_st c)
abbrev qrG (K : Nat) : Prop := ∀ c r, qeL K c = some r → ∀ cx : Cx, cx.n = 47 → qrF cx c r
theorem modular_Inverse_c0 {K} (ih : qrG K) {cx} (hn : cx.n = 47) {a m} {r} (h : qeL (K + 1) (.c0 a m) = some r) : qrF cx (.c0 a m) r := by
  rw [qeL] at h
  obtain ⟨x1, h2, h⟩ := qaH h
  obtain ⟨h3, h⟩ := qbE h
  exact qaU (fuel := 72) [rgG [oo, oo], rgG [oo, opI (.call [[0]] [(ti .u32 m)] (ti .u64 x1)), oo, oo], .draw [.p, .p, .p, .p, .dv, .p] [.op .p], rgG [oo, oo], .pre [.keep [6,7,8,9,10] []]] _ hn (by kernel_rfl) (aC (qgW h2) <| aC h3 <| aN) (ih _ _ h cx hn)
theorem modular_Inverse_c1 {K} (ih : qrG K) {cx} (hn : cx.n = 47) {n r_v s u v} {r} (h : qeL (K + 1) (.c1 n r_v s u v) = some r) : qrF cx (.c1 n r_v s u v) r := by
  rw [qeL] at h
  rcases qaK h with ⟨h1, h⟩ | ⟨h1, h⟩
  · skip
    obtain ⟨h2, h⟩ := qbE h
    exact qaU (fuel := 90) [.go, rgG [oo, oo], .br true, rgG [oo, oo, .op .dv, oo], rgG [oo, oo, oo, oo, oo, oo, oo, oo], rgG [oo, oo, oo, oo, oo, oo, oo, oo], .pre [.keep [6,7,8,9,10] []]] _ hn (by kernel_rfl) (aC h1 <| aC h2 <| aN) (ih _ _ h cx hn)
  · skip
    rcases qaK h with ⟨h2, h⟩ | ⟨h2, h⟩
    · skip
      have h := Option.some.inj h; subst h
      exact qaN (fuel := 96) [.go, rgG [oo, oo], .br false, rgG [oo, oo], .br true, rgG [oo, oo]] _ hn (by kernel_rfl) (aC h1 <| aC h2 <| aN)
    · skip
      obtain ⟨h3, h⟩ := qbE h
      obtain ⟨h4, h⟩ := qbE h
      have h := Option.some.inj h; subst h
      exact qaN (fuel := 96) [.go, rgG [oo, oo], .br false, rgG [oo, oo], .br false, rgG [oo, oo, .op .dv, oo, oo, oo, .op .dv, oo, oo, oo]] _ hn (by kernel_rfl) (aC h1 <| aC h2 <| aC h3 <| aC h4 <| aN)
theorem qoT : ∀ K : Nat, qrG K
  | 0, c, r, h => by rw [qeL] at h; cases h
  | K + 1, .c0 .., r, h => fun cx hn => modular_Inverse_c0 (qoT K) hn h
  | K + 1, .c1 .., r, h => fun cx hn => modular_Inverse_c1 (qoT K) hn h
theorem qcY {K : Nat} {a : Int} {m : Int} {r : (Int × Int)} (h : qd8 K a m = some r) : qcX prog 159 [(ti .u32 a), (ti .u32 m)] (TV.tup [(false, [(T.int .u32 r.1)]), (false, [(T.int .i64 r.2)])]) :=
  qa2 [[0], [0]] (by kernel_rfl) (by simp) fun cx hn => qoT K (.c0 a m) r h cx hn
end Go.Am.X
namespace Go.Am.X
open Go.Proofs.Try (prog)
inductive qp0 where
  | c0 (a : Int) (b : Int) (m : Int)
def qnJ : Nat → qp0 → Option Int
  | 0, _ => none
  | K + 1, .c0 a b m =>
    (qo5 K m).bind fun x1 =>
    gd (x1 ≠ 0) <|
    some (wU3 (Int.tmod (wU6 ((wU6 a) * (wU6 b))) x1))
def qiO (K : Nat) (a : Int) (b : Int) (m : Int) : Option Int := qnJ K (.c0 a b m)
noncomputable def modular_Mul_body : Code := qbN prog 164
noncomputable def modular_Mul_pos : qp0 → List Fr
  | .c0 .. => [.code modular_Mul_body]
def modular_Mul_st : qp0 → St
  | .c0 a b m => St.init [(ti .u32 a), (ti .u32 b), (ti .u32 m)]
def modular_Mul_S (cx : Cx) (c : qp0) (r : Int) : Prop := Wk prog cx (qcT prog 164 [[0]] (ti .u32 r)) (modular_Mul_pos c) .normal (modular_Mul_st c)
abbrev modular_Mul_H (K : Nat) : Prop := ∀ c r, qnJ K c = some r → ∀ cx : Cx, cx.n = 16 → modular_Mul_S cx c r
theorem modular_Mul_c0 {K} (_ : modular_Mul_H K) {cx} (hn : cx.n = 16) {a b m} {r} (h : qnJ (K + 1) (.c0 a b m) = some r) : modular_Mul_S cx (.c0 a b m) r := by
  rw [qnJ] at h
  obtain ⟨x1, h2, h⟩ := qaH h
  obtain ⟨h3, h⟩ := qbE h
  have h := Option.some.inj h; subst h
  exact qaN (fuel := 54) [rgG [oo], rgG [oo, oo, oo, oo, oo, oo, opI (.call [[0]] [(ti .u32 m)] (ti .u64 x1)), .op .dv, oo, oo]] _ hn (by kernel_rfl) (aC (qgW h2) <| aC h3 <| aN)
theorem modular_Mul_all : ∀ K : Nat, modular_Mul_H K
  | 0, c, r, h => by rw [qnJ] at h; cases h
  | K + 1, .c0 .., r, h => fun cx hn => modular_Mul_c0 (modular_Mul_all K) hn h
theorem qeE {K : Nat} {a : Int} {b : Int} {m : Int} {r : Int} (h : qiO K a b m = some r) : qcX prog 164 [(ti .u32 a), (ti .u32 b), (ti .u32 m)] (ti .u32 r) :=
  qa2 [[0]] (by kernel_rfl) (by simp) fun cx hn => modular_Mul_all K (.c0 a b m) r h cx hn
end Go.Am.X
namespace Go.Am.X
open Go.Proofs.Try (prog)
inductive qpX where
  | c0 (a : Int) (b : Int) (m : Int)
def qnI : Nat → qpX → Option Int
  | 0, _ => none
  | K + 1, .c0 a b m =>
    (qo5 K m).bind fun x1 =>
    gd (x1 ≠ 0) <|
    gd (x1 ≠ 0) <|
    gd (x1 ≠ 0) <|
    some (wU3 (Int.tmod (wU6 ((wU6 ((Int.tmod (wU6 a) x1) + x1)) - (Int.tmod (wU6 b) x1))) x1))
def modular_Sub (K : Nat) (a : Int) (b : Int) (m : Int) : Option Int := qnI K (.c0 a b m)
noncomputable def modular_Sub_body : Code := qbN prog 184
noncomputable def modular_Sub_pos : qpX → List Fr
  | .c0 .. => [.code modular_Sub_body]
def modular_Sub_st : qpX → St
  | .c0 a b m => St.init [(ti .u32 a), (ti .u32 b), (ti .u32 m)]
def modular_Sub_S (cx : Cx) (c : qpX) (r : Int) : Prop := Wk prog cx (qcT prog 184 [[0]] (ti .u32 r)) (modular_Sub_pos c) .normal (modular_Sub_st c)
abbrev modular_Sub_H (K : Nat) : Prop := ∀ c r, qnI K c = some r → ∀ cx : Cx, cx.n = 24 → modular_Sub_S cx c r
theorem modular_Sub_c0 {K} (_ : modular_Sub_H K) {cx} (hn : cx.n = 24) {a b m} {r} (h : qnI (K + 1) (.c0 a b m) = some r) : modular_Sub_S cx (.c0 a b m) r := by
  rw [qnI] at h
  obtain ⟨x1, h2, h⟩ := qaH h
  obtain ⟨h3, h⟩ := qbE h
  obtain ⟨h4, h⟩ := qbE h
  obtain ⟨h5, h⟩ := qbE h
  have h := Option.some.inj h; subst h
  exact qaN (fuel := 62) [rgG [oo], rgG [oo, opI (.call [[0]] [(ti .u32 m)] (ti .u64 x1)), oo], .draw [.p, .p, .p, .dv, .p, .p, .p, .p, .p, .dv, .p, .p] [.op .dv, .op .p, .op .p]] _ hn (by kernel_rfl) (aC (qgW h2) <| aC h3 <| aC h4 <| aC h5 <| aN)
theorem modular_Sub_all : ∀ K : Nat, modular_Sub_H K
  | 0, c, r, h => by rw [qnI] at h; cases h
  | K + 1, .c0 .., r, h => fun cx hn => modular_Sub_c0 (modular_Sub_all K) hn h
theorem modular_Sub_holds {K : Nat} {a : Int} {b : Int} {m : Int} {r : Int} (h : modular_Sub K a b m = some r) : qcX prog 184 [(ti .u32 a), (ti .u32 b), (ti .u32 m)] (ti .u32 r) :=
  qa2 [[0]] (by kernel_rfl) (by simp) fun cx hn => modular_Sub_all K (.c0 a b m) r h cx hn
end Go.Am.X
namespace Go.Am.X
open Go.Proofs.Try (prog)
inductive qlH where
  | c0 (f : (List Int)) (g : (List Int)) (p : Int)
  | c1 (r17 : (List Int)) (r45 : (List Int)) (g : (List Int)) (p : Int) (inv : Int) (k : Int)
  | c2 (r17 : (List Int)) (r45 : (List Int)) (g : (List Int)) (p : Int) (inv : Int) (k : Int) (c : Int) (t69 : Int) (t70 : Int)
def qc9 : Nat → qlH → Option ((List Int) × (List Int))
  | 0, _ => none
  | K + 1, .c0 f g p =>
    gd (0 ≤ (f.length : Int) ∧ (f.length : Int) ≤ (f.length : Int) ∧ (4 : Int) * (f.length : Int) ≤ 140737488355328) <|
    gd (0 + (f.length : Int).toNat ≤ (List.replicate (f.length : Int).toNat ((0 : Int) : Int)).length) <|
    bif (decide ((f.length : Int) < (g.length : Int))) then
      (qiF K (qd6 (List.replicate (f.length : Int).toNat ((0 : Int) : Int)) 0 ((f.length : Int).toNat) f)).bind fun x4 =>
      some ([], x4)
    else
      (gi g (wI6 ((g.length : Int) - (1 : Int)))).bind fun x4 =>
      (qd8 K x4 p).bind fun x6 =>
      gd (0 ≤ (wI6 ((wI6 ((f.length : Int) - (g.length : Int))) + (1 : Int))) ∧ (wI6 ((wI6 ((f.length : Int) - (g.length : Int))) + (1 : Int))) ≤ (wI6 ((wI6 ((f.length : Int) - (g.length : Int))) + (1 : Int))) ∧ (4 : Int) * (wI6 ((wI6 ((f.length : Int) - (g.length : Int))) + (1 : Int))) ≤ 140737488355328) <|
      qc9 K (.c1 (qd6 (List.replicate (f.length : Int).toNat ((0 : Int) : Int)) 0 ((f.length : Int).toNat) f) (List.replicate (wI6 ((wI6 ((f.length : Int) - (g.length : Int))) + (1 : Int))).toNat ((0 : Int) : Int)) g p x6.1 (wI6 ((((wI6 ((wI6 ((f.length : Int) - (g.length : Int))) + (1 : Int))).toNat : Nat) : Int) - (1 : Int))))
  | K + 1, .c1 r17 r45 g p inv k =>
    bif (decide ((0 : Int) ≤ k)) then
      (gi r17 (wI6 ((wI6 (k + (g.length : Int))) - (1 : Int)))).bind fun x2 =>
      (qiO K x2 inv p).bind fun x4 =>
      (gi r45 k).bind fun _ =>
      qc9 K (.c2 r17 (r45.set (k.toNat) x4) g p inv k x4 (g.length : Int) (0 : Int))
    else
      (qiF K r45).bind fun x2 =>
      (qiF K r17).bind fun x4 =>
      some (x2, x4)
  | K + 1, .c2 r17 r45 g p inv k c t69 t70 =>
    bif (decide (t70 < t69)) then
      (gi r17 (wI6 (k + t70))).bind fun x2 =>
      (gi g t70).bind fun x4 =>
      (qiO K c x4 p).bind fun x6 =>
      (modular_Sub K x2 x6 p).bind fun x8 =>
      (gi r17 (wI6 (k + t70))).bind fun _ =>
      qc9 K (.c2 (r17.set ((wI6 (k + t70)).toNat) x8) r45 g p inv k c t69 (wI6 (t70 + (1 : Int))))
    else
      qc9 K (.c1 r17 r45 g p inv (wI6 (k - (1 : Int))))
def qeF (K : Nat) (f : (List Int)) (g : (List Int)) (p : Int) : Option ((List Int) × (List Int)) := qc9 K (.c0 f g p)
noncomputable def qfK : Code := qbN prog 162
noncomputable def modpoly_divide_pos : qlH → List Fr
  | .c0 .. => [.code qfK]
  | .c1 .. => [.code (.loop (atC qfK [1,1,1,1,1,1,0,1,0,0])), .blk 0, .code (atC qfK [1,1,1,1,1,1,1])]
  | .c2 .. => [.code (.loop (atC qfK [1,1,1,1,1,1,0,1,0,0,1,0,0,1,1,1,0,0])), .blk 2, .blk 1, .code (atC qfK [1,1,1,1,1,1,0,1,0,0,1,1]), .lp (atC qfK [1,1,1,1,1,1,0,1,0,0]), .blk 0, .code (atC qfK [1,1,1,1,1,1,1])]
def modpoly_divide_st : qlH → St
  | .c0 f g p => St.init [(tl 1 f qaC), (tl 1 g qaC), (ti .u32 p)]
  | .c1 r17 r45 g p inv k => ⟨[(1, vl 1 g qaC), (2, vi .u32 p), (8, .c (C.row 17 0 r17.length)), (9, vi .u32 inv), (11, .c (C.row 45 0 r45.length)), (12, vi .i64 k)], [(17, .row 101 1 (r17.map qaC) 0), (45, .row 101 1 (r45.map qaC) 0)], []⟩
  | .c2 r17 r45 g p inv k c t69 t70 => ⟨[(1, vl 1 g qaC), (2, vi .u32 p), (8, .c (C.row 17 0 r17.length)), (9, vi .u32 inv), (11, .c (C.row 45 0 r45.length)), (12, vi .i64 k), (13, vi .u32 c), (69, vi .i64 t69), (70, vi .i64 t70)], [(17, .row 101 1 (r17.map qaC) 0), (45, .row 101 1 (r45.map qaC) 0)], []⟩
def qn4 (cx : Cx) (c : qlH) (r : ((List Int) × (List Int))) : Prop := Wk prog cx (qcT prog 162 [[1], [1]] (TV.tup [(false, [(T.sl 1 (r.1.map qaC))]), (false, [(T.sl 1 (r.2.map qaC))])])) (modpoly_divide_pos c) .normal (modpoly_divide_st c)
abbrev qn5 (K : Nat) : Prop := ∀ c r, qc9 K c = some r → ∀ cx : Cx, cx.n = 98 → qn4 cx c r
theorem modpoly_divide_c0 {K} (ih : qn5 K) {cx} (hn : cx.n = 98) {f g p} {r} (h : qc9 (K + 1) (.c0 f g p) = some r) : qn4 cx (.c0 f g p) r := by
  rw [qc9] at h
  obtain ⟨h1, h⟩ := qbE h
  obtain ⟨h2, h⟩ := qbE h
  rcases qaK h with ⟨h3, h⟩ | ⟨h3, h⟩
  · skip
    obtain ⟨x4, h5, h⟩ := qaH h
    have h := Option.some.inj h; subst h
    exact qaN (fuel := 88) [rgG [oo, oo], rgG [oo, opI (.ln (f.length : Int)), opI (.mk (qaC (0 : Int)) ((List.replicate (f.length : Int).toNat ((0 : Int) : Int)).map qaC)), oo], rgG [oo, oo, opI (.cp (f.map qaC) ((qd6 (List.replicate (f.length : Int).toNat ((0 : Int) : Int)) 0 ((f.length : Int).toNat) f).map qaC) ((min f.length ((f.length : Int).toNat) : Nat) : Int))], rgG [oo, opI (.ln (f.length : Int)), oo, opI (.ln (g.length : Int)), oo], .br true, rgG [oo, .snap 26 (max 0 (0 + (f.length : Int).toNat)) ((qd6 (List.replicate (f.length : Int).toNat ((0 : Int) : Int)) 0 ((f.length : Int).toNat) f).map qaC), opI (.call [[1]] [(TV.c (T.sl 1 ((qd6 (List.replicate (f.length : Int).toNat ((0 : Int) : Int)) 0 ((f.length : Int).toNat) f).map qaC)))] (tl 1 x4 qaC)), oo, oo]] _ hn (by kernel_rfl) (aC (qaT f qaC) <| aC h1.1 <| aC h1.2.1 <| aC h1.2.2 <| aC (qf1 _ _ _ : List.replicate (f.length : Int).toNat (qaC (0 : Int)) = (List.replicate (f.length : Int).toNat ((0 : Int) : Int)).map qaC) <| aC (rfl : f.map qaC = f.map qaC) <| aC (qrU _ _ _ _ _ h2 : qbY ((List.replicate (f.length : Int).toNat ((0 : Int) : Int)).map qaC) 0 ((f.map qaC).take (min (f.map qaC).length ((f.length : Int).toNat))) = (qd6 (List.replicate (f.length : Int).toNat ((0 : Int) : Int)) 0 ((f.length : Int).toNat) f).map qaC) <| aC (by rw [qc4] : ((min (f.map qaC).length ((f.length : Int).toNat) : Nat) : Int) = ((min f.length ((f.length : Int).toNat) : Nat) : Int)) <| aC (qaT f qaC) <| aC (qaT g qaC) <| aC h3 <| aC (qbI _ _ _ (by simp) : (((qd6 (List.replicate (f.length : Int).toNat ((0 : Int) : Int)) 0 ((f.length : Int).toNat) f).map qaC).drop 0).take ((f.length : Int).toNat) = (qd6 (List.replicate (f.length : Int).toNat ((0 : Int) : Int)) 0 ((f.length : Int).toNat) f).map qaC) <| aC (rfl : (max 0 (0 + (f.length : Int).toNat)) = (max 0 (0 + (f.length : Int).toNat))) <| aC (qe7 h5) <| aN)
  · skip
    obtain ⟨x4, h5, h⟩ := qaH h
    obtain ⟨x6, h7, h⟩ := qaH h
    obtain ⟨h8, h⟩ := qbE h
    exact qaU (fuel := 106) [rgG [oo, oo], rgG [oo, opI (.ln (f.length : Int)), opI (.mk (qaC (0 : Int)) ((List.replicate (f.length : Int).toNat ((0 : Int) : Int)).map qaC)), oo], rgG [oo, oo, opI (.cp (f.map qaC) ((qd6 (List.replicate (f.length : Int).toNat ((0 : Int) : Int)) 0 ((f.length : Int).toNat) f).map qaC) ((min f.length ((f.length : Int).toNat) : Nat) : Int))], rgG [oo, opI (.ln (f.length : Int)), oo, opI (.ln (g.length : Int)), oo], .br false, rgG [oo, oo, opI (.ln (g.length : Int)), oo, opI (.ix (qaC x4)), oo, oo, opI (.call [[0], [0]] [(ti .u32 x4), (ti .u32 p)] (TV.tup [(false, [(T.int .u32 x6.1)]), (false, [(T.int .i64 x6.2)])])), oo, oo, oo, oo, oo], rgG [oo, opI (.ln (f.length : Int)), oo, opI (.ln (g.length : Int)), oo, oo, opI (.mk (qaC (0 : Int)) ((List.replicate (wI6 ((wI6 ((f.length : Int) - (g.length : Int))) + (1 : Int))).toNat ((0 : Int) : Int)).map qaC)), oo], rgG [oo, oo, oo, oo], .pre [.rl 8 0 (qd6 (List.replicate (f.length : Int).toNat ((0 : Int) : Int)) 0 ((f.length : Int).toNat) f).length, .rl 11 0 (List.replicate (wI6 ((wI6 ((f.length : Int) - (g.length : Int))) + (1 : Int))).toNat ((0 : Int) : Int)).length, .keep [1,2,8,9,11,12] [17,45]]] _ hn (by kernel_rfl) (aC (qaT f qaC) <| aC h1.1 <| aC h1.2.1 <| aC h1.2.2 <| aC (qf1 _ _ _ : List.replicate (f.length : Int).toNat (qaC (0 : Int)) = (List.replicate (f.length : Int).toNat ((0 : Int) : Int)).map qaC) <| aC (rfl : f.map qaC = f.map qaC) <| aC (qrU _ _ _ _ _ h2 : qbY ((List.replicate (f.length : Int).toNat ((0 : Int) : Int)).map qaC) 0 ((f.map qaC).take (min (f.map qaC).length ((f.length : Int).toNat))) = (qd6 (List.replicate (f.length : Int).toNat ((0 : Int) : Int)) 0 ((f.length : Int).toNat) f).map qaC) <| aC (by rw [qc4] : ((min (f.map qaC).length ((f.length : Int).toNat) : Nat) : Int) = ((min f.length ((f.length : Int).toNat) : Nat) : Int)) <| aC (qaT f qaC) <| aC (qaT g qaC) <| aC h3 <| aC (qaT g qaC) <| aC (qa0 h5) <| aC (qbH qaC h5) <| aC (qcY h7) <| aC (qaT f qaC) <| aC (qaT g qaC) <| aC h8.1 <| aC h8.2.1 <| aC h8.2.2 <| aC (qf1 _ _ _ : List.replicate (wI6 ((wI6 ((f.length : Int) - (g.length : Int))) + (1 : Int))).toNat (qaC (0 : Int)) = (List.replicate (wI6 ((wI6 ((f.length : Int) - (g.length : Int))) + (1 : Int))).toNat ((0 : Int) : Int)).map qaC) <| aC r0 <| aC (by simp : (f.length : Int).toNat = (qd6 (List.replicate (f.length : Int).toNat ((0 : Int) : Int)) 0 ((f.length : Int).toNat) f).length) <| aC r0 <| aC (by simp : (wI6 ((wI6 ((f.length : Int) - (g.length : Int))) + (1 : Int))).toNat = (List.replicate (wI6 ((wI6 ((f.length : Int) - (g.length : Int))) + (1 : Int))).toNat ((0 : Int) : Int)).length) <| aN) (ih _ _ h cx hn)
theorem modpoly_divide_c1 {K} (ih : qn5 K) {cx} (hn : cx.n = 98) {r17 r45 g p inv k} {r} (h : qc9 (K + 1) (.c1 r17 r45 g p inv k) = some r) : qn4 cx (.c1 r17 r45 g p inv k) r := by
  rw [qc9] at h
  rcases qaK h with ⟨h1, h⟩ | ⟨h1, h⟩
  · skip
    obtain ⟨x2, h3, h⟩ := qaH h
    obtain ⟨x4, h5, h⟩ := qaH h
    obtain ⟨x6, h7, h⟩ := qaH h
    exact qaU (fuel := 92) [.go, rgG [oo, oo], .br true, rgG [oo, oo, oo, opI (.ln (g.length : Int)), oo, oo, .op .ir, opI (.ld (qaC x2)), oo, oo, opI (.call [[0], [0], [0]] [(ti .u32 x2), (ti .u32 inv), (ti .u32 p)] (ti .u32 x4)), oo], rgG [oo, oo, oo, .op .ir, opI (.st (qaC x6) ((r45.set (k.toNat) x4).map qaC))], rgG [oo, opI (.ln (g.length : Int)), oo], .pre [.rl 8 0 r17.length, .rl 11 0 (r45.set (k.toNat) x4).length, .keep [1,2,8,9,11,12,13,69,70] [17,45]]] _ hn (by kernel_rfl) (aC h1 <| aC (qaT g qaC) <| aC (qa0 h3) <| aC (qcH h3 (by simp) : (wI6 ((wI6 (k + (g.length : Int))) - (1 : Int))) < ((r17.length : Nat) : Int)) <| aC (qcG qaC h3 : (r17.map qaC)[(0 + (wI6 ((wI6 (k + (g.length : Int))) - (1 : Int))).toNat)]? = some (qaC x2)) <| aC (qeE h5) <| aC (qa0 h7) <| aC (qcH h7 (by simp) : k < ((r45.length : Nat) : Int)) <| aC (qcG qaC h7 : (r45.map qaC)[(0 + k.toNat)]? = some (qaC x6)) <| aC (qc7 _ _ x4 _ : (r45.map qaC).set (0 + k.toNat) (qbY (qaC x6) 0 [(T.int .u32 x4)]) = (r45.set (k.toNat) x4).map qaC) <| aC (Nat.zero_le _ : 0 ≤ (0 + k.toNat)) <| aC (qaT g qaC) <| aC r0 <| aC (lq r17) <| aC r0 <| aC (by simp : r45.length = (r45.set (k.toNat) x4).length) <| aN) (ih _ _ h cx hn)
  · skip
    obtain ⟨x2, h3, h⟩ := qaH h
    obtain ⟨x4, h5, h⟩ := qaH h
    have h := Option.some.inj h; subst h
    exact qaN (fuel := 78) [.go, rgG [oo, oo], .br false, rgG [oo, .snap 94 (max 0 (0 + r45.length)) (r45.map qaC), opI (.call [[1]] [(tl 1 r45 qaC)] (tl 1 x2 qaC)), oo, .snap 96 (max 0 (0 + r17.length)) (r17.map qaC), opI (.call [[1]] [(tl 1 r17 qaC)] (tl 1 x4 qaC)), oo, oo]] _ hn (by kernel_rfl) (aC h1 <| aC (qbI _ _ _ (by simp) : ((r45.map qaC).drop 0).take r45.length = r45.map qaC) <| aC (rfl : (max 0 (0 + r45.length)) = (max 0 (0 + r45.length))) <| aC (qe7 h3) <| aC (qbI _ _ _ (by simp) : ((r17.map qaC).drop 0).take r17.length = r17.map qaC) <| aC (rfl : (max 0 (0 + r17.length)) = (max 0 (0 + r17.length))) <| aC (qe7 h5) <| aN)
theorem modpoly_divide_c2 {K} (ih : qn5 K) {cx} (hn : cx.n = 98) {r17 r45 g p inv k c t69 t70} {r} (h : qc9 (K + 1) (.c2 r17 r45 g p inv k c t69 t70) = some r) : qn4 cx (.c2 r17 r45 g p inv k c t69 t70) r := by
  rw [qc9] at h
  rcases qaK h with ⟨h1, h⟩ | ⟨h1, h⟩
  · skip
    obtain ⟨x2, h3, h⟩ := qaH h
    obtain ⟨x4, h5, h⟩ := qaH h
    obtain ⟨x6, h7, h⟩ := qaH h
    obtain ⟨x8, h9, h⟩ := qaH h
    obtain ⟨x10, h11, h⟩ := qaH h
    exact qaU (fuel := 90) [.go, rgG [oo], .br true, rgG [oo, oo], .draw [.p, .p, .p, .p, .p, .p, .p, .p, .ir, (.ld (qaC x2)), .p, .p, .p, (.ix (qaC x4)), .p, .p, (.call [[0], [0], [0]] [(ti .u32 c), (ti .u32 x4), (ti .u32 p)] (ti .u32 x6)), .p, (.call [[0], [0], [0]] [(ti .u32 x2), (ti .u32 x6), (ti .u32 p)] (ti .u32 x8))] [.op .ir, opI (.st (qaC x10) ((r17.set ((wI6 (k + t70)).toNat) x8).map qaC))], rgG [oo, oo], .pre [.rl 8 0 (r17.set ((wI6 (k + t70)).toNat) x8).length, .rl 11 0 r45.length, .keep [1,2,8,9,11,12,13,69,70] [17,45]]] _ hn (by kernel_rfl) (aC h1 <| aC (qa0 h3) <| aC (qcH h3 (by simp) : (wI6 (k + t70)) < ((r17.length : Nat) : Int)) <| aC (qcG qaC h3 : (r17.map qaC)[(0 + (wI6 (k + t70)).toNat)]? = some (qaC x2)) <| aC (qa0 h5) <| aC (qbH qaC h5) <| aC (qeE h7) <| aC (modular_Sub_holds h9) <| aC (qa0 h11) <| aC (qcH h11 (by simp) : (wI6 (k + t70)) < ((r17.length : Nat) : Int)) <| aC (qcG qaC h11 : (r17.map qaC)[(0 + (wI6 (k + t70)).toNat)]? = some (qaC x10)) <| aC (qc7 _ _ x8 _ : (r17.map qaC).set (0 + (wI6 (k + t70)).toNat) (qbY (qaC x10) 0 [(T.int .u32 x8)]) = (r17.set ((wI6 (k + t70)).toNat) x8).map qaC) <| aC (Nat.zero_le _ : 0 ≤ (0 + (wI6 (k + t70)).toNat)) <| aC r0 <| aC (by simp : r17.length = (r17.set ((wI6 (k + t70)).toNat) x8).length) <| aC r0 <| aC (lq r45) <| aN) (ih _ _ h cx hn)
  · skip
    exact qaU (fuel := 78) [.go, rgG [oo], .br false, rgG [oo, oo, oo], .pre [.rl 8 0 r17.length, .rl 11 0 r45.length, .keep [1,2,8,9,11,12] [17,45]]] _ hn (by kernel_rfl) (aC h1 <| aC r0 <| aC (lq r17) <| aC r0 <| aC (lq r45) <| aN) (ih _ _ h cx hn)
theorem qlG : ∀ K : Nat, qn5 K
  | 0, c, r, h => by rw [qc9] at h; cases h
  | K + 1, .c0 .., r, h => fun cx hn => modpoly_divide_c0 (qlG K) hn h
  | K + 1, .c1 .., r, h => fun cx hn => modpoly_divide_c1 (qlG K) hn h
  | K + 1, .c2 .., r, h => fun cx hn => modpoly_divide_c2 (qlG K) hn h
theorem qcN {K : Nat} {f : (List Int)} {g : (List Int)} {p : Int} {r : ((List Int) × (List Int))} (h : qeF K f g p = some r) : qcX prog 162 [(tl 1 f qaC), (tl 1 g qaC), (ti .u32 p)] (TV.tup [(false, [(T.sl 1 (r.1.map qaC))]), (false, [(T.sl 1 (r.2.map qaC))])]) :=
  qa2 [[1], [1]] (by kernel_rfl) (by simp) fun cx hn => qlG K (.c0 f g p) r h cx hn
end Go.Am.X
namespace Go.Am.X
open Go.Proofs.Try (prog)
inductive qmR where
  | c0 (f : (List Int)) (c : Int) (m : Int)
  | c1 (r12 : (List Int)) (c : Int) (m : Int) (t13 : (List Int)) (t14 : Int) (t15 : Int)
def qfG : Nat → qmR → Option (List Int)
  | 0, _ => none
  | K + 1, .c0 f c m =>
    gd (0 ≤ (f.length : Int) ∧ (f.length : Int) ≤ (f.length : Int) ∧ (4 : Int) * (f.length : Int) ≤ 140737488355328) <|
    qfG K (.c1 (List.replicate (f.length : Int).toNat ((0 : Int) : Int)) c m f (f.length : Int) (0 : Int))
  | K + 1, .c1 r12 c m t13 t14 t15 =>
    bif (decide (t15 < t14)) then
      (gi t13 t15).bind fun x2 =>
      (qiO K x2 c m).bind fun x4 =>
      (gi r12 t15).bind fun _ =>
      qfG K (.c1 (r12.set (t15.toNat) x4) c m t13 t14 (wI6 (t15 + (1 : Int))))
    else
      (qiF K r12).bind fun x2 =>
      some x2
def qfS (K : Nat) (f : (List Int)) (c : Int) (m : Int) : Option (List Int) := qfG K (.c0 f c m)
noncomputable def qp5 : Code := qbN prog 156
noncomputable def modpoly_Scale_pos : qmR → List Fr
  | .c0 .. => [.code qp5]
  | .c1 .. => [.code (.loop (atC qp5 [1,1,0,1,0,0])), .blk 0, .code (atC qp5 [1,1,1])]
def modpoly_Scale_st : qmR → St
  | .c0 f c m => St.init [(tl 1 f qaC), (ti .u32 c), (ti .u32 m)]
  | .c1 r12 c m t13 t14 t15 => ⟨[(1, vi .u32 c), (2, vi .u32 m), (7, .c (C.row 12 0 r12.length)), (13, vl 1 t13 qaC), (14, vi .i64 t14), (15, vi .i64 t15)], [(12, .row 101 1 (r12.map qaC) 0)], []⟩
def quL (cx : Cx) (c : qmR) (r : (List Int)) : Prop := Wk prog cx (qcT prog 156 [[1]] (tl 1 r qaC)) (modpoly_Scale_pos c) .normal (modpoly_Scale_st c)
abbrev quM (K : Nat) : Prop := ∀ c r, qfG K c = some r → ∀ cx : Cx, cx.n = 30 → quL cx c r
theorem modpoly_Scale_c0 {K} (ih : quM K) {cx} (hn : cx.n = 30) {f c m} {r} (h : qfG (K + 1) (.c0 f c m) = some r) : quL cx (.c0 f c m) r := by
  rw [qfG] at h
  obtain ⟨h1, h⟩ := qbE h
  exact qaU (fuel := 64) [rgG [oo], rgG [oo, opI (.ln (f.length : Int)), opI (.mk (qaC (0 : Int)) ((List.replicate (f.length : Int).toNat ((0 : Int) : Int)).map qaC)), oo], rgG [oo, opI (.ln (f.length : Int)), oo], .pre [.rl 7 0 (List.replicate (f.length : Int).toNat ((0 : Int) : Int)).length, .keep [1,2,7,13,14,15] [12]]] _ hn (by kernel_rfl) (aC (qaT f qaC) <| aC h1.1 <| aC h1.2.1 <| aC h1.2.2 <| aC (qf1 _ _ _ : List.replicate (f.length : Int).toNat (qaC (0 : Int)) = (List.replicate (f.length : Int).toNat ((0 : Int) : Int)).map qaC) <| aC (qaT f qaC) <| aC r0 <| aC (by simp : (f.length : Int).toNat = (List.replicate (f.length : Int).toNat ((0 : Int) : Int)).length) <| aN) (ih _ _ h cx hn)
theorem modpoly_Scale_c1 {K} (ih : quM K) {cx} (hn : cx.n = 30) {r12 c m t13 t14 t15} {r} (h : qfG (K + 1) (.c1 r12 c m t13 t14 t15) = some r) : quL cx (.c1 r12 c m t13 t14 t15) r := by
  rw [qfG] at h
  rcases qaK h with ⟨h1, h⟩ | ⟨h1, h⟩
  · skip
    obtain ⟨x2, h3, h⟩ := qaH h
    obtain ⟨x4, h5, h⟩ := qaH h
    obtain ⟨x6, h7, h⟩ := qaH h
    exact qaU (fuel := 90) [.go, rgG [oo], .br true, rgG [oo, opI (.ix (qaC x2)), oo, oo, oo], rgG [oo, oo, oo, oo, oo, opI (.call [[0], [0], [0]] [(ti .u32 x2), (ti .u32 c), (ti .u32 m)] (ti .u32 x4)), .op .ir, opI (.st (qaC x6) ((r12.set (t15.toNat) x4).map qaC))], rgG [oo, oo], .pre [.rl 7 0 (r12.set (t15.toNat) x4).length, .keep [1,2,7,13,14,15] [12]]] _ hn (by kernel_rfl) (aC h1 <| aC (qa0 h3) <| aC (qbH qaC h3) <| aC (qeE h5) <| aC (qa0 h7) <| aC (qcH h7 (by simp) : t15 < ((r12.length : Nat) : Int)) <| aC (qcG qaC h7 : (r12.map qaC)[(0 + t15.toNat)]? = some (qaC x6)) <| aC (qc7 _ _ x4 _ : (r12.map qaC).set (0 + t15.toNat) (qbY (qaC x6) 0 [(T.int .u32 x4)]) = (r12.set (t15.toNat) x4).map qaC) <| aC (Nat.zero_le _ : 0 ≤ (0 + t15.toNat)) <| aC r0 <| aC (by simp : r12.length = (r12.set (t15.toNat) x4).length) <| aN) (ih _ _ h cx hn)
  · skip
    obtain ⟨x2, h3, h⟩ := qaH h
    have h := Option.some.inj h; subst h
    exact qaN (fuel := 78) [.go, rgG [oo], .br false, rgG [oo, .snap 28 (max 0 (0 + r12.length)) (r12.map qaC), opI (.call [[1]] [(tl 1 r12 qaC)] (tl 1 x2 qaC)), oo]] _ hn (by kernel_rfl) (aC h1 <| aC (qbI _ _ _ (by simp) : ((r12.map qaC).drop 0).take r12.length = r12.map qaC) <| aC (rfl : (max 0 (0 + r12.length)) = (max 0 (0 + r12.length))) <| aC (qe7 h3) <| aN)
theorem qrJ : ∀ K : Nat, quM K
  | 0, c, r, h => by rw [qfG] at h; cases h
  | K + 1, .c0 .., r, h => fun cx hn => modpoly_Scale_c0 (qrJ K) hn h
  | K + 1, .c1 .., r, h => fun cx hn => modpoly_Scale_c1 (qrJ K) hn h
theorem qc3 {K : Nat} {f : (List Int)} {c : Int} {m : Int} {r : (List Int)} (h : qfS K f c m = some r) : qcX prog 156 [(tl 1 f qaC), (ti .u32 c), (ti .u32 m)] (tl 1 r qaC) :=
  qa2 [[1]] (by kernel_rfl) (by simp) fun cx hn => qrJ K (.c0 f c m) r h cx hn
end Go.Am.X
namespace Go.Am.X
open Go.Proofs.Try (prog)
inductive qmP where
  | c0 (f : (List Int)) (p : Int)
def qkO : Nat → qmP → Option (List Int)
  | 0, _ => none
  | K + 1, .c0 f p =>
    bif (decide ((f.length : Int) = (0 : Int))) then
      some []
    else
      (gi f (wI6 ((f.length : Int) - (1 : Int)))).bind fun x2 =>
      (qd8 K x2 p).bind fun x4 =>
      (qfS K f x4.1 p).bind fun x6 =>
      some x6
def modpoly_monic (K : Nat) (f : (List Int)) (p : Int) : Option (List Int) := qkO K (.c0 f p)
noncomputable def modpoly_monic_body : Code := qbN prog 179
noncomputable def modpoly_monic_pos : qmP → List Fr
  | .c0 .. => [.code modpoly_monic_body]
def modpoly_monic_st : qmP → St
  | .c0 f p => St.init [(tl 1 f qaC), (ti .u32 p)]
def modpoly_monic_S (cx : Cx) (c : qmP) (r : (List Int)) : Prop := Wk prog cx (qcT prog 179 [[1]] (tl 1 r qaC)) (modpoly_monic_pos c) .normal (modpoly_monic_st c)
abbrev modpoly_monic_H (K : Nat) : Prop := ∀ c r, qkO K c = some r → ∀ cx : Cx, cx.n = 25 → modpoly_monic_S cx c r
theorem modpoly_monic_c0 {K} (_ : modpoly_monic_H K) {cx} (hn : cx.n = 25) {f p} {r} (h : qkO (K + 1) (.c0 f p) = some r) : modpoly_monic_S cx (.c0 f p) r := by
  rw [qkO] at h
  rcases qaK h with ⟨h1, h⟩ | ⟨h1, h⟩
  · skip
    have h := Option.some.inj h; subst h
    exact qaN (fuel := 72) [rgG [oo], rgG [oo, opI (.ln (f.length : Int)), oo], .br true, rgG [oo]] _ hn (by kernel_rfl) (aC (qaT f qaC) <| aC h1 <| aN)
  · skip
    obtain ⟨x2, h3, h⟩ := qaH h
    obtain ⟨x4, h5, h⟩ := qaH h
    obtain ⟨x6, h7, h⟩ := qaH h
    have h := Option.some.inj h; subst h
    exact qaN (fuel := 80) [rgG [oo], rgG [oo, opI (.ln (f.length : Int)), oo], .br false, rgG [oo, oo, opI (.ln (f.length : Int)), oo, opI (.ix (qaC x2)), oo, oo, opI (.call [[0], [0]] [(ti .u32 x2), (ti .u32 p)] (TV.tup [(false, [(T.int .u32 x4.1)]), (false, [(T.int .i64 x4.2)])])), oo, oo, oo, oo, oo], rgG [oo, oo, oo, opI (.call [[1], [0], [0]] [(tl 1 f qaC), (ti .u32 x4.1), (ti .u32 p)] (tl 1 x6 qaC)), oo]] _ hn (by kernel_rfl) (aC (qaT f qaC) <| aC h1 <| aC (qaT f qaC) <| aC (qa0 h3) <| aC (qbH qaC h3) <| aC (qcY h5) <| aC (qc3 h7) <| aN)
theorem modpoly_monic_all : ∀ K : Nat, modpoly_monic_H K
  | 0, c, r, h => by rw [qkO] at h; cases h
  | K + 1, .c0 .., r, h => fun cx hn => modpoly_monic_c0 (modpoly_monic_all K) hn h
theorem quH {K : Nat} {f : (List Int)} {p : Int} {r : (List Int)} (h : modpoly_monic K f p = some r) : qcX prog 179 [(tl 1 f qaC), (ti .u32 p)] (tl 1 r qaC) :=
  qa2 [[1]] (by kernel_rfl) (by simp) fun cx hn => modpoly_monic_all K (.c0 f p) r h cx hn
end Go.Am.X
namespace Go.Am.X
open Go.Proofs.Try (prog)
inductive qp2 where
  | c0 (f : (List Int)) (g : (List Int)) (p : Int)
  | c1 (f : (List Int)) (g : (List Int)) (p : Int)
def qgC : Nat → qp2 → Option (List Int)
  | 0, _ => none
  | K + 1, .c0 f g p =>
    qgC K (.c1 f g p)
  | K + 1, .c1 f g p =>
    bif (decide ((0 : Int) < (g.length : Int))) then
      (qeF K f g p).bind fun x2 =>
      qgC K (.c1 g x2.2 p)
    else
      (modpoly_monic K f p).bind fun x2 =>
      some x2
def modpoly_gcd (K : Nat) (f : (List Int)) (g : (List Int)) (p : Int) : Option (List Int) := qgC K (.c0 f g p)
noncomputable def qs1 : Code := qbN prog 165
noncomputable def modpoly_gcd_pos : qp2 → List Fr
  | .c0 .. => [.code qs1]
  | .c1 .. => [.code (.loop (atC qs1 [1,0,0,0])), .blk 0, .code (atC qs1 [1,1])]
def modpoly_gcd_st : qp2 → St
  | .c0 f g p => St.init [(tl 1 f qaC), (tl 1 g qaC), (ti .u32 p)]
  | .c1 f g p => ⟨[(0, vl 1 f qaC), (1, vl 1 g qaC), (2, vi .u32 p)], [], []⟩
def modpoly_gcd_S (cx : Cx) (c : qp2) (r : (List Int)) : Prop := Wk prog cx (qcT prog 165 [[1]] (tl 1 r qaC)) (modpoly_gcd_pos c) .normal (modpoly_gcd_st c)
abbrev modpoly_gcd_H (K : Nat) : Prop := ∀ c r, qgC K c = some r → ∀ cx : Cx, cx.n = 24 → modpoly_gcd_S cx c r
theorem modpoly_gcd_c0 {K} (ih : modpoly_gcd_H K) {cx} (hn : cx.n = 24) {f g p} {r} (h : qgC (K + 1) (.c0 f g p) = some r) : modpoly_gcd_S cx (.c0 f g p) r := by
  rw [qgC] at h
  exact qaU (fuel := 48) [rgG [oo], .pre [.keep [0,1,2] []]] _ hn (by kernel_rfl) aN (ih _ _ h cx hn)
theorem modpoly_gcd_c1 {K} (ih : modpoly_gcd_H K) {cx} (hn : cx.n = 24) {f g p} {r} (h : qgC (K + 1) (.c1 f g p) = some r) : modpoly_gcd_S cx (.c1 f g p) r := by
  rw [qgC] at h
  rcases qaK h with ⟨h1, h⟩ | ⟨h1, h⟩
  · skip
    obtain ⟨x2, h3, h⟩ := qaH h
    exact qaU (fuel := 82) [.go, rgG [oo, opI (.ln (g.length : Int)), oo], .br true, rgG [oo, oo, oo, opI (.call [[1], [1], [0]] [(tl 1 f qaC), (tl 1 g qaC), (ti .u32 p)] (TV.tup [(false, [(T.sl 1 (x2.1.map qaC))]), (false, [(T.sl 1 (x2.2.map qaC))])])), oo, oo, oo, oo, oo], rgG [oo, oo, oo, oo], .pre [.keep [0,1,2] []]] _ hn (by kernel_rfl) (aC (qaT g qaC) <| aC h1 <| aC (qcN h3) <| aN) (ih _ _ h cx hn)
  · skip
    obtain ⟨x2, h3, h⟩ := qaH h
    have h := Option.some.inj h; subst h
    exact qaN (fuel := 78) [.go, rgG [oo, opI (.ln (g.length : Int)), oo], .br false, rgG [oo, oo, opI (.call [[1], [0]] [(tl 1 f qaC), (ti .u32 p)] (tl 1 x2 qaC)), oo]] _ hn (by kernel_rfl) (aC (qaT g qaC) <| aC h1 <| aC (quH h3) <| aN)
theorem quI : ∀ K : Nat, modpoly_gcd_H K
  | 0, c, r, h => by rw [qgC] at h; cases h
  | K + 1, .c0 .., r, h => fun cx hn => modpoly_gcd_c0 (quI K) hn h
  | K + 1, .c1 .., r, h => fun cx hn => modpoly_gcd_c1 (quI K) hn h
theorem qjE {K : Nat} {f : (List Int)} {g : (List Int)} {p : Int} {r : (List Int)} (h : modpoly_gcd K f g p = some r) : qcX prog 165 [(tl 1 f qaC), (tl 1 g qaC), (ti .u32 p)] (tl 1 r qaC) :=
  qa2 [[1]] (by kernel_rfl) (by simp) fun cx hn => quI K (.c0 f g p) r h cx hn
end Go.Am.X
namespace Go.Am.X
open Go.Proofs.Try (prog)
inductive qpZ where
  | c0 (a : Int) (n : Int) (m : Int)
  | c1 (n : Int) (m : Int) (out : Int) (base : Int)
  | c2 (n : Int) (m : Int) (out : Int) (base : Int)
def qeD : Nat → qpZ → Option Int
  | 0, _ => none
  | K + 1, .c0 a n m =>
    (qiO K (1 : Int) (1 : Int) m).bind fun x1 =>
    qeD K (.c1 n m x1 a)
  | K + 1, .c1 n m out base =>
    bif (decide ((0 : Int) < n)) then
      bif (decide ((bits .and .u64 n (1 : Int)) = (1 : Int))) then
        (qiO K out base m).bind fun x3 =>
        (qiO K base base m).bind fun x5 =>
        qeD K (.c2 n m x3 x5)
      else
        (qiO K base base m).bind fun x3 =>
        qeD K (.c2 n m out x3)
    else
      some out
  | K + 1, .c2 n m out base =>
    qeD K (.c1 (qdG .u64 n (1 : Int)) m out base)
def modular_Pow (K : Nat) (a : Int) (n : Int) (m : Int) : Option Int := qeD K (.c0 a n m)
noncomputable def qh8 : Code := qbN prog 178
noncomputable def modular_Pow_pos : qpZ → List Fr
  | .c0 .. => [.code qh8]
  | .c1 .. => [.code (.loop (atC qh8 [1,1,0,1,0,0])), .blk 0, .code (atC qh8 [1,1,1])]
  | .c2 .. => [.code (atC qh8 [1,1,0,1,0,0,1,1]), .lp (atC qh8 [1,1,0,1,0,0]), .blk 0, .code (atC qh8 [1,1,1])]
def modular_Pow_st : qpZ → St
  | .c0 a n m => St.init [(ti .u32 a), (ti .u64 n), (ti .u32 m)]
  | .c1 n m out base => ⟨[(1, vi .u64 n), (2, vi .u32 m), (7, vi .u32 out), (8, vi .u32 base)], [], []⟩
  | .c2 n m out base => ⟨[(1, vi .u64 n), (2, vi .u32 m), (7, vi .u32 out), (8, vi .u32 base)], [], []⟩
def qtQ (cx : Cx) (c : qpZ) (r : Int) : Prop := Wk prog cx (qcT prog 178 [[0]] (ti .u32 r)) (modular_Pow_pos c) .normal (modular_Pow_st c)
abbrev qtR (K : Nat) : Prop := ∀ c r, qeD K c = some r → ∀ cx : Cx, cx.n = 28 → qtQ cx c r
theorem modular_Pow_c0 {K} (ih : qtR K) {cx} (hn : cx.n = 28) {a n m} {r} (h : qeD (K + 1) (.c0 a n m) = some r) : qtQ cx (.c0 a n m) r := by
  rw [qeD] at h
  obtain ⟨x1, h2, h⟩ := qaH h
  exact qaU (fuel := 64) [rgG [oo], rgG [oo, opI (.call [[0], [0], [0]] [(TV.c (T.int .u32 (1 : Int))), (TV.c (T.int .u32 (1 : Int))), (ti .u32 m)] (ti .u32 x1)), oo], rgG [oo, oo], .pre [.keep [1,2,7,8] []]] _ hn (by kernel_rfl) (aC (qeE h2) <| aN) (ih _ _ h cx hn)
theorem modular_Pow_c1 {K} (ih : qtR K) {cx} (hn : cx.n = 28) {n m out base} {r} (h : qeD (K + 1) (.c1 n m out base) = some r) : qtQ cx (.c1 n m out base) r := by
  rw [qeD] at h
  rcases qaK h with ⟨h1, h⟩ | ⟨h1, h⟩
  · skip
    rcases qaK h with ⟨h2, h⟩ | ⟨h2, h⟩
    · skip
      obtain ⟨x3, h4, h⟩ := qaH h
      obtain ⟨x5, h6, h⟩ := qaH h
      exact qaU (fuel := 96) [.go, rgG [oo, oo], .br true, rgG [oo, oo, oo], .br true, rgG [oo, oo, oo, opI (.call [[0], [0], [0]] [(ti .u32 out), (ti .u32 base), (ti .u32 m)] (ti .u32 x3)), oo], rgG [oo, oo, oo, opI (.call [[0], [0], [0]] [(ti .u32 base), (ti .u32 base), (ti .u32 m)] (ti .u32 x5)), oo], .pre [.keep [1,2,7,8] []]] _ hn (by kernel_rfl) (aC h1 <| aC h2 <| aC (qeE h4) <| aC (qeE h6) <| aN) (ih _ _ h cx hn)
    · skip
      obtain ⟨x3, h4, h⟩ := qaH h
      exact qaU (fuel := 92) [.go, rgG [oo, oo], .br true, rgG [oo, oo, oo], .br false, rgG [oo, oo, oo, opI (.call [[0], [0], [0]] [(ti .u32 base), (ti .u32 base), (ti .u32 m)] (ti .u32 x3)), oo], .pre [.keep [1,2,7,8] []]] _ hn (by kernel_rfl) (aC h1 <| aC h2 <| aC (qeE h4) <| aN) (ih _ _ h cx hn)
  · skip
    have h := Option.some.inj h; subst h
    exact qaN (fuel := 78) [.go, rgG [oo, oo], .br false, rgG [oo, oo]] _ hn (by kernel_rfl) (aC h1 <| aN)
theorem modular_Pow_c2 {K} (ih : qtR K) {cx} (hn : cx.n = 28) {n m out base} {r} (h : qeD (K + 1) (.c2 n m out base) = some r) : qtQ cx (.c2 n m out base) r := by
  rw [qeD] at h
  exact qaU (fuel := 44) [rgG [oo, oo, oo], .pre [.keep [1,2,7,8] []]] _ hn (by kernel_rfl) aN (ih _ _ h cx hn)
theorem qpY : ∀ K : Nat, qtR K
  | 0, c, r, h => by rw [qeD] at h; cases h
  | K + 1, .c0 .., r, h => fun cx hn => modular_Pow_c0 (qpY K) hn h
  | K + 1, .c1 .., r, h => fun cx hn => modular_Pow_c1 (qpY K) hn h
  | K + 1, .c2 .., r, h => fun cx hn => modular_Pow_c2 (qpY K) hn h
theorem qmO {K : Nat} {a : Int} {n : Int} {m : Int} {r : Int} (h : modular_Pow K a n m = some r) : qcX prog 178 [(ti .u32 a), (ti .u64 n), (ti .u32 m)] (ti .u32 r) :=
  qa2 [[0]] (by kernel_rfl) (by simp) fun cx hn => qpY K (.c0 a n m) r h cx hn
end Go.Am.X
namespace Go.Am.X
open Go.Proofs.Try (prog)
inductive qj4 where
  | c0 (n : Int) (d : Int) (s : Int) (b : Int)
  | c1 (n : Int) (x : Int) (t30 : Int) (t31 : Int)
def qeJ : Nat → qj4 → Option Bool
  | 0, _ => none
  | K + 1, .c0 n d s b =>
    (modular_Pow K b (wU6 d) n).bind fun x1 =>
    bif (decide (x1 = (1 : Int))) then
      some false
    else
      bif (decide (x1 = (wU3 (n - (1 : Int))))) then
        some false
      else
        gd (n ≠ 0) <|
        bif (decide ((Int.tmod b n) = (0 : Int))) then
          some false
        else
          qeJ K (.c1 n x1 (wI6 (s - (1 : Int))) (0 : Int))
  | K + 1, .c1 n x t30 t31 =>
    bif (decide (t31 < t30)) then
      (qiO K x x n).bind fun x2 =>
      bif (decide (x2 = (wU3 (n - (1 : Int))))) then
        some false
      else
        qeJ K (.c1 n x2 t30 (wI6 (t31 + (1 : Int))))
    else
      some true
def qpW (K : Nat) (n : Int) (d : Int) (s : Int) (b : Int) : Option Bool := qeJ K (.c0 n d s b)
noncomputable def qm8 : Code := qbN prog 153
noncomputable def modular_witness_pos : qj4 → List Fr
  | .c0 .. => [.code qm8]
  | .c1 .. => [.code (.loop (atC qm8 [1,1,1,0,1,0,0])), .blk 0, .code (atC qm8 [1,1,1,1])]
def modular_witness_st : qj4 → St
  | .c0 n d s b => St.init [(ti .u32 n), (ti .u32 d), (ti .i64 s), (ti .u32 b)]
  | .c1 n x t30 t31 => ⟨[(0, vi .u32 n), (9, vi .u32 x), (30, vi .i64 t30), (31, vi .i64 t31)], [], []⟩
def qrB (cx : Cx) (c : qj4) (r : Bool) : Prop := Wk prog cx (qcT prog 153 [[0]] (TV.c (T.bool r))) (modular_witness_pos c) .normal (modular_witness_st c)
abbrev qrC (K : Nat) : Prop := ∀ c r, qeJ K c = some r → ∀ cx : Cx, cx.n = 42 → qrB cx c r
theorem modular_witness_c0 {K} (ih : qrC K) {cx} (hn : cx.n = 42) {n d s b} {r} (h : qeJ (K + 1) (.c0 n d s b) = some r) : qrB cx (.c0 n d s b) r := by
  rw [qeJ] at h
  obtain ⟨x1, h2, h⟩ := qaH h
  rcases qaK h with ⟨h3, h⟩ | ⟨h3, h⟩
  · skip
    have h := Option.some.inj h; subst h
    exact qaN (fuel := 80) [rgG [oo], rgG [oo, oo, oo, oo, opI (.call [[0], [0], [0]] [(ti .u32 b), (TV.c (T.int .u64 (wU6 d))), (ti .u32 n)] (ti .u32 x1)), oo], rgG [oo, oo, oo, .sb 17 true, oo, oo, oo, oo, oo, oo, oo, oo, oo, oo, oo], .br true, rgG [oo]] _ hn (by kernel_rfl) (aC (qmO h2) <| aC h3 <| aC rt <| aN)
  · skip
    rcases qaK h with ⟨h4, h⟩ | ⟨h4, h⟩
    · skip
      have h := Option.some.inj h; subst h
      exact qaN (fuel := 80) [rgG [oo], rgG [oo, oo, oo, oo, opI (.call [[0], [0], [0]] [(ti .u32 b), (TV.c (T.int .u64 (wU6 d))), (ti .u32 n)] (ti .u32 x1)), oo], rgG [oo, oo, oo, .sb 17 false, oo, oo, oo, oo, oo, oo, .sb 23 true, oo, oo, oo, oo, oo], .br true, rgG [oo]] _ hn (by kernel_rfl) (aC (qmO h2) <| aC h3 <| aC h4 <| aC rt <| aN)
    · skip
      obtain ⟨h5, h⟩ := qbE h
      rcases qaK h with ⟨h6, h⟩ | ⟨h6, h⟩
      · skip
        have h := Option.some.inj h; subst h
        exact qaN (fuel := 80) [rgG [oo], rgG [oo, oo, oo, oo, opI (.call [[0], [0], [0]] [(ti .u32 b), (TV.c (T.int .u64 (wU6 d))), (ti .u32 n)] (ti .u32 x1)), oo], rgG [oo, oo, oo, .sb 17 false, oo, oo, oo, oo, oo, oo, .sb 23 false, oo, oo, .op .dv, oo, oo], .br true, rgG [oo]] _ hn (by kernel_rfl) (aC (qmO h2) <| aC h3 <| aC h4 <| aC h5 <| aC h6 <| aN)
      · skip
        exact qaU (fuel := 82) [rgG [oo], rgG [oo, oo, oo, oo, opI (.call [[0], [0], [0]] [(ti .u32 b), (TV.c (T.int .u64 (wU6 d))), (ti .u32 n)] (ti .u32 x1)), oo], rgG [oo, oo, oo, .sb 17 false, oo, oo, oo, oo, oo, oo, .sb 23 false, oo, oo, .op .dv, oo, oo], .br false, rgG [oo, oo, oo], .pre [.keep [0,9,30,31] []]] _ hn (by kernel_rfl) (aC (qmO h2) <| aC h3 <| aC h4 <| aC h5 <| aC h6 <| aN) (ih _ _ h cx hn)
theorem modular_witness_c1 {K} (ih : qrC K) {cx} (hn : cx.n = 42) {n x t30 t31} {r} (h : qeJ (K + 1) (.c1 n x t30 t31) = some r) : qrB cx (.c1 n x t30 t31) r := by
  rw [qeJ] at h
  rcases qaK h with ⟨h1, h⟩ | ⟨h1, h⟩
  · skip
    obtain ⟨x2, h3, h⟩ := qaH h
    rcases qaK h with ⟨h4, h⟩ | ⟨h4, h⟩
    · skip
      have h := Option.some.inj h; subst h
      exact qaN (fuel := 108) [.go, rgG [oo], .br true, rgG [oo, oo, oo, opI (.call [[0], [0], [0]] [(ti .u32 x), (ti .u32 x), (ti .u32 n)] (ti .u32 x2)), oo], rgG [oo, oo, oo, oo], .br true, rgG [oo]] _ hn (by kernel_rfl) (aC h1 <| aC (qeE h3) <| aC h4 <| aN)
    · skip
      exact qaU (fuel := 100) [.go, rgG [oo], .br true, rgG [oo, oo, oo, opI (.call [[0], [0], [0]] [(ti .u32 x), (ti .u32 x), (ti .u32 n)] (ti .u32 x2)), oo], rgG [oo, oo, oo, oo], .br false, rgG [oo, oo], .pre [.keep [0,9,30,31] []]] _ hn (by kernel_rfl) (aC h1 <| aC (qeE h3) <| aC h4 <| aN) (ih _ _ h cx hn)
  · skip
    have h := Option.some.inj h; subst h
    exact qaN (fuel := 78) [.go, rgG [oo], .br false, rgG [oo]] _ hn (by kernel_rfl) (aC h1 <| aN)
theorem qoR : ∀ K : Nat, qrC K
  | 0, c, r, h => by rw [qeJ] at h; cases h
  | K + 1, .c0 .., r, h => fun cx hn => modular_witness_c0 (qoR K) hn h
  | K + 1, .c1 .., r, h => fun cx hn => modular_witness_c1 (qoR K) hn h
theorem qfM {K : Nat} {n : Int} {d : Int} {s : Int} {b : Int} {r : Bool} (h : qpW K n d s b = some r) : qcX prog 153 [(ti .u32 n), (ti .u32 d), (ti .i64 s), (ti .u32 b)] (TV.c (T.bool r)) :=
  qa2 [[0]] (by kernel_rfl) (by simp) fun cx hn => qoR K (.c0 n d s b) r h cx hn
end Go.Am.X
namespace Go.Am.X
open Go.Proofs.Try (prog)
inductive qj5 where
  | c0 (n : Int)
  | c1 (n : Int) (d : Int) (s : Int)
def qeK : Nat → qj5 → Option Bool
  | 0, _ => none
  | K + 1, .c0 n =>
    bif (decide (n < (4 : Int))) then
      bif (decide (n = (2 : Int))) then
        some true
      else
        some (decide (n = (3 : Int)))
    else
      bif (decide ((Int.tmod n (2 : Int)) = (0 : Int))) then
        bif (decide (n = (2 : Int))) then
          some true
        else
          some (decide (n = (3 : Int)))
      else
        qeK K (.c1 n (wU3 (n - (1 : Int))) (0 : Int))
  | K + 1, .c1 n d s =>
    bif (decide ((Int.tmod d (2 : Int)) = (0 : Int))) then
      qeK K (.c1 n (wU3 (Int.tdiv d (2 : Int))) (wI6 (s + (1 : Int))))
    else
      (qpW K n d s (2 : Int)).bind fun x2 =>
      bif (!x2) then
        (qpW K n d s (7 : Int)).bind fun x5 =>
        bif (!x5) then
          (qpW K n d s (61 : Int)).bind fun x8 =>
          some (!x8)
        else
          some false
      else
        some false
def qjA (K : Nat) (n : Int) : Option Bool := qeK K (.c0 n)
noncomputable def qm9 : Code := qbN prog 111
noncomputable def modular_IsPrime_pos : qj5 → List Fr
  | .c0 .. => [.code qm9]
  | .c1 .. => [.code (.loop (atC qm9 [1,1,1,0,0,0])), .blk 0, .code (atC qm9 [1,1,1,1])]
def modular_IsPrime_st : qj5 → St
  | .c0 n => St.init [(ti .u32 n)]
  | .c1 n d s => ⟨[(0, vi .u32 n), (3, vi .u32 d), (4, vi .i64 s)], [], []⟩
def qrD (cx : Cx) (c : qj5) (r : Bool) : Prop := Wk prog cx (qcT prog 111 [[0]] (TV.c (T.bool r))) (modular_IsPrime_pos c) .normal (modular_IsPrime_st c)
abbrev qrE (K : Nat) : Prop := ∀ c r, qeK K c = some r → ∀ cx : Cx, cx.n = 46 → qrD cx c r
theorem modular_IsPrime_c0 {K} (ih : qrE K) {cx} (hn : cx.n = 46) {n} {r} (h : qeK (K + 1) (.c0 n) = some r) : qrD cx (.c0 n) r := by
  rw [qeK] at h
  rcases qaK h with ⟨h1, h⟩ | ⟨h1, h⟩
  · skip
    rcases qaK h with ⟨h2, h⟩ | ⟨h2, h⟩
    · skip
      have h := Option.some.inj h; subst h
      exact qaN (fuel := 72) [rgG [oo], rgG [oo, oo, oo, .sb 7 true, oo, oo, oo, oo], .br true, rgG [oo, oo, oo, .sb 14 true, oo, oo, oo, oo]] _ hn (by kernel_rfl) (aC h1 <| aC rt <| aC h2 <| aN)
    · skip
      have h := Option.some.inj h; subst h
      exact qaN (fuel := 72) [rgG [oo], rgG [oo, oo, oo, .sb 7 true, oo, oo, oo, oo], .br true, rgG [oo, oo, oo, .sb 14 false, oo, oo, oo, oo]] _ hn (by kernel_rfl) (aC h1 <| aC rt <| aC h2 <| aN)
  · skip
    rcases qaK h with ⟨h2, h⟩ | ⟨h2, h⟩
    · skip
      rcases qaK h with ⟨h3, h⟩ | ⟨h3, h⟩
      · skip
        have h := Option.some.inj h; subst h
        exact qaN (fuel := 72) [rgG [oo], rgG [oo, oo, oo, .sb 7 false, oo, oo, oo, oo], .br true, rgG [oo, oo, oo, .sb 14 true, oo, oo, oo, oo]] _ hn (by kernel_rfl) (aC h1 <| aC h2 <| aC h3 <| aN)
      · skip
        have h := Option.some.inj h; subst h
        exact qaN (fuel := 72) [rgG [oo], rgG [oo, oo, oo, .sb 7 false, oo, oo, oo, oo], .br true, rgG [oo, oo, oo, .sb 14 false, oo, oo, oo, oo]] _ hn (by kernel_rfl) (aC h1 <| aC h2 <| aC h3 <| aN)
    · skip
      exact qaU (fuel := 74) [rgG [oo], rgG [oo, oo, oo, .sb 7 false, oo, oo, oo, oo], .br false, rgG [oo, oo, oo, oo], .pre [.keep [0,3,4] []]] _ hn (by kernel_rfl) (aC h1 <| aC h2 <| aN) (ih _ _ h cx hn)
theorem modular_IsPrime_c1 {K} (ih : qrE K) {cx} (hn : cx.n = 46) {n d s} {r} (h : qeK (K + 1) (.c1 n d s) = some r) : qrD cx (.c1 n d s) r := by
  rw [qeK] at h
  rcases qaK h with ⟨h1, h⟩ | ⟨h1, h⟩
  · skip
    exact qaU (fuel := 74) [.go, rgG [oo, oo, oo], .br true, rgG [oo, oo, oo, oo, oo, oo], .pre [.keep [0,3,4] []]] _ hn (by kernel_rfl) (aC h1 <| aN) (ih _ _ h cx hn)
  · skip
    obtain ⟨x2, h3, h⟩ := qaH h
    rcases qaK h with ⟨h4, h⟩ | ⟨h4, h⟩
    · skip
      obtain ⟨x5, h6, h⟩ := qaH h
      rcases qaK h with ⟨h7, h⟩ | ⟨h7, h⟩
      · skip
        obtain ⟨x8, h9, h⟩ := qaH h
        have h := Option.some.inj h; subst h
        exact qaN (fuel := 78) [.go, rgG [oo, oo, oo], .br false, rgG [oo, oo, oo, opI (.call [[0], [0], [0], [0]] [(ti .u32 n), (ti .u32 d), (ti .i64 s), (TV.c (T.int .u32 (2 : Int)))] (TV.c (T.bool x2))), oo, oo, .sb 32 true, oo, oo, oo, opI (.call [[0], [0], [0], [0]] [(ti .u32 n), (ti .u32 d), (ti .i64 s), (TV.c (T.int .u32 (7 : Int)))] (TV.c (T.bool x5))), oo, oo, oo, .sb 39 true, oo, oo, oo, opI (.call [[0], [0], [0], [0]] [(ti .u32 n), (ti .u32 d), (ti .i64 s), (TV.c (T.int .u32 (61 : Int)))] (TV.c (T.bool x8))), oo, oo, oo]] _ hn (by kernel_rfl) (aC h1 <| aC (qfM h3) <| aC h4 <| aC (qfM h6) <| aC h7 <| aC (qfM h9) <| aN)
      · skip
        have h := Option.some.inj h; subst h
        exact qaN (fuel := 78) [.go, rgG [oo, oo, oo], .br false, rgG [oo, oo, oo, opI (.call [[0], [0], [0], [0]] [(ti .u32 n), (ti .u32 d), (ti .i64 s), (TV.c (T.int .u32 (2 : Int)))] (TV.c (T.bool x2))), oo, oo, .sb 32 true, oo, oo, oo, opI (.call [[0], [0], [0], [0]] [(ti .u32 n), (ti .u32 d), (ti .i64 s), (TV.c (T.int .u32 (7 : Int)))] (TV.c (T.bool x5))), oo, oo, oo, .sb 39 false, oo, oo, oo, oo, oo, oo, oo]] _ hn (by kernel_rfl) (aC h1 <| aC (qfM h3) <| aC h4 <| aC (qfM h6) <| aC h7 <| aN)
    · skip
      have h := Option.some.inj h; subst h
      exact qaN (fuel := 78) [.go, rgG [oo, oo, oo], .br false, rgG [oo, oo, oo, opI (.call [[0], [0], [0], [0]] [(ti .u32 n), (ti .u32 d), (ti .i64 s), (TV.c (T.int .u32 (2 : Int)))] (TV.c (T.bool x2))), oo, oo, .sb 32 false, oo, oo, oo, oo, oo, oo, oo, oo, oo, oo, oo, oo, oo, oo]] _ hn (by kernel_rfl) (aC h1 <| aC (qfM h3) <| aC h4 <| aN)
theorem qoS : ∀ K : Nat, qrE K
  | 0, c, r, h => by rw [qeK] at h; cases h
  | K + 1, .c0 .., r, h => fun cx hn => modular_IsPrime_c0 (qoS K) hn h
  | K + 1, .c1 .., r, h => fun cx hn => modular_IsPrime_c1 (qoS K) hn h
theorem qbJ {K : Nat} {n : Int} {r : Bool} (h : qjA K n = some r) : qcX prog 111 [(ti .u32 n)] (TV.c (T.bool r)) :=
  qa2 [[0]] (by kernel_rfl) (by simp) fun cx hn => qoS K (.c0 n) r h cx hn
end Go.Am.X
namespace Go.Am.X
open Go.Proofs.Try (prog)
inductive qqA where
  | c0 (f : (List Int)) (g : (List Int)) (p : Int)
def qnL : Nat → qqA → Option ((List Int) × Int)
  | 0, _ => none
  | K + 1, .c0 f g p =>
    (qjA K p).bind fun x1 =>
    bif (!x1) then
      some ([], (1 : Int))
    else
      (qfD K f p).bind fun x4 =>
      (qfD K g p).bind fun x6 =>
      (modpoly_gcd K x4 x6 p).bind fun x8 =>
      some (x8, (0 : Int))
def modpoly_Gcd (K : Nat) (f : (List Int)) (g : (List Int)) (p : Int) : Option ((List Int) × Int) := qnL K (.c0 f g p)
noncomputable def modpoly_Gcd_body : Code := qbN prog 121
noncomputable def modpoly_Gcd_pos : qqA → List Fr
  | .c0 .. => [.code modpoly_Gcd_body]
def modpoly_Gcd_st : qqA → St
  | .c0 f g p => St.init [(tl 1 f qaC), (tl 1 g qaC), (ti .u32 p)]
def modpoly_Gcd_S (cx : Cx) (c : qqA) (r : ((List Int) × Int)) : Prop := Wk prog cx (qcT prog 121 [[1], [0]] (TV.tup [(false, [(T.sl 1 (r.1.map qaC))]), (false, [(T.int .i64 r.2)])])) (modpoly_Gcd_pos c) .normal (modpoly_Gcd_st c)
abbrev modpoly_Gcd_H (K : Nat) : Prop := ∀ c r, qnL K c = some r → ∀ cx : Cx, cx.n = 19 → modpoly_Gcd_S cx c r
theorem modpoly_Gcd_c0 {K} (_ : modpoly_Gcd_H K) {cx} (hn : cx.n = 19) {f g p} {r} (h : qnL (K + 1) (.c0 f g p) = some r) : modpoly_Gcd_S cx (.c0 f g p) r := by
  rw [qnL] at h
  obtain ⟨x1, h2, h⟩ := qaH h
  rcases qaK h with ⟨h3, h⟩ | ⟨h3, h⟩
  · skip
    have h := Option.some.inj h; subst h
    exact qaN (fuel := 72) [rgG [oo, oo], rgG [oo, opI (.call [[0]] [(ti .u32 p)] (TV.c (T.bool x1))), oo], .br true, rgG [oo, oo]] _ hn (by kernel_rfl) (aC (qbJ h2) <| aC h3 <| aN)
  · skip
    obtain ⟨x4, h5, h⟩ := qaH h
    obtain ⟨x6, h7, h⟩ := qaH h
    obtain ⟨x8, h9, h⟩ := qaH h
    have h := Option.some.inj h; subst h
    exact qaN (fuel := 72) [rgG [oo, oo], rgG [oo, opI (.call [[0]] [(ti .u32 p)] (TV.c (T.bool x1))), oo], .br false, rgG [oo, oo, opI (.call [[1], [0]] [(tl 1 f qaC), (ti .u32 p)] (tl 1 x4 qaC)), oo, oo, opI (.call [[1], [0]] [(tl 1 g qaC), (ti .u32 p)] (tl 1 x6 qaC)), oo, opI (.call [[1], [1], [0]] [(tl 1 x4 qaC), (tl 1 x6 qaC), (ti .u32 p)] (tl 1 x8 qaC)), oo, oo]] _ hn (by kernel_rfl) (aC (qbJ h2) <| aC h3 <| aC (qbK h5) <| aC (qbK h7) <| aC (qjE h9) <| aN)
theorem modpoly_Gcd_all : ∀ K : Nat, modpoly_Gcd_H K
  | 0, c, r, h => by rw [qnL] at h; cases h
  | K + 1, .c0 .., r, h => fun cx hn => modpoly_Gcd_c0 (modpoly_Gcd_all K) hn h
theorem modpoly_Gcd_holds {K : Nat} {f : (List Int)} {g : (List Int)} {p : Int} {r : ((List Int) × Int)} (h : modpoly_Gcd K f g p = some r) : qcX prog 121 [(tl 1 f qaC), (tl 1 g qaC), (ti .u32 p)] (TV.tup [(false, [(T.sl 1 (r.1.map qaC))]), (false, [(T.int .i64 r.2)])]) :=
  qa2 [[1], [0]] (by kernel_rfl) (by simp) fun cx hn => modpoly_Gcd_all K (.c0 f g p) r h cx hn
end Go.Am.X
namespace Go.Am.X
open Go.Proofs.Try (prog)
inductive qoE where
  | c0 (list : (List (List Int))) (p : Int)
  | c1 (list : (List (List Int))) (p : Int) (t13 : (List (List Int))) (t14 : Int) (t15 : Int)
  | c2 (list : (List (List Int))) (p : Int) (t24 : (List (List Int))) (t25 : Int) (t26 : Int)
  | c3 (list : (List (List Int))) (p : Int) (g : (List Int)) (t24 : (List (List Int))) (t25 : Int) (t26 : Int) (t33 : (List (List Int))) (t34 : Int) (t35 : Int)
def qcZ : Nat → qoE → Option Int
  | 0, _ => none
  | K + 1, .c0 list p =>
    qcZ K (.c1 list p list (list.length : Int) (0 : Int))
  | K + 1, .c1 list p t13 t14 t15 =>
    bif (decide (t15 < t14)) then
      (gi t13 t15).bind fun x2 =>
      (modpoly_Degree K x2 p).bind fun x4 =>
      bif (decide (x4 < (1 : Int))) then
        some (12 : Int)
      else
        qcZ K (.c1 list p t13 t14 (wI6 (t15 + (1 : Int))))
    else
      qcZ K (.c2 list p list (list.length : Int) (0 : Int))
  | K + 1, .c2 list p t24 t25 t26 =>
    bif (decide (t26 < t25)) then
      (gi t24 t26).bind fun x2 =>
      gd (0 ≤ t26 ∧ 0 ≤ t26.toNat ∧ t26.toNat ≤ list.length) <|
      qcZ K (.c3 list p x2 t24 t25 t26 (list.take t26.toNat) ((list.take t26.toNat).length : Int) (0 : Int))
    else
      some (0 : Int)
  | K + 1, .c3 list p g t24 t25 t26 t33 t34 t35 =>
    bif (decide (t35 < t34)) then
      (gi t33 t35).bind fun x2 =>
      (modpoly_Gcd K g x2 p).bind fun x4 =>
      bif (decide ((1 : Int) < (x4.1.length : Int))) then
        some (5 : Int)
      else
        qcZ K (.c3 list p g t24 t25 t26 t33 t34 (wI6 (t35 + (1 : Int))))
    else
      qcZ K (.c2 list p t24 t25 (wI6 (t26 + (1 : Int))))
def hensel_check (K : Nat) (list : (List (List Int))) (p : Int) : Option Int := qcZ K (.c0 list p)
noncomputable def qe2 : Code := qbN prog 112
noncomputable def hensel_check_pos : qoE → List Fr
  | .c0 .. => [.code qe2]
  | .c1 .. => [.code (.loop (atC qe2 [1,0,1,0,0])), .blk 0, .code (atC qe2 [1,1])]
  | .c2 .. => [.code (.loop (atC qe2 [1,1,0,1,0,0])), .blk 2, .code (atC qe2 [1,1,1])]
  | .c3 .. => [.code (.loop (atC qe2 [1,1,0,1,0,0,1,1,0,0,1,1,0,0])), .blk 4, .blk 3, .code (atC qe2 [1,1,0,1,0,0,1,1,1]), .lp (atC qe2 [1,1,0,1,0,0]), .blk 2, .code (atC qe2 [1,1,1])]
def hensel_check_st : qoE → St
  | .c0 list p => St.init [(tl 1 list qaG), (ti .u32 p)]
  | .c1 list p t13 t14 t15 => ⟨[(0, vl 1 list qaG), (1, vi .u32 p), (13, vl 1 t13 qaG), (14, vi .i64 t14), (15, vi .i64 t15)], [], []⟩
  | .c2 list p t24 t25 t26 => ⟨[(0, vl 1 list qaG), (1, vi .u32 p), (24, vl 1 t24 qaG), (25, vi .i64 t25), (26, vi .i64 t26)], [], []⟩
  | .c3 list p g t24 t25 t26 t33 t34 t35 => ⟨[(0, vl 1 list qaG), (1, vi .u32 p), (8, vl 1 g qaC), (24, vl 1 t24 qaG), (25, vi .i64 t25), (26, vi .i64 t26), (33, vl 1 t33 qaG), (34, vi .i64 t34), (35, vi .i64 t35)], [], []⟩
def qnO (cx : Cx) (c : qoE) (r : Int) : Prop := Wk prog cx (qcT prog 112 [[0]] (ti .i64 r)) (hensel_check_pos c) .normal (hensel_check_st c)
abbrev qnP (K : Nat) : Prop := ∀ c r, qcZ K c = some r → ∀ cx : Cx, cx.n = 51 → qnO cx c r
theorem hensel_check_c0 {K} (ih : qnP K) {cx} (hn : cx.n = 51) {list p} {r} (h : qcZ (K + 1) (.c0 list p) = some r) : qnO cx (.c0 list p) r := by
  rw [qcZ] at h
  exact qaU (fuel := 56) [rgG [oo], rgG [oo, opI (.ln (list.length : Int)), oo], .pre [.keep [0,1,13,14,15] []]] _ hn (by kernel_rfl) (aC (qaT list qaG) <| aN) (ih _ _ h cx hn)
theorem hensel_check_c1 {K} (ih : qnP K) {cx} (hn : cx.n = 51) {list p t13 t14 t15} {r} (h : qcZ (K + 1) (.c1 list p t13 t14 t15) = some r) : qnO cx (.c1 list p t13 t14 t15) r := by
  rw [qcZ] at h
  rcases qaK h with ⟨h1, h⟩ | ⟨h1, h⟩
  · skip
    obtain ⟨x2, h3, h⟩ := qaH h
    obtain ⟨x4, h5, h⟩ := qaH h
    rcases qaK h with ⟨h6, h⟩ | ⟨h6, h⟩
    · skip
      have h := Option.some.inj h; subst h
      exact qaN (fuel := 108) [.go, rgG [oo], .br true, rgG [opI (.ix (qaG x2)), oo, oo], rgG [oo, oo, opI (.call [[1], [0]] [(tl 1 x2 qaC), (ti .u32 p)] (ti .i64 x4)), oo], .br true, rgG [oo]] _ hn (by kernel_rfl) (aC h1 <| aC (qa0 h3) <| aC (qbH qaG h3) <| aC (qtF h5) <| aC h6 <| aN)
    · skip
      exact qaU (fuel := 100) [.go, rgG [oo], .br true, rgG [opI (.ix (qaG x2)), oo, oo], rgG [oo, oo, opI (.call [[1], [0]] [(tl 1 x2 qaC), (ti .u32 p)] (ti .i64 x4)), oo], .br false, rgG [oo, oo], .pre [.keep [0,1,13,14,15] []]] _ hn (by kernel_rfl) (aC h1 <| aC (qa0 h3) <| aC (qbH qaG h3) <| aC (qtF h5) <| aC h6 <| aN) (ih _ _ h cx hn)
  · skip
    exact qaU (fuel := 80) [.go, rgG [oo], .br false, rgG [oo, opI (.ln (list.length : Int)), oo], .pre [.keep [0,1,24,25,26] []]] _ hn (by kernel_rfl) (aC h1 <| aC (qaT list qaG) <| aN) (ih _ _ h cx hn)
theorem hensel_check_c2 {K} (ih : qnP K) {cx} (hn : cx.n = 51) {list p t24 t25 t26} {r} (h : qcZ (K + 1) (.c2 list p t24 t25 t26) = some r) : qnO cx (.c2 list p t24 t25 t26) r := by
  rw [qcZ] at h
  rcases qaK h with ⟨h1, h⟩ | ⟨h1, h⟩
  · skip
    obtain ⟨x2, h3, h⟩ := qaH h
    obtain ⟨h4, h⟩ := qbE h
    exact qaU (fuel := 84) [.go, rgG [oo], .br true, rgG [oo, opI (.ix (qaG x2)), oo, oo, oo], rgG [oo, oo, opI (.slT 0 t26.toNat ((list.take t26.toNat).map qaG)), opI (.ln ((list.take t26.toNat).length : Int)), oo], .pre [.keep [0,1,8,24,25,26,33,34,35] []]] _ hn (by kernel_rfl) (aC h1 <| aC (qa0 h3) <| aC (qbH qaG h3) <| aC r0 <| aC (⟨h4.1, rfl⟩ : 0 ≤ t26 ∧ t26.toNat = t26.toNat) <| aC h4.2.1 <| aC (ln_le _ h4.2.2 : t26.toNat ≤ (list.map qaG).length) <| aC (tk0_map _ _ _ : ((list.map qaG).take t26.toNat).drop 0 = (list.take t26.toNat).map qaG) <| aC (qaT (list.take t26.toNat) qaG) <| aN) (ih _ _ h cx hn)
  · skip
    have h := Option.some.inj h; subst h
    exact qaN (fuel := 78) [.go, rgG [oo], .br false, rgG [oo]] _ hn (by kernel_rfl) (aC h1 <| aN)
theorem hensel_check_c3 {K} (ih : qnP K) {cx} (hn : cx.n = 51) {list p g t24 t25 t26 t33 t34 t35} {r} (h : qcZ (K + 1) (.c3 list p g t24 t25 t26 t33 t34 t35) = some r) : qnO cx (.c3 list p g t24 t25 t26 t33 t34 t35) r := by
  rw [qcZ] at h
  rcases qaK h with ⟨h1, h⟩ | ⟨h1, h⟩
  · skip
    obtain ⟨x2, h3, h⟩ := qaH h
    obtain ⟨x4, h5, h⟩ := qaH h
    rcases qaK h with ⟨h6, h⟩ | ⟨h6, h⟩
    · skip
      have h := Option.some.inj h; subst h
      exact qaN (fuel := 124) [.go, rgG [oo], .br true, rgG [opI (.ix (qaG x2)), oo, oo], rgG [oo, oo, oo, opI (.call [[1], [1], [0]] [(tl 1 g qaC), (tl 1 x2 qaC), (ti .u32 p)] (TV.tup [(false, [(T.sl 1 (x4.1.map qaC))]), (false, [(T.int .i64 x4.2)])])), oo, oo, oo, oo, oo], rgG [oo, opI (.ln (x4.1.length : Int)), oo], .br true, rgG [oo]] _ hn (by kernel_rfl) (aC h1 <| aC (qa0 h3) <| aC (qbH qaG h3) <| aC (modpoly_Gcd_holds h5) <| aC (qaT x4.1 qaC) <| aC h6 <| aN)
    · skip
      exact qaU (fuel := 108) [.go, rgG [oo], .br true, rgG [opI (.ix (qaG x2)), oo, oo], rgG [oo, oo, oo, opI (.call [[1], [1], [0]] [(tl 1 g qaC), (tl 1 x2 qaC), (ti .u32 p)] (TV.tup [(false, [(T.sl 1 (x4.1.map qaC))]), (false, [(T.int .i64 x4.2)])])), oo, oo, oo, oo, oo], rgG [oo, opI (.ln (x4.1.length : Int)), oo], .br false, rgG [oo, oo], .pre [.keep [0,1,8,24,25,26,33,34,35] []]] _ hn (by kernel_rfl) (aC h1 <| aC (qa0 h3) <| aC (qbH qaG h3) <| aC (modpoly_Gcd_holds h5) <| aC (qaT x4.1 qaC) <| aC h6 <| aN) (ih _ _ h cx hn)
  · skip
    exact qaU (fuel := 78) [.go, rgG [oo], .br false, rgG [oo, oo], .pre [.keep [0,1,24,25,26] []]] _ hn (by kernel_rfl) (aC h1 <| aN) (ih _ _ h cx hn)
theorem qkQ : ∀ K : Nat, qnP K
  | 0, c, r, h => by rw [qcZ] at h; cases h
  | K + 1, .c0 .., r, h => fun cx hn => hensel_check_c0 (qkQ K) hn h
  | K + 1, .c1 .., r, h => fun cx hn => hensel_check_c1 (qkQ K) hn h
  | K + 1, .c2 .., r, h => fun cx hn => hensel_check_c2 (qkQ K) hn h
  | K + 1, .c3 .., r, h => fun cx hn => hensel_check_c3 (qkQ K) hn h
theorem qqM {K : Nat} {list : (List (List Int))} {p : Int} {r : Int} (h : hensel_check K list p = some r) : qcX prog 112 [(tl 1 list qaG), (ti .u32 p)] (ti .i64 r) :=
  qa2 [[0]] (by kernel_rfl) (by simp) fun cx hn => qkQ K (.c0 list p) r h cx hn
end Go.Am.X
namespace Go.Am.X
open Go.Proofs.Try (prog)
inductive qlM where
  | c0 (f : (List Int)) (g : (List Int)) (p : Int)
def qjF : Nat → qlM → Option ((List Int) × (List Int) × Int)
  | 0, _ => none
  | K + 1, .c0 f g p =>
    (qjA K p).bind fun x1 =>
    bif (!x1) then
      some ([], [], (1 : Int))
    else
      (qfD K f p).bind fun x4 =>
      (qfD K g p).bind fun x6 =>
      bif (decide ((x6.length : Int) = (0 : Int))) then
        some ([], [], (2 : Int))
      else
        (qeF K x4 x6 p).bind fun x9 =>
        some (x9.1, x9.2, (0 : Int))
def qc5 (K : Nat) (f : (List Int)) (g : (List Int)) (p : Int) : Option ((List Int) × (List Int) × Int) := qjF K (.c0 f g p)
noncomputable def modpoly_Divide_body : Code := qbN prog 118
noncomputable def modpoly_Divide_pos : qlM → List Fr
  | .c0 .. => [.code modpoly_Divide_body]
def modpoly_Divide_st : qlM → St
  | .c0 f g p => St.init [(tl 1 f qaC), (tl 1 g qaC), (ti .u32 p)]
def modpoly_Divide_S (cx : Cx) (c : qlM) (r : ((List Int) × (List Int) × Int)) : Prop := Wk prog cx (qcT prog 118 [[1], [1], [0]] (TV.tup [(false, [(T.sl 1 (r.1.map qaC))]), (false, [(T.sl 1 (r.2.1.map qaC))]), (false, [(T.int .i64 r.2.2)])])) (modpoly_Divide_pos c) .normal (modpoly_Divide_st c)
abbrev modpoly_Divide_H (K : Nat) : Prop := ∀ c r, qjF K c = some r → ∀ cx : Cx, cx.n = 32 → modpoly_Divide_S cx c r
theorem modpoly_Divide_c0 {K} (_ : modpoly_Divide_H K) {cx} (hn : cx.n = 32) {f g p} {r} (h : qjF (K + 1) (.c0 f g p) = some r) : modpoly_Divide_S cx (.c0 f g p) r := by
  rw [qjF] at h
  obtain ⟨x1, h2, h⟩ := qaH h
  rcases qaK h with ⟨h3, h⟩ | ⟨h3, h⟩
  · skip
    have h := Option.some.inj h; subst h
    exact qaN (fuel := 72) [rgG [oo, oo, oo], rgG [oo, opI (.call [[0]] [(ti .u32 p)] (TV.c (T.bool x1))), oo], .br true, rgG [oo, oo, oo]] _ hn (by kernel_rfl) (aC (qbJ h2) <| aC h3 <| aN)
  · skip
    obtain ⟨x4, h5, h⟩ := qaH h
    obtain ⟨x6, h7, h⟩ := qaH h
    rcases qaK h with ⟨h8, h⟩ | ⟨h8, h⟩
    · skip
      have h := Option.some.inj h; subst h
      exact qaN (fuel := 98) [rgG [oo, oo, oo], rgG [oo, opI (.call [[0]] [(ti .u32 p)] (TV.c (T.bool x1))), oo], .br false, rgG [oo, oo, opI (.call [[1], [0]] [(tl 1 f qaC), (ti .u32 p)] (tl 1 x4 qaC)), oo, oo, opI (.call [[1], [0]] [(tl 1 g qaC), (ti .u32 p)] (tl 1 x6 qaC)), oo, oo], rgG [oo, opI (.ln (x6.length : Int)), oo], .br true, rgG [oo, oo, oo]] _ hn (by kernel_rfl) (aC (qbJ h2) <| aC h3 <| aC (qbK h5) <| aC (qbK h7) <| aC (qaT x6 qaC) <| aC h8 <| aN)
    · skip
      obtain ⟨x9, h10, h⟩ := qaH h
      have h := Option.some.inj h; subst h
      exact qaN (fuel := 106) [rgG [oo, oo, oo], rgG [oo, opI (.call [[0]] [(ti .u32 p)] (TV.c (T.bool x1))), oo], .br false, rgG [oo, oo, opI (.call [[1], [0]] [(tl 1 f qaC), (ti .u32 p)] (tl 1 x4 qaC)), oo, oo, opI (.call [[1], [0]] [(tl 1 g qaC), (ti .u32 p)] (tl 1 x6 qaC)), oo, oo], rgG [oo, opI (.ln (x6.length : Int)), oo], .br false, rgG [oo, oo, oo, opI (.call [[1], [1], [0]] [(tl 1 x4 qaC), (tl 1 x6 qaC), (ti .u32 p)] (TV.tup [(false, [(T.sl 1 (x9.1.map qaC))]), (false, [(T.sl 1 (x9.2.map qaC))])])), oo, oo, oo, oo, oo], rgG [oo, oo, oo, oo, oo]] _ hn (by kernel_rfl) (aC (qbJ h2) <| aC h3 <| aC (qbK h5) <| aC (qbK h7) <| aC (qaT x6 qaC) <| aC h8 <| aC (qcN h10) <| aN)
theorem qvO : ∀ K : Nat, modpoly_Divide_H K
  | 0, c, r, h => by rw [qjF] at h; cases h
  | K + 1, .c0 .., r, h => fun cx hn => modpoly_Divide_c0 (qvO K) hn h
theorem qbV {K : Nat} {f : (List Int)} {g : (List Int)} {p : Int} {r : ((List Int) × (List Int) × Int)} (h : qc5 K f g p = some r) : qcX prog 118 [(tl 1 f qaC), (tl 1 g qaC), (ti .u32 p)] (TV.tup [(false, [(T.sl 1 (r.1.map qaC))]), (false, [(T.sl 1 (r.2.1.map qaC))]), (false, [(T.int .i64 r.2.2)])]) :=
  qa2 [[1], [1], [0]] (by kernel_rfl) (by simp) fun cx hn => qvO K (.c0 f g p) r h cx hn
end Go.Am.X
namespace Go.Am.X
open Go.Proofs.Try (prog)
inductive qp9 where
  | c0 (f : (List Int)) (g : (List Int)) (m : Int)
  | c1 (r26 : (List Int)) (g : (List Int)) (m : Int) (t27 : (List Int)) (t28 : Int) (t29 : Int)
  | c2 (r26 : (List Int)) (g : (List Int)) (m : Int) (i : Int) (a : Int) (t27 : (List Int)) (t28 : Int) (t29 : Int) (t34 : (List Int)) (t35 : Int) (t36 : Int)
def qeG : Nat → qp9 → Option (List Int)
  | 0, _ => none
  | K + 1, .c0 f g m =>
    bif (decide ((f.length : Int) = (0 : Int))) then
      some []
    else
      bif (decide ((g.length : Int) = (0 : Int))) then
        some []
      else
        gd (0 ≤ (wI6 ((wI6 ((f.length : Int) + (g.length : Int))) - (1 : Int))) ∧ (wI6 ((wI6 ((f.length : Int) + (g.length : Int))) - (1 : Int))) ≤ (wI6 ((wI6 ((f.length : Int) + (g.length : Int))) - (1 : Int))) ∧ (4 : Int) * (wI6 ((wI6 ((f.length : Int) + (g.length : Int))) - (1 : Int))) ≤ 140737488355328) <|
        qeG K (.c1 (List.replicate (wI6 ((wI6 ((f.length : Int) + (g.length : Int))) - (1 : Int))).toNat ((0 : Int) : Int)) g m f (f.length : Int) (0 : Int))
  | K + 1, .c1 r26 g m t27 t28 t29 =>
    bif (decide (t29 < t28)) then
      (gi t27 t29).bind fun x2 =>
      qeG K (.c2 r26 g m t29 x2 t27 t28 t29 g (g.length : Int) (0 : Int))
    else
      (qiF K r26).bind fun x2 =>
      some x2
  | K + 1, .c2 r26 g m i a t27 t28 t29 t34 t35 t36 =>
    bif (decide (t36 < t35)) then
      (gi t34 t36).bind fun x2 =>
      (gi r26 (wI6 (i + t36))).bind fun x4 =>
      (qiO K a x2 m).bind fun x6 =>
      (modular_Add K x4 x6 m).bind fun x8 =>
      (gi r26 (wI6 (i + t36))).bind fun _ =>
      qeG K (.c2 (r26.set ((wI6 (i + t36)).toNat) x8) g m i a t27 t28 t29 t34 t35 (wI6 (t36 + (1 : Int))))
    else
      qeG K (.c1 r26 g m t27 t28 (wI6 (t29 + (1 : Int))))
def qdH (K : Nat) (f : (List Int)) (g : (List Int)) (m : Int) : Option (List Int) := qeG K (.c0 f g m)
noncomputable def qg5 : Code := qbN prog 119
noncomputable def modpoly_Mul_pos : qp9 → List Fr
  | .c0 .. => [.code qg5]
  | .c1 .. => [.code (.loop (atC qg5 [1,1,1,0,1,0,0])), .blk 0, .code (atC qg5 [1,1,1,1])]
  | .c2 .. => [.code (.loop (atC qg5 [1,1,1,0,1,0,0,1,1,0,0,1,1,0,0])), .blk 2, .blk 1, .code (atC qg5 [1,1,1,0,1,0,0,1,1,1]), .lp (atC qg5 [1,1,1,0,1,0,0]), .blk 0, .code (atC qg5 [1,1,1,1])]
def modpoly_Mul_st : qp9 → St
  | .c0 f g m => St.init [(tl 1 f qaC), (tl 1 g qaC), (ti .u32 m)]
  | .c1 r26 g m t27 t28 t29 => ⟨[(1, vl 1 g qaC), (2, vi .u32 m), (7, .c (C.row 26 0 r26.length)), (27, vl 1 t27 qaC), (28, vi .i64 t28), (29, vi .i64 t29)], [(26, .row 101 1 (r26.map qaC) 0)], []⟩
  | .c2 r26 g m i a t27 t28 t29 t34 t35 t36 => ⟨[(1, vl 1 g qaC), (2, vi .u32 m), (7, .c (C.row 26 0 r26.length)), (8, vi .i64 i), (9, vi .u32 a), (27, vl 1 t27 qaC), (28, vi .i64 t28), (29, vi .i64 t29), (34, vl 1 t34 qaC), (35, vi .i64 t35), (36, vi .i64 t36)], [(26, .row 101 1 (r26.map qaC) 0)], []⟩
def qtS (cx : Cx) (c : qp9) (r : (List Int)) : Prop := Wk prog cx (qcT prog 119 [[1]] (tl 1 r qaC)) (modpoly_Mul_pos c) .normal (modpoly_Mul_st c)
abbrev qtT (K : Nat) : Prop := ∀ c r, qeG K c = some r → ∀ cx : Cx, cx.n = 62 → qtS cx c r
theorem modpoly_Mul_c0 {K} (ih : qtT K) {cx} (hn : cx.n = 62) {f g m} {r} (h : qeG (K + 1) (.c0 f g m) = some r) : qtS cx (.c0 f g m) r := by
  rw [qeG] at h
  rcases qaK h with ⟨h1, h⟩ | ⟨h1, h⟩
  · skip
    have h := Option.some.inj h; subst h
    exact qaN (fuel := 72) [rgG [oo], rgG [oo, opI (.ln (f.length : Int)), oo, oo, .sb 15 true, oo, oo, oo, oo], .br true, rgG [oo]] _ hn (by kernel_rfl) (aC (qaT f qaC) <| aC h1 <| aC rt <| aN)
  · skip
    rcases qaK h with ⟨h2, h⟩ | ⟨h2, h⟩
    · skip
      have h := Option.some.inj h; subst h
      exact qaN (fuel := 72) [rgG [oo], rgG [oo, opI (.ln (f.length : Int)), oo, oo, .sb 15 false, oo, opI (.ln (g.length : Int)), oo, oo], .br true, rgG [oo]] _ hn (by kernel_rfl) (aC (qaT f qaC) <| aC h1 <| aC (qaT g qaC) <| aC h2 <| aN)
    · skip
      obtain ⟨h3, h⟩ := qbE h
      exact qaU (fuel := 82) [rgG [oo], rgG [oo, opI (.ln (f.length : Int)), oo, oo, .sb 15 false, oo, opI (.ln (g.length : Int)), oo, oo], .br false, rgG [oo, opI (.ln (f.length : Int)), oo, opI (.ln (g.length : Int)), oo, oo, opI (.mk (qaC (0 : Int)) ((List.replicate (wI6 ((wI6 ((f.length : Int) + (g.length : Int))) - (1 : Int))).toNat ((0 : Int) : Int)).map qaC)), oo], rgG [oo, opI (.ln (f.length : Int)), oo], .pre [.rl 7 0 (List.replicate (wI6 ((wI6 ((f.length : Int) + (g.length : Int))) - (1 : Int))).toNat ((0 : Int) : Int)).length, .keep [1,2,7,27,28,29] [26]]] _ hn (by kernel_rfl) (aC (qaT f qaC) <| aC h1 <| aC (qaT g qaC) <| aC h2 <| aC (qaT f qaC) <| aC (qaT g qaC) <| aC h3.1 <| aC h3.2.1 <| aC h3.2.2 <| aC (qf1 _ _ _ : List.replicate (wI6 ((wI6 ((f.length : Int) + (g.length : Int))) - (1 : Int))).toNat (qaC (0 : Int)) = (List.replicate (wI6 ((wI6 ((f.length : Int) + (g.length : Int))) - (1 : Int))).toNat ((0 : Int) : Int)).map qaC) <| aC (qaT f qaC) <| aC r0 <| aC (by simp : (wI6 ((wI6 ((f.length : Int) + (g.length : Int))) - (1 : Int))).toNat = (List.replicate (wI6 ((wI6 ((f.length : Int) + (g.length : Int))) - (1 : Int))).toNat ((0 : Int) : Int)).length) <| aN) (ih _ _ h cx hn)
theorem modpoly_Mul_c1 {K} (ih : qtT K) {cx} (hn : cx.n = 62) {r26 g m t27 t28 t29} {r} (h : qeG (K + 1) (.c1 r26 g m t27 t28 t29) = some r) : qtS cx (.c1 r26 g m t27 t28 t29) r := by
  rw [qeG] at h
  rcases qaK h with ⟨h1, h⟩ | ⟨h1, h⟩
  · skip
    obtain ⟨x2, h3, h⟩ := qaH h
    exact qaU (fuel := 84) [.go, rgG [oo], .br true, rgG [oo, opI (.ix (qaC x2)), oo, oo, oo], rgG [oo, opI (.ln (g.length : Int)), oo], .pre [.rl 7 0 r26.length, .keep [1,2,7,8,9,27,28,29,34,35,36] [26]]] _ hn (by kernel_rfl) (aC h1 <| aC (qa0 h3) <| aC (qbH qaC h3) <| aC (qaT g qaC) <| aC r0 <| aC (lq r26) <| aN) (ih _ _ h cx hn)
  · skip
    obtain ⟨x2, h3, h⟩ := qaH h
    have h := Option.some.inj h; subst h
    exact qaN (fuel := 78) [.go, rgG [oo], .br false, rgG [oo, .snap 60 (max 0 (0 + r26.length)) (r26.map qaC), opI (.call [[1]] [(tl 1 r26 qaC)] (tl 1 x2 qaC)), oo]] _ hn (by kernel_rfl) (aC h1 <| aC (qbI _ _ _ (by simp) : ((r26.map qaC).drop 0).take r26.length = r26.map qaC) <| aC (rfl : (max 0 (0 + r26.length)) = (max 0 (0 + r26.length))) <| aC (qe7 h3) <| aN)
theorem modpoly_Mul_c2 {K} (ih : qtT K) {cx} (hn : cx.n = 62) {r26 g m i a t27 t28 t29 t34 t35 t36} {r} (h : qeG (K + 1) (.c2 r26 g m i a t27 t28 t29 t34 t35 t36) = some r) : qtS cx (.c2 r26 g m i a t27 t28 t29 t34 t35 t36) r := by
  rw [qeG] at h
  rcases qaK h with ⟨h1, h⟩ | ⟨h1, h⟩
  · skip
    obtain ⟨x2, h3, h⟩ := qaH h
    obtain ⟨x4, h5, h⟩ := qaH h
    obtain ⟨x6, h7, h⟩ := qaH h
    obtain ⟨x8, h9, h⟩ := qaH h
    obtain ⟨x10, h11, h⟩ := qaH h
    exact qaU (fuel := 90) [.go, rgG [oo], .br true, rgG [oo, opI (.ix (qaC x2)), oo, oo, oo], .draw [.p, .p, .p, .p, .p, .p, .p, .p, .ir, (.ld (qaC x4)), .p, .p, .p, (.call [[0], [0], [0]] [(ti .u32 a), (ti .u32 x2), (ti .u32 m)] (ti .u32 x6)), .p, (.call [[0], [0], [0]] [(ti .u32 x4), (ti .u32 x6), (ti .u32 m)] (ti .u32 x8))] [.op .ir, opI (.st (qaC x10) ((r26.set ((wI6 (i + t36)).toNat) x8).map qaC))], rgG [oo, oo], .pre [.rl 7 0 (r26.set ((wI6 (i + t36)).toNat) x8).length, .keep [1,2,7,8,9,27,28,29,34,35,36] [26]]] _ hn (by kernel_rfl) (aC h1 <| aC (qa0 h3) <| aC (qbH qaC h3) <| aC (qa0 h5) <| aC (qcH h5 (by simp) : (wI6 (i + t36)) < ((r26.length : Nat) : Int)) <| aC (qcG qaC h5 : (r26.map qaC)[(0 + (wI6 (i + t36)).toNat)]? = some (qaC x4)) <| aC (qeE h7) <| aC (modular_Add_holds h9) <| aC (qa0 h11) <| aC (qcH h11 (by simp) : (wI6 (i + t36)) < ((r26.length : Nat) : Int)) <| aC (qcG qaC h11 : (r26.map qaC)[(0 + (wI6 (i + t36)).toNat)]? = some (qaC x10)) <| aC (qc7 _ _ x8 _ : (r26.map qaC).set (0 + (wI6 (i + t36)).toNat) (qbY (qaC x10) 0 [(T.int .u32 x8)]) = (r26.set ((wI6 (i + t36)).toNat) x8).map qaC) <| aC (Nat.zero_le _ : 0 ≤ (0 + (wI6 (i + t36)).toNat)) <| aC r0 <| aC (by simp : r26.length = (r26.set ((wI6 (i + t36)).toNat) x8).length) <| aN) (ih _ _ h cx hn)
  · skip
    exact qaU (fuel := 78) [.go, rgG [oo], .br false, rgG [oo, oo], .pre [.rl 7 0 r26.length, .keep [1,2,7,27,28,29] [26]]] _ hn (by kernel_rfl) (aC h1 <| aC r0 <| aC (lq r26) <| aN) (ih _ _ h cx hn)
theorem qp8 : ∀ K : Nat, qtT K
  | 0, c, r, h => by rw [qeG] at h; cases h
  | K + 1, .c0 .., r, h => fun cx hn => modpoly_Mul_c0 (qp8 K) hn h
  | K + 1, .c1 .., r, h => fun cx hn => modpoly_Mul_c1 (qp8 K) hn h
  | K + 1, .c2 .., r, h => fun cx hn => modpoly_Mul_c2 (qp8 K) hn h
theorem qbL {K : Nat} {f : (List Int)} {g : (List Int)} {m : Int} {r : (List Int)} (h : qdH K f g m = some r) : qcX prog 119 [(tl 1 f qaC), (tl 1 g qaC), (ti .u32 m)] (tl 1 r qaC) :=
  qa2 [[1]] (by kernel_rfl) (by simp) fun cx hn => qp8 K (.c0 f g m) r h cx hn
end Go.Am.X
namespace Go.Am.X
open Go.Proofs.Try (prog)
inductive qr6 where
  | c0 (f : (List Int)) (i : Int)
def qp3 : Nat → qr6 → Option Int
  | 0, _ => none
  | _ + 1, .c0 f i =>
    bif (decide (i < (f.length : Int))) then
      (gi f i).bind fun x2 =>
      some x2
    else
      some (0 : Int)
def modpoly_at (K : Nat) (f : (List Int)) (i : Int) : Option Int := qp3 K (.c0 f i)
noncomputable def modpoly_at_body : Code := qbN prog 191
noncomputable def modpoly_at_pos : qr6 → List Fr
  | .c0 .. => [.code modpoly_at_body]
def modpoly_at_st : qr6 → St
  | .c0 f i => St.init [(tl 1 f qaC), (ti .i64 i)]
def modpoly_at_S (cx : Cx) (c : qr6) (r : Int) : Prop := Wk prog cx (qcT prog 191 [[0]] (ti .u32 r)) (modpoly_at_pos c) .normal (modpoly_at_st c)
abbrev modpoly_at_H (K : Nat) : Prop := ∀ c r, qp3 K c = some r → ∀ cx : Cx, cx.n = 13 → modpoly_at_S cx c r
theorem modpoly_at_c0 {K} (_ : modpoly_at_H K) {cx} (hn : cx.n = 13) {f i} {r} (h : qp3 (K + 1) (.c0 f i) = some r) : modpoly_at_S cx (.c0 f i) r := by
  rw [qp3] at h
  rcases qaK h with ⟨h1, h⟩ | ⟨h1, h⟩
  · skip
    obtain ⟨x2, h3, h⟩ := qaH h
    have h := Option.some.inj h; subst h
    exact qaN (fuel := 72) [rgG [oo], rgG [oo, oo, opI (.ln (f.length : Int)), oo], .br true, rgG [oo, oo, opI (.ix (qaC x2)), oo, oo]] _ hn (by kernel_rfl) (aC (qaT f qaC) <| aC h1 <| aC (qa0 h3) <| aC (qbH qaC h3) <| aN)
  · skip
    have h := Option.some.inj h; subst h
    exact qaN (fuel := 72) [rgG [oo], rgG [oo, oo, opI (.ln (f.length : Int)), oo], .br false, rgG [oo]] _ hn (by kernel_rfl) (aC (qaT f qaC) <| aC h1 <| aN)
theorem modpoly_at_all : ∀ K : Nat, modpoly_at_H K
  | 0, c, r, h => by rw [qp3] at h; cases h
  | K + 1, .c0 .., r, h => fun cx hn => modpoly_at_c0 (modpoly_at_all K) hn h
theorem modpoly_at_holds {K : Nat} {f : (List Int)} {i : Int} {r : Int} (h : modpoly_at K f i = some r) : qcX prog 191 [(tl 1 f qaC), (ti .i64 i)] (ti .u32 r) :=
  qa2 [[0]] (by kernel_rfl) (by simp) fun cx hn => modpoly_at_all K (.c0 f i) r h cx hn
end Go.Am.X
namespace Go.Am.X
open Go.Proofs.Try (prog)
inductive qp4 where
  | c0 (f : (List Int)) (g : (List Int)) (m : Int)
  | c1 (r14 : (List Int)) (f : (List Int)) (g : (List Int)) (m : Int) (t16 : Int) (t17 : Int)
def qgD : Nat → qp4 → Option (List Int)
  | 0, _ => none
  | K + 1, .c0 f g m =>
    gd (0 ≤ (max (f.length : Int) (g.length : Int)) ∧ (max (f.length : Int) (g.length : Int)) ≤ (max (f.length : Int) (g.length : Int)) ∧ (4 : Int) * (max (f.length : Int) (g.length : Int)) ≤ 140737488355328) <|
    qgD K (.c1 (List.replicate (max (f.length : Int) (g.length : Int)).toNat ((0 : Int) : Int)) f g m (((max (f.length : Int) (g.length : Int)).toNat : Nat) : Int) (0 : Int))
  | K + 1, .c1 r14 f g m t16 t17 =>
    bif (decide (t17 < t16)) then
      (modpoly_at K f t17).bind fun x2 =>
      (modpoly_at K g t17).bind fun x4 =>
      (modular_Sub K x2 x4 m).bind fun x6 =>
      (gi r14 t17).bind fun _ =>
      qgD K (.c1 (r14.set (t17.toNat) x6) f g m t16 (wI6 (t17 + (1 : Int))))
    else
      (qiF K r14).bind fun x2 =>
      some x2
def quK (K : Nat) (f : (List Int)) (g : (List Int)) (m : Int) : Option (List Int) := qgD K (.c0 f g m)
noncomputable def qs2 : Code := qbN prog 182
noncomputable def modpoly_Sub_pos : qp4 → List Fr
  | .c0 .. => [.code qs2]
  | .c1 .. => [.code (.loop (atC qs2 [1,1,0,1,0,0])), .blk 0, .code (atC qs2 [1,1,1])]
def modpoly_Sub_st : qp4 → St
  | .c0 f g m => St.init [(tl 1 f qaC), (tl 1 g qaC), (ti .u32 m)]
  | .c1 r14 f g m t16 t17 => ⟨[(0, vl 1 f qaC), (1, vl 1 g qaC), (2, vi .u32 m), (7, .c (C.row 14 0 r14.length)), (16, vi .i64 t16), (17, vi .i64 t17)], [(14, .row 101 1 (r14.map qaC) 0)], []⟩
def modpoly_Sub_S (cx : Cx) (c : qp4) (r : (List Int)) : Prop := Wk prog cx (qcT prog 182 [[1]] (tl 1 r qaC)) (modpoly_Sub_pos c) .normal (modpoly_Sub_st c)
abbrev modpoly_Sub_H (K : Nat) : Prop := ∀ c r, qgD K c = some r → ∀ cx : Cx, cx.n = 34 → modpoly_Sub_S cx c r
theorem modpoly_Sub_c0 {K} (ih : modpoly_Sub_H K) {cx} (hn : cx.n = 34) {f g m} {r} (h : qgD (K + 1) (.c0 f g m) = some r) : modpoly_Sub_S cx (.c0 f g m) r := by
  rw [qgD] at h
  obtain ⟨h1, h⟩ := qbE h
  exact qaU (fuel := 64) [rgG [oo], rgG [oo, opI (.ln (f.length : Int)), oo, opI (.ln (g.length : Int)), oo, opI (.mk (qaC (0 : Int)) ((List.replicate (max (f.length : Int) (g.length : Int)).toNat ((0 : Int) : Int)).map qaC)), oo], rgG [oo, oo, oo], .pre [.rl 7 0 (List.replicate (max (f.length : Int) (g.length : Int)).toNat ((0 : Int) : Int)).length, .keep [0,1,2,7,16,17] [14]]] _ hn (by kernel_rfl) (aC (qaT f qaC) <| aC (qaT g qaC) <| aC h1.1 <| aC h1.2.1 <| aC h1.2.2 <| aC (qf1 _ _ _ : List.replicate (max (f.length : Int) (g.length : Int)).toNat (qaC (0 : Int)) = (List.replicate (max (f.length : Int) (g.length : Int)).toNat ((0 : Int) : Int)).map qaC) <| aC r0 <| aC (by simp : (max (f.length : Int) (g.length : Int)).toNat = (List.replicate (max (f.length : Int) (g.length : Int)).toNat ((0 : Int) : Int)).length) <| aN) (ih _ _ h cx hn)
theorem modpoly_Sub_c1 {K} (ih : modpoly_Sub_H K) {cx} (hn : cx.n = 34) {r14 f g m t16 t17} {r} (h : qgD (K + 1) (.c1 r14 f g m t16 t17) = some r) : modpoly_Sub_S cx (.c1 r14 f g m t16 t17) r := by
  rw [qgD] at h
  rcases qaK h with ⟨h1, h⟩ | ⟨h1, h⟩
  · skip
    obtain ⟨x2, h3, h⟩ := qaH h
    obtain ⟨x4, h5, h⟩ := qaH h
    obtain ⟨x6, h7, h⟩ := qaH h
    obtain ⟨x8, h9, h⟩ := qaH h
    exact qaU (fuel := 90) [.go, rgG [oo], .br true, rgG [oo, oo], rgG [oo, oo, oo, oo, opI (.call [[1], [0]] [(tl 1 f qaC), (ti .i64 t17)] (ti .u32 x2)), oo, oo, opI (.call [[1], [0]] [(tl 1 g qaC), (ti .i64 t17)] (ti .u32 x4)), oo, opI (.call [[0], [0], [0]] [(ti .u32 x2), (ti .u32 x4), (ti .u32 m)] (ti .u32 x6)), .op .ir, opI (.st (qaC x8) ((r14.set (t17.toNat) x6).map qaC))], rgG [oo, oo], .pre [.rl 7 0 (r14.set (t17.toNat) x6).length, .keep [0,1,2,7,16,17] [14]]] _ hn (by kernel_rfl) (aC h1 <| aC (modpoly_at_holds h3) <| aC (modpoly_at_holds h5) <| aC (modular_Sub_holds h7) <| aC (qa0 h9) <| aC (qcH h9 (by simp) : t17 < ((r14.length : Nat) : Int)) <| aC (qcG qaC h9 : (r14.map qaC)[(0 + t17.toNat)]? = some (qaC x8)) <| aC (qc7 _ _ x6 _ : (r14.map qaC).set (0 + t17.toNat) (qbY (qaC x8) 0 [(T.int .u32 x6)]) = (r14.set (t17.toNat) x6).map qaC) <| aC (Nat.zero_le _ : 0 ≤ (0 + t17.toNat)) <| aC r0 <| aC (by simp : r14.length = (r14.set (t17.toNat) x6).length) <| aN) (ih _ _ h cx hn)
  · skip
    obtain ⟨x2, h3, h⟩ := qaH h
    have h := Option.some.inj h; subst h
    exact qaN (fuel := 78) [.go, rgG [oo], .br false, rgG [oo, .snap 32 (max 0 (0 + r14.length)) (r14.map qaC), opI (.call [[1]] [(tl 1 r14 qaC)] (tl 1 x2 qaC)), oo]] _ hn (by kernel_rfl) (aC h1 <| aC (qbI _ _ _ (by simp) : ((r14.map qaC).drop 0).take r14.length = r14.map qaC) <| aC (rfl : (max 0 (0 + r14.length)) = (max 0 (0 + r14.length))) <| aC (qe7 h3) <| aN)
theorem quJ : ∀ K : Nat, modpoly_Sub_H K
  | 0, c, r, h => by rw [qgD] at h; cases h
  | K + 1, .c0 .., r, h => fun cx hn => modpoly_Sub_c0 (quJ K) hn h
  | K + 1, .c1 .., r, h => fun cx hn => modpoly_Sub_c1 (quJ K) hn h
theorem qmQ {K : Nat} {f : (List Int)} {g : (List Int)} {m : Int} {r : (List Int)} (h : quK K f g m = some r) : qcX prog 182 [(tl 1 f qaC), (tl 1 g qaC), (ti .u32 m)] (tl 1 r qaC) :=
  qa2 [[1]] (by kernel_rfl) (by simp) fun cx hn => quJ K (.c0 f g m) r h cx hn
end Go.Am.X
namespace Go.Am.X
open Go.Proofs.Try (prog)
inductive qj7 where
  | c0 (f : (List Int)) (g : (List Int)) (p : Int)
  | c1 (r26 : (List Int)) (g : (List Int)) (p : Int) (a : (List Int)) (b : (List Int))
  | c2 (r26 : (List Int)) (fz26 : Nat) (g : (List Int)) (p : Int) (a : (List Int)) (b : (List Int)) (u : (List Int))
  | c3 (g : (List Int)) (p : Int) (a : (List Int)) (b : (List Int)) (u : (List Int)) (v : (List Int))
def qcM : Nat → qj7 → Option (List Int)
  | 0, _ => none
  | K + 1, .c0 f g p =>
    (qeF K f g p).bind fun x1 =>
    qcM K (.c1 ([(1 : Int)] : List Int) g p x1.2 g)
  | K + 1, .c1 r26 g p a b =>
    bif (decide ((1 : Int) < (a.length : Int))) then
      (qeF K b a p).bind fun x2 =>
      (qdH K x2.1 r26 p).bind fun x4 =>
      (quK K [] x4 p).bind fun x6 =>
      qcM K (.c2 r26 (max 0 (0 + r26.length)) g p x2.2 a x6)
    else
      (gi a (0 : Int)).bind fun x2 =>
      (qd8 K x2 p).bind fun x4 =>
      (qfS K r26 x4.1 p).bind fun x6 =>
      (qeF K x6 g p).bind fun x8 =>
      some x8.2
  | K + 1, .c2 r26 _ g p a b u =>
    bif (decide ((1 : Int) < (a.length : Int))) then
      (qeF K b a p).bind fun x2 =>
      (qdH K x2.1 u p).bind fun x4 =>
      (quK K r26 x4 p).bind fun x6 =>
      qcM K (.c3 g p x2.2 a x6 u)
    else
      (gi a (0 : Int)).bind fun x2 =>
      (qd8 K x2 p).bind fun x4 =>
      (qfS K u x4.1 p).bind fun x6 =>
      (qeF K x6 g p).bind fun x8 =>
      some x8.2
  | K + 1, .c3 g p a b u v =>
    bif (decide ((1 : Int) < (a.length : Int))) then
      (qeF K b a p).bind fun x2 =>
      (qdH K x2.1 u p).bind fun x4 =>
      (quK K v x4 p).bind fun x6 =>
      qcM K (.c3 g p x2.2 a x6 u)
    else
      (gi a (0 : Int)).bind fun x2 =>
      (qd8 K x2 p).bind fun x4 =>
      (qfS K u x4.1 p).bind fun x6 =>
      (qeF K x6 g p).bind fun x8 =>
      some x8.2
def modpoly_inverse (K : Nat) (f : (List Int)) (g : (List Int)) (p : Int) : Option (List Int) := qcM K (.c0 f g p)
noncomputable def qe4 : Code := qbN prog 181
noncomputable def modpoly_inverse_pos : qj7 → List Fr
  | .c0 .. => [.code qe4]
  | .c1 .. => [.code (.loop (atC qe4 [1,1,1,1,0,0,0])), .blk 0, .code (atC qe4 [1,1,1,1,1])]
  | .c2 .. => [.code (.loop (atC qe4 [1,1,1,1,0,0,0])), .blk 0, .code (atC qe4 [1,1,1,1,1])]
  | .c3 .. => [.code (.loop (atC qe4 [1,1,1,1,0,0,0])), .blk 0, .code (atC qe4 [1,1,1,1,1])]
def modpoly_inverse_st : qj7 → St
  | .c0 f g p => St.init [(tl 1 f qaC), (tl 1 g qaC), (ti .u32 p)]
  | .c1 r26 g p a b => ⟨[(1, vl 1 g qaC), (2, vi .u32 p), (8, vl 1 a qaC), (9, vl 1 b qaC), (10, .c (C.row 26 0 r26.length)), (11, .c (C.nil))], [(26, .row 101 1 (r26.map qaC) 0)], []⟩
  | .c2 r26 fz26 g p a b u => ⟨[(1, vl 1 g qaC), (2, vi .u32 p), (8, vl 1 a qaC), (9, vl 1 b qaC), (10, vl 1 u qaC), (11, .c (C.row 26 0 r26.length))], [(26, .row 101 1 (r26.map qaC) fz26)], []⟩
  | .c3 g p a b u v => ⟨[(1, vl 1 g qaC), (2, vi .u32 p), (8, vl 1 a qaC), (9, vl 1 b qaC), (10, vl 1 u qaC), (11, vl 1 v qaC)], [], []⟩
def qjC (cx : Cx) (c : qj7) (r : (List Int)) : Prop := Wk prog cx (qcT prog 181 [[1]] (tl 1 r qaC)) (modpoly_inverse_pos c) .normal (modpoly_inverse_st c)
abbrev qjD (K : Nat) : Prop := ∀ c r, qcM K c = some r → ∀ cx : Cx, cx.n = 66 → qjC cx c r
theorem modpoly_inverse_c0 {K} (ih : qjD K) {cx} (hn : cx.n = 66) {f g p} {r} (h : qcM (K + 1) (.c0 f g p) = some r) : qjC cx (.c0 f g p) r := by
  rw [qcM] at h
  obtain ⟨x1, h2, h⟩ := qaH h
  exact qaU (fuel := 72) [rgG [oo], rgG [oo, oo, oo, opI (.call [[1], [1], [0]] [(tl 1 f qaC), (tl 1 g qaC), (ti .u32 p)] (TV.tup [(false, [(T.sl 1 (x1.1.map qaC))]), (false, [(T.sl 1 (x1.2.map qaC))])])), oo, oo, oo, oo, oo], rgG [oo, oo], rgG [opI (.lit (([(1 : Int)] : List Int).map qaC)), oo, oo], .pre [.rl 10 0 ([(1 : Int)] : List Int).length, .keep [1,2,8,9,10,11] [26]]] _ hn (by kernel_rfl) (aC (qcN h2) <| aC (by kernel_rfl : [(T.int .u32 (1 : Int))] = (([(1 : Int)] : List Int).map qaC).flatten) <| aC r0 <| aC (by simp : 1 = ([(1 : Int)] : List Int).length) <| aN) (ih _ _ h cx hn)
theorem modpoly_inverse_c1 {K} (ih : qjD K) {cx} (hn : cx.n = 66) {r26 g p a b} {r} (h : qcM (K + 1) (.c1 r26 g p a b) = some r) : qjC cx (.c1 r26 g p a b) r := by
  rw [qcM] at h
  rcases qaK h with ⟨h1, h⟩ | ⟨h1, h⟩
  · skip
    obtain ⟨x2, h3, h⟩ := qaH h
    obtain ⟨x4, h5, h⟩ := qaH h
    obtain ⟨x6, h7, h⟩ := qaH h
    exact qaU (fuel := 90) [.go, rgG [oo, opI (.ln (a.length : Int)), oo], .br true, rgG [oo, oo, oo, opI (.call [[1], [1], [0]] [(tl 1 b qaC), (tl 1 a qaC), (ti .u32 p)] (TV.tup [(false, [(T.sl 1 (x2.1.map qaC))]), (false, [(T.sl 1 (x2.2.map qaC))])])), oo, oo, oo, oo, oo], rgG [oo, oo, oo, oo], rgG [oo, oo, oo, oo, .snap 41 (max 0 (0 + r26.length)) (r26.map qaC), opI (.call [[1], [1], [0]] [(tl 1 x2.1 qaC), (tl 1 r26 qaC), (ti .u32 p)] (tl 1 x4 qaC)), oo, opI (.call [[1], [1], [0]] [(TV.c (T.sl 1 ([].map qaC))), (tl 1 x4 qaC), (ti .u32 p)] (tl 1 x6 qaC)), oo, oo, oo], .pre [.rl 11 0 r26.length, .keep [1,2,8,9,10,11] [26]]] _ hn (by kernel_rfl) (aC (qaT a qaC) <| aC h1 <| aC (qcN h3) <| aC (qbI _ _ _ (by simp) : ((r26.map qaC).drop 0).take r26.length = r26.map qaC) <| aC (rfl : (max 0 (0 + r26.length)) = (max 0 (0 + r26.length))) <| aC (qbL h5) <| aC (qmQ h7) <| aC r0 <| aC (lq r26) <| aN) (ih _ _ h cx hn)
  · skip
    obtain ⟨x2, h3, h⟩ := qaH h
    obtain ⟨x4, h5, h⟩ := qaH h
    obtain ⟨x6, h7, h⟩ := qaH h
    obtain ⟨x8, h9, h⟩ := qaH h
    have h := Option.some.inj h; subst h
    exact qaN (fuel := 94) [.go, rgG [oo, opI (.ln (a.length : Int)), oo], .br false, rgG [oo, opI (.ix (qaC x2)), oo, oo, opI (.call [[0], [0]] [(ti .u32 x2), (ti .u32 p)] (TV.tup [(false, [(T.int .u32 x4.1)]), (false, [(T.int .i64 x4.2)])])), oo, oo, oo, oo, oo], rgG [oo, oo, oo, .snap 56 (max 0 (0 + r26.length)) (r26.map qaC), opI (.call [[1], [0], [0]] [(tl 1 r26 qaC), (ti .u32 x4.1), (ti .u32 p)] (tl 1 x6 qaC)), oo, oo, opI (.call [[1], [1], [0]] [(tl 1 x6 qaC), (tl 1 g qaC), (ti .u32 p)] (TV.tup [(false, [(T.sl 1 (x8.1.map qaC))]), (false, [(T.sl 1 (x8.2.map qaC))])])), oo, oo, oo, oo, oo], rgG [oo, oo]] _ hn (by kernel_rfl) (aC (qaT a qaC) <| aC h1 <| aC (qa0 h3) <| aC (qbH qaC h3) <| aC (qcY h5) <| aC (qbI _ _ _ (by simp) : ((r26.map qaC).drop 0).take r26.length = r26.map qaC) <| aC (rfl : (max 0 (0 + r26.length)) = (max 0 (0 + r26.length))) <| aC (qc3 h7) <| aC (qcN h9) <| aN)
theorem modpoly_inverse_c2 {K} (ih : qjD K) {cx} (hn : cx.n = 66) {r26 fz26 g p a b u} {r} (h : qcM (K + 1) (.c2 r26 fz26 g p a b u) = some r) : qjC cx (.c2 r26 fz26 g p a b u) r := by
  rw [qcM] at h
  rcases qaK h with ⟨h1, h⟩ | ⟨h1, h⟩
  · skip
    obtain ⟨x2, h3, h⟩ := qaH h
    obtain ⟨x4, h5, h⟩ := qaH h
    obtain ⟨x6, h7, h⟩ := qaH h
    exact qaU (fuel := 90) [.go, rgG [oo, opI (.ln (a.length : Int)), oo], .br true, rgG [oo, oo, oo, opI (.call [[1], [1], [0]] [(tl 1 b qaC), (tl 1 a qaC), (ti .u32 p)] (TV.tup [(false, [(T.sl 1 (x2.1.map qaC))]), (false, [(T.sl 1 (x2.2.map qaC))])])), oo, oo, oo, oo, oo], rgG [oo, oo, oo, oo], rgG [oo, oo, oo, oo, opI (.call [[1], [1], [0]] [(tl 1 x2.1 qaC), (tl 1 u qaC), (ti .u32 p)] (tl 1 x4 qaC)), oo, .snap 39 (max fz26 (0 + r26.length)) (r26.map qaC), opI (.call [[1], [1], [0]] [(tl 1 r26 qaC), (tl 1 x4 qaC), (ti .u32 p)] (tl 1 x6 qaC)), oo, oo, oo], .pre [.keep [1,2,8,9,10,11] []]] _ hn (by kernel_rfl) (aC (qaT a qaC) <| aC h1 <| aC (qcN h3) <| aC (qbL h5) <| aC (qbI _ _ _ (by simp) : ((r26.map qaC).drop 0).take r26.length = r26.map qaC) <| aC (rfl : (max fz26 (0 + r26.length)) = (max fz26 (0 + r26.length))) <| aC (qmQ h7) <| aN) (ih _ _ h cx hn)
  · skip
    obtain ⟨x2, h3, h⟩ := qaH h
    obtain ⟨x4, h5, h⟩ := qaH h
    obtain ⟨x6, h7, h⟩ := qaH h
    obtain ⟨x8, h9, h⟩ := qaH h
    have h := Option.some.inj h; subst h
    exact qaN (fuel := 94) [.go, rgG [oo, opI (.ln (a.length : Int)), oo], .br false, rgG [oo, opI (.ix (qaC x2)), oo, oo, opI (.call [[0], [0]] [(ti .u32 x2), (ti .u32 p)] (TV.tup [(false, [(T.int .u32 x4.1)]), (false, [(T.int .i64 x4.2)])])), oo, oo, oo, oo, oo], rgG [oo, oo, oo, opI (.call [[1], [0], [0]] [(tl 1 u qaC), (ti .u32 x4.1), (ti .u32 p)] (tl 1 x6 qaC)), oo, oo, opI (.call [[1], [1], [0]] [(tl 1 x6 qaC), (tl 1 g qaC), (ti .u32 p)] (TV.tup [(false, [(T.sl 1 (x8.1.map qaC))]), (false, [(T.sl 1 (x8.2.map qaC))])])), oo, oo, oo, oo, oo], rgG [oo, oo]] _ hn (by kernel_rfl) (aC (qaT a qaC) <| aC h1 <| aC (qa0 h3) <| aC (qbH qaC h3) <| aC (qcY h5) <| aC (qc3 h7) <| aC (qcN h9) <| aN)
theorem modpoly_inverse_c3 {K} (ih : qjD K) {cx} (hn : cx.n = 66) {g p a b u v} {r} (h : qcM (K + 1) (.c3 g p a b u v) = some r) : qjC cx (.c3 g p a b u v) r := by
  rw [qcM] at h
  rcases qaK h with ⟨h1, h⟩ | ⟨h1, h⟩
  · skip
    obtain ⟨x2, h3, h⟩ := qaH h
    obtain ⟨x4, h5, h⟩ := qaH h
    obtain ⟨x6, h7, h⟩ := qaH h
    exact qaU (fuel := 90) [.go, rgG [oo, opI (.ln (a.length : Int)), oo], .br true, rgG [oo, oo, oo, opI (.call [[1], [1], [0]] [(tl 1 b qaC), (tl 1 a qaC), (ti .u32 p)] (TV.tup [(false, [(T.sl 1 (x2.1.map qaC))]), (false, [(T.sl 1 (x2.2.map qaC))])])), oo, oo, oo, oo, oo], rgG [oo, oo, oo, oo], rgG [oo, oo, oo, oo, opI (.call [[1], [1], [0]] [(tl 1 x2.1 qaC), (tl 1 u qaC), (ti .u32 p)] (tl 1 x4 qaC)), oo, opI (.call [[1], [1], [0]] [(tl 1 v qaC), (tl 1 x4 qaC), (ti .u32 p)] (tl 1 x6 qaC)), oo, oo, oo], .pre [.keep [1,2,8,9,10,11] []]] _ hn (by kernel_rfl) (aC (qaT a qaC) <| aC h1 <| aC (qcN h3) <| aC (qbL h5) <| aC (qmQ h7) <| aN) (ih _ _ h cx hn)
  · skip
    obtain ⟨x2, h3, h⟩ := qaH h
    obtain ⟨x4, h5, h⟩ := qaH h
    obtain ⟨x6, h7, h⟩ := qaH h
    obtain ⟨x8, h9, h⟩ := qaH h
    have h := Option.some.inj h; subst h
    exact qaN (fuel := 94) [.go, rgG [oo, opI (.ln (a.length : Int)), oo], .br false, rgG [oo, opI (.ix (qaC x2)), oo, oo, opI (.call [[0], [0]] [(ti .u32 x2), (ti .u32 p)] (TV.tup [(false, [(T.int .u32 x4.1)]), (false, [(T.int .i64 x4.2)])])), oo, oo, oo, oo, oo], rgG [oo, oo, oo, opI (.call [[1], [0], [0]] [(tl 1 u qaC), (ti .u32 x4.1), (ti .u32 p)] (tl 1 x6 qaC)), oo, oo, opI (.call [[1], [1], [0]] [(tl 1 x6 qaC), (tl 1 g qaC), (ti .u32 p)] (TV.tup [(false, [(T.sl 1 (x8.1.map qaC))]), (false, [(T.sl 1 (x8.2.map qaC))])])), oo, oo, oo, oo, oo], rgG [oo, oo]] _ hn (by kernel_rfl) (aC (qaT a qaC) <| aC h1 <| aC (qa0 h3) <| aC (qbH qaC h3) <| aC (qcY h5) <| aC (qc3 h7) <| aC (qcN h9) <| aN)
theorem qhT : ∀ K : Nat, qjD K
  | 0, c, r, h => by rw [qcM] at h; cases h
  | K + 1, .c0 .., r, h => fun cx hn => modpoly_inverse_c0 (qhT K) hn h
  | K + 1, .c1 .., r, h => fun cx hn => modpoly_inverse_c1 (qhT K) hn h
  | K + 1, .c2 .., r, h => fun cx hn => modpoly_inverse_c2 (qhT K) hn h
  | K + 1, .c3 .., r, h => fun cx hn => modpoly_inverse_c3 (qhT K) hn h
theorem modpoly_inverse_holds {K : Nat} {f : (List Int)} {g : (List Int)} {p : Int} {r : (List Int)} (h : modpoly_inverse K f g p = some r) : qcX prog 181 [(tl 1 f qaC), (tl 1 g qaC), (ti .u32 p)] (tl 1 r qaC) :=
  qa2 [[1]] (by kernel_rfl) (by simp) fun cx hn => qhT K (.c0 f g p) r h cx hn
end Go.Am.X
namespace Go.Am.X
open Go.Proofs.Try (prog)
inductive qn6 where
  | c0 (f : (List Int)) (g : (List Int)) (p : Int)
def ql4 : Nat → qn6 → Option ((List Int) × (List Int) × (List Int) × Int)
  | 0, _ => none
  | K + 1, .c0 f g p =>
    (qjA K p).bind fun x1 =>
    bif (!x1) then
      some ([], [], [], (1 : Int))
    else
      (qfD K f p).bind fun x4 =>
      (qfD K g p).bind fun x6 =>
      (modpoly_gcd K x4 x6 p).bind fun x8 =>
      bif (decide ((x6.length : Int) = (0 : Int))) then
        bif (decide ((x4.length : Int) = (0 : Int))) then
          some ([], [], [], (0 : Int))
        else
          (gi x4 (wI6 ((x4.length : Int) - (1 : Int)))).bind fun x12 =>
          (qd8 K x12 p).bind fun x14 =>
          some (x8, ([x14.1] : List Int), [], (0 : Int))
      else
        (qeF K x6 x8 p).bind fun x11 =>
        bif (decide ((x11.1.length : Int) = (1 : Int))) then
          (gi x6 (wI6 ((x6.length : Int) - (1 : Int)))).bind fun x14 =>
          (qd8 K x14 p).bind fun x16 =>
          some (x8, [], ([x16.1] : List Int), (0 : Int))
        else
          (qeF K x4 x8 p).bind fun x14 =>
          (modpoly_inverse K x14.1 x11.1 p).bind fun x16 =>
          (qdH K x16 x4 p).bind fun x18 =>
          (quK K x8 x18 p).bind fun x20 =>
          (qeF K x20 x6 p).bind fun x22 =>
          some (x8, x16, x22.1, (0 : Int))
def qsI (K : Nat) (f : (List Int)) (g : (List Int)) (p : Int) : Option ((List Int) × (List Int) × (List Int) × Int) := ql4 K (.c0 f g p)
noncomputable def modpoly_Xgcd_body : Code := qbN prog 158
noncomputable def modpoly_Xgcd_pos : qn6 → List Fr
  | .c0 .. => [.code modpoly_Xgcd_body]
def modpoly_Xgcd_st : qn6 → St
  | .c0 f g p => St.init [(tl 1 f qaC), (tl 1 g qaC), (ti .u32 p)]
def modpoly_Xgcd_S (cx : Cx) (c : qn6) (r : ((List Int) × (List Int) × (List Int) × Int)) : Prop := Wk prog cx (qcT prog 158 [[1], [1], [1], [0]] (TV.tup [(false, [(T.sl 1 (r.1.map qaC))]), (false, [(T.sl 1 (r.2.1.map qaC))]), (false, [(T.sl 1 (r.2.2.1.map qaC))]), (false, [(T.int .i64 r.2.2.2)])])) (modpoly_Xgcd_pos c) .normal (modpoly_Xgcd_st c)
abbrev modpoly_Xgcd_H (K : Nat) : Prop := ∀ c r, ql4 K c = some r → ∀ cx : Cx, cx.n = 106 → modpoly_Xgcd_S cx c r
theorem modpoly_Xgcd_c0 {K} (_ : modpoly_Xgcd_H K) {cx} (hn : cx.n = 106) {f g p} {r} (h : ql4 (K + 1) (.c0 f g p) = some r) : modpoly_Xgcd_S cx (.c0 f g p) r := by
  rw [ql4] at h
  obtain ⟨x1, h2, h⟩ := qaH h
  rcases qaK h with ⟨h3, h⟩ | ⟨h3, h⟩
  · skip
    have h := Option.some.inj h; subst h
    exact qaN (fuel := 72) [rgG [oo, oo, oo, oo], rgG [oo, opI (.call [[0]] [(ti .u32 p)] (TV.c (T.bool x1))), oo], .br true, rgG [oo, oo, oo, oo]] _ hn (by kernel_rfl) (aC (qbJ h2) <| aC h3 <| aN)
  · skip
    obtain ⟨x4, h5, h⟩ := qaH h
    obtain ⟨x6, h7, h⟩ := qaH h
    obtain ⟨x8, h9, h⟩ := qaH h
    rcases qaK h with ⟨h10, h⟩ | ⟨h10, h⟩
    · skip
      rcases qaK h with ⟨h11, h⟩ | ⟨h11, h⟩
      · skip
        have h := Option.some.inj h; subst h
        exact qaN (fuel := 124) [rgG [oo, oo, oo, oo], rgG [oo, opI (.call [[0]] [(ti .u32 p)] (TV.c (T.bool x1))), oo], .br false, rgG [oo, oo, opI (.call [[1], [0]] [(tl 1 f qaC), (ti .u32 p)] (tl 1 x4 qaC)), oo, oo, opI (.call [[1], [0]] [(tl 1 g qaC), (ti .u32 p)] (tl 1 x6 qaC)), oo, oo], rgG [oo, oo, oo, opI (.call [[1], [1], [0]] [(tl 1 x4 qaC), (tl 1 x6 qaC), (ti .u32 p)] (tl 1 x8 qaC)), oo], rgG [oo, opI (.ln (x6.length : Int)), oo], .br true, rgG [oo, opI (.ln (x4.length : Int)), oo], .br true, rgG [oo, oo, oo, oo]] _ hn (by kernel_rfl) (aC (qbJ h2) <| aC h3 <| aC (qbK h5) <| aC (qbK h7) <| aC (qjE h9) <| aC (qaT x6 qaC) <| aC h10 <| aC (qaT x4 qaC) <| aC h11 <| aN)
      · skip
        obtain ⟨x12, h13, h⟩ := qaH h
        obtain ⟨x14, h15, h⟩ := qaH h
        have h := Option.some.inj h; subst h
        exact qaN (fuel := 132) [rgG [oo, oo, oo, oo], rgG [oo, opI (.call [[0]] [(ti .u32 p)] (TV.c (T.bool x1))), oo], .br false, rgG [oo, oo, opI (.call [[1], [0]] [(tl 1 f qaC), (ti .u32 p)] (tl 1 x4 qaC)), oo, oo, opI (.call [[1], [0]] [(tl 1 g qaC), (ti .u32 p)] (tl 1 x6 qaC)), oo, oo], rgG [oo, oo, oo, opI (.call [[1], [1], [0]] [(tl 1 x4 qaC), (tl 1 x6 qaC), (ti .u32 p)] (tl 1 x8 qaC)), oo], rgG [oo, opI (.ln (x6.length : Int)), oo], .br true, rgG [oo, opI (.ln (x4.length : Int)), oo], .br false, rgG [oo, oo, opI (.ln (x4.length : Int)), oo, opI (.ix (qaC x12)), oo, oo, opI (.call [[0], [0]] [(ti .u32 x12), (ti .u32 p)] (TV.tup [(false, [(T.int .u32 x14.1)]), (false, [(T.int .i64 x14.2)])])), oo, oo, oo, oo, oo], rgG [oo, oo, opI (.lit (([x14.1] : List Int).map qaC)), oo, oo, oo, oo, .snap 7 (max 0 (0 + 1)) (([x14.1] : List Int).map qaC)]] _ hn (by kernel_rfl) (aC (qbJ h2) <| aC h3 <| aC (qbK h5) <| aC (qbK h7) <| aC (qjE h9) <| aC (qaT x6 qaC) <| aC h10 <| aC (qaT x4 qaC) <| aC h11 <| aC (qaT x4 qaC) <| aC (qa0 h13) <| aC (qbH qaC h13) <| aC (qcY h15) <| aC (by kernel_rfl : [(T.int .u32 x14.1)] = (([x14.1] : List Int).map qaC).flatten) <| aC (qbI _ _ _ (by simp) : ((([x14.1] : List Int).map qaC).drop 0).take 1 = ([x14.1] : List Int).map qaC) <| aC (rfl : (max 0 (0 + 1)) = (max 0 (0 + 1))) <| aN)
    · skip
      obtain ⟨x11, h12, h⟩ := qaH h
      rcases qaK h with ⟨h13, h⟩ | ⟨h13, h⟩
      · skip
        obtain ⟨x14, h15, h⟩ := qaH h
        obtain ⟨x16, h17, h⟩ := qaH h
        have h := Option.some.inj h; subst h
        exact qaN (fuel := 140) [rgG [oo, oo, oo, oo], rgG [oo, opI (.call [[0]] [(ti .u32 p)] (TV.c (T.bool x1))), oo], .br false, rgG [oo, oo, opI (.call [[1], [0]] [(tl 1 f qaC), (ti .u32 p)] (tl 1 x4 qaC)), oo, oo, opI (.call [[1], [0]] [(tl 1 g qaC), (ti .u32 p)] (tl 1 x6 qaC)), oo, oo], rgG [oo, oo, oo, opI (.call [[1], [1], [0]] [(tl 1 x4 qaC), (tl 1 x6 qaC), (ti .u32 p)] (tl 1 x8 qaC)), oo], rgG [oo, opI (.ln (x6.length : Int)), oo], .br false, rgG [oo, oo, oo, opI (.call [[1], [1], [0]] [(tl 1 x6 qaC), (tl 1 x8 qaC), (ti .u32 p)] (TV.tup [(false, [(T.sl 1 (x11.1.map qaC))]), (false, [(T.sl 1 (x11.2.map qaC))])])), oo, oo, oo, oo, oo], rgG [oo, opI (.ln (x11.1.length : Int)), oo], .br true, rgG [oo, oo, opI (.ln (x6.length : Int)), oo, opI (.ix (qaC x14)), oo, oo, opI (.call [[0], [0]] [(ti .u32 x14), (ti .u32 p)] (TV.tup [(false, [(T.int .u32 x16.1)]), (false, [(T.int .i64 x16.2)])])), oo, oo, oo, oo, oo], rgG [oo, oo, opI (.lit (([x16.1] : List Int).map qaC)), oo, oo, oo, oo, .snap 8 (max 0 (0 + 1)) (([x16.1] : List Int).map qaC)]] _ hn (by kernel_rfl) (aC (qbJ h2) <| aC h3 <| aC (qbK h5) <| aC (qbK h7) <| aC (qjE h9) <| aC (qaT x6 qaC) <| aC h10 <| aC (qcN h12) <| aC (qaT x11.1 qaC) <| aC h13 <| aC (qaT x6 qaC) <| aC (qa0 h15) <| aC (qbH qaC h15) <| aC (qcY h17) <| aC (by kernel_rfl : [(T.int .u32 x16.1)] = (([x16.1] : List Int).map qaC).flatten) <| aC (qbI _ _ _ (by simp) : ((([x16.1] : List Int).map qaC).drop 0).take 1 = ([x16.1] : List Int).map qaC) <| aC (rfl : (max 0 (0 + 1)) = (max 0 (0 + 1))) <| aN)
      · skip
        obtain ⟨x14, h15, h⟩ := qaH h
        obtain ⟨x16, h17, h⟩ := qaH h
        obtain ⟨x18, h19, h⟩ := qaH h
        obtain ⟨x20, h21, h⟩ := qaH h
        obtain ⟨x22, h23, h⟩ := qaH h
        have h := Option.some.inj h; subst h
        exact qaN (fuel := 164) [rgG [oo, oo, oo, oo], rgG [oo, opI (.call [[0]] [(ti .u32 p)] (TV.c (T.bool x1))), oo], .br false, rgG [oo, oo, opI (.call [[1], [0]] [(tl 1 f qaC), (ti .u32 p)] (tl 1 x4 qaC)), oo, oo, opI (.call [[1], [0]] [(tl 1 g qaC), (ti .u32 p)] (tl 1 x6 qaC)), oo, oo], rgG [oo, oo, oo, opI (.call [[1], [1], [0]] [(tl 1 x4 qaC), (tl 1 x6 qaC), (ti .u32 p)] (tl 1 x8 qaC)), oo], rgG [oo, opI (.ln (x6.length : Int)), oo], .br false, rgG [oo, oo, oo, opI (.call [[1], [1], [0]] [(tl 1 x6 qaC), (tl 1 x8 qaC), (ti .u32 p)] (TV.tup [(false, [(T.sl 1 (x11.1.map qaC))]), (false, [(T.sl 1 (x11.2.map qaC))])])), oo, oo, oo, oo, oo], rgG [oo, opI (.ln (x11.1.length : Int)), oo], .br false, rgG [oo, oo, oo, opI (.call [[1], [1], [0]] [(tl 1 x4 qaC), (tl 1 x8 qaC), (ti .u32 p)] (TV.tup [(false, [(T.sl 1 (x14.1.map qaC))]), (false, [(T.sl 1 (x14.2.map qaC))])])), oo, oo, oo, oo, oo], rgG [oo, oo, oo, opI (.call [[1], [1], [0]] [(tl 1 x14.1 qaC), (tl 1 x11.1 qaC), (ti .u32 p)] (tl 1 x16 qaC)), oo], rgG [oo, oo, oo, oo, opI (.call [[1], [1], [0]] [(tl 1 x16 qaC), (tl 1 x4 qaC), (ti .u32 p)] (tl 1 x18 qaC)), oo, opI (.call [[1], [1], [0]] [(tl 1 x8 qaC), (tl 1 x18 qaC), (ti .u32 p)] (tl 1 x20 qaC)), oo], rgG [oo, oo, oo, opI (.call [[1], [1], [0]] [(tl 1 x20 qaC), (tl 1 x6 qaC), (ti .u32 p)] (TV.tup [(false, [(T.sl 1 (x22.1.map qaC))]), (false, [(T.sl 1 (x22.2.map qaC))])])), oo, oo, oo, oo], rgG [oo, oo, oo, oo, oo, oo, oo]] _ hn (by kernel_rfl) (aC (qbJ h2) <| aC h3 <| aC (qbK h5) <| aC (qbK h7) <| aC (qjE h9) <| aC (qaT x6 qaC) <| aC h10 <| aC (qcN h12) <| aC (qaT x11.1 qaC) <| aC h13 <| aC (qcN h15) <| aC (modpoly_inverse_holds h17) <| aC (qbL h19) <| aC (qmQ h21) <| aC (qcN h23) <| aN)
theorem modpoly_Xgcd_all : ∀ K : Nat, modpoly_Xgcd_H K
  | 0, c, r, h => by rw [ql4] at h; cases h
  | K + 1, .c0 .., r, h => fun cx hn => modpoly_Xgcd_c0 (modpoly_Xgcd_all K) hn h
theorem qlI {K : Nat} {f : (List Int)} {g : (List Int)} {p : Int} {r : ((List Int) × (List Int) × (List Int) × Int)} (h : qsI K f g p = some r) : qcX prog 158 [(tl 1 f qaC), (tl 1 g qaC), (ti .u32 p)] (TV.tup [(false, [(T.sl 1 (r.1.map qaC))]), (false, [(T.sl 1 (r.2.1.map qaC))]), (false, [(T.sl 1 (r.2.2.1.map qaC))]), (false, [(T.int .i64 r.2.2.2)])]) :=
  qa2 [[1], [1], [1], [0]] (by kernel_rfl) (by simp) fun cx hn => modpoly_Xgcd_all K (.c0 f g p) r h cx hn
end Go.Am.X
namespace Go.Am.X
open Go.Proofs.Try (prog)
inductive qiZ where
  | c0 (list : (List (List Int))) (p : Int)
  | c1 (list : (List (List Int))) (p : Int) (t20 : (List (List Int))) (t21 : Int) (t22 : Int)
  | c2 (r27 : (List Int)) (list : (List (List Int))) (p : Int) (i : Int) (g : (List Int)) (t20 : (List (List Int))) (t21 : Int) (t22 : Int) (t28 : (List (List Int))) (t29 : Int) (t30 : Int)
  | c3 (list : (List (List Int))) (p : Int) (i : Int) (g : (List Int)) (others : (List Int)) (t20 : (List (List Int))) (t21 : Int) (t22 : Int) (t28 : (List (List Int))) (t29 : Int) (t30 : Int)
  | c4 (r27 : (List Int)) (list : (List (List Int))) (p : Int) (i : Int) (g : (List Int)) (t20 : (List (List Int))) (t21 : Int) (t22 : Int) (t28 : (List (List Int))) (t29 : Int) (t30 : Int)
  | c5 (r74 : (List (List Int))) (list : (List (List Int))) (p : Int) (t20 : (List (List Int))) (t21 : Int) (t22 : Int)
  | c6 (list : (List (List Int))) (p : Int) (i : Int) (g : (List Int)) (others : (List Int)) (t20 : (List (List Int))) (t21 : Int) (t22 : Int) (t28 : (List (List Int))) (t29 : Int) (t30 : Int)
  | c7 (r27 : (List Int)) (r74 : (List (List Int))) (list : (List (List Int))) (p : Int) (i : Int) (g : (List Int)) (t20 : (List (List Int))) (t21 : Int) (t22 : Int) (t28 : (List (List Int))) (t29 : Int) (t30 : Int)
  | c8 (r74 : (List (List Int))) (list : (List (List Int))) (p : Int) (i : Int) (g : (List Int)) (others : (List Int)) (t20 : (List (List Int))) (t21 : Int) (t22 : Int) (t28 : (List (List Int))) (t29 : Int) (t30 : Int)
  | c9 (r27 : (List Int)) (r74 : (List (List Int))) (list : (List (List Int))) (p : Int) (i : Int) (g : (List Int)) (t20 : (List (List Int))) (t21 : Int) (t22 : Int) (t28 : (List (List Int))) (t29 : Int) (t30 : Int)
  | c10 (r74 : (List (List Int))) (list : (List (List Int))) (p : Int) (i : Int) (g : (List Int)) (others : (List Int)) (t20 : (List (List Int))) (t21 : Int) (t22 : Int) (t28 : (List (List Int))) (t29 : Int) (t30 : Int)
def qaQ : Nat → qiZ → Option (List (List Int))
  | 0, _ => none
  | K + 1, .c0 list p =>
    qaQ K (.c1 list p list (list.length : Int) (0 : Int))
  | K + 1, .c1 list p t20 t21 t22 =>
    bif (decide (t22 < t21)) then
      (gi t20 t22).bind fun x2 =>
      qaQ K (.c2 ([(1 : Int)] : List Int) list p t22 x2 t20 t21 t22 list (list.length : Int) (0 : Int))
    else
      some []
  | K + 1, .c2 r27 list p i g t20 t21 t22 t28 t29 t30 =>
    bif (decide (t30 < t29)) then
      (gi t28 t30).bind fun x2 =>
      bif (!decide (i = t30)) then
        (qdH K r27 x2 p).bind fun x5 =>
        qaQ K (.c3 list p i g x5 t20 t21 t22 t28 t29 t30)
      else
        qaQ K (.c4 r27 list p i g t20 t21 t22 t28 t29 t30)
    else
      (qsI K r27 g p).bind fun x2 =>
      (gi x2.1 (0 : Int)).bind fun x4 =>
      (qd8 K x4 p).bind fun x6 =>
      (qfS K x2.2.1 x6.1 p).bind fun x8 =>
      (qc5 K x8 g p).bind fun x10 =>
      qaQ K (.c5 ([x10.2.1] : List (List Int)) list p t20 t21 (wI6 (t22 + (1 : Int))))
  | K + 1, .c3 list p i g others t20 t21 t22 t28 t29 t30 =>
    qaQ K (.c6 list p i g others t20 t21 t22 t28 t29 (wI6 (t30 + (1 : Int))))
  | K + 1, .c4 r27 list p i g t20 t21 t22 t28 t29 t30 =>
    qaQ K (.c2 r27 list p i g t20 t21 t22 t28 t29 (wI6 (t30 + (1 : Int))))
  | K + 1, .c5 r74 list p t20 t21 t22 =>
    bif (decide (t22 < t21)) then
      (gi t20 t22).bind fun x2 =>
      qaQ K (.c7 ([(1 : Int)] : List Int) r74 list p t22 x2 t20 t21 t22 list (list.length : Int) (0 : Int))
    else
      some r74
  | K + 1, .c6 list p i g others t20 t21 t22 t28 t29 t30 =>
    bif (decide (t30 < t29)) then
      (gi t28 t30).bind fun x2 =>
      bif (!decide (i = t30)) then
        (qdH K others x2 p).bind fun x5 =>
        qaQ K (.c3 list p i g x5 t20 t21 t22 t28 t29 t30)
      else
        qaQ K (.c3 list p i g others t20 t21 t22 t28 t29 t30)
    else
      (qsI K others g p).bind fun x2 =>
      (gi x2.1 (0 : Int)).bind fun x4 =>
      (qd8 K x4 p).bind fun x6 =>
      (qfS K x2.2.1 x6.1 p).bind fun x8 =>
      (qc5 K x8 g p).bind fun x10 =>
      qaQ K (.c5 ([x10.2.1] : List (List Int)) list p t20 t21 (wI6 (t22 + (1 : Int))))
  | K + 1, .c7 r27 r74 list p i g t20 t21 t22 t28 t29 t30 =>
    bif (decide (t30 < t29)) then
      (gi t28 t30).bind fun x2 =>
      bif (!decide (i = t30)) then
        (qdH K r27 x2 p).bind fun x5 =>
        qaQ K (.c8 r74 list p i g x5 t20 t21 t22 t28 t29 t30)
      else
        qaQ K (.c9 r27 r74 list p i g t20 t21 t22 t28 t29 t30)
    else
      (qsI K r27 g p).bind fun x2 =>
      (gi x2.1 (0 : Int)).bind fun x4 =>
      (qd8 K x4 p).bind fun x6 =>
      (qfS K x2.2.1 x6.1 p).bind fun x8 =>
      (qc5 K x8 g p).bind fun x10 =>
      gd ((r74 ++ ([x10.2.1] : List (List Int))).length * 24 ≤ 140737488355328) <|
      qaQ K (.c5 (r74 ++ ([x10.2.1] : List (List Int))) list p t20 t21 (wI6 (t22 + (1 : Int))))
  | K + 1, .c8 r74 list p i g others t20 t21 t22 t28 t29 t30 =>
    qaQ K (.c10 r74 list p i g others t20 t21 t22 t28 t29 (wI6 (t30 + (1 : Int))))
  | K + 1, .c9 r27 r74 list p i g t20 t21 t22 t28 t29 t30 =>
    qaQ K (.c7 r27 r74 list p i g t20 t21 t22 t28 t29 (wI6 (t30 + (1 : Int))))
  | K + 1, .c10 r74 list p i g others t20 t21 t22 t28 t29 t30 =>
    bif (decide (t30 < t29)) then
      (gi t28 t30).bind fun x2 =>
      bif (!decide (i = t30)) then
        (qdH K others x2 p).bind fun x5 =>
        qaQ K (.c8 r74 list p i g x5 t20 t21 t22 t28 t29 t30)
      else
        qaQ K (.c8 r74 list p i g others t20 t21 t22 t28 t29 t30)
    else
      (qsI K others g p).bind fun x2 =>
      (gi x2.1 (0 : Int)).bind fun x4 =>
      (qd8 K x4 p).bind fun x6 =>
      (qfS K x2.2.1 x6.1 p).bind fun x8 =>
      (qc5 K x8 g p).bind fun x10 =>
      gd ((r74 ++ ([x10.2.1] : List (List Int))).length * 24 ≤ 140737488355328) <|
      qaQ K (.c5 (r74 ++ ([x10.2.1] : List (List Int))) list p t20 t21 (wI6 (t22 + (1 : Int))))
def hensel_cofactors (K : Nat) (list : (List (List Int))) (p : Int) : Option (List (List Int)) := qaQ K (.c0 list p)
noncomputable def qaM : Code := qbN prog 115
noncomputable def hensel_cofactors_pos : qiZ → List Fr
  | .c0 .. => [.code qaM]
  | .c1 .. => [.code (.loop (atC qaM [1,1,0,1,0,0])), .blk 0, .code (atC qaM [1,1,1])]
  | .c2 .. => [.code (.loop (atC qaM [1,1,0,1,0,0,1,1,0,0,1,1,0,1,0,0])), .blk 2, .code (atC qaM [1,1,0,1,0,0,1,1,0,0,1,1,1]), .blk 1, .code (atC qaM [1,1,0,1,0,0,1,1,1]), .lp (atC qaM [1,1,0,1,0,0]), .blk 0, .code (atC qaM [1,1,1])]
  | .c3 .. => [.code (atC qaM [1,1,0,1,0,0,1,1,0,0,1,1,0,1,0,0,1,1,1]), .lp (atC qaM [1,1,0,1,0,0,1,1,0,0,1,1,0,1,0,0]), .blk 2, .code (atC qaM [1,1,0,1,0,0,1,1,0,0,1,1,1]), .blk 1, .code (atC qaM [1,1,0,1,0,0,1,1,1]), .lp (atC qaM [1,1,0,1,0,0]), .blk 0, .code (atC qaM [1,1,1])]
  | .c4 .. => [.code (atC qaM [1,1,0,1,0,0,1,1,0,0,1,1,0,1,0,0,1,1,1]), .lp (atC qaM [1,1,0,1,0,0,1,1,0,0,1,1,0,1,0,0]), .blk 2, .code (atC qaM [1,1,0,1,0,0,1,1,0,0,1,1,1]), .blk 1, .code (atC qaM [1,1,0,1,0,0,1,1,1]), .lp (atC qaM [1,1,0,1,0,0]), .blk 0, .code (atC qaM [1,1,1])]
  | .c5 .. => [.code (.loop (atC qaM [1,1,0,1,0,0])), .blk 0, .code (atC qaM [1,1,1])]
  | .c6 .. => [.code (.loop (atC qaM [1,1,0,1,0,0,1,1,0,0,1,1,0,1,0,0])), .blk 2, .code (atC qaM [1,1,0,1,0,0,1,1,0,0,1,1,1]), .blk 1, .code (atC qaM [1,1,0,1,0,0,1,1,1]), .lp (atC qaM [1,1,0,1,0,0]), .blk 0, .code (atC qaM [1,1,1])]
  | .c7 .. => [.code (.loop (atC qaM [1,1,0,1,0,0,1,1,0,0,1,1,0,1,0,0])), .blk 2, .code (atC qaM [1,1,0,1,0,0,1,1,0,0,1,1,1]), .blk 1, .code (atC qaM [1,1,0,1,0,0,1,1,1]), .lp (atC qaM [1,1,0,1,0,0]), .blk 0, .code (atC qaM [1,1,1])]
  | .c8 .. => [.code (atC qaM [1,1,0,1,0,0,1,1,0,0,1,1,0,1,0,0,1,1,1]), .lp (atC qaM [1,1,0,1,0,0,1,1,0,0,1,1,0,1,0,0]), .blk 2, .code (atC qaM [1,1,0,1,0,0,1,1,0,0,1,1,1]), .blk 1, .code (atC qaM [1,1,0,1,0,0,1,1,1]), .lp (atC qaM [1,1,0,1,0,0]), .blk 0, .code (atC qaM [1,1,1])]
  | .c9 .. => [.code (atC qaM [1,1,0,1,0,0,1,1,0,0,1,1,0,1,0,0,1,1,1]), .lp (atC qaM [1,1,0,1,0,0,1,1,0,0,1,1,0,1,0,0]), .blk 2, .code (atC qaM [1,1,0,1,0,0,1,1,0,0,1,1,1]), .blk 1, .code (atC qaM [1,1,0,1,0,0,1,1,1]), .lp (atC qaM [1,1,0,1,0,0]), .blk 0, .code (atC qaM [1,1,1])]
  | .c10 .. => [.code (.loop (atC qaM [1,1,0,1,0,0,1,1,0,0,1,1,0,1,0,0])), .blk 2, .code (atC qaM [1,1,0,1,0,0,1,1,0,0,1,1,1]), .blk 1, .code (atC qaM [1,1,0,1,0,0,1,1,1]), .lp (atC qaM [1,1,0,1,0,0]), .blk 0, .code (atC qaM [1,1,1])]
def hensel_cofactors_st : qiZ → St
  | .c0 list p => St.init [(tl 1 list qaG), (ti .u32 p)]
  | .c1 list p t20 t21 t22 => ⟨[(0, vl 1 list qaG), (1, vi .u32 p), (5, .c (C.nil)), (20, vl 1 t20 qaG), (21, vi .i64 t21), (22, vi .i64 t22)], [], []⟩
  | .c2 r27 list p i g t20 t21 t22 t28 t29 t30 => ⟨[(0, vl 1 list qaG), (1, vi .u32 p), (5, .c (C.nil)), (6, vi .i64 i), (7, vl 1 g qaC), (8, .c (C.row 27 0 r27.length)), (20, vl 1 t20 qaG), (21, vi .i64 t21), (22, vi .i64 t22), (28, vl 1 t28 qaG), (29, vi .i64 t29), (30, vi .i64 t30)], [(27, .row 101 1 (r27.map qaC) 0)], []⟩
  | .c3 list p i g others t20 t21 t22 t28 t29 t30 => ⟨[(0, vl 1 list qaG), (1, vi .u32 p), (5, .c (C.nil)), (6, vi .i64 i), (7, vl 1 g qaC), (8, vl 1 others qaC), (20, vl 1 t20 qaG), (21, vi .i64 t21), (22, vi .i64 t22), (28, vl 1 t28 qaG), (29, vi .i64 t29), (30, vi .i64 t30)], [], []⟩
  | .c4 r27 list p i g t20 t21 t22 t28 t29 t30 => ⟨[(0, vl 1 list qaG), (1, vi .u32 p), (5, .c (C.nil)), (6, vi .i64 i), (7, vl 1 g qaC), (8, .c (C.row 27 0 r27.length)), (20, vl 1 t20 qaG), (21, vi .i64 t21), (22, vi .i64 t22), (28, vl 1 t28 qaG), (29, vi .i64 t29), (30, vi .i64 t30)], [(27, .row 101 1 (r27.map qaC) 0)], []⟩
  | .c5 r74 list p t20 t21 t22 => ⟨[(0, vl 1 list qaG), (1, vi .u32 p), (5, .c (C.row 74 0 r74.length)), (20, vl 1 t20 qaG), (21, vi .i64 t21), (22, vi .i64 t22)], [(74, .row 114 1 (r74.map qaG) 0)], []⟩
  | .c6 list p i g others t20 t21 t22 t28 t29 t30 => ⟨[(0, vl 1 list qaG), (1, vi .u32 p), (5, .c (C.nil)), (6, vi .i64 i), (7, vl 1 g qaC), (8, vl 1 others qaC), (20, vl 1 t20 qaG), (21, vi .i64 t21), (22, vi .i64 t22), (28, vl 1 t28 qaG), (29, vi .i64 t29), (30, vi .i64 t30)], [], []⟩
  | .c7 r27 r74 list p i g t20 t21 t22 t28 t29 t30 => ⟨[(0, vl 1 list qaG), (1, vi .u32 p), (5, .c (C.row 74 0 r74.length)), (6, vi .i64 i), (7, vl 1 g qaC), (8, .c (C.row 27 0 r27.length)), (20, vl 1 t20 qaG), (21, vi .i64 t21), (22, vi .i64 t22), (28, vl 1 t28 qaG), (29, vi .i64 t29), (30, vi .i64 t30)], [(27, .row 101 1 (r27.map qaC) 0), (74, .row 114 1 (r74.map qaG) 0)], []⟩
  | .c8 r74 list p i g others t20 t21 t22 t28 t29 t30 => ⟨[(0, vl 1 list qaG), (1, vi .u32 p), (5, .c (C.row 74 0 r74.length)), (6, vi .i64 i), (7, vl 1 g qaC), (8, vl 1 others qaC), (20, vl 1 t20 qaG), (21, vi .i64 t21), (22, vi .i64 t22), (28, vl 1 t28 qaG), (29, vi .i64 t29), (30, vi .i64 t30)], [(74, .row 114 1 (r74.map qaG) 0)], []⟩
  | .c9 r27 r74 list p i g t20 t21 t22 t28 t29 t30 => ⟨[(0, vl 1 list qaG), (1, vi .u32 p), (5, .c (C.row 74 0 r74.length)), (6, vi .i64 i), (7, vl 1 g qaC), (8, .c (C.row 27 0 r27.length)), (20, vl 1 t20 qaG), (21, vi .i64 t21), (22, vi .i64 t22), (28, vl 1 t28 qaG), (29, vi .i64 t29), (30, vi .i64 t30)], [(27, .row 101 1 (r27.map qaC) 0), (74, .row 114 1 (r74.map qaG) 0)], []⟩
  | .c10 r74 list p i g others t20 t21 t22 t28 t29 t30 => ⟨[(0, vl 1 list qaG), (1, vi .u32 p), (5, .c (C.row 74 0 r74.length)), (6, vi .i64 i), (7, vl 1 g qaC), (8, vl 1 others qaC), (20, vl 1 t20 qaG), (21, vi .i64 t21), (22, vi .i64 t22), (28, vl 1 t28 qaG), (29, vi .i64 t29), (30, vi .i64 t30)], [(74, .row 114 1 (r74.map qaG) 0)], []⟩
def qdC (cx : Cx) (c : qiZ) (r : (List (List Int))) : Prop := Wk prog cx (qcT prog 115 [[1]] (tl 1 r qaG)) (hensel_cofactors_pos c) .normal (hensel_cofactors_st c)
abbrev qdD (K : Nat) : Prop := ∀ c r, qaQ K c = some r → ∀ cx : Cx, cx.n = 77 → qdC cx c r
theorem hensel_cofactors_c0 {K} (ih : qdD K) {cx} (hn : cx.n = 77) {list p} {r} (h : qaQ (K + 1) (.c0 list p) = some r) : qdC cx (.c0 list p) r := by
  rw [qaQ] at h
  exact qaU (fuel := 64) [rgG [oo], rgG [oo], rgG [oo, opI (.ln (list.length : Int)), oo], .pre [.keep [0,1,5,20,21,22] []]] _ hn (by kernel_rfl) (aC (qaT list qaG) <| aN) (ih _ _ h cx hn)
theorem hensel_cofactors_c1 {K} (ih : qdD K) {cx} (hn : cx.n = 77) {list p t20 t21 t22} {r} (h : qaQ (K + 1) (.c1 list p t20 t21 t22) = some r) : qdC cx (.c1 list p t20 t21 t22) r := by
  rw [qaQ] at h
  rcases qaK h with ⟨h1, h⟩ | ⟨h1, h⟩
  · skip
    obtain ⟨x2, h3, h⟩ := qaH h
    exact qaU (fuel := 94) [.go, rgG [oo], .br true, rgG [oo, opI (.ix (qaG x2)), oo, oo, oo], rgG [opI (.lit (([(1 : Int)] : List Int).map qaC)), oo], rgG [oo, opI (.ln (list.length : Int)), oo], .pre [.rl 8 0 ([(1 : Int)] : List Int).length, .keep [0,1,5,6,7,8,20,21,22,28,29,30] [27]]] _ hn (by kernel_rfl) (aC h1 <| aC (qa0 h3) <| aC (qbH qaG h3) <| aC (by kernel_rfl : [(T.int .u32 (1 : Int))] = (([(1 : Int)] : List Int).map qaC).flatten) <| aC (qaT list qaG) <| aC r0 <| aC (by simp : 1 = ([(1 : Int)] : List Int).length) <| aN) (ih _ _ h cx hn)
  · skip
    have h := Option.some.inj h; subst h
    exact qaN (fuel := 78) [.go, rgG [oo], .br false, rgG [oo, oo]] _ hn (by kernel_rfl) (aC h1 <| aN)
theorem hensel_cofactors_c2 {K} (ih : qdD K) {cx} (hn : cx.n = 77) {r27 list p i g t20 t21 t22 t28 t29 t30} {r} (h : qaQ (K + 1) (.c2 r27 list p i g t20 t21 t22 t28 t29 t30) = some r) : qdC cx (.c2 r27 list p i g t20 t21 t22 t28 t29 t30) r := by
  rw [qaQ] at h
  rcases qaK h with ⟨h1, h⟩ | ⟨h1, h⟩
  · skip
    obtain ⟨x2, h3, h⟩ := qaH h
    rcases qaK h with ⟨h4, h⟩ | ⟨h4, h⟩
    · skip
      obtain ⟨x5, h6, h⟩ := qaH h
      exact qaU (fuel := 96) [.go, rgG [oo], .br true, rgG [oo, opI (.ix (qaG x2)), oo, oo, oo], rgG [oo, oo, oo], .br true, rgG [oo, oo, oo, .snap 38 (max 0 (0 + r27.length)) (r27.map qaC), opI (.call [[1], [1], [0]] [(tl 1 r27 qaC), (tl 1 x2 qaC), (ti .u32 p)] (tl 1 x5 qaC)), oo], .pre [.keep [0,1,5,6,7,8,20,21,22,28,29,30] []]] _ hn (by kernel_rfl) (aC h1 <| aC (qa0 h3) <| aC (qbH qaG h3) <| aC h4 <| aC (qbI _ _ _ (by simp) : ((r27.map qaC).drop 0).take r27.length = r27.map qaC) <| aC (rfl : (max 0 (0 + r27.length)) = (max 0 (0 + r27.length))) <| aC (qbL h6) <| aN) (ih _ _ h cx hn)
    · skip
      exact qaU (fuel := 92) [.go, rgG [oo], .br true, rgG [oo, opI (.ix (qaG x2)), oo, oo, oo], rgG [oo, oo, oo], .br false, .pre [.rl 8 0 r27.length, .keep [0,1,5,6,7,8,20,21,22,28,29,30] [27]]] _ hn (by kernel_rfl) (aC h1 <| aC (qa0 h3) <| aC (qbH qaG h3) <| aC h4 <| aC r0 <| aC (lq r27) <| aN) (ih _ _ h cx hn)
  · skip
    obtain ⟨x2, h3, h⟩ := qaH h
    obtain ⟨x4, h5, h⟩ := qaH h
    obtain ⟨x6, h7, h⟩ := qaH h
    obtain ⟨x8, h9, h⟩ := qaH h
    obtain ⟨x10, h11, h⟩ := qaH h
    exact qaU (fuel := 108) [.go, rgG [oo], .br false, rgG [oo, oo, oo, .snap 44 (max 0 (0 + r27.length)) (r27.map qaC), opI (.call [[1], [1], [0]] [(tl 1 r27 qaC), (tl 1 g qaC), (ti .u32 p)] (TV.tup [(false, [(T.sl 1 (x2.1.map qaC))]), (false, [(T.sl 1 (x2.2.1.map qaC))]), (false, [(T.sl 1 (x2.2.2.1.map qaC))]), (false, [(T.int .i64 x2.2.2.2)])])), oo, oo, oo, oo, oo, oo, oo, oo, oo], rgG [oo, opI (.ix (qaC x4)), oo, oo, opI (.call [[0], [0]] [(ti .u32 x4), (ti .u32 p)] (TV.tup [(false, [(T.int .u32 x6.1)]), (false, [(T.int .i64 x6.2)])])), oo, oo, oo, oo, oo], rgG [oo, oo, oo, opI (.call [[1], [0], [0]] [(TV.c (T.sl 1 (x2.2.1.map qaC))), (ti .u32 x6.1), (ti .u32 p)] (tl 1 x8 qaC)), oo, oo, opI (.call [[1], [1], [0]] [(tl 1 x8 qaC), (tl 1 g qaC), (ti .u32 p)] (TV.tup [(false, [(T.sl 1 (x10.1.map qaC))]), (false, [(T.sl 1 (x10.2.1.map qaC))]), (false, [(T.int .i64 x10.2.2)])])), oo, oo, oo, oo, oo, oo, oo], rgG [oo, oo, opI (.lit (([x10.2.1] : List (List Int)).map qaG)), opI (.appN (([x10.2.1] : List (List Int)).map qaG)), oo], rgG [oo, oo], .pre [.rl 5 0 ([x10.2.1] : List (List Int)).length, .keep [0,1,5,20,21,22] [74]]] _ hn (by kernel_rfl) (aC h1 <| aC (qbI _ _ _ (by simp) : ((r27.map qaC).drop 0).take r27.length = r27.map qaC) <| aC (rfl : (max 0 (0 + r27.length)) = (max 0 (0 + r27.length))) <| aC (qlI h3) <| aC (qa0 h5) <| aC (qbH qaC h5) <| aC (qcY h7) <| aC (qc3 h9) <| aC (qbV h11) <| aC (by kernel_rfl : [(T.sl 1 (x10.2.1.map qaC))] = (([x10.2.1] : List (List Int)).map qaG).flatten) <| aC (qbI _ _ _ (by simp) : ((([x10.2.1] : List (List Int)).map qaG).drop 0).take 1 = ([x10.2.1] : List (List Int)).map qaG) <| aC (by simp : 0 < (([x10.2.1] : List (List Int)).map qaG).length) <| aC (by simp : (([x10.2.1] : List (List Int)).map qaG).length * 24 ≤ 140737488355328) <| aC (by simp [maxLen] : (([x10.2.1] : List (List Int)).map qaG).length ≤ maxLen) <| aC r0 <| aC (by simp : (([x10.2.1] : List (List Int)).map qaG).length = ([x10.2.1] : List (List Int)).length) <| aN) (ih _ _ h cx hn)
theorem hensel_cofactors_c3 {K} (ih : qdD K) {cx} (hn : cx.n = 77) {list p i g others t20 t21 t22 t28 t29 t30} {r} (h : qaQ (K + 1) (.c3 list p i g others t20 t21 t22 t28 t29 t30) = some r) : qdC cx (.c3 list p i g others t20 t21 t22 t28 t29 t30) r := by
  rw [qaQ] at h
  exact qaU (fuel := 44) [rgG [oo, oo], .pre [.keep [0,1,5,6,7,8,20,21,22,28,29,30] []]] _ hn (by kernel_rfl) aN (ih _ _ h cx hn)
theorem hensel_cofactors_c4 {K} (ih : qdD K) {cx} (hn : cx.n = 77) {r27 list p i g t20 t21 t22 t28 t29 t30} {r} (h : qaQ (K + 1) (.c4 r27 list p i g t20 t21 t22 t28 t29 t30) = some r) : qdC cx (.c4 r27 list p i g t20 t21 t22 t28 t29 t30) r := by
  rw [qaQ] at h
  exact qaU (fuel := 44) [rgG [oo, oo], .pre [.rl 8 0 r27.length, .keep [0,1,5,6,7,8,20,21,22,28,29,30] [27]]] _ hn (by kernel_rfl) (aC r0 <| aC (lq r27) <| aN) (ih _ _ h cx hn)
theorem hensel_cofactors_c5 {K} (ih : qdD K) {cx} (hn : cx.n = 77) {r74 list p t20 t21 t22} {r} (h : qaQ (K + 1) (.c5 r74 list p t20 t21 t22) = some r) : qdC cx (.c5 r74 list p t20 t21 t22) r := by
  rw [qaQ] at h
  rcases qaK h with ⟨h1, h⟩ | ⟨h1, h⟩
  · skip
    obtain ⟨x2, h3, h⟩ := qaH h
    exact qaU (fuel := 94) [.go, rgG [oo], .br true, rgG [oo, opI (.ix (qaG x2)), oo, oo, oo], rgG [opI (.lit (([(1 : Int)] : List Int).map qaC)), oo], rgG [oo, opI (.ln (list.length : Int)), oo], .pre [.rl 5 0 r74.length, .rl 8 0 ([(1 : Int)] : List Int).length, .keep [0,1,5,6,7,8,20,21,22,28,29,30] [27,74]]] _ hn (by kernel_rfl) (aC h1 <| aC (qa0 h3) <| aC (qbH qaG h3) <| aC (by kernel_rfl : [(T.int .u32 (1 : Int))] = (([(1 : Int)] : List Int).map qaC).flatten) <| aC (qaT list qaG) <| aC r0 <| aC (lq r74) <| aC r0 <| aC (by simp : 1 = ([(1 : Int)] : List Int).length) <| aN) (ih _ _ h cx hn)
  · skip
    have h := Option.some.inj h; subst h
    exact qaN (fuel := 78) [.go, rgG [oo], .br false, rgG [oo, oo, .snap 4 (max 0 (0 + r74.length)) (r74.map qaG)]] _ hn (by kernel_rfl) (aC h1 <| aC (qbI _ _ _ (by simp) : ((r74.map qaG).drop 0).take r74.length = r74.map qaG) <| aC (rfl : (max 0 (0 + r74.length)) = (max 0 (0 + r74.length))) <| aN)
theorem hensel_cofactors_c6 {K} (ih : qdD K) {cx} (hn : cx.n = 77) {list p i g others t20 t21 t22 t28 t29 t30} {r} (h : qaQ (K + 1) (.c6 list p i g others t20 t21 t22 t28 t29 t30) = some r) : qdC cx (.c6 list p i g others t20 t21 t22 t28 t29 t30) r := by
  rw [qaQ] at h
  rcases qaK h with ⟨h1, h⟩ | ⟨h1, h⟩
  · skip
    obtain ⟨x2, h3, h⟩ := qaH h
    rcases qaK h with ⟨h4, h⟩ | ⟨h4, h⟩
    · skip
      obtain ⟨x5, h6, h⟩ := qaH h
      exact qaU (fuel := 96) [.go, rgG [oo], .br true, rgG [oo, opI (.ix (qaG x2)), oo, oo, oo], rgG [oo, oo, oo], .br true, rgG [oo, oo, oo, opI (.call [[1], [1], [0]] [(tl 1 others qaC), (tl 1 x2 qaC), (ti .u32 p)] (tl 1 x5 qaC)), oo], .pre [.keep [0,1,5,6,7,8,20,21,22,28,29,30] []]] _ hn (by kernel_rfl) (aC h1 <| aC (qa0 h3) <| aC (qbH qaG h3) <| aC h4 <| aC (qbL h6) <| aN) (ih _ _ h cx hn)
    · skip
      exact qaU (fuel := 92) [.go, rgG [oo], .br true, rgG [oo, opI (.ix (qaG x2)), oo, oo, oo], rgG [oo, oo, oo], .br false, .pre [.keep [0,1,5,6,7,8,20,21,22,28,29,30] []]] _ hn (by kernel_rfl) (aC h1 <| aC (qa0 h3) <| aC (qbH qaG h3) <| aC h4 <| aN) (ih _ _ h cx hn)
  · skip
    obtain ⟨x2, h3, h⟩ := qaH h
    obtain ⟨x4, h5, h⟩ := qaH h
    obtain ⟨x6, h7, h⟩ := qaH h
    obtain ⟨x8, h9, h⟩ := qaH h
    obtain ⟨x10, h11, h⟩ := qaH h
    exact qaU (fuel := 108) [.go, rgG [oo], .br false, rgG [oo, oo, oo, opI (.call [[1], [1], [0]] [(tl 1 others qaC), (tl 1 g qaC), (ti .u32 p)] (TV.tup [(false, [(T.sl 1 (x2.1.map qaC))]), (false, [(T.sl 1 (x2.2.1.map qaC))]), (false, [(T.sl 1 (x2.2.2.1.map qaC))]), (false, [(T.int .i64 x2.2.2.2)])])), oo, oo, oo, oo, oo, oo, oo, oo, oo], rgG [oo, opI (.ix (qaC x4)), oo, oo, opI (.call [[0], [0]] [(ti .u32 x4), (ti .u32 p)] (TV.tup [(false, [(T.int .u32 x6.1)]), (false, [(T.int .i64 x6.2)])])), oo, oo, oo, oo, oo], rgG [oo, oo, oo, opI (.call [[1], [0], [0]] [(TV.c (T.sl 1 (x2.2.1.map qaC))), (ti .u32 x6.1), (ti .u32 p)] (tl 1 x8 qaC)), oo, oo, opI (.call [[1], [1], [0]] [(tl 1 x8 qaC), (tl 1 g qaC), (ti .u32 p)] (TV.tup [(false, [(T.sl 1 (x10.1.map qaC))]), (false, [(T.sl 1 (x10.2.1.map qaC))]), (false, [(T.int .i64 x10.2.2)])])), oo, oo, oo, oo, oo, oo, oo], rgG [oo, oo, opI (.lit (([x10.2.1] : List (List Int)).map qaG)), opI (.appN (([x10.2.1] : List (List Int)).map qaG)), oo], rgG [oo, oo], .pre [.rl 5 0 ([x10.2.1] : List (List Int)).length, .keep [0,1,5,20,21,22] [74]]] _ hn (by kernel_rfl) (aC h1 <| aC (qlI h3) <| aC (qa0 h5) <| aC (qbH qaC h5) <| aC (qcY h7) <| aC (qc3 h9) <| aC (qbV h11) <| aC (by kernel_rfl : [(T.sl 1 (x10.2.1.map qaC))] = (([x10.2.1] : List (List Int)).map qaG).flatten) <| aC (qbI _ _ _ (by simp) : ((([x10.2.1] : List (List Int)).map qaG).drop 0).take 1 = ([x10.2.1] : List (List Int)).map qaG) <| aC (by simp : 0 < (([x10.2.1] : List (List Int)).map qaG).length) <| aC (by simp : (([x10.2.1] : List (List Int)).map qaG).length * 24 ≤ 140737488355328) <| aC (by simp [maxLen] : (([x10.2.1] : List (List Int)).map qaG).length ≤ maxLen) <| aC r0 <| aC (by simp : (([x10.2.1] : List (List Int)).map qaG).length = ([x10.2.1] : List (List Int)).length) <| aN) (ih _ _ h cx hn)
theorem hensel_cofactors_c7 {K} (ih : qdD K) {cx} (hn : cx.n = 77) {r27 r74 list p i g t20 t21 t22 t28 t29 t30} {r} (h : qaQ (K + 1) (.c7 r27 r74 list p i g t20 t21 t22 t28 t29 t30) = some r) : qdC cx (.c7 r27 r74 list p i g t20 t21 t22 t28 t29 t30) r := by
  rw [qaQ] at h
  rcases qaK h with ⟨h1, h⟩ | ⟨h1, h⟩
  · skip
    obtain ⟨x2, h3, h⟩ := qaH h
    rcases qaK h with ⟨h4, h⟩ | ⟨h4, h⟩
    · skip
      obtain ⟨x5, h6, h⟩ := qaH h
      exact qaU (fuel := 96) [.go, rgG [oo], .br true, rgG [oo, opI (.ix (qaG x2)), oo, oo, oo], rgG [oo, oo, oo], .br true, rgG [oo, oo, oo, .snap 38 (max 0 (0 + r27.length)) (r27.map qaC), opI (.call [[1], [1], [0]] [(tl 1 r27 qaC), (tl 1 x2 qaC), (ti .u32 p)] (tl 1 x5 qaC)), oo], .pre [.rl 5 0 r74.length, .keep [0,1,5,6,7,8,20,21,22,28,29,30] [74]]] _ hn (by kernel_rfl) (aC h1 <| aC (qa0 h3) <| aC (qbH qaG h3) <| aC h4 <| aC (qbI _ _ _ (by simp) : ((r27.map qaC).drop 0).take r27.length = r27.map qaC) <| aC (rfl : (max 0 (0 + r27.length)) = (max 0 (0 + r27.length))) <| aC (qbL h6) <| aC r0 <| aC (lq r74) <| aN) (ih _ _ h cx hn)
    · skip
      exact qaU (fuel := 92) [.go, rgG [oo], .br true, rgG [oo, opI (.ix (qaG x2)), oo, oo, oo], rgG [oo, oo, oo], .br false, .pre [.rl 5 0 r74.length, .rl 8 0 r27.length, .keep [0,1,5,6,7,8,20,21,22,28,29,30] [27,74]]] _ hn (by kernel_rfl) (aC h1 <| aC (qa0 h3) <| aC (qbH qaG h3) <| aC h4 <| aC r0 <| aC (lq r74) <| aC r0 <| aC (lq r27) <| aN) (ih _ _ h cx hn)
  · skip
    obtain ⟨x2, h3, h⟩ := qaH h
    obtain ⟨x4, h5, h⟩ := qaH h
    obtain ⟨x6, h7, h⟩ := qaH h
    obtain ⟨x8, h9, h⟩ := qaH h
    obtain ⟨x10, h11, h⟩ := qaH h
    obtain ⟨h12, h⟩ := qbE h
    exact qaU (fuel := 108) [.go, rgG [oo], .br false, rgG [oo, oo, oo, .snap 44 (max 0 (0 + r27.length)) (r27.map qaC), opI (.call [[1], [1], [0]] [(tl 1 r27 qaC), (tl 1 g qaC), (ti .u32 p)] (TV.tup [(false, [(T.sl 1 (x2.1.map qaC))]), (false, [(T.sl 1 (x2.2.1.map qaC))]), (false, [(T.sl 1 (x2.2.2.1.map qaC))]), (false, [(T.int .i64 x2.2.2.2)])])), oo, oo, oo, oo, oo, oo, oo, oo, oo], rgG [oo, opI (.ix (qaC x4)), oo, oo, opI (.call [[0], [0]] [(ti .u32 x4), (ti .u32 p)] (TV.tup [(false, [(T.int .u32 x6.1)]), (false, [(T.int .i64 x6.2)])])), oo, oo, oo, oo, oo], rgG [oo, oo, oo, opI (.call [[1], [0], [0]] [(TV.c (T.sl 1 (x2.2.1.map qaC))), (ti .u32 x6.1), (ti .u32 p)] (tl 1 x8 qaC)), oo, oo, opI (.call [[1], [1], [0]] [(tl 1 x8 qaC), (tl 1 g qaC), (ti .u32 p)] (TV.tup [(false, [(T.sl 1 (x10.1.map qaC))]), (false, [(T.sl 1 (x10.2.1.map qaC))]), (false, [(T.int .i64 x10.2.2)])])), oo, oo, oo, oo, oo, oo, oo], .pre [.keep [0,1,5,18,20,21,22] [74]], rgG [oo, oo, opI (.lit (([x10.2.1] : List (List Int)).map qaG)), .appR (([x10.2.1] : List (List Int)).map qaG) ((r74 ++ ([x10.2.1] : List (List Int))).map qaG), oo], rgG [oo, oo], .pre [.rl 5 0 (r74 ++ ([x10.2.1] : List (List Int))).length, .keep [0,1,5,20,21,22] [74]]] _ hn (by kernel_rfl) (aC h1 <| aC (qbI _ _ _ (by simp) : ((r27.map qaC).drop 0).take r27.length = r27.map qaC) <| aC (rfl : (max 0 (0 + r27.length)) = (max 0 (0 + r27.length))) <| aC (qlI h3) <| aC (qa0 h5) <| aC (qbH qaC h5) <| aC (qcY h7) <| aC (qc3 h9) <| aC (qbV h11) <| aC (by kernel_rfl : [(T.sl 1 (x10.2.1.map qaC))] = (([x10.2.1] : List (List Int)).map qaG).flatten) <| aC (by simp : r74.length = (r74.map qaG).length) <| aC (qbI _ _ _ (by simp) : ((([x10.2.1] : List (List Int)).map qaG).drop 0).take 1 = ([x10.2.1] : List (List Int)).map qaG) <| aC (qmF _ _ _ : r74.map qaG ++ ([x10.2.1] : List (List Int)).map qaG = (r74 ++ ([x10.2.1] : List (List Int))).map qaG) <| aC ((qc4 _ _).symm ▸ h12 : ((r74 ++ ([x10.2.1] : List (List Int))).map qaG).length * 24 ≤ 140737488355328) <| aC ((qc4 _ _).symm ▸ room (by decide) h12 : ((r74 ++ ([x10.2.1] : List (List Int))).map qaG).length ≤ maxLen) <| aC r0 <| aC (by simp : ((r74 ++ ([x10.2.1] : List (List Int))).map qaG).length = (r74 ++ ([x10.2.1] : List (List Int))).length) <| aN) (ih _ _ h cx hn)
theorem hensel_cofactors_c8 {K} (ih : qdD K) {cx} (hn : cx.n = 77) {r74 list p i g others t20 t21 t22 t28 t29 t30} {r} (h : qaQ (K + 1) (.c8 r74 list p i g others t20 t21 t22 t28 t29 t30) = some r) : qdC cx (.c8 r74 list p i g others t20 t21 t22 t28 t29 t30) r := by
  rw [qaQ] at h
  exact qaU (fuel := 44) [rgG [oo, oo], .pre [.rl 5 0 r74.length, .keep [0,1,5,6,7,8,20,21,22,28,29,30] [74]]] _ hn (by kernel_rfl) (aC r0 <| aC (lq r74) <| aN) (ih _ _ h cx hn)
theorem hensel_cofactors_c9 {K} (ih : qdD K) {cx} (hn : cx.n = 77) {r27 r74 list p i g t20 t21 t22 t28 t29 t30} {r} (h : qaQ (K + 1) (.c9 r27 r74 list p i g t20 t21 t22 t28 t29 t30) = some r) : qdC cx (.c9 r27 r74 list p i g t20 t21 t22 t28 t29 t30) r := by
  rw [qaQ] at h
  exact qaU (fuel := 44) [rgG [oo, oo], .pre [.rl 5 0 r74.length, .rl 8 0 r27.length, .keep [0,1,5,6,7,8,20,21,22,28,29,30] [27,74]]] _ hn (by kernel_rfl) (aC r0 <| aC (lq r74) <| aC r0 <| aC (lq r27) <| aN) (ih _ _ h cx hn)
theorem hensel_cofactors_c10 {K} (ih : qdD K) {cx} (hn : cx.n = 77) {r74 list p i g others t20 t21 t22 t28 t29 t30} {r} (h : qaQ (K + 1) (.c10 r74 list p i g others t20 t21 t22 t28 t29 t30) = some r) : qdC cx (.c10 r74 list p i g others t20 t21 t22 t28 t29 t30) r := by
  rw [qaQ] at h
  rcases qaK h with ⟨h1, h⟩ | ⟨h1, h⟩
  · skip
    obtain ⟨x2, h3, h⟩ := qaH h
    rcases qaK h with ⟨h4, h⟩ | ⟨h4, h⟩
    · skip
      obtain ⟨x5, h6, h⟩ := qaH h
      exact qaU (fuel := 96) [.go, rgG [oo], .br true, rgG [oo, opI (.ix (qaG x2)), oo, oo, oo], rgG [oo, oo, oo], .br true, rgG [oo, oo, oo, opI (.call [[1], [1], [0]] [(tl 1 others qaC), (tl 1 x2 qaC), (ti .u32 p)] (tl 1 x5 qaC)), oo], .pre [.rl 5 0 r74.length, .keep [0,1,5,6,7,8,20,21,22,28,29,30] [74]]] _ hn (by kernel_rfl) (aC h1 <| aC (qa0 h3) <| aC (qbH qaG h3) <| aC h4 <| aC (qbL h6) <| aC r0 <| aC (lq r74) <| aN) (ih _ _ h cx hn)
    · skip
      exact qaU (fuel := 92) [.go, rgG [oo], .br true, rgG [oo, opI (.ix (qaG x2)), oo, oo, oo], rgG [oo, oo, oo], .br false, .pre [.rl 5 0 r74.length, .keep [0,1,5,6,7,8,20,21,22,28,29,30] [74]]] _ hn (by kernel_rfl) (aC h1 <| aC (qa0 h3) <| aC (qbH qaG h3) <| aC h4 <| aC r0 <| aC (lq r74) <| aN) (ih _ _ h cx hn)
  · skip
    obtain ⟨x2, h3, h⟩ := qaH h
    obtain ⟨x4, h5, h⟩ := qaH h
    obtain ⟨x6, h7, h⟩ := qaH h
    obtain ⟨x8, h9, h⟩ := qaH h
    obtain ⟨x10, h11, h⟩ := qaH h
    obtain ⟨h12, h⟩ := qbE h
    exact qaU (fuel := 108) [.go, rgG [oo], .br false, rgG [oo, oo, oo, opI (.call [[1], [1], [0]] [(tl 1 others qaC), (tl 1 g qaC), (ti .u32 p)] (TV.tup [(false, [(T.sl 1 (x2.1.map qaC))]), (false, [(T.sl 1 (x2.2.1.map qaC))]), (false, [(T.sl 1 (x2.2.2.1.map qaC))]), (false, [(T.int .i64 x2.2.2.2)])])), oo, oo, oo, oo, oo, oo, oo, oo, oo], rgG [oo, opI (.ix (qaC x4)), oo, oo, opI (.call [[0], [0]] [(ti .u32 x4), (ti .u32 p)] (TV.tup [(false, [(T.int .u32 x6.1)]), (false, [(T.int .i64 x6.2)])])), oo, oo, oo, oo, oo], rgG [oo, oo, oo, opI (.call [[1], [0], [0]] [(TV.c (T.sl 1 (x2.2.1.map qaC))), (ti .u32 x6.1), (ti .u32 p)] (tl 1 x8 qaC)), oo, oo, opI (.call [[1], [1], [0]] [(tl 1 x8 qaC), (tl 1 g qaC), (ti .u32 p)] (TV.tup [(false, [(T.sl 1 (x10.1.map qaC))]), (false, [(T.sl 1 (x10.2.1.map qaC))]), (false, [(T.int .i64 x10.2.2)])])), oo, oo, oo, oo, oo, oo, oo], .pre [.keep [0,1,5,18,20,21,22] [74]], rgG [oo, oo, opI (.lit (([x10.2.1] : List (List Int)).map qaG)), .appR (([x10.2.1] : List (List Int)).map qaG) ((r74 ++ ([x10.2.1] : List (List Int))).map qaG), oo], rgG [oo, oo], .pre [.rl 5 0 (r74 ++ ([x10.2.1] : List (List Int))).length, .keep [0,1,5,20,21,22] [74]]] _ hn (by kernel_rfl) (aC h1 <| aC (qlI h3) <| aC (qa0 h5) <| aC (qbH qaC h5) <| aC (qcY h7) <| aC (qc3 h9) <| aC (qbV h11) <| aC (by kernel_rfl : [(T.sl 1 (x10.2.1.map qaC))] = (([x10.2.1] : List (List Int)).map qaG).flatten) <| aC (by simp : r74.length = (r74.map qaG).length) <| aC (qbI _ _ _ (by simp) : ((([x10.2.1] : List (List Int)).map qaG).drop 0).take 1 = ([x10.2.1] : List (List Int)).map qaG) <| aC (qmF _ _ _ : r74.map qaG ++ ([x10.2.1] : List (List Int)).map qaG = (r74 ++ ([x10.2.1] : List (List Int))).map qaG) <| aC ((qc4 _ _).symm ▸ h12 : ((r74 ++ ([x10.2.1] : List (List Int))).map qaG).length * 24 ≤ 140737488355328) <| aC ((qc4 _ _).symm ▸ room (by decide) h12 : ((r74 ++ ([x10.2.1] : List (List Int))).map qaG).length ≤ maxLen) <| aC r0 <| aC (by simp : ((r74 ++ ([x10.2.1] : List (List Int))).map qaG).length = (r74 ++ ([x10.2.1] : List (List Int))).length) <| aN) (ih _ _ h cx hn)
theorem qcU : ∀ K : Nat, qdD K
  | 0, c, r, h => by rw [qaQ] at h; cases h
  | K + 1, .c0 .., r, h => fun cx hn => hensel_cofactors_c0 (qcU K) hn h
  | K + 1, .c1 .., r, h => fun cx hn => hensel_cofactors_c1 (qcU K) hn h
  | K + 1, .c2 .., r, h => fun cx hn => hensel_cofactors_c2 (qcU K) hn h
  | K + 1, .c3 .., r, h => fun cx hn => hensel_cofactors_c3 (qcU K) hn h
  | K + 1, .c4 .., r, h => fun cx hn => hensel_cofactors_c4 (qcU K) hn h
  | K + 1, .c5 .., r, h => fun cx hn => hensel_cofactors_c5 (qcU K) hn h
  | K + 1, .c6 .., r, h => fun cx hn => hensel_cofactors_c6 (qcU K) hn h
  | K + 1, .c7 .., r, h => fun cx hn => hensel_cofactors_c7 (qcU K) hn h
  | K + 1, .c8 .., r, h => fun cx hn => hensel_cofactors_c8 (qcU K) hn h
  | K + 1, .c9 .., r, h => fun cx hn => hensel_cofactors_c9 (qcU K) hn h
  | K + 1, .c10 .., r, h => fun cx hn => hensel_cofactors_c10 (qcU K) hn h
theorem hensel_cofactors_holds {K : Nat} {list : (List (List Int))} {p : Int} {r : (List (List Int))} (h : hensel_cofactors K list p = some r) : qcX prog 115 [(tl 1 list qaG), (ti .u32 p)] (tl 1 r qaG) :=
  qa2 [[1]] (by kernel_rfl) (by simp) fun cx hn => qcU K (.c0 list p) r h cx hn
end Go.Am.X
namespace Go.Am.X
open Go.Proofs.Try (prog)
inductive qmY where
  | c0 (a : qaB) (b : qaB)
  | c1 (a : qaB) (b : qaB) (g : qaB) (x : qaB) (y : qaB) (r_v : qaB) (s : qaB) (u : qaB) (v : qaB)
def qfI : Nat → qmY → Option (qaB × qaB × qaB)
  | 0, _ => none
  | K + 1, .c0 a b =>
    (qfT K b).bind fun x1 =>
    bif x1 then
      (qg7 K a).bind fun x4 =>
      (qiJ K a).bind fun x6 =>
      (qh9 K x6).bind fun x8 =>
      some (x4, x8, (qaB.mk false []))
    else
      (qiP K a).bind fun x4 =>
      (qiP K b).bind fun x6 =>
      (qh9 K (1 : Int)).bind fun x8 =>
      qfI K (.c1 a b (qaB.mk false []) (qaB.mk false []) (qaB.mk false []) x4 x6 x8 (qaB.mk false []))
  | K + 1, .c1 a b g x y r_v s u v =>
    (qfT K s).bind fun x1 =>
    bif (!x1) then
      (qmA K r_v s).bind fun x4 =>
      (qdI K x4.1 v).bind fun x6 =>
      (qf7 K u x6).bind fun x8 =>
      qfI K (.c1 a b g x y s x4.2.1 v x8)
    else
      (qg7 K r_v).bind fun x4 =>
      bif r_v.Neg then
        (integer_Neg K u).bind fun x7 =>
        (qg7 K b).bind fun x9 =>
        (qcW K x9 x4).bind fun x11 =>
        (qfU K x7 x11.1).bind fun x13 =>
        (qdI K x13.1 a).bind fun x15 =>
        (qf7 K x4 x15).bind fun x17 =>
        (qcW K x17 b).bind fun x19 =>
        some (x4, x13.1, x19.1)
      else
        (qg7 K b).bind fun x7 =>
        (qcW K x7 x4).bind fun x9 =>
        (qfU K u x9.1).bind fun x11 =>
        (qdI K x11.1 a).bind fun x13 =>
        (qf7 K x4 x13).bind fun x15 =>
        (qcW K x15 b).bind fun x17 =>
        some (x4, x11.1, x17.1)
def division_Xgcd (K : Nat) (a : qaB) (b : qaB) : Option (qaB × qaB × qaB) := qfI K (.c0 a b)
noncomputable def qqP : Code := qbN prog 157
noncomputable def division_Xgcd_pos : qmY → List Fr
  | .c0 .. => [.code qqP]
  | .c1 .. => [.code (.loop (atC qqP [1,1,1,1,0,0,0])), .blk 0, .code (atC qqP [1,1,1,1,1])]
def division_Xgcd_st : qmY → St
  | .c0 a b => St.init [(TV.agg (qaA a)), (TV.agg (qaA b))]
  | .c1 a b g x y r_v s u v => ⟨[(2, .c (C.ptr 2 0)), (3, .c (C.ptr 3 0)), (4, .c (C.ptr 4 0)), (5, .c (C.ptr 5 0)), (6, .c (C.ptr 6 0)), (7, .c (C.ptr 7 0)), (8, .c (C.ptr 8 0)), (9, .c (C.ptr 9 0)), (10, .c (C.ptr 10 0))], [(2, .var ((qaA a).map C.t)), (3, .var ((qaA b).map C.t)), (4, .var ((qaA g).map C.t)), (5, .var ((qaA x).map C.t)), (6, .var ((qaA y).map C.t)), (7, .var ((qaA r_v).map C.t)), (8, .var ((qaA s).map C.t)), (9, .var ((qaA u).map C.t)), (10, .var ((qaA v).map C.t))], []⟩
def qu7 (cx : Cx) (c : qmY) (r : (qaB × qaB × qaB)) : Prop := Wk prog cx (qcT prog 157 [[0,1], [0,1], [0,1]] (TV.tup [(true, qaA r.1), (true, qaA r.2.1), (true, qaA r.2.2)])) (division_Xgcd_pos c) .normal (division_Xgcd_st c)
abbrev qu8 (K : Nat) : Prop := ∀ c r, qfI K c = some r → ∀ cx : Cx, cx.n = 80 → qu7 cx c r
theorem division_Xgcd_c0 {K} (ih : qu8 K) {cx} (hn : cx.n = 80) {a b} {r} (h : qfI (K + 1) (.c0 a b) = some r) : qu7 cx (.c0 a b) r := by
  rw [qfI] at h
  obtain ⟨x1, h2, h⟩ := qaH h
  rcases qaK h with ⟨h3, h⟩ | ⟨h3, h⟩
  · skip
    obtain ⟨x4, h5, h⟩ := qaH h
    obtain ⟨x6, h7, h⟩ := qaH h
    obtain ⟨x8, h9, h⟩ := qaH h
    have h := Option.some.inj h; subst h
    exact qaN (fuel := 72) [rgG [oo, oo, oo, oo, oo], rgG [oo, opI (.call [[0,1]] [(TV.agg (qaA b))] (TV.c (T.bool x1)))], .br true, .draw [.p, (.call [[0,1]] [(TV.agg (qaA a))] (TV.agg (qaA x4))), .p, (.call [[0,1]] [(TV.agg (qaA a))] (ti .i64 x6)), (.call [[0]] [(ti .i64 x6)] (TV.agg (qaA x8))), .p, .p, .p] [.op .p]] _ hn (by kernel_rfl) (aC (qb4 h2) <| aC h3 <| aC (qdA h5) <| aC (qbC h7) <| aC (qfH h9) <| aN)
  · skip
    obtain ⟨x4, h5, h⟩ := qaH h
    obtain ⟨x6, h7, h⟩ := qaH h
    obtain ⟨x8, h9, h⟩ := qaH h
    exact qaU (fuel := 82) [rgG [oo, oo, oo, oo, oo], rgG [oo, opI (.call [[0,1]] [(TV.agg (qaA b))] (TV.c (T.bool x1)))], .br false, .draw [.p, (.call [[0,1]] [(TV.agg (qaA a))] (TV.agg (qaA x4))), .p, (.call [[0,1]] [(TV.agg (qaA b))] (TV.agg (qaA x6))), .p, .p] [.op .p, .op .p], rgG [opI (.call [[0]] [(TV.c (T.int .i64 (1 : Int)))] (TV.agg (qaA x8))), oo, oo, oo, oo, oo], .pre [.tellB 4 [0,1], .tellB 5 [0,1], .tellB 6 [0,1], .tellB 10 [0,1], .keep [2,3,4,5,6,7,8,9,10] [2,3,4,5,6,7,8,9,10]]] _ hn (by kernel_rfl) (aC (qb4 h2) <| aC h3 <| aC (qiY h5) <| aC (qiY h7) <| aC (qfH h9) <| aN) (ih _ _ h cx hn)
theorem division_Xgcd_c1 {K} (ih : qu8 K) {cx} (hn : cx.n = 80) {a b g x y r_v s u v} {r} (h : qfI (K + 1) (.c1 a b g x y r_v s u v) = some r) : qu7 cx (.c1 a b g x y r_v s u v) r := by
  rw [qfI] at h
  obtain ⟨x1, h2, h⟩ := qaH h
  rcases qaK h with ⟨h3, h⟩ | ⟨h3, h⟩
  · skip
    obtain ⟨x4, h5, h⟩ := qaH h
    obtain ⟨x6, h7, h⟩ := qaH h
    obtain ⟨x8, h9, h⟩ := qaH h
    exact qaU (fuel := 90) [.go, rgG [oo, opI (.call [[0,1]] [(TV.agg (qaA s))] (TV.c (T.bool x1))), oo], .br true, rgG [oo, oo, opI (.call [[0,1], [0,1]] [(TV.agg (qaA r_v)), (TV.agg (qaA s))] (TV.tup [(true, qaA x4.1), (true, qaA x4.2.1), (false, [(T.int .i64 x4.2.2)])])), oo, oo, oo, oo, oo, oo, oo, oo, oo], .draw [.p, .p, .p] [.op .p], .draw [.p, .p, .p, .p, (.call [[0,1], [0,1]] [(TV.agg (qaA x4.1)), (TV.agg (qaA v))] (TV.agg (qaA x6))), (.call [[0,1], [0,1]] [(TV.agg (qaA u)), (TV.agg (qaA x6))] (TV.agg (qaA x8)))] [.op .p, .op .p], .pre [.keep [2,3,4,5,6,7,8,9,10] [2,3,4,5,6,7,8,9,10]]] _ hn (by kernel_rfl) (aC (qb4 h2) <| aC h3 <| aC (qeO h5) <| aC (qbT h7) <| aC (qe1 h9) <| aN) (ih _ _ h cx hn)
  · skip
    obtain ⟨x4, h5, h⟩ := qaH h
    rcases qaK h with ⟨h6, h⟩ | ⟨h6, h⟩
    · skip
      obtain ⟨x7, h8, h⟩ := qaH h
      obtain ⟨x9, h10, h⟩ := qaH h
      obtain ⟨x11, h12, h⟩ := qaH h
      obtain ⟨x13, h14, h⟩ := qaH h
      obtain ⟨x15, h16, h⟩ := qaH h
      obtain ⟨x17, h18, h⟩ := qaH h
      obtain ⟨x19, h20, h⟩ := qaH h
      have h := Option.some.inj h; subst h
      exact qaN (fuel := 132) [.go, rgG [oo, opI (.call [[0,1]] [(TV.agg (qaA s))] (TV.c (T.bool x1))), oo], .br false, rgG [oo, opI (.call [[0,1]] [(TV.agg (qaA r_v))] (TV.agg (qaA x4))), oo], rgG [oo, oo], .br true, rgG [oo, opI (.call [[0,1]] [(TV.agg (qaA u))] (TV.agg (qaA x7))), oo], .draw [.p, (.call [[0,1]] [(TV.agg (qaA b))] (TV.agg (qaA x9))), .p, (.call [[0,1], [0,1]] [(TV.agg (qaA x9)), (TV.agg (qaA x4))] (TV.tup [(true, qaA x11.1), (false, [(T.int .i64 x11.2)])])), .p, .p, .p, .p, .p] [.op .p], rgG [oo, oo, opI (.call [[0,1], [0,1]] [(TV.agg (qaA x7)), (TV.agg (qaA x11.1))] (TV.tup [(true, qaA x13.1), (false, [(T.int .i64 x13.2)])])), oo, oo, oo, oo], .draw [.p, .p, .p, (.call [[0,1], [0,1]] [(TV.agg (qaA x13.1)), (TV.agg (qaA a))] (TV.agg (qaA x15))), (.call [[0,1], [0,1]] [(TV.agg (qaA x4)), (TV.agg (qaA x15))] (TV.agg (qaA x17))), .p, (.call [[0,1], [0,1]] [(TV.agg (qaA x17)), (TV.agg (qaA b))] (TV.tup [(true, qaA x19.1), (false, [(T.int .i64 x19.2)])])), .p, .p, .p, .p] [], .draw [.p, .p, .p, .p, .p] [.op .p]] _ hn (by kernel_rfl) (aC (qb4 h2) <| aC h3 <| aC (qdA h5) <| aC h6 <| aC (integer_Neg_holds h8) <| aC (qdA h10) <| aC (qbW h12) <| aC (qfN h14) <| aC (qbT h16) <| aC (qe1 h18) <| aC (qbW h20) <| aN)
    · skip
      obtain ⟨x7, h8, h⟩ := qaH h
      obtain ⟨x9, h10, h⟩ := qaH h
      obtain ⟨x11, h12, h⟩ := qaH h
      obtain ⟨x13, h14, h⟩ := qaH h
      obtain ⟨x15, h16, h⟩ := qaH h
      obtain ⟨x17, h18, h⟩ := qaH h
      have h := Option.some.inj h; subst h
      exact qaN (fuel := 128) [.go, rgG [oo, opI (.call [[0,1]] [(TV.agg (qaA s))] (TV.c (T.bool x1))), oo], .br false, rgG [oo, opI (.call [[0,1]] [(TV.agg (qaA r_v))] (TV.agg (qaA x4))), oo], rgG [oo, oo], .br false, .draw [.p, (.call [[0,1]] [(TV.agg (qaA b))] (TV.agg (qaA x7))), .p, (.call [[0,1], [0,1]] [(TV.agg (qaA x7)), (TV.agg (qaA x4))] (TV.tup [(true, qaA x9.1), (false, [(T.int .i64 x9.2)])])), .p, .p, .p, .p, .p] [.op .p], rgG [oo, oo, opI (.call [[0,1], [0,1]] [(TV.agg (qaA u)), (TV.agg (qaA x9.1))] (TV.tup [(true, qaA x11.1), (false, [(T.int .i64 x11.2)])])), oo, oo, oo, oo], .draw [.p, .p, .p, (.call [[0,1], [0,1]] [(TV.agg (qaA x11.1)), (TV.agg (qaA a))] (TV.agg (qaA x13))), (.call [[0,1], [0,1]] [(TV.agg (qaA x4)), (TV.agg (qaA x13))] (TV.agg (qaA x15))), .p, (.call [[0,1], [0,1]] [(TV.agg (qaA x15)), (TV.agg (qaA b))] (TV.tup [(true, qaA x17.1), (false, [(T.int .i64 x17.2)])])), .p, .p, .p, .p] [], .draw [.p, .p, .p, .p, .p] [.op .p]] _ hn (by kernel_rfl) (aC (qb4 h2) <| aC h3 <| aC (qdA h5) <| aC h6 <| aC (qdA h8) <| aC (qbW h10) <| aC (qfN h12) <| aC (qbT h14) <| aC (qe1 h16) <| aC (qbW h18) <| aN)
theorem qrQ : ∀ K : Nat, qu8 K
  | 0, c, r, h => by rw [qfI] at h; cases h
  | K + 1, .c0 .., r, h => fun cx hn => division_Xgcd_c0 (qrQ K) hn h
  | K + 1, .c1 .., r, h => fun cx hn => division_Xgcd_c1 (qrQ K) hn h
theorem qu6 {K : Nat} {a : qaB} {b : qaB} {r : (qaB × qaB × qaB)} (h : division_Xgcd K a b = some r) : qcX prog 157 [(TV.agg (qaA a)), (TV.agg (qaA b))] (TV.tup [(true, qaA r.1), (true, qaA r.2.1), (true, qaA r.2.2)]) :=
  qa2 [[0,1], [0,1], [0,1]] (by kernel_rfl) (by simp) fun cx hn => qrQ K (.c0 a b) r h cx hn
end Go.Am.X
namespace Go.Am.X
open Go.Proofs.Try (prog)
inductive qmS where
  | c0 (f : (List Int)) (p : Int)
def qkP : Nat → qmS → Option ((List Int) × Int)
  | 0, _ => none
  | K + 1, .c0 f p =>
    (qjA K p).bind fun x1 =>
    bif (!x1) then
      some ([], (1 : Int))
    else
      (qfD K f p).bind fun x4 =>
      (modpoly_monic K x4 p).bind fun x6 =>
      some (x6, (0 : Int))
def modpoly_Monic (K : Nat) (f : (List Int)) (p : Int) : Option ((List Int) × Int) := qkP K (.c0 f p)
noncomputable def modpoly_Monic_body : Code := qbN prog 154
noncomputable def modpoly_Monic_pos : qmS → List Fr
  | .c0 .. => [.code modpoly_Monic_body]
def modpoly_Monic_st : qmS → St
  | .c0 f p => St.init [(tl 1 f qaC), (ti .u32 p)]
def modpoly_Monic_S (cx : Cx) (c : qmS) (r : ((List Int) × Int)) : Prop := Wk prog cx (qcT prog 154 [[1], [0]] (TV.tup [(false, [(T.sl 1 (r.1.map qaC))]), (false, [(T.int .i64 r.2)])])) (modpoly_Monic_pos c) .normal (modpoly_Monic_st c)
abbrev modpoly_Monic_H (K : Nat) : Prop := ∀ c r, qkP K c = some r → ∀ cx : Cx, cx.n = 14 → modpoly_Monic_S cx c r
theorem modpoly_Monic_c0 {K} (_ : modpoly_Monic_H K) {cx} (hn : cx.n = 14) {f p} {r} (h : qkP (K + 1) (.c0 f p) = some r) : modpoly_Monic_S cx (.c0 f p) r := by
  rw [qkP] at h
  obtain ⟨x1, h2, h⟩ := qaH h
  rcases qaK h with ⟨h3, h⟩ | ⟨h3, h⟩
  · skip
    have h := Option.some.inj h; subst h
    exact qaN (fuel := 72) [rgG [oo, oo], rgG [oo, opI (.call [[0]] [(ti .u32 p)] (TV.c (T.bool x1))), oo], .br true, rgG [oo, oo]] _ hn (by kernel_rfl) (aC (qbJ h2) <| aC h3 <| aN)
  · skip
    obtain ⟨x4, h5, h⟩ := qaH h
    obtain ⟨x6, h7, h⟩ := qaH h
    have h := Option.some.inj h; subst h
    exact qaN (fuel := 72) [rgG [oo, oo], rgG [oo, opI (.call [[0]] [(ti .u32 p)] (TV.c (T.bool x1))), oo], .br false, rgG [oo, oo, opI (.call [[1], [0]] [(tl 1 f qaC), (ti .u32 p)] (tl 1 x4 qaC)), oo, opI (.call [[1], [0]] [(tl 1 x4 qaC), (ti .u32 p)] (tl 1 x6 qaC)), oo, oo]] _ hn (by kernel_rfl) (aC (qbJ h2) <| aC h3 <| aC (qbK h5) <| aC (quH h7) <| aN)
theorem modpoly_Monic_all : ∀ K : Nat, modpoly_Monic_H K
  | 0, c, r, h => by rw [qkP] at h; cases h
  | K + 1, .c0 .., r, h => fun cx hn => modpoly_Monic_c0 (modpoly_Monic_all K) hn h
theorem quN {K : Nat} {f : (List Int)} {p : Int} {r : ((List Int) × Int)} (h : modpoly_Monic K f p = some r) : qcX prog 154 [(tl 1 f qaC), (ti .u32 p)] (TV.tup [(false, [(T.sl 1 (r.1.map qaC))]), (false, [(T.int .i64 r.2)])]) :=
  qa2 [[1], [0]] (by kernel_rfl) (by simp) fun cx hn => modpoly_Monic_all K (.c0 f p) r h cx hn
end Go.Am.X
namespace Go.Am.X
open Go.Proofs.Try (prog)
inductive qlF where
  | c0 (a : qaB) (m : Int)
def qi9 : Nat → qlF → Option Int
  | 0, _ => none
  | K + 1, .c0 a m =>
    (qkM K a.Abs (max m (1 : Int))).bind fun x1 =>
    bif a.Neg then
      bif (decide ((0 : Int) < x1.2.1)) then
        some (wU3 ((max m (1 : Int)) - x1.2.1))
      else
        some x1.2.1
    else
      some x1.2.1
def qc2 (K : Nat) (a : qaB) (m : Int) : Option Int := qi9 K (.c0 a m)
noncomputable def modular_Reduce_body : Code := qbN prog 64
noncomputable def modular_Reduce_pos : qlF → List Fr
  | .c0 .. => [.code modular_Reduce_body]
def modular_Reduce_st : qlF → St
  | .c0 a m => St.init [(TV.agg (qaA a)), (ti .u32 m)]
def modular_Reduce_S (cx : Cx) (c : qlF) (r : Int) : Prop := Wk prog cx (qcT prog 64 [[0]] (ti .u32 r)) (modular_Reduce_pos c) .normal (modular_Reduce_st c)
abbrev modular_Reduce_H (K : Nat) : Prop := ∀ c r, qi9 K c = some r → ∀ cx : Cx, cx.n = 28 → modular_Reduce_S cx c r
theorem modular_Reduce_c0 {K} (_ : modular_Reduce_H K) {cx} (hn : cx.n = 28) {a m} {r} (h : qi9 (K + 1) (.c0 a m) = some r) : modular_Reduce_S cx (.c0 a m) r := by
  rw [qi9] at h
  obtain ⟨x1, h2, h⟩ := qaH h
  rcases qaK h with ⟨h3, h⟩ | ⟨h3, h⟩
  · skip
    rcases qaK h with ⟨h4, h⟩ | ⟨h4, h⟩
    · skip
      have h := Option.some.inj h; subst h
      exact qaN (fuel := 84) [rgG [oo, oo], rgG [oo, oo, oo, oo, opI (.call [[1], [0]] [(TV.c (T.sl 1 (a.Abs.map qaC))), (TV.c (T.int .u32 (max m (1 : Int))))] (TV.tup [(false, [(T.sl 1 (x1.1.map qaC))]), (false, [(T.int .u32 x1.2.1)]), (false, [(T.bool x1.2.2)])])), oo, oo, oo, oo, oo, oo, oo], rgG [oo, oo, oo, .sb 19 true, oo, oo, oo], .br true, rgG [oo, oo, oo, oo, oo], rgG [oo, oo]] _ hn (by kernel_rfl) (aC (qhY h2) <| aC h3 <| aC h4 <| aN)
    · skip
      have h := Option.some.inj h; subst h
      exact qaN (fuel := 80) [rgG [oo, oo], rgG [oo, oo, oo, oo, opI (.call [[1], [0]] [(TV.c (T.sl 1 (a.Abs.map qaC))), (TV.c (T.int .u32 (max m (1 : Int))))] (TV.tup [(false, [(T.sl 1 (x1.1.map qaC))]), (false, [(T.int .u32 x1.2.1)]), (false, [(T.bool x1.2.2)])])), oo, oo, oo, oo, oo, oo, oo], rgG [oo, oo, oo, .sb 19 true, oo, oo, oo], .br false, rgG [oo, oo]] _ hn (by kernel_rfl) (aC (qhY h2) <| aC h3 <| aC h4 <| aN)
  · skip
    have h := Option.some.inj h; subst h
    exact qaN (fuel := 80) [rgG [oo, oo], rgG [oo, oo, oo, oo, opI (.call [[1], [0]] [(TV.c (T.sl 1 (a.Abs.map qaC))), (TV.c (T.int .u32 (max m (1 : Int))))] (TV.tup [(false, [(T.sl 1 (x1.1.map qaC))]), (false, [(T.int .u32 x1.2.1)]), (false, [(T.bool x1.2.2)])])), oo, oo, oo, oo, oo, oo, oo], rgG [oo, oo, oo, .sb 19 false, oo, oo, oo], .br false, rgG [oo, oo]] _ hn (by kernel_rfl) (aC (qhY h2) <| aC h3 <| aC rf <| aN)
theorem qvN : ∀ K : Nat, modular_Reduce_H K
  | 0, c, r, h => by rw [qi9] at h; cases h
  | K + 1, .c0 .., r, h => fun cx hn => modular_Reduce_c0 (qvN K) hn h
theorem qbD {K : Nat} {a : qaB} {m : Int} {r : Int} (h : qc2 K a m = some r) : qcX prog 64 [(TV.agg (qaA a)), (ti .u32 m)] (ti .u32 r) :=
  qa2 [[0]] (by kernel_rfl) (by simp) fun cx hn => qvN K (.c0 a m) r h cx hn
end Go.Am.X
namespace Go.Am.X
open Go.Proofs.Try (prog)
inductive qlK where
  | c0 (f : (List qaB)) (m : Int)
  | c1 (r10 : (List Int)) (m : Int) (t11 : (List qaB)) (t12 : Int) (t13 : Int)
def qeZ : Nat → qlK → Option (List Int)
  | 0, _ => none
  | K + 1, .c0 f m =>
    gd (0 ≤ (f.length : Int) ∧ (f.length : Int) ≤ (f.length : Int) ∧ (4 : Int) * (f.length : Int) ≤ 140737488355328) <|
    qeZ K (.c1 (List.replicate (f.length : Int).toNat ((0 : Int) : Int)) m f (f.length : Int) (0 : Int))
  | K + 1, .c1 r10 m t11 t12 t13 =>
    bif (decide (t13 < t12)) then
      (gi t11 t13).bind fun x2 =>
      (qc2 K x2 m).bind fun x4 =>
      (gi r10 t13).bind fun _ =>
      qeZ K (.c1 (r10.set (t13.toNat) x4) m t11 t12 (wI6 (t13 + (1 : Int))))
    else
      (qiF K r10).bind fun x2 =>
      some x2
def modpoly_Reduce (K : Nat) (f : (List qaB)) (m : Int) : Option (List Int) := qeZ K (.c0 f m)
noncomputable def qoX : Code := qbN prog 60
noncomputable def modpoly_Reduce_pos : qlK → List Fr
  | .c0 .. => [.code qoX]
  | .c1 .. => [.code (.loop (atC qoX [1,1,0,1,0,0])), .blk 0, .code (atC qoX [1,1,1])]
def modpoly_Reduce_st : qlK → St
  | .c0 f m => St.init [(tl 2 f qaA), (ti .u32 m)]
  | .c1 r10 m t11 t12 t13 => ⟨[(1, vi .u32 m), (5, .c (C.row 10 0 r10.length)), (11, vl 2 t11 qaA), (12, vi .i64 t12), (13, vi .i64 t13)], [(10, .row 101 1 (r10.map qaC) 0)], []⟩
def qs3 (cx : Cx) (c : qlK) (r : (List Int)) : Prop := Wk prog cx (qcT prog 60 [[1]] (tl 1 r qaC)) (modpoly_Reduce_pos c) .normal (modpoly_Reduce_st c)
abbrev qs4 (K : Nat) : Prop := ∀ c r, qeZ K c = some r → ∀ cx : Cx, cx.n = 27 → qs3 cx c r
theorem modpoly_Reduce_c0 {K} (ih : qs4 K) {cx} (hn : cx.n = 27) {f m} {r} (h : qeZ (K + 1) (.c0 f m) = some r) : qs3 cx (.c0 f m) r := by
  rw [qeZ] at h
  obtain ⟨h1, h⟩ := qbE h
  exact qaU (fuel := 64) [rgG [oo], rgG [oo, opI (.ln (f.length : Int)), opI (.mk (qaC (0 : Int)) ((List.replicate (f.length : Int).toNat ((0 : Int) : Int)).map qaC)), oo], rgG [oo, opI (.ln (f.length : Int)), oo], .pre [.rl 5 0 (List.replicate (f.length : Int).toNat ((0 : Int) : Int)).length, .keep [1,5,11,12,13] [10]]] _ hn (by kernel_rfl) (aC (qaT f qaA) <| aC h1.1 <| aC h1.2.1 <| aC h1.2.2 <| aC (qf1 _ _ _ : List.replicate (f.length : Int).toNat (qaC (0 : Int)) = (List.replicate (f.length : Int).toNat ((0 : Int) : Int)).map qaC) <| aC (qaT f qaA) <| aC r0 <| aC (by simp : (f.length : Int).toNat = (List.replicate (f.length : Int).toNat ((0 : Int) : Int)).length) <| aN) (ih _ _ h cx hn)
theorem modpoly_Reduce_c1 {K} (ih : qs4 K) {cx} (hn : cx.n = 27) {r10 m t11 t12 t13} {r} (h : qeZ (K + 1) (.c1 r10 m t11 t12 t13) = some r) : qs3 cx (.c1 r10 m t11 t12 t13) r := by
  rw [qeZ] at h
  rcases qaK h with ⟨h1, h⟩ | ⟨h1, h⟩
  · skip
    obtain ⟨x2, h3, h⟩ := qaH h
    obtain ⟨x4, h5, h⟩ := qaH h
    obtain ⟨x6, h7, h⟩ := qaH h
    exact qaU (fuel := 90) [.go, rgG [oo], .br true, rgG [oo, opI (.ix (qaA x2)), oo, oo, oo, oo], rgG [oo, oo, oo, oo, opI (.call [[0,1], [0]] [(TV.agg (qaA x2)), (ti .u32 m)] (ti .u32 x4)), .op .ir, opI (.st (qaC x6) ((r10.set (t13.toNat) x4).map qaC))], rgG [oo, oo], .pre [.rl 5 0 (r10.set (t13.toNat) x4).length, .keep [1,5,11,12,13] [10]]] _ hn (by kernel_rfl) (aC h1 <| aC (qa0 h3) <| aC (qbH qaA h3) <| aC (qbD h5) <| aC (qa0 h7) <| aC (qcH h7 (by simp) : t13 < ((r10.length : Nat) : Int)) <| aC (qcG qaC h7 : (r10.map qaC)[(0 + t13.toNat)]? = some (qaC x6)) <| aC (qc7 _ _ x4 _ : (r10.map qaC).set (0 + t13.toNat) (qbY (qaC x6) 0 [(T.int .u32 x4)]) = (r10.set (t13.toNat) x4).map qaC) <| aC (Nat.zero_le _ : 0 ≤ (0 + t13.toNat)) <| aC r0 <| aC (by simp : r10.length = (r10.set (t13.toNat) x4).length) <| aN) (ih _ _ h cx hn)
  · skip
    obtain ⟨x2, h3, h⟩ := qaH h
    have h := Option.some.inj h; subst h
    exact qaN (fuel := 78) [.go, rgG [oo], .br false, rgG [oo, .snap 25 (max 0 (0 + r10.length)) (r10.map qaC), opI (.call [[1]] [(tl 1 r10 qaC)] (tl 1 x2 qaC)), oo]] _ hn (by kernel_rfl) (aC h1 <| aC (qbI _ _ _ (by simp) : ((r10.map qaC).drop 0).take r10.length = r10.map qaC) <| aC (rfl : (max 0 (0 + r10.length)) = (max 0 (0 + r10.length))) <| aC (qe7 h3) <| aN)
theorem qp6 : ∀ K : Nat, qs4 K
  | 0, c, r, h => by rw [qeZ] at h; cases h
  | K + 1, .c0 .., r, h => fun cx hn => modpoly_Reduce_c0 (qp6 K) hn h
  | K + 1, .c1 .., r, h => fun cx hn => modpoly_Reduce_c1 (qp6 K) hn h
theorem qiX {K : Nat} {f : (List qaB)} {m : Int} {r : (List Int)} (h : modpoly_Reduce K f m = some r) : qcX prog 60 [(tl 2 f qaA), (ti .u32 m)] (tl 1 r qaC) :=
  qa2 [[1]] (by kernel_rfl) (by simp) fun cx hn => qp6 K (.c0 f m) r h cx hn
end Go.Am.X
namespace Go.Am.X
open Go.Proofs.Try (prog)
inductive qj8 where
  | c0 (x : (List Int)) (y : (List Int))
  | c1 (x : (List Int)) (y : (List Int)) (i : Int)
def qeM : Nat → qj8 → Option Int
  | 0, _ => none
  | K + 1, .c0 x y =>
    bif (!decide ((x.length : Int) = (y.length : Int))) then
      bif (decide ((x.length : Int) < (y.length : Int))) then
        some (-1 : Int)
      else
        some (1 : Int)
    else
      qeM K (.c1 x y (wI6 ((x.length : Int) - (1 : Int))))
  | K + 1, .c1 x y i =>
    bif (decide ((0 : Int) ≤ i)) then
      (gi x i).bind fun x2 =>
      (gi y i).bind fun x4 =>
      bif (decide (x2 < x4)) then
        some (-1 : Int)
      else
        (gi x i).bind fun x7 =>
        (gi y i).bind fun x9 =>
        bif (decide (x9 < x7)) then
          some (1 : Int)
        else
          qeM K (.c1 x y (wI6 (i - (1 : Int))))
    else
      some (0 : Int)
def modpoly_compare (K : Nat) (x : (List Int)) (y : (List Int)) : Option Int := qeM K (.c0 x y)
noncomputable def qnB : Code := qbN prog 190
noncomputable def modpoly_compare_pos : qj8 → List Fr
  | .c0 .. => [.code qnB]
  | .c1 .. => [.code (.loop (atC qnB [1,1,0,1,0,0])), .blk 0, .code (atC qnB [1,1,1])]
def modpoly_compare_st : qj8 → St
  | .c0 x y => St.init [(tl 1 x qaC), (tl 1 y qaC)]
  | .c1 x y i => ⟨[(0, vl 1 x qaC), (1, vl 1 y qaC), (5, vi .i64 i)], [], []⟩
def qrH (cx : Cx) (c : qj8) (r : Int) : Prop := Wk prog cx (qcT prog 190 [[0]] (ti .i64 r)) (modpoly_compare_pos c) .normal (modpoly_compare_st c)
abbrev qrI (K : Nat) : Prop := ∀ c r, qeM K c = some r → ∀ cx : Cx, cx.n = 41 → qrH cx c r
theorem modpoly_compare_c0 {K} (ih : qrI K) {cx} (hn : cx.n = 41) {x y} {r} (h : qeM (K + 1) (.c0 x y) = some r) : qrH cx (.c0 x y) r := by
  rw [qeM] at h
  rcases qaK h with ⟨h1, h⟩ | ⟨h1, h⟩
  · skip
    rcases qaK h with ⟨h2, h⟩ | ⟨h2, h⟩
    · skip
      have h := Option.some.inj h; subst h
      exact qaN (fuel := 90) [rgG [oo], rgG [oo, opI (.ln (x.length : Int)), oo, opI (.ln (y.length : Int)), oo], .br true, rgG [oo, opI (.ln (x.length : Int)), oo, opI (.ln (y.length : Int)), oo], .br true, rgG [oo]] _ hn (by kernel_rfl) (aC (qaT x qaC) <| aC (qaT y qaC) <| aC h1 <| aC (qaT x qaC) <| aC (qaT y qaC) <| aC h2 <| aN)
    · skip
      have h := Option.some.inj h; subst h
      exact qaN (fuel := 90) [rgG [oo], rgG [oo, opI (.ln (x.length : Int)), oo, opI (.ln (y.length : Int)), oo], .br true, rgG [oo, opI (.ln (x.length : Int)), oo, opI (.ln (y.length : Int)), oo], .br false, rgG [oo]] _ hn (by kernel_rfl) (aC (qaT x qaC) <| aC (qaT y qaC) <| aC h1 <| aC (qaT x qaC) <| aC (qaT y qaC) <| aC h2 <| aN)
  · skip
    exact qaU (fuel := 74) [rgG [oo], rgG [oo, opI (.ln (x.length : Int)), oo, opI (.ln (y.length : Int)), oo], .br false, rgG [oo, opI (.ln (x.length : Int)), oo, oo], .pre [.keep [0,1,5] []]] _ hn (by kernel_rfl) (aC (qaT x qaC) <| aC (qaT y qaC) <| aC h1 <| aC (qaT x qaC) <| aN) (ih _ _ h cx hn)
theorem modpoly_compare_c1 {K} (ih : qrI K) {cx} (hn : cx.n = 41) {x y i} {r} (h : qeM (K + 1) (.c1 x y i) = some r) : qrH cx (.c1 x y i) r := by
  rw [qeM] at h
  rcases qaK h with ⟨h1, h⟩ | ⟨h1, h⟩
  · skip
    obtain ⟨x2, h3, h⟩ := qaH h
    obtain ⟨x4, h5, h⟩ := qaH h
    rcases qaK h with ⟨h6, h⟩ | ⟨h6, h⟩
    · skip
      have h := Option.some.inj h; subst h
      exact qaN (fuel := 104) [.go, rgG [oo, oo], .br true, .draw [.p, .p, (.ix (qaC x2)), .p, .p, .p, (.ix (qaC x4)), .p] [.op .p], .br true, rgG [oo]] _ hn (by kernel_rfl) (aC h1 <| aC (qa0 h3) <| aC (qbH qaC h3) <| aC (qa0 h5) <| aC (qbH qaC h5) <| aC h6 <| aN)
    · skip
      obtain ⟨x7, h8, h⟩ := qaH h
      obtain ⟨x9, h10, h⟩ := qaH h
      rcases qaK h with ⟨h11, h⟩ | ⟨h11, h⟩
      · skip
        have h := Option.some.inj h; subst h
        exact qaN (fuel := 118) [.go, rgG [oo, oo], .br true, .draw [.p, .p, (.ix (qaC x2)), .p, .p, .p, (.ix (qaC x4)), .p] [.op .p], .br false, .draw [.p, .p, (.ix (qaC x7)), .p, .p, .p, (.ix (qaC x9)), .p] [.op .p], .br true, rgG [oo]] _ hn (by kernel_rfl) (aC h1 <| aC (qa0 h3) <| aC (qbH qaC h3) <| aC (qa0 h5) <| aC (qbH qaC h5) <| aC h6 <| aC (qa0 h8) <| aC (qbH qaC h8) <| aC (qa0 h10) <| aC (qbH qaC h10) <| aC h11 <| aN)
      · skip
        exact qaU (fuel := 110) [.go, rgG [oo, oo], .br true, .draw [.p, .p, (.ix (qaC x2)), .p, .p, .p, (.ix (qaC x4)), .p] [.op .p], .br false, .draw [.p, .p, (.ix (qaC x7)), .p, .p, .p, (.ix (qaC x9)), .p] [.op .p], .br false, rgG [oo, oo, oo], .pre [.keep [0,1,5] []]] _ hn (by kernel_rfl) (aC h1 <| aC (qa0 h3) <| aC (qbH qaC h3) <| aC (qa0 h5) <| aC (qbH qaC h5) <| aC h6 <| aC (qa0 h8) <| aC (qbH qaC h8) <| aC (qa0 h10) <| aC (qbH qaC h10) <| aC h11 <| aN) (ih _ _ h cx hn)
  · skip
    have h := Option.some.inj h; subst h
    exact qaN (fuel := 78) [.go, rgG [oo, oo], .br false, rgG [oo]] _ hn (by kernel_rfl) (aC h1 <| aN)
theorem qoU : ∀ K : Nat, qrI K
  | 0, c, r, h => by rw [qeM] at h; cases h
  | K + 1, .c0 .., r, h => fun cx hn => modpoly_compare_c0 (qoU K) hn h
  | K + 1, .c1 .., r, h => fun cx hn => modpoly_compare_c1 (qoU K) hn h
theorem modpoly_compare_holds {K : Nat} {x : (List Int)} {y : (List Int)} {r : Int} (h : modpoly_compare K x y = some r) : qcX prog 190 [(tl 1 x qaC), (tl 1 y qaC)] (ti .i64 r) :=
  qa2 [[0]] (by kernel_rfl) (by simp) fun cx hn => qoU K (.c0 x y) r h cx hn
end Go.Am.X
namespace Go.Am.X
open Go.Proofs.Try (prog)
inductive qj9 where
  | c0 (f : (List Int)) (g : (List Int)) (m : Int)
def qiH : Nat → qj9 → Option Int
  | 0, _ => none
  | K + 1, .c0 f g m =>
    (qfD K f m).bind fun x1 =>
    (qfD K g m).bind fun x3 =>
    (modpoly_compare K x1 x3).bind fun x5 =>
    some x5
def modpoly_Compare (K : Nat) (f : (List Int)) (g : (List Int)) (m : Int) : Option Int := qiH K (.c0 f g m)
noncomputable def modpoly_Compare_body : Code := qbN prog 180
noncomputable def modpoly_Compare_pos : qj9 → List Fr
  | .c0 .. => [.code modpoly_Compare_body]
def modpoly_Compare_st : qj9 → St
  | .c0 f g m => St.init [(tl 1 f qaC), (tl 1 g qaC), (ti .u32 m)]
def modpoly_Compare_S (cx : Cx) (c : qj9) (r : Int) : Prop := Wk prog cx (qcT prog 180 [[0]] (ti .i64 r)) (modpoly_Compare_pos c) .normal (modpoly_Compare_st c)
abbrev modpoly_Compare_H (K : Nat) : Prop := ∀ c r, qiH K c = some r → ∀ cx : Cx, cx.n = 14 → modpoly_Compare_S cx c r
theorem modpoly_Compare_c0 {K} (_ : modpoly_Compare_H K) {cx} (hn : cx.n = 14) {f g m} {r} (h : qiH (K + 1) (.c0 f g m) = some r) : modpoly_Compare_S cx (.c0 f g m) r := by
  rw [qiH] at h
  obtain ⟨x1, h2, h⟩ := qaH h
  obtain ⟨x3, h4, h⟩ := qaH h
  obtain ⟨x5, h6, h⟩ := qaH h
  have h := Option.some.inj h; subst h
  exact qaN (fuel := 54) [rgG [oo], rgG [oo, oo, opI (.call [[1], [0]] [(tl 1 f qaC), (ti .u32 m)] (tl 1 x1 qaC)), oo, oo, opI (.call [[1], [0]] [(tl 1 g qaC), (ti .u32 m)] (tl 1 x3 qaC)), opI (.call [[1], [1]] [(tl 1 x1 qaC), (tl 1 x3 qaC)] (ti .i64 x5)), oo]] _ hn (by kernel_rfl) (aC (qbK h2) <| aC (qbK h4) <| aC (modpoly_compare_holds h6) <| aN)
theorem quO : ∀ K : Nat, modpoly_Compare_H K
  | 0, c, r, h => by rw [qiH] at h; cases h
  | K + 1, .c0 .., r, h => fun cx hn => modpoly_Compare_c0 (quO K) hn h
theorem modpoly_Compare_holds {K : Nat} {f : (List Int)} {g : (List Int)} {m : Int} {r : Int} (h : modpoly_Compare K f g m = some r) : qcX prog 180 [(tl 1 f qaC), (tl 1 g qaC), (ti .u32 m)] (ti .i64 r) :=
  qa2 [[0]] (by kernel_rfl) (by simp) fun cx hn => quO K (.c0 f g m) r h cx hn
end Go.Am.X
namespace Go.Am.X
open Go.Proofs.Try (prog)
inductive qn7 where
  | c0 (f : (List Int)) (g : (List Int)) (m : Int)
def ql6 : Nat → qn7 → Option Bool
  | 0, _ => none
  | K + 1, .c0 f g m =>
    (modpoly_Compare K f g m).bind fun x1 =>
    some (decide (x1 = (0 : Int)))
def modpoly_Same (K : Nat) (f : (List Int)) (g : (List Int)) (m : Int) : Option Bool := ql6 K (.c0 f g m)
noncomputable def modpoly_Same_body : Code := qbN prog 155
noncomputable def modpoly_Same_pos : qn7 → List Fr
  | .c0 .. => [.code modpoly_Same_body]
def modpoly_Same_st : qn7 → St
  | .c0 f g m => St.init [(tl 1 f qaC), (tl 1 g qaC), (ti .u32 m)]
def modpoly_Same_S (cx : Cx) (c : qn7) (r : Bool) : Prop := Wk prog cx (qcT prog 155 [[0]] (TV.c (T.bool r))) (modpoly_Same_pos c) .normal (modpoly_Same_st c)
abbrev modpoly_Same_H (K : Nat) : Prop := ∀ c r, ql6 K c = some r → ∀ cx : Cx, cx.n = 12 → modpoly_Same_S cx c r
theorem modpoly_Same_c0 {K} (_ : modpoly_Same_H K) {cx} (hn : cx.n = 12) {f g m} {r} (h : ql6 (K + 1) (.c0 f g m) = some r) : modpoly_Same_S cx (.c0 f g m) r := by
  rw [ql6] at h
  obtain ⟨x1, h2, h⟩ := qaH h
  have h := Option.some.inj h; subst h
  exact qaN (fuel := 54) [rgG [oo], rgG [oo, oo, oo, opI (.call [[1], [1], [0]] [(tl 1 f qaC), (tl 1 g qaC), (ti .u32 m)] (ti .i64 x1)), oo, oo]] _ hn (by kernel_rfl) (aC (modpoly_Compare_holds h2) <| aN)
theorem modpoly_Same_all : ∀ K : Nat, modpoly_Same_H K
  | 0, c, r, h => by rw [ql6] at h; cases h
  | K + 1, .c0 .., r, h => fun cx hn => modpoly_Same_c0 (modpoly_Same_all K) hn h
theorem qlJ {K : Nat} {f : (List Int)} {g : (List Int)} {m : Int} {r : Bool} (h : modpoly_Same K f g m = some r) : qcX prog 155 [(tl 1 f qaC), (tl 1 g qaC), (ti .u32 m)] (TV.c (T.bool r)) :=
  qa2 [[0]] (by kernel_rfl) (by simp) fun cx hn => modpoly_Same_all K (.c0 f g m) r h cx hn
end Go.Am.X
