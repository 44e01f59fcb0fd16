/- Part 5 of the proof: Fn_hensel_start Fn_modular_Symmetric Fn_modpoly_Symmetric Fn_hensel_Lift Fn_cylinderlaw12_fit Fit Fn_hensel_Exponent Fn_cylinderlaw12_HenselExponent M10 Fn_cylinderlaw12_reduced Fn_cylinderlaw12_congruent. -/
import Derived.Test.YteciehfkhmbfeaaRb
import Derived.Test.YteciehfkhmbfeaaRd
import Derived.Test.YteciehfkhmbfeaaRc
namespace Go.Am.X
open Go.Proofs.Try (prog)
inductive qoD where
  | c0 (f : (List qaB)) (list : (List (List Int))) (p : Int) (top : qaB)
  | c1 (top : qaB) (lead : qaB) (r29 : (List Int)) (f : (List qaB)) (p : Int) (t30 : (List (List Int))) (t31 : Int) (t32 : Int)
  | c2 (top : qaB) (lead : qaB) (r45 : (List (List Int))) (f : (List qaB)) (p : Int) (product : (List Int)) (t30 : (List (List Int))) (t31 : Int) (t32 : Int)
def qd9 : Nat → qoD → Option ((List qaB) × (List (List Int)) × Int)
  | 0, _ => none
  | K + 1, .c0 f list p top =>
    (qsD K f).bind fun x1 =>
    (qc2 K x1 p).bind fun x3 =>
    bif (decide (x3 = (0 : Int))) then
      some ([], [], (3 : Int))
    else
      qd9 K (.c1 top x1 ([(1 : Int)] : List Int) f p list (list.length : Int) (0 : Int))
  | K + 1, .c1 top lead r29 f p t30 t31 t32 =>
    bif (decide (t32 < t31)) then
      (gi t30 t32).bind fun x2 =>
      (modpoly_Monic K x2 p).bind fun x4 =>
      (qdH K r29 x4.1 p).bind fun x7 =>
      qd9 K (.c2 top lead ([x4.1] : List (List Int)) f p x7 t30 t31 (wI6 (t32 + (1 : Int))))
    else
      (modpoly_Reduce K f p).bind fun x2 =>
      (qc2 K lead p).bind fun x4 =>
      (qfS K r29 x4 p).bind fun x6 =>
      (modpoly_Same K x2 x6 p).bind fun x8 =>
      bif (!x8) then
        some ([], [], (3 : Int))
      else
        (division_Xgcd K lead top).bind fun x11 =>
        (qdP K f x11.2.1).bind fun x13 =>
        (qbO K x13 top).bind fun x15 =>
        some (x15.1, [], (0 : Int))
  | K + 1, .c2 top lead r45 f p product t30 t31 t32 =>
    bif (decide (t32 < t31)) then
      (gi t30 t32).bind fun x2 =>
      (modpoly_Monic K x2 p).bind fun x4 =>
      gd ((r45 ++ ([x4.1] : List (List Int))).length * 24 ≤ 140737488355328) <|
      (qdH K product x4.1 p).bind fun x7 =>
      qd9 K (.c2 top lead (r45 ++ ([x4.1] : List (List Int))) f p x7 t30 t31 (wI6 (t32 + (1 : Int))))
    else
      (modpoly_Reduce K f p).bind fun x2 =>
      (qc2 K lead p).bind fun x4 =>
      (qfS K product x4 p).bind fun x6 =>
      (modpoly_Same K x2 x6 p).bind fun x8 =>
      bif (!x8) then
        some ([], [], (3 : Int))
      else
        (division_Xgcd K lead top).bind fun x11 =>
        (qdP K f x11.2.1).bind fun x13 =>
        (qbO K x13 top).bind fun x15 =>
        some (x15.1, r45, (0 : Int))
def hensel_start (K : Nat) (f : (List qaB)) (list : (List (List Int))) (p : Int) (top : qaB) : Option ((List qaB) × (List (List Int)) × Int) := qd9 K (.c0 f list p top)
noncomputable def qjN : Code := qbN prog 114
noncomputable def hensel_start_pos : qoD → List Fr
  | .c0 .. => [.code qjN]
  | .c1 .. => [.code (.loop (atC qjN [1,1,1,1,1,0,1,0,0])), .blk 0, .code (atC qjN [1,1,1,1,1,1])]
  | .c2 .. => [.code (.loop (atC qjN [1,1,1,1,1,0,1,0,0])), .blk 0, .code (atC qjN [1,1,1,1,1,1])]
def hensel_start_st : qoD → St
  | .c0 f list p top => St.init [(tl 2 f qaA), (tl 1 list qaG), (ti .u32 p), (TV.agg (qaA top))]
  | .c1 top lead r29 f p t30 t31 t32 => ⟨[(0, vl 2 f qaA), (2, vi .u32 p), (7, .c (C.ptr 7 0)), (11, .c (C.ptr 11 0)), (12, .c (C.row 29 0 r29.length)), (13, .c (C.nil)), (30, vl 1 t30 qaG), (31, vi .i64 t31), (32, vi .i64 t32)], [(7, .var ((qaA top).map C.t)), (11, .var ((qaA lead).map C.t)), (29, .row 101 1 (r29.map qaC) 0)], []⟩
  | .c2 top lead r45 f p product t30 t31 t32 => ⟨[(0, vl 2 f qaA), (2, vi .u32 p), (7, .c (C.ptr 7 0)), (11, .c (C.ptr 11 0)), (12, vl 1 product qaC), (13, .c (C.row 45 0 r45.length)), (30, vl 1 t30 qaG), (31, vi .i64 t31), (32, vi .i64 t32)], [(7, .var ((qaA top).map C.t)), (11, .var ((qaA lead).map C.t)), (45, .row 114 1 (r45.map qaG) 0)], []⟩
def qr9 (cx : Cx) (c : qoD) (r : ((List qaB) × (List (List Int)) × Int)) : Prop := Wk prog cx (qcT prog 114 [[2], [1], [0]] (TV.tup [(false, [(T.sl 2 (r.1.map qaA))]), (false, [(T.sl 1 (r.2.1.map qaG))]), (false, [(T.int .i64 r.2.2)])])) (hensel_start_pos c) .normal (hensel_start_st c)
abbrev qsA (K : Nat) : Prop := ∀ c r, qd9 K c = some r → ∀ cx : Cx, cx.n = 80 → qr9 cx c r
theorem hensel_start_c0 {K} (ih : qsA K) {cx} (hn : cx.n = 80) {f list p top} {r} (h : qd9 (K + 1) (.c0 f list p top) = some r) : qr9 cx (.c0 f list p top) r := by
  rw [qd9] at h
  obtain ⟨x1, h2, h⟩ := qaH h
  obtain ⟨x3, h4, h⟩ := qaH h
  rcases qaK h with ⟨h5, h⟩ | ⟨h5, h⟩
  · skip
    have h := Option.some.inj h; subst h
    exact qaN (fuel := 80) [rgG [oo, oo, oo, oo], rgG [oo, opI (.call [[2]] [(tl 2 f qaA)] (TV.agg (qaA x1))), oo, oo], rgG [oo, oo, opI (.call [[0,1], [0]] [(TV.agg (qaA x1)), (ti .u32 p)] (ti .u32 x3)), oo], .br true, rgG [oo, oo, oo]] _ hn (by kernel_rfl) (aC (qk8 h2) <| aC (qbD h4) <| aC h5 <| aN)
  · skip
    exact qaU (fuel := 98) [rgG [oo, oo, oo, oo], rgG [oo, opI (.call [[2]] [(tl 2 f qaA)] (TV.agg (qaA x1))), oo, oo], rgG [oo, oo, opI (.call [[0,1], [0]] [(TV.agg (qaA x1)), (ti .u32 p)] (ti .u32 x3)), oo], .br false, rgG [opI (.lit (([(1 : Int)] : List Int).map qaC)), oo], rgG [oo], rgG [oo, opI (.ln (list.length : Int)), oo], .pre [.rl 12 0 ([(1 : Int)] : List Int).length, .keep [0,2,7,11,12,13,30,31,32] [7,11,29]]] _ hn (by kernel_rfl) (aC (qk8 h2) <| aC (qbD h4) <| aC h5 <| aC (by kernel_rfl : [(T.int .u32 (1 : Int))] = (([(1 : Int)] : List Int).map qaC).flatten) <| aC (qaT list qaG) <| aC r0 <| aC (by simp : 1 = ([(1 : Int)] : List Int).length) <| aN) (ih _ _ h cx hn)
theorem hensel_start_c1 {K} (ih : qsA K) {cx} (hn : cx.n = 80) {top lead r29 f p t30 t31 t32} {r} (h : qd9 (K + 1) (.c1 top lead r29 f p t30 t31 t32) = some r) : qr9 cx (.c1 top lead r29 f p t30 t31 t32) r := by
  rw [qd9] at h
  rcases qaK h with ⟨h1, h⟩ | ⟨h1, h⟩
  · skip
    obtain ⟨x2, h3, h⟩ := qaH h
    obtain ⟨x4, h5, h⟩ := qaH h
    obtain ⟨x7, h8, h⟩ := qaH h
    exact qaU (fuel := 106) [.go, rgG [oo], .br true, rgG [opI (.ix (qaG x2)), oo, oo], rgG [oo, oo, opI (.call [[1], [0]] [(tl 1 x2 qaC), (ti .u32 p)] (TV.tup [(false, [(T.sl 1 (x4.1.map qaC))]), (false, [(T.int .i64 x4.2)])])), oo, oo, oo, oo, oo], rgG [oo, oo, opI (.lit (([x4.1] : List (List Int)).map qaG)), opI (.appN (([x4.1] : List (List Int)).map qaG)), oo], rgG [oo, oo, oo, .snap 46 (max 0 (0 + r29.length)) (r29.map qaC), opI (.call [[1], [1], [0]] [(tl 1 r29 qaC), (tl 1 x4.1 qaC), (ti .u32 p)] (tl 1 x7 qaC)), oo], rgG [oo, oo], .pre [.rl 13 0 ([x4.1] : List (List Int)).length, .keep [0,2,7,11,12,13,30,31,32] [7,11,45]]] _ hn (by kernel_rfl) (aC h1 <| aC (qa0 h3) <| aC (qbH qaG h3) <| aC (quN h5) <| aC (by kernel_rfl : [(T.sl 1 (x4.1.map qaC))] = (([x4.1] : List (List Int)).map qaG).flatten) <| aC (qbI _ _ _ (by simp) : ((([x4.1] : List (List Int)).map qaG).drop 0).take 1 = ([x4.1] : List (List Int)).map qaG) <| aC (by simp : 0 < (([x4.1] : List (List Int)).map qaG).length) <| aC (by simp : (([x4.1] : List (List Int)).map qaG).length * 24 ≤ 140737488355328) <| aC (by simp [maxLen] : (([x4.1] : List (List Int)).map qaG).length ≤ maxLen) <| aC (qbI _ _ _ (by simp) : ((r29.map qaC).drop 0).take r29.length = r29.map qaC) <| aC (rfl : (max 0 (0 + r29.length)) = (max 0 (0 + r29.length))) <| aC (qbL h8) <| aC r0 <| aC (by simp : (([x4.1] : List (List Int)).map qaG).length = ([x4.1] : List (List Int)).length) <| aN) (ih _ _ h cx hn)
  · skip
    obtain ⟨x2, h3, h⟩ := qaH h
    obtain ⟨x4, h5, h⟩ := qaH h
    obtain ⟨x6, h7, h⟩ := qaH h
    obtain ⟨x8, h9, h⟩ := qaH h
    rcases qaK h with ⟨h10, h⟩ | ⟨h10, h⟩
    · skip
      have h := Option.some.inj h; subst h
      exact qaN (fuel := 96) [.go, rgG [oo], .br false, .pre [.snap 12 (max 0 (0 + r29.length)) (r29.map qaC)], .draw [.p, .p, (.call [[2], [0]] [(tl 2 f qaA), (ti .u32 p)] (tl 1 x2 qaC)), .p, .p, .p, (.call [[0,1], [0]] [(TV.agg (qaA lead)), (ti .u32 p)] (ti .u32 x4)), .p, (.call [[1], [0], [0]] [(tl 1 r29 qaC), (ti .u32 x4), (ti .u32 p)] (tl 1 x6 qaC)), .p] [opI (.call [[1], [1], [0]] [(tl 1 x2 qaC), (tl 1 x6 qaC), (ti .u32 p)] (TV.c (T.bool x8))), .op .p], .br true, rgG [oo, oo, oo]] _ hn (by kernel_rfl) (aC h1 <| aC (qbI _ _ _ (by simp) : ((r29.map qaC).drop 0).take r29.length = r29.map qaC) <| aC (rfl : (max 0 (0 + r29.length)) = (max 0 (0 + r29.length))) <| aC (qiX h3) <| aC (qbD h5) <| aC (qc3 h7) <| aC (qlJ h9) <| aC h10 <| aN)
    · skip
      obtain ⟨x11, h12, h⟩ := qaH h
      obtain ⟨x13, h14, h⟩ := qaH h
      obtain ⟨x15, h16, h⟩ := qaH h
      have h := Option.some.inj h; subst h
      exact qaN (fuel := 112) [.go, rgG [oo], .br false, .pre [.snap 12 (max 0 (0 + r29.length)) (r29.map qaC)], .draw [.p, .p, (.call [[2], [0]] [(tl 2 f qaA), (ti .u32 p)] (tl 1 x2 qaC)), .p, .p, .p, (.call [[0,1], [0]] [(TV.agg (qaA lead)), (ti .u32 p)] (ti .u32 x4)), .p, (.call [[1], [0], [0]] [(tl 1 r29 qaC), (ti .u32 x4), (ti .u32 p)] (tl 1 x6 qaC)), .p] [opI (.call [[1], [1], [0]] [(tl 1 x2 qaC), (tl 1 x6 qaC), (ti .u32 p)] (TV.c (T.bool x8))), .op .p], .br false, rgG [oo, oo, opI (.call [[0,1], [0,1]] [(TV.agg (qaA lead)), (TV.agg (qaA top))] (TV.tup [(true, qaA x11.1), (true, qaA x11.2.1), (true, qaA x11.2.2)])), oo, oo, oo, oo, oo, oo, oo, oo, oo, oo], .draw [.p, .p, (.call [[2], [0,1]] [(tl 2 f qaA), (TV.agg (qaA x11.2.1))] (tl 2 x13 qaA)), .p, (.call [[2], [0,1]] [(tl 2 x13 qaA), (TV.agg (qaA top))] (TV.tup [(false, [(T.sl 2 (x15.1.map qaA))]), (false, [(T.int .i64 x15.2)])])), .p, .p, .p, .p] [.op .p], rgG [oo, oo, oo, oo, oo]] _ hn (by kernel_rfl) (aC h1 <| aC (qbI _ _ _ (by simp) : ((r29.map qaC).drop 0).take r29.length = r29.map qaC) <| aC (rfl : (max 0 (0 + r29.length)) = (max 0 (0 + r29.length))) <| aC (qiX h3) <| aC (qbD h5) <| aC (qc3 h7) <| aC (qlJ h9) <| aC h10 <| aC (qu6 h12) <| aC (qcK h14) <| aC (qaV h16) <| aN)
theorem hensel_start_c2 {K} (ih : qsA K) {cx} (hn : cx.n = 80) {top lead r45 f p product t30 t31 t32} {r} (h : qd9 (K + 1) (.c2 top lead r45 f p product t30 t31 t32) = some r) : qr9 cx (.c2 top lead r45 f p product t30 t31 t32) r := by
  rw [qd9] at h
  rcases qaK h with ⟨h1, h⟩ | ⟨h1, h⟩
  · skip
    obtain ⟨x2, h3, h⟩ := qaH h
    obtain ⟨x4, h5, h⟩ := qaH h
    obtain ⟨h6, h⟩ := qbE h
    obtain ⟨x7, h8, h⟩ := qaH h
    exact qaU (fuel := 106) [.go, rgG [oo], .br true, rgG [opI (.ix (qaG x2)), oo, oo], rgG [oo, oo, opI (.call [[1], [0]] [(tl 1 x2 qaC), (ti .u32 p)] (TV.tup [(false, [(T.sl 1 (x4.1.map qaC))]), (false, [(T.int .i64 x4.2)])])), oo, oo, oo, oo, oo], .pre [.keep [0,2,7,11,12,13,16,30,31,32] [7,11,45]], rgG [oo, oo, opI (.lit (([x4.1] : List (List Int)).map qaG)), .appR (([x4.1] : List (List Int)).map qaG) ((r45 ++ ([x4.1] : List (List Int))).map qaG), oo], rgG [oo, oo, oo, opI (.call [[1], [1], [0]] [(tl 1 product qaC), (tl 1 x4.1 qaC), (ti .u32 p)] (tl 1 x7 qaC)), oo], rgG [oo, oo], .pre [.rl 13 0 (r45 ++ ([x4.1] : List (List Int))).length, .keep [0,2,7,11,12,13,30,31,32] [7,11,45]]] _ hn (by kernel_rfl) (aC h1 <| aC (qa0 h3) <| aC (qbH qaG h3) <| aC (quN h5) <| aC (by kernel_rfl : [(T.sl 1 (x4.1.map qaC))] = (([x4.1] : List (List Int)).map qaG).flatten) <| aC (by simp : r45.length = (r45.map qaG).length) <| aC (qbI _ _ _ (by simp) : ((([x4.1] : List (List Int)).map qaG).drop 0).take 1 = ([x4.1] : List (List Int)).map qaG) <| aC (qmF _ _ _ : r45.map qaG ++ ([x4.1] : List (List Int)).map qaG = (r45 ++ ([x4.1] : List (List Int))).map qaG) <| aC ((qc4 _ _).symm ▸ h6 : ((r45 ++ ([x4.1] : List (List Int))).map qaG).length * 24 ≤ 140737488355328) <| aC ((qc4 _ _).symm ▸ room (by decide) h6 : ((r45 ++ ([x4.1] : List (List Int))).map qaG).length ≤ maxLen) <| aC (qbL h8) <| aC r0 <| aC (by simp : ((r45 ++ ([x4.1] : List (List Int))).map qaG).length = (r45 ++ ([x4.1] : List (List Int))).length) <| aN) (ih _ _ h cx hn)
  · skip
    obtain ⟨x2, h3, h⟩ := qaH h
    obtain ⟨x4, h5, h⟩ := qaH h
    obtain ⟨x6, h7, h⟩ := qaH h
    obtain ⟨x8, h9, h⟩ := qaH h
    rcases qaK h with ⟨h10, h⟩ | ⟨h10, h⟩
    · skip
      have h := Option.some.inj h; subst h
      exact qaN (fuel := 96) [.go, rgG [oo], .br false, .draw [.p, .p, (.call [[2], [0]] [(tl 2 f qaA), (ti .u32 p)] (tl 1 x2 qaC)), .p, .p, .p, (.call [[0,1], [0]] [(TV.agg (qaA lead)), (ti .u32 p)] (ti .u32 x4)), .p, (.call [[1], [0], [0]] [(tl 1 product qaC), (ti .u32 x4), (ti .u32 p)] (tl 1 x6 qaC)), .p] [opI (.call [[1], [1], [0]] [(tl 1 x2 qaC), (tl 1 x6 qaC), (ti .u32 p)] (TV.c (T.bool x8))), .op .p], .br true, rgG [oo, oo, oo]] _ hn (by kernel_rfl) (aC h1 <| aC (qiX h3) <| aC (qbD h5) <| aC (qc3 h7) <| aC (qlJ h9) <| aC h10 <| aN)
    · skip
      obtain ⟨x11, h12, h⟩ := qaH h
      obtain ⟨x13, h14, h⟩ := qaH h
      obtain ⟨x15, h16, h⟩ := qaH h
      have h := Option.some.inj h; subst h
      exact qaN (fuel := 112) [.go, rgG [oo], .br false, .draw [.p, .p, (.call [[2], [0]] [(tl 2 f qaA), (ti .u32 p)] (tl 1 x2 qaC)), .p, .p, .p, (.call [[0,1], [0]] [(TV.agg (qaA lead)), (ti .u32 p)] (ti .u32 x4)), .p, (.call [[1], [0], [0]] [(tl 1 product qaC), (ti .u32 x4), (ti .u32 p)] (tl 1 x6 qaC)), .p] [opI (.call [[1], [1], [0]] [(tl 1 x2 qaC), (tl 1 x6 qaC), (ti .u32 p)] (TV.c (T.bool x8))), .op .p], .br false, rgG [oo, oo, opI (.call [[0,1], [0,1]] [(TV.agg (qaA lead)), (TV.agg (qaA top))] (TV.tup [(true, qaA x11.1), (true, qaA x11.2.1), (true, qaA x11.2.2)])), oo, oo, oo, oo, oo, oo, oo, oo, oo, oo], .draw [.p, .p, (.call [[2], [0,1]] [(tl 2 f qaA), (TV.agg (qaA x11.2.1))] (tl 2 x13 qaA)), .p, (.call [[2], [0,1]] [(tl 2 x13 qaA), (TV.agg (qaA top))] (TV.tup [(false, [(T.sl 2 (x15.1.map qaA))]), (false, [(T.int .i64 x15.2)])])), .p, .p, .p, .p] [.op .p], rgG [oo, oo, oo, oo, oo, .snap 9 (max 0 (0 + r45.length)) (r45.map qaG)]] _ hn (by kernel_rfl) (aC h1 <| aC (qiX h3) <| aC (qbD h5) <| aC (qc3 h7) <| aC (qlJ h9) <| aC h10 <| aC (qu6 h12) <| aC (qcK h14) <| aC (qaV h16) <| aC (qbI _ _ _ (by simp) : ((r45.map qaG).drop 0).take r45.length = r45.map qaG) <| aC (rfl : (max 0 (0 + r45.length)) = (max 0 (0 + r45.length))) <| aN)
theorem qoC : ∀ K : Nat, qsA K
  | 0, c, r, h => by rw [qd9] at h; cases h
  | K + 1, .c0 .., r, h => fun cx hn => hensel_start_c0 (qoC K) hn h
  | K + 1, .c1 .., r, h => fun cx hn => hensel_start_c1 (qoC K) hn h
  | K + 1, .c2 .., r, h => fun cx hn => hensel_start_c2 (qoC K) hn h
theorem qvU {K : Nat} {f : (List qaB)} {list : (List (List Int))} {p : Int} {top : qaB} {r : ((List qaB) × (List (List Int)) × Int)} (h : hensel_start K f list p top = some r) : qcX prog 114 [(tl 2 f qaA), (tl 1 list qaG), (ti .u32 p), (TV.agg (qaA top))] (TV.tup [(false, [(T.sl 2 (r.1.map qaA))]), (false, [(T.sl 1 (r.2.1.map qaG))]), (false, [(T.int .i64 r.2.2)])]) :=
  qa2 [[2], [1], [0]] (by kernel_rfl) (by simp) fun cx hn => qoC K (.c0 f list p top) r h cx hn
end Go.Am.X
namespace Go.Am.X
open Go.Proofs.Try (prog)
inductive qiE where
  | c0 (a : Int) (m : Int)
def qg8 : Nat → qiE → Option Int
  | 0, _ => none
  | K + 1, .c0 a m =>
    (qo5 K m).bind fun x1 =>
    gd ((wI6 x1) ≠ 0) <|
    bif (decide ((wI6 x1) < (wI6 ((2 : Int) * (Int.tmod (wI6 a) (wI6 x1)))))) then
      some (wI6 ((Int.tmod (wI6 a) (wI6 x1)) - (wI6 x1)))
    else
      some (Int.tmod (wI6 a) (wI6 x1))
def modular_Symmetric (K : Nat) (a : Int) (m : Int) : Option Int := qg8 K (.c0 a m)
noncomputable def modular_Symmetric_body : Code := qbN prog 160
noncomputable def modular_Symmetric_pos : qiE → List Fr
  | .c0 .. => [.code modular_Symmetric_body]
def modular_Symmetric_st : qiE → St
  | .c0 a m => St.init [(ti .u32 a), (ti .u32 m)]
def quF (cx : Cx) (c : qiE) (r : Int) : Prop := Wk prog cx (qcT prog 160 [[0]] (ti .i64 r)) (modular_Symmetric_pos c) .normal (modular_Symmetric_st c)
abbrev quG (K : Nat) : Prop := ∀ c r, qg8 K c = some r → ∀ cx : Cx, cx.n = 22 → quF cx c r
theorem modular_Symmetric_c0 {K} (_ : quG K) {cx} (hn : cx.n = 22) {a m} {r} (h : qg8 (K + 1) (.c0 a m) = some r) : quF cx (.c0 a m) r := by
  rw [qg8] at h
  obtain ⟨x1, h2, h⟩ := qaH h
  obtain ⟨h3, h⟩ := qbE h
  rcases qaK h with ⟨h4, h⟩ | ⟨h4, h⟩
  · skip
    have h := Option.some.inj h; subst h
    exact qaN (fuel := 92) [rgG [oo], rgG [oo, opI (.call [[0]] [(ti .u32 m)] (ti .u64 x1)), oo, oo], rgG [oo, oo, oo, .op .dv, oo], rgG [oo, oo, oo, oo], .br true, rgG [oo, oo, oo, oo], rgG [oo, oo]] _ hn (by kernel_rfl) (aC (qgW h2) <| aC h3 <| aC h4 <| aN)
  · skip
    have h := Option.some.inj h; subst h
    exact qaN (fuel := 88) [rgG [oo], rgG [oo, opI (.call [[0]] [(ti .u32 m)] (ti .u64 x1)), oo, oo], rgG [oo, oo, oo, .op .dv, oo], rgG [oo, oo, oo, oo], .br false, rgG [oo, oo]] _ hn (by kernel_rfl) (aC (qgW h2) <| aC h3 <| aC h4 <| aN)
theorem qsH : ∀ K : Nat, quG K
  | 0, c, r, h => by rw [qg8] at h; cases h
  | K + 1, .c0 .., r, h => fun cx hn => modular_Symmetric_c0 (qsH K) hn h
theorem modular_Symmetric_holds {K : Nat} {a : Int} {m : Int} {r : Int} (h : modular_Symmetric K a m = some r) : qcX prog 160 [(ti .u32 a), (ti .u32 m)] (ti .i64 r) :=
  qa2 [[0]] (by kernel_rfl) (by simp) fun cx hn => qsH K (.c0 a m) r h cx hn
end Go.Am.X
namespace Go.Am.X
open Go.Proofs.Try (prog)
inductive qiG where
  | c0 (f : (List Int)) (m : Int)
  | c1 (r10 : (List qaB)) (m : Int) (t11 : (List Int)) (t12 : Int) (t13 : Int)
def qdV : Nat → qiG → Option (List qaB)
  | 0, _ => none
  | K + 1, .c0 f m =>
    gd (0 ≤ (f.length : Int) ∧ (f.length : Int) ≤ (f.length : Int) ∧ (32 : Int) * (f.length : Int) ≤ 140737488355328) <|
    qdV K (.c1 (List.replicate (f.length : Int).toNat ((qaB.mk false []) : qaB)) m f (f.length : Int) (0 : Int))
  | K + 1, .c1 r10 m t11 t12 t13 =>
    bif (decide (t13 < t12)) then
      (gi t11 t13).bind fun x2 =>
      (modular_Symmetric K x2 m).bind fun x4 =>
      (qh9 K x4).bind fun x6 =>
      (gi r10 t13).bind fun _ =>
      qdV K (.c1 (r10.set (t13.toNat) x6) m t11 t12 (wI6 (t13 + (1 : Int))))
    else
      (qnE K r10).bind fun x2 =>
      some x2
def qcR (K : Nat) (f : (List Int)) (m : Int) : Option (List qaB) := qdV K (.c0 f m)
noncomputable def qk5 : Code := qbN prog 116
noncomputable def modpoly_Symmetric_pos : qiG → List Fr
  | .c0 .. => [.code qk5]
  | .c1 .. => [.code (.loop (atC qk5 [1,1,0,1,0,0])), .blk 0, .code (atC qk5 [1,1,1])]
def modpoly_Symmetric_st : qiG → St
  | .c0 f m => St.init [(tl 1 f qaC), (ti .u32 m)]
  | .c1 r10 m t11 t12 t13 => ⟨[(1, vi .u32 m), (5, .c (C.row 10 0 r10.length)), (11, vl 1 t11 qaC), (12, vi .i64 t12), (13, vi .i64 t13)], [(10, .row 45 2 (r10.map qaA) 0)], []⟩
def qoV (cx : Cx) (c : qiG) (r : (List qaB)) : Prop := Wk prog cx (qcT prog 116 [[2]] (tl 2 r qaA)) (modpoly_Symmetric_pos c) .normal (modpoly_Symmetric_st c)
abbrev qoW (K : Nat) : Prop := ∀ c r, qdV K c = some r → ∀ cx : Cx, cx.n = 28 → qoV cx c r
theorem modpoly_Symmetric_c0 {K} (ih : qoW K) {cx} (hn : cx.n = 28) {f m} {r} (h : qdV (K + 1) (.c0 f m) = some r) : qoV cx (.c0 f m) r := by
  rw [qdV] at h
  obtain ⟨h1, h⟩ := qbE h
  exact qaU (fuel := 64) [rgG [oo], rgG [oo, opI (.ln (f.length : Int)), opI (.mk (qaA (qaB.mk false [])) ((List.replicate (f.length : Int).toNat ((qaB.mk false []) : qaB)).map qaA)), oo], rgG [oo, opI (.ln (f.length : Int)), oo], .pre [.rl 5 0 (List.replicate (f.length : Int).toNat ((qaB.mk false []) : qaB)).length, .keep [1,5,11,12,13] [10]]] _ hn (by kernel_rfl) (aC (qaT f qaC) <| aC h1.1 <| aC h1.2.1 <| aC h1.2.2 <| aC (qf1 _ _ _ : List.replicate (f.length : Int).toNat (qaA (qaB.mk false [])) = (List.replicate (f.length : Int).toNat ((qaB.mk false []) : qaB)).map qaA) <| aC (qaT f qaC) <| aC r0 <| aC (by simp : (f.length : Int).toNat = (List.replicate (f.length : Int).toNat ((qaB.mk false []) : qaB)).length) <| aN) (ih _ _ h cx hn)
theorem modpoly_Symmetric_c1 {K} (ih : qoW K) {cx} (hn : cx.n = 28) {r10 m t11 t12 t13} {r} (h : qdV (K + 1) (.c1 r10 m t11 t12 t13) = some r) : qoV cx (.c1 r10 m t11 t12 t13) r := by
  rw [qdV] at h
  rcases qaK h with ⟨h1, h⟩ | ⟨h1, h⟩
  · skip
    obtain ⟨x2, h3, h⟩ := qaH h
    obtain ⟨x4, h5, h⟩ := qaH h
    obtain ⟨x6, h7, h⟩ := qaH h
    obtain ⟨x8, h9, h⟩ := qaH h
    exact qaU (fuel := 90) [.go, rgG [oo], .br true, rgG [oo, opI (.ix (qaC x2)), oo, oo, oo], rgG [oo, oo, oo, oo, opI (.call [[0], [0]] [(ti .u32 x2), (ti .u32 m)] (ti .i64 x4)), opI (.call [[0]] [(ti .i64 x4)] (TV.agg (qaA x6))), .op .ir, opI (.st (qaA x8) ((r10.set (t13.toNat) x6).map qaA))], rgG [oo, oo], .pre [.rl 5 0 (r10.set (t13.toNat) x6).length, .keep [1,5,11,12,13] [10]]] _ hn (by kernel_rfl) (aC h1 <| aC (qa0 h3) <| aC (qbH qaC h3) <| aC (modular_Symmetric_holds h5) <| aC (qfH h7) <| aC (qa0 h9) <| aC (qcH h9 (by simp) : t13 < ((r10.length : Nat) : Int)) <| aC (qcG qaA h9 : (r10.map qaA)[(0 + t13.toNat)]? = some (qaA x8)) <| aC (qc7 _ _ x6 _ : (r10.map qaA).set (0 + t13.toNat) (qbY (qaA x8) 0 [(T.bool x6.Neg), (T.sl 1 (x6.Abs.map qaC))]) = (r10.set (t13.toNat) x6).map qaA) <| aC (Nat.zero_le _ : 0 ≤ (0 + t13.toNat)) <| aC r0 <| aC (by simp : r10.length = (r10.set (t13.toNat) x6).length) <| aN) (ih _ _ h cx hn)
  · skip
    obtain ⟨x2, h3, h⟩ := qaH h
    have h := Option.some.inj h; subst h
    exact qaN (fuel := 78) [.go, rgG [oo], .br false, rgG [oo, .snap 26 (max 0 (0 + r10.length)) (r10.map qaA), opI (.call [[2]] [(tl 2 r10 qaA)] (tl 2 x2 qaA)), oo]] _ hn (by kernel_rfl) (aC h1 <| aC (qbI _ _ _ (by simp) : ((r10.map qaA).drop 0).take r10.length = r10.map qaA) <| aC (rfl : (max 0 (0 + r10.length)) = (max 0 (0 + r10.length))) <| aC (qtE h3) <| aN)
theorem ql5 : ∀ K : Nat, qoW K
  | 0, c, r, h => by rw [qdV] at h; cases h
  | K + 1, .c0 .., r, h => fun cx hn => modpoly_Symmetric_c0 (ql5 K) hn h
  | K + 1, .c1 .., r, h => fun cx hn => modpoly_Symmetric_c1 (ql5 K) hn h
theorem qbS {K : Nat} {f : (List Int)} {m : Int} {r : (List qaB)} (h : qcR K f m = some r) : qcX prog 116 [(tl 1 f qaC), (ti .u32 m)] (tl 2 r qaA) :=
  qa2 [[2]] (by kernel_rfl) (by simp) fun cx hn => ql5 K (.c0 f m) r h cx hn
end Go.Am.X
namespace Go.Am.X
open Go.Proofs.Try (prog)
inductive qqO where
  | c0 (f : (List qaB)) (list : (List (List Int))) (p : Int) (k : Int)
  | c1 (base : qaB) (top : qaB) (f : (List qaB)) (list : (List (List Int))) (p : Int) (k : Int) (t63 : Int) (t64 : Int)
  | c2 (base : qaB) (top : qaB) (p : Int) (k : Int) (goal : (List qaB)) (monic : (List (List Int))) (parts : (List (List Int))) (t85 : (List (List Int))) (t86 : Int) (t87 : Int)
  | c3 (base : qaB) (top : qaB) (r97 : (List (List qaB))) (p : Int) (k : Int) (goal : (List qaB)) (monic : (List (List Int))) (parts : (List (List Int))) (t85 : (List (List Int))) (t86 : Int) (t87 : Int)
  | c4 (base : qaB) (top : qaB) (power : qaB) (p : Int) (k : Int) (goal : (List qaB)) (monic : (List (List Int))) (parts : (List (List Int))) (step : Int)
  | c5 (base : qaB) (top : qaB) (pair : (List (List qaB))) (power : qaB) (p : Int) (k : Int) (goal : (List qaB)) (monic : (List (List Int))) (parts : (List (List Int))) (step : Int)
  | c6 (base : qaB) (top : qaB) (power : qaB) (p : Int) (k : Int) (goal : (List qaB)) (monic : (List (List Int))) (parts : (List (List Int))) (step : Int) (t131 : (List qaB)) (t132 : Int) (t133 : Int)
  | c7 (base : qaB) (top : qaB) (pair : (List (List qaB))) (power : qaB) (p : Int) (k : Int) (goal : (List qaB)) (monic : (List (List Int))) (parts : (List (List Int))) (step : Int) (now : (List (List qaB))) (t131 : (List qaB)) (t132 : Int) (t133 : Int)
  | c8 (base : qaB) (top : qaB) (pair : (List (List qaB))) (power : qaB) (p : Int) (k : Int) (goal : (List qaB)) (monic : (List (List Int))) (parts : (List (List Int))) (step : Int) (t131 : (List qaB)) (t132 : Int) (t133 : Int)
  | c9 (base : qaB) (top : qaB) (power : qaB) (r148 : (List Int)) (p : Int) (k : Int) (goal : (List qaB)) (monic : (List (List Int))) (parts : (List (List Int))) (step : Int) (t131 : (List qaB)) (t132 : Int) (t133 : Int)
  | c10 (base : qaB) (top : qaB) (power : qaB) (next : qaB) (p : Int) (k : Int) (goal : (List qaB)) (monic : (List (List Int))) (parts : (List (List Int))) (step : Int) (t154 : Int) (t155 : Int)
  | c11 (base : qaB) (top : qaB) (pair : (List (List qaB))) (power : qaB) (r148 : (List Int)) (p : Int) (k : Int) (goal : (List qaB)) (monic : (List (List Int))) (parts : (List (List Int))) (step : Int) (now : (List (List qaB))) (t131 : (List qaB)) (t132 : Int) (t133 : Int)
  | c12 (base : qaB) (top : qaB) (pair : (List (List qaB))) (power : qaB) (next : qaB) (p : Int) (k : Int) (goal : (List qaB)) (monic : (List (List Int))) (parts : (List (List Int))) (step : Int) (t153 : (List (List qaB))) (t154 : Int) (t155 : Int)
  | c13 (base : qaB) (top : qaB) (pair : (List (List qaB))) (power : qaB) (r148 : (List Int)) (p : Int) (k : Int) (goal : (List qaB)) (monic : (List (List Int))) (parts : (List (List Int))) (step : Int) (t131 : (List qaB)) (t132 : Int) (t133 : Int)
  | c14 (base : qaB) (top : qaB) (pair : (List (List qaB))) (power : qaB) (next : qaB) (p : Int) (k : Int) (goal : (List qaB)) (monic : (List (List Int))) (parts : (List (List Int))) (step : Int) (t154 : Int) (t155 : Int)
  | c15 (base : qaB) (top : qaB) (power : qaB) (next : qaB) (r148 : (List Int)) (p : Int) (k : Int) (goal : (List qaB)) (monic : (List (List Int))) (parts : (List (List Int))) (step : Int) (t154 : Int) (t155 : Int)
  | c16 (base : qaB) (top : qaB) (power : qaB) (p : Int) (k : Int) (goal : (List qaB)) (monic : (List (List Int))) (parts : (List (List Int))) (step : Int)
  | c17 (base : qaB) (top : qaB) (pair : (List (List qaB))) (power : qaB) (next : qaB) (r148 : (List Int)) (p : Int) (k : Int) (goal : (List qaB)) (monic : (List (List Int))) (parts : (List (List Int))) (step : Int) (t153 : (List (List qaB))) (t154 : Int) (t155 : Int)
  | c18 (base : qaB) (top : qaB) (pair : (List (List qaB))) (power : qaB) (next : qaB) (r193 : (List (List qaB))) (p : Int) (k : Int) (goal : (List qaB)) (monic : (List (List Int))) (parts : (List (List Int))) (step : Int) (t153 : (List (List qaB))) (t154 : Int) (t155 : Int)
  | c19 (base : qaB) (top : qaB) (pair : (List (List qaB))) (power : qaB) (p : Int) (k : Int) (goal : (List qaB)) (monic : (List (List Int))) (parts : (List (List Int))) (step : Int)
  | c20 (base : qaB) (top : qaB) (pair : (List (List qaB))) (power : qaB) (next : qaB) (r148 : (List Int)) (p : Int) (k : Int) (goal : (List qaB)) (monic : (List (List Int))) (parts : (List (List Int))) (step : Int) (t154 : Int) (t155 : Int)
  | c21 (base : qaB) (top : qaB) (pair : (List (List qaB))) (power : qaB) (next : qaB) (r193 : (List (List qaB))) (p : Int) (k : Int) (goal : (List qaB)) (monic : (List (List Int))) (parts : (List (List Int))) (step : Int) (change : (List Int)) (t153 : (List (List qaB))) (t154 : Int) (t155 : Int)
  | c22 (base : qaB) (top : qaB) (power : qaB) (r193 : (List (List qaB))) (p : Int) (k : Int) (goal : (List qaB)) (monic : (List (List Int))) (parts : (List (List Int))) (step : Int)
  | c23 (base : qaB) (top : qaB) (pair : (List (List qaB))) (power : qaB) (r193 : (List (List qaB))) (p : Int) (k : Int) (goal : (List qaB)) (monic : (List (List Int))) (parts : (List (List Int))) (step : Int)
  | c24 (base : qaB) (top : qaB) (pair : qeW) (power : qaB) (p : Int) (k : Int) (goal : (List qaB)) (monic : (List (List Int))) (parts : (List (List Int))) (step : Int)
  | c25 (base : qaB) (top : qaB) (pair : qeW) (power : qaB) (p : Int) (k : Int) (goal : (List qaB)) (monic : (List (List Int))) (parts : (List (List Int))) (step : Int) (now : (List (List qaB))) (t131 : (List qaB)) (t132 : Int) (t133 : Int)
  | c26 (base : qaB) (top : qaB) (pair : qeW) (power : qaB) (r148 : (List Int)) (p : Int) (k : Int) (goal : (List qaB)) (monic : (List (List Int))) (parts : (List (List Int))) (step : Int) (now : (List (List qaB))) (t131 : (List qaB)) (t132 : Int) (t133 : Int)
  | c27 (base : qaB) (top : qaB) (pair : qeW) (power : qaB) (next : qaB) (p : Int) (k : Int) (goal : (List qaB)) (monic : (List (List Int))) (parts : (List (List Int))) (step : Int) (t153 : (List (List qaB))) (t154 : Int) (t155 : Int)
  | c28 (base : qaB) (top : qaB) (pair : qeW) (power : qaB) (next : qaB) (r148 : (List Int)) (p : Int) (k : Int) (goal : (List qaB)) (monic : (List (List Int))) (parts : (List (List Int))) (step : Int) (t153 : (List (List qaB))) (t154 : Int) (t155 : Int)
  | c29 (base : qaB) (top : qaB) (pair : qeW) (power : qaB) (next : qaB) (r193 : (List (List qaB))) (p : Int) (k : Int) (goal : (List qaB)) (monic : (List (List Int))) (parts : (List (List Int))) (step : Int) (t153 : (List (List qaB))) (t154 : Int) (t155 : Int)
  | c30 (base : qaB) (top : qaB) (pair : (List (List qaB))) (power : qaB) (p : Int) (k : Int) (goal : (List qaB)) (monic : (List (List Int))) (parts : (List (List Int))) (step : Int)
  | c31 (base : qaB) (top : qaB) (pair : qeW) (power : qaB) (next : qaB) (r193 : (List (List qaB))) (p : Int) (k : Int) (goal : (List qaB)) (monic : (List (List Int))) (parts : (List (List Int))) (step : Int) (change : (List Int)) (t153 : (List (List qaB))) (t154 : Int) (t155 : Int)
  | c32 (base : qaB) (top : qaB) (pair : (List (List qaB))) (power : qaB) (r193 : (List (List qaB))) (p : Int) (k : Int) (goal : (List qaB)) (monic : (List (List Int))) (parts : (List (List Int))) (step : Int)
  | c33 (base : qaB) (top : qaB) (pair : (List (List qaB))) (power : qaB) (p : Int) (k : Int) (goal : (List qaB)) (monic : (List (List Int))) (parts : (List (List Int))) (step : Int)
  | c34 (base : qaB) (top : qaB) (pair : (List (List qaB))) (power : qaB) (p : Int) (k : Int) (goal : (List qaB)) (monic : (List (List Int))) (parts : (List (List Int))) (step : Int) (t131 : (List qaB)) (t132 : Int) (t133 : Int)
  | c35 (base : qaB) (top : qaB) (pair : (List (List qaB))) (power : qaB) (p : Int) (k : Int) (goal : (List qaB)) (monic : (List (List Int))) (parts : (List (List Int))) (step : Int) (now : (List (List qaB))) (t131 : (List qaB)) (t132 : Int) (t133 : Int)
  | c36 (base : qaB) (top : qaB) (pair : (List (List qaB))) (power : qaB) (r148 : (List Int)) (p : Int) (k : Int) (goal : (List qaB)) (monic : (List (List Int))) (parts : (List (List Int))) (step : Int) (t131 : (List qaB)) (t132 : Int) (t133 : Int)
  | c37 (base : qaB) (top : qaB) (pair : (List (List qaB))) (power : qaB) (next : qaB) (p : Int) (k : Int) (goal : (List qaB)) (monic : (List (List Int))) (parts : (List (List Int))) (step : Int) (t154 : Int) (t155 : Int)
  | c38 (base : qaB) (top : qaB) (pair : (List (List qaB))) (power : qaB) (r148 : (List Int)) (p : Int) (k : Int) (goal : (List qaB)) (monic : (List (List Int))) (parts : (List (List Int))) (step : Int) (now : (List (List qaB))) (t131 : (List qaB)) (t132 : Int) (t133 : Int)
  | c39 (base : qaB) (top : qaB) (pair : (List (List qaB))) (power : qaB) (next : qaB) (p : Int) (k : Int) (goal : (List qaB)) (monic : (List (List Int))) (parts : (List (List Int))) (step : Int) (t153 : (List (List qaB))) (t154 : Int) (t155 : Int)
  | c40 (base : qaB) (top : qaB) (pair : (List (List qaB))) (power : qaB) (next : qaB) (r148 : (List Int)) (p : Int) (k : Int) (goal : (List qaB)) (monic : (List (List Int))) (parts : (List (List Int))) (step : Int) (t154 : Int) (t155 : Int)
  | c41 (base : qaB) (top : qaB) (pair : (List (List qaB))) (power : qaB) (next : qaB) (r148 : (List Int)) (p : Int) (k : Int) (goal : (List qaB)) (monic : (List (List Int))) (parts : (List (List Int))) (step : Int) (t153 : (List (List qaB))) (t154 : Int) (t155 : Int)
  | c42 (base : qaB) (top : qaB) (pair : (List (List qaB))) (power : qaB) (next : qaB) (r193 : (List (List qaB))) (p : Int) (k : Int) (goal : (List qaB)) (monic : (List (List Int))) (parts : (List (List Int))) (step : Int) (t153 : (List (List qaB))) (t154 : Int) (t155 : Int)
  | c43 (base : qaB) (top : qaB) (pair : (List (List qaB))) (power : qaB) (next : qaB) (r193 : (List (List qaB))) (p : Int) (k : Int) (goal : (List qaB)) (monic : (List (List Int))) (parts : (List (List Int))) (step : Int) (change : (List Int)) (t153 : (List (List qaB))) (t154 : Int) (t155 : Int)
  | c44 (base : qaB) (top : qaB) (power : qaB) (r193 : (List (List qaB))) (p : Int) (k : Int) (goal : (List qaB)) (monic : (List (List Int))) (parts : (List (List Int))) (step : Int)
def qaF : Nat → qqO → Option ((List (List qaB)) × Int)
  | 0, _ => none
  | K + 1, .c0 f list p k =>
    (qjA K p).bind fun x1 =>
    bif (!x1) then
      some ([], (1 : Int))
    else
      bif (decide (k < (1 : Int))) then
        some ([], (1 : Int))
      else
        (hensel_check K list p).bind fun x5 =>
        bif (!decide (x5 = (0 : Int))) then
          some ([], x5)
        else
          (qsD K f).bind fun x8 =>
          (qc2 K x8 p).bind fun x10 =>
          bif (decide (x10 = (0 : Int))) then
            some ([], (3 : Int))
          else
            (qh9 K (wI6 p)).bind fun x13 =>
            qaF K (.c1 x13 x13 f list p k (wI6 (k - (1 : Int))) (0 : Int))
  | K + 1, .c1 base top f list p k t63 t64 =>
    bif (decide (t64 < t63)) then
      (qdI K top base).bind fun x2 =>
      qaF K (.c1 base x2 f list p k t63 (wI6 (t64 + (1 : Int))))
    else
      (hensel_start K f list p top).bind fun x2 =>
      bif (!decide (x2.2.2 = (0 : Int))) then
        some ([], x2.2.2)
      else
        (hensel_cofactors K x2.2.1 p).bind fun x5 =>
        qaF K (.c2 base top p k x2.1 x2.2.1 x5 x2.2.1 (x2.2.1.length : Int) (0 : Int))
  | K + 1, .c2 base top p k goal monic parts t85 t86 t87 =>
    bif (decide (t87 < t86)) then
      (gi t85 t87).bind fun x2 =>
      (qcR K x2 p).bind fun x4 =>
      qaF K (.c3 base top ([x4] : List (List qaB)) p k goal monic parts t85 t86 (wI6 (t87 + (1 : Int))))
    else
      qaF K (.c4 base top base p k goal monic parts (1 : Int))
  | K + 1, .c3 base top r97 p k goal monic parts t85 t86 t87 =>
    bif (decide (t87 < t86)) then
      (gi t85 t87).bind fun x2 =>
      (qcR K x2 p).bind fun x4 =>
      gd ((r97 ++ ([x4] : List (List qaB))).length * 24 ≤ 140737488355328) <|
      qaF K (.c3 base top (r97 ++ ([x4] : List (List qaB))) p k goal monic parts t85 t86 (wI6 (t87 + (1 : Int))))
    else
      qaF K (.c5 base top r97 base p k goal monic parts (1 : Int))
  | K + 1, .c4 base top power p k goal monic parts step =>
    bif (decide (step = k)) then
      bif (decide ((monic.length : Int) = (0 : Int))) then
        some ([], (0 : Int))
      else
        bif (decide ((Int.tmod (wI6 (k - (1 : Int))) (2 : Int)) = 0)) then
          some ([], (0 : Int))
        else
          bif (decide ((Int.tmod (wI6 (k - (1 : Int))) (2 : Int)) = 1)) then
            some ([], (0 : Int))
          else
            none
    else
      bif (decide ((monic.length : Int) = (0 : Int))) then
        bif (decide ((monic.length : Int) = (0 : Int))) then
          some ([], (0 : Int))
        else
          bif (decide ((Int.tmod (wI6 (k - (1 : Int))) (2 : Int)) = 0)) then
            some ([], (0 : Int))
          else
            bif (decide ((Int.tmod (wI6 (k - (1 : Int))) (2 : Int)) = 1)) then
              some ([], (0 : Int))
            else
              none
      else
        bif (decide ((Int.tmod (wI6 (step - (1 : Int))) (2 : Int)) = 0)) then
          (qdS K [] top).bind fun x4 =>
          (qg3 K goal x4.1).bind fun x6 =>
          (qbO K x6 top).bind fun x8 =>
          qaF K (.c6 base top power p k goal monic parts step x8.1 (x8.1.length : Int) (0 : Int))
        else
          bif (decide ((Int.tmod (wI6 (step - (1 : Int))) (2 : Int)) = 1)) then
            (qdS K [] top).bind fun x5 =>
            (qg3 K goal x5.1).bind fun x7 =>
            (qbO K x7 top).bind fun x9 =>
            qaF K (.c6 base top power p k goal monic parts step x9.1 (x9.1.length : Int) (0 : Int))
          else
            none
  | K + 1, .c5 base top pair power p k goal monic parts step =>
    bif (decide (step = k)) then
      bif (decide ((monic.length : Int) = (0 : Int))) then
        some ([], (0 : Int))
      else
        bif (decide ((Int.tmod (wI6 (k - (1 : Int))) (2 : Int)) = 0)) then
          some (pair, (0 : Int))
        else
          bif (decide ((Int.tmod (wI6 (k - (1 : Int))) (2 : Int)) = 1)) then
            some ([], (0 : Int))
          else
            none
    else
      bif (decide ((monic.length : Int) = (0 : Int))) then
        bif (decide ((monic.length : Int) = (0 : Int))) then
          some ([], (0 : Int))
        else
          bif (decide ((Int.tmod (wI6 (k - (1 : Int))) (2 : Int)) = 0)) then
            some (pair, (0 : Int))
          else
            bif (decide ((Int.tmod (wI6 (k - (1 : Int))) (2 : Int)) = 1)) then
              some ([], (0 : Int))
            else
              none
      else
        bif (decide ((Int.tmod (wI6 (step - (1 : Int))) (2 : Int)) = 0)) then
          (qdS K pair top).bind fun x4 =>
          (qg3 K goal x4.1).bind fun x6 =>
          (qbO K x6 top).bind fun x8 =>
          qaF K (.c7 base top pair power p k goal monic parts step pair x8.1 (x8.1.length : Int) (0 : Int))
        else
          bif (decide ((Int.tmod (wI6 (step - (1 : Int))) (2 : Int)) = 1)) then
            (qdS K [] top).bind fun x5 =>
            (qg3 K goal x5.1).bind fun x7 =>
            (qbO K x7 top).bind fun x9 =>
            qaF K (.c8 base top pair power p k goal monic parts step x9.1 (x9.1.length : Int) (0 : Int))
          else
            none
  | K + 1, .c6 base top power p k goal monic parts step t131 t132 t133 =>
    bif (decide (t133 < t132)) then
      (gi t131 t133).bind fun x2 =>
      (qcW K x2 power).bind fun x4 =>
      (qc2 K x4.1 p).bind fun x6 =>
      qaF K (.c9 base top power ([x6] : List Int) p k goal monic parts step t131 t132 (wI6 (t133 + (1 : Int))))
    else
      (qdI K power base).bind fun x2 =>
      qaF K (.c10 base top power x2 p k goal monic parts step (0 : Int) (0 : Int))
  | K + 1, .c7 base top pair power p k goal monic parts step now t131 t132 t133 =>
    bif (decide (t133 < t132)) then
      (gi t131 t133).bind fun x2 =>
      (qcW K x2 power).bind fun x4 =>
      (qc2 K x4.1 p).bind fun x6 =>
      qaF K (.c11 base top pair power ([x6] : List Int) p k goal monic parts step now t131 t132 (wI6 (t133 + (1 : Int))))
    else
      (qdI K power base).bind fun x2 =>
      qaF K (.c12 base top pair power x2 p k goal monic parts step now (now.length : Int) (0 : Int))
  | K + 1, .c8 base top pair power p k goal monic parts step t131 t132 t133 =>
    bif (decide (t133 < t132)) then
      (gi t131 t133).bind fun x2 =>
      (qcW K x2 power).bind fun x4 =>
      (qc2 K x4.1 p).bind fun x6 =>
      qaF K (.c13 base top pair power ([x6] : List Int) p k goal monic parts step t131 t132 (wI6 (t133 + (1 : Int))))
    else
      (qdI K power base).bind fun x2 =>
      qaF K (.c14 base top pair power x2 p k goal monic parts step (0 : Int) (0 : Int))
  | K + 1, .c9 base top power r148 p k goal monic parts step t131 t132 t133 =>
    bif (decide (t133 < t132)) then
      (gi t131 t133).bind fun x2 =>
      (qcW K x2 power).bind fun x4 =>
      (qc2 K x4.1 p).bind fun x6 =>
      gd ((r148 ++ ([x6] : List Int)).length * 4 ≤ 140737488355328) <|
      qaF K (.c9 base top power (r148 ++ ([x6] : List Int)) p k goal monic parts step t131 t132 (wI6 (t133 + (1 : Int))))
    else
      (qdI K power base).bind fun x2 =>
      qaF K (.c15 base top power x2 r148 p k goal monic parts step (0 : Int) (0 : Int))
  | K + 1, .c10 base top _ next p k goal monic parts step t154 t155 =>
    bif (decide (t155 < t154)) then
      none
    else
      bif (decide ((Int.tmod step (2 : Int)) = 0)) then
        qaF K (.c16 base top next p k goal monic parts step)
      else
        bif (decide ((Int.tmod step (2 : Int)) = 1)) then
          qaF K (.c16 base top next p k goal monic parts step)
        else
          none
  | K + 1, .c11 base top pair power r148 p k goal monic parts step now t131 t132 t133 =>
    bif (decide (t133 < t132)) then
      (gi t131 t133).bind fun x2 =>
      (qcW K x2 power).bind fun x4 =>
      (qc2 K x4.1 p).bind fun x6 =>
      gd ((r148 ++ ([x6] : List Int)).length * 4 ≤ 140737488355328) <|
      qaF K (.c11 base top pair power (r148 ++ ([x6] : List Int)) p k goal monic parts step now t131 t132 (wI6 (t133 + (1 : Int))))
    else
      (qdI K power base).bind fun x2 =>
      qaF K (.c17 base top pair power x2 r148 p k goal monic parts step now (now.length : Int) (0 : Int))
  | K + 1, .c12 base top pair power next p k goal monic parts step t153 t154 t155 =>
    bif (decide (t155 < t154)) then
      (gi t153 t155).bind fun x2 =>
      (gi parts t155).bind fun x4 =>
      (qdH K [] x4 p).bind fun x6 =>
      (gi monic t155).bind fun x8 =>
      (qc5 K x6 x8 p).bind fun x10 =>
      (qcR K x10.2.1 p).bind fun x12 =>
      (qdP K x12 power).bind fun x14 =>
      (qfJ K x2 x14).bind fun x16 =>
      (qbO K x16 next).bind fun x18 =>
      qaF K (.c18 base top pair power next ([x18.1] : List (List qaB)) p k goal monic parts step t153 t154 (wI6 (t155 + (1 : Int))))
    else
      bif (decide ((Int.tmod step (2 : Int)) = 0)) then
        qaF K (.c16 base top next p k goal monic parts step)
      else
        bif (decide ((Int.tmod step (2 : Int)) = 1)) then
          qaF K (.c19 base top pair next p k goal monic parts step)
        else
          none
  | K + 1, .c13 base top pair power r148 p k goal monic parts step t131 t132 t133 =>
    bif (decide (t133 < t132)) then
      (gi t131 t133).bind fun x2 =>
      (qcW K x2 power).bind fun x4 =>
      (qc2 K x4.1 p).bind fun x6 =>
      gd ((r148 ++ ([x6] : List Int)).length * 4 ≤ 140737488355328) <|
      qaF K (.c13 base top pair power (r148 ++ ([x6] : List Int)) p k goal monic parts step t131 t132 (wI6 (t133 + (1 : Int))))
    else
      (qdI K power base).bind fun x2 =>
      qaF K (.c20 base top pair power x2 r148 p k goal monic parts step (0 : Int) (0 : Int))
  | K + 1, .c14 base top pair _ next p k goal monic parts step t154 t155 =>
    bif (decide (t155 < t154)) then
      none
    else
      bif (decide ((Int.tmod step (2 : Int)) = 0)) then
        qaF K (.c16 base top next p k goal monic parts step)
      else
        bif (decide ((Int.tmod step (2 : Int)) = 1)) then
          qaF K (.c19 base top pair next p k goal monic parts step)
        else
          none
  | K + 1, .c15 base top _ next _ p k goal monic parts step t154 t155 =>
    bif (decide (t155 < t154)) then
      none
    else
      bif (decide ((Int.tmod step (2 : Int)) = 0)) then
        qaF K (.c16 base top next p k goal monic parts step)
      else
        bif (decide ((Int.tmod step (2 : Int)) = 1)) then
          qaF K (.c16 base top next p k goal monic parts step)
        else
          none
  | K + 1, .c16 base top power p k goal monic parts step =>
    qaF K (.c4 base top power p k goal monic parts (wI6 (step + (1 : Int))))
  | K + 1, .c17 base top pair power next r148 p k goal monic parts step t153 t154 t155 =>
    bif (decide (t155 < t154)) then
      (gi t153 t155).bind fun x2 =>
      (gi parts t155).bind fun x4 =>
      (qdH K r148 x4 p).bind fun x6 =>
      (gi monic t155).bind fun x8 =>
      (qc5 K x6 x8 p).bind fun x10 =>
      (qcR K x10.2.1 p).bind fun x12 =>
      (qdP K x12 power).bind fun x14 =>
      (qfJ K x2 x14).bind fun x16 =>
      (qbO K x16 next).bind fun x18 =>
      qaF K (.c21 base top pair power next ([x18.1] : List (List qaB)) p k goal monic parts step r148 t153 t154 (wI6 (t155 + (1 : Int))))
    else
      bif (decide ((Int.tmod step (2 : Int)) = 0)) then
        qaF K (.c16 base top next p k goal monic parts step)
      else
        bif (decide ((Int.tmod step (2 : Int)) = 1)) then
          qaF K (.c19 base top pair next p k goal monic parts step)
        else
          none
  | K + 1, .c18 base top pair power next r193 p k goal monic parts step t153 t154 t155 =>
    bif (decide (t155 < t154)) then
      (gi t153 t155).bind fun x2 =>
      (gi parts t155).bind fun x4 =>
      (qdH K [] x4 p).bind fun x6 =>
      (gi monic t155).bind fun x8 =>
      (qc5 K x6 x8 p).bind fun x10 =>
      (qcR K x10.2.1 p).bind fun x12 =>
      (qdP K x12 power).bind fun x14 =>
      (qfJ K x2 x14).bind fun x16 =>
      (qbO K x16 next).bind fun x18 =>
      gd ((r193 ++ ([x18.1] : List (List qaB))).length * 24 ≤ 140737488355328) <|
      qaF K (.c18 base top pair power next (r193 ++ ([x18.1] : List (List qaB))) p k goal monic parts step t153 t154 (wI6 (t155 + (1 : Int))))
    else
      bif (decide ((Int.tmod step (2 : Int)) = 0)) then
        qaF K (.c22 base top next r193 p k goal monic parts step)
      else
        bif (decide ((Int.tmod step (2 : Int)) = 1)) then
          qaF K (.c23 base top pair next r193 p k goal monic parts step)
        else
          none
  | K + 1, .c19 base top pair power p k goal monic parts step =>
    qaF K (.c5 base top pair power p k goal monic parts (wI6 (step + (1 : Int))))
  | K + 1, .c20 base top pair _ next _ p k goal monic parts step t154 t155 =>
    bif (decide (t155 < t154)) then
      none
    else
      bif (decide ((Int.tmod step (2 : Int)) = 0)) then
        qaF K (.c16 base top next p k goal monic parts step)
      else
        bif (decide ((Int.tmod step (2 : Int)) = 1)) then
          qaF K (.c19 base top pair next p k goal monic parts step)
        else
          none
  | K + 1, .c21 base top pair power next r193 p k goal monic parts step change t153 t154 t155 =>
    bif (decide (t155 < t154)) then
      (gi t153 t155).bind fun x2 =>
      (gi parts t155).bind fun x4 =>
      (qdH K change x4 p).bind fun x6 =>
      (gi monic t155).bind fun x8 =>
      (qc5 K x6 x8 p).bind fun x10 =>
      (qcR K x10.2.1 p).bind fun x12 =>
      (qdP K x12 power).bind fun x14 =>
      (qfJ K x2 x14).bind fun x16 =>
      (qbO K x16 next).bind fun x18 =>
      gd ((r193 ++ ([x18.1] : List (List qaB))).length * 24 ≤ 140737488355328) <|
      qaF K (.c21 base top pair power next (r193 ++ ([x18.1] : List (List qaB))) p k goal monic parts step change t153 t154 (wI6 (t155 + (1 : Int))))
    else
      bif (decide ((Int.tmod step (2 : Int)) = 0)) then
        qaF K (.c22 base top next r193 p k goal monic parts step)
      else
        bif (decide ((Int.tmod step (2 : Int)) = 1)) then
          qaF K (.c23 base top pair next r193 p k goal monic parts step)
        else
          none
  | K + 1, .c22 base top power r193 p k goal monic parts step =>
    qaF K (.c5 base top r193 power p k goal monic parts (wI6 (step + (1 : Int))))
  | K + 1, .c23 base top pair power r193 p k goal monic parts step =>
    qaF K (.c24 base top (qeW.mk pair r193) power p k goal monic parts (wI6 (step + (1 : Int))))
  | K + 1, .c24 base top pair power p k goal monic parts step =>
    bif (decide (step = k)) then
      bif (decide ((monic.length : Int) = (0 : Int))) then
        some ([], (0 : Int))
      else
        bif (decide ((Int.tmod (wI6 (k - (1 : Int))) (2 : Int)) = 0)) then
          some (pair.e0, (0 : Int))
        else
          bif (decide ((Int.tmod (wI6 (k - (1 : Int))) (2 : Int)) = 1)) then
            some (pair.e1, (0 : Int))
          else
            none
    else
      bif (decide ((monic.length : Int) = (0 : Int))) then
        bif (decide ((monic.length : Int) = (0 : Int))) then
          some ([], (0 : Int))
        else
          bif (decide ((Int.tmod (wI6 (k - (1 : Int))) (2 : Int)) = 0)) then
            some (pair.e0, (0 : Int))
          else
            bif (decide ((Int.tmod (wI6 (k - (1 : Int))) (2 : Int)) = 1)) then
              some (pair.e1, (0 : Int))
            else
              none
      else
        bif (decide ((Int.tmod (wI6 (step - (1 : Int))) (2 : Int)) = 0)) then
          (qdS K pair.e0 top).bind fun x4 =>
          (qg3 K goal x4.1).bind fun x6 =>
          (qbO K x6 top).bind fun x8 =>
          qaF K (.c25 base top pair power p k goal monic parts step pair.e0 x8.1 (x8.1.length : Int) (0 : Int))
        else
          bif (decide ((Int.tmod (wI6 (step - (1 : Int))) (2 : Int)) = 1)) then
            (qdS K pair.e1 top).bind fun x5 =>
            (qg3 K goal x5.1).bind fun x7 =>
            (qbO K x7 top).bind fun x9 =>
            qaF K (.c25 base top pair power p k goal monic parts step pair.e1 x9.1 (x9.1.length : Int) (0 : Int))
          else
            none
  | K + 1, .c25 base top pair power p k goal monic parts step now t131 t132 t133 =>
    bif (decide (t133 < t132)) then
      (gi t131 t133).bind fun x2 =>
      (qcW K x2 power).bind fun x4 =>
      (qc2 K x4.1 p).bind fun x6 =>
      qaF K (.c26 base top pair power ([x6] : List Int) p k goal monic parts step now t131 t132 (wI6 (t133 + (1 : Int))))
    else
      (qdI K power base).bind fun x2 =>
      qaF K (.c27 base top pair power x2 p k goal monic parts step now (now.length : Int) (0 : Int))
  | K + 1, .c26 base top pair power r148 p k goal monic parts step now t131 t132 t133 =>
    bif (decide (t133 < t132)) then
      (gi t131 t133).bind fun x2 =>
      (qcW K x2 power).bind fun x4 =>
      (qc2 K x4.1 p).bind fun x6 =>
      gd ((r148 ++ ([x6] : List Int)).length * 4 ≤ 140737488355328) <|
      qaF K (.c26 base top pair power (r148 ++ ([x6] : List Int)) p k goal monic parts step now t131 t132 (wI6 (t133 + (1 : Int))))
    else
      (qdI K power base).bind fun x2 =>
      qaF K (.c28 base top pair power x2 r148 p k goal monic parts step now (now.length : Int) (0 : Int))
  | K + 1, .c27 base top pair power next p k goal monic parts step t153 t154 t155 =>
    bif (decide (t155 < t154)) then
      (gi t153 t155).bind fun x2 =>
      (gi parts t155).bind fun x4 =>
      (qdH K [] x4 p).bind fun x6 =>
      (gi monic t155).bind fun x8 =>
      (qc5 K x6 x8 p).bind fun x10 =>
      (qcR K x10.2.1 p).bind fun x12 =>
      (qdP K x12 power).bind fun x14 =>
      (qfJ K x2 x14).bind fun x16 =>
      (qbO K x16 next).bind fun x18 =>
      qaF K (.c29 base top pair power next ([x18.1] : List (List qaB)) p k goal monic parts step t153 t154 (wI6 (t155 + (1 : Int))))
    else
      bif (decide ((Int.tmod step (2 : Int)) = 0)) then
        qaF K (.c30 base top pair.e1 next p k goal monic parts step)
      else
        bif (decide ((Int.tmod step (2 : Int)) = 1)) then
          qaF K (.c19 base top pair.e0 next p k goal monic parts step)
        else
          none
  | K + 1, .c28 base top pair power next r148 p k goal monic parts step t153 t154 t155 =>
    bif (decide (t155 < t154)) then
      (gi t153 t155).bind fun x2 =>
      (gi parts t155).bind fun x4 =>
      (qdH K r148 x4 p).bind fun x6 =>
      (gi monic t155).bind fun x8 =>
      (qc5 K x6 x8 p).bind fun x10 =>
      (qcR K x10.2.1 p).bind fun x12 =>
      (qdP K x12 power).bind fun x14 =>
      (qfJ K x2 x14).bind fun x16 =>
      (qbO K x16 next).bind fun x18 =>
      qaF K (.c31 base top pair power next ([x18.1] : List (List qaB)) p k goal monic parts step r148 t153 t154 (wI6 (t155 + (1 : Int))))
    else
      bif (decide ((Int.tmod step (2 : Int)) = 0)) then
        qaF K (.c30 base top pair.e1 next p k goal monic parts step)
      else
        bif (decide ((Int.tmod step (2 : Int)) = 1)) then
          qaF K (.c19 base top pair.e0 next p k goal monic parts step)
        else
          none
  | K + 1, .c29 base top pair power next r193 p k goal monic parts step t153 t154 t155 =>
    bif (decide (t155 < t154)) then
      (gi t153 t155).bind fun x2 =>
      (gi parts t155).bind fun x4 =>
      (qdH K [] x4 p).bind fun x6 =>
      (gi monic t155).bind fun x8 =>
      (qc5 K x6 x8 p).bind fun x10 =>
      (qcR K x10.2.1 p).bind fun x12 =>
      (qdP K x12 power).bind fun x14 =>
      (qfJ K x2 x14).bind fun x16 =>
      (qbO K x16 next).bind fun x18 =>
      gd ((r193 ++ ([x18.1] : List (List qaB))).length * 24 ≤ 140737488355328) <|
      qaF K (.c29 base top pair power next (r193 ++ ([x18.1] : List (List qaB))) p k goal monic parts step t153 t154 (wI6 (t155 + (1 : Int))))
    else
      bif (decide ((Int.tmod step (2 : Int)) = 0)) then
        qaF K (.c32 base top pair.e1 next r193 p k goal monic parts step)
      else
        bif (decide ((Int.tmod step (2 : Int)) = 1)) then
          qaF K (.c23 base top pair.e0 next r193 p k goal monic parts step)
        else
          none
  | K + 1, .c30 base top pair power p k goal monic parts step =>
    qaF K (.c33 base top pair power p k goal monic parts (wI6 (step + (1 : Int))))
  | K + 1, .c31 base top pair power next r193 p k goal monic parts step change t153 t154 t155 =>
    bif (decide (t155 < t154)) then
      (gi t153 t155).bind fun x2 =>
      (gi parts t155).bind fun x4 =>
      (qdH K change x4 p).bind fun x6 =>
      (gi monic t155).bind fun x8 =>
      (qc5 K x6 x8 p).bind fun x10 =>
      (qcR K x10.2.1 p).bind fun x12 =>
      (qdP K x12 power).bind fun x14 =>
      (qfJ K x2 x14).bind fun x16 =>
      (qbO K x16 next).bind fun x18 =>
      gd ((r193 ++ ([x18.1] : List (List qaB))).length * 24 ≤ 140737488355328) <|
      qaF K (.c31 base top pair power next (r193 ++ ([x18.1] : List (List qaB))) p k goal monic parts step change t153 t154 (wI6 (t155 + (1 : Int))))
    else
      bif (decide ((Int.tmod step (2 : Int)) = 0)) then
        qaF K (.c32 base top pair.e1 next r193 p k goal monic parts step)
      else
        bif (decide ((Int.tmod step (2 : Int)) = 1)) then
          qaF K (.c23 base top pair.e0 next r193 p k goal monic parts step)
        else
          none
  | K + 1, .c32 base top pair power r193 p k goal monic parts step =>
    qaF K (.c24 base top (qeW.mk r193 pair) power p k goal monic parts (wI6 (step + (1 : Int))))
  | K + 1, .c33 base top pair power p k goal monic parts step =>
    bif (decide (step = k)) then
      bif (decide ((monic.length : Int) = (0 : Int))) then
        some ([], (0 : Int))
      else
        bif (decide ((Int.tmod (wI6 (k - (1 : Int))) (2 : Int)) = 0)) then
          some ([], (0 : Int))
        else
          bif (decide ((Int.tmod (wI6 (k - (1 : Int))) (2 : Int)) = 1)) then
            some (pair, (0 : Int))
          else
            none
    else
      bif (decide ((monic.length : Int) = (0 : Int))) then
        bif (decide ((monic.length : Int) = (0 : Int))) then
          some ([], (0 : Int))
        else
          bif (decide ((Int.tmod (wI6 (k - (1 : Int))) (2 : Int)) = 0)) then
            some ([], (0 : Int))
          else
            bif (decide ((Int.tmod (wI6 (k - (1 : Int))) (2 : Int)) = 1)) then
              some (pair, (0 : Int))
            else
              none
      else
        bif (decide ((Int.tmod (wI6 (step - (1 : Int))) (2 : Int)) = 0)) then
          (qdS K [] top).bind fun x4 =>
          (qg3 K goal x4.1).bind fun x6 =>
          (qbO K x6 top).bind fun x8 =>
          qaF K (.c34 base top pair power p k goal monic parts step x8.1 (x8.1.length : Int) (0 : Int))
        else
          bif (decide ((Int.tmod (wI6 (step - (1 : Int))) (2 : Int)) = 1)) then
            (qdS K pair top).bind fun x5 =>
            (qg3 K goal x5.1).bind fun x7 =>
            (qbO K x7 top).bind fun x9 =>
            qaF K (.c35 base top pair power p k goal monic parts step pair x9.1 (x9.1.length : Int) (0 : Int))
          else
            none
  | K + 1, .c34 base top pair power p k goal monic parts step t131 t132 t133 =>
    bif (decide (t133 < t132)) then
      (gi t131 t133).bind fun x2 =>
      (qcW K x2 power).bind fun x4 =>
      (qc2 K x4.1 p).bind fun x6 =>
      qaF K (.c36 base top pair power ([x6] : List Int) p k goal monic parts step t131 t132 (wI6 (t133 + (1 : Int))))
    else
      (qdI K power base).bind fun x2 =>
      qaF K (.c37 base top pair power x2 p k goal monic parts step (0 : Int) (0 : Int))
  | K + 1, .c35 base top pair power p k goal monic parts step now t131 t132 t133 =>
    bif (decide (t133 < t132)) then
      (gi t131 t133).bind fun x2 =>
      (qcW K x2 power).bind fun x4 =>
      (qc2 K x4.1 p).bind fun x6 =>
      qaF K (.c38 base top pair power ([x6] : List Int) p k goal monic parts step now t131 t132 (wI6 (t133 + (1 : Int))))
    else
      (qdI K power base).bind fun x2 =>
      qaF K (.c39 base top pair power x2 p k goal monic parts step now (now.length : Int) (0 : Int))
  | K + 1, .c36 base top pair power r148 p k goal monic parts step t131 t132 t133 =>
    bif (decide (t133 < t132)) then
      (gi t131 t133).bind fun x2 =>
      (qcW K x2 power).bind fun x4 =>
      (qc2 K x4.1 p).bind fun x6 =>
      gd ((r148 ++ ([x6] : List Int)).length * 4 ≤ 140737488355328) <|
      qaF K (.c36 base top pair power (r148 ++ ([x6] : List Int)) p k goal monic parts step t131 t132 (wI6 (t133 + (1 : Int))))
    else
      (qdI K power base).bind fun x2 =>
      qaF K (.c40 base top pair power x2 r148 p k goal monic parts step (0 : Int) (0 : Int))
  | K + 1, .c37 base top pair _ next p k goal monic parts step t154 t155 =>
    bif (decide (t155 < t154)) then
      none
    else
      bif (decide ((Int.tmod step (2 : Int)) = 0)) then
        qaF K (.c30 base top pair next p k goal monic parts step)
      else
        bif (decide ((Int.tmod step (2 : Int)) = 1)) then
          qaF K (.c16 base top next p k goal monic parts step)
        else
          none
  | K + 1, .c38 base top pair power r148 p k goal monic parts step now t131 t132 t133 =>
    bif (decide (t133 < t132)) then
      (gi t131 t133).bind fun x2 =>
      (qcW K x2 power).bind fun x4 =>
      (qc2 K x4.1 p).bind fun x6 =>
      gd ((r148 ++ ([x6] : List Int)).length * 4 ≤ 140737488355328) <|
      qaF K (.c38 base top pair power (r148 ++ ([x6] : List Int)) p k goal monic parts step now t131 t132 (wI6 (t133 + (1 : Int))))
    else
      (qdI K power base).bind fun x2 =>
      qaF K (.c41 base top pair power x2 r148 p k goal monic parts step now (now.length : Int) (0 : Int))
  | K + 1, .c39 base top pair power next p k goal monic parts step t153 t154 t155 =>
    bif (decide (t155 < t154)) then
      (gi t153 t155).bind fun x2 =>
      (gi parts t155).bind fun x4 =>
      (qdH K [] x4 p).bind fun x6 =>
      (gi monic t155).bind fun x8 =>
      (qc5 K x6 x8 p).bind fun x10 =>
      (qcR K x10.2.1 p).bind fun x12 =>
      (qdP K x12 power).bind fun x14 =>
      (qfJ K x2 x14).bind fun x16 =>
      (qbO K x16 next).bind fun x18 =>
      qaF K (.c42 base top pair power next ([x18.1] : List (List qaB)) p k goal monic parts step t153 t154 (wI6 (t155 + (1 : Int))))
    else
      bif (decide ((Int.tmod step (2 : Int)) = 0)) then
        qaF K (.c30 base top pair next p k goal monic parts step)
      else
        bif (decide ((Int.tmod step (2 : Int)) = 1)) then
          qaF K (.c16 base top next p k goal monic parts step)
        else
          none
  | K + 1, .c40 base top pair _ next _ p k goal monic parts step t154 t155 =>
    bif (decide (t155 < t154)) then
      none
    else
      bif (decide ((Int.tmod step (2 : Int)) = 0)) then
        qaF K (.c30 base top pair next p k goal monic parts step)
      else
        bif (decide ((Int.tmod step (2 : Int)) = 1)) then
          qaF K (.c16 base top next p k goal monic parts step)
        else
          none
  | K + 1, .c41 base top pair power next r148 p k goal monic parts step t153 t154 t155 =>
    bif (decide (t155 < t154)) then
      (gi t153 t155).bind fun x2 =>
      (gi parts t155).bind fun x4 =>
      (qdH K r148 x4 p).bind fun x6 =>
      (gi monic t155).bind fun x8 =>
      (qc5 K x6 x8 p).bind fun x10 =>
      (qcR K x10.2.1 p).bind fun x12 =>
      (qdP K x12 power).bind fun x14 =>
      (qfJ K x2 x14).bind fun x16 =>
      (qbO K x16 next).bind fun x18 =>
      qaF K (.c43 base top pair power next ([x18.1] : List (List qaB)) p k goal monic parts step r148 t153 t154 (wI6 (t155 + (1 : Int))))
    else
      bif (decide ((Int.tmod step (2 : Int)) = 0)) then
        qaF K (.c30 base top pair next p k goal monic parts step)
      else
        bif (decide ((Int.tmod step (2 : Int)) = 1)) then
          qaF K (.c16 base top next p k goal monic parts step)
        else
          none
  | K + 1, .c42 base top pair power next r193 p k goal monic parts step t153 t154 t155 =>
    bif (decide (t155 < t154)) then
      (gi t153 t155).bind fun x2 =>
      (gi parts t155).bind fun x4 =>
      (qdH K [] x4 p).bind fun x6 =>
      (gi monic t155).bind fun x8 =>
      (qc5 K x6 x8 p).bind fun x10 =>
      (qcR K x10.2.1 p).bind fun x12 =>
      (qdP K x12 power).bind fun x14 =>
      (qfJ K x2 x14).bind fun x16 =>
      (qbO K x16 next).bind fun x18 =>
      gd ((r193 ++ ([x18.1] : List (List qaB))).length * 24 ≤ 140737488355328) <|
      qaF K (.c42 base top pair power next (r193 ++ ([x18.1] : List (List qaB))) p k goal monic parts step t153 t154 (wI6 (t155 + (1 : Int))))
    else
      bif (decide ((Int.tmod step (2 : Int)) = 0)) then
        qaF K (.c32 base top pair next r193 p k goal monic parts step)
      else
        bif (decide ((Int.tmod step (2 : Int)) = 1)) then
          qaF K (.c44 base top next r193 p k goal monic parts step)
        else
          none
  | K + 1, .c43 base top pair power next r193 p k goal monic parts step change t153 t154 t155 =>
    bif (decide (t155 < t154)) then
      (gi t153 t155).bind fun x2 =>
      (gi parts t155).bind fun x4 =>
      (qdH K change x4 p).bind fun x6 =>
      (gi monic t155).bind fun x8 =>
      (qc5 K x6 x8 p).bind fun x10 =>
      (qcR K x10.2.1 p).bind fun x12 =>
      (qdP K x12 power).bind fun x14 =>
      (qfJ K x2 x14).bind fun x16 =>
      (qbO K x16 next).bind fun x18 =>
      gd ((r193 ++ ([x18.1] : List (List qaB))).length * 24 ≤ 140737488355328) <|
      qaF K (.c43 base top pair power next (r193 ++ ([x18.1] : List (List qaB))) p k goal monic parts step change t153 t154 (wI6 (t155 + (1 : Int))))
    else
      bif (decide ((Int.tmod step (2 : Int)) = 0)) then
        qaF K (.c32 base top pair next r193 p k goal monic parts step)
      else
        bif (decide ((Int.tmod step (2 : Int)) = 1)) then
          qaF K (.c44 base top next r193 p k goal monic parts step)
        else
          none
  | K + 1, .c44 base top power r193 p k goal monic parts step =>
    qaF K (.c33 base top r193 power p k goal monic parts (wI6 (step + (1 : Int))))
def hensel_Lift (K : Nat) (f : (List qaB)) (list : (List (List Int))) (p : Int) (k : Int) : Option ((List (List qaB)) × Int) := qaF K (.c0 f list p k)
noncomputable def qaE : Code := qbN prog 62
noncomputable def hensel_Lift_pos : qqO → List Fr
  | .c0 .. => [.code qaE]
  | .c1 .. => [.code (.loop (atC qaE [1,0,1,1,1,1,1,0,1,0,0])), .blk 0, .code (atC qaE [1,0,1,1,1,1,1,1]), .sc]
  | .c2 .. => [.code (.loop (atC qaE [1,0,1,1,1,1,1,1,1,1,1,1,0,1,0,0])), .blk 2, .code (atC qaE [1,0,1,1,1,1,1,1,1,1,1,1,1]), .sc]
  | .c3 .. => [.code (.loop (atC qaE [1,0,1,1,1,1,1,1,1,1,1,1,0,1,0,0])), .blk 2, .code (atC qaE [1,0,1,1,1,1,1,1,1,1,1,1,1]), .sc]
  | .c4 .. => [.code (.loop (atC qaE [1,0,1,1,1,1,1,1,1,1,1,1,1,1,1,0,1,0,0])), .blk 4, .code (atC qaE [1,0,1,1,1,1,1,1,1,1,1,1,1,1,1,1]), .sc]
  | .c5 .. => [.code (.loop (atC qaE [1,0,1,1,1,1,1,1,1,1,1,1,1,1,1,0,1,0,0])), .blk 4, .code (atC qaE [1,0,1,1,1,1,1,1,1,1,1,1,1,1,1,1]), .sc]
  | .c6 .. => [.code (.loop (atC qaE [1,0,1,1,1,1,1,1,1,1,1,1,1,1,1,0,1,0,0,0,0,1,1,1,1,1,0,1,0,0])), .blk 6, .code (atC qaE [1,0,1,1,1,1,1,1,1,1,1,1,1,1,1,0,1,0,0,0,0,1,1,1,1,1,1]), .blk 5, .code (atC qaE [1,0,1,1,1,1,1,1,1,1,1,1,1,1,1,0,1,0,0,1]), .lp (atC qaE [1,0,1,1,1,1,1,1,1,1,1,1,1,1,1,0,1,0,0]), .blk 4, .code (atC qaE [1,0,1,1,1,1,1,1,1,1,1,1,1,1,1,1]), .sc]
  | .c7 .. => [.code (.loop (atC qaE [1,0,1,1,1,1,1,1,1,1,1,1,1,1,1,0,1,0,0,0,0,1,1,1,1,1,0,1,0,0])), .blk 6, .code (atC qaE [1,0,1,1,1,1,1,1,1,1,1,1,1,1,1,0,1,0,0,0,0,1,1,1,1,1,1]), .blk 5, .code (atC qaE [1,0,1,1,1,1,1,1,1,1,1,1,1,1,1,0,1,0,0,1]), .lp (atC qaE [1,0,1,1,1,1,1,1,1,1,1,1,1,1,1,0,1,0,0]), .blk 4, .code (atC qaE [1,0,1,1,1,1,1,1,1,1,1,1,1,1,1,1]), .sc]
  | .c8 .. => [.code (.loop (atC qaE [1,0,1,1,1,1,1,1,1,1,1,1,1,1,1,0,1,0,0,0,0,1,1,1,1,1,0,1,0,0])), .blk 6, .code (atC qaE [1,0,1,1,1,1,1,1,1,1,1,1,1,1,1,0,1,0,0,0,0,1,1,1,1,1,1]), .blk 5, .code (atC qaE [1,0,1,1,1,1,1,1,1,1,1,1,1,1,1,0,1,0,0,1]), .lp (atC qaE [1,0,1,1,1,1,1,1,1,1,1,1,1,1,1,0,1,0,0]), .blk 4, .code (atC qaE [1,0,1,1,1,1,1,1,1,1,1,1,1,1,1,1]), .sc]
  | .c9 .. => [.code (.loop (atC qaE [1,0,1,1,1,1,1,1,1,1,1,1,1,1,1,0,1,0,0,0,0,1,1,1,1,1,0,1,0,0])), .blk 6, .code (atC qaE [1,0,1,1,1,1,1,1,1,1,1,1,1,1,1,0,1,0,0,0,0,1,1,1,1,1,1]), .blk 5, .code (atC qaE [1,0,1,1,1,1,1,1,1,1,1,1,1,1,1,0,1,0,0,1]), .lp (atC qaE [1,0,1,1,1,1,1,1,1,1,1,1,1,1,1,0,1,0,0]), .blk 4, .code (atC qaE [1,0,1,1,1,1,1,1,1,1,1,1,1,1,1,1]), .sc]
  | .c10 .. => [.code (.loop (atC qaE [1,0,1,1,1,1,1,1,1,1,1,1,1,1,1,0,1,0,0,0,0,1,1,1,1,1,1,1,1,0,1,0,0])), .blk 8, .code (atC qaE [1,0,1,1,1,1,1,1,1,1,1,1,1,1,1,0,1,0,0,0,0,1,1,1,1,1,1,1,1,1]), .blk 5, .code (atC qaE [1,0,1,1,1,1,1,1,1,1,1,1,1,1,1,0,1,0,0,1]), .lp (atC qaE [1,0,1,1,1,1,1,1,1,1,1,1,1,1,1,0,1,0,0]), .blk 4, .code (atC qaE [1,0,1,1,1,1,1,1,1,1,1,1,1,1,1,1]), .sc]
  | .c11 .. => [.code (.loop (atC qaE [1,0,1,1,1,1,1,1,1,1,1,1,1,1,1,0,1,0,0,0,0,1,1,1,1,1,0,1,0,0])), .blk 6, .code (atC qaE [1,0,1,1,1,1,1,1,1,1,1,1,1,1,1,0,1,0,0,0,0,1,1,1,1,1,1]), .blk 5, .code (atC qaE [1,0,1,1,1,1,1,1,1,1,1,1,1,1,1,0,1,0,0,1]), .lp (atC qaE [1,0,1,1,1,1,1,1,1,1,1,1,1,1,1,0,1,0,0]), .blk 4, .code (atC qaE [1,0,1,1,1,1,1,1,1,1,1,1,1,1,1,1]), .sc]
  | .c12 .. => [.code (.loop (atC qaE [1,0,1,1,1,1,1,1,1,1,1,1,1,1,1,0,1,0,0,0,0,1,1,1,1,1,1,1,1,0,1,0,0])), .blk 8, .code (atC qaE [1,0,1,1,1,1,1,1,1,1,1,1,1,1,1,0,1,0,0,0,0,1,1,1,1,1,1,1,1,1]), .blk 5, .code (atC qaE [1,0,1,1,1,1,1,1,1,1,1,1,1,1,1,0,1,0,0,1]), .lp (atC qaE [1,0,1,1,1,1,1,1,1,1,1,1,1,1,1,0,1,0,0]), .blk 4, .code (atC qaE [1,0,1,1,1,1,1,1,1,1,1,1,1,1,1,1]), .sc]
  | .c13 .. => [.code (.loop (atC qaE [1,0,1,1,1,1,1,1,1,1,1,1,1,1,1,0,1,0,0,0,0,1,1,1,1,1,0,1,0,0])), .blk 6, .code (atC qaE [1,0,1,1,1,1,1,1,1,1,1,1,1,1,1,0,1,0,0,0,0,1,1,1,1,1,1]), .blk 5, .code (atC qaE [1,0,1,1,1,1,1,1,1,1,1,1,1,1,1,0,1,0,0,1]), .lp (atC qaE [1,0,1,1,1,1,1,1,1,1,1,1,1,1,1,0,1,0,0]), .blk 4, .code (atC qaE [1,0,1,1,1,1,1,1,1,1,1,1,1,1,1,1]), .sc]
  | .c14 .. => [.code (.loop (atC qaE [1,0,1,1,1,1,1,1,1,1,1,1,1,1,1,0,1,0,0,0,0,1,1,1,1,1,1,1,1,0,1,0,0])), .blk 8, .code (atC qaE [1,0,1,1,1,1,1,1,1,1,1,1,1,1,1,0,1,0,0,0,0,1,1,1,1,1,1,1,1,1]), .blk 5, .code (atC qaE [1,0,1,1,1,1,1,1,1,1,1,1,1,1,1,0,1,0,0,1]), .lp (atC qaE [1,0,1,1,1,1,1,1,1,1,1,1,1,1,1,0,1,0,0]), .blk 4, .code (atC qaE [1,0,1,1,1,1,1,1,1,1,1,1,1,1,1,1]), .sc]
  | .c15 .. => [.code (.loop (atC qaE [1,0,1,1,1,1,1,1,1,1,1,1,1,1,1,0,1,0,0,0,0,1,1,1,1,1,1,1,1,0,1,0,0])), .blk 8, .code (atC qaE [1,0,1,1,1,1,1,1,1,1,1,1,1,1,1,0,1,0,0,0,0,1,1,1,1,1,1,1,1,1]), .blk 5, .code (atC qaE [1,0,1,1,1,1,1,1,1,1,1,1,1,1,1,0,1,0,0,1]), .lp (atC qaE [1,0,1,1,1,1,1,1,1,1,1,1,1,1,1,0,1,0,0]), .blk 4, .code (atC qaE [1,0,1,1,1,1,1,1,1,1,1,1,1,1,1,1]), .sc]
  | .c16 .. => [.code (atC qaE [1,0,1,1,1,1,1,1,1,1,1,1,1,1,1,0,1,0,0,1]), .lp (atC qaE [1,0,1,1,1,1,1,1,1,1,1,1,1,1,1,0,1,0,0]), .blk 4, .code (atC qaE [1,0,1,1,1,1,1,1,1,1,1,1,1,1,1,1]), .sc]
  | .c17 .. => [.code (.loop (atC qaE [1,0,1,1,1,1,1,1,1,1,1,1,1,1,1,0,1,0,0,0,0,1,1,1,1,1,1,1,1,0,1,0,0])), .blk 8, .code (atC qaE [1,0,1,1,1,1,1,1,1,1,1,1,1,1,1,0,1,0,0,0,0,1,1,1,1,1,1,1,1,1]), .blk 5, .code (atC qaE [1,0,1,1,1,1,1,1,1,1,1,1,1,1,1,0,1,0,0,1]), .lp (atC qaE [1,0,1,1,1,1,1,1,1,1,1,1,1,1,1,0,1,0,0]), .blk 4, .code (atC qaE [1,0,1,1,1,1,1,1,1,1,1,1,1,1,1,1]), .sc]
  | .c18 .. => [.code (.loop (atC qaE [1,0,1,1,1,1,1,1,1,1,1,1,1,1,1,0,1,0,0,0,0,1,1,1,1,1,1,1,1,0,1,0,0])), .blk 8, .code (atC qaE [1,0,1,1,1,1,1,1,1,1,1,1,1,1,1,0,1,0,0,0,0,1,1,1,1,1,1,1,1,1]), .blk 5, .code (atC qaE [1,0,1,1,1,1,1,1,1,1,1,1,1,1,1,0,1,0,0,1]), .lp (atC qaE [1,0,1,1,1,1,1,1,1,1,1,1,1,1,1,0,1,0,0]), .blk 4, .code (atC qaE [1,0,1,1,1,1,1,1,1,1,1,1,1,1,1,1]), .sc]
  | .c19 .. => [.code (atC qaE [1,0,1,1,1,1,1,1,1,1,1,1,1,1,1,0,1,0,0,1]), .lp (atC qaE [1,0,1,1,1,1,1,1,1,1,1,1,1,1,1,0,1,0,0]), .blk 4, .code (atC qaE [1,0,1,1,1,1,1,1,1,1,1,1,1,1,1,1]), .sc]
  | .c20 .. => [.code (.loop (atC qaE [1,0,1,1,1,1,1,1,1,1,1,1,1,1,1,0,1,0,0,0,0,1,1,1,1,1,1,1,1,0,1,0,0])), .blk 8, .code (atC qaE [1,0,1,1,1,1,1,1,1,1,1,1,1,1,1,0,1,0,0,0,0,1,1,1,1,1,1,1,1,1]), .blk 5, .code (atC qaE [1,0,1,1,1,1,1,1,1,1,1,1,1,1,1,0,1,0,0,1]), .lp (atC qaE [1,0,1,1,1,1,1,1,1,1,1,1,1,1,1,0,1,0,0]), .blk 4, .code (atC qaE [1,0,1,1,1,1,1,1,1,1,1,1,1,1,1,1]), .sc]
  | .c21 .. => [.code (.loop (atC qaE [1,0,1,1,1,1,1,1,1,1,1,1,1,1,1,0,1,0,0,0,0,1,1,1,1,1,1,1,1,0,1,0,0])), .blk 8, .code (atC qaE [1,0,1,1,1,1,1,1,1,1,1,1,1,1,1,0,1,0,0,0,0,1,1,1,1,1,1,1,1,1]), .blk 5, .code (atC qaE [1,0,1,1,1,1,1,1,1,1,1,1,1,1,1,0,1,0,0,1]), .lp (atC qaE [1,0,1,1,1,1,1,1,1,1,1,1,1,1,1,0,1,0,0]), .blk 4, .code (atC qaE [1,0,1,1,1,1,1,1,1,1,1,1,1,1,1,1]), .sc]
  | .c22 .. => [.code (atC qaE [1,0,1,1,1,1,1,1,1,1,1,1,1,1,1,0,1,0,0,1]), .lp (atC qaE [1,0,1,1,1,1,1,1,1,1,1,1,1,1,1,0,1,0,0]), .blk 4, .code (atC qaE [1,0,1,1,1,1,1,1,1,1,1,1,1,1,1,1]), .sc]
  | .c23 .. => [.code (atC qaE [1,0,1,1,1,1,1,1,1,1,1,1,1,1,1,0,1,0,0,1]), .lp (atC qaE [1,0,1,1,1,1,1,1,1,1,1,1,1,1,1,0,1,0,0]), .blk 4, .code (atC qaE [1,0,1,1,1,1,1,1,1,1,1,1,1,1,1,1]), .sc]
  | .c24 .. => [.code (.loop (atC qaE [1,0,1,1,1,1,1,1,1,1,1,1,1,1,1,0,1,0,0])), .blk 4, .code (atC qaE [1,0,1,1,1,1,1,1,1,1,1,1,1,1,1,1]), .sc]
  | .c25 .. => [.code (.loop (atC qaE [1,0,1,1,1,1,1,1,1,1,1,1,1,1,1,0,1,0,0,0,0,1,1,1,1,1,0,1,0,0])), .blk 6, .code (atC qaE [1,0,1,1,1,1,1,1,1,1,1,1,1,1,1,0,1,0,0,0,0,1,1,1,1,1,1]), .blk 5, .code (atC qaE [1,0,1,1,1,1,1,1,1,1,1,1,1,1,1,0,1,0,0,1]), .lp (atC qaE [1,0,1,1,1,1,1,1,1,1,1,1,1,1,1,0,1,0,0]), .blk 4, .code (atC qaE [1,0,1,1,1,1,1,1,1,1,1,1,1,1,1,1]), .sc]
  | .c26 .. => [.code (.loop (atC qaE [1,0,1,1,1,1,1,1,1,1,1,1,1,1,1,0,1,0,0,0,0,1,1,1,1,1,0,1,0,0])), .blk 6, .code (atC qaE [1,0,1,1,1,1,1,1,1,1,1,1,1,1,1,0,1,0,0,0,0,1,1,1,1,1,1]), .blk 5, .code (atC qaE [1,0,1,1,1,1,1,1,1,1,1,1,1,1,1,0,1,0,0,1]), .lp (atC qaE [1,0,1,1,1,1,1,1,1,1,1,1,1,1,1,0,1,0,0]), .blk 4, .code (atC qaE [1,0,1,1,1,1,1,1,1,1,1,1,1,1,1,1]), .sc]
  | .c27 .. => [.code (.loop (atC qaE [1,0,1,1,1,1,1,1,1,1,1,1,1,1,1,0,1,0,0,0,0,1,1,1,1,1,1,1,1,0,1,0,0])), .blk 8, .code (atC qaE [1,0,1,1,1,1,1,1,1,1,1,1,1,1,1,0,1,0,0,0,0,1,1,1,1,1,1,1,1,1]), .blk 5, .code (atC qaE [1,0,1,1,1,1,1,1,1,1,1,1,1,1,1,0,1,0,0,1]), .lp (atC qaE [1,0,1,1,1,1,1,1,1,1,1,1,1,1,1,0,1,0,0]), .blk 4, .code (atC qaE [1,0,1,1,1,1,1,1,1,1,1,1,1,1,1,1]), .sc]
  | .c28 .. => [.code (.loop (atC qaE [1,0,1,1,1,1,1,1,1,1,1,1,1,1,1,0,1,0,0,0,0,1,1,1,1,1,1,1,1,0,1,0,0])), .blk 8, .code (atC qaE [1,0,1,1,1,1,1,1,1,1,1,1,1,1,1,0,1,0,0,0,0,1,1,1,1,1,1,1,1,1]), .blk 5, .code (atC qaE [1,0,1,1,1,1,1,1,1,1,1,1,1,1,1,0,1,0,0,1]), .lp (atC qaE [1,0,1,1,1,1,1,1,1,1,1,1,1,1,1,0,1,0,0]), .blk 4, .code (atC qaE [1,0,1,1,1,1,1,1,1,1,1,1,1,1,1,1]), .sc]
  | .c29 .. => [.code (.loop (atC qaE [1,0,1,1,1,1,1,1,1,1,1,1,1,1,1,0,1,0,0,0,0,1,1,1,1,1,1,1,1,0,1,0,0])), .blk 8, .code (atC qaE [1,0,1,1,1,1,1,1,1,1,1,1,1,1,1,0,1,0,0,0,0,1,1,1,1,1,1,1,1,1]), .blk 5, .code (atC qaE [1,0,1,1,1,1,1,1,1,1,1,1,1,1,1,0,1,0,0,1]), .lp (atC qaE [1,0,1,1,1,1,1,1,1,1,1,1,1,1,1,0,1,0,0]), .blk 4, .code (atC qaE [1,0,1,1,1,1,1,1,1,1,1,1,1,1,1,1]), .sc]
  | .c30 .. => [.code (atC qaE [1,0,1,1,1,1,1,1,1,1,1,1,1,1,1,0,1,0,0,1]), .lp (atC qaE [1,0,1,1,1,1,1,1,1,1,1,1,1,1,1,0,1,0,0]), .blk 4, .code (atC qaE [1,0,1,1,1,1,1,1,1,1,1,1,1,1,1,1]), .sc]
  | .c31 .. => [.code (.loop (atC qaE [1,0,1,1,1,1,1,1,1,1,1,1,1,1,1,0,1,0,0,0,0,1,1,1,1,1,1,1,1,0,1,0,0])), .blk 8, .code (atC qaE [1,0,1,1,1,1,1,1,1,1,1,1,1,1,1,0,1,0,0,0,0,1,1,1,1,1,1,1,1,1]), .blk 5, .code (atC qaE [1,0,1,1,1,1,1,1,1,1,1,1,1,1,1,0,1,0,0,1]), .lp (atC qaE [1,0,1,1,1,1,1,1,1,1,1,1,1,1,1,0,1,0,0]), .blk 4, .code (atC qaE [1,0,1,1,1,1,1,1,1,1,1,1,1,1,1,1]), .sc]
  | .c32 .. => [.code (atC qaE [1,0,1,1,1,1,1,1,1,1,1,1,1,1,1,0,1,0,0,1]), .lp (atC qaE [1,0,1,1,1,1,1,1,1,1,1,1,1,1,1,0,1,0,0]), .blk 4, .code (atC qaE [1,0,1,1,1,1,1,1,1,1,1,1,1,1,1,1]), .sc]
  | .c33 .. => [.code (.loop (atC qaE [1,0,1,1,1,1,1,1,1,1,1,1,1,1,1,0,1,0,0])), .blk 4, .code (atC qaE [1,0,1,1,1,1,1,1,1,1,1,1,1,1,1,1]), .sc]
  | .c34 .. => [.code (.loop (atC qaE [1,0,1,1,1,1,1,1,1,1,1,1,1,1,1,0,1,0,0,0,0,1,1,1,1,1,0,1,0,0])), .blk 6, .code (atC qaE [1,0,1,1,1,1,1,1,1,1,1,1,1,1,1,0,1,0,0,0,0,1,1,1,1,1,1]), .blk 5, .code (atC qaE [1,0,1,1,1,1,1,1,1,1,1,1,1,1,1,0,1,0,0,1]), .lp (atC qaE [1,0,1,1,1,1,1,1,1,1,1,1,1,1,1,0,1,0,0]), .blk 4, .code (atC qaE [1,0,1,1,1,1,1,1,1,1,1,1,1,1,1,1]), .sc]
  | .c35 .. => [.code (.loop (atC qaE [1,0,1,1,1,1,1,1,1,1,1,1,1,1,1,0,1,0,0,0,0,1,1,1,1,1,0,1,0,0])), .blk 6, .code (atC qaE [1,0,1,1,1,1,1,1,1,1,1,1,1,1,1,0,1,0,0,0,0,1,1,1,1,1,1]), .blk 5, .code (atC qaE [1,0,1,1,1,1,1,1,1,1,1,1,1,1,1,0,1,0,0,1]), .lp (atC qaE [1,0,1,1,1,1,1,1,1,1,1,1,1,1,1,0,1,0,0]), .blk 4, .code (atC qaE [1,0,1,1,1,1,1,1,1,1,1,1,1,1,1,1]), .sc]
  | .c36 .. => [.code (.loop (atC qaE [1,0,1,1,1,1,1,1,1,1,1,1,1,1,1,0,1,0,0,0,0,1,1,1,1,1,0,1,0,0])), .blk 6, .code (atC qaE [1,0,1,1,1,1,1,1,1,1,1,1,1,1,1,0,1,0,0,0,0,1,1,1,1,1,1]), .blk 5, .code (atC qaE [1,0,1,1,1,1,1,1,1,1,1,1,1,1,1,0,1,0,0,1]), .lp (atC qaE [1,0,1,1,1,1,1,1,1,1,1,1,1,1,1,0,1,0,0]), .blk 4, .code (atC qaE [1,0,1,1,1,1,1,1,1,1,1,1,1,1,1,1]), .sc]
  | .c37 .. => [.code (.loop (atC qaE [1,0,1,1,1,1,1,1,1,1,1,1,1,1,1,0,1,0,0,0,0,1,1,1,1,1,1,1,1,0,1,0,0])), .blk 8, .code (atC qaE [1,0,1,1,1,1,1,1,1,1,1,1,1,1,1,0,1,0,0,0,0,1,1,1,1,1,1,1,1,1]), .blk 5, .code (atC qaE [1,0,1,1,1,1,1,1,1,1,1,1,1,1,1,0,1,0,0,1]), .lp (atC qaE [1,0,1,1,1,1,1,1,1,1,1,1,1,1,1,0,1,0,0]), .blk 4, .code (atC qaE [1,0,1,1,1,1,1,1,1,1,1,1,1,1,1,1]), .sc]
  | .c38 .. => [.code (.loop (atC qaE [1,0,1,1,1,1,1,1,1,1,1,1,1,1,1,0,1,0,0,0,0,1,1,1,1,1,0,1,0,0])), .blk 6, .code (atC qaE [1,0,1,1,1,1,1,1,1,1,1,1,1,1,1,0,1,0,0,0,0,1,1,1,1,1,1]), .blk 5, .code (atC qaE [1,0,1,1,1,1,1,1,1,1,1,1,1,1,1,0,1,0,0,1]), .lp (atC qaE [1,0,1,1,1,1,1,1,1,1,1,1,1,1,1,0,1,0,0]), .blk 4, .code (atC qaE [1,0,1,1,1,1,1,1,1,1,1,1,1,1,1,1]), .sc]
  | .c39 .. => [.code (.loop (atC qaE [1,0,1,1,1,1,1,1,1,1,1,1,1,1,1,0,1,0,0,0,0,1,1,1,1,1,1,1,1,0,1,0,0])), .blk 8, .code (atC qaE [1,0,1,1,1,1,1,1,1,1,1,1,1,1,1,0,1,0,0,0,0,1,1,1,1,1,1,1,1,1]), .blk 5, .code (atC qaE [1,0,1,1,1,1,1,1,1,1,1,1,1,1,1,0,1,0,0,1]), .lp (atC qaE [1,0,1,1,1,1,1,1,1,1,1,1,1,1,1,0,1,0,0]), .blk 4, .code (atC qaE [1,0,1,1,1,1,1,1,1,1,1,1,1,1,1,1]), .sc]
  | .c40 .. => [.code (.loop (atC qaE [1,0,1,1,1,1,1,1,1,1,1,1,1,1,1,0,1,0,0,0,0,1,1,1,1,1,1,1,1,0,1,0,0])), .blk 8, .code (atC qaE [1,0,1,1,1,1,1,1,1,1,1,1,1,1,1,0,1,0,0,0,0,1,1,1,1,1,1,1,1,1]), .blk 5, .code (atC qaE [1,0,1,1,1,1,1,1,1,1,1,1,1,1,1,0,1,0,0,1]), .lp (atC qaE [1,0,1,1,1,1,1,1,1,1,1,1,1,1,1,0,1,0,0]), .blk 4, .code (atC qaE [1,0,1,1,1,1,1,1,1,1,1,1,1,1,1,1]), .sc]
  | .c41 .. => [.code (.loop (atC qaE [1,0,1,1,1,1,1,1,1,1,1,1,1,1,1,0,1,0,0,0,0,1,1,1,1,1,1,1,1,0,1,0,0])), .blk 8, .code (atC qaE [1,0,1,1,1,1,1,1,1,1,1,1,1,1,1,0,1,0,0,0,0,1,1,1,1,1,1,1,1,1]), .blk 5, .code (atC qaE [1,0,1,1,1,1,1,1,1,1,1,1,1,1,1,0,1,0,0,1]), .lp (atC qaE [1,0,1,1,1,1,1,1,1,1,1,1,1,1,1,0,1,0,0]), .blk 4, .code (atC qaE [1,0,1,1,1,1,1,1,1,1,1,1,1,1,1,1]), .sc]
  | .c42 .. => [.code (.loop (atC qaE [1,0,1,1,1,1,1,1,1,1,1,1,1,1,1,0,1,0,0,0,0,1,1,1,1,1,1,1,1,0,1,0,0])), .blk 8, .code (atC qaE [1,0,1,1,1,1,1,1,1,1,1,1,1,1,1,0,1,0,0,0,0,1,1,1,1,1,1,1,1,1]), .blk 5, .code (atC qaE [1,0,1,1,1,1,1,1,1,1,1,1,1,1,1,0,1,0,0,1]), .lp (atC qaE [1,0,1,1,1,1,1,1,1,1,1,1,1,1,1,0,1,0,0]), .blk 4, .code (atC qaE [1,0,1,1,1,1,1,1,1,1,1,1,1,1,1,1]), .sc]
  | .c43 .. => [.code (.loop (atC qaE [1,0,1,1,1,1,1,1,1,1,1,1,1,1,1,0,1,0,0,0,0,1,1,1,1,1,1,1,1,0,1,0,0])), .blk 8, .code (atC qaE [1,0,1,1,1,1,1,1,1,1,1,1,1,1,1,0,1,0,0,0,0,1,1,1,1,1,1,1,1,1]), .blk 5, .code (atC qaE [1,0,1,1,1,1,1,1,1,1,1,1,1,1,1,0,1,0,0,1]), .lp (atC qaE [1,0,1,1,1,1,1,1,1,1,1,1,1,1,1,0,1,0,0]), .blk 4, .code (atC qaE [1,0,1,1,1,1,1,1,1,1,1,1,1,1,1,1]), .sc]
  | .c44 .. => [.code (atC qaE [1,0,1,1,1,1,1,1,1,1,1,1,1,1,1,0,1,0,0,1]), .lp (atC qaE [1,0,1,1,1,1,1,1,1,1,1,1,1,1,1,0,1,0,0]), .blk 4, .code (atC qaE [1,0,1,1,1,1,1,1,1,1,1,1,1,1,1,1]), .sc]
def hensel_Lift_st : qqO → St
  | .c0 f list p k => St.init [(tl 2 f qaA), (tl 1 list qaG), (ti .u32 p), (ti .i64 k)]
  | .c1 base top f list p k t63 t64 => ⟨[(0, vl 2 f qaA), (1, vl 1 list qaG), (2, vi .u32 p), (3, vi .i64 k), (11, .c (C.ptr 11 0)), (12, .c (C.ptr 12 0)), (63, vi .i64 t63), (64, vi .i64 t64)], [(11, .var ((qaA base).map C.t)), (12, .var ((qaA top).map C.t))], []⟩
  | .c2 base top p k goal monic parts t85 t86 t87 => ⟨[(2, vi .u32 p), (3, vi .i64 k), (11, .c (C.ptr 11 0)), (12, .c (C.ptr 12 0)), (13, vl 2 goal qaA), (14, vl 1 monic qaG), (16, vl 1 parts qaG), (17, .c (C.ptr 17 0)), (85, vl 1 t85 qaG), (86, vi .i64 t86), (87, vi .i64 t87)], [(11, .var ((qaA base).map C.t)), (12, .var ((qaA top).map C.t)), (17, .var [C.nil, C.nil])], []⟩
  | .c3 base top r97 p k goal monic parts t85 t86 t87 => ⟨[(2, vi .u32 p), (3, vi .i64 k), (11, .c (C.ptr 11 0)), (12, .c (C.ptr 12 0)), (13, vl 2 goal qaA), (14, vl 1 monic qaG), (16, vl 1 parts qaG), (17, .c (C.ptr 17 0)), (85, vl 1 t85 qaG), (86, vi .i64 t86), (87, vi .i64 t87)], [(11, .var ((qaA base).map C.t)), (12, .var ((qaA top).map C.t)), (17, .var [C.row 97 0 r97.length, C.nil]), (97, .row 90 1 (r97.map qaD) 0)], []⟩
  | .c4 base top power p k goal monic parts step => ⟨[(2, vi .u32 p), (3, vi .i64 k), (11, .c (C.ptr 11 0)), (12, .c (C.ptr 12 0)), (13, vl 2 goal qaA), (14, vl 1 monic qaG), (16, vl 1 parts qaG), (17, .c (C.ptr 17 0)), (20, .c (C.ptr 20 0)), (21, vi .i64 step)], [(11, .var ((qaA base).map C.t)), (12, .var ((qaA top).map C.t)), (17, .var [C.nil, C.nil]), (20, .var ((qaA power).map C.t))], []⟩
  | .c5 base top pair power p k goal monic parts step => ⟨[(2, vi .u32 p), (3, vi .i64 k), (11, .c (C.ptr 11 0)), (12, .c (C.ptr 12 0)), (13, vl 2 goal qaA), (14, vl 1 monic qaG), (16, vl 1 parts qaG), (17, .c (C.ptr 17 0)), (20, .c (C.ptr 20 0)), (21, vi .i64 step)], [(11, .var ((qaA base).map C.t)), (12, .var ((qaA top).map C.t)), (17, .var [C.t (T.sl 1 (pair.map qaD)), C.nil]), (20, .var ((qaA power).map C.t))], []⟩
  | .c6 base top power p k goal monic parts step t131 t132 t133 => ⟨[(2, vi .u32 p), (3, vi .i64 k), (11, .c (C.ptr 11 0)), (12, .c (C.ptr 12 0)), (13, vl 2 goal qaA), (14, vl 1 monic qaG), (16, vl 1 parts qaG), (17, .c (C.ptr 17 0)), (20, .c (C.ptr 20 0)), (21, vi .i64 step), (22, .c (C.nil)), (27, .c (C.nil)), (131, vl 2 t131 qaA), (132, vi .i64 t132), (133, vi .i64 t133)], [(11, .var ((qaA base).map C.t)), (12, .var ((qaA top).map C.t)), (17, .var [C.nil, C.nil]), (20, .var ((qaA power).map C.t))], []⟩
  | .c7 base top pair power p k goal monic parts step now t131 t132 t133 => ⟨[(2, vi .u32 p), (3, vi .i64 k), (11, .c (C.ptr 11 0)), (12, .c (C.ptr 12 0)), (13, vl 2 goal qaA), (14, vl 1 monic qaG), (16, vl 1 parts qaG), (17, .c (C.ptr 17 0)), (20, .c (C.ptr 20 0)), (21, vi .i64 step), (22, vl 1 now qaD), (27, .c (C.nil)), (131, vl 2 t131 qaA), (132, vi .i64 t132), (133, vi .i64 t133)], [(11, .var ((qaA base).map C.t)), (12, .var ((qaA top).map C.t)), (17, .var [C.t (T.sl 1 (pair.map qaD)), C.nil]), (20, .var ((qaA power).map C.t))], []⟩
  | .c8 base top pair power p k goal monic parts step t131 t132 t133 => ⟨[(2, vi .u32 p), (3, vi .i64 k), (11, .c (C.ptr 11 0)), (12, .c (C.ptr 12 0)), (13, vl 2 goal qaA), (14, vl 1 monic qaG), (16, vl 1 parts qaG), (17, .c (C.ptr 17 0)), (20, .c (C.ptr 20 0)), (21, vi .i64 step), (22, .c (C.nil)), (27, .c (C.nil)), (131, vl 2 t131 qaA), (132, vi .i64 t132), (133, vi .i64 t133)], [(11, .var ((qaA base).map C.t)), (12, .var ((qaA top).map C.t)), (17, .var [C.t (T.sl 1 (pair.map qaD)), C.nil]), (20, .var ((qaA power).map C.t))], []⟩
  | .c9 base top power r148 p k goal monic parts step t131 t132 t133 => ⟨[(2, vi .u32 p), (3, vi .i64 k), (11, .c (C.ptr 11 0)), (12, .c (C.ptr 12 0)), (13, vl 2 goal qaA), (14, vl 1 monic qaG), (16, vl 1 parts qaG), (17, .c (C.ptr 17 0)), (20, .c (C.ptr 20 0)), (21, vi .i64 step), (22, .c (C.nil)), (27, .c (C.row 148 0 r148.length)), (131, vl 2 t131 qaA), (132, vi .i64 t132), (133, vi .i64 t133)], [(11, .var ((qaA base).map C.t)), (12, .var ((qaA top).map C.t)), (17, .var [C.nil, C.nil]), (20, .var ((qaA power).map C.t)), (148, .row 101 1 (r148.map qaC) 0)], []⟩
  | .c10 base top power next p k goal monic parts step t154 t155 => ⟨[(2, vi .u32 p), (3, vi .i64 k), (11, .c (C.ptr 11 0)), (12, .c (C.ptr 12 0)), (13, vl 2 goal qaA), (14, vl 1 monic qaG), (16, vl 1 parts qaG), (17, .c (C.ptr 17 0)), (20, .c (C.ptr 20 0)), (21, vi .i64 step), (27, .c (C.nil)), (32, .c (C.ptr 32 0)), (33, .c (C.nil)), (153, .c (C.nil)), (154, vi .i64 t154), (155, vi .i64 t155)], [(11, .var ((qaA base).map C.t)), (12, .var ((qaA top).map C.t)), (17, .var [C.nil, C.nil]), (20, .var ((qaA power).map C.t)), (32, .var ((qaA next).map C.t))], []⟩
  | .c11 base top pair power r148 p k goal monic parts step now t131 t132 t133 => ⟨[(2, vi .u32 p), (3, vi .i64 k), (11, .c (C.ptr 11 0)), (12, .c (C.ptr 12 0)), (13, vl 2 goal qaA), (14, vl 1 monic qaG), (16, vl 1 parts qaG), (17, .c (C.ptr 17 0)), (20, .c (C.ptr 20 0)), (21, vi .i64 step), (22, vl 1 now qaD), (27, .c (C.row 148 0 r148.length)), (131, vl 2 t131 qaA), (132, vi .i64 t132), (133, vi .i64 t133)], [(11, .var ((qaA base).map C.t)), (12, .var ((qaA top).map C.t)), (17, .var [C.t (T.sl 1 (pair.map qaD)), C.nil]), (20, .var ((qaA power).map C.t)), (148, .row 101 1 (r148.map qaC) 0)], []⟩
  | .c12 base top pair power next p k goal monic parts step t153 t154 t155 => ⟨[(2, vi .u32 p), (3, vi .i64 k), (11, .c (C.ptr 11 0)), (12, .c (C.ptr 12 0)), (13, vl 2 goal qaA), (14, vl 1 monic qaG), (16, vl 1 parts qaG), (17, .c (C.ptr 17 0)), (20, .c (C.ptr 20 0)), (21, vi .i64 step), (27, .c (C.nil)), (32, .c (C.ptr 32 0)), (33, .c (C.nil)), (153, vl 1 t153 qaD), (154, vi .i64 t154), (155, vi .i64 t155)], [(11, .var ((qaA base).map C.t)), (12, .var ((qaA top).map C.t)), (17, .var [C.t (T.sl 1 (pair.map qaD)), C.nil]), (20, .var ((qaA power).map C.t)), (32, .var ((qaA next).map C.t))], []⟩
  | .c13 base top pair power r148 p k goal monic parts step t131 t132 t133 => ⟨[(2, vi .u32 p), (3, vi .i64 k), (11, .c (C.ptr 11 0)), (12, .c (C.ptr 12 0)), (13, vl 2 goal qaA), (14, vl 1 monic qaG), (16, vl 1 parts qaG), (17, .c (C.ptr 17 0)), (20, .c (C.ptr 20 0)), (21, vi .i64 step), (22, .c (C.nil)), (27, .c (C.row 148 0 r148.length)), (131, vl 2 t131 qaA), (132, vi .i64 t132), (133, vi .i64 t133)], [(11, .var ((qaA base).map C.t)), (12, .var ((qaA top).map C.t)), (17, .var [C.t (T.sl 1 (pair.map qaD)), C.nil]), (20, .var ((qaA power).map C.t)), (148, .row 101 1 (r148.map qaC) 0)], []⟩
  | .c14 base top pair power next p k goal monic parts step t154 t155 => ⟨[(2, vi .u32 p), (3, vi .i64 k), (11, .c (C.ptr 11 0)), (12, .c (C.ptr 12 0)), (13, vl 2 goal qaA), (14, vl 1 monic qaG), (16, vl 1 parts qaG), (17, .c (C.ptr 17 0)), (20, .c (C.ptr 20 0)), (21, vi .i64 step), (27, .c (C.nil)), (32, .c (C.ptr 32 0)), (33, .c (C.nil)), (153, .c (C.nil)), (154, vi .i64 t154), (155, vi .i64 t155)], [(11, .var ((qaA base).map C.t)), (12, .var ((qaA top).map C.t)), (17, .var [C.t (T.sl 1 (pair.map qaD)), C.nil]), (20, .var ((qaA power).map C.t)), (32, .var ((qaA next).map C.t))], []⟩
  | .c15 base top power next r148 p k goal monic parts step t154 t155 => ⟨[(2, vi .u32 p), (3, vi .i64 k), (11, .c (C.ptr 11 0)), (12, .c (C.ptr 12 0)), (13, vl 2 goal qaA), (14, vl 1 monic qaG), (16, vl 1 parts qaG), (17, .c (C.ptr 17 0)), (20, .c (C.ptr 20 0)), (21, vi .i64 step), (27, .c (C.row 148 0 r148.length)), (32, .c (C.ptr 32 0)), (33, .c (C.nil)), (153, .c (C.nil)), (154, vi .i64 t154), (155, vi .i64 t155)], [(11, .var ((qaA base).map C.t)), (12, .var ((qaA top).map C.t)), (17, .var [C.nil, C.nil]), (20, .var ((qaA power).map C.t)), (32, .var ((qaA next).map C.t)), (148, .row 101 1 (r148.map qaC) 0)], []⟩
  | .c16 base top power p k goal monic parts step => ⟨[(2, vi .u32 p), (3, vi .i64 k), (11, .c (C.ptr 11 0)), (12, .c (C.ptr 12 0)), (13, vl 2 goal qaA), (14, vl 1 monic qaG), (16, vl 1 parts qaG), (17, .c (C.ptr 17 0)), (20, .c (C.ptr 20 0)), (21, vi .i64 step)], [(11, .var ((qaA base).map C.t)), (12, .var ((qaA top).map C.t)), (17, .var [C.nil, C.nil]), (20, .var ((qaA power).map C.t))], []⟩
  | .c17 base top pair power next r148 p k goal monic parts step t153 t154 t155 => ⟨[(2, vi .u32 p), (3, vi .i64 k), (11, .c (C.ptr 11 0)), (12, .c (C.ptr 12 0)), (13, vl 2 goal qaA), (14, vl 1 monic qaG), (16, vl 1 parts qaG), (17, .c (C.ptr 17 0)), (20, .c (C.ptr 20 0)), (21, vi .i64 step), (27, .c (C.row 148 0 r148.length)), (32, .c (C.ptr 32 0)), (33, .c (C.nil)), (153, vl 1 t153 qaD), (154, vi .i64 t154), (155, vi .i64 t155)], [(11, .var ((qaA base).map C.t)), (12, .var ((qaA top).map C.t)), (17, .var [C.t (T.sl 1 (pair.map qaD)), C.nil]), (20, .var ((qaA power).map C.t)), (32, .var ((qaA next).map C.t)), (148, .row 101 1 (r148.map qaC) 0)], []⟩
  | .c18 base top pair power next r193 p k goal monic parts step t153 t154 t155 => ⟨[(2, vi .u32 p), (3, vi .i64 k), (11, .c (C.ptr 11 0)), (12, .c (C.ptr 12 0)), (13, vl 2 goal qaA), (14, vl 1 monic qaG), (16, vl 1 parts qaG), (17, .c (C.ptr 17 0)), (20, .c (C.ptr 20 0)), (21, vi .i64 step), (27, .c (C.nil)), (32, .c (C.ptr 32 0)), (33, .c (C.row 193 0 r193.length)), (153, vl 1 t153 qaD), (154, vi .i64 t154), (155, vi .i64 t155)], [(11, .var ((qaA base).map C.t)), (12, .var ((qaA top).map C.t)), (17, .var [C.t (T.sl 1 (pair.map qaD)), C.nil]), (20, .var ((qaA power).map C.t)), (32, .var ((qaA next).map C.t)), (193, .row 90 1 (r193.map qaD) 0)], []⟩
  | .c19 base top pair power p k goal monic parts step => ⟨[(2, vi .u32 p), (3, vi .i64 k), (11, .c (C.ptr 11 0)), (12, .c (C.ptr 12 0)), (13, vl 2 goal qaA), (14, vl 1 monic qaG), (16, vl 1 parts qaG), (17, .c (C.ptr 17 0)), (20, .c (C.ptr 20 0)), (21, vi .i64 step)], [(11, .var ((qaA base).map C.t)), (12, .var ((qaA top).map C.t)), (17, .var [C.t (T.sl 1 (pair.map qaD)), C.nil]), (20, .var ((qaA power).map C.t))], []⟩
  | .c20 base top pair power next r148 p k goal monic parts step t154 t155 => ⟨[(2, vi .u32 p), (3, vi .i64 k), (11, .c (C.ptr 11 0)), (12, .c (C.ptr 12 0)), (13, vl 2 goal qaA), (14, vl 1 monic qaG), (16, vl 1 parts qaG), (17, .c (C.ptr 17 0)), (20, .c (C.ptr 20 0)), (21, vi .i64 step), (27, .c (C.row 148 0 r148.length)), (32, .c (C.ptr 32 0)), (33, .c (C.nil)), (153, .c (C.nil)), (154, vi .i64 t154), (155, vi .i64 t155)], [(11, .var ((qaA base).map C.t)), (12, .var ((qaA top).map C.t)), (17, .var [C.t (T.sl 1 (pair.map qaD)), C.nil]), (20, .var ((qaA power).map C.t)), (32, .var ((qaA next).map C.t)), (148, .row 101 1 (r148.map qaC) 0)], []⟩
  | .c21 base top pair power next r193 p k goal monic parts step change t153 t154 t155 => ⟨[(2, vi .u32 p), (3, vi .i64 k), (11, .c (C.ptr 11 0)), (12, .c (C.ptr 12 0)), (13, vl 2 goal qaA), (14, vl 1 monic qaG), (16, vl 1 parts qaG), (17, .c (C.ptr 17 0)), (20, .c (C.ptr 20 0)), (21, vi .i64 step), (27, vl 1 change qaC), (32, .c (C.ptr 32 0)), (33, .c (C.row 193 0 r193.length)), (153, vl 1 t153 qaD), (154, vi .i64 t154), (155, vi .i64 t155)], [(11, .var ((qaA base).map C.t)), (12, .var ((qaA top).map C.t)), (17, .var [C.t (T.sl 1 (pair.map qaD)), C.nil]), (20, .var ((qaA power).map C.t)), (32, .var ((qaA next).map C.t)), (193, .row 90 1 (r193.map qaD) 0)], []⟩
  | .c22 base top power r193 p k goal monic parts step => ⟨[(2, vi .u32 p), (3, vi .i64 k), (11, .c (C.ptr 11 0)), (12, .c (C.ptr 12 0)), (13, vl 2 goal qaA), (14, vl 1 monic qaG), (16, vl 1 parts qaG), (17, .c (C.ptr 17 0)), (20, .c (C.ptr 20 0)), (21, vi .i64 step)], [(11, .var ((qaA base).map C.t)), (12, .var ((qaA top).map C.t)), (17, .var [C.row 193 0 r193.length, C.nil]), (20, .var ((qaA power).map C.t)), (193, .row 90 1 (r193.map qaD) 0)], []⟩
  | .c23 base top pair power r193 p k goal monic parts step => ⟨[(2, vi .u32 p), (3, vi .i64 k), (11, .c (C.ptr 11 0)), (12, .c (C.ptr 12 0)), (13, vl 2 goal qaA), (14, vl 1 monic qaG), (16, vl 1 parts qaG), (17, .c (C.ptr 17 0)), (20, .c (C.ptr 20 0)), (21, vi .i64 step)], [(11, .var ((qaA base).map C.t)), (12, .var ((qaA top).map C.t)), (17, .var [C.t (T.sl 1 (pair.map qaD)), C.row 193 0 r193.length]), (20, .var ((qaA power).map C.t)), (193, .row 90 1 (r193.map qaD) 0)], []⟩
  | .c24 base top pair power p k goal monic parts step => ⟨[(2, vi .u32 p), (3, vi .i64 k), (11, .c (C.ptr 11 0)), (12, .c (C.ptr 12 0)), (13, vl 2 goal qaA), (14, vl 1 monic qaG), (16, vl 1 parts qaG), (17, .c (C.ptr 17 0)), (20, .c (C.ptr 20 0)), (21, vi .i64 step)], [(11, .var ((qaA base).map C.t)), (12, .var ((qaA top).map C.t)), (17, .var ((qfL pair).map C.t)), (20, .var ((qaA power).map C.t))], []⟩
  | .c25 base top pair power p k goal monic parts step now t131 t132 t133 => ⟨[(2, vi .u32 p), (3, vi .i64 k), (11, .c (C.ptr 11 0)), (12, .c (C.ptr 12 0)), (13, vl 2 goal qaA), (14, vl 1 monic qaG), (16, vl 1 parts qaG), (17, .c (C.ptr 17 0)), (20, .c (C.ptr 20 0)), (21, vi .i64 step), (22, vl 1 now qaD), (27, .c (C.nil)), (131, vl 2 t131 qaA), (132, vi .i64 t132), (133, vi .i64 t133)], [(11, .var ((qaA base).map C.t)), (12, .var ((qaA top).map C.t)), (17, .var ((qfL pair).map C.t)), (20, .var ((qaA power).map C.t))], []⟩
  | .c26 base top pair power r148 p k goal monic parts step now t131 t132 t133 => ⟨[(2, vi .u32 p), (3, vi .i64 k), (11, .c (C.ptr 11 0)), (12, .c (C.ptr 12 0)), (13, vl 2 goal qaA), (14, vl 1 monic qaG), (16, vl 1 parts qaG), (17, .c (C.ptr 17 0)), (20, .c (C.ptr 20 0)), (21, vi .i64 step), (22, vl 1 now qaD), (27, .c (C.row 148 0 r148.length)), (131, vl 2 t131 qaA), (132, vi .i64 t132), (133, vi .i64 t133)], [(11, .var ((qaA base).map C.t)), (12, .var ((qaA top).map C.t)), (17, .var ((qfL pair).map C.t)), (20, .var ((qaA power).map C.t)), (148, .row 101 1 (r148.map qaC) 0)], []⟩
  | .c27 base top pair power next p k goal monic parts step t153 t154 t155 => ⟨[(2, vi .u32 p), (3, vi .i64 k), (11, .c (C.ptr 11 0)), (12, .c (C.ptr 12 0)), (13, vl 2 goal qaA), (14, vl 1 monic qaG), (16, vl 1 parts qaG), (17, .c (C.ptr 17 0)), (20, .c (C.ptr 20 0)), (21, vi .i64 step), (27, .c (C.nil)), (32, .c (C.ptr 32 0)), (33, .c (C.nil)), (153, vl 1 t153 qaD), (154, vi .i64 t154), (155, vi .i64 t155)], [(11, .var ((qaA base).map C.t)), (12, .var ((qaA top).map C.t)), (17, .var ((qfL pair).map C.t)), (20, .var ((qaA power).map C.t)), (32, .var ((qaA next).map C.t))], []⟩
  | .c28 base top pair power next r148 p k goal monic parts step t153 t154 t155 => ⟨[(2, vi .u32 p), (3, vi .i64 k), (11, .c (C.ptr 11 0)), (12, .c (C.ptr 12 0)), (13, vl 2 goal qaA), (14, vl 1 monic qaG), (16, vl 1 parts qaG), (17, .c (C.ptr 17 0)), (20, .c (C.ptr 20 0)), (21, vi .i64 step), (27, .c (C.row 148 0 r148.length)), (32, .c (C.ptr 32 0)), (33, .c (C.nil)), (153, vl 1 t153 qaD), (154, vi .i64 t154), (155, vi .i64 t155)], [(11, .var ((qaA base).map C.t)), (12, .var ((qaA top).map C.t)), (17, .var ((qfL pair).map C.t)), (20, .var ((qaA power).map C.t)), (32, .var ((qaA next).map C.t)), (148, .row 101 1 (r148.map qaC) 0)], []⟩
  | .c29 base top pair power next r193 p k goal monic parts step t153 t154 t155 => ⟨[(2, vi .u32 p), (3, vi .i64 k), (11, .c (C.ptr 11 0)), (12, .c (C.ptr 12 0)), (13, vl 2 goal qaA), (14, vl 1 monic qaG), (16, vl 1 parts qaG), (17, .c (C.ptr 17 0)), (20, .c (C.ptr 20 0)), (21, vi .i64 step), (27, .c (C.nil)), (32, .c (C.ptr 32 0)), (33, .c (C.row 193 0 r193.length)), (153, vl 1 t153 qaD), (154, vi .i64 t154), (155, vi .i64 t155)], [(11, .var ((qaA base).map C.t)), (12, .var ((qaA top).map C.t)), (17, .var ((qfL pair).map C.t)), (20, .var ((qaA power).map C.t)), (32, .var ((qaA next).map C.t)), (193, .row 90 1 (r193.map qaD) 0)], []⟩
  | .c30 base top pair power p k goal monic parts step => ⟨[(2, vi .u32 p), (3, vi .i64 k), (11, .c (C.ptr 11 0)), (12, .c (C.ptr 12 0)), (13, vl 2 goal qaA), (14, vl 1 monic qaG), (16, vl 1 parts qaG), (17, .c (C.ptr 17 0)), (20, .c (C.ptr 20 0)), (21, vi .i64 step)], [(11, .var ((qaA base).map C.t)), (12, .var ((qaA top).map C.t)), (17, .var [C.nil, C.t (T.sl 1 (pair.map qaD))]), (20, .var ((qaA power).map C.t))], []⟩
  | .c31 base top pair power next r193 p k goal monic parts step change t153 t154 t155 => ⟨[(2, vi .u32 p), (3, vi .i64 k), (11, .c (C.ptr 11 0)), (12, .c (C.ptr 12 0)), (13, vl 2 goal qaA), (14, vl 1 monic qaG), (16, vl 1 parts qaG), (17, .c (C.ptr 17 0)), (20, .c (C.ptr 20 0)), (21, vi .i64 step), (27, vl 1 change qaC), (32, .c (C.ptr 32 0)), (33, .c (C.row 193 0 r193.length)), (153, vl 1 t153 qaD), (154, vi .i64 t154), (155, vi .i64 t155)], [(11, .var ((qaA base).map C.t)), (12, .var ((qaA top).map C.t)), (17, .var ((qfL pair).map C.t)), (20, .var ((qaA power).map C.t)), (32, .var ((qaA next).map C.t)), (193, .row 90 1 (r193.map qaD) 0)], []⟩
  | .c32 base top pair power r193 p k goal monic parts step => ⟨[(2, vi .u32 p), (3, vi .i64 k), (11, .c (C.ptr 11 0)), (12, .c (C.ptr 12 0)), (13, vl 2 goal qaA), (14, vl 1 monic qaG), (16, vl 1 parts qaG), (17, .c (C.ptr 17 0)), (20, .c (C.ptr 20 0)), (21, vi .i64 step)], [(11, .var ((qaA base).map C.t)), (12, .var ((qaA top).map C.t)), (17, .var [C.row 193 0 r193.length, C.t (T.sl 1 (pair.map qaD))]), (20, .var ((qaA power).map C.t)), (193, .row 90 1 (r193.map qaD) 0)], []⟩
  | .c33 base top pair power p k goal monic parts step => ⟨[(2, vi .u32 p), (3, vi .i64 k), (11, .c (C.ptr 11 0)), (12, .c (C.ptr 12 0)), (13, vl 2 goal qaA), (14, vl 1 monic qaG), (16, vl 1 parts qaG), (17, .c (C.ptr 17 0)), (20, .c (C.ptr 20 0)), (21, vi .i64 step)], [(11, .var ((qaA base).map C.t)), (12, .var ((qaA top).map C.t)), (17, .var [C.nil, C.t (T.sl 1 (pair.map qaD))]), (20, .var ((qaA power).map C.t))], []⟩
  | .c34 base top pair power p k goal monic parts step t131 t132 t133 => ⟨[(2, vi .u32 p), (3, vi .i64 k), (11, .c (C.ptr 11 0)), (12, .c (C.ptr 12 0)), (13, vl 2 goal qaA), (14, vl 1 monic qaG), (16, vl 1 parts qaG), (17, .c (C.ptr 17 0)), (20, .c (C.ptr 20 0)), (21, vi .i64 step), (22, .c (C.nil)), (27, .c (C.nil)), (131, vl 2 t131 qaA), (132, vi .i64 t132), (133, vi .i64 t133)], [(11, .var ((qaA base).map C.t)), (12, .var ((qaA top).map C.t)), (17, .var [C.nil, C.t (T.sl 1 (pair.map qaD))]), (20, .var ((qaA power).map C.t))], []⟩
  | .c35 base top pair power p k goal monic parts step now t131 t132 t133 => ⟨[(2, vi .u32 p), (3, vi .i64 k), (11, .c (C.ptr 11 0)), (12, .c (C.ptr 12 0)), (13, vl 2 goal qaA), (14, vl 1 monic qaG), (16, vl 1 parts qaG), (17, .c (C.ptr 17 0)), (20, .c (C.ptr 20 0)), (21, vi .i64 step), (22, vl 1 now qaD), (27, .c (C.nil)), (131, vl 2 t131 qaA), (132, vi .i64 t132), (133, vi .i64 t133)], [(11, .var ((qaA base).map C.t)), (12, .var ((qaA top).map C.t)), (17, .var [C.nil, C.t (T.sl 1 (pair.map qaD))]), (20, .var ((qaA power).map C.t))], []⟩
  | .c36 base top pair power r148 p k goal monic parts step t131 t132 t133 => ⟨[(2, vi .u32 p), (3, vi .i64 k), (11, .c (C.ptr 11 0)), (12, .c (C.ptr 12 0)), (13, vl 2 goal qaA), (14, vl 1 monic qaG), (16, vl 1 parts qaG), (17, .c (C.ptr 17 0)), (20, .c (C.ptr 20 0)), (21, vi .i64 step), (22, .c (C.nil)), (27, .c (C.row 148 0 r148.length)), (131, vl 2 t131 qaA), (132, vi .i64 t132), (133, vi .i64 t133)], [(11, .var ((qaA base).map C.t)), (12, .var ((qaA top).map C.t)), (17, .var [C.nil, C.t (T.sl 1 (pair.map qaD))]), (20, .var ((qaA power).map C.t)), (148, .row 101 1 (r148.map qaC) 0)], []⟩
  | .c37 base top pair power next p k goal monic parts step t154 t155 => ⟨[(2, vi .u32 p), (3, vi .i64 k), (11, .c (C.ptr 11 0)), (12, .c (C.ptr 12 0)), (13, vl 2 goal qaA), (14, vl 1 monic qaG), (16, vl 1 parts qaG), (17, .c (C.ptr 17 0)), (20, .c (C.ptr 20 0)), (21, vi .i64 step), (27, .c (C.nil)), (32, .c (C.ptr 32 0)), (33, .c (C.nil)), (153, .c (C.nil)), (154, vi .i64 t154), (155, vi .i64 t155)], [(11, .var ((qaA base).map C.t)), (12, .var ((qaA top).map C.t)), (17, .var [C.nil, C.t (T.sl 1 (pair.map qaD))]), (20, .var ((qaA power).map C.t)), (32, .var ((qaA next).map C.t))], []⟩
  | .c38 base top pair power r148 p k goal monic parts step now t131 t132 t133 => ⟨[(2, vi .u32 p), (3, vi .i64 k), (11, .c (C.ptr 11 0)), (12, .c (C.ptr 12 0)), (13, vl 2 goal qaA), (14, vl 1 monic qaG), (16, vl 1 parts qaG), (17, .c (C.ptr 17 0)), (20, .c (C.ptr 20 0)), (21, vi .i64 step), (22, vl 1 now qaD), (27, .c (C.row 148 0 r148.length)), (131, vl 2 t131 qaA), (132, vi .i64 t132), (133, vi .i64 t133)], [(11, .var ((qaA base).map C.t)), (12, .var ((qaA top).map C.t)), (17, .var [C.nil, C.t (T.sl 1 (pair.map qaD))]), (20, .var ((qaA power).map C.t)), (148, .row 101 1 (r148.map qaC) 0)], []⟩
  | .c39 base top pair power next p k goal monic parts step t153 t154 t155 => ⟨[(2, vi .u32 p), (3, vi .i64 k), (11, .c (C.ptr 11 0)), (12, .c (C.ptr 12 0)), (13, vl 2 goal qaA), (14, vl 1 monic qaG), (16, vl 1 parts qaG), (17, .c (C.ptr 17 0)), (20, .c (C.ptr 20 0)), (21, vi .i64 step), (27, .c (C.nil)), (32, .c (C.ptr 32 0)), (33, .c (C.nil)), (153, vl 1 t153 qaD), (154, vi .i64 t154), (155, vi .i64 t155)], [(11, .var ((qaA base).map C.t)), (12, .var ((qaA top).map C.t)), (17, .var [C.nil, C.t (T.sl 1 (pair.map qaD))]), (20, .var ((qaA power).map C.t)), (32, .var ((qaA next).map C.t))], []⟩
  | .c40 base top pair power next r148 p k goal monic parts step t154 t155 => ⟨[(2, vi .u32 p), (3, vi .i64 k), (11, .c (C.ptr 11 0)), (12, .c (C.ptr 12 0)), (13, vl 2 goal qaA), (14, vl 1 monic qaG), (16, vl 1 parts qaG), (17, .c (C.ptr 17 0)), (20, .c (C.ptr 20 0)), (21, vi .i64 step), (27, .c (C.row 148 0 r148.length)), (32, .c (C.ptr 32 0)), (33, .c (C.nil)), (153, .c (C.nil)), (154, vi .i64 t154), (155, vi .i64 t155)], [(11, .var ((qaA base).map C.t)), (12, .var ((qaA top).map C.t)), (17, .var [C.nil, C.t (T.sl 1 (pair.map qaD))]), (20, .var ((qaA power).map C.t)), (32, .var ((qaA next).map C.t)), (148, .row 101 1 (r148.map qaC) 0)], []⟩
  | .c41 base top pair power next r148 p k goal monic parts step t153 t154 t155 => ⟨[(2, vi .u32 p), (3, vi .i64 k), (11, .c (C.ptr 11 0)), (12, .c (C.ptr 12 0)), (13, vl 2 goal qaA), (14, vl 1 monic qaG), (16, vl 1 parts qaG), (17, .c (C.ptr 17 0)), (20, .c (C.ptr 20 0)), (21, vi .i64 step), (27, .c (C.row 148 0 r148.length)), (32, .c (C.ptr 32 0)), (33, .c (C.nil)), (153, vl 1 t153 qaD), (154, vi .i64 t154), (155, vi .i64 t155)], [(11, .var ((qaA base).map C.t)), (12, .var ((qaA top).map C.t)), (17, .var [C.nil, C.t (T.sl 1 (pair.map qaD))]), (20, .var ((qaA power).map C.t)), (32, .var ((qaA next).map C.t)), (148, .row 101 1 (r148.map qaC) 0)], []⟩
  | .c42 base top pair power next r193 p k goal monic parts step t153 t154 t155 => ⟨[(2, vi .u32 p), (3, vi .i64 k), (11, .c (C.ptr 11 0)), (12, .c (C.ptr 12 0)), (13, vl 2 goal qaA), (14, vl 1 monic qaG), (16, vl 1 parts qaG), (17, .c (C.ptr 17 0)), (20, .c (C.ptr 20 0)), (21, vi .i64 step), (27, .c (C.nil)), (32, .c (C.ptr 32 0)), (33, .c (C.row 193 0 r193.length)), (153, vl 1 t153 qaD), (154, vi .i64 t154), (155, vi .i64 t155)], [(11, .var ((qaA base).map C.t)), (12, .var ((qaA top).map C.t)), (17, .var [C.nil, C.t (T.sl 1 (pair.map qaD))]), (20, .var ((qaA power).map C.t)), (32, .var ((qaA next).map C.t)), (193, .row 90 1 (r193.map qaD) 0)], []⟩
  | .c43 base top pair power next r193 p k goal monic parts step change t153 t154 t155 => ⟨[(2, vi .u32 p), (3, vi .i64 k), (11, .c (C.ptr 11 0)), (12, .c (C.ptr 12 0)), (13, vl 2 goal qaA), (14, vl 1 monic qaG), (16, vl 1 parts qaG), (17, .c (C.ptr 17 0)), (20, .c (C.ptr 20 0)), (21, vi .i64 step), (27, vl 1 change qaC), (32, .c (C.ptr 32 0)), (33, .c (C.row 193 0 r193.length)), (153, vl 1 t153 qaD), (154, vi .i64 t154), (155, vi .i64 t155)], [(11, .var ((qaA base).map C.t)), (12, .var ((qaA top).map C.t)), (17, .var [C.nil, C.t (T.sl 1 (pair.map qaD))]), (20, .var ((qaA power).map C.t)), (32, .var ((qaA next).map C.t)), (193, .row 90 1 (r193.map qaD) 0)], []⟩
  | .c44 base top power r193 p k goal monic parts step => ⟨[(2, vi .u32 p), (3, vi .i64 k), (11, .c (C.ptr 11 0)), (12, .c (C.ptr 12 0)), (13, vl 2 goal qaA), (14, vl 1 monic qaG), (16, vl 1 parts qaG), (17, .c (C.ptr 17 0)), (20, .c (C.ptr 20 0)), (21, vi .i64 step)], [(11, .var ((qaA base).map C.t)), (12, .var ((qaA top).map C.t)), (17, .var [C.nil, C.row 193 0 r193.length]), (20, .var ((qaA power).map C.t)), (193, .row 90 1 (r193.map qaD) 0)], []⟩
def qa4 (cx : Cx) (c : qqO) (r : ((List (List qaB)) × Int)) : Prop := Wk prog cx (qcT prog 62 [[1], [0]] (TV.tup [(false, [(T.sl 1 (r.1.map qaD))]), (false, [(T.int .i64 r.2)])])) (hensel_Lift_pos c) .normal (hensel_Lift_st c)
abbrev qa5 (K : Nat) : Prop := ∀ c r, qaF K c = some r → ∀ cx : Cx, cx.n = 208 → qa4 cx c r
theorem hensel_Lift_c0 {K} (ih : qa5 K) {cx} (hn : cx.n = 208) {f list p k} {r} (h : qaF (K + 1) (.c0 f list p k) = some r) : qa4 cx (.c0 f list p k) r := by
  rw [qaF] at h
  obtain ⟨x1, h2, h⟩ := qaH h
  rcases qaK h with ⟨h3, h⟩ | ⟨h3, h⟩
  · skip
    have h := Option.some.inj h; subst h
    exact qaN (fuel := 76) [rgG [oo, oo], rgG [oo, opI (.call [[0]] [(ti .u32 p)] (TV.c (T.bool x1))), oo, oo, .sb 43 true, oo, oo, oo], .br true, rgG [oo, oo]] _ hn (by kernel_rfl) (aC (qbJ h2) <| aC h3 <| aC rt <| aN)
  · skip
    rcases qaK h with ⟨h4, h⟩ | ⟨h4, h⟩
    · skip
      have h := Option.some.inj h; subst h
      exact qaN (fuel := 76) [rgG [oo, oo], rgG [oo, opI (.call [[0]] [(ti .u32 p)] (TV.c (T.bool x1))), oo, oo, .sb 43 false, oo, oo, oo], .br true, rgG [oo, oo]] _ hn (by kernel_rfl) (aC (qbJ h2) <| aC h3 <| aC h4 <| aN)
    · skip
      obtain ⟨x5, h6, h⟩ := qaH h
      rcases qaK h with ⟨h7, h⟩ | ⟨h7, h⟩
      · skip
        have h := Option.some.inj h; subst h
        exact qaN (fuel := 102) [rgG [oo, oo], rgG [oo, opI (.call [[0]] [(ti .u32 p)] (TV.c (T.bool x1))), oo, oo, .sb 43 false, oo, oo, oo], .br false, rgG [oo, oo, opI (.call [[1], [0]] [(tl 1 list qaG), (ti .u32 p)] (ti .i64 x5)), oo], rgG [oo, oo], .br true, rgG [oo, oo, oo]] _ hn (by kernel_rfl) (aC (qbJ h2) <| aC h3 <| aC h4 <| aC (qqM h6) <| aC h7 <| aN)
      · skip
        obtain ⟨x8, h9, h⟩ := qaH h
        obtain ⟨x10, h11, h⟩ := qaH h
        rcases qaK h with ⟨h12, h⟩ | ⟨h12, h⟩
        · skip
          have h := Option.some.inj h; subst h
          exact qaN (fuel := 120) [rgG [oo, oo], rgG [oo, opI (.call [[0]] [(ti .u32 p)] (TV.c (T.bool x1))), oo, oo, .sb 43 false, oo, oo, oo], .br false, rgG [oo, oo, opI (.call [[1], [0]] [(tl 1 list qaG), (ti .u32 p)] (ti .i64 x5)), oo], rgG [oo, oo], .br false, rgG [oo, opI (.call [[2]] [(tl 2 f qaA)] (TV.agg (qaA x8))), oo, opI (.call [[0,1], [0]] [(TV.agg (qaA x8)), (ti .u32 p)] (ti .u32 x10)), oo], .br true, rgG [oo, oo]] _ hn (by kernel_rfl) (aC (qbJ h2) <| aC h3 <| aC h4 <| aC (qqM h6) <| aC h7 <| aC (qk8 h9) <| aC (qbD h11) <| aC h12 <| aN)
        · skip
          obtain ⟨x13, h14, h⟩ := qaH h
          exact qaU (fuel := 136) [rgG [oo, oo], rgG [oo, opI (.call [[0]] [(ti .u32 p)] (TV.c (T.bool x1))), oo, oo, .sb 43 false, oo, oo, oo], .br false, rgG [oo, oo, opI (.call [[1], [0]] [(tl 1 list qaG), (ti .u32 p)] (ti .i64 x5)), oo], rgG [oo, oo], .br false, rgG [oo, opI (.call [[2]] [(tl 2 f qaA)] (TV.agg (qaA x8))), oo, opI (.call [[0,1], [0]] [(TV.agg (qaA x8)), (ti .u32 p)] (ti .u32 x10)), oo], .br false, rgG [oo, oo, opI (.call [[0]] [(TV.c (T.int .i64 (wI6 p)))] (TV.agg (qaA x13))), oo, oo], rgG [oo, oo, oo], rgG [oo, oo, oo], .pre [.keep [0,1,2,3,11,12,63,64] [11,12]]] _ hn (by kernel_rfl) (aC (qbJ h2) <| aC h3 <| aC h4 <| aC (qqM h6) <| aC h7 <| aC (qk8 h9) <| aC (qbD h11) <| aC h12 <| aC (qfH h14) <| aN) (ih _ _ h cx hn)
theorem hensel_Lift_c1 {K} (ih : qa5 K) {cx} (hn : cx.n = 208) {base top f list p k t63 t64} {r} (h : qaF (K + 1) (.c1 base top f list p k t63 t64) = some r) : qa4 cx (.c1 base top f list p k t63 t64) r := by
  rw [qaF] at h
  rcases qaK h with ⟨h1, h⟩ | ⟨h1, h⟩
  · skip
    obtain ⟨x2, h3, h⟩ := qaH h
    exact qaU (fuel := 82) [.go, rgG [oo], .br true, rgG [oo, oo, opI (.call [[0,1], [0,1]] [(TV.agg (qaA top)), (TV.agg (qaA base))] (TV.agg (qaA x2))), oo], rgG [oo, oo], .pre [.keep [0,1,2,3,11,12,63,64] [11,12]]] _ hn (by kernel_rfl) (aC h1 <| aC (qbT h3) <| aN) (ih _ _ h cx hn)
  · skip
    obtain ⟨x2, h3, h⟩ := qaH h
    rcases qaK h with ⟨h4, h⟩ | ⟨h4, h⟩
    · skip
      have h := Option.some.inj h; subst h
      exact qaN (fuel := 106) [.go, rgG [oo], .br false, rgG [oo, oo, oo, oo, opI (.call [[2], [1], [0], [0,1]] [(tl 2 f qaA), (tl 1 list qaG), (ti .u32 p), (TV.agg (qaA top))] (TV.tup [(false, [(T.sl 2 (x2.1.map qaA))]), (false, [(T.sl 1 (x2.2.1.map qaG))]), (false, [(T.int .i64 x2.2.2)])])), oo, oo, oo, oo, oo, oo, oo], rgG [oo, oo], .br true, rgG [oo, oo, oo]] _ hn (by kernel_rfl) (aC h1 <| aC (qvU h3) <| aC h4 <| aN)
    · skip
      obtain ⟨x5, h6, h⟩ := qaH h
      exact qaU (fuel := 122) [.go, rgG [oo], .br false, rgG [oo, oo, oo, oo, opI (.call [[2], [1], [0], [0,1]] [(tl 2 f qaA), (tl 1 list qaG), (ti .u32 p), (TV.agg (qaA top))] (TV.tup [(false, [(T.sl 2 (x2.1.map qaA))]), (false, [(T.sl 1 (x2.2.1.map qaG))]), (false, [(T.int .i64 x2.2.2)])])), oo, oo, oo, oo, oo, oo, oo], rgG [oo, oo], .br false, rgG [oo, oo, opI (.call [[1], [0]] [(TV.c (T.sl 1 (x2.2.1.map qaG))), (ti .u32 p)] (tl 1 x5 qaG)), oo], rgG [oo], rgG [oo, opI (.ln (x2.2.1.length : Int)), oo], .pre [.keep [2,3,11,12,13,14,16,17,85,86,87] [11,12,17]]] _ hn (by kernel_rfl) (aC h1 <| aC (qvU h3) <| aC h4 <| aC (hensel_cofactors_holds h6) <| aC (qaT x2.2.1 qaG) <| aN) (ih _ _ h cx hn)
theorem hensel_Lift_c2 {K} (ih : qa5 K) {cx} (hn : cx.n = 208) {base top p k goal monic parts t85 t86 t87} {r} (h : qaF (K + 1) (.c2 base top p k goal monic parts t85 t86 t87) = some r) : qa4 cx (.c2 base top p k goal monic parts t85 t86 t87) r := by
  rw [qaF] at h
  rcases qaK h with ⟨h1, h⟩ | ⟨h1, h⟩
  · skip
    obtain ⟨x2, h3, h⟩ := qaH h
    obtain ⟨x4, h5, h⟩ := qaH h
    exact qaU (fuel := 90) [.go, rgG [oo], .br true, rgG [opI (.ix (qaG x2)), oo, oo], .draw [.p, .p, .p, .p, (.call [[1], [0]] [(tl 1 x2 qaC), (ti .u32 p)] (tl 2 x4 qaA)), (.litT (([x4] : List (List qaB)).map qaD))] [opI (.appN (([x4] : List (List qaB)).map qaD)), .op .p, .op .p], rgG [oo, oo], .pre [.rlB 17 0 0 ([x4] : List (List qaB)).length, .keep [2,3,11,12,13,14,16,17,85,86,87] [11,12,17,97]]] _ hn (by kernel_rfl) (aC h1 <| aC (qa0 h3) <| aC (qbH qaG h3) <| aC (qbS h5) <| aC (by kernel_rfl : [(T.sl 2 (x4.map qaA))] = (([x4] : List (List qaB)).map qaD).flatten) <| aC (rfl : ([x4] : List (List qaB)).map qaD = ([x4] : List (List qaB)).map qaD) <| aC (by simp : 0 < (([x4] : List (List qaB)).map qaD).length) <| aC (by simp : (([x4] : List (List qaB)).map qaD).length * 24 ≤ 140737488355328) <| aC (by simp [maxLen] : (([x4] : List (List qaB)).map qaD).length ≤ maxLen) <| aC r0 <| aC (by simp : (([x4] : List (List qaB)).map qaD).length = ([x4] : List (List qaB)).length) <| aN) (ih _ _ h cx hn)
  · skip
    exact qaU (fuel := 92) [.go, rgG [oo], .br false, rgG [oo, oo, oo], rgG [oo], .pre [.keep [2,3,11,12,13,14,16,17,20,21] [11,12,17,20]]] _ hn (by kernel_rfl) (aC h1 <| aN) (ih _ _ h cx hn)
theorem hensel_Lift_c3 {K} (ih : qa5 K) {cx} (hn : cx.n = 208) {base top r97 p k goal monic parts t85 t86 t87} {r} (h : qaF (K + 1) (.c3 base top r97 p k goal monic parts t85 t86 t87) = some r) : qa4 cx (.c3 base top r97 p k goal monic parts t85 t86 t87) r := by
  rw [qaF] at h
  rcases qaK h with ⟨h1, h⟩ | ⟨h1, h⟩
  · skip
    obtain ⟨x2, h3, h⟩ := qaH h
    obtain ⟨x4, h5, h⟩ := qaH h
    obtain ⟨h6, h⟩ := qbE h
    exact qaU (fuel := 90) [.go, rgG [oo], .br true, rgG [opI (.ix (qaG x2)), oo, oo], .pre [.keep [2,3,11,12,13,14,16,17,19,85,86,87] [11,12,17,97]], .draw [.p, .p, .p, .p, (.call [[1], [0]] [(tl 1 x2 qaC), (ti .u32 p)] (tl 2 x4 qaA)), (.litT (([x4] : List (List qaB)).map qaD))] [.appR (([x4] : List (List qaB)).map qaD) ((r97 ++ ([x4] : List (List qaB))).map qaD), .op .p, .op .p], rgG [oo, oo], .pre [.rlB 17 0 0 (r97 ++ ([x4] : List (List qaB))).length, .keep [2,3,11,12,13,14,16,17,85,86,87] [11,12,17,97]]] _ hn (by kernel_rfl) (aC h1 <| aC (qa0 h3) <| aC (qbH qaG h3) <| aC (qbS h5) <| aC (by kernel_rfl : [(T.sl 2 (x4.map qaA))] = (([x4] : List (List qaB)).map qaD).flatten) <| aC (by simp : r97.length = (r97.map qaD).length) <| aC (rfl : ([x4] : List (List qaB)).map qaD = ([x4] : List (List qaB)).map qaD) <| aC (qmF _ _ _ : r97.map qaD ++ ([x4] : List (List qaB)).map qaD = (r97 ++ ([x4] : List (List qaB))).map qaD) <| aC ((qc4 _ _).symm ▸ h6 : ((r97 ++ ([x4] : List (List qaB))).map qaD).length * 24 ≤ 140737488355328) <| aC ((qc4 _ _).symm ▸ room (by decide) h6 : ((r97 ++ ([x4] : List (List qaB))).map qaD).length ≤ maxLen) <| aC r0 <| aC (by simp : ((r97 ++ ([x4] : List (List qaB))).map qaD).length = (r97 ++ ([x4] : List (List qaB))).length) <| aN) (ih _ _ h cx hn)
  · skip
    exact qaU (fuel := 92) [.go, rgG [oo], .br false, rgG [oo, oo, oo], rgG [oo], .pre [.snapC 17 0 (max 0 (0 + r97.length)) (r97.map qaD)], .pre [.keep [2,3,11,12,13,14,16,17,20,21] [11,12,17,20]]] _ hn (by kernel_rfl) (aC h1 <| aC (qbI _ _ _ (by simp) : ((r97.map qaD).drop 0).take r97.length = r97.map qaD) <| aC (rfl : (max 0 (0 + r97.length)) = (max 0 (0 + r97.length))) <| aN) (ih _ _ h cx hn)
theorem hensel_Lift_c4 {K} (ih : qa5 K) {cx} (hn : cx.n = 208) {base top power p k goal monic parts step} {r} (h : qaF (K + 1) (.c4 base top power p k goal monic parts step) = some r) : qa4 cx (.c4 base top power p k goal monic parts step) r := by
  rw [qaF] at h
  rcases qaK h with ⟨h1, h⟩ | ⟨h1, h⟩
  · skip
    rcases qaK h with ⟨h2, h⟩ | ⟨h2, h⟩
    · skip
      have h := Option.some.inj h; subst h
      exact qaN (fuel := 106) [.go, rgG [oo, oo, oo, oo, .sb 106 true, oo, oo, oo, oo], .br true, rgG [oo, opI (.ln (monic.length : Int)), oo], .br true, rgG [oo, oo]] _ hn (by kernel_rfl) (aC h1 <| aC rt <| aC (qaT monic qaG) <| aC h2 <| aN)
    · skip
      rcases qaK h with ⟨h3, h⟩ | ⟨h3, h⟩
      · skip
        have h := Option.some.inj h; subst h
        exact qaN (fuel := 106) [.go, rgG [oo, oo, oo, oo, .sb 106 true, oo, oo, oo, oo], .br true, rgG [oo, opI (.ln (monic.length : Int)), oo], .br false, rgG [oo, oo, oo, opI (.ia 0), oo, oo, oo]] _ hn (by kernel_rfl) (aC h1 <| aC rt <| aC (qaT monic qaG) <| aC h2 <| aC (of_decide_eq_true h3 : (Int.tmod (wI6 (k - (1 : Int))) (2 : Int)) = ((0 : Nat) : Int)) <| aN)
      · skip
        rcases qaK h with ⟨h4, h⟩ | ⟨h4, h⟩
        · skip
          have h := Option.some.inj h; subst h
          exact qaN (fuel := 106) [.go, rgG [oo, oo, oo, oo, .sb 106 true, oo, oo, oo, oo], .br true, rgG [oo, opI (.ln (monic.length : Int)), oo], .br false, rgG [oo, oo, oo, opI (.ia 1), oo, oo, oo]] _ hn (by kernel_rfl) (aC h1 <| aC rt <| aC (qaT monic qaG) <| aC h2 <| aC (of_decide_eq_true h4 : (Int.tmod (wI6 (k - (1 : Int))) (2 : Int)) = ((1 : Nat) : Int)) <| aN)
        · skip
          cases h
  · skip
    rcases qaK h with ⟨h2, h⟩ | ⟨h2, h⟩
    · skip
      rcases qaK h with ⟨h3, h⟩ | ⟨h3, h⟩
      · skip
        have h := Option.some.inj h; subst h
        exact qaN (fuel := 106) [.go, rgG [oo, oo, oo, oo, .sb 106 false, oo, opI (.ln (monic.length : Int)), oo, oo], .br true, rgG [oo, opI (.ln (monic.length : Int)), oo], .br true, rgG [oo, oo]] _ hn (by kernel_rfl) (aC h1 <| aC (qaT monic qaG) <| aC h2 <| aC (qaT monic qaG) <| aC h3 <| aN)
      · skip
        rcases qaK h with ⟨h4, h⟩ | ⟨h4, h⟩
        · skip
          have h := Option.some.inj h; subst h
          exact qaN (fuel := 106) [.go, rgG [oo, oo, oo, oo, .sb 106 false, oo, opI (.ln (monic.length : Int)), oo, oo], .br true, rgG [oo, opI (.ln (monic.length : Int)), oo], .br false, rgG [oo, oo, oo, opI (.ia 0), oo, oo, oo]] _ hn (by kernel_rfl) (aC h1 <| aC (qaT monic qaG) <| aC h2 <| aC (qaT monic qaG) <| aC h3 <| aC (of_decide_eq_true h4 : (Int.tmod (wI6 (k - (1 : Int))) (2 : Int)) = ((0 : Nat) : Int)) <| aN)
        · skip
          rcases qaK h with ⟨h5, h⟩ | ⟨h5, h⟩
          · skip
            have h := Option.some.inj h; subst h
            exact qaN (fuel := 106) [.go, rgG [oo, oo, oo, oo, .sb 106 false, oo, opI (.ln (monic.length : Int)), oo, oo], .br true, rgG [oo, opI (.ln (monic.length : Int)), oo], .br false, rgG [oo, oo, oo, opI (.ia 1), oo, oo, oo]] _ hn (by kernel_rfl) (aC h1 <| aC (qaT monic qaG) <| aC h2 <| aC (qaT monic qaG) <| aC h3 <| aC (of_decide_eq_true h5 : (Int.tmod (wI6 (k - (1 : Int))) (2 : Int)) = ((1 : Nat) : Int)) <| aN)
          · skip
            cases h
    · skip
      rcases qaK h with ⟨h3, h⟩ | ⟨h3, h⟩
      · skip
        obtain ⟨x4, h5, h⟩ := qaH h
        obtain ⟨x6, h7, h⟩ := qaH h
        obtain ⟨x8, h9, h⟩ := qaH h
        exact qaU (fuel := 110) [.go, rgG [oo, oo, oo, oo, .sb 106 false, oo, opI (.ln (monic.length : Int)), oo, oo], .br false, rgG [oo, oo, oo, opI (.ia 0), oo, oo], rgG [oo, oo, opI (.call [[1], [0,1]] [(TV.c (T.sl 1 ([].map qaD))), (TV.agg (qaA top))] (TV.tup [(false, [(T.sl 2 (x4.1.map qaA))]), (false, [(T.int .i64 x4.2)])])), oo, oo, oo, oo, oo], .draw [.p, .p, (.call [[2], [2]] [(tl 2 goal qaA), (tl 2 x4.1 qaA)] (tl 2 x6 qaA)), .p, (.call [[2], [0,1]] [(tl 2 x6 qaA), (TV.agg (qaA top))] (TV.tup [(false, [(T.sl 2 (x8.1.map qaA))]), (false, [(T.int .i64 x8.2)])])), .p, .p, .p, .p] [.op .p], rgG [.op .lit0, oo], rgG [oo, opI (.ln (x8.1.length : Int)), oo], .pre [.keep [2,3,11,12,13,14,16,17,20,21,22,27,131,132,133] [11,12,17,20]]] _ hn (by kernel_rfl) (aC h1 <| aC (qaT monic qaG) <| aC h2 <| aC (of_decide_eq_true h3 : (Int.tmod (wI6 (step - (1 : Int))) (2 : Int)) = ((0 : Nat) : Int)) <| aC (qaZ h5) <| aC (qeX h7) <| aC (qaV h9) <| aC (qaT x8.1 qaA) <| aN) (ih _ _ h cx hn)
      · skip
        rcases qaK h with ⟨h4, h⟩ | ⟨h4, h⟩
        · skip
          obtain ⟨x5, h6, h⟩ := qaH h
          obtain ⟨x7, h8, h⟩ := qaH h
          obtain ⟨x9, h10, h⟩ := qaH h
          exact qaU (fuel := 110) [.go, rgG [oo, oo, oo, oo, .sb 106 false, oo, opI (.ln (monic.length : Int)), oo, oo], .br false, rgG [oo, oo, oo, opI (.ia 1), oo, oo], rgG [oo, oo, opI (.call [[1], [0,1]] [(TV.c (T.sl 1 ([].map qaD))), (TV.agg (qaA top))] (TV.tup [(false, [(T.sl 2 (x5.1.map qaA))]), (false, [(T.int .i64 x5.2)])])), oo, oo, oo, oo, oo], .draw [.p, .p, (.call [[2], [2]] [(tl 2 goal qaA), (tl 2 x5.1 qaA)] (tl 2 x7 qaA)), .p, (.call [[2], [0,1]] [(tl 2 x7 qaA), (TV.agg (qaA top))] (TV.tup [(false, [(T.sl 2 (x9.1.map qaA))]), (false, [(T.int .i64 x9.2)])])), .p, .p, .p, .p] [.op .p], rgG [.op .lit0, oo], rgG [oo, opI (.ln (x9.1.length : Int)), oo], .pre [.keep [2,3,11,12,13,14,16,17,20,21,22,27,131,132,133] [11,12,17,20]]] _ hn (by kernel_rfl) (aC h1 <| aC (qaT monic qaG) <| aC h2 <| aC (of_decide_eq_true h4 : (Int.tmod (wI6 (step - (1 : Int))) (2 : Int)) = ((1 : Nat) : Int)) <| aC (qaZ h6) <| aC (qeX h8) <| aC (qaV h10) <| aC (qaT x9.1 qaA) <| aN) (ih _ _ h cx hn)
        · skip
          cases h
theorem hensel_Lift_c5 {K} (ih : qa5 K) {cx} (hn : cx.n = 208) {base top pair power p k goal monic parts step} {r} (h : qaF (K + 1) (.c5 base top pair power p k goal monic parts step) = some r) : qa4 cx (.c5 base top pair power p k goal monic parts step) r := by
  rw [qaF] at h
  rcases qaK h with ⟨h1, h⟩ | ⟨h1, h⟩
  · skip
    rcases qaK h with ⟨h2, h⟩ | ⟨h2, h⟩
    · skip
      have h := Option.some.inj h; subst h
      exact qaN (fuel := 106) [.go, rgG [oo, oo, oo, oo, .sb 106 true, oo, oo, oo, oo], .br true, rgG [oo, opI (.ln (monic.length : Int)), oo], .br true, rgG [oo, oo]] _ hn (by kernel_rfl) (aC h1 <| aC rt <| aC (qaT monic qaG) <| aC h2 <| aN)
    · skip
      rcases qaK h with ⟨h3, h⟩ | ⟨h3, h⟩
      · skip
        have h := Option.some.inj h; subst h
        exact qaN (fuel := 106) [.go, rgG [oo, oo, oo, oo, .sb 106 true, oo, oo, oo, oo], .br true, rgG [oo, opI (.ln (monic.length : Int)), oo], .br false, rgG [oo, oo, oo, opI (.ia 0), oo, oo, oo]] _ hn (by kernel_rfl) (aC h1 <| aC rt <| aC (qaT monic qaG) <| aC h2 <| aC (of_decide_eq_true h3 : (Int.tmod (wI6 (k - (1 : Int))) (2 : Int)) = ((0 : Nat) : Int)) <| aN)
      · skip
        rcases qaK h with ⟨h4, h⟩ | ⟨h4, h⟩
        · skip
          have h := Option.some.inj h; subst h
          exact qaN (fuel := 106) [.go, rgG [oo, oo, oo, oo, .sb 106 true, oo, oo, oo, oo], .br true, rgG [oo, opI (.ln (monic.length : Int)), oo], .br false, rgG [oo, oo, oo, opI (.ia 1), oo, oo, oo]] _ hn (by kernel_rfl) (aC h1 <| aC rt <| aC (qaT monic qaG) <| aC h2 <| aC (of_decide_eq_true h4 : (Int.tmod (wI6 (k - (1 : Int))) (2 : Int)) = ((1 : Nat) : Int)) <| aN)
        · skip
          cases h
  · skip
    rcases qaK h with ⟨h2, h⟩ | ⟨h2, h⟩
    · skip
      rcases qaK h with ⟨h3, h⟩ | ⟨h3, h⟩
      · skip
        have h := Option.some.inj h; subst h
        exact qaN (fuel := 106) [.go, rgG [oo, oo, oo, oo, .sb 106 false, oo, opI (.ln (monic.length : Int)), oo, oo], .br true, rgG [oo, opI (.ln (monic.length : Int)), oo], .br true, rgG [oo, oo]] _ hn (by kernel_rfl) (aC h1 <| aC (qaT monic qaG) <| aC h2 <| aC (qaT monic qaG) <| aC h3 <| aN)
      · skip
        rcases qaK h with ⟨h4, h⟩ | ⟨h4, h⟩
        · skip
          have h := Option.some.inj h; subst h
          exact qaN (fuel := 106) [.go, rgG [oo, oo, oo, oo, .sb 106 false, oo, opI (.ln (monic.length : Int)), oo, oo], .br true, rgG [oo, opI (.ln (monic.length : Int)), oo], .br false, rgG [oo, oo, oo, opI (.ia 0), oo, oo, oo]] _ hn (by kernel_rfl) (aC h1 <| aC (qaT monic qaG) <| aC h2 <| aC (qaT monic qaG) <| aC h3 <| aC (of_decide_eq_true h4 : (Int.tmod (wI6 (k - (1 : Int))) (2 : Int)) = ((0 : Nat) : Int)) <| aN)
        · skip
          rcases qaK h with ⟨h5, h⟩ | ⟨h5, h⟩
          · skip
            have h := Option.some.inj h; subst h
            exact qaN (fuel := 106) [.go, rgG [oo, oo, oo, oo, .sb 106 false, oo, opI (.ln (monic.length : Int)), oo, oo], .br true, rgG [oo, opI (.ln (monic.length : Int)), oo], .br false, rgG [oo, oo, oo, opI (.ia 1), oo, oo, oo]] _ hn (by kernel_rfl) (aC h1 <| aC (qaT monic qaG) <| aC h2 <| aC (qaT monic qaG) <| aC h3 <| aC (of_decide_eq_true h5 : (Int.tmod (wI6 (k - (1 : Int))) (2 : Int)) = ((1 : Nat) : Int)) <| aN)
          · skip
            cases h
    · skip
      rcases qaK h with ⟨h3, h⟩ | ⟨h3, h⟩
      · skip
        obtain ⟨x4, h5, h⟩ := qaH h
        obtain ⟨x6, h7, h⟩ := qaH h
        obtain ⟨x8, h9, h⟩ := qaH h
        exact qaU (fuel := 110) [.go, rgG [oo, oo, oo, oo, .sb 106 false, oo, opI (.ln (monic.length : Int)), oo, oo], .br false, rgG [oo, oo, oo, opI (.ia 0), oo, oo], rgG [oo, oo, opI (.call [[1], [0,1]] [(tl 1 pair qaD), (TV.agg (qaA top))] (TV.tup [(false, [(T.sl 2 (x4.1.map qaA))]), (false, [(T.int .i64 x4.2)])])), oo, oo, oo, oo, oo], .draw [.p, .p, (.call [[2], [2]] [(tl 2 goal qaA), (tl 2 x4.1 qaA)] (tl 2 x6 qaA)), .p, (.call [[2], [0,1]] [(tl 2 x6 qaA), (TV.agg (qaA top))] (TV.tup [(false, [(T.sl 2 (x8.1.map qaA))]), (false, [(T.int .i64 x8.2)])])), .p, .p, .p, .p] [.op .p], rgG [.op .lit0, oo], rgG [oo, opI (.ln (x8.1.length : Int)), oo], .pre [.keep [2,3,11,12,13,14,16,17,20,21,22,27,131,132,133] [11,12,17,20]]] _ hn (by kernel_rfl) (aC h1 <| aC (qaT monic qaG) <| aC h2 <| aC (of_decide_eq_true h3 : (Int.tmod (wI6 (step - (1 : Int))) (2 : Int)) = ((0 : Nat) : Int)) <| aC (qaZ h5) <| aC (qeX h7) <| aC (qaV h9) <| aC (qaT x8.1 qaA) <| aN) (ih _ _ h cx hn)
      · skip
        rcases qaK h with ⟨h4, h⟩ | ⟨h4, h⟩
        · skip
          obtain ⟨x5, h6, h⟩ := qaH h
          obtain ⟨x7, h8, h⟩ := qaH h
          obtain ⟨x9, h10, h⟩ := qaH h
          exact qaU (fuel := 110) [.go, rgG [oo, oo, oo, oo, .sb 106 false, oo, opI (.ln (monic.length : Int)), oo, oo], .br false, rgG [oo, oo, oo, opI (.ia 1), oo, oo], rgG [oo, oo, opI (.call [[1], [0,1]] [(TV.c (T.sl 1 ([].map qaD))), (TV.agg (qaA top))] (TV.tup [(false, [(T.sl 2 (x5.1.map qaA))]), (false, [(T.int .i64 x5.2)])])), oo, oo, oo, oo, oo], .draw [.p, .p, (.call [[2], [2]] [(tl 2 goal qaA), (tl 2 x5.1 qaA)] (tl 2 x7 qaA)), .p, (.call [[2], [0,1]] [(tl 2 x7 qaA), (TV.agg (qaA top))] (TV.tup [(false, [(T.sl 2 (x9.1.map qaA))]), (false, [(T.int .i64 x9.2)])])), .p, .p, .p, .p] [.op .p], rgG [.op .lit0, oo], rgG [oo, opI (.ln (x9.1.length : Int)), oo], .pre [.keep [2,3,11,12,13,14,16,17,20,21,22,27,131,132,133] [11,12,17,20]]] _ hn (by kernel_rfl) (aC h1 <| aC (qaT monic qaG) <| aC h2 <| aC (of_decide_eq_true h4 : (Int.tmod (wI6 (step - (1 : Int))) (2 : Int)) = ((1 : Nat) : Int)) <| aC (qaZ h6) <| aC (qeX h8) <| aC (qaV h10) <| aC (qaT x9.1 qaA) <| aN) (ih _ _ h cx hn)
        · skip
          cases h
theorem hensel_Lift_c6 {K} (ih : qa5 K) {cx} (hn : cx.n = 208) {base top power p k goal monic parts step t131 t132 t133} {r} (h : qaF (K + 1) (.c6 base top power p k goal monic parts step t131 t132 t133) = some r) : qa4 cx (.c6 base top power p k goal monic parts step t131 t132 t133) r := by
  rw [qaF] at h
  rcases qaK h with ⟨h1, h⟩ | ⟨h1, h⟩
  · skip
    obtain ⟨x2, h3, h⟩ := qaH h
    obtain ⟨x4, h5, h⟩ := qaH h
    obtain ⟨x6, h7, h⟩ := qaH h
    exact qaU (fuel := 98) [.go, rgG [oo], .br true, rgG [opI (.ix (qaA x2)), oo, oo, oo], rgG [oo, oo, opI (.call [[0,1], [0,1]] [(TV.agg (qaA x2)), (TV.agg (qaA power))] (TV.tup [(true, qaA x4.1), (false, [(T.int .i64 x4.2)])])), oo, oo, oo, oo, oo, oo], rgG [oo, oo, oo, opI (.call [[0,1], [0]] [(TV.agg (qaA x4.1)), (ti .u32 p)] (ti .u32 x6)), opI (.lit (([x6] : List Int).map qaC)), opI (.appN (([x6] : List Int).map qaC)), oo], rgG [oo, oo], .pre [.rl 27 0 ([x6] : List Int).length, .keep [2,3,11,12,13,14,16,17,20,21,22,27,131,132,133] [11,12,17,20,148]]] _ hn (by kernel_rfl) (aC h1 <| aC (qa0 h3) <| aC (qbH qaA h3) <| aC (qbW h5) <| aC (qbD h7) <| aC (by kernel_rfl : [(T.int .u32 x6)] = (([x6] : List Int).map qaC).flatten) <| aC (qbI _ _ _ (by simp) : ((([x6] : List Int).map qaC).drop 0).take 1 = ([x6] : List Int).map qaC) <| aC (by simp : 0 < (([x6] : List Int).map qaC).length) <| aC (by simp : (([x6] : List Int).map qaC).length * 4 ≤ 140737488355328) <| aC (by simp [maxLen] : (([x6] : List Int).map qaC).length ≤ maxLen) <| aC r0 <| aC (by simp : (([x6] : List Int).map qaC).length = ([x6] : List Int).length) <| aN) (ih _ _ h cx hn)
  · skip
    obtain ⟨x2, h3, h⟩ := qaH h
    exact qaU (fuel := 96) [.go, rgG [oo], .br false, rgG [oo, oo, opI (.call [[0,1], [0,1]] [(TV.agg (qaA power)), (TV.agg (qaA base))] (TV.agg (qaA x2))), oo, oo], rgG [oo], rgG [oo, oo, oo], .pre [.keep [2,3,11,12,13,14,16,17,20,21,27,32,33,153,154,155] [11,12,17,20,32]]] _ hn (by kernel_rfl) (aC h1 <| aC (qbT h3) <| aN) (ih _ _ h cx hn)
theorem hensel_Lift_c7 {K} (ih : qa5 K) {cx} (hn : cx.n = 208) {base top pair power p k goal monic parts step now t131 t132 t133} {r} (h : qaF (K + 1) (.c7 base top pair power p k goal monic parts step now t131 t132 t133) = some r) : qa4 cx (.c7 base top pair power p k goal monic parts step now t131 t132 t133) r := by
  rw [qaF] at h
  rcases qaK h with ⟨h1, h⟩ | ⟨h1, h⟩
  · skip
    obtain ⟨x2, h3, h⟩ := qaH h
    obtain ⟨x4, h5, h⟩ := qaH h
    obtain ⟨x6, h7, h⟩ := qaH h
    exact qaU (fuel := 98) [.go, rgG [oo], .br true, rgG [opI (.ix (qaA x2)), oo, oo, oo], rgG [oo, oo, opI (.call [[0,1], [0,1]] [(TV.agg (qaA x2)), (TV.agg (qaA power))] (TV.tup [(true, qaA x4.1), (false, [(T.int .i64 x4.2)])])), oo, oo, oo, oo, oo, oo], rgG [oo, oo, oo, opI (.call [[0,1], [0]] [(TV.agg (qaA x4.1)), (ti .u32 p)] (ti .u32 x6)), opI (.lit (([x6] : List Int).map qaC)), opI (.appN (([x6] : List Int).map qaC)), oo], rgG [oo, oo], .pre [.rl 27 0 ([x6] : List Int).length, .keep [2,3,11,12,13,14,16,17,20,21,22,27,131,132,133] [11,12,17,20,148]]] _ hn (by kernel_rfl) (aC h1 <| aC (qa0 h3) <| aC (qbH qaA h3) <| aC (qbW h5) <| aC (qbD h7) <| aC (by kernel_rfl : [(T.int .u32 x6)] = (([x6] : List Int).map qaC).flatten) <| aC (qbI _ _ _ (by simp) : ((([x6] : List Int).map qaC).drop 0).take 1 = ([x6] : List Int).map qaC) <| aC (by simp : 0 < (([x6] : List Int).map qaC).length) <| aC (by simp : (([x6] : List Int).map qaC).length * 4 ≤ 140737488355328) <| aC (by simp [maxLen] : (([x6] : List Int).map qaC).length ≤ maxLen) <| aC r0 <| aC (by simp : (([x6] : List Int).map qaC).length = ([x6] : List Int).length) <| aN) (ih _ _ h cx hn)
  · skip
    obtain ⟨x2, h3, h⟩ := qaH h
    exact qaU (fuel := 96) [.go, rgG [oo], .br false, rgG [oo, oo, opI (.call [[0,1], [0,1]] [(TV.agg (qaA power)), (TV.agg (qaA base))] (TV.agg (qaA x2))), oo, oo], rgG [oo], rgG [oo, opI (.ln (now.length : Int)), oo], .pre [.keep [2,3,11,12,13,14,16,17,20,21,27,32,33,153,154,155] [11,12,17,20,32]]] _ hn (by kernel_rfl) (aC h1 <| aC (qbT h3) <| aC (qaT now qaD) <| aN) (ih _ _ h cx hn)
theorem hensel_Lift_c8 {K} (ih : qa5 K) {cx} (hn : cx.n = 208) {base top pair power p k goal monic parts step t131 t132 t133} {r} (h : qaF (K + 1) (.c8 base top pair power p k goal monic parts step t131 t132 t133) = some r) : qa4 cx (.c8 base top pair power p k goal monic parts step t131 t132 t133) r := by
  rw [qaF] at h
  rcases qaK h with ⟨h1, h⟩ | ⟨h1, h⟩
  · skip
    obtain ⟨x2, h3, h⟩ := qaH h
    obtain ⟨x4, h5, h⟩ := qaH h
    obtain ⟨x6, h7, h⟩ := qaH h
    exact qaU (fuel := 98) [.go, rgG [oo], .br true, rgG [opI (.ix (qaA x2)), oo, oo, oo], rgG [oo, oo, opI (.call [[0,1], [0,1]] [(TV.agg (qaA x2)), (TV.agg (qaA power))] (TV.tup [(true, qaA x4.1), (false, [(T.int .i64 x4.2)])])), oo, oo, oo, oo, oo, oo], rgG [oo, oo, oo, opI (.call [[0,1], [0]] [(TV.agg (qaA x4.1)), (ti .u32 p)] (ti .u32 x6)), opI (.lit (([x6] : List Int).map qaC)), opI (.appN (([x6] : List Int).map qaC)), oo], rgG [oo, oo], .pre [.rl 27 0 ([x6] : List Int).length, .keep [2,3,11,12,13,14,16,17,20,21,22,27,131,132,133] [11,12,17,20,148]]] _ hn (by kernel_rfl) (aC h1 <| aC (qa0 h3) <| aC (qbH qaA h3) <| aC (qbW h5) <| aC (qbD h7) <| aC (by kernel_rfl : [(T.int .u32 x6)] = (([x6] : List Int).map qaC).flatten) <| aC (qbI _ _ _ (by simp) : ((([x6] : List Int).map qaC).drop 0).take 1 = ([x6] : List Int).map qaC) <| aC (by simp : 0 < (([x6] : List Int).map qaC).length) <| aC (by simp : (([x6] : List Int).map qaC).length * 4 ≤ 140737488355328) <| aC (by simp [maxLen] : (([x6] : List Int).map qaC).length ≤ maxLen) <| aC r0 <| aC (by simp : (([x6] : List Int).map qaC).length = ([x6] : List Int).length) <| aN) (ih _ _ h cx hn)
  · skip
    obtain ⟨x2, h3, h⟩ := qaH h
    exact qaU (fuel := 96) [.go, rgG [oo], .br false, rgG [oo, oo, opI (.call [[0,1], [0,1]] [(TV.agg (qaA power)), (TV.agg (qaA base))] (TV.agg (qaA x2))), oo, oo], rgG [oo], rgG [oo, oo, oo], .pre [.keep [2,3,11,12,13,14,16,17,20,21,27,32,33,153,154,155] [11,12,17,20,32]]] _ hn (by kernel_rfl) (aC h1 <| aC (qbT h3) <| aN) (ih _ _ h cx hn)
theorem hensel_Lift_c9 {K} (ih : qa5 K) {cx} (hn : cx.n = 208) {base top power r148 p k goal monic parts step t131 t132 t133} {r} (h : qaF (K + 1) (.c9 base top power r148 p k goal monic parts step t131 t132 t133) = some r) : qa4 cx (.c9 base top power r148 p k goal monic parts step t131 t132 t133) r := by
  rw [qaF] at h
  rcases qaK h with ⟨h1, h⟩ | ⟨h1, h⟩
  · skip
    obtain ⟨x2, h3, h⟩ := qaH h
    obtain ⟨x4, h5, h⟩ := qaH h
    obtain ⟨x6, h7, h⟩ := qaH h
    obtain ⟨h8, h⟩ := qbE h
    exact qaU (fuel := 98) [.go, rgG [oo], .br true, rgG [opI (.ix (qaA x2)), oo, oo, oo], rgG [oo, oo, opI (.call [[0,1], [0,1]] [(TV.agg (qaA x2)), (TV.agg (qaA power))] (TV.tup [(true, qaA x4.1), (false, [(T.int .i64 x4.2)])])), oo, oo, oo, oo, oo, oo], .pre [.keep [2,3,11,12,13,14,16,17,20,21,22,27,30,131,132,133] [11,12,17,20,30,148]], rgG [oo, oo, oo, opI (.call [[0,1], [0]] [(TV.agg (qaA x4.1)), (ti .u32 p)] (ti .u32 x6)), opI (.lit (([x6] : List Int).map qaC)), .appR (([x6] : List Int).map qaC) ((r148 ++ ([x6] : List Int)).map qaC), oo], rgG [oo, oo], .pre [.rl 27 0 (r148 ++ ([x6] : List Int)).length, .keep [2,3,11,12,13,14,16,17,20,21,22,27,131,132,133] [11,12,17,20,148]]] _ hn (by kernel_rfl) (aC h1 <| aC (qa0 h3) <| aC (qbH qaA h3) <| aC (qbW h5) <| aC (qbD h7) <| aC (by kernel_rfl : [(T.int .u32 x6)] = (([x6] : List Int).map qaC).flatten) <| aC (by simp : r148.length = (r148.map qaC).length) <| aC (qbI _ _ _ (by simp) : ((([x6] : List Int).map qaC).drop 0).take 1 = ([x6] : List Int).map qaC) <| aC (qmF _ _ _ : r148.map qaC ++ ([x6] : List Int).map qaC = (r148 ++ ([x6] : List Int)).map qaC) <| aC ((qc4 _ _).symm ▸ h8 : ((r148 ++ ([x6] : List Int)).map qaC).length * 4 ≤ 140737488355328) <| aC ((qc4 _ _).symm ▸ room (by decide) h8 : ((r148 ++ ([x6] : List Int)).map qaC).length ≤ maxLen) <| aC r0 <| aC (by simp : ((r148 ++ ([x6] : List Int)).map qaC).length = (r148 ++ ([x6] : List Int)).length) <| aN) (ih _ _ h cx hn)
  · skip
    obtain ⟨x2, h3, h⟩ := qaH h
    exact qaU (fuel := 96) [.go, rgG [oo], .br false, rgG [oo, oo, opI (.call [[0,1], [0,1]] [(TV.agg (qaA power)), (TV.agg (qaA base))] (TV.agg (qaA x2))), oo, oo], rgG [oo], rgG [oo, oo, oo], .pre [.rl 27 0 r148.length, .keep [2,3,11,12,13,14,16,17,20,21,27,32,33,153,154,155] [11,12,17,20,32,148]]] _ hn (by kernel_rfl) (aC h1 <| aC (qbT h3) <| aC r0 <| aC (lq r148) <| aN) (ih _ _ h cx hn)
theorem hensel_Lift_c10 {K} (ih : qa5 K) {cx} (hn : cx.n = 208) {base top power next p k goal monic parts step t154 t155} {r} (h : qaF (K + 1) (.c10 base top power next p k goal monic parts step t154 t155) = some r) : qa4 cx (.c10 base top power next p k goal monic parts step t154 t155) r := by
  rw [qaF] at h
  rcases qaK h with ⟨h1, h⟩ | ⟨h1, h⟩
  · skip
    cases h
  · skip
    rcases qaK h with ⟨h2, h⟩ | ⟨h2, h⟩
    · skip
      exact qaU (fuel := 84) [.go, rgG [oo], .br false, rgG [oo, oo, oo, opI (.ia 0), oo], rgG [oo, oo], .pre [.keep [2,3,11,12,13,14,16,17,20,21] [11,12,17,20]]] _ hn (by kernel_rfl) (aC h1 <| aC (of_decide_eq_true h2 : (Int.tmod step (2 : Int)) = ((0 : Nat) : Int)) <| aN) (ih _ _ h cx hn)
    · skip
      rcases qaK h with ⟨h3, h⟩ | ⟨h3, h⟩
      · skip
        exact qaU (fuel := 84) [.go, rgG [oo], .br false, rgG [oo, oo, oo, opI (.ia 1), oo], rgG [oo, oo], .pre [.keep [2,3,11,12,13,14,16,17,20,21] [11,12,17,20]]] _ hn (by kernel_rfl) (aC h1 <| aC (of_decide_eq_true h3 : (Int.tmod step (2 : Int)) = ((1 : Nat) : Int)) <| aN) (ih _ _ h cx hn)
      · skip
        cases h
theorem hensel_Lift_c11 {K} (ih : qa5 K) {cx} (hn : cx.n = 208) {base top pair power r148 p k goal monic parts step now t131 t132 t133} {r} (h : qaF (K + 1) (.c11 base top pair power r148 p k goal monic parts step now t131 t132 t133) = some r) : qa4 cx (.c11 base top pair power r148 p k goal monic parts step now t131 t132 t133) r := by
  rw [qaF] at h
  rcases qaK h with ⟨h1, h⟩ | ⟨h1, h⟩
  · skip
    obtain ⟨x2, h3, h⟩ := qaH h
    obtain ⟨x4, h5, h⟩ := qaH h
    obtain ⟨x6, h7, h⟩ := qaH h
    obtain ⟨h8, h⟩ := qbE h
    exact qaU (fuel := 98) [.go, rgG [oo], .br true, rgG [opI (.ix (qaA x2)), oo, oo, oo], rgG [oo, oo, opI (.call [[0,1], [0,1]] [(TV.agg (qaA x2)), (TV.agg (qaA power))] (TV.tup [(true, qaA x4.1), (false, [(T.int .i64 x4.2)])])), oo, oo, oo, oo, oo, oo], .pre [.keep [2,3,11,12,13,14,16,17,20,21,22,27,30,131,132,133] [11,12,17,20,30,148]], rgG [oo, oo, oo, opI (.call [[0,1], [0]] [(TV.agg (qaA x4.1)), (ti .u32 p)] (ti .u32 x6)), opI (.lit (([x6] : List Int).map qaC)), .appR (([x6] : List Int).map qaC) ((r148 ++ ([x6] : List Int)).map qaC), oo], rgG [oo, oo], .pre [.rl 27 0 (r148 ++ ([x6] : List Int)).length, .keep [2,3,11,12,13,14,16,17,20,21,22,27,131,132,133] [11,12,17,20,148]]] _ hn (by kernel_rfl) (aC h1 <| aC (qa0 h3) <| aC (qbH qaA h3) <| aC (qbW h5) <| aC (qbD h7) <| aC (by kernel_rfl : [(T.int .u32 x6)] = (([x6] : List Int).map qaC).flatten) <| aC (by simp : r148.length = (r148.map qaC).length) <| aC (qbI _ _ _ (by simp) : ((([x6] : List Int).map qaC).drop 0).take 1 = ([x6] : List Int).map qaC) <| aC (qmF _ _ _ : r148.map qaC ++ ([x6] : List Int).map qaC = (r148 ++ ([x6] : List Int)).map qaC) <| aC ((qc4 _ _).symm ▸ h8 : ((r148 ++ ([x6] : List Int)).map qaC).length * 4 ≤ 140737488355328) <| aC ((qc4 _ _).symm ▸ room (by decide) h8 : ((r148 ++ ([x6] : List Int)).map qaC).length ≤ maxLen) <| aC r0 <| aC (by simp : ((r148 ++ ([x6] : List Int)).map qaC).length = (r148 ++ ([x6] : List Int)).length) <| aN) (ih _ _ h cx hn)
  · skip
    obtain ⟨x2, h3, h⟩ := qaH h
    exact qaU (fuel := 96) [.go, rgG [oo], .br false, rgG [oo, oo, opI (.call [[0,1], [0,1]] [(TV.agg (qaA power)), (TV.agg (qaA base))] (TV.agg (qaA x2))), oo, oo], rgG [oo], rgG [oo, opI (.ln (now.length : Int)), oo], .pre [.rl 27 0 r148.length, .keep [2,3,11,12,13,14,16,17,20,21,27,32,33,153,154,155] [11,12,17,20,32,148]]] _ hn (by kernel_rfl) (aC h1 <| aC (qbT h3) <| aC (qaT now qaD) <| aC r0 <| aC (lq r148) <| aN) (ih _ _ h cx hn)
theorem hensel_Lift_c12 {K} (ih : qa5 K) {cx} (hn : cx.n = 208) {base top pair power next p k goal monic parts step t153 t154 t155} {r} (h : qaF (K + 1) (.c12 base top pair power next p k goal monic parts step t153 t154 t155) = some r) : qa4 cx (.c12 base top pair power next p k goal monic parts step t153 t154 t155) r := by
  rw [qaF] at h
  rcases qaK h with ⟨h1, h⟩ | ⟨h1, h⟩
  · skip
    obtain ⟨x2, h3, h⟩ := qaH h
    obtain ⟨x4, h5, h⟩ := qaH h
    obtain ⟨x6, h7, h⟩ := qaH h
    obtain ⟨x8, h9, h⟩ := qaH h
    obtain ⟨x10, h11, h⟩ := qaH h
    obtain ⟨x12, h13, h⟩ := qaH h
    obtain ⟨x14, h15, h⟩ := qaH h
    obtain ⟨x16, h17, h⟩ := qaH h
    obtain ⟨x18, h19, h⟩ := qaH h
    exact qaU (fuel := 114) [.go, rgG [oo], .br true, rgG [oo, opI (.ix (qaD x2)), oo, oo, oo], .draw [.p, .p, .p, (.ix (qaG x4)), .p, .p, (.call [[1], [1], [0]] [(TV.c (T.sl 1 ([].map qaC))), (tl 1 x4 qaC), (ti .u32 p)] (tl 1 x6 qaC)), .p, .p, (.ix (qaG x8)), .p, .p, (.call [[1], [1], [0]] [(tl 1 x6 qaC), (tl 1 x8 qaC), (ti .u32 p)] (TV.tup [(false, [(T.sl 1 (x10.1.map qaC))]), (false, [(T.sl 1 (x10.2.1.map qaC))]), (false, [(T.int .i64 x10.2.2)])])), .p, .p, .p, .p, .p, .p] [.op .p], .draw [.p, .p, .p, (.call [[1], [0]] [(TV.c (T.sl 1 (x10.2.1.map qaC))), (ti .u32 p)] (tl 2 x12 qaA)), .p, (.call [[2], [0,1]] [(tl 2 x12 qaA), (TV.agg (qaA power))] (tl 2 x14 qaA))] [opI (.call [[2], [2]] [(tl 2 x2 qaA), (tl 2 x14 qaA)] (tl 2 x16 qaA)), .op .p], rgG [oo, oo, opI (.call [[2], [0,1]] [(tl 2 x16 qaA), (TV.agg (qaA next))] (TV.tup [(false, [(T.sl 2 (x18.1.map qaA))]), (false, [(T.int .i64 x18.2)])])), oo, oo, oo, oo], rgG [oo, oo, opI (.lit (([x18.1] : List (List qaB)).map qaD)), opI (.appN (([x18.1] : List (List qaB)).map qaD)), oo], rgG [oo, oo], .pre [.rl 33 0 ([x18.1] : List (List qaB)).length, .keep [2,3,11,12,13,14,16,17,20,21,27,32,33,153,154,155] [11,12,17,20,32,193]]] _ hn (by kernel_rfl) (aC h1 <| aC (qa0 h3) <| aC (qbH qaD h3) <| aC (qa0 h5) <| aC (qbH qaG h5) <| aC (qbL h7) <| aC (qa0 h9) <| aC (qbH qaG h9) <| aC (qbV h11) <| aC (qbS h13) <| aC (qcK h15) <| aC (qdK h17) <| aC (qaV h19) <| aC (by kernel_rfl : [(T.sl 2 (x18.1.map qaA))] = (([x18.1] : List (List qaB)).map qaD).flatten) <| aC (qbI _ _ _ (by simp) : ((([x18.1] : List (List qaB)).map qaD).drop 0).take 1 = ([x18.1] : List (List qaB)).map qaD) <| aC (by simp : 0 < (([x18.1] : List (List qaB)).map qaD).length) <| aC (by simp : (([x18.1] : List (List qaB)).map qaD).length * 24 ≤ 140737488355328) <| aC (by simp [maxLen] : (([x18.1] : List (List qaB)).map qaD).length ≤ maxLen) <| aC r0 <| aC (by simp : (([x18.1] : List (List qaB)).map qaD).length = ([x18.1] : List (List qaB)).length) <| aN) (ih _ _ h cx hn)
  · skip
    rcases qaK h with ⟨h2, h⟩ | ⟨h2, h⟩
    · skip
      exact qaU (fuel := 84) [.go, rgG [oo], .br false, rgG [oo, oo, oo, opI (.ia 0), oo], rgG [oo, oo], .pre [.keep [2,3,11,12,13,14,16,17,20,21] [11,12,17,20]]] _ hn (by kernel_rfl) (aC h1 <| aC (of_decide_eq_true h2 : (Int.tmod step (2 : Int)) = ((0 : Nat) : Int)) <| aN) (ih _ _ h cx hn)
    · skip
      rcases qaK h with ⟨h3, h⟩ | ⟨h3, h⟩
      · skip
        exact qaU (fuel := 84) [.go, rgG [oo], .br false, rgG [oo, oo, oo, opI (.ia 1), oo], rgG [oo, oo], .pre [.keep [2,3,11,12,13,14,16,17,20,21] [11,12,17,20]]] _ hn (by kernel_rfl) (aC h1 <| aC (of_decide_eq_true h3 : (Int.tmod step (2 : Int)) = ((1 : Nat) : Int)) <| aN) (ih _ _ h cx hn)
      · skip
        cases h
theorem hensel_Lift_c13 {K} (ih : qa5 K) {cx} (hn : cx.n = 208) {base top pair power r148 p k goal monic parts step t131 t132 t133} {r} (h : qaF (K + 1) (.c13 base top pair power r148 p k goal monic parts step t131 t132 t133) = some r) : qa4 cx (.c13 base top pair power r148 p k goal monic parts step t131 t132 t133) r := by
  rw [qaF] at h
  rcases qaK h with ⟨h1, h⟩ | ⟨h1, h⟩
  · skip
    obtain ⟨x2, h3, h⟩ := qaH h
    obtain ⟨x4, h5, h⟩ := qaH h
    obtain ⟨x6, h7, h⟩ := qaH h
    obtain ⟨h8, h⟩ := qbE h
    exact qaU (fuel := 98) [.go, rgG [oo], .br true, rgG [opI (.ix (qaA x2)), oo, oo, oo], rgG [oo, oo, opI (.call [[0,1], [0,1]] [(TV.agg (qaA x2)), (TV.agg (qaA power))] (TV.tup [(true, qaA x4.1), (false, [(T.int .i64 x4.2)])])), oo, oo, oo, oo, oo, oo], .pre [.keep [2,3,11,12,13,14,16,17,20,21,22,27,30,131,132,133] [11,12,17,20,30,148]], rgG [oo, oo, oo, opI (.call [[0,1], [0]] [(TV.agg (qaA x4.1)), (ti .u32 p)] (ti .u32 x6)), opI (.lit (([x6] : List Int).map qaC)), .appR (([x6] : List Int).map qaC) ((r148 ++ ([x6] : List Int)).map qaC), oo], rgG [oo, oo], .pre [.rl 27 0 (r148 ++ ([x6] : List Int)).length, .keep [2,3,11,12,13,14,16,17,20,21,22,27,131,132,133] [11,12,17,20,148]]] _ hn (by kernel_rfl) (aC h1 <| aC (qa0 h3) <| aC (qbH qaA h3) <| aC (qbW h5) <| aC (qbD h7) <| aC (by kernel_rfl : [(T.int .u32 x6)] = (([x6] : List Int).map qaC).flatten) <| aC (by simp : r148.length = (r148.map qaC).length) <| aC (qbI _ _ _ (by simp) : ((([x6] : List Int).map qaC).drop 0).take 1 = ([x6] : List Int).map qaC) <| aC (qmF _ _ _ : r148.map qaC ++ ([x6] : List Int).map qaC = (r148 ++ ([x6] : List Int)).map qaC) <| aC ((qc4 _ _).symm ▸ h8 : ((r148 ++ ([x6] : List Int)).map qaC).length * 4 ≤ 140737488355328) <| aC ((qc4 _ _).symm ▸ room (by decide) h8 : ((r148 ++ ([x6] : List Int)).map qaC).length ≤ maxLen) <| aC r0 <| aC (by simp : ((r148 ++ ([x6] : List Int)).map qaC).length = (r148 ++ ([x6] : List Int)).length) <| aN) (ih _ _ h cx hn)
  · skip
    obtain ⟨x2, h3, h⟩ := qaH h
    exact qaU (fuel := 96) [.go, rgG [oo], .br false, rgG [oo, oo, opI (.call [[0,1], [0,1]] [(TV.agg (qaA power)), (TV.agg (qaA base))] (TV.agg (qaA x2))), oo, oo], rgG [oo], rgG [oo, oo, oo], .pre [.rl 27 0 r148.length, .keep [2,3,11,12,13,14,16,17,20,21,27,32,33,153,154,155] [11,12,17,20,32,148]]] _ hn (by kernel_rfl) (aC h1 <| aC (qbT h3) <| aC r0 <| aC (lq r148) <| aN) (ih _ _ h cx hn)
theorem hensel_Lift_c14 {K} (ih : qa5 K) {cx} (hn : cx.n = 208) {base top pair power next p k goal monic parts step t154 t155} {r} (h : qaF (K + 1) (.c14 base top pair power next p k goal monic parts step t154 t155) = some r) : qa4 cx (.c14 base top pair power next p k goal monic parts step t154 t155) r := by
  rw [qaF] at h
  rcases qaK h with ⟨h1, h⟩ | ⟨h1, h⟩
  · skip
    cases h
  · skip
    rcases qaK h with ⟨h2, h⟩ | ⟨h2, h⟩
    · skip
      exact qaU (fuel := 84) [.go, rgG [oo], .br false, rgG [oo, oo, oo, opI (.ia 0), oo], rgG [oo, oo], .pre [.keep [2,3,11,12,13,14,16,17,20,21] [11,12,17,20]]] _ hn (by kernel_rfl) (aC h1 <| aC (of_decide_eq_true h2 : (Int.tmod step (2 : Int)) = ((0 : Nat) : Int)) <| aN) (ih _ _ h cx hn)
    · skip
      rcases qaK h with ⟨h3, h⟩ | ⟨h3, h⟩
      · skip
        exact qaU (fuel := 84) [.go, rgG [oo], .br false, rgG [oo, oo, oo, opI (.ia 1), oo], rgG [oo, oo], .pre [.keep [2,3,11,12,13,14,16,17,20,21] [11,12,17,20]]] _ hn (by kernel_rfl) (aC h1 <| aC (of_decide_eq_true h3 : (Int.tmod step (2 : Int)) = ((1 : Nat) : Int)) <| aN) (ih _ _ h cx hn)
      · skip
        cases h
theorem hensel_Lift_c15 {K} (ih : qa5 K) {cx} (hn : cx.n = 208) {base top power next r148 p k goal monic parts step t154 t155} {r} (h : qaF (K + 1) (.c15 base top power next r148 p k goal monic parts step t154 t155) = some r) : qa4 cx (.c15 base top power next r148 p k goal monic parts step t154 t155) r := by
  rw [qaF] at h
  rcases qaK h with ⟨h1, h⟩ | ⟨h1, h⟩
  · skip
    cases h
  · skip
    rcases qaK h with ⟨h2, h⟩ | ⟨h2, h⟩
    · skip
      exact qaU (fuel := 84) [.go, rgG [oo], .br false, rgG [oo, oo, oo, opI (.ia 0), oo], rgG [oo, oo], .pre [.keep [2,3,11,12,13,14,16,17,20,21] [11,12,17,20]]] _ hn (by kernel_rfl) (aC h1 <| aC (of_decide_eq_true h2 : (Int.tmod step (2 : Int)) = ((0 : Nat) : Int)) <| aN) (ih _ _ h cx hn)
    · skip
      rcases qaK h with ⟨h3, h⟩ | ⟨h3, h⟩
      · skip
        exact qaU (fuel := 84) [.go, rgG [oo], .br false, rgG [oo, oo, oo, opI (.ia 1), oo], rgG [oo, oo], .pre [.keep [2,3,11,12,13,14,16,17,20,21] [11,12,17,20]]] _ hn (by kernel_rfl) (aC h1 <| aC (of_decide_eq_true h3 : (Int.tmod step (2 : Int)) = ((1 : Nat) : Int)) <| aN) (ih _ _ h cx hn)
      · skip
        cases h
theorem hensel_Lift_c16 {K} (ih : qa5 K) {cx} (hn : cx.n = 208) {base top power p k goal monic parts step} {r} (h : qaF (K + 1) (.c16 base top power p k goal monic parts step) = some r) : qa4 cx (.c16 base top power p k goal monic parts step) r := by
  rw [qaF] at h
  exact qaU (fuel := 44) [rgG [oo, oo, oo], .pre [.keep [2,3,11,12,13,14,16,17,20,21] [11,12,17,20]]] _ hn (by kernel_rfl) aN (ih _ _ h cx hn)
theorem hensel_Lift_c17 {K} (ih : qa5 K) {cx} (hn : cx.n = 208) {base top pair power next r148 p k goal monic parts step t153 t154 t155} {r} (h : qaF (K + 1) (.c17 base top pair power next r148 p k goal monic parts step t153 t154 t155) = some r) : qa4 cx (.c17 base top pair power next r148 p k goal monic parts step t153 t154 t155) r := by
  rw [qaF] at h
  rcases qaK h with ⟨h1, h⟩ | ⟨h1, h⟩
  · skip
    obtain ⟨x2, h3, h⟩ := qaH h
    obtain ⟨x4, h5, h⟩ := qaH h
    obtain ⟨x6, h7, h⟩ := qaH h
    obtain ⟨x8, h9, h⟩ := qaH h
    obtain ⟨x10, h11, h⟩ := qaH h
    obtain ⟨x12, h13, h⟩ := qaH h
    obtain ⟨x14, h15, h⟩ := qaH h
    obtain ⟨x16, h17, h⟩ := qaH h
    obtain ⟨x18, h19, h⟩ := qaH h
    exact qaU (fuel := 114) [.go, rgG [oo], .br true, rgG [oo, opI (.ix (qaD x2)), oo, oo, oo], .pre [.snap 27 (max 0 (0 + r148.length)) (r148.map qaC)], .draw [.p, .p, .p, (.ix (qaG x4)), .p, .p, (.call [[1], [1], [0]] [(tl 1 r148 qaC), (tl 1 x4 qaC), (ti .u32 p)] (tl 1 x6 qaC)), .p, .p, (.ix (qaG x8)), .p, .p, (.call [[1], [1], [0]] [(tl 1 x6 qaC), (tl 1 x8 qaC), (ti .u32 p)] (TV.tup [(false, [(T.sl 1 (x10.1.map qaC))]), (false, [(T.sl 1 (x10.2.1.map qaC))]), (false, [(T.int .i64 x10.2.2)])])), .p, .p, .p, .p, .p, .p] [.op .p], .draw [.p, .p, .p, (.call [[1], [0]] [(TV.c (T.sl 1 (x10.2.1.map qaC))), (ti .u32 p)] (tl 2 x12 qaA)), .p, (.call [[2], [0,1]] [(tl 2 x12 qaA), (TV.agg (qaA power))] (tl 2 x14 qaA))] [opI (.call [[2], [2]] [(tl 2 x2 qaA), (tl 2 x14 qaA)] (tl 2 x16 qaA)), .op .p], rgG [oo, oo, opI (.call [[2], [0,1]] [(tl 2 x16 qaA), (TV.agg (qaA next))] (TV.tup [(false, [(T.sl 2 (x18.1.map qaA))]), (false, [(T.int .i64 x18.2)])])), oo, oo, oo, oo], rgG [oo, oo, opI (.lit (([x18.1] : List (List qaB)).map qaD)), opI (.appN (([x18.1] : List (List qaB)).map qaD)), oo], rgG [oo, oo], .pre [.rl 33 0 ([x18.1] : List (List qaB)).length, .keep [2,3,11,12,13,14,16,17,20,21,27,32,33,153,154,155] [11,12,17,20,32,193]]] _ hn (by kernel_rfl) (aC h1 <| aC (qa0 h3) <| aC (qbH qaD h3) <| aC (qbI _ _ _ (by simp) : ((r148.map qaC).drop 0).take r148.length = r148.map qaC) <| aC (rfl : (max 0 (0 + r148.length)) = (max 0 (0 + r148.length))) <| aC (qa0 h5) <| aC (qbH qaG h5) <| aC (qbL h7) <| aC (qa0 h9) <| aC (qbH qaG h9) <| aC (qbV h11) <| aC (qbS h13) <| aC (qcK h15) <| aC (qdK h17) <| aC (qaV h19) <| aC (by kernel_rfl : [(T.sl 2 (x18.1.map qaA))] = (([x18.1] : List (List qaB)).map qaD).flatten) <| aC (qbI _ _ _ (by simp) : ((([x18.1] : List (List qaB)).map qaD).drop 0).take 1 = ([x18.1] : List (List qaB)).map qaD) <| aC (by simp : 0 < (([x18.1] : List (List qaB)).map qaD).length) <| aC (by simp : (([x18.1] : List (List qaB)).map qaD).length * 24 ≤ 140737488355328) <| aC (by simp [maxLen] : (([x18.1] : List (List qaB)).map qaD).length ≤ maxLen) <| aC r0 <| aC (by simp : (([x18.1] : List (List qaB)).map qaD).length = ([x18.1] : List (List qaB)).length) <| aN) (ih _ _ h cx hn)
  · skip
    rcases qaK h with ⟨h2, h⟩ | ⟨h2, h⟩
    · skip
      exact qaU (fuel := 84) [.go, rgG [oo], .br false, rgG [oo, oo, oo, opI (.ia 0), oo], rgG [oo, oo], .pre [.keep [2,3,11,12,13,14,16,17,20,21] [11,12,17,20]]] _ hn (by kernel_rfl) (aC h1 <| aC (of_decide_eq_true h2 : (Int.tmod step (2 : Int)) = ((0 : Nat) : Int)) <| aN) (ih _ _ h cx hn)
    · skip
      rcases qaK h with ⟨h3, h⟩ | ⟨h3, h⟩
      · skip
        exact qaU (fuel := 84) [.go, rgG [oo], .br false, rgG [oo, oo, oo, opI (.ia 1), oo], rgG [oo, oo], .pre [.keep [2,3,11,12,13,14,16,17,20,21] [11,12,17,20]]] _ hn (by kernel_rfl) (aC h1 <| aC (of_decide_eq_true h3 : (Int.tmod step (2 : Int)) = ((1 : Nat) : Int)) <| aN) (ih _ _ h cx hn)
      · skip
        cases h
theorem hensel_Lift_c18 {K} (ih : qa5 K) {cx} (hn : cx.n = 208) {base top pair power next r193 p k goal monic parts step t153 t154 t155} {r} (h : qaF (K + 1) (.c18 base top pair power next r193 p k goal monic parts step t153 t154 t155) = some r) : qa4 cx (.c18 base top pair power next r193 p k goal monic parts step t153 t154 t155) r := by
  rw [qaF] at h
  rcases qaK h with ⟨h1, h⟩ | ⟨h1, h⟩
  · skip
    obtain ⟨x2, h3, h⟩ := qaH h
    obtain ⟨x4, h5, h⟩ := qaH h
    obtain ⟨x6, h7, h⟩ := qaH h
    obtain ⟨x8, h9, h⟩ := qaH h
    obtain ⟨x10, h11, h⟩ := qaH h
    obtain ⟨x12, h13, h⟩ := qaH h
    obtain ⟨x14, h15, h⟩ := qaH h
    obtain ⟨x16, h17, h⟩ := qaH h
    obtain ⟨x18, h19, h⟩ := qaH h
    obtain ⟨h20, h⟩ := qbE h
    exact qaU (fuel := 114) [.go, rgG [oo], .br true, rgG [oo, opI (.ix (qaD x2)), oo, oo, oo], .draw [.p, .p, .p, (.ix (qaG x4)), .p, .p, (.call [[1], [1], [0]] [(TV.c (T.sl 1 ([].map qaC))), (tl 1 x4 qaC), (ti .u32 p)] (tl 1 x6 qaC)), .p, .p, (.ix (qaG x8)), .p, .p, (.call [[1], [1], [0]] [(tl 1 x6 qaC), (tl 1 x8 qaC), (ti .u32 p)] (TV.tup [(false, [(T.sl 1 (x10.1.map qaC))]), (false, [(T.sl 1 (x10.2.1.map qaC))]), (false, [(T.int .i64 x10.2.2)])])), .p, .p, .p, .p, .p, .p] [.op .p], .draw [.p, .p, .p, (.call [[1], [0]] [(TV.c (T.sl 1 (x10.2.1.map qaC))), (ti .u32 p)] (tl 2 x12 qaA)), .p, (.call [[2], [0,1]] [(tl 2 x12 qaA), (TV.agg (qaA power))] (tl 2 x14 qaA))] [opI (.call [[2], [2]] [(tl 2 x2 qaA), (tl 2 x14 qaA)] (tl 2 x16 qaA)), .op .p], rgG [oo, oo, opI (.call [[2], [0,1]] [(tl 2 x16 qaA), (TV.agg (qaA next))] (TV.tup [(false, [(T.sl 2 (x18.1.map qaA))]), (false, [(T.int .i64 x18.2)])])), oo, oo, oo, oo], .pre [.keep [2,3,11,12,13,14,16,17,20,21,27,32,33,39,153,154,155] [11,12,17,20,32,193]], rgG [oo, oo, opI (.lit (([x18.1] : List (List qaB)).map qaD)), .appR (([x18.1] : List (List qaB)).map qaD) ((r193 ++ ([x18.1] : List (List qaB))).map qaD), oo], rgG [oo, oo], .pre [.rl 33 0 (r193 ++ ([x18.1] : List (List qaB))).length, .keep [2,3,11,12,13,14,16,17,20,21,27,32,33,153,154,155] [11,12,17,20,32,193]]] _ hn (by kernel_rfl) (aC h1 <| aC (qa0 h3) <| aC (qbH qaD h3) <| aC (qa0 h5) <| aC (qbH qaG h5) <| aC (qbL h7) <| aC (qa0 h9) <| aC (qbH qaG h9) <| aC (qbV h11) <| aC (qbS h13) <| aC (qcK h15) <| aC (qdK h17) <| aC (qaV h19) <| aC (by kernel_rfl : [(T.sl 2 (x18.1.map qaA))] = (([x18.1] : List (List qaB)).map qaD).flatten) <| aC (by simp : r193.length = (r193.map qaD).length) <| aC (qbI _ _ _ (by simp) : ((([x18.1] : List (List qaB)).map qaD).drop 0).take 1 = ([x18.1] : List (List qaB)).map qaD) <| aC (qmF _ _ _ : r193.map qaD ++ ([x18.1] : List (List qaB)).map qaD = (r193 ++ ([x18.1] : List (List qaB))).map qaD) <| aC ((qc4 _ _).symm ▸ h20 : ((r193 ++ ([x18.1] : List (List qaB))).map qaD).length * 24 ≤ 140737488355328) <| aC ((qc4 _ _).symm ▸ room (by decide) h20 : ((r193 ++ ([x18.1] : List (List qaB))).map qaD).length ≤ maxLen) <| aC r0 <| aC (by simp : ((r193 ++ ([x18.1] : List (List qaB))).map qaD).length = (r193 ++ ([x18.1] : List (List qaB))).length) <| aN) (ih _ _ h cx hn)
  · skip
    rcases qaK h with ⟨h2, h⟩ | ⟨h2, h⟩
    · skip
      exact qaU (fuel := 84) [.go, rgG [oo], .br false, rgG [oo, oo, oo, opI (.ia 0), oo], rgG [oo, oo], .pre [.rlB 17 0 0 r193.length, .keep [2,3,11,12,13,14,16,17,20,21] [11,12,17,20,193]]] _ hn (by kernel_rfl) (aC h1 <| aC (of_decide_eq_true h2 : (Int.tmod step (2 : Int)) = ((0 : Nat) : Int)) <| aC r0 <| aC (lq r193) <| aN) (ih _ _ h cx hn)
    · skip
      rcases qaK h with ⟨h3, h⟩ | ⟨h3, h⟩
      · skip
        exact qaU (fuel := 84) [.go, rgG [oo], .br false, rgG [oo, oo, oo, opI (.ia 1), oo], rgG [oo, oo], .pre [.rlB 17 1 0 r193.length, .keep [2,3,11,12,13,14,16,17,20,21] [11,12,17,20,193]]] _ hn (by kernel_rfl) (aC h1 <| aC (of_decide_eq_true h3 : (Int.tmod step (2 : Int)) = ((1 : Nat) : Int)) <| aC r0 <| aC (lq r193) <| aN) (ih _ _ h cx hn)
      · skip
        cases h
theorem hensel_Lift_c19 {K} (ih : qa5 K) {cx} (hn : cx.n = 208) {base top pair power p k goal monic parts step} {r} (h : qaF (K + 1) (.c19 base top pair power p k goal monic parts step) = some r) : qa4 cx (.c19 base top pair power p k goal monic parts step) r := by
  rw [qaF] at h
  exact qaU (fuel := 44) [rgG [oo, oo, oo], .pre [.keep [2,3,11,12,13,14,16,17,20,21] [11,12,17,20]]] _ hn (by kernel_rfl) aN (ih _ _ h cx hn)
theorem hensel_Lift_c20 {K} (ih : qa5 K) {cx} (hn : cx.n = 208) {base top pair power next r148 p k goal monic parts step t154 t155} {r} (h : qaF (K + 1) (.c20 base top pair power next r148 p k goal monic parts step t154 t155) = some r) : qa4 cx (.c20 base top pair power next r148 p k goal monic parts step t154 t155) r := by
  rw [qaF] at h
  rcases qaK h with ⟨h1, h⟩ | ⟨h1, h⟩
  · skip
    cases h
  · skip
    rcases qaK h with ⟨h2, h⟩ | ⟨h2, h⟩
    · skip
      exact qaU (fuel := 84) [.go, rgG [oo], .br false, rgG [oo, oo, oo, opI (.ia 0), oo], rgG [oo, oo], .pre [.keep [2,3,11,12,13,14,16,17,20,21] [11,12,17,20]]] _ hn (by kernel_rfl) (aC h1 <| aC (of_decide_eq_true h2 : (Int.tmod step (2 : Int)) = ((0 : Nat) : Int)) <| aN) (ih _ _ h cx hn)
    · skip
      rcases qaK h with ⟨h3, h⟩ | ⟨h3, h⟩
      · skip
        exact qaU (fuel := 84) [.go, rgG [oo], .br false, rgG [oo, oo, oo, opI (.ia 1), oo], rgG [oo, oo], .pre [.keep [2,3,11,12,13,14,16,17,20,21] [11,12,17,20]]] _ hn (by kernel_rfl) (aC h1 <| aC (of_decide_eq_true h3 : (Int.tmod step (2 : Int)) = ((1 : Nat) : Int)) <| aN) (ih _ _ h cx hn)
      · skip
        cases h
theorem hensel_Lift_c21 {K} (ih : qa5 K) {cx} (hn : cx.n = 208) {base top pair power next r193 p k goal monic parts step change t153 t154 t155} {r} (h : qaF (K + 1) (.c21 base top pair power next r193 p k goal monic parts step change t153 t154 t155) = some r) : qa4 cx (.c21 base top pair power next r193 p k goal monic parts step change t153 t154 t155) r := by
  rw [qaF] at h
  rcases qaK h with ⟨h1, h⟩ | ⟨h1, h⟩
  · skip
    obtain ⟨x2, h3, h⟩ := qaH h
    obtain ⟨x4, h5, h⟩ := qaH h
    obtain ⟨x6, h7, h⟩ := qaH h
    obtain ⟨x8, h9, h⟩ := qaH h
    obtain ⟨x10, h11, h⟩ := qaH h
    obtain ⟨x12, h13, h⟩ := qaH h
    obtain ⟨x14, h15, h⟩ := qaH h
    obtain ⟨x16, h17, h⟩ := qaH h
    obtain ⟨x18, h19, h⟩ := qaH h
    obtain ⟨h20, h⟩ := qbE h
    exact qaU (fuel := 114) [.go, rgG [oo], .br true, rgG [oo, opI (.ix (qaD x2)), oo, oo, oo], .draw [.p, .p, .p, (.ix (qaG x4)), .p, .p, (.call [[1], [1], [0]] [(tl 1 change qaC), (tl 1 x4 qaC), (ti .u32 p)] (tl 1 x6 qaC)), .p, .p, (.ix (qaG x8)), .p, .p, (.call [[1], [1], [0]] [(tl 1 x6 qaC), (tl 1 x8 qaC), (ti .u32 p)] (TV.tup [(false, [(T.sl 1 (x10.1.map qaC))]), (false, [(T.sl 1 (x10.2.1.map qaC))]), (false, [(T.int .i64 x10.2.2)])])), .p, .p, .p, .p, .p, .p] [.op .p], .draw [.p, .p, .p, (.call [[1], [0]] [(TV.c (T.sl 1 (x10.2.1.map qaC))), (ti .u32 p)] (tl 2 x12 qaA)), .p, (.call [[2], [0,1]] [(tl 2 x12 qaA), (TV.agg (qaA power))] (tl 2 x14 qaA))] [opI (.call [[2], [2]] [(tl 2 x2 qaA), (tl 2 x14 qaA)] (tl 2 x16 qaA)), .op .p], rgG [oo, oo, opI (.call [[2], [0,1]] [(tl 2 x16 qaA), (TV.agg (qaA next))] (TV.tup [(false, [(T.sl 2 (x18.1.map qaA))]), (false, [(T.int .i64 x18.2)])])), oo, oo, oo, oo], .pre [.keep [2,3,11,12,13,14,16,17,20,21,27,32,33,39,153,154,155] [11,12,17,20,32,193]], rgG [oo, oo, opI (.lit (([x18.1] : List (List qaB)).map qaD)), .appR (([x18.1] : List (List qaB)).map qaD) ((r193 ++ ([x18.1] : List (List qaB))).map qaD), oo], rgG [oo, oo], .pre [.rl 33 0 (r193 ++ ([x18.1] : List (List qaB))).length, .keep [2,3,11,12,13,14,16,17,20,21,27,32,33,153,154,155] [11,12,17,20,32,193]]] _ hn (by kernel_rfl) (aC h1 <| aC (qa0 h3) <| aC (qbH qaD h3) <| aC (qa0 h5) <| aC (qbH qaG h5) <| aC (qbL h7) <| aC (qa0 h9) <| aC (qbH qaG h9) <| aC (qbV h11) <| aC (qbS h13) <| aC (qcK h15) <| aC (qdK h17) <| aC (qaV h19) <| aC (by kernel_rfl : [(T.sl 2 (x18.1.map qaA))] = (([x18.1] : List (List qaB)).map qaD).flatten) <| aC (by simp : r193.length = (r193.map qaD).length) <| aC (qbI _ _ _ (by simp) : ((([x18.1] : List (List qaB)).map qaD).drop 0).take 1 = ([x18.1] : List (List qaB)).map qaD) <| aC (qmF _ _ _ : r193.map qaD ++ ([x18.1] : List (List qaB)).map qaD = (r193 ++ ([x18.1] : List (List qaB))).map qaD) <| aC ((qc4 _ _).symm ▸ h20 : ((r193 ++ ([x18.1] : List (List qaB))).map qaD).length * 24 ≤ 140737488355328) <| aC ((qc4 _ _).symm ▸ room (by decide) h20 : ((r193 ++ ([x18.1] : List (List qaB))).map qaD).length ≤ maxLen) <| aC r0 <| aC (by simp : ((r193 ++ ([x18.1] : List (List qaB))).map qaD).length = (r193 ++ ([x18.1] : List (List qaB))).length) <| aN) (ih _ _ h cx hn)
  · skip
    rcases qaK h with ⟨h2, h⟩ | ⟨h2, h⟩
    · skip
      exact qaU (fuel := 84) [.go, rgG [oo], .br false, rgG [oo, oo, oo, opI (.ia 0), oo], rgG [oo, oo], .pre [.rlB 17 0 0 r193.length, .keep [2,3,11,12,13,14,16,17,20,21] [11,12,17,20,193]]] _ hn (by kernel_rfl) (aC h1 <| aC (of_decide_eq_true h2 : (Int.tmod step (2 : Int)) = ((0 : Nat) : Int)) <| aC r0 <| aC (lq r193) <| aN) (ih _ _ h cx hn)
    · skip
      rcases qaK h with ⟨h3, h⟩ | ⟨h3, h⟩
      · skip
        exact qaU (fuel := 84) [.go, rgG [oo], .br false, rgG [oo, oo, oo, opI (.ia 1), oo], rgG [oo, oo], .pre [.rlB 17 1 0 r193.length, .keep [2,3,11,12,13,14,16,17,20,21] [11,12,17,20,193]]] _ hn (by kernel_rfl) (aC h1 <| aC (of_decide_eq_true h3 : (Int.tmod step (2 : Int)) = ((1 : Nat) : Int)) <| aC r0 <| aC (lq r193) <| aN) (ih _ _ h cx hn)
      · skip
        cases h
theorem hensel_Lift_c22 {K} (ih : qa5 K) {cx} (hn : cx.n = 208) {base top power r193 p k goal monic parts step} {r} (h : qaF (K + 1) (.c22 base top power r193 p k goal monic parts step) = some r) : qa4 cx (.c22 base top power r193 p k goal monic parts step) r := by
  rw [qaF] at h
  exact qaU (fuel := 44) [rgG [oo, oo, oo], .pre [.snapC 17 0 (max 0 (0 + r193.length)) (r193.map qaD)], .pre [.keep [2,3,11,12,13,14,16,17,20,21] [11,12,17,20]]] _ hn (by kernel_rfl) (aC (qbI _ _ _ (by simp) : ((r193.map qaD).drop 0).take r193.length = r193.map qaD) <| aC (rfl : (max 0 (0 + r193.length)) = (max 0 (0 + r193.length))) <| aN) (ih _ _ h cx hn)
theorem hensel_Lift_c23 {K} (ih : qa5 K) {cx} (hn : cx.n = 208) {base top pair power r193 p k goal monic parts step} {r} (h : qaF (K + 1) (.c23 base top pair power r193 p k goal monic parts step) = some r) : qa4 cx (.c23 base top pair power r193 p k goal monic parts step) r := by
  rw [qaF] at h
  exact qaU (fuel := 44) [rgG [oo, oo, oo], .pre [.snapC 17 1 (max 0 (0 + r193.length)) (r193.map qaD)], .pre [.keep [2,3,11,12,13,14,16,17,20,21] [11,12,17,20]]] _ hn (by kernel_rfl) (aC (qbI _ _ _ (by simp) : ((r193.map qaD).drop 0).take r193.length = r193.map qaD) <| aC (rfl : (max 0 (0 + r193.length)) = (max 0 (0 + r193.length))) <| aN) (ih _ _ h cx hn)
theorem hensel_Lift_c24 {K} (ih : qa5 K) {cx} (hn : cx.n = 208) {base top pair power p k goal monic parts step} {r} (h : qaF (K + 1) (.c24 base top pair power p k goal monic parts step) = some r) : qa4 cx (.c24 base top pair power p k goal monic parts step) r := by
  rw [qaF] at h
  rcases qaK h with ⟨h1, h⟩ | ⟨h1, h⟩
  · skip
    rcases qaK h with ⟨h2, h⟩ | ⟨h2, h⟩
    · skip
      have h := Option.some.inj h; subst h
      exact qaN (fuel := 106) [.go, rgG [oo, oo, oo, oo, .sb 106 true, oo, oo, oo, oo], .br true, rgG [oo, opI (.ln (monic.length : Int)), oo], .br true, rgG [oo, oo]] _ hn (by kernel_rfl) (aC h1 <| aC rt <| aC (qaT monic qaG) <| aC h2 <| aN)
    · skip
      rcases qaK h with ⟨h3, h⟩ | ⟨h3, h⟩
      · skip
        have h := Option.some.inj h; subst h
        exact qaN (fuel := 106) [.go, rgG [oo, oo, oo, oo, .sb 106 true, oo, oo, oo, oo], .br true, rgG [oo, opI (.ln (monic.length : Int)), oo], .br false, rgG [oo, oo, oo, opI (.ia 0), oo, oo, oo]] _ hn (by kernel_rfl) (aC h1 <| aC rt <| aC (qaT monic qaG) <| aC h2 <| aC (of_decide_eq_true h3 : (Int.tmod (wI6 (k - (1 : Int))) (2 : Int)) = ((0 : Nat) : Int)) <| aN)
      · skip
        rcases qaK h with ⟨h4, h⟩ | ⟨h4, h⟩
        · skip
          have h := Option.some.inj h; subst h
          exact qaN (fuel := 106) [.go, rgG [oo, oo, oo, oo, .sb 106 true, oo, oo, oo, oo], .br true, rgG [oo, opI (.ln (monic.length : Int)), oo], .br false, rgG [oo, oo, oo, opI (.ia 1), oo, oo, oo]] _ hn (by kernel_rfl) (aC h1 <| aC rt <| aC (qaT monic qaG) <| aC h2 <| aC (of_decide_eq_true h4 : (Int.tmod (wI6 (k - (1 : Int))) (2 : Int)) = ((1 : Nat) : Int)) <| aN)
        · skip
          cases h
  · skip
    rcases qaK h with ⟨h2, h⟩ | ⟨h2, h⟩
    · skip
      rcases qaK h with ⟨h3, h⟩ | ⟨h3, h⟩
      · skip
        have h := Option.some.inj h; subst h
        exact qaN (fuel := 106) [.go, rgG [oo, oo, oo, oo, .sb 106 false, oo, opI (.ln (monic.length : Int)), oo, oo], .br true, rgG [oo, opI (.ln (monic.length : Int)), oo], .br true, rgG [oo, oo]] _ hn (by kernel_rfl) (aC h1 <| aC (qaT monic qaG) <| aC h2 <| aC (qaT monic qaG) <| aC h3 <| aN)
      · skip
        rcases qaK h with ⟨h4, h⟩ | ⟨h4, h⟩
        · skip
          have h := Option.some.inj h; subst h
          exact qaN (fuel := 106) [.go, rgG [oo, oo, oo, oo, .sb 106 false, oo, opI (.ln (monic.length : Int)), oo, oo], .br true, rgG [oo, opI (.ln (monic.length : Int)), oo], .br false, rgG [oo, oo, oo, opI (.ia 0), oo, oo, oo]] _ hn (by kernel_rfl) (aC h1 <| aC (qaT monic qaG) <| aC h2 <| aC (qaT monic qaG) <| aC h3 <| aC (of_decide_eq_true h4 : (Int.tmod (wI6 (k - (1 : Int))) (2 : Int)) = ((0 : Nat) : Int)) <| aN)
        · skip
          rcases qaK h with ⟨h5, h⟩ | ⟨h5, h⟩
          · skip
            have h := Option.some.inj h; subst h
            exact qaN (fuel := 106) [.go, rgG [oo, oo, oo, oo, .sb 106 false, oo, opI (.ln (monic.length : Int)), oo, oo], .br true, rgG [oo, opI (.ln (monic.length : Int)), oo], .br false, rgG [oo, oo, oo, opI (.ia 1), oo, oo, oo]] _ hn (by kernel_rfl) (aC h1 <| aC (qaT monic qaG) <| aC h2 <| aC (qaT monic qaG) <| aC h3 <| aC (of_decide_eq_true h5 : (Int.tmod (wI6 (k - (1 : Int))) (2 : Int)) = ((1 : Nat) : Int)) <| aN)
          · skip
            cases h
    · skip
      rcases qaK h with ⟨h3, h⟩ | ⟨h3, h⟩
      · skip
        obtain ⟨x4, h5, h⟩ := qaH h
        obtain ⟨x6, h7, h⟩ := qaH h
        obtain ⟨x8, h9, h⟩ := qaH h
        exact qaU (fuel := 110) [.go, rgG [oo, oo, oo, oo, .sb 106 false, oo, opI (.ln (monic.length : Int)), oo, oo], .br false, rgG [oo, oo, oo, opI (.ia 0), oo, oo], rgG [oo, oo, opI (.call [[1], [0,1]] [(TV.c (T.sl 1 (pair.e0.map qaD))), (TV.agg (qaA top))] (TV.tup [(false, [(T.sl 2 (x4.1.map qaA))]), (false, [(T.int .i64 x4.2)])])), oo, oo, oo, oo, oo], .draw [.p, .p, (.call [[2], [2]] [(tl 2 goal qaA), (tl 2 x4.1 qaA)] (tl 2 x6 qaA)), .p, (.call [[2], [0,1]] [(tl 2 x6 qaA), (TV.agg (qaA top))] (TV.tup [(false, [(T.sl 2 (x8.1.map qaA))]), (false, [(T.int .i64 x8.2)])])), .p, .p, .p, .p] [.op .p], rgG [.op .lit0, oo], rgG [oo, opI (.ln (x8.1.length : Int)), oo], .pre [.keep [2,3,11,12,13,14,16,17,20,21,22,27,131,132,133] [11,12,17,20]]] _ hn (by kernel_rfl) (aC h1 <| aC (qaT monic qaG) <| aC h2 <| aC (of_decide_eq_true h3 : (Int.tmod (wI6 (step - (1 : Int))) (2 : Int)) = ((0 : Nat) : Int)) <| aC (qaZ h5) <| aC (qeX h7) <| aC (qaV h9) <| aC (qaT x8.1 qaA) <| aN) (ih _ _ h cx hn)
      · skip
        rcases qaK h with ⟨h4, h⟩ | ⟨h4, h⟩
        · skip
          obtain ⟨x5, h6, h⟩ := qaH h
          obtain ⟨x7, h8, h⟩ := qaH h
          obtain ⟨x9, h10, h⟩ := qaH h
          exact qaU (fuel := 110) [.go, rgG [oo, oo, oo, oo, .sb 106 false, oo, opI (.ln (monic.length : Int)), oo, oo], .br false, rgG [oo, oo, oo, opI (.ia 1), oo, oo], rgG [oo, oo, opI (.call [[1], [0,1]] [(TV.c (T.sl 1 (pair.e1.map qaD))), (TV.agg (qaA top))] (TV.tup [(false, [(T.sl 2 (x5.1.map qaA))]), (false, [(T.int .i64 x5.2)])])), oo, oo, oo, oo, oo], .draw [.p, .p, (.call [[2], [2]] [(tl 2 goal qaA), (tl 2 x5.1 qaA)] (tl 2 x7 qaA)), .p, (.call [[2], [0,1]] [(tl 2 x7 qaA), (TV.agg (qaA top))] (TV.tup [(false, [(T.sl 2 (x9.1.map qaA))]), (false, [(T.int .i64 x9.2)])])), .p, .p, .p, .p] [.op .p], rgG [.op .lit0, oo], rgG [oo, opI (.ln (x9.1.length : Int)), oo], .pre [.keep [2,3,11,12,13,14,16,17,20,21,22,27,131,132,133] [11,12,17,20]]] _ hn (by kernel_rfl) (aC h1 <| aC (qaT monic qaG) <| aC h2 <| aC (of_decide_eq_true h4 : (Int.tmod (wI6 (step - (1 : Int))) (2 : Int)) = ((1 : Nat) : Int)) <| aC (qaZ h6) <| aC (qeX h8) <| aC (qaV h10) <| aC (qaT x9.1 qaA) <| aN) (ih _ _ h cx hn)
        · skip
          cases h
theorem hensel_Lift_c25 {K} (ih : qa5 K) {cx} (hn : cx.n = 208) {base top pair power p k goal monic parts step now t131 t132 t133} {r} (h : qaF (K + 1) (.c25 base top pair power p k goal monic parts step now t131 t132 t133) = some r) : qa4 cx (.c25 base top pair power p k goal monic parts step now t131 t132 t133) r := by
  rw [qaF] at h
  rcases qaK h with ⟨h1, h⟩ | ⟨h1, h⟩
  · skip
    obtain ⟨x2, h3, h⟩ := qaH h
    obtain ⟨x4, h5, h⟩ := qaH h
    obtain ⟨x6, h7, h⟩ := qaH h
    exact qaU (fuel := 98) [.go, rgG [oo], .br true, rgG [opI (.ix (qaA x2)), oo, oo, oo], rgG [oo, oo, opI (.call [[0,1], [0,1]] [(TV.agg (qaA x2)), (TV.agg (qaA power))] (TV.tup [(true, qaA x4.1), (false, [(T.int .i64 x4.2)])])), oo, oo, oo, oo, oo, oo], rgG [oo, oo, oo, opI (.call [[0,1], [0]] [(TV.agg (qaA x4.1)), (ti .u32 p)] (ti .u32 x6)), opI (.lit (([x6] : List Int).map qaC)), opI (.appN (([x6] : List Int).map qaC)), oo], rgG [oo, oo], .pre [.rl 27 0 ([x6] : List Int).length, .keep [2,3,11,12,13,14,16,17,20,21,22,27,131,132,133] [11,12,17,20,148]]] _ hn (by kernel_rfl) (aC h1 <| aC (qa0 h3) <| aC (qbH qaA h3) <| aC (qbW h5) <| aC (qbD h7) <| aC (by kernel_rfl : [(T.int .u32 x6)] = (([x6] : List Int).map qaC).flatten) <| aC (qbI _ _ _ (by simp) : ((([x6] : List Int).map qaC).drop 0).take 1 = ([x6] : List Int).map qaC) <| aC (by simp : 0 < (([x6] : List Int).map qaC).length) <| aC (by simp : (([x6] : List Int).map qaC).length * 4 ≤ 140737488355328) <| aC (by simp [maxLen] : (([x6] : List Int).map qaC).length ≤ maxLen) <| aC r0 <| aC (by simp : (([x6] : List Int).map qaC).length = ([x6] : List Int).length) <| aN) (ih _ _ h cx hn)
  · skip
    obtain ⟨x2, h3, h⟩ := qaH h
    exact qaU (fuel := 96) [.go, rgG [oo], .br false, rgG [oo, oo, opI (.call [[0,1], [0,1]] [(TV.agg (qaA power)), (TV.agg (qaA base))] (TV.agg (qaA x2))), oo, oo], rgG [oo], rgG [oo, opI (.ln (now.length : Int)), oo], .pre [.keep [2,3,11,12,13,14,16,17,20,21,27,32,33,153,154,155] [11,12,17,20,32]]] _ hn (by kernel_rfl) (aC h1 <| aC (qbT h3) <| aC (qaT now qaD) <| aN) (ih _ _ h cx hn)
theorem hensel_Lift_c26 {K} (ih : qa5 K) {cx} (hn : cx.n = 208) {base top pair power r148 p k goal monic parts step now t131 t132 t133} {r} (h : qaF (K + 1) (.c26 base top pair power r148 p k goal monic parts step now t131 t132 t133) = some r) : qa4 cx (.c26 base top pair power r148 p k goal monic parts step now t131 t132 t133) r := by
  rw [qaF] at h
  rcases qaK h with ⟨h1, h⟩ | ⟨h1, h⟩
  · skip
    obtain ⟨x2, h3, h⟩ := qaH h
    obtain ⟨x4, h5, h⟩ := qaH h
    obtain ⟨x6, h7, h⟩ := qaH h
    obtain ⟨h8, h⟩ := qbE h
    exact qaU (fuel := 98) [.go, rgG [oo], .br true, rgG [opI (.ix (qaA x2)), oo, oo, oo], rgG [oo, oo, opI (.call [[0,1], [0,1]] [(TV.agg (qaA x2)), (TV.agg (qaA power))] (TV.tup [(true, qaA x4.1), (false, [(T.int .i64 x4.2)])])), oo, oo, oo, oo, oo, oo], .pre [.keep [2,3,11,12,13,14,16,17,20,21,22,27,30,131,132,133] [11,12,17,20,30,148]], rgG [oo, oo, oo, opI (.call [[0,1], [0]] [(TV.agg (qaA x4.1)), (ti .u32 p)] (ti .u32 x6)), opI (.lit (([x6] : List Int).map qaC)), .appR (([x6] : List Int).map qaC) ((r148 ++ ([x6] : List Int)).map qaC), oo], rgG [oo, oo], .pre [.rl 27 0 (r148 ++ ([x6] : List Int)).length, .keep [2,3,11,12,13,14,16,17,20,21,22,27,131,132,133] [11,12,17,20,148]]] _ hn (by kernel_rfl) (aC h1 <| aC (qa0 h3) <| aC (qbH qaA h3) <| aC (qbW h5) <| aC (qbD h7) <| aC (by kernel_rfl : [(T.int .u32 x6)] = (([x6] : List Int).map qaC).flatten) <| aC (by simp : r148.length = (r148.map qaC).length) <| aC (qbI _ _ _ (by simp) : ((([x6] : List Int).map qaC).drop 0).take 1 = ([x6] : List Int).map qaC) <| aC (qmF _ _ _ : r148.map qaC ++ ([x6] : List Int).map qaC = (r148 ++ ([x6] : List Int)).map qaC) <| aC ((qc4 _ _).symm ▸ h8 : ((r148 ++ ([x6] : List Int)).map qaC).length * 4 ≤ 140737488355328) <| aC ((qc4 _ _).symm ▸ room (by decide) h8 : ((r148 ++ ([x6] : List Int)).map qaC).length ≤ maxLen) <| aC r0 <| aC (by simp : ((r148 ++ ([x6] : List Int)).map qaC).length = (r148 ++ ([x6] : List Int)).length) <| aN) (ih _ _ h cx hn)
  · skip
    obtain ⟨x2, h3, h⟩ := qaH h
    exact qaU (fuel := 96) [.go, rgG [oo], .br false, rgG [oo, oo, opI (.call [[0,1], [0,1]] [(TV.agg (qaA power)), (TV.agg (qaA base))] (TV.agg (qaA x2))), oo, oo], rgG [oo], rgG [oo, opI (.ln (now.length : Int)), oo], .pre [.rl 27 0 r148.length, .keep [2,3,11,12,13,14,16,17,20,21,27,32,33,153,154,155] [11,12,17,20,32,148]]] _ hn (by kernel_rfl) (aC h1 <| aC (qbT h3) <| aC (qaT now qaD) <| aC r0 <| aC (lq r148) <| aN) (ih _ _ h cx hn)
theorem hensel_Lift_c27 {K} (ih : qa5 K) {cx} (hn : cx.n = 208) {base top pair power next p k goal monic parts step t153 t154 t155} {r} (h : qaF (K + 1) (.c27 base top pair power next p k goal monic parts step t153 t154 t155) = some r) : qa4 cx (.c27 base top pair power next p k goal monic parts step t153 t154 t155) r := by
  rw [qaF] at h
  rcases qaK h with ⟨h1, h⟩ | ⟨h1, h⟩
  · skip
    obtain ⟨x2, h3, h⟩ := qaH h
    obtain ⟨x4, h5, h⟩ := qaH h
    obtain ⟨x6, h7, h⟩ := qaH h
    obtain ⟨x8, h9, h⟩ := qaH h
    obtain ⟨x10, h11, h⟩ := qaH h
    obtain ⟨x12, h13, h⟩ := qaH h
    obtain ⟨x14, h15, h⟩ := qaH h
    obtain ⟨x16, h17, h⟩ := qaH h
    obtain ⟨x18, h19, h⟩ := qaH h
    exact qaU (fuel := 114) [.go, rgG [oo], .br true, rgG [oo, opI (.ix (qaD x2)), oo, oo, oo], .draw [.p, .p, .p, (.ix (qaG x4)), .p, .p, (.call [[1], [1], [0]] [(TV.c (T.sl 1 ([].map qaC))), (tl 1 x4 qaC), (ti .u32 p)] (tl 1 x6 qaC)), .p, .p, (.ix (qaG x8)), .p, .p, (.call [[1], [1], [0]] [(tl 1 x6 qaC), (tl 1 x8 qaC), (ti .u32 p)] (TV.tup [(false, [(T.sl 1 (x10.1.map qaC))]), (false, [(T.sl 1 (x10.2.1.map qaC))]), (false, [(T.int .i64 x10.2.2)])])), .p, .p, .p, .p, .p, .p] [.op .p], .draw [.p, .p, .p, (.call [[1], [0]] [(TV.c (T.sl 1 (x10.2.1.map qaC))), (ti .u32 p)] (tl 2 x12 qaA)), .p, (.call [[2], [0,1]] [(tl 2 x12 qaA), (TV.agg (qaA power))] (tl 2 x14 qaA))] [opI (.call [[2], [2]] [(tl 2 x2 qaA), (tl 2 x14 qaA)] (tl 2 x16 qaA)), .op .p], rgG [oo, oo, opI (.call [[2], [0,1]] [(tl 2 x16 qaA), (TV.agg (qaA next))] (TV.tup [(false, [(T.sl 2 (x18.1.map qaA))]), (false, [(T.int .i64 x18.2)])])), oo, oo, oo, oo], rgG [oo, oo, opI (.lit (([x18.1] : List (List qaB)).map qaD)), opI (.appN (([x18.1] : List (List qaB)).map qaD)), oo], rgG [oo, oo], .pre [.rl 33 0 ([x18.1] : List (List qaB)).length, .keep [2,3,11,12,13,14,16,17,20,21,27,32,33,153,154,155] [11,12,17,20,32,193]]] _ hn (by kernel_rfl) (aC h1 <| aC (qa0 h3) <| aC (qbH qaD h3) <| aC (qa0 h5) <| aC (qbH qaG h5) <| aC (qbL h7) <| aC (qa0 h9) <| aC (qbH qaG h9) <| aC (qbV h11) <| aC (qbS h13) <| aC (qcK h15) <| aC (qdK h17) <| aC (qaV h19) <| aC (by kernel_rfl : [(T.sl 2 (x18.1.map qaA))] = (([x18.1] : List (List qaB)).map qaD).flatten) <| aC (qbI _ _ _ (by simp) : ((([x18.1] : List (List qaB)).map qaD).drop 0).take 1 = ([x18.1] : List (List qaB)).map qaD) <| aC (by simp : 0 < (([x18.1] : List (List qaB)).map qaD).length) <| aC (by simp : (([x18.1] : List (List qaB)).map qaD).length * 24 ≤ 140737488355328) <| aC (by simp [maxLen] : (([x18.1] : List (List qaB)).map qaD).length ≤ maxLen) <| aC r0 <| aC (by simp : (([x18.1] : List (List qaB)).map qaD).length = ([x18.1] : List (List qaB)).length) <| aN) (ih _ _ h cx hn)
  · skip
    rcases qaK h with ⟨h2, h⟩ | ⟨h2, h⟩
    · skip
      exact qaU (fuel := 84) [.go, rgG [oo], .br false, rgG [oo, oo, oo, opI (.ia 0), oo], rgG [oo, oo], .pre [.keep [2,3,11,12,13,14,16,17,20,21] [11,12,17,20]]] _ hn (by kernel_rfl) (aC h1 <| aC (of_decide_eq_true h2 : (Int.tmod step (2 : Int)) = ((0 : Nat) : Int)) <| aN) (ih _ _ h cx hn)
    · skip
      rcases qaK h with ⟨h3, h⟩ | ⟨h3, h⟩
      · skip
        exact qaU (fuel := 84) [.go, rgG [oo], .br false, rgG [oo, oo, oo, opI (.ia 1), oo], rgG [oo, oo], .pre [.keep [2,3,11,12,13,14,16,17,20,21] [11,12,17,20]]] _ hn (by kernel_rfl) (aC h1 <| aC (of_decide_eq_true h3 : (Int.tmod step (2 : Int)) = ((1 : Nat) : Int)) <| aN) (ih _ _ h cx hn)
      · skip
        cases h
theorem hensel_Lift_c28 {K} (ih : qa5 K) {cx} (hn : cx.n = 208) {base top pair power next r148 p k goal monic parts step t153 t154 t155} {r} (h : qaF (K + 1) (.c28 base top pair power next r148 p k goal monic parts step t153 t154 t155) = some r) : qa4 cx (.c28 base top pair power next r148 p k goal monic parts step t153 t154 t155) r := by
  rw [qaF] at h
  rcases qaK h with ⟨h1, h⟩ | ⟨h1, h⟩
  · skip
    obtain ⟨x2, h3, h⟩ := qaH h
    obtain ⟨x4, h5, h⟩ := qaH h
    obtain ⟨x6, h7, h⟩ := qaH h
    obtain ⟨x8, h9, h⟩ := qaH h
    obtain ⟨x10, h11, h⟩ := qaH h
    obtain ⟨x12, h13, h⟩ := qaH h
    obtain ⟨x14, h15, h⟩ := qaH h
    obtain ⟨x16, h17, h⟩ := qaH h
    obtain ⟨x18, h19, h⟩ := qaH h
    exact qaU (fuel := 114) [.go, rgG [oo], .br true, rgG [oo, opI (.ix (qaD x2)), oo, oo, oo], .pre [.snap 27 (max 0 (0 + r148.length)) (r148.map qaC)], .draw [.p, .p, .p, (.ix (qaG x4)), .p, .p, (.call [[1], [1], [0]] [(tl 1 r148 qaC), (tl 1 x4 qaC), (ti .u32 p)] (tl 1 x6 qaC)), .p, .p, (.ix (qaG x8)), .p, .p, (.call [[1], [1], [0]] [(tl 1 x6 qaC), (tl 1 x8 qaC), (ti .u32 p)] (TV.tup [(false, [(T.sl 1 (x10.1.map qaC))]), (false, [(T.sl 1 (x10.2.1.map qaC))]), (false, [(T.int .i64 x10.2.2)])])), .p, .p, .p, .p, .p, .p] [.op .p], .draw [.p, .p, .p, (.call [[1], [0]] [(TV.c (T.sl 1 (x10.2.1.map qaC))), (ti .u32 p)] (tl 2 x12 qaA)), .p, (.call [[2], [0,1]] [(tl 2 x12 qaA), (TV.agg (qaA power))] (tl 2 x14 qaA))] [opI (.call [[2], [2]] [(tl 2 x2 qaA), (tl 2 x14 qaA)] (tl 2 x16 qaA)), .op .p], rgG [oo, oo, opI (.call [[2], [0,1]] [(tl 2 x16 qaA), (TV.agg (qaA next))] (TV.tup [(false, [(T.sl 2 (x18.1.map qaA))]), (false, [(T.int .i64 x18.2)])])), oo, oo, oo, oo], rgG [oo, oo, opI (.lit (([x18.1] : List (List qaB)).map qaD)), opI (.appN (([x18.1] : List (List qaB)).map qaD)), oo], rgG [oo, oo], .pre [.rl 33 0 ([x18.1] : List (List qaB)).length, .keep [2,3,11,12,13,14,16,17,20,21,27,32,33,153,154,155] [11,12,17,20,32,193]]] _ hn (by kernel_rfl) (aC h1 <| aC (qa0 h3) <| aC (qbH qaD h3) <| aC (qbI _ _ _ (by simp) : ((r148.map qaC).drop 0).take r148.length = r148.map qaC) <| aC (rfl : (max 0 (0 + r148.length)) = (max 0 (0 + r148.length))) <| aC (qa0 h5) <| aC (qbH qaG h5) <| aC (qbL h7) <| aC (qa0 h9) <| aC (qbH qaG h9) <| aC (qbV h11) <| aC (qbS h13) <| aC (qcK h15) <| aC (qdK h17) <| aC (qaV h19) <| aC (by kernel_rfl : [(T.sl 2 (x18.1.map qaA))] = (([x18.1] : List (List qaB)).map qaD).flatten) <| aC (qbI _ _ _ (by simp) : ((([x18.1] : List (List qaB)).map qaD).drop 0).take 1 = ([x18.1] : List (List qaB)).map qaD) <| aC (by simp : 0 < (([x18.1] : List (List qaB)).map qaD).length) <| aC (by simp : (([x18.1] : List (List qaB)).map qaD).length * 24 ≤ 140737488355328) <| aC (by simp [maxLen] : (([x18.1] : List (List qaB)).map qaD).length ≤ maxLen) <| aC r0 <| aC (by simp : (([x18.1] : List (List qaB)).map qaD).length = ([x18.1] : List (List qaB)).length) <| aN) (ih _ _ h cx hn)
  · skip
    rcases qaK h with ⟨h2, h⟩ | ⟨h2, h⟩
    · skip
      exact qaU (fuel := 84) [.go, rgG [oo], .br false, rgG [oo, oo, oo, opI (.ia 0), oo], rgG [oo, oo], .pre [.keep [2,3,11,12,13,14,16,17,20,21] [11,12,17,20]]] _ hn (by kernel_rfl) (aC h1 <| aC (of_decide_eq_true h2 : (Int.tmod step (2 : Int)) = ((0 : Nat) : Int)) <| aN) (ih _ _ h cx hn)
    · skip
      rcases qaK h with ⟨h3, h⟩ | ⟨h3, h⟩
      · skip
        exact qaU (fuel := 84) [.go, rgG [oo], .br false, rgG [oo, oo, oo, opI (.ia 1), oo], rgG [oo, oo], .pre [.keep [2,3,11,12,13,14,16,17,20,21] [11,12,17,20]]] _ hn (by kernel_rfl) (aC h1 <| aC (of_decide_eq_true h3 : (Int.tmod step (2 : Int)) = ((1 : Nat) : Int)) <| aN) (ih _ _ h cx hn)
      · skip
        cases h
theorem hensel_Lift_c29 {K} (ih : qa5 K) {cx} (hn : cx.n = 208) {base top pair power next r193 p k goal monic parts step t153 t154 t155} {r} (h : qaF (K + 1) (.c29 base top pair power next r193 p k goal monic parts step t153 t154 t155) = some r) : qa4 cx (.c29 base top pair power next r193 p k goal monic parts step t153 t154 t155) r := by
  rw [qaF] at h
  rcases qaK h with ⟨h1, h⟩ | ⟨h1, h⟩
  · skip
    obtain ⟨x2, h3, h⟩ := qaH h
    obtain ⟨x4, h5, h⟩ := qaH h
    obtain ⟨x6, h7, h⟩ := qaH h
    obtain ⟨x8, h9, h⟩ := qaH h
    obtain ⟨x10, h11, h⟩ := qaH h
    obtain ⟨x12, h13, h⟩ := qaH h
    obtain ⟨x14, h15, h⟩ := qaH h
    obtain ⟨x16, h17, h⟩ := qaH h
    obtain ⟨x18, h19, h⟩ := qaH h
    obtain ⟨h20, h⟩ := qbE h
    exact qaU (fuel := 114) [.go, rgG [oo], .br true, rgG [oo, opI (.ix (qaD x2)), oo, oo, oo], .draw [.p, .p, .p, (.ix (qaG x4)), .p, .p, (.call [[1], [1], [0]] [(TV.c (T.sl 1 ([].map qaC))), (tl 1 x4 qaC), (ti .u32 p)] (tl 1 x6 qaC)), .p, .p, (.ix (qaG x8)), .p, .p, (.call [[1], [1], [0]] [(tl 1 x6 qaC), (tl 1 x8 qaC), (ti .u32 p)] (TV.tup [(false, [(T.sl 1 (x10.1.map qaC))]), (false, [(T.sl 1 (x10.2.1.map qaC))]), (false, [(T.int .i64 x10.2.2)])])), .p, .p, .p, .p, .p, .p] [.op .p], .draw [.p, .p, .p, (.call [[1], [0]] [(TV.c (T.sl 1 (x10.2.1.map qaC))), (ti .u32 p)] (tl 2 x12 qaA)), .p, (.call [[2], [0,1]] [(tl 2 x12 qaA), (TV.agg (qaA power))] (tl 2 x14 qaA))] [opI (.call [[2], [2]] [(tl 2 x2 qaA), (tl 2 x14 qaA)] (tl 2 x16 qaA)), .op .p], rgG [oo, oo, opI (.call [[2], [0,1]] [(tl 2 x16 qaA), (TV.agg (qaA next))] (TV.tup [(false, [(T.sl 2 (x18.1.map qaA))]), (false, [(T.int .i64 x18.2)])])), oo, oo, oo, oo], .pre [.keep [2,3,11,12,13,14,16,17,20,21,27,32,33,39,153,154,155] [11,12,17,20,32,193]], rgG [oo, oo, opI (.lit (([x18.1] : List (List qaB)).map qaD)), .appR (([x18.1] : List (List qaB)).map qaD) ((r193 ++ ([x18.1] : List (List qaB))).map qaD), oo], rgG [oo, oo], .pre [.rl 33 0 (r193 ++ ([x18.1] : List (List qaB))).length, .keep [2,3,11,12,13,14,16,17,20,21,27,32,33,153,154,155] [11,12,17,20,32,193]]] _ hn (by kernel_rfl) (aC h1 <| aC (qa0 h3) <| aC (qbH qaD h3) <| aC (qa0 h5) <| aC (qbH qaG h5) <| aC (qbL h7) <| aC (qa0 h9) <| aC (qbH qaG h9) <| aC (qbV h11) <| aC (qbS h13) <| aC (qcK h15) <| aC (qdK h17) <| aC (qaV h19) <| aC (by kernel_rfl : [(T.sl 2 (x18.1.map qaA))] = (([x18.1] : List (List qaB)).map qaD).flatten) <| aC (by simp : r193.length = (r193.map qaD).length) <| aC (qbI _ _ _ (by simp) : ((([x18.1] : List (List qaB)).map qaD).drop 0).take 1 = ([x18.1] : List (List qaB)).map qaD) <| aC (qmF _ _ _ : r193.map qaD ++ ([x18.1] : List (List qaB)).map qaD = (r193 ++ ([x18.1] : List (List qaB))).map qaD) <| aC ((qc4 _ _).symm ▸ h20 : ((r193 ++ ([x18.1] : List (List qaB))).map qaD).length * 24 ≤ 140737488355328) <| aC ((qc4 _ _).symm ▸ room (by decide) h20 : ((r193 ++ ([x18.1] : List (List qaB))).map qaD).length ≤ maxLen) <| aC r0 <| aC (by simp : ((r193 ++ ([x18.1] : List (List qaB))).map qaD).length = (r193 ++ ([x18.1] : List (List qaB))).length) <| aN) (ih _ _ h cx hn)
  · skip
    rcases qaK h with ⟨h2, h⟩ | ⟨h2, h⟩
    · skip
      exact qaU (fuel := 84) [.go, rgG [oo], .br false, rgG [oo, oo, oo, opI (.ia 0), oo], rgG [oo, oo], .pre [.rlB 17 0 0 r193.length, .keep [2,3,11,12,13,14,16,17,20,21] [11,12,17,20,193]]] _ hn (by kernel_rfl) (aC h1 <| aC (of_decide_eq_true h2 : (Int.tmod step (2 : Int)) = ((0 : Nat) : Int)) <| aC r0 <| aC (lq r193) <| aN) (ih _ _ h cx hn)
    · skip
      rcases qaK h with ⟨h3, h⟩ | ⟨h3, h⟩
      · skip
        exact qaU (fuel := 84) [.go, rgG [oo], .br false, rgG [oo, oo, oo, opI (.ia 1), oo], rgG [oo, oo], .pre [.rlB 17 1 0 r193.length, .keep [2,3,11,12,13,14,16,17,20,21] [11,12,17,20,193]]] _ hn (by kernel_rfl) (aC h1 <| aC (of_decide_eq_true h3 : (Int.tmod step (2 : Int)) = ((1 : Nat) : Int)) <| aC r0 <| aC (lq r193) <| aN) (ih _ _ h cx hn)
      · skip
        cases h
theorem hensel_Lift_c30 {K} (ih : qa5 K) {cx} (hn : cx.n = 208) {base top pair power p k goal monic parts step} {r} (h : qaF (K + 1) (.c30 base top pair power p k goal monic parts step) = some r) : qa4 cx (.c30 base top pair power p k goal monic parts step) r := by
  rw [qaF] at h
  exact qaU (fuel := 44) [rgG [oo, oo, oo], .pre [.keep [2,3,11,12,13,14,16,17,20,21] [11,12,17,20]]] _ hn (by kernel_rfl) aN (ih _ _ h cx hn)
theorem hensel_Lift_c31 {K} (ih : qa5 K) {cx} (hn : cx.n = 208) {base top pair power next r193 p k goal monic parts step change t153 t154 t155} {r} (h : qaF (K + 1) (.c31 base top pair power next r193 p k goal monic parts step change t153 t154 t155) = some r) : qa4 cx (.c31 base top pair power next r193 p k goal monic parts step change t153 t154 t155) r := by
  rw [qaF] at h
  rcases qaK h with ⟨h1, h⟩ | ⟨h1, h⟩
  · skip
    obtain ⟨x2, h3, h⟩ := qaH h
    obtain ⟨x4, h5, h⟩ := qaH h
    obtain ⟨x6, h7, h⟩ := qaH h
    obtain ⟨x8, h9, h⟩ := qaH h
    obtain ⟨x10, h11, h⟩ := qaH h
    obtain ⟨x12, h13, h⟩ := qaH h
    obtain ⟨x14, h15, h⟩ := qaH h
    obtain ⟨x16, h17, h⟩ := qaH h
    obtain ⟨x18, h19, h⟩ := qaH h
    obtain ⟨h20, h⟩ := qbE h
    exact qaU (fuel := 114) [.go, rgG [oo], .br true, rgG [oo, opI (.ix (qaD x2)), oo, oo, oo], .draw [.p, .p, .p, (.ix (qaG x4)), .p, .p, (.call [[1], [1], [0]] [(tl 1 change qaC), (tl 1 x4 qaC), (ti .u32 p)] (tl 1 x6 qaC)), .p, .p, (.ix (qaG x8)), .p, .p, (.call [[1], [1], [0]] [(tl 1 x6 qaC), (tl 1 x8 qaC), (ti .u32 p)] (TV.tup [(false, [(T.sl 1 (x10.1.map qaC))]), (false, [(T.sl 1 (x10.2.1.map qaC))]), (false, [(T.int .i64 x10.2.2)])])), .p, .p, .p, .p, .p, .p] [.op .p], .draw [.p, .p, .p, (.call [[1], [0]] [(TV.c (T.sl 1 (x10.2.1.map qaC))), (ti .u32 p)] (tl 2 x12 qaA)), .p, (.call [[2], [0,1]] [(tl 2 x12 qaA), (TV.agg (qaA power))] (tl 2 x14 qaA))] [opI (.call [[2], [2]] [(tl 2 x2 qaA), (tl 2 x14 qaA)] (tl 2 x16 qaA)), .op .p], rgG [oo, oo, opI (.call [[2], [0,1]] [(tl 2 x16 qaA), (TV.agg (qaA next))] (TV.tup [(false, [(T.sl 2 (x18.1.map qaA))]), (false, [(T.int .i64 x18.2)])])), oo, oo, oo, oo], .pre [.keep [2,3,11,12,13,14,16,17,20,21,27,32,33,39,153,154,155] [11,12,17,20,32,193]], rgG [oo, oo, opI (.lit (([x18.1] : List (List qaB)).map qaD)), .appR (([x18.1] : List (List qaB)).map qaD) ((r193 ++ ([x18.1] : List (List qaB))).map qaD), oo], rgG [oo, oo], .pre [.rl 33 0 (r193 ++ ([x18.1] : List (List qaB))).length, .keep [2,3,11,12,13,14,16,17,20,21,27,32,33,153,154,155] [11,12,17,20,32,193]]] _ hn (by kernel_rfl) (aC h1 <| aC (qa0 h3) <| aC (qbH qaD h3) <| aC (qa0 h5) <| aC (qbH qaG h5) <| aC (qbL h7) <| aC (qa0 h9) <| aC (qbH qaG h9) <| aC (qbV h11) <| aC (qbS h13) <| aC (qcK h15) <| aC (qdK h17) <| aC (qaV h19) <| aC (by kernel_rfl : [(T.sl 2 (x18.1.map qaA))] = (([x18.1] : List (List qaB)).map qaD).flatten) <| aC (by simp : r193.length = (r193.map qaD).length) <| aC (qbI _ _ _ (by simp) : ((([x18.1] : List (List qaB)).map qaD).drop 0).take 1 = ([x18.1] : List (List qaB)).map qaD) <| aC (qmF _ _ _ : r193.map qaD ++ ([x18.1] : List (List qaB)).map qaD = (r193 ++ ([x18.1] : List (List qaB))).map qaD) <| aC ((qc4 _ _).symm ▸ h20 : ((r193 ++ ([x18.1] : List (List qaB))).map qaD).length * 24 ≤ 140737488355328) <| aC ((qc4 _ _).symm ▸ room (by decide) h20 : ((r193 ++ ([x18.1] : List (List qaB))).map qaD).length ≤ maxLen) <| aC r0 <| aC (by simp : ((r193 ++ ([x18.1] : List (List qaB))).map qaD).length = (r193 ++ ([x18.1] : List (List qaB))).length) <| aN) (ih _ _ h cx hn)
  · skip
    rcases qaK h with ⟨h2, h⟩ | ⟨h2, h⟩
    · skip
      exact qaU (fuel := 84) [.go, rgG [oo], .br false, rgG [oo, oo, oo, opI (.ia 0), oo], rgG [oo, oo], .pre [.rlB 17 0 0 r193.length, .keep [2,3,11,12,13,14,16,17,20,21] [11,12,17,20,193]]] _ hn (by kernel_rfl) (aC h1 <| aC (of_decide_eq_true h2 : (Int.tmod step (2 : Int)) = ((0 : Nat) : Int)) <| aC r0 <| aC (lq r193) <| aN) (ih _ _ h cx hn)
    · skip
      rcases qaK h with ⟨h3, h⟩ | ⟨h3, h⟩
      · skip
        exact qaU (fuel := 84) [.go, rgG [oo], .br false, rgG [oo, oo, oo, opI (.ia 1), oo], rgG [oo, oo], .pre [.rlB 17 1 0 r193.length, .keep [2,3,11,12,13,14,16,17,20,21] [11,12,17,20,193]]] _ hn (by kernel_rfl) (aC h1 <| aC (of_decide_eq_true h3 : (Int.tmod step (2 : Int)) = ((1 : Nat) : Int)) <| aC r0 <| aC (lq r193) <| aN) (ih _ _ h cx hn)
      · skip
        cases h
theorem hensel_Lift_c32 {K} (ih : qa5 K) {cx} (hn : cx.n = 208) {base top pair power r193 p k goal monic parts step} {r} (h : qaF (K + 1) (.c32 base top pair power r193 p k goal monic parts step) = some r) : qa4 cx (.c32 base top pair power r193 p k goal monic parts step) r := by
  rw [qaF] at h
  exact qaU (fuel := 44) [rgG [oo, oo, oo], .pre [.snapC 17 0 (max 0 (0 + r193.length)) (r193.map qaD)], .pre [.keep [2,3,11,12,13,14,16,17,20,21] [11,12,17,20]]] _ hn (by kernel_rfl) (aC (qbI _ _ _ (by simp) : ((r193.map qaD).drop 0).take r193.length = r193.map qaD) <| aC (rfl : (max 0 (0 + r193.length)) = (max 0 (0 + r193.length))) <| aN) (ih _ _ h cx hn)
theorem hensel_Lift_c33 {K} (ih : qa5 K) {cx} (hn : cx.n = 208) {base top pair power p k goal monic parts step} {r} (h : qaF (K + 1) (.c33 base top pair power p k goal monic parts step) = some r) : qa4 cx (.c33 base top pair power p k goal monic parts step) r := by
  rw [qaF] at h
  rcases qaK h with ⟨h1, h⟩ | ⟨h1, h⟩
  · skip
    rcases qaK h with ⟨h2, h⟩ | ⟨h2, h⟩
    · skip
      have h := Option.some.inj h; subst h
      exact qaN (fuel := 106) [.go, rgG [oo, oo, oo, oo, .sb 106 true, oo, oo, oo, oo], .br true, rgG [oo, opI (.ln (monic.length : Int)), oo], .br true, rgG [oo, oo]] _ hn (by kernel_rfl) (aC h1 <| aC rt <| aC (qaT monic qaG) <| aC h2 <| aN)
    · skip
      rcases qaK h with ⟨h3, h⟩ | ⟨h3, h⟩
      · skip
        have h := Option.some.inj h; subst h
        exact qaN (fuel := 106) [.go, rgG [oo, oo, oo, oo, .sb 106 true, oo, oo, oo, oo], .br true, rgG [oo, opI (.ln (monic.length : Int)), oo], .br false, rgG [oo, oo, oo, opI (.ia 0), oo, oo, oo]] _ hn (by kernel_rfl) (aC h1 <| aC rt <| aC (qaT monic qaG) <| aC h2 <| aC (of_decide_eq_true h3 : (Int.tmod (wI6 (k - (1 : Int))) (2 : Int)) = ((0 : Nat) : Int)) <| aN)
      · skip
        rcases qaK h with ⟨h4, h⟩ | ⟨h4, h⟩
        · skip
          have h := Option.some.inj h; subst h
          exact qaN (fuel := 106) [.go, rgG [oo, oo, oo, oo, .sb 106 true, oo, oo, oo, oo], .br true, rgG [oo, opI (.ln (monic.length : Int)), oo], .br false, rgG [oo, oo, oo, opI (.ia 1), oo, oo, oo]] _ hn (by kernel_rfl) (aC h1 <| aC rt <| aC (qaT monic qaG) <| aC h2 <| aC (of_decide_eq_true h4 : (Int.tmod (wI6 (k - (1 : Int))) (2 : Int)) = ((1 : Nat) : Int)) <| aN)
        · skip
          cases h
  · skip
    rcases qaK h with ⟨h2, h⟩ | ⟨h2, h⟩
    · skip
      rcases qaK h with ⟨h3, h⟩ | ⟨h3, h⟩
      · skip
        have h := Option.some.inj h; subst h
        exact qaN (fuel := 106) [.go, rgG [oo, oo, oo, oo, .sb 106 false, oo, opI (.ln (monic.length : Int)), oo, oo], .br true, rgG [oo, opI (.ln (monic.length : Int)), oo], .br true, rgG [oo, oo]] _ hn (by kernel_rfl) (aC h1 <| aC (qaT monic qaG) <| aC h2 <| aC (qaT monic qaG) <| aC h3 <| aN)
      · skip
        rcases qaK h with ⟨h4, h⟩ | ⟨h4, h⟩
        · skip
          have h := Option.some.inj h; subst h
          exact qaN (fuel := 106) [.go, rgG [oo, oo, oo, oo, .sb 106 false, oo, opI (.ln (monic.length : Int)), oo, oo], .br true, rgG [oo, opI (.ln (monic.length : Int)), oo], .br false, rgG [oo, oo, oo, opI (.ia 0), oo, oo, oo]] _ hn (by kernel_rfl) (aC h1 <| aC (qaT monic qaG) <| aC h2 <| aC (qaT monic qaG) <| aC h3 <| aC (of_decide_eq_true h4 : (Int.tmod (wI6 (k - (1 : Int))) (2 : Int)) = ((0 : Nat) : Int)) <| aN)
        · skip
          rcases qaK h with ⟨h5, h⟩ | ⟨h5, h⟩
          · skip
            have h := Option.some.inj h; subst h
            exact qaN (fuel := 106) [.go, rgG [oo, oo, oo, oo, .sb 106 false, oo, opI (.ln (monic.length : Int)), oo, oo], .br true, rgG [oo, opI (.ln (monic.length : Int)), oo], .br false, rgG [oo, oo, oo, opI (.ia 1), oo, oo, oo]] _ hn (by kernel_rfl) (aC h1 <| aC (qaT monic qaG) <| aC h2 <| aC (qaT monic qaG) <| aC h3 <| aC (of_decide_eq_true h5 : (Int.tmod (wI6 (k - (1 : Int))) (2 : Int)) = ((1 : Nat) : Int)) <| aN)
          · skip
            cases h
    · skip
      rcases qaK h with ⟨h3, h⟩ | ⟨h3, h⟩
      · skip
        obtain ⟨x4, h5, h⟩ := qaH h
        obtain ⟨x6, h7, h⟩ := qaH h
        obtain ⟨x8, h9, h⟩ := qaH h
        exact qaU (fuel := 110) [.go, rgG [oo, oo, oo, oo, .sb 106 false, oo, opI (.ln (monic.length : Int)), oo, oo], .br false, rgG [oo, oo, oo, opI (.ia 0), oo, oo], rgG [oo, oo, opI (.call [[1], [0,1]] [(TV.c (T.sl 1 ([].map qaD))), (TV.agg (qaA top))] (TV.tup [(false, [(T.sl 2 (x4.1.map qaA))]), (false, [(T.int .i64 x4.2)])])), oo, oo, oo, oo, oo], .draw [.p, .p, (.call [[2], [2]] [(tl 2 goal qaA), (tl 2 x4.1 qaA)] (tl 2 x6 qaA)), .p, (.call [[2], [0,1]] [(tl 2 x6 qaA), (TV.agg (qaA top))] (TV.tup [(false, [(T.sl 2 (x8.1.map qaA))]), (false, [(T.int .i64 x8.2)])])), .p, .p, .p, .p] [.op .p], rgG [.op .lit0, oo], rgG [oo, opI (.ln (x8.1.length : Int)), oo], .pre [.keep [2,3,11,12,13,14,16,17,20,21,22,27,131,132,133] [11,12,17,20]]] _ hn (by kernel_rfl) (aC h1 <| aC (qaT monic qaG) <| aC h2 <| aC (of_decide_eq_true h3 : (Int.tmod (wI6 (step - (1 : Int))) (2 : Int)) = ((0 : Nat) : Int)) <| aC (qaZ h5) <| aC (qeX h7) <| aC (qaV h9) <| aC (qaT x8.1 qaA) <| aN) (ih _ _ h cx hn)
      · skip
        rcases qaK h with ⟨h4, h⟩ | ⟨h4, h⟩
        · skip
          obtain ⟨x5, h6, h⟩ := qaH h
          obtain ⟨x7, h8, h⟩ := qaH h
          obtain ⟨x9, h10, h⟩ := qaH h
          exact qaU (fuel := 110) [.go, rgG [oo, oo, oo, oo, .sb 106 false, oo, opI (.ln (monic.length : Int)), oo, oo], .br false, rgG [oo, oo, oo, opI (.ia 1), oo, oo], rgG [oo, oo, opI (.call [[1], [0,1]] [(tl 1 pair qaD), (TV.agg (qaA top))] (TV.tup [(false, [(T.sl 2 (x5.1.map qaA))]), (false, [(T.int .i64 x5.2)])])), oo, oo, oo, oo, oo], .draw [.p, .p, (.call [[2], [2]] [(tl 2 goal qaA), (tl 2 x5.1 qaA)] (tl 2 x7 qaA)), .p, (.call [[2], [0,1]] [(tl 2 x7 qaA), (TV.agg (qaA top))] (TV.tup [(false, [(T.sl 2 (x9.1.map qaA))]), (false, [(T.int .i64 x9.2)])])), .p, .p, .p, .p] [.op .p], rgG [.op .lit0, oo], rgG [oo, opI (.ln (x9.1.length : Int)), oo], .pre [.keep [2,3,11,12,13,14,16,17,20,21,22,27,131,132,133] [11,12,17,20]]] _ hn (by kernel_rfl) (aC h1 <| aC (qaT monic qaG) <| aC h2 <| aC (of_decide_eq_true h4 : (Int.tmod (wI6 (step - (1 : Int))) (2 : Int)) = ((1 : Nat) : Int)) <| aC (qaZ h6) <| aC (qeX h8) <| aC (qaV h10) <| aC (qaT x9.1 qaA) <| aN) (ih _ _ h cx hn)
        · skip
          cases h
theorem hensel_Lift_c34 {K} (ih : qa5 K) {cx} (hn : cx.n = 208) {base top pair power p k goal monic parts step t131 t132 t133} {r} (h : qaF (K + 1) (.c34 base top pair power p k goal monic parts step t131 t132 t133) = some r) : qa4 cx (.c34 base top pair power p k goal monic parts step t131 t132 t133) r := by
  rw [qaF] at h
  rcases qaK h with ⟨h1, h⟩ | ⟨h1, h⟩
  · skip
    obtain ⟨x2, h3, h⟩ := qaH h
    obtain ⟨x4, h5, h⟩ := qaH h
    obtain ⟨x6, h7, h⟩ := qaH h
    exact qaU (fuel := 98) [.go, rgG [oo], .br true, rgG [opI (.ix (qaA x2)), oo, oo, oo], rgG [oo, oo, opI (.call [[0,1], [0,1]] [(TV.agg (qaA x2)), (TV.agg (qaA power))] (TV.tup [(true, qaA x4.1), (false, [(T.int .i64 x4.2)])])), oo, oo, oo, oo, oo, oo], rgG [oo, oo, oo, opI (.call [[0,1], [0]] [(TV.agg (qaA x4.1)), (ti .u32 p)] (ti .u32 x6)), opI (.lit (([x6] : List Int).map qaC)), opI (.appN (([x6] : List Int).map qaC)), oo], rgG [oo, oo], .pre [.rl 27 0 ([x6] : List Int).length, .keep [2,3,11,12,13,14,16,17,20,21,22,27,131,132,133] [11,12,17,20,148]]] _ hn (by kernel_rfl) (aC h1 <| aC (qa0 h3) <| aC (qbH qaA h3) <| aC (qbW h5) <| aC (qbD h7) <| aC (by kernel_rfl : [(T.int .u32 x6)] = (([x6] : List Int).map qaC).flatten) <| aC (qbI _ _ _ (by simp) : ((([x6] : List Int).map qaC).drop 0).take 1 = ([x6] : List Int).map qaC) <| aC (by simp : 0 < (([x6] : List Int).map qaC).length) <| aC (by simp : (([x6] : List Int).map qaC).length * 4 ≤ 140737488355328) <| aC (by simp [maxLen] : (([x6] : List Int).map qaC).length ≤ maxLen) <| aC r0 <| aC (by simp : (([x6] : List Int).map qaC).length = ([x6] : List Int).length) <| aN) (ih _ _ h cx hn)
  · skip
    obtain ⟨x2, h3, h⟩ := qaH h
    exact qaU (fuel := 96) [.go, rgG [oo], .br false, rgG [oo, oo, opI (.call [[0,1], [0,1]] [(TV.agg (qaA power)), (TV.agg (qaA base))] (TV.agg (qaA x2))), oo, oo], rgG [oo], rgG [oo, oo, oo], .pre [.keep [2,3,11,12,13,14,16,17,20,21,27,32,33,153,154,155] [11,12,17,20,32]]] _ hn (by kernel_rfl) (aC h1 <| aC (qbT h3) <| aN) (ih _ _ h cx hn)
theorem hensel_Lift_c35 {K} (ih : qa5 K) {cx} (hn : cx.n = 208) {base top pair power p k goal monic parts step now t131 t132 t133} {r} (h : qaF (K + 1) (.c35 base top pair power p k goal monic parts step now t131 t132 t133) = some r) : qa4 cx (.c35 base top pair power p k goal monic parts step now t131 t132 t133) r := by
  rw [qaF] at h
  rcases qaK h with ⟨h1, h⟩ | ⟨h1, h⟩
  · skip
    obtain ⟨x2, h3, h⟩ := qaH h
    obtain ⟨x4, h5, h⟩ := qaH h
    obtain ⟨x6, h7, h⟩ := qaH h
    exact qaU (fuel := 98) [.go, rgG [oo], .br true, rgG [opI (.ix (qaA x2)), oo, oo, oo], rgG [oo, oo, opI (.call [[0,1], [0,1]] [(TV.agg (qaA x2)), (TV.agg (qaA power))] (TV.tup [(true, qaA x4.1), (false, [(T.int .i64 x4.2)])])), oo, oo, oo, oo, oo, oo], rgG [oo, oo, oo, opI (.call [[0,1], [0]] [(TV.agg (qaA x4.1)), (ti .u32 p)] (ti .u32 x6)), opI (.lit (([x6] : List Int).map qaC)), opI (.appN (([x6] : List Int).map qaC)), oo], rgG [oo, oo], .pre [.rl 27 0 ([x6] : List Int).length, .keep [2,3,11,12,13,14,16,17,20,21,22,27,131,132,133] [11,12,17,20,148]]] _ hn (by kernel_rfl) (aC h1 <| aC (qa0 h3) <| aC (qbH qaA h3) <| aC (qbW h5) <| aC (qbD h7) <| aC (by kernel_rfl : [(T.int .u32 x6)] = (([x6] : List Int).map qaC).flatten) <| aC (qbI _ _ _ (by simp) : ((([x6] : List Int).map qaC).drop 0).take 1 = ([x6] : List Int).map qaC) <| aC (by simp : 0 < (([x6] : List Int).map qaC).length) <| aC (by simp : (([x6] : List Int).map qaC).length * 4 ≤ 140737488355328) <| aC (by simp [maxLen] : (([x6] : List Int).map qaC).length ≤ maxLen) <| aC r0 <| aC (by simp : (([x6] : List Int).map qaC).length = ([x6] : List Int).length) <| aN) (ih _ _ h cx hn)
  · skip
    obtain ⟨x2, h3, h⟩ := qaH h
    exact qaU (fuel := 96) [.go, rgG [oo], .br false, rgG [oo, oo, opI (.call [[0,1], [0,1]] [(TV.agg (qaA power)), (TV.agg (qaA base))] (TV.agg (qaA x2))), oo, oo], rgG [oo], rgG [oo, opI (.ln (now.length : Int)), oo], .pre [.keep [2,3,11,12,13,14,16,17,20,21,27,32,33,153,154,155] [11,12,17,20,32]]] _ hn (by kernel_rfl) (aC h1 <| aC (qbT h3) <| aC (qaT now qaD) <| aN) (ih _ _ h cx hn)
theorem hensel_Lift_c36 {K} (ih : qa5 K) {cx} (hn : cx.n = 208) {base top pair power r148 p k goal monic parts step t131 t132 t133} {r} (h : qaF (K + 1) (.c36 base top pair power r148 p k goal monic parts step t131 t132 t133) = some r) : qa4 cx (.c36 base top pair power r148 p k goal monic parts step t131 t132 t133) r := by
  rw [qaF] at h
  rcases qaK h with ⟨h1, h⟩ | ⟨h1, h⟩
  · skip
    obtain ⟨x2, h3, h⟩ := qaH h
    obtain ⟨x4, h5, h⟩ := qaH h
    obtain ⟨x6, h7, h⟩ := qaH h
    obtain ⟨h8, h⟩ := qbE h
    exact qaU (fuel := 98) [.go, rgG [oo], .br true, rgG [opI (.ix (qaA x2)), oo, oo, oo], rgG [oo, oo, opI (.call [[0,1], [0,1]] [(TV.agg (qaA x2)), (TV.agg (qaA power))] (TV.tup [(true, qaA x4.1), (false, [(T.int .i64 x4.2)])])), oo, oo, oo, oo, oo, oo], .pre [.keep [2,3,11,12,13,14,16,17,20,21,22,27,30,131,132,133] [11,12,17,20,30,148]], rgG [oo, oo, oo, opI (.call [[0,1], [0]] [(TV.agg (qaA x4.1)), (ti .u32 p)] (ti .u32 x6)), opI (.lit (([x6] : List Int).map qaC)), .appR (([x6] : List Int).map qaC) ((r148 ++ ([x6] : List Int)).map qaC), oo], rgG [oo, oo], .pre [.rl 27 0 (r148 ++ ([x6] : List Int)).length, .keep [2,3,11,12,13,14,16,17,20,21,22,27,131,132,133] [11,12,17,20,148]]] _ hn (by kernel_rfl) (aC h1 <| aC (qa0 h3) <| aC (qbH qaA h3) <| aC (qbW h5) <| aC (qbD h7) <| aC (by kernel_rfl : [(T.int .u32 x6)] = (([x6] : List Int).map qaC).flatten) <| aC (by simp : r148.length = (r148.map qaC).length) <| aC (qbI _ _ _ (by simp) : ((([x6] : List Int).map qaC).drop 0).take 1 = ([x6] : List Int).map qaC) <| aC (qmF _ _ _ : r148.map qaC ++ ([x6] : List Int).map qaC = (r148 ++ ([x6] : List Int)).map qaC) <| aC ((qc4 _ _).symm ▸ h8 : ((r148 ++ ([x6] : List Int)).map qaC).length * 4 ≤ 140737488355328) <| aC ((qc4 _ _).symm ▸ room (by decide) h8 : ((r148 ++ ([x6] : List Int)).map qaC).length ≤ maxLen) <| aC r0 <| aC (by simp : ((r148 ++ ([x6] : List Int)).map qaC).length = (r148 ++ ([x6] : List Int)).length) <| aN) (ih _ _ h cx hn)
  · skip
    obtain ⟨x2, h3, h⟩ := qaH h
    exact qaU (fuel := 96) [.go, rgG [oo], .br false, rgG [oo, oo, opI (.call [[0,1], [0,1]] [(TV.agg (qaA power)), (TV.agg (qaA base))] (TV.agg (qaA x2))), oo, oo], rgG [oo], rgG [oo, oo, oo], .pre [.rl 27 0 r148.length, .keep [2,3,11,12,13,14,16,17,20,21,27,32,33,153,154,155] [11,12,17,20,32,148]]] _ hn (by kernel_rfl) (aC h1 <| aC (qbT h3) <| aC r0 <| aC (lq r148) <| aN) (ih _ _ h cx hn)
theorem hensel_Lift_c37 {K} (ih : qa5 K) {cx} (hn : cx.n = 208) {base top pair power next p k goal monic parts step t154 t155} {r} (h : qaF (K + 1) (.c37 base top pair power next p k goal monic parts step t154 t155) = some r) : qa4 cx (.c37 base top pair power next p k goal monic parts step t154 t155) r := by
  rw [qaF] at h
  rcases qaK h with ⟨h1, h⟩ | ⟨h1, h⟩
  · skip
    cases h
  · skip
    rcases qaK h with ⟨h2, h⟩ | ⟨h2, h⟩
    · skip
      exact qaU (fuel := 84) [.go, rgG [oo], .br false, rgG [oo, oo, oo, opI (.ia 0), oo], rgG [oo, oo], .pre [.keep [2,3,11,12,13,14,16,17,20,21] [11,12,17,20]]] _ hn (by kernel_rfl) (aC h1 <| aC (of_decide_eq_true h2 : (Int.tmod step (2 : Int)) = ((0 : Nat) : Int)) <| aN) (ih _ _ h cx hn)
    · skip
      rcases qaK h with ⟨h3, h⟩ | ⟨h3, h⟩
      · skip
        exact qaU (fuel := 84) [.go, rgG [oo], .br false, rgG [oo, oo, oo, opI (.ia 1), oo], rgG [oo, oo], .pre [.keep [2,3,11,12,13,14,16,17,20,21] [11,12,17,20]]] _ hn (by kernel_rfl) (aC h1 <| aC (of_decide_eq_true h3 : (Int.tmod step (2 : Int)) = ((1 : Nat) : Int)) <| aN) (ih _ _ h cx hn)
      · skip
        cases h
theorem hensel_Lift_c38 {K} (ih : qa5 K) {cx} (hn : cx.n = 208) {base top pair power r148 p k goal monic parts step now t131 t132 t133} {r} (h : qaF (K + 1) (.c38 base top pair power r148 p k goal monic parts step now t131 t132 t133) = some r) : qa4 cx (.c38 base top pair power r148 p k goal monic parts step now t131 t132 t133) r := by
  rw [qaF] at h
  rcases qaK h with ⟨h1, h⟩ | ⟨h1, h⟩
  · skip
    obtain ⟨x2, h3, h⟩ := qaH h
    obtain ⟨x4, h5, h⟩ := qaH h
    obtain ⟨x6, h7, h⟩ := qaH h
    obtain ⟨h8, h⟩ := qbE h
    exact qaU (fuel := 98) [.go, rgG [oo], .br true, rgG [opI (.ix (qaA x2)), oo, oo, oo], rgG [oo, oo, opI (.call [[0,1], [0,1]] [(TV.agg (qaA x2)), (TV.agg (qaA power))] (TV.tup [(true, qaA x4.1), (false, [(T.int .i64 x4.2)])])), oo, oo, oo, oo, oo, oo], .pre [.keep [2,3,11,12,13,14,16,17,20,21,22,27,30,131,132,133] [11,12,17,20,30,148]], rgG [oo, oo, oo, opI (.call [[0,1], [0]] [(TV.agg (qaA x4.1)), (ti .u32 p)] (ti .u32 x6)), opI (.lit (([x6] : List Int).map qaC)), .appR (([x6] : List Int).map qaC) ((r148 ++ ([x6] : List Int)).map qaC), oo], rgG [oo, oo], .pre [.rl 27 0 (r148 ++ ([x6] : List Int)).length, .keep [2,3,11,12,13,14,16,17,20,21,22,27,131,132,133] [11,12,17,20,148]]] _ hn (by kernel_rfl) (aC h1 <| aC (qa0 h3) <| aC (qbH qaA h3) <| aC (qbW h5) <| aC (qbD h7) <| aC (by kernel_rfl : [(T.int .u32 x6)] = (([x6] : List Int).map qaC).flatten) <| aC (by simp : r148.length = (r148.map qaC).length) <| aC (qbI _ _ _ (by simp) : ((([x6] : List Int).map qaC).drop 0).take 1 = ([x6] : List Int).map qaC) <| aC (qmF _ _ _ : r148.map qaC ++ ([x6] : List Int).map qaC = (r148 ++ ([x6] : List Int)).map qaC) <| aC ((qc4 _ _).symm ▸ h8 : ((r148 ++ ([x6] : List Int)).map qaC).length * 4 ≤ 140737488355328) <| aC ((qc4 _ _).symm ▸ room (by decide) h8 : ((r148 ++ ([x6] : List Int)).map qaC).length ≤ maxLen) <| aC r0 <| aC (by simp : ((r148 ++ ([x6] : List Int)).map qaC).length = (r148 ++ ([x6] : List Int)).length) <| aN) (ih _ _ h cx hn)
  · skip
    obtain ⟨x2, h3, h⟩ := qaH h
    exact qaU (fuel := 96) [.go, rgG [oo], .br false, rgG [oo, oo, opI (.call [[0,1], [0,1]] [(TV.agg (qaA power)), (TV.agg (qaA base))] (TV.agg (qaA x2))), oo, oo], rgG [oo], rgG [oo, opI (.ln (now.length : Int)), oo], .pre [.rl 27 0 r148.length, .keep [2,3,11,12,13,14,16,17,20,21,27,32,33,153,154,155] [11,12,17,20,32,148]]] _ hn (by kernel_rfl) (aC h1 <| aC (qbT h3) <| aC (qaT now qaD) <| aC r0 <| aC (lq r148) <| aN) (ih _ _ h cx hn)
theorem hensel_Lift_c39 {K} (ih : qa5 K) {cx} (hn : cx.n = 208) {base top pair power next p k goal monic parts step t153 t154 t155} {r} (h : qaF (K + 1) (.c39 base top pair power next p k goal monic parts step t153 t154 t155) = some r) : qa4 cx (.c39 base top pair power next p k goal monic parts step t153 t154 t155) r := by
  rw [qaF] at h
  rcases qaK h with ⟨h1, h⟩ | ⟨h1, h⟩
  · skip
    obtain ⟨x2, h3, h⟩ := qaH h
    obtain ⟨x4, h5, h⟩ := qaH h
    obtain ⟨x6, h7, h⟩ := qaH h
    obtain ⟨x8, h9, h⟩ := qaH h
    obtain ⟨x10, h11, h⟩ := qaH h
    obtain ⟨x12, h13, h⟩ := qaH h
    obtain ⟨x14, h15, h⟩ := qaH h
    obtain ⟨x16, h17, h⟩ := qaH h
    obtain ⟨x18, h19, h⟩ := qaH h
    exact qaU (fuel := 114) [.go, rgG [oo], .br true, rgG [oo, opI (.ix (qaD x2)), oo, oo, oo], .draw [.p, .p, .p, (.ix (qaG x4)), .p, .p, (.call [[1], [1], [0]] [(TV.c (T.sl 1 ([].map qaC))), (tl 1 x4 qaC), (ti .u32 p)] (tl 1 x6 qaC)), .p, .p, (.ix (qaG x8)), .p, .p, (.call [[1], [1], [0]] [(tl 1 x6 qaC), (tl 1 x8 qaC), (ti .u32 p)] (TV.tup [(false, [(T.sl 1 (x10.1.map qaC))]), (false, [(T.sl 1 (x10.2.1.map qaC))]), (false, [(T.int .i64 x10.2.2)])])), .p, .p, .p, .p, .p, .p] [.op .p], .draw [.p, .p, .p, (.call [[1], [0]] [(TV.c (T.sl 1 (x10.2.1.map qaC))), (ti .u32 p)] (tl 2 x12 qaA)), .p, (.call [[2], [0,1]] [(tl 2 x12 qaA), (TV.agg (qaA power))] (tl 2 x14 qaA))] [opI (.call [[2], [2]] [(tl 2 x2 qaA), (tl 2 x14 qaA)] (tl 2 x16 qaA)), .op .p], rgG [oo, oo, opI (.call [[2], [0,1]] [(tl 2 x16 qaA), (TV.agg (qaA next))] (TV.tup [(false, [(T.sl 2 (x18.1.map qaA))]), (false, [(T.int .i64 x18.2)])])), oo, oo, oo, oo], rgG [oo, oo, opI (.lit (([x18.1] : List (List qaB)).map qaD)), opI (.appN (([x18.1] : List (List qaB)).map qaD)), oo], rgG [oo, oo], .pre [.rl 33 0 ([x18.1] : List (List qaB)).length, .keep [2,3,11,12,13,14,16,17,20,21,27,32,33,153,154,155] [11,12,17,20,32,193]]] _ hn (by kernel_rfl) (aC h1 <| aC (qa0 h3) <| aC (qbH qaD h3) <| aC (qa0 h5) <| aC (qbH qaG h5) <| aC (qbL h7) <| aC (qa0 h9) <| aC (qbH qaG h9) <| aC (qbV h11) <| aC (qbS h13) <| aC (qcK h15) <| aC (qdK h17) <| aC (qaV h19) <| aC (by kernel_rfl : [(T.sl 2 (x18.1.map qaA))] = (([x18.1] : List (List qaB)).map qaD).flatten) <| aC (qbI _ _ _ (by simp) : ((([x18.1] : List (List qaB)).map qaD).drop 0).take 1 = ([x18.1] : List (List qaB)).map qaD) <| aC (by simp : 0 < (([x18.1] : List (List qaB)).map qaD).length) <| aC (by simp : (([x18.1] : List (List qaB)).map qaD).length * 24 ≤ 140737488355328) <| aC (by simp [maxLen] : (([x18.1] : List (List qaB)).map qaD).length ≤ maxLen) <| aC r0 <| aC (by simp : (([x18.1] : List (List qaB)).map qaD).length = ([x18.1] : List (List qaB)).length) <| aN) (ih _ _ h cx hn)
  · skip
    rcases qaK h with ⟨h2, h⟩ | ⟨h2, h⟩
    · skip
      exact qaU (fuel := 84) [.go, rgG [oo], .br false, rgG [oo, oo, oo, opI (.ia 0), oo], rgG [oo, oo], .pre [.keep [2,3,11,12,13,14,16,17,20,21] [11,12,17,20]]] _ hn (by kernel_rfl) (aC h1 <| aC (of_decide_eq_true h2 : (Int.tmod step (2 : Int)) = ((0 : Nat) : Int)) <| aN) (ih _ _ h cx hn)
    · skip
      rcases qaK h with ⟨h3, h⟩ | ⟨h3, h⟩
      · skip
        exact qaU (fuel := 84) [.go, rgG [oo], .br false, rgG [oo, oo, oo, opI (.ia 1), oo], rgG [oo, oo], .pre [.keep [2,3,11,12,13,14,16,17,20,21] [11,12,17,20]]] _ hn (by kernel_rfl) (aC h1 <| aC (of_decide_eq_true h3 : (Int.tmod step (2 : Int)) = ((1 : Nat) : Int)) <| aN) (ih _ _ h cx hn)
      · skip
        cases h
theorem hensel_Lift_c40 {K} (ih : qa5 K) {cx} (hn : cx.n = 208) {base top pair power next r148 p k goal monic parts step t154 t155} {r} (h : qaF (K + 1) (.c40 base top pair power next r148 p k goal monic parts step t154 t155) = some r) : qa4 cx (.c40 base top pair power next r148 p k goal monic parts step t154 t155) r := by
  rw [qaF] at h
  rcases qaK h with ⟨h1, h⟩ | ⟨h1, h⟩
  · skip
    cases h
  · skip
    rcases qaK h with ⟨h2, h⟩ | ⟨h2, h⟩
    · skip
      exact qaU (fuel := 84) [.go, rgG [oo], .br false, rgG [oo, oo, oo, opI (.ia 0), oo], rgG [oo, oo], .pre [.keep [2,3,11,12,13,14,16,17,20,21] [11,12,17,20]]] _ hn (by kernel_rfl) (aC h1 <| aC (of_decide_eq_true h2 : (Int.tmod step (2 : Int)) = ((0 : Nat) : Int)) <| aN) (ih _ _ h cx hn)
    · skip
      rcases qaK h with ⟨h3, h⟩ | ⟨h3, h⟩
      · skip
        exact qaU (fuel := 84) [.go, rgG [oo], .br false, rgG [oo, oo, oo, opI (.ia 1), oo], rgG [oo, oo], .pre [.keep [2,3,11,12,13,14,16,17,20,21] [11,12,17,20]]] _ hn (by kernel_rfl) (aC h1 <| aC (of_decide_eq_true h3 : (Int.tmod step (2 : Int)) = ((1 : Nat) : Int)) <| aN) (ih _ _ h cx hn)
      · skip
        cases h
theorem hensel_Lift_c41 {K} (ih : qa5 K) {cx} (hn : cx.n = 208) {base top pair power next r148 p k goal monic parts step t153 t154 t155} {r} (h : qaF (K + 1) (.c41 base top pair power next r148 p k goal monic parts step t153 t154 t155) = some r) : qa4 cx (.c41 base top pair power next r148 p k goal monic parts step t153 t154 t155) r := by
  rw [qaF] at h
  rcases qaK h with ⟨h1, h⟩ | ⟨h1, h⟩
  · skip
    obtain ⟨x2, h3, h⟩ := qaH h
    obtain ⟨x4, h5, h⟩ := qaH h
    obtain ⟨x6, h7, h⟩ := qaH h
    obtain ⟨x8, h9, h⟩ := qaH h
    obtain ⟨x10, h11, h⟩ := qaH h
    obtain ⟨x12, h13, h⟩ := qaH h
    obtain ⟨x14, h15, h⟩ := qaH h
    obtain ⟨x16, h17, h⟩ := qaH h
    obtain ⟨x18, h19, h⟩ := qaH h
    exact qaU (fuel := 114) [.go, rgG [oo], .br true, rgG [oo, opI (.ix (qaD x2)), oo, oo, oo], .pre [.snap 27 (max 0 (0 + r148.length)) (r148.map qaC)], .draw [.p, .p, .p, (.ix (qaG x4)), .p, .p, (.call [[1], [1], [0]] [(tl 1 r148 qaC), (tl 1 x4 qaC), (ti .u32 p)] (tl 1 x6 qaC)), .p, .p, (.ix (qaG x8)), .p, .p, (.call [[1], [1], [0]] [(tl 1 x6 qaC), (tl 1 x8 qaC), (ti .u32 p)] (TV.tup [(false, [(T.sl 1 (x10.1.map qaC))]), (false, [(T.sl 1 (x10.2.1.map qaC))]), (false, [(T.int .i64 x10.2.2)])])), .p, .p, .p, .p, .p, .p] [.op .p], .draw [.p, .p, .p, (.call [[1], [0]] [(TV.c (T.sl 1 (x10.2.1.map qaC))), (ti .u32 p)] (tl 2 x12 qaA)), .p, (.call [[2], [0,1]] [(tl 2 x12 qaA), (TV.agg (qaA power))] (tl 2 x14 qaA))] [opI (.call [[2], [2]] [(tl 2 x2 qaA), (tl 2 x14 qaA)] (tl 2 x16 qaA)), .op .p], rgG [oo, oo, opI (.call [[2], [0,1]] [(tl 2 x16 qaA), (TV.agg (qaA next))] (TV.tup [(false, [(T.sl 2 (x18.1.map qaA))]), (false, [(T.int .i64 x18.2)])])), oo, oo, oo, oo], rgG [oo, oo, opI (.lit (([x18.1] : List (List qaB)).map qaD)), opI (.appN (([x18.1] : List (List qaB)).map qaD)), oo], rgG [oo, oo], .pre [.rl 33 0 ([x18.1] : List (List qaB)).length, .keep [2,3,11,12,13,14,16,17,20,21,27,32,33,153,154,155] [11,12,17,20,32,193]]] _ hn (by kernel_rfl) (aC h1 <| aC (qa0 h3) <| aC (qbH qaD h3) <| aC (qbI _ _ _ (by simp) : ((r148.map qaC).drop 0).take r148.length = r148.map qaC) <| aC (rfl : (max 0 (0 + r148.length)) = (max 0 (0 + r148.length))) <| aC (qa0 h5) <| aC (qbH qaG h5) <| aC (qbL h7) <| aC (qa0 h9) <| aC (qbH qaG h9) <| aC (qbV h11) <| aC (qbS h13) <| aC (qcK h15) <| aC (qdK h17) <| aC (qaV h19) <| aC (by kernel_rfl : [(T.sl 2 (x18.1.map qaA))] = (([x18.1] : List (List qaB)).map qaD).flatten) <| aC (qbI _ _ _ (by simp) : ((([x18.1] : List (List qaB)).map qaD).drop 0).take 1 = ([x18.1] : List (List qaB)).map qaD) <| aC (by simp : 0 < (([x18.1] : List (List qaB)).map qaD).length) <| aC (by simp : (([x18.1] : List (List qaB)).map qaD).length * 24 ≤ 140737488355328) <| aC (by simp [maxLen] : (([x18.1] : List (List qaB)).map qaD).length ≤ maxLen) <| aC r0 <| aC (by simp : (([x18.1] : List (List qaB)).map qaD).length = ([x18.1] : List (List qaB)).length) <| aN) (ih _ _ h cx hn)
  · skip
    rcases qaK h with ⟨h2, h⟩ | ⟨h2, h⟩
    · skip
      exact qaU (fuel := 84) [.go, rgG [oo], .br false, rgG [oo, oo, oo, opI (.ia 0), oo], rgG [oo, oo], .pre [.keep [2,3,11,12,13,14,16,17,20,21] [11,12,17,20]]] _ hn (by kernel_rfl) (aC h1 <| aC (of_decide_eq_true h2 : (Int.tmod step (2 : Int)) = ((0 : Nat) : Int)) <| aN) (ih _ _ h cx hn)
    · skip
      rcases qaK h with ⟨h3, h⟩ | ⟨h3, h⟩
      · skip
        exact qaU (fuel := 84) [.go, rgG [oo], .br false, rgG [oo, oo, oo, opI (.ia 1), oo], rgG [oo, oo], .pre [.keep [2,3,11,12,13,14,16,17,20,21] [11,12,17,20]]] _ hn (by kernel_rfl) (aC h1 <| aC (of_decide_eq_true h3 : (Int.tmod step (2 : Int)) = ((1 : Nat) : Int)) <| aN) (ih _ _ h cx hn)
      · skip
        cases h
theorem hensel_Lift_c42 {K} (ih : qa5 K) {cx} (hn : cx.n = 208) {base top pair power next r193 p k goal monic parts step t153 t154 t155} {r} (h : qaF (K + 1) (.c42 base top pair power next r193 p k goal monic parts step t153 t154 t155) = some r) : qa4 cx (.c42 base top pair power next r193 p k goal monic parts step t153 t154 t155) r := by
  rw [qaF] at h
  rcases qaK h with ⟨h1, h⟩ | ⟨h1, h⟩
  · skip
    obtain ⟨x2, h3, h⟩ := qaH h
    obtain ⟨x4, h5, h⟩ := qaH h
    obtain ⟨x6, h7, h⟩ := qaH h
    obtain ⟨x8, h9, h⟩ := qaH h
    obtain ⟨x10, h11, h⟩ := qaH h
    obtain ⟨x12, h13, h⟩ := qaH h
    obtain ⟨x14, h15, h⟩ := qaH h
    obtain ⟨x16, h17, h⟩ := qaH h
    obtain ⟨x18, h19, h⟩ := qaH h
    obtain ⟨h20, h⟩ := qbE h
    exact qaU (fuel := 114) [.go, rgG [oo], .br true, rgG [oo, opI (.ix (qaD x2)), oo, oo, oo], .draw [.p, .p, .p, (.ix (qaG x4)), .p, .p, (.call [[1], [1], [0]] [(TV.c (T.sl 1 ([].map qaC))), (tl 1 x4 qaC), (ti .u32 p)] (tl 1 x6 qaC)), .p, .p, (.ix (qaG x8)), .p, .p, (.call [[1], [1], [0]] [(tl 1 x6 qaC), (tl 1 x8 qaC), (ti .u32 p)] (TV.tup [(false, [(T.sl 1 (x10.1.map qaC))]), (false, [(T.sl 1 (x10.2.1.map qaC))]), (false, [(T.int .i64 x10.2.2)])])), .p, .p, .p, .p, .p, .p] [.op .p], .draw [.p, .p, .p, (.call [[1], [0]] [(TV.c (T.sl 1 (x10.2.1.map qaC))), (ti .u32 p)] (tl 2 x12 qaA)), .p, (.call [[2], [0,1]] [(tl 2 x12 qaA), (TV.agg (qaA power))] (tl 2 x14 qaA))] [opI (.call [[2], [2]] [(tl 2 x2 qaA), (tl 2 x14 qaA)] (tl 2 x16 qaA)), .op .p], rgG [oo, oo, opI (.call [[2], [0,1]] [(tl 2 x16 qaA), (TV.agg (qaA next))] (TV.tup [(false, [(T.sl 2 (x18.1.map qaA))]), (false, [(T.int .i64 x18.2)])])), oo, oo, oo, oo], .pre [.keep [2,3,11,12,13,14,16,17,20,21,27,32,33,39,153,154,155] [11,12,17,20,32,193]], rgG [oo, oo, opI (.lit (([x18.1] : List (List qaB)).map qaD)), .appR (([x18.1] : List (List qaB)).map qaD) ((r193 ++ ([x18.1] : List (List qaB))).map qaD), oo], rgG [oo, oo], .pre [.rl 33 0 (r193 ++ ([x18.1] : List (List qaB))).length, .keep [2,3,11,12,13,14,16,17,20,21,27,32,33,153,154,155] [11,12,17,20,32,193]]] _ hn (by kernel_rfl) (aC h1 <| aC (qa0 h3) <| aC (qbH qaD h3) <| aC (qa0 h5) <| aC (qbH qaG h5) <| aC (qbL h7) <| aC (qa0 h9) <| aC (qbH qaG h9) <| aC (qbV h11) <| aC (qbS h13) <| aC (qcK h15) <| aC (qdK h17) <| aC (qaV h19) <| aC (by kernel_rfl : [(T.sl 2 (x18.1.map qaA))] = (([x18.1] : List (List qaB)).map qaD).flatten) <| aC (by simp : r193.length = (r193.map qaD).length) <| aC (qbI _ _ _ (by simp) : ((([x18.1] : List (List qaB)).map qaD).drop 0).take 1 = ([x18.1] : List (List qaB)).map qaD) <| aC (qmF _ _ _ : r193.map qaD ++ ([x18.1] : List (List qaB)).map qaD = (r193 ++ ([x18.1] : List (List qaB))).map qaD) <| aC ((qc4 _ _).symm ▸ h20 : ((r193 ++ ([x18.1] : List (List qaB))).map qaD).length * 24 ≤ 140737488355328) <| aC ((qc4 _ _).symm ▸ room (by decide) h20 : ((r193 ++ ([x18.1] : List (List qaB))).map qaD).length ≤ maxLen) <| aC r0 <| aC (by simp : ((r193 ++ ([x18.1] : List (List qaB))).map qaD).length = (r193 ++ ([x18.1] : List (List qaB))).length) <| aN) (ih _ _ h cx hn)
  · skip
    rcases qaK h with ⟨h2, h⟩ | ⟨h2, h⟩
    · skip
      exact qaU (fuel := 84) [.go, rgG [oo], .br false, rgG [oo, oo, oo, opI (.ia 0), oo], rgG [oo, oo], .pre [.rlB 17 0 0 r193.length, .keep [2,3,11,12,13,14,16,17,20,21] [11,12,17,20,193]]] _ hn (by kernel_rfl) (aC h1 <| aC (of_decide_eq_true h2 : (Int.tmod step (2 : Int)) = ((0 : Nat) : Int)) <| aC r0 <| aC (lq r193) <| aN) (ih _ _ h cx hn)
    · skip
      rcases qaK h with ⟨h3, h⟩ | ⟨h3, h⟩
      · skip
        exact qaU (fuel := 84) [.go, rgG [oo], .br false, rgG [oo, oo, oo, opI (.ia 1), oo], rgG [oo, oo], .pre [.rlB 17 1 0 r193.length, .keep [2,3,11,12,13,14,16,17,20,21] [11,12,17,20,193]]] _ hn (by kernel_rfl) (aC h1 <| aC (of_decide_eq_true h3 : (Int.tmod step (2 : Int)) = ((1 : Nat) : Int)) <| aC r0 <| aC (lq r193) <| aN) (ih _ _ h cx hn)
      · skip
        cases h
theorem hensel_Lift_c43 {K} (ih : qa5 K) {cx} (hn : cx.n = 208) {base top pair power next r193 p k goal monic parts step change t153 t154 t155} {r} (h : qaF (K + 1) (.c43 base top pair power next r193 p k goal monic parts step change t153 t154 t155) = some r) : qa4 cx (.c43 base top pair power next r193 p k goal monic parts step change t153 t154 t155) r := by
  rw [qaF] at h
  rcases qaK h with ⟨h1, h⟩ | ⟨h1, h⟩
  · skip
    obtain ⟨x2, h3, h⟩ := qaH h
    obtain ⟨x4, h5, h⟩ := qaH h
    obtain ⟨x6, h7, h⟩ := qaH h
    obtain ⟨x8, h9, h⟩ := qaH h
    obtain ⟨x10, h11, h⟩ := qaH h
    obtain ⟨x12, h13, h⟩ := qaH h
    obtain ⟨x14, h15, h⟩ := qaH h
    obtain ⟨x16, h17, h⟩ := qaH h
    obtain ⟨x18, h19, h⟩ := qaH h
    obtain ⟨h20, h⟩ := qbE h
    exact qaU (fuel := 114) [.go, rgG [oo], .br true, rgG [oo, opI (.ix (qaD x2)), oo, oo, oo], .draw [.p, .p, .p, (.ix (qaG x4)), .p, .p, (.call [[1], [1], [0]] [(tl 1 change qaC), (tl 1 x4 qaC), (ti .u32 p)] (tl 1 x6 qaC)), .p, .p, (.ix (qaG x8)), .p, .p, (.call [[1], [1], [0]] [(tl 1 x6 qaC), (tl 1 x8 qaC), (ti .u32 p)] (TV.tup [(false, [(T.sl 1 (x10.1.map qaC))]), (false, [(T.sl 1 (x10.2.1.map qaC))]), (false, [(T.int .i64 x10.2.2)])])), .p, .p, .p, .p, .p, .p] [.op .p], .draw [.p, .p, .p, (.call [[1], [0]] [(TV.c (T.sl 1 (x10.2.1.map qaC))), (ti .u32 p)] (tl 2 x12 qaA)), .p, (.call [[2], [0,1]] [(tl 2 x12 qaA), (TV.agg (qaA power))] (tl 2 x14 qaA))] [opI (.call [[2], [2]] [(tl 2 x2 qaA), (tl 2 x14 qaA)] (tl 2 x16 qaA)), .op .p], rgG [oo, oo, opI (.call [[2], [0,1]] [(tl 2 x16 qaA), (TV.agg (qaA next))] (TV.tup [(false, [(T.sl 2 (x18.1.map qaA))]), (false, [(T.int .i64 x18.2)])])), oo, oo, oo, oo], .pre [.keep [2,3,11,12,13,14,16,17,20,21,27,32,33,39,153,154,155] [11,12,17,20,32,193]], rgG [oo, oo, opI (.lit (([x18.1] : List (List qaB)).map qaD)), .appR (([x18.1] : List (List qaB)).map qaD) ((r193 ++ ([x18.1] : List (List qaB))).map qaD), oo], rgG [oo, oo], .pre [.rl 33 0 (r193 ++ ([x18.1] : List (List qaB))).length, .keep [2,3,11,12,13,14,16,17,20,21,27,32,33,153,154,155] [11,12,17,20,32,193]]] _ hn (by kernel_rfl) (aC h1 <| aC (qa0 h3) <| aC (qbH qaD h3) <| aC (qa0 h5) <| aC (qbH qaG h5) <| aC (qbL h7) <| aC (qa0 h9) <| aC (qbH qaG h9) <| aC (qbV h11) <| aC (qbS h13) <| aC (qcK h15) <| aC (qdK h17) <| aC (qaV h19) <| aC (by kernel_rfl : [(T.sl 2 (x18.1.map qaA))] = (([x18.1] : List (List qaB)).map qaD).flatten) <| aC (by simp : r193.length = (r193.map qaD).length) <| aC (qbI _ _ _ (by simp) : ((([x18.1] : List (List qaB)).map qaD).drop 0).take 1 = ([x18.1] : List (List qaB)).map qaD) <| aC (qmF _ _ _ : r193.map qaD ++ ([x18.1] : List (List qaB)).map qaD = (r193 ++ ([x18.1] : List (List qaB))).map qaD) <| aC ((qc4 _ _).symm ▸ h20 : ((r193 ++ ([x18.1] : List (List qaB))).map qaD).length * 24 ≤ 140737488355328) <| aC ((qc4 _ _).symm ▸ room (by decide) h20 : ((r193 ++ ([x18.1] : List (List qaB))).map qaD).length ≤ maxLen) <| aC r0 <| aC (by simp : ((r193 ++ ([x18.1] : List (List qaB))).map qaD).length = (r193 ++ ([x18.1] : List (List qaB))).length) <| aN) (ih _ _ h cx hn)
  · skip
    rcases qaK h with ⟨h2, h⟩ | ⟨h2, h⟩
    · skip
      exact qaU (fuel := 84) [.go, rgG [oo], .br false, rgG [oo, oo, oo, opI (.ia 0), oo], rgG [oo, oo], .pre [.rlB 17 0 0 r193.length, .keep [2,3,11,12,13,14,16,17,20,21] [11,12,17,20,193]]] _ hn (by kernel_rfl) (aC h1 <| aC (of_decide_eq_true h2 : (Int.tmod step (2 : Int)) = ((0 : Nat) : Int)) <| aC r0 <| aC (lq r193) <| aN) (ih _ _ h cx hn)
    · skip
      rcases qaK h with ⟨h3, h⟩ | ⟨h3, h⟩
      · skip
        exact qaU (fuel := 84) [.go, rgG [oo], .br false, rgG [oo, oo, oo, opI (.ia 1), oo], rgG [oo, oo], .pre [.rlB 17 1 0 r193.length, .keep [2,3,11,12,13,14,16,17,20,21] [11,12,17,20,193]]] _ hn (by kernel_rfl) (aC h1 <| aC (of_decide_eq_true h3 : (Int.tmod step (2 : Int)) = ((1 : Nat) : Int)) <| aC r0 <| aC (lq r193) <| aN) (ih _ _ h cx hn)
      · skip
        cases h
theorem hensel_Lift_c44 {K} (ih : qa5 K) {cx} (hn : cx.n = 208) {base top power r193 p k goal monic parts step} {r} (h : qaF (K + 1) (.c44 base top power r193 p k goal monic parts step) = some r) : qa4 cx (.c44 base top power r193 p k goal monic parts step) r := by
  rw [qaF] at h
  exact qaU (fuel := 44) [rgG [oo, oo, oo], .pre [.snapC 17 1 (max 0 (0 + r193.length)) (r193.map qaD)], .pre [.keep [2,3,11,12,13,14,16,17,20,21] [11,12,17,20]]] _ hn (by kernel_rfl) (aC (qbI _ _ _ (by simp) : ((r193.map qaD).drop 0).take r193.length = r193.map qaD) <| aC (rfl : (max 0 (0 + r193.length)) = (max 0 (0 + r193.length))) <| aN) (ih _ _ h cx hn)
theorem qaW : ∀ K : Nat, qa5 K
  | 0, c, r, h => by rw [qaF] at h; cases h
  | K + 1, .c0 .., r, h => fun cx hn => hensel_Lift_c0 (qaW K) hn h
  | K + 1, .c1 .., r, h => fun cx hn => hensel_Lift_c1 (qaW K) hn h
  | K + 1, .c2 .., r, h => fun cx hn => hensel_Lift_c2 (qaW K) hn h
  | K + 1, .c3 .., r, h => fun cx hn => hensel_Lift_c3 (qaW K) hn h
  | K + 1, .c4 .., r, h => fun cx hn => hensel_Lift_c4 (qaW K) hn h
  | K + 1, .c5 .., r, h => fun cx hn => hensel_Lift_c5 (qaW K) hn h
  | K + 1, .c6 .., r, h => fun cx hn => hensel_Lift_c6 (qaW K) hn h
  | K + 1, .c7 .., r, h => fun cx hn => hensel_Lift_c7 (qaW K) hn h
  | K + 1, .c8 .., r, h => fun cx hn => hensel_Lift_c8 (qaW K) hn h
  | K + 1, .c9 .., r, h => fun cx hn => hensel_Lift_c9 (qaW K) hn h
  | K + 1, .c10 .., r, h => fun cx hn => hensel_Lift_c10 (qaW K) hn h
  | K + 1, .c11 .., r, h => fun cx hn => hensel_Lift_c11 (qaW K) hn h
  | K + 1, .c12 .., r, h => fun cx hn => hensel_Lift_c12 (qaW K) hn h
  | K + 1, .c13 .., r, h => fun cx hn => hensel_Lift_c13 (qaW K) hn h
  | K + 1, .c14 .., r, h => fun cx hn => hensel_Lift_c14 (qaW K) hn h
  | K + 1, .c15 .., r, h => fun cx hn => hensel_Lift_c15 (qaW K) hn h
  | K + 1, .c16 .., r, h => fun cx hn => hensel_Lift_c16 (qaW K) hn h
  | K + 1, .c17 .., r, h => fun cx hn => hensel_Lift_c17 (qaW K) hn h
  | K + 1, .c18 .., r, h => fun cx hn => hensel_Lift_c18 (qaW K) hn h
  | K + 1, .c19 .., r, h => fun cx hn => hensel_Lift_c19 (qaW K) hn h
  | K + 1, .c20 .., r, h => fun cx hn => hensel_Lift_c20 (qaW K) hn h
  | K + 1, .c21 .., r, h => fun cx hn => hensel_Lift_c21 (qaW K) hn h
  | K + 1, .c22 .., r, h => fun cx hn => hensel_Lift_c22 (qaW K) hn h
  | K + 1, .c23 .., r, h => fun cx hn => hensel_Lift_c23 (qaW K) hn h
  | K + 1, .c24 .., r, h => fun cx hn => hensel_Lift_c24 (qaW K) hn h
  | K + 1, .c25 .., r, h => fun cx hn => hensel_Lift_c25 (qaW K) hn h
  | K + 1, .c26 .., r, h => fun cx hn => hensel_Lift_c26 (qaW K) hn h
  | K + 1, .c27 .., r, h => fun cx hn => hensel_Lift_c27 (qaW K) hn h
  | K + 1, .c28 .., r, h => fun cx hn => hensel_Lift_c28 (qaW K) hn h
  | K + 1, .c29 .., r, h => fun cx hn => hensel_Lift_c29 (qaW K) hn h
  | K + 1, .c30 .., r, h => fun cx hn => hensel_Lift_c30 (qaW K) hn h
  | K + 1, .c31 .., r, h => fun cx hn => hensel_Lift_c31 (qaW K) hn h
  | K + 1, .c32 .., r, h => fun cx hn => hensel_Lift_c32 (qaW K) hn h
  | K + 1, .c33 .., r, h => fun cx hn => hensel_Lift_c33 (qaW K) hn h
  | K + 1, .c34 .., r, h => fun cx hn => hensel_Lift_c34 (qaW K) hn h
  | K + 1, .c35 .., r, h => fun cx hn => hensel_Lift_c35 (qaW K) hn h
  | K + 1, .c36 .., r, h => fun cx hn => hensel_Lift_c36 (qaW K) hn h
  | K + 1, .c37 .., r, h => fun cx hn => hensel_Lift_c37 (qaW K) hn h
  | K + 1, .c38 .., r, h => fun cx hn => hensel_Lift_c38 (qaW K) hn h
  | K + 1, .c39 .., r, h => fun cx hn => hensel_Lift_c39 (qaW K) hn h
  | K + 1, .c40 .., r, h => fun cx hn => hensel_Lift_c40 (qaW K) hn h
  | K + 1, .c41 .., r, h => fun cx hn => hensel_Lift_c41 (qaW K) hn h
  | K + 1, .c42 .., r, h => fun cx hn => hensel_Lift_c42 (qaW K) hn h
  | K + 1, .c43 .., r, h => fun cx hn => hensel_Lift_c43 (qaW K) hn h
  | K + 1, .c44 .., r, h => fun cx hn => hensel_Lift_c44 (qaW K) hn h
theorem qmV {K : Nat} {f : (List qaB)} {list : (List (List Int))} {p : Int} {k : Int} {r : ((List (List qaB)) × Int)} (h : hensel_Lift K f list p k = some r) : qcX prog 62 [(tl 2 f qaA), (tl 1 list qaG), (ti .u32 p), (ti .i64 k)] (TV.tup [(false, [(T.sl 1 (r.1.map qaD))]), (false, [(T.int .i64 r.2)])]) :=
  qa2 [[1], [0]] (by kernel_rfl) (by simp) fun cx hn => qaW K (.c0 f list p k) r h cx hn
end Go.Am.X
namespace Go.Am.X
open Go.Proofs.Try (prog)
inductive qiM where
  | c0 
def qg9 : Nat → qiM → Option Bool
  | 0, _ => none
  | K + 1, .c0  =>
    (qo3 K ([(1 : Int), (0 : Int), (1 : Int)] : List Int)).bind fun x1 =>
    (hensel_Lift K x1 ([([(2 : Int), (1 : Int)] : List Int), ([(3 : Int), (1 : Int)] : List Int)] : List (List Int)) (5 : Int) (2 : Int)).bind fun x3 =>
    bif (decide (x3.2 = (0 : Int))) then
      bif (decide ((x3.1.length : Int) = (2 : Int))) then
        (gi x3.1 (0 : Int)).bind fun x7 =>
        (qo3 K ([(7 : Int), (1 : Int)] : List Int)).bind fun x9 =>
        (qsC K x7 x9).bind fun x11 =>
        bif x11 then
          (gi x3.1 (1 : Int)).bind fun x14 =>
          (qo3 K ([(-7 : Int), (1 : Int)] : List Int)).bind fun x16 =>
          (qsC K x14 x16).bind fun x18 =>
          some x18
        else
          some false
      else
        some false
    else
      some false
def qjT (K : Nat) : Option Bool := qg9 K .c0
noncomputable def cylinderlaw12_fit_body : Code := qbN prog 43
noncomputable def cylinderlaw12_fit_pos : qiM → List Fr
  | .c0  => [.code cylinderlaw12_fit_body]
def cylinderlaw12_fit_st : qiM → St
  | .c0  => St.init []
def qvC (cx : Cx) (c : qiM) (r : Bool) : Prop := Wk prog cx (qcT prog 43 [[0]] (TV.c (T.bool r))) (cylinderlaw12_fit_pos c) .normal (cylinderlaw12_fit_st c)
abbrev qvD (K : Nat) : Prop := ∀ c r, qg9 K c = some r → ∀ cx : Cx, cx.n = 35 → qvC cx c r
theorem cylinderlaw12_fit_c0 {K} (_ : qvD K) {cx} (hn : cx.n = 35)  {r} (h : qg9 (K + 1) .c0 = some r) : qvC cx .c0 r := by
  rw [qg9] at h
  obtain ⟨x1, h2, h⟩ := qaH h
  obtain ⟨x3, h4, h⟩ := qaH h
  rcases qaK h with ⟨h5, h⟩ | ⟨h5, h⟩
  · skip
    rcases qaK h with ⟨h6, h⟩ | ⟨h6, h⟩
    · skip
      obtain ⟨x7, h8, h⟩ := qaH h
      obtain ⟨x9, h10, h⟩ := qaH h
      obtain ⟨x11, h12, h⟩ := qaH h
      rcases qaK h with ⟨h13, h⟩ | ⟨h13, h⟩
      · skip
        obtain ⟨x14, h15, h⟩ := qaH h
        obtain ⟨x16, h17, h⟩ := qaH h
        obtain ⟨x18, h19, h⟩ := qaH h
        have h := Option.some.inj h; subst h
        exact qaN (fuel := 62) [rgG [oo], rgG [opI (.lit (([(1 : Int), (0 : Int), (1 : Int)] : List Int).map qeT)), .snap 4 (max 0 (0 + 3)) (([(1 : Int), (0 : Int), (1 : Int)] : List Int).map qeT), opI (.call [[1]] [(TV.c (T.sl 1 (([(1 : Int), (0 : Int), (1 : Int)] : List Int).map qeT)))] (tl 2 x1 qaA)), opI (.lit (([(2 : Int), (1 : Int)] : List Int).map qaC)), opI (.lit (([(3 : Int), (1 : Int)] : List Int).map qaC)), .snap 6 (max 0 (0 + 2)) (([(2 : Int), (1 : Int)] : List Int).map qaC), .snap 7 (max 0 (0 + 2)) (([(3 : Int), (1 : Int)] : List Int).map qaC), opI (.lit (([([(2 : Int), (1 : Int)] : List Int), ([(3 : Int), (1 : Int)] : List Int)] : List (List Int)).map qaG)), .snap 8 (max 0 (0 + 2)) (([([(2 : Int), (1 : Int)] : List Int), ([(3 : Int), (1 : Int)] : List Int)] : List (List Int)).map qaG), opI (.call [[2], [1], [0], [0]] [(tl 2 x1 qaA), (TV.c (T.sl 1 (([([(2 : Int), (1 : Int)] : List Int), ([(3 : Int), (1 : Int)] : List Int)] : List (List Int)).map qaG))), (TV.c (T.int .u32 (5 : Int))), (TV.c (T.int .i64 (2 : Int)))] (TV.tup [(false, [(T.sl 1 (x3.1.map qaD))]), (false, [(T.int .i64 x3.2)])])), oo, oo, oo, oo, oo], .draw [.p, .p, .p, (.ga true .p), (.ga true (.ln (x3.1.length : Int))), (.ga true .p), (.pk true), .p, (.ga true .p), (.ga true (.ix (qaD x7))), (.ga true .p), (.ga true (.litT (([(7 : Int), (1 : Int)] : List Int).map qeT))), (.ga true (.call [[1]] [(TV.c (T.sl 1 (([(7 : Int), (1 : Int)] : List Int).map qeT)))] (tl 2 x9 qaA))), (.ga true (.call [[2], [2]] [(tl 2 x7 qaA), (tl 2 x9 qaA)] (TV.c (T.bool x11)))), (.pk true), .p, (.ga true .p), (.ga true (.ix (qaD x14))), (.ga true .p), (.ga true (.litT (([(-7 : Int), (1 : Int)] : List Int).map qeT))), (.ga true (.call [[1]] [(TV.c (T.sl 1 (([(-7 : Int), (1 : Int)] : List Int).map qeT)))] (tl 2 x16 qaA))), (.ga true (.call [[2], [2]] [(tl 2 x14 qaA), (tl 2 x16 qaA)] (TV.c (T.bool x18)))), (.pk true), .p] []] _ hn (by kernel_rfl) (aC (by kernel_rfl : [(T.int .i64 (1 : Int)), (T.int .i64 (0 : Int)), (T.int .i64 (1 : Int))] = (([(1 : Int), (0 : Int), (1 : Int)] : List Int).map qeT).flatten) <| aC (qbI _ _ _ (by simp) : ((([(1 : Int), (0 : Int), (1 : Int)] : List Int).map qeT).drop 0).take 3 = ([(1 : Int), (0 : Int), (1 : Int)] : List Int).map qeT) <| aC (rfl : (max 0 (0 + 3)) = (max 0 (0 + 3))) <| aC (qfF h2) <| aC (by kernel_rfl : [(T.int .u32 (2 : Int)), (T.int .u32 (1 : Int))] = (([(2 : Int), (1 : Int)] : List Int).map qaC).flatten) <| aC (by kernel_rfl : [(T.int .u32 (3 : Int)), (T.int .u32 (1 : Int))] = (([(3 : Int), (1 : Int)] : List Int).map qaC).flatten) <| aC (qbI _ _ _ (by simp) : ((([(2 : Int), (1 : Int)] : List Int).map qaC).drop 0).take 2 = ([(2 : Int), (1 : Int)] : List Int).map qaC) <| aC (rfl : (max 0 (0 + 2)) = (max 0 (0 + 2))) <| aC (qbI _ _ _ (by simp) : ((([(3 : Int), (1 : Int)] : List Int).map qaC).drop 0).take 2 = ([(3 : Int), (1 : Int)] : List Int).map qaC) <| aC (rfl : (max 0 (0 + 2)) = (max 0 (0 + 2))) <| aC (by kernel_rfl : [(T.sl 1 (([(2 : Int), (1 : Int)] : List Int).map qaC)), (T.sl 1 (([(3 : Int), (1 : Int)] : List Int).map qaC))] = (([([(2 : Int), (1 : Int)] : List Int), ([(3 : Int), (1 : Int)] : List Int)] : List (List Int)).map qaG).flatten) <| aC (qbI _ _ _ (by simp) : ((([([(2 : Int), (1 : Int)] : List Int), ([(3 : Int), (1 : Int)] : List Int)] : List (List Int)).map qaG).drop 0).take 2 = ([([(2 : Int), (1 : Int)] : List Int), ([(3 : Int), (1 : Int)] : List Int)] : List (List Int)).map qaG) <| aC (rfl : (max 0 (0 + 2)) = (max 0 (0 + 2))) <| aC (qmV h4) <| aC h5 <| aC h5 <| aC (qaT x3.1 qaD) <| aC h5 <| aC h5 <| aC h6 <| aC h6 <| aC (qa0 h8) <| aC (qbH qaD h8) <| aC h6 <| aC h6 <| aC (by kernel_rfl : [(T.int .i64 (7 : Int)), (T.int .i64 (1 : Int))] = (([(7 : Int), (1 : Int)] : List Int).map qeT).flatten) <| aC h6 <| aC (qfF h10) <| aC h6 <| aC (qo9 h12) <| aC h6 <| aC h13 <| aC h13 <| aC (qa0 h15) <| aC (qbH qaD h15) <| aC h13 <| aC h13 <| aC (by kernel_rfl : [(T.int .i64 (-7 : Int)), (T.int .i64 (1 : Int))] = (([(-7 : Int), (1 : Int)] : List Int).map qeT).flatten) <| aC h13 <| aC (qfF h17) <| aC h13 <| aC (qo9 h19) <| aC h13 <| aN)
      · skip
        have h := Option.some.inj h; subst h
        exact qaN (fuel := 62) [rgG [oo], rgG [opI (.lit (([(1 : Int), (0 : Int), (1 : Int)] : List Int).map qeT)), .snap 4 (max 0 (0 + 3)) (([(1 : Int), (0 : Int), (1 : Int)] : List Int).map qeT), opI (.call [[1]] [(TV.c (T.sl 1 (([(1 : Int), (0 : Int), (1 : Int)] : List Int).map qeT)))] (tl 2 x1 qaA)), opI (.lit (([(2 : Int), (1 : Int)] : List Int).map qaC)), opI (.lit (([(3 : Int), (1 : Int)] : List Int).map qaC)), .snap 6 (max 0 (0 + 2)) (([(2 : Int), (1 : Int)] : List Int).map qaC), .snap 7 (max 0 (0 + 2)) (([(3 : Int), (1 : Int)] : List Int).map qaC), opI (.lit (([([(2 : Int), (1 : Int)] : List Int), ([(3 : Int), (1 : Int)] : List Int)] : List (List Int)).map qaG)), .snap 8 (max 0 (0 + 2)) (([([(2 : Int), (1 : Int)] : List Int), ([(3 : Int), (1 : Int)] : List Int)] : List (List Int)).map qaG), opI (.call [[2], [1], [0], [0]] [(tl 2 x1 qaA), (TV.c (T.sl 1 (([([(2 : Int), (1 : Int)] : List Int), ([(3 : Int), (1 : Int)] : List Int)] : List (List Int)).map qaG))), (TV.c (T.int .u32 (5 : Int))), (TV.c (T.int .i64 (2 : Int)))] (TV.tup [(false, [(T.sl 1 (x3.1.map qaD))]), (false, [(T.int .i64 x3.2)])])), oo, oo, oo, oo, oo], .draw [.p, .p, .p, (.ga true .p), (.ga true (.ln (x3.1.length : Int))), (.ga true .p), (.pk true), .p, (.ga true .p), (.ga true (.ix (qaD x7))), (.ga true .p), (.ga true (.litT (([(7 : Int), (1 : Int)] : List Int).map qeT))), (.ga true (.call [[1]] [(TV.c (T.sl 1 (([(7 : Int), (1 : Int)] : List Int).map qeT)))] (tl 2 x9 qaA))), (.ga true (.call [[2], [2]] [(tl 2 x7 qaA), (tl 2 x9 qaA)] (TV.c (T.bool x11)))), (.pk true), .p, (.ga false .p), (.ga false .p), (.ga false .p), (.ga false .p), (.ga false .p), (.ga false .p), (.pk false), .p] []] _ hn (by kernel_rfl) (aC (by kernel_rfl : [(T.int .i64 (1 : Int)), (T.int .i64 (0 : Int)), (T.int .i64 (1 : Int))] = (([(1 : Int), (0 : Int), (1 : Int)] : List Int).map qeT).flatten) <| aC (qbI _ _ _ (by simp) : ((([(1 : Int), (0 : Int), (1 : Int)] : List Int).map qeT).drop 0).take 3 = ([(1 : Int), (0 : Int), (1 : Int)] : List Int).map qeT) <| aC (rfl : (max 0 (0 + 3)) = (max 0 (0 + 3))) <| aC (qfF h2) <| aC (by kernel_rfl : [(T.int .u32 (2 : Int)), (T.int .u32 (1 : Int))] = (([(2 : Int), (1 : Int)] : List Int).map qaC).flatten) <| aC (by kernel_rfl : [(T.int .u32 (3 : Int)), (T.int .u32 (1 : Int))] = (([(3 : Int), (1 : Int)] : List Int).map qaC).flatten) <| aC (qbI _ _ _ (by simp) : ((([(2 : Int), (1 : Int)] : List Int).map qaC).drop 0).take 2 = ([(2 : Int), (1 : Int)] : List Int).map qaC) <| aC (rfl : (max 0 (0 + 2)) = (max 0 (0 + 2))) <| aC (qbI _ _ _ (by simp) : ((([(3 : Int), (1 : Int)] : List Int).map qaC).drop 0).take 2 = ([(3 : Int), (1 : Int)] : List Int).map qaC) <| aC (rfl : (max 0 (0 + 2)) = (max 0 (0 + 2))) <| aC (by kernel_rfl : [(T.sl 1 (([(2 : Int), (1 : Int)] : List Int).map qaC)), (T.sl 1 (([(3 : Int), (1 : Int)] : List Int).map qaC))] = (([([(2 : Int), (1 : Int)] : List Int), ([(3 : Int), (1 : Int)] : List Int)] : List (List Int)).map qaG).flatten) <| aC (qbI _ _ _ (by simp) : ((([([(2 : Int), (1 : Int)] : List Int), ([(3 : Int), (1 : Int)] : List Int)] : List (List Int)).map qaG).drop 0).take 2 = ([([(2 : Int), (1 : Int)] : List Int), ([(3 : Int), (1 : Int)] : List Int)] : List (List Int)).map qaG) <| aC (rfl : (max 0 (0 + 2)) = (max 0 (0 + 2))) <| aC (qmV h4) <| aC h5 <| aC h5 <| aC (qaT x3.1 qaD) <| aC h5 <| aC h5 <| aC h6 <| aC h6 <| aC (qa0 h8) <| aC (qbH qaD h8) <| aC h6 <| aC h6 <| aC (by kernel_rfl : [(T.int .i64 (7 : Int)), (T.int .i64 (1 : Int))] = (([(7 : Int), (1 : Int)] : List Int).map qeT).flatten) <| aC h6 <| aC (qfF h10) <| aC h6 <| aC (qo9 h12) <| aC h6 <| aC h13 <| aC h13 <| aC h13 <| aC h13 <| aC h13 <| aC h13 <| aC h13 <| aN)
    · skip
      have h := Option.some.inj h; subst h
      exact qaN (fuel := 62) [rgG [oo], rgG [opI (.lit (([(1 : Int), (0 : Int), (1 : Int)] : List Int).map qeT)), .snap 4 (max 0 (0 + 3)) (([(1 : Int), (0 : Int), (1 : Int)] : List Int).map qeT), opI (.call [[1]] [(TV.c (T.sl 1 (([(1 : Int), (0 : Int), (1 : Int)] : List Int).map qeT)))] (tl 2 x1 qaA)), opI (.lit (([(2 : Int), (1 : Int)] : List Int).map qaC)), opI (.lit (([(3 : Int), (1 : Int)] : List Int).map qaC)), .snap 6 (max 0 (0 + 2)) (([(2 : Int), (1 : Int)] : List Int).map qaC), .snap 7 (max 0 (0 + 2)) (([(3 : Int), (1 : Int)] : List Int).map qaC), opI (.lit (([([(2 : Int), (1 : Int)] : List Int), ([(3 : Int), (1 : Int)] : List Int)] : List (List Int)).map qaG)), .snap 8 (max 0 (0 + 2)) (([([(2 : Int), (1 : Int)] : List Int), ([(3 : Int), (1 : Int)] : List Int)] : List (List Int)).map qaG), opI (.call [[2], [1], [0], [0]] [(tl 2 x1 qaA), (TV.c (T.sl 1 (([([(2 : Int), (1 : Int)] : List Int), ([(3 : Int), (1 : Int)] : List Int)] : List (List Int)).map qaG))), (TV.c (T.int .u32 (5 : Int))), (TV.c (T.int .i64 (2 : Int)))] (TV.tup [(false, [(T.sl 1 (x3.1.map qaD))]), (false, [(T.int .i64 x3.2)])])), oo, oo, oo, oo, oo], .draw [.p, .p, .p, (.ga true .p), (.ga true (.ln (x3.1.length : Int))), (.ga true .p), (.pk true), .p, (.ga false .p), (.ga false .p), (.ga false .p), (.ga false .p), (.ga false .p), (.ga false .p), (.pk false), .p, .p, .p, .p, .p, .p, .p, .p, .p] []] _ hn (by kernel_rfl) (aC (by kernel_rfl : [(T.int .i64 (1 : Int)), (T.int .i64 (0 : Int)), (T.int .i64 (1 : Int))] = (([(1 : Int), (0 : Int), (1 : Int)] : List Int).map qeT).flatten) <| aC (qbI _ _ _ (by simp) : ((([(1 : Int), (0 : Int), (1 : Int)] : List Int).map qeT).drop 0).take 3 = ([(1 : Int), (0 : Int), (1 : Int)] : List Int).map qeT) <| aC (rfl : (max 0 (0 + 3)) = (max 0 (0 + 3))) <| aC (qfF h2) <| aC (by kernel_rfl : [(T.int .u32 (2 : Int)), (T.int .u32 (1 : Int))] = (([(2 : Int), (1 : Int)] : List Int).map qaC).flatten) <| aC (by kernel_rfl : [(T.int .u32 (3 : Int)), (T.int .u32 (1 : Int))] = (([(3 : Int), (1 : Int)] : List Int).map qaC).flatten) <| aC (qbI _ _ _ (by simp) : ((([(2 : Int), (1 : Int)] : List Int).map qaC).drop 0).take 2 = ([(2 : Int), (1 : Int)] : List Int).map qaC) <| aC (rfl : (max 0 (0 + 2)) = (max 0 (0 + 2))) <| aC (qbI _ _ _ (by simp) : ((([(3 : Int), (1 : Int)] : List Int).map qaC).drop 0).take 2 = ([(3 : Int), (1 : Int)] : List Int).map qaC) <| aC (rfl : (max 0 (0 + 2)) = (max 0 (0 + 2))) <| aC (by kernel_rfl : [(T.sl 1 (([(2 : Int), (1 : Int)] : List Int).map qaC)), (T.sl 1 (([(3 : Int), (1 : Int)] : List Int).map qaC))] = (([([(2 : Int), (1 : Int)] : List Int), ([(3 : Int), (1 : Int)] : List Int)] : List (List Int)).map qaG).flatten) <| aC (qbI _ _ _ (by simp) : ((([([(2 : Int), (1 : Int)] : List Int), ([(3 : Int), (1 : Int)] : List Int)] : List (List Int)).map qaG).drop 0).take 2 = ([([(2 : Int), (1 : Int)] : List Int), ([(3 : Int), (1 : Int)] : List Int)] : List (List Int)).map qaG) <| aC (rfl : (max 0 (0 + 2)) = (max 0 (0 + 2))) <| aC (qmV h4) <| aC h5 <| aC h5 <| aC (qaT x3.1 qaD) <| aC h5 <| aC h5 <| aC h6 <| aC h6 <| aC h6 <| aC h6 <| aC h6 <| aC h6 <| aC h6 <| aN)
  · skip
    have h := Option.some.inj h; subst h
    exact qaN (fuel := 62) [rgG [oo], rgG [opI (.lit (([(1 : Int), (0 : Int), (1 : Int)] : List Int).map qeT)), .snap 4 (max 0 (0 + 3)) (([(1 : Int), (0 : Int), (1 : Int)] : List Int).map qeT), opI (.call [[1]] [(TV.c (T.sl 1 (([(1 : Int), (0 : Int), (1 : Int)] : List Int).map qeT)))] (tl 2 x1 qaA)), opI (.lit (([(2 : Int), (1 : Int)] : List Int).map qaC)), opI (.lit (([(3 : Int), (1 : Int)] : List Int).map qaC)), .snap 6 (max 0 (0 + 2)) (([(2 : Int), (1 : Int)] : List Int).map qaC), .snap 7 (max 0 (0 + 2)) (([(3 : Int), (1 : Int)] : List Int).map qaC), opI (.lit (([([(2 : Int), (1 : Int)] : List Int), ([(3 : Int), (1 : Int)] : List Int)] : List (List Int)).map qaG)), .snap 8 (max 0 (0 + 2)) (([([(2 : Int), (1 : Int)] : List Int), ([(3 : Int), (1 : Int)] : List Int)] : List (List Int)).map qaG), opI (.call [[2], [1], [0], [0]] [(tl 2 x1 qaA), (TV.c (T.sl 1 (([([(2 : Int), (1 : Int)] : List Int), ([(3 : Int), (1 : Int)] : List Int)] : List (List Int)).map qaG))), (TV.c (T.int .u32 (5 : Int))), (TV.c (T.int .i64 (2 : Int)))] (TV.tup [(false, [(T.sl 1 (x3.1.map qaD))]), (false, [(T.int .i64 x3.2)])])), oo, oo, oo, oo, oo], .draw [.p, .p, .p, (.ga false .p), (.ga false .p), (.ga false .p), (.pk false), .p, .p, .p, .p, .p, .p, .p, .p, .p, .p, .p, .p, .p, .p, .p, .p, .p] []] _ hn (by kernel_rfl) (aC (by kernel_rfl : [(T.int .i64 (1 : Int)), (T.int .i64 (0 : Int)), (T.int .i64 (1 : Int))] = (([(1 : Int), (0 : Int), (1 : Int)] : List Int).map qeT).flatten) <| aC (qbI _ _ _ (by simp) : ((([(1 : Int), (0 : Int), (1 : Int)] : List Int).map qeT).drop 0).take 3 = ([(1 : Int), (0 : Int), (1 : Int)] : List Int).map qeT) <| aC (rfl : (max 0 (0 + 3)) = (max 0 (0 + 3))) <| aC (qfF h2) <| aC (by kernel_rfl : [(T.int .u32 (2 : Int)), (T.int .u32 (1 : Int))] = (([(2 : Int), (1 : Int)] : List Int).map qaC).flatten) <| aC (by kernel_rfl : [(T.int .u32 (3 : Int)), (T.int .u32 (1 : Int))] = (([(3 : Int), (1 : Int)] : List Int).map qaC).flatten) <| aC (qbI _ _ _ (by simp) : ((([(2 : Int), (1 : Int)] : List Int).map qaC).drop 0).take 2 = ([(2 : Int), (1 : Int)] : List Int).map qaC) <| aC (rfl : (max 0 (0 + 2)) = (max 0 (0 + 2))) <| aC (qbI _ _ _ (by simp) : ((([(3 : Int), (1 : Int)] : List Int).map qaC).drop 0).take 2 = ([(3 : Int), (1 : Int)] : List Int).map qaC) <| aC (rfl : (max 0 (0 + 2)) = (max 0 (0 + 2))) <| aC (by kernel_rfl : [(T.sl 1 (([(2 : Int), (1 : Int)] : List Int).map qaC)), (T.sl 1 (([(3 : Int), (1 : Int)] : List Int).map qaC))] = (([([(2 : Int), (1 : Int)] : List Int), ([(3 : Int), (1 : Int)] : List Int)] : List (List Int)).map qaG).flatten) <| aC (qbI _ _ _ (by simp) : ((([([(2 : Int), (1 : Int)] : List Int), ([(3 : Int), (1 : Int)] : List Int)] : List (List Int)).map qaG).drop 0).take 2 = ([([(2 : Int), (1 : Int)] : List Int), ([(3 : Int), (1 : Int)] : List Int)] : List (List Int)).map qaG) <| aC (rfl : (max 0 (0 + 2)) = (max 0 (0 + 2))) <| aC (qmV h4) <| aC h5 <| aC h5 <| aC h5 <| aC h5 <| aN)
theorem qsO : ∀ K : Nat, qvD K
  | 0, c, r, h => by rw [qg9] at h; cases h
  | K + 1, .c0, r, h => fun cx hn => cylinderlaw12_fit_c0 (qsO K) hn h
theorem qa1 {K : Nat}  {r : Bool} (h : qjT K  = some r) : qcX prog 43 [] (TV.c (T.bool r)) :=
  qa2 [[0]] (by kernel_rfl) (by simp) fun cx hn => qsO K .c0 r h cx hn
end Go.Am.X
namespace Go.Am.X
theorem fit_true (K : Nat) : qjT (K + 100) = some true := by kernel_rfl
end Go.Am.X
namespace Go.Am.X
open Go.Proofs.Try (prog)
inductive qkH where
  | c0 (b : qaB) (p : Int)
  | c1 (most : qaB) (base : qaB) (power : qaB) (k : Int)
def qcP : Nat → qkH → Option (Int × Int)
  | 0, _ => none
  | K + 1, .c0 b p =>
    bif (decide (p < (2 : Int))) then
      some ((0 : Int), (1 : Int))
    else
      (qg7 K b).bind fun x2 =>
      (integer_Shl K x2 (1 : Int)).bind fun x4 =>
      (qh9 K (wI6 p)).bind fun x6 =>
      qcP K (.c1 x4 x6 x6 (1 : Int))
  | K + 1, .c1 most base power k =>
    (qiQ K power most).bind fun x1 =>
    bif (decide (x1 ≤ (0 : Int))) then
      (qdI K power base).bind fun x4 =>
      qcP K (.c1 most base x4 (wI6 (k + (1 : Int))))
    else
      some (k, (0 : Int))
def qjO (K : Nat) (b : qaB) (p : Int) : Option (Int × Int) := qcP K (.c0 b p)
noncomputable def qnC : Code := qbN prog 52
noncomputable def hensel_Exponent_pos : qkH → List Fr
  | .c0 .. => [.code qnC]
  | .c1 .. => [.code (.loop (atC qnC [1,1,1,1,1,1,0,0,0])), .blk 0, .code (atC qnC [1,1,1,1,1,1,1])]
def hensel_Exponent_st : qkH → St
  | .c0 b p => St.init [(TV.agg (qaA b)), (ti .u32 p)]
  | .c1 most base power k => ⟨[(6, .c (C.ptr 6 0)), (7, .c (C.ptr 7 0)), (8, .c (C.ptr 8 0)), (9, vi .i64 k)], [(6, .var ((qaA most).map C.t)), (7, .var ((qaA base).map C.t)), (8, .var ((qaA power).map C.t))], []⟩
def qrN (cx : Cx) (c : qkH) (r : (Int × Int)) : Prop := Wk prog cx (qcT prog 52 [[0], [0]] (TV.tup [(false, [(T.int .i64 r.1)]), (false, [(T.int .i64 r.2)])])) (hensel_Exponent_pos c) .normal (hensel_Exponent_st c)
abbrev qrO (K : Nat) : Prop := ∀ c r, qcP K c = some r → ∀ cx : Cx, cx.n = 29 → qrN cx c r
theorem hensel_Exponent_c0 {K} (ih : qrO K) {cx} (hn : cx.n = 29) {b p} {r} (h : qcP (K + 1) (.c0 b p) = some r) : qrN cx (.c0 b p) r := by
  rw [qcP] at h
  rcases qaK h with ⟨h1, h⟩ | ⟨h1, h⟩
  · skip
    have h := Option.some.inj h; subst h
    exact qaN (fuel := 72) [rgG [oo, oo, oo], rgG [oo, oo], .br true, rgG [oo, oo]] _ hn (by kernel_rfl) (aC h1 <| aN)
  · skip
    obtain ⟨x2, h3, h⟩ := qaH h
    obtain ⟨x4, h5, h⟩ := qaH h
    obtain ⟨x6, h7, h⟩ := qaH h
    exact qaU (fuel := 98) [rgG [oo, oo, oo], rgG [oo, oo], .br false, rgG [oo, opI (.call [[0,1]] [(TV.agg (qaA b))] (TV.agg (qaA x2))), opI (.call [[0,1], [0]] [(TV.agg (qaA x2)), (TV.c (T.int .i64 (1 : Int)))] (TV.agg (qaA x4))), oo, oo], rgG [oo, oo, opI (.call [[0]] [(TV.c (T.int .i64 (wI6 p)))] (TV.agg (qaA x6))), oo, oo], rgG [oo, oo, oo], rgG [oo], .pre [.keep [6,7,8,9] [6,7,8]]] _ hn (by kernel_rfl) (aC h1 <| aC (qdA h3) <| aC (integer_Shl_holds h5) <| aC (qfH h7) <| aN) (ih _ _ h cx hn)
theorem hensel_Exponent_c1 {K} (ih : qrO K) {cx} (hn : cx.n = 29) {most base power k} {r} (h : qcP (K + 1) (.c1 most base power k) = some r) : qrN cx (.c1 most base power k) r := by
  rw [qcP] at h
  obtain ⟨x1, h2, h⟩ := qaH h
  rcases qaK h with ⟨h3, h⟩ | ⟨h3, h⟩
  · skip
    obtain ⟨x4, h5, h⟩ := qaH h
    exact qaU (fuel := 82) [.go, rgG [oo, oo, opI (.call [[0,1], [0,1]] [(TV.agg (qaA power)), (TV.agg (qaA most))] (ti .i64 x1)), oo], .br true, rgG [oo, oo, opI (.call [[0,1], [0,1]] [(TV.agg (qaA power)), (TV.agg (qaA base))] (TV.agg (qaA x4))), oo], rgG [oo, oo, oo], .pre [.keep [6,7,8,9] [6,7,8]]] _ hn (by kernel_rfl) (aC (qd0 h2) <| aC h3 <| aC (qbT h5) <| aN) (ih _ _ h cx hn)
  · skip
    have h := Option.some.inj h; subst h
    exact qaN (fuel := 78) [.go, rgG [oo, oo, opI (.call [[0,1], [0,1]] [(TV.agg (qaA power)), (TV.agg (qaA most))] (ti .i64 x1)), oo], .br false, rgG [oo, oo, oo]] _ hn (by kernel_rfl) (aC (qd0 h2) <| aC h3 <| aN)
theorem qoZ : ∀ K : Nat, qrO K
  | 0, c, r, h => by rw [qcP] at h; cases h
  | K + 1, .c0 .., r, h => fun cx hn => hensel_Exponent_c0 (qoZ K) hn h
  | K + 1, .c1 .., r, h => fun cx hn => hensel_Exponent_c1 (qoZ K) hn h
theorem qd3 {K : Nat} {b : qaB} {p : Int} {r : (Int × Int)} (h : qjO K b p = some r) : qcX prog 52 [(TV.agg (qaA b)), (ti .u32 p)] (TV.tup [(false, [(T.int .i64 r.1)]), (false, [(T.int .i64 r.2)])]) :=
  qa2 [[0], [0]] (by kernel_rfl) (by simp) fun cx hn => qoZ K (.c0 b p) r h cx hn
end Go.Am.X
namespace Go.Am.X
open Go.Proofs.Try (prog)
inductive qeQ where
  | c0 (b : qaB) (p : Int)
def qdB : Nat → qeQ → Option Bool
  | 0, _ => none
  | K + 1, .c0 b p =>
    (qjT K ).bind fun x1 =>
    bif (!x1) then
      some false
    else
      bif (decide ((10 : Int) < (b.Abs.length : Int))) then
        some true
      else
        (qjO K b p).bind fun x5 =>
        bif (decide (p < (2 : Int))) then
          bif (decide (x5.2 = (1 : Int))) then
            some (decide (x5.1 = (0 : Int)))
          else
            some false
        else
          bif (!decide (x5.2 = (0 : Int))) then
            some false
          else
            bif (decide (x5.1 < (1 : Int))) then
              some false
            else
              bif (decide ((400 : Int) < x5.1)) then
                some false
              else
                (qg6 K b b).bind fun x11 =>
                (qg7 K x11).bind fun x13 =>
                (qhW K p x5.1).bind fun x15 =>
                (qiQ K x15 x13).bind fun x17 =>
                bif (decide ((0 : Int) < x17)) then
                  bif (decide (x5.1 = (1 : Int))) then
                    some true
                  else
                    (qhW K p (wI6 (x5.1 - (1 : Int)))).bind fun x21 =>
                    (qiQ K x21 x13).bind fun x23 =>
                    some (decide (x23 ≤ (0 : Int)))
                else
                  some false
def qhF (K : Nat) (b : qaB) (p : Int) : Option Bool := qdB K (.c0 b p)
noncomputable def qqR : Code := qbN prog 10
noncomputable def qqW : qeQ → List Fr
  | .c0 .. => [.code qqR]
def qrS : qeQ → St
  | .c0 b p => St.init [(TV.agg (qaA b)), (ti .u32 p)]
def qj0 (cx : Cx) (c : qeQ) (r : Bool) : Prop := Wk prog cx (qcT prog 10 [[0]] (TV.c (T.bool r))) (qqW c) .normal (qrS c)
abbrev qj1 (K : Nat) : Prop := ∀ c r, qdB K c = some r → ∀ cx : Cx, cx.n = 61 → qj0 cx c r
theorem qrT {K} (_ : qj1 K) {cx} (hn : cx.n = 61) {b p} {r} (h : qdB (K + 1) (.c0 b p) = some r) : qj0 cx (.c0 b p) r := by
  rw [qdB] at h
  obtain ⟨x1, h2, h⟩ := qaH h
  rcases qaK h with ⟨h3, h⟩ | ⟨h3, h⟩
  · skip
    have h := Option.some.inj h; subst h
    exact qaN (fuel := 72) [rgG [oo, oo], rgG [opI (.call [] [] (TV.c (T.bool x1))), oo], .br true, rgG [oo]] _ hn (by kernel_rfl) (aC (qa1 h2) <| aC h3 <| aN)
  · skip
    rcases qaK h with ⟨h4, h⟩ | ⟨h4, h⟩
    · skip
      have h := Option.some.inj h; subst h
      exact qaN (fuel := 90) [rgG [oo, oo], rgG [opI (.call [] [] (TV.c (T.bool x1))), oo], .br false, rgG [oo, oo, opI (.ln (b.Abs.length : Int)), oo], .br true, rgG [oo]] _ hn (by kernel_rfl) (aC (qa1 h2) <| aC h3 <| aC (qaT b.Abs qaC) <| aC h4 <| aN)
    · skip
      obtain ⟨x5, h6, h⟩ := qaH h
      rcases qaK h with ⟨h7, h⟩ | ⟨h7, h⟩
      · skip
        rcases qaK h with ⟨h8, h⟩ | ⟨h8, h⟩
        · skip
          have h := Option.some.inj h; subst h
          exact qaN (fuel := 116) [rgG [oo, oo], rgG [opI (.call [] [] (TV.c (T.bool x1))), oo], .br false, rgG [oo, oo, opI (.ln (b.Abs.length : Int)), oo], .br false, rgG [oo, oo, opI (.call [[0,1], [0]] [(TV.agg (qaA b)), (ti .u32 p)] (TV.tup [(false, [(T.int .i64 x5.1)]), (false, [(T.int .i64 x5.2)])])), oo, oo, oo, oo, oo], rgG [oo, oo], .br true, rgG [oo, oo, oo, .sb 24 true, oo, oo, oo, oo]] _ hn (by kernel_rfl) (aC (qa1 h2) <| aC h3 <| aC (qaT b.Abs qaC) <| aC h4 <| aC (qd3 h6) <| aC h7 <| aC h8 <| aN)
        · skip
          have h := Option.some.inj h; subst h
          exact qaN (fuel := 116) [rgG [oo, oo], rgG [opI (.call [] [] (TV.c (T.bool x1))), oo], .br false, rgG [oo, oo, opI (.ln (b.Abs.length : Int)), oo], .br false, rgG [oo, oo, opI (.call [[0,1], [0]] [(TV.agg (qaA b)), (ti .u32 p)] (TV.tup [(false, [(T.int .i64 x5.1)]), (false, [(T.int .i64 x5.2)])])), oo, oo, oo, oo, oo], rgG [oo, oo], .br true, rgG [oo, oo, oo, .sb 24 false, oo, oo, oo, oo]] _ hn (by kernel_rfl) (aC (qa1 h2) <| aC h3 <| aC (qaT b.Abs qaC) <| aC h4 <| aC (qd3 h6) <| aC h7 <| aC h8 <| aN)
      · skip
        rcases qaK h with ⟨h8, h⟩ | ⟨h8, h⟩
        · skip
          have h := Option.some.inj h; subst h
          exact qaN (fuel := 134) [rgG [oo, oo], rgG [opI (.call [] [] (TV.c (T.bool x1))), oo], .br false, rgG [oo, oo, opI (.ln (b.Abs.length : Int)), oo], .br false, rgG [oo, oo, opI (.call [[0,1], [0]] [(TV.agg (qaA b)), (ti .u32 p)] (TV.tup [(false, [(T.int .i64 x5.1)]), (false, [(T.int .i64 x5.2)])])), oo, oo, oo, oo, oo], rgG [oo, oo], .br false, rgG [oo, oo, oo, .sb 30 true, oo, oo, oo, oo, oo, oo, oo], .br true, rgG [oo]] _ hn (by kernel_rfl) (aC (qa1 h2) <| aC h3 <| aC (qaT b.Abs qaC) <| aC h4 <| aC (qd3 h6) <| aC h7 <| aC h8 <| aC rt <| aN)
        · skip
          rcases qaK h with ⟨h9, h⟩ | ⟨h9, h⟩
          · skip
            have h := Option.some.inj h; subst h
            exact qaN (fuel := 134) [rgG [oo, oo], rgG [opI (.call [] [] (TV.c (T.bool x1))), oo], .br false, rgG [oo, oo, opI (.ln (b.Abs.length : Int)), oo], .br false, rgG [oo, oo, opI (.call [[0,1], [0]] [(TV.agg (qaA b)), (ti .u32 p)] (TV.tup [(false, [(T.int .i64 x5.1)]), (false, [(T.int .i64 x5.2)])])), oo, oo, oo, oo, oo], rgG [oo, oo], .br false, rgG [oo, oo, oo, .sb 30 false, oo, oo, oo, oo, .sb 34 true, oo, oo, oo], .br true, rgG [oo]] _ hn (by kernel_rfl) (aC (qa1 h2) <| aC h3 <| aC (qaT b.Abs qaC) <| aC h4 <| aC (qd3 h6) <| aC h7 <| aC h8 <| aC h9 <| aC rt <| aN)
          · skip
            rcases qaK h with ⟨h10, h⟩ | ⟨h10, h⟩
            · skip
              have h := Option.some.inj h; subst h
              exact qaN (fuel := 134) [rgG [oo, oo], rgG [opI (.call [] [] (TV.c (T.bool x1))), oo], .br false, rgG [oo, oo, opI (.ln (b.Abs.length : Int)), oo], .br false, rgG [oo, oo, opI (.call [[0,1], [0]] [(TV.agg (qaA b)), (ti .u32 p)] (TV.tup [(false, [(T.int .i64 x5.1)]), (false, [(T.int .i64 x5.2)])])), oo, oo, oo, oo, oo], rgG [oo, oo], .br false, rgG [oo, oo, oo, .sb 30 false, oo, oo, oo, oo, .sb 34 false, oo, oo, oo], .br true, rgG [oo]] _ hn (by kernel_rfl) (aC (qa1 h2) <| aC h3 <| aC (qaT b.Abs qaC) <| aC h4 <| aC (qd3 h6) <| aC h7 <| aC h8 <| aC h9 <| aC h10 <| aN)
            · skip
              obtain ⟨x11, h12, h⟩ := qaH h
              obtain ⟨x13, h14, h⟩ := qaH h
              obtain ⟨x15, h16, h⟩ := qaH h
              obtain ⟨x17, h18, h⟩ := qaH h
              rcases qaK h with ⟨h19, h⟩ | ⟨h19, h⟩
              · skip
                rcases qaK h with ⟨h20, h⟩ | ⟨h20, h⟩
                · skip
                  have h := Option.some.inj h; subst h
                  exact qaN (fuel := 142) [rgG [oo, oo], rgG [opI (.call [] [] (TV.c (T.bool x1))), oo], .br false, rgG [oo, oo, opI (.ln (b.Abs.length : Int)), oo], .br false, rgG [oo, oo, opI (.call [[0,1], [0]] [(TV.agg (qaA b)), (ti .u32 p)] (TV.tup [(false, [(T.int .i64 x5.1)]), (false, [(T.int .i64 x5.2)])])), oo, oo, oo, oo, oo], rgG [oo, oo], .br false, rgG [oo, oo, oo, .sb 30 false, oo, oo, oo, oo, .sb 34 false, oo, oo, oo], .br false, rgG [oo, oo, opI (.call [[0,1], [0,1]] [(TV.agg (qaA b)), (TV.agg (qaA b))] (TV.agg (qaA x11))), opI (.call [[0,1]] [(TV.agg (qaA x11))] (TV.agg (qaA x13))), oo, oo], .draw [.p, .p, (.call [[0], [0]] [(ti .u32 p), (ti .i64 x5.1)] (TV.agg (qaA x15))), .p, (.call [[0,1], [0,1]] [(TV.agg (qaA x15)), (TV.agg (qaA x13))] (ti .i64 x17)), .p, .p, (.ga true .p), (.ga true .p), (.ga true .p), (.ga true .p), (.ga true .p), (.ga true .p), (.ga true .p), (.ga true .p), (.ga true .p), (.ga true .p), (.ga true (.pk true)), (.pk true), .p] []] _ hn (by kernel_rfl) (aC (qa1 h2) <| aC h3 <| aC (qaT b.Abs qaC) <| aC h4 <| aC (qd3 h6) <| aC h7 <| aC h8 <| aC h9 <| aC h10 <| aC (qeH h12) <| aC (qdA h14) <| aC (qgG h16) <| aC (qd0 h18) <| aC h19 <| aC h19 <| aC h19 <| aC h20 <| aC h20 <| aC h20 <| aC h20 <| aC h20 <| aC h20 <| aC h20 <| aC h19 <| aC h20 <| aC h19 <| aN)
                · skip
                  obtain ⟨x21, h22, h⟩ := qaH h
                  obtain ⟨x23, h24, h⟩ := qaH h
                  have h := Option.some.inj h; subst h
                  exact qaN (fuel := 142) [rgG [oo, oo], rgG [opI (.call [] [] (TV.c (T.bool x1))), oo], .br false, rgG [oo, oo, opI (.ln (b.Abs.length : Int)), oo], .br false, rgG [oo, oo, opI (.call [[0,1], [0]] [(TV.agg (qaA b)), (ti .u32 p)] (TV.tup [(false, [(T.int .i64 x5.1)]), (false, [(T.int .i64 x5.2)])])), oo, oo, oo, oo, oo], rgG [oo, oo], .br false, rgG [oo, oo, oo, .sb 30 false, oo, oo, oo, oo, .sb 34 false, oo, oo, oo], .br false, rgG [oo, oo, opI (.call [[0,1], [0,1]] [(TV.agg (qaA b)), (TV.agg (qaA b))] (TV.agg (qaA x11))), opI (.call [[0,1]] [(TV.agg (qaA x11))] (TV.agg (qaA x13))), oo, oo], .draw [.p, .p, (.call [[0], [0]] [(ti .u32 p), (ti .i64 x5.1)] (TV.agg (qaA x15))), .p, (.call [[0,1], [0,1]] [(TV.agg (qaA x15)), (TV.agg (qaA x13))] (ti .i64 x17)), .p, .p, (.ga true .p), (.ga true .p), (.ga true .p), (.ga false .p), (.ga false .p), (.ga false .p), (.ga false (.call [[0], [0]] [(ti .u32 p), (TV.c (T.int .i64 (wI6 (x5.1 - (1 : Int)))))] (TV.agg (qaA x21)))), (.ga false .p), (.ga false (.call [[0,1], [0,1]] [(TV.agg (qaA x21)), (TV.agg (qaA x13))] (ti .i64 x23))), (.ga false .p), (.ga true (.pk false)), (.pk true), .p] []] _ hn (by kernel_rfl) (aC (qa1 h2) <| aC h3 <| aC (qaT b.Abs qaC) <| aC h4 <| aC (qd3 h6) <| aC h7 <| aC h8 <| aC h9 <| aC h10 <| aC (qeH h12) <| aC (qdA h14) <| aC (qgG h16) <| aC (qd0 h18) <| aC h19 <| aC h19 <| aC h19 <| aC h20 <| aC h20 <| aC h20 <| aC h20 <| aC (qgG h22) <| aC h20 <| aC h20 <| aC (qd0 h24) <| aC h20 <| aC h19 <| aC h20 <| aC h19 <| aN)
              · skip
                have h := Option.some.inj h; subst h
                exact qaN (fuel := 142) [rgG [oo, oo], rgG [opI (.call [] [] (TV.c (T.bool x1))), oo], .br false, rgG [oo, oo, opI (.ln (b.Abs.length : Int)), oo], .br false, rgG [oo, oo, opI (.call [[0,1], [0]] [(TV.agg (qaA b)), (ti .u32 p)] (TV.tup [(false, [(T.int .i64 x5.1)]), (false, [(T.int .i64 x5.2)])])), oo, oo, oo, oo, oo], rgG [oo, oo], .br false, rgG [oo, oo, oo, .sb 30 false, oo, oo, oo, oo, .sb 34 false, oo, oo, oo], .br false, rgG [oo, oo, opI (.call [[0,1], [0,1]] [(TV.agg (qaA b)), (TV.agg (qaA b))] (TV.agg (qaA x11))), opI (.call [[0,1]] [(TV.agg (qaA x11))] (TV.agg (qaA x13))), oo, oo], .draw [.p, .p, (.call [[0], [0]] [(ti .u32 p), (ti .i64 x5.1)] (TV.agg (qaA x15))), .p, (.call [[0,1], [0,1]] [(TV.agg (qaA x15)), (TV.agg (qaA x13))] (ti .i64 x17)), .p, .p, (.ga false .p), (.ga false .p), (.ga false .p), .p, .p, .p, .p, .p, .p, .p, (.ga false .p), (.pk false), .p] []] _ hn (by kernel_rfl) (aC (qa1 h2) <| aC h3 <| aC (qaT b.Abs qaC) <| aC h4 <| aC (qd3 h6) <| aC h7 <| aC h8 <| aC h9 <| aC h10 <| aC (qeH h12) <| aC (qdA h14) <| aC (qgG h16) <| aC (qd0 h18) <| aC h19 <| aC h19 <| aC h19 <| aC h19 <| aC h19 <| aN)
theorem qiV : ∀ K : Nat, qj1 K
  | 0, c, r, h => by rw [qdB] at h; cases h
  | K + 1, .c0 .., r, h => fun cx hn => qrT (qiV K) hn h
theorem cylinderlaw12_HenselExponent_holds {K : Nat} {b : qaB} {p : Int} {r : Bool} (h : qhF K b p = some r) : qcX prog 10 [(TV.agg (qaA b)), (ti .u32 p)] (TV.c (T.bool r)) :=
  qa2 [[0]] (by kernel_rfl) (by simp) fun cx hn => qiV K (.c0 b p) r h cx hn
end Go.Am.X
namespace Go.Am.X
theorem pow_bound {p : Int} (hp : 2 ≤ p) (n : Nat) : 2 ^ n ≤ p ^ n := ipow_le (by decide) hp n
theorem pow2_mono {m n : Nat} (h : m ≤ n) : (2 : Int) ^ m ≤ 2 ^ n := by
  have : (2 : Nat) ^ m ≤ 2 ^ n := Nat.pow_le_pow_right (by decide) h
  exact_mod_cast this
theorem bpow_two (n : Nat) : (4294967296 : Int) ^ n = 2 ^ (32 * n) := by
  rw [show (4294967296 : Int) = 2 ^ 32 by decide, ← Int.pow_mul]
theorem bpow_lt {m n : Nat} (h : m < n) : (4294967296 : Int) ^ m < 4294967296 ^ n := by
  have h1 := qrV (show m + 1 ≤ n from h)
  have h2 := qfA m
  rw [Int.pow_succ] at h1; omega
theorem qvW {p most : Int} (hp : 2 ≤ p ∧ p < 4294967296) (hm0 : 0 ≤ most) (hm : most < 2 ^ 321) : ∀ (m k : Nat), k + m = 330 → 1 ≤ k → (k = 1 ∨ p ^ (k - 1) ≤ most) →
    ∃ n : Nat, Ev (fun K => qcP K (.c1 (mkI most) (mkI p) (mkI (p ^ k)) k)) ((n : Int), 0) ∧ 1 ≤ n ∧ n ≤ 330 ∧ most < p ^ n ∧ (n = 1 ∨ p ^ (n - 1) ≤ most)
  | m, k, hk, h1, h2 => by
    have hkk : k ≤ 322 := by
      apply Classical.byContradiction; intro hne
      have h3 : p ^ (k - 1) ≤ most := by omega
      have h4 := pow_bound hp.1 (k - 1)
      have h5 := pow2_mono (show 321 ≤ k - 1 by omega)
      omega
    have hpk0 : 0 ≤ p ^ k := Int.pow_nonneg (by omega)
    have hpk : p ^ k < 4294967296 ^ (k + 1) := by
      have h1 : p ^ k ≤ 4294967296 ^ k := ipow_le (by omega) (by omega) k
      have h2 := qfA k
      rw [Int.pow_succ]; omega
    have l1 := quP hpk0 hpk
    have l2 : (mkI most).Abs.length ≤ 11 := quP hm0 (Int.lt_of_lt_of_le hm (by rw [bpow_two]; exact pow2_mono (by decide)))
    have l3 : (mkI p).Abs.length ≤ 1 := quP (by omega) (by omega)
    have hc := qfB (p ^ k) most
    have hcmp := qk1 (qjH (p ^ k)) (qjH most) (by omega) (by omega)
    rw [qd5, qd5] at hcmp
    by_cases h : p ^ k ≤ most
    · match m, hk with
      | 0, hk => omega
      | m + 1, hk =>
        obtain ⟨n, g1, g2, g3, g4, g5⟩ := qvW hp hm0 hm m (k + 1) (by omega) (by omega) (.inr (by rw [Nat.add_sub_cancel]; exact h))
        refine ⟨n, ?_, g2, g3, g4, g5⟩
        refine qaS ?_
        simp only [qcP]
        refine qaP hcmp (ev_t (by simp; omega) ?_)
        have hmul := qr8 (qjH (p ^ k)) (qjH p) (by omega)
        rw [qd5, qd5, ← Int.pow_succ] at hmul
        rw [qdN (by omega), show (k : Int) + 1 = ((k + 1 : Nat) : Int) by omega]
        exact qaP hmul g1
    · refine ⟨k, ?_, h1, by omega, by omega, h2⟩
      refine qaS ?_
      simp only [qcP]
      exact qaP hcmp (ev_f (by simp; omega) (qa3 _))
termination_by m => m
theorem hensel_Exponent_ev {b : qaB} {p : Int} (hb : Dig b.Abs) (hl : b.Abs.length ≤ 10) (hp : 2 ≤ p ∧ p < 4294967296) :
    ∃ n : Nat, Ev (fun K => qjO K b p) ((n : Int), 0) ∧ 1 ≤ n ∧ n ≤ 330 ∧ 2 * ((ival b).natAbs : Int) < p ^ n ∧ (n = 1 ∨ p ^ (n - 1) ≤ 2 * ((ival b).natAbs : Int)) := by
  have hv := qjV hb
  have hB : (4294967296 : Int) ^ b.Abs.length ≤ 4294967296 ^ 10 := qrV hl
  have h10 : (4294967296 : Int) ^ 10 = 2 ^ 320 := bpow_two 10
  have h11 : (2 : Int) ^ 321 = 2 ^ 320 * 2 := Int.pow_succ 2 320
  have hva := qsT b hb
  obtain ⟨n, g1, g2, g3, g4, g5⟩ := qvW (most := 2 * ((ival b).natAbs : Int)) hp (by omega) (by omega) 329 1 rfl (Nat.le_refl _) (.inl rfl)
  refine ⟨n, ?_, g2, g3, g4, g5⟩
  refine qaS ?_
  simp only [qjO, qcP]
  rw [qdN (x := p) (by omega)]
  have hl1 : (mkI ((ival b).natAbs : Int)).Abs.length ≤ 10 := quP (by omega) (by omega)
  have hs := integer_Shl_ev (qjH ((ival b).natAbs : Int)) (n := 1) (by decide) (by omega)
  rw [qd5] at hs
  rw [show ((ival b).natAbs : Int) * 2 ^ 1 = 2 * ((ival b).natAbs : Int) by omega] at hs
  have ep : p ^ (1 : Nat) = p := by rw [Int.pow_succ, Int.pow_zero, Int.one_mul]
  rw [ep] at g1
  exact ev_f (by simp; omega) (qaP (qnN hb (by omega)) (qaP hs (qaP (qqG (by omega)) g1)))
theorem fit_ev : Ev (fun K => qjT K) true := ⟨100, fun K hK => by
  obtain ⟨k, rfl⟩ : ∃ k, K = k + 100 := ⟨K - 100, by omega⟩
  exact fit_true k⟩
theorem HenselExponent_ev {b : qaB} {p : Int} (hb : Dig b.Abs) (hp : 0 ≤ p ∧ p < 4294967296) : Ev (fun K => qhF K b p) true := by
  refine qaS ?_
  simp only [qhF, qdB]
  refine qaP fit_ev (ev_f rfl ?_)
  by_cases hl : 10 < b.Abs.length
  · exact ev_t (by simp; omega) (qa3 _)
  · refine ev_f (by simp; omega) ?_
    by_cases hp2 : p < 2
    · have : Ev (fun K => qjO K b p) (0, 1) := by
        refine qaS ?_
        simp only [qjO, qcP]
        exact ev_t (by simpa using hp2) (qa3 _)
      exact qaP this (ev_t (by simpa using hp2) (ev_t rfl (qa3 _)))
    · obtain ⟨n, g1, g2, g3, g4, g5⟩ := hensel_Exponent_ev hb (by omega) ⟨by omega, hp.2⟩
      refine qaP g1 (ev_f (by simp; omega) (ev_f rfl (ev_f (by simp; omega) (ev_f (by simp; omega) ?_))))
      have hv := qjV hb
      have hB : (4294967296 : Int) ^ b.Abs.length ≤ 4294967296 ^ 10 := qrV (by omega)
      have hva := qsT b hb
      have hbb : (mkI (ival b + ival b)).Abs.length ≤ 11 := mkI_len (by omega) (by omega)
      have hab := qnN (qjH (ival b + ival b)) (by omega)
      rw [qd5] at hab
      have h2 : ((ival b + ival b).natAbs : Int) = 2 * ((ival b).natAbs : Int) := by omega
      rw [h2] at hab
      have hd : (mkI (2 * ((ival b).natAbs : Int))).Abs.length ≤ 11 := mkI_len (by omega) (by omega)
      have small : ∀ k : Nat, k ≤ 330 → (mkI (p ^ k)).Abs.length ≤ 331 := by
        intro k hk
        have h1 : p ^ k ≤ 4294967296 ^ k := ipow_le (by omega) (by omega) k
        have h2 := qrV (show k ≤ 330 from hk)
        exact quP (Int.pow_nonneg (by omega)) (by have := bpow_lt (show 330 < 331 by decide); omega)
      have hcmp : ∀ k : Nat, k ≤ 330 → Ev (fun K => qiQ K (mkI (p ^ k)) (mkI (2 * ((ival b).natAbs : Int)))) (cmpI (p ^ k) (2 * ((ival b).natAbs : Int))) := by
        intro k hk
        have h3 := qk1 (qjH (p ^ k)) (qjH (2 * ((ival b).natAbs : Int))) (by have := small k hk; omega) (by omega)
        rw [qd5, qd5] at h3
        exact h3
      refine qaP (qnM hb hb (by omega) (by omega)) (qaP hab (qaP (qq2 hp (by omega)) (qaP (hcmp n g3) ?_)))
      have c1 := qfB (p ^ n) (2 * ((ival b).natAbs : Int))
      refine ev_t (by simp; omega) ?_
      by_cases hn : n = 1
      · exact ev_t (by simp; omega) (qa3 _)
      · refine ev_f (by simp; omega) ?_
        rw [qdN (by omega), show (n : Int) - 1 = ((n - 1 : Nat) : Int) by omega]
        refine qaP (qq2 hp (by omega)) (qaP (hcmp (n - 1) (by omega)) (qe5 (qa3 _) ?_))
        have c2 := qfB (p ^ (n - 1)) (2 * ((ival b).natAbs : Int))
        simp; omega
end Go.Am.X
namespace Go.Am.X
open Go.Proofs.Try (prog)
inductive qgF where
  | c0 (f : (List qaB)) (m : qaB)
  | c1 (m : qaB) (f : (List qaB)) (t9 : (List qaB)) (t10 : Int) (t11 : Int)
def qbU : Nat → qgF → Option Bool
  | 0, _ => none
  | K + 1, .c0 f m =>
    qbU K (.c1 m f f (f.length : Int) (0 : Int))
  | K + 1, .c1 m f t9 t10 t11 =>
    bif (decide (t11 < t10)) then
      (gi t9 t11).bind fun x2 =>
      (qfU K x2 m).bind fun x4 =>
      (qvS K x4.1 x2).bind fun x6 =>
      bif (!x6) then
        some false
      else
        qbU K (.c1 m f t9 t10 (wI6 (t11 + (1 : Int))))
    else
      (qrZ K f).bind fun x2 =>
      some (decide ((f.length : Int) = (wI6 (x2 + (1 : Int)))))
def qeS (K : Nat) (f : (List qaB)) (m : qaB) : Option Bool := qbU K (.c0 f m)
noncomputable def qh3 : Code := qbN prog 48
noncomputable def cylinderlaw12_reduced_pos : qgF → List Fr
  | .c0 .. => [.code qh3]
  | .c1 .. => [.code (.loop (atC qh3 [1,0,1,0,0])), .blk 0, .code (atC qh3 [1,1])]
def cylinderlaw12_reduced_st : qgF → St
  | .c0 f m => St.init [(tl 2 f qaA), (TV.agg (qaA m))]
  | .c1 m f t9 t10 t11 => ⟨[(0, vl 2 f qaA), (3, .c (C.ptr 3 0)), (9, vl 2 t9 qaA), (10, vi .i64 t10), (11, vi .i64 t11)], [(3, .var ((qaA m).map C.t))], []⟩
def qkJ (cx : Cx) (c : qgF) (r : Bool) : Prop := Wk prog cx (qcT prog 48 [[0]] (TV.c (T.bool r))) (cylinderlaw12_reduced_pos c) .normal (cylinderlaw12_reduced_st c)
abbrev qkK (K : Nat) : Prop := ∀ c r, qbU K c = some r → ∀ cx : Cx, cx.n = 32 → qkJ cx c r
theorem cylinderlaw12_reduced_c0 {K} (ih : qkK K) {cx} (hn : cx.n = 32) {f m} {r} (h : qbU (K + 1) (.c0 f m) = some r) : qkJ cx (.c0 f m) r := by
  rw [qbU] at h
  exact qaU (fuel := 56) [rgG [oo, oo], rgG [oo, opI (.ln (f.length : Int)), oo], .pre [.keep [0,3,9,10,11] [3]]] _ hn (by kernel_rfl) (aC (qaT f qaA) <| aN) (ih _ _ h cx hn)
theorem cylinderlaw12_reduced_c1 {K} (ih : qkK K) {cx} (hn : cx.n = 32) {m f t9 t10 t11} {r} (h : qbU (K + 1) (.c1 m f t9 t10 t11) = some r) : qkJ cx (.c1 m f t9 t10 t11) r := by
  rw [qbU] at h
  rcases qaK h with ⟨h1, h⟩ | ⟨h1, h⟩
  · skip
    obtain ⟨x2, h3, h⟩ := qaH h
    obtain ⟨x4, h5, h⟩ := qaH h
    obtain ⟨x6, h7, h⟩ := qaH h
    rcases qaK h with ⟨h8, h⟩ | ⟨h8, h⟩
    · skip
      have h := Option.some.inj h; subst h
      exact qaN (fuel := 116) [.go, rgG [oo], .br true, rgG [opI (.ix (qaA x2)), oo, oo, oo], rgG [oo, oo, opI (.call [[0,1], [0,1]] [(TV.agg (qaA x2)), (TV.agg (qaA m))] (TV.tup [(true, qaA x4.1), (false, [(T.int .i64 x4.2)])])), oo, oo, oo, oo, oo, oo], rgG [oo, oo, opI (.call [[0,1], [0,1]] [(TV.agg (qaA x4.1)), (TV.agg (qaA x2))] (TV.c (T.bool x6))), oo], .br true, rgG [oo]] _ hn (by kernel_rfl) (aC h1 <| aC (qa0 h3) <| aC (qbH qaA h3) <| aC (qfN h5) <| aC (qvR h7) <| aC h8 <| aN)
    · skip
      exact qaU (fuel := 108) [.go, rgG [oo], .br true, rgG [opI (.ix (qaA x2)), oo, oo, oo], rgG [oo, oo, opI (.call [[0,1], [0,1]] [(TV.agg (qaA x2)), (TV.agg (qaA m))] (TV.tup [(true, qaA x4.1), (false, [(T.int .i64 x4.2)])])), oo, oo, oo, oo, oo, oo], rgG [oo, oo, opI (.call [[0,1], [0,1]] [(TV.agg (qaA x4.1)), (TV.agg (qaA x2))] (TV.c (T.bool x6))), oo], .br false, rgG [oo, oo], .pre [.keep [0,3,9,10,11] [3]]] _ hn (by kernel_rfl) (aC h1 <| aC (qa0 h3) <| aC (qbH qaA h3) <| aC (qfN h5) <| aC (qvR h7) <| aC h8 <| aN) (ih _ _ h cx hn)
  · skip
    obtain ⟨x2, h3, h⟩ := qaH h
    have h := Option.some.inj h; subst h
    exact qaN (fuel := 78) [.go, rgG [oo], .br false, rgG [oo, opI (.ln (f.length : Int)), oo, opI (.call [[2]] [(tl 2 f qaA)] (ti .i64 x2)), oo, oo, oo]] _ hn (by kernel_rfl) (aC h1 <| aC (qaT f qaA) <| aC (unipoly_Degree_holds h3) <| aN)
theorem qiR : ∀ K : Nat, qkK K
  | 0, c, r, h => by rw [qbU] at h; cases h
  | K + 1, .c0 .., r, h => fun cx hn => cylinderlaw12_reduced_c0 (qiR K) hn h
  | K + 1, .c1 .., r, h => fun cx hn => cylinderlaw12_reduced_c1 (qiR K) hn h
theorem qa9 {K : Nat} {f : (List qaB)} {m : qaB} {r : Bool} (h : qeS K f m = some r) : qcX prog 48 [(tl 2 f qaA), (TV.agg (qaA m))] (TV.c (T.bool r)) :=
  qa2 [[0]] (by kernel_rfl) (by simp) fun cx hn => qiR K (.c0 f m) r h cx hn
end Go.Am.X
namespace Go.Am.X
open Go.Proofs.Try (prog)
inductive qfW where
  | c0 (f : (List qaB)) (g : (List qaB)) (m : qaB)
  | c1 (m : qaB) (t11 : (List qaB)) (t12 : Int) (t13 : Int)
def qbM : Nat → qfW → Option Bool
  | 0, _ => none
  | K + 1, .c0 f g m =>
    (qg3 K f g).bind fun x1 =>
    qbM K (.c1 m x1 (x1.length : Int) (0 : Int))
  | K + 1, .c1 m t11 t12 t13 =>
    bif (decide (t13 < t12)) then
      (gi t11 t13).bind fun x2 =>
      (qoJ K m x2).bind fun x4 =>
      bif (!x4) then
        some false
      else
        qbM K (.c1 m t11 t12 (wI6 (t13 + (1 : Int))))
    else
      some true
def qe3 (K : Nat) (f : (List qaB)) (g : (List qaB)) (m : qaB) : Option Bool := qbM K (.c0 f g m)
noncomputable def qhE : Code := qbN prog 49
noncomputable def qvE : qfW → List Fr
  | .c0 .. => [.code qhE]
  | .c1 .. => [.code (.loop (atC qhE [1,0,1,0,0])), .blk 0, .code (atC qhE [1,1])]
def qvF : qfW → St
  | .c0 f g m => St.init [(tl 2 f qaA), (tl 2 g qaA), (TV.agg (qaA m))]
  | .c1 m t11 t12 t13 => ⟨[(5, .c (C.ptr 5 0)), (11, vl 2 t11 qaA), (12, vi .i64 t12), (13, vi .i64 t13)], [(5, .var ((qaA m).map C.t))], []⟩
def qiS (cx : Cx) (c : qfW) (r : Bool) : Prop := Wk prog cx (qcT prog 49 [[0]] (TV.c (T.bool r))) (qvE c) .normal (qvF c)
abbrev qiT (K : Nat) : Prop := ∀ c r, qbM K c = some r → ∀ cx : Cx, cx.n = 22 → qiS cx c r
theorem qvH {K} (ih : qiT K) {cx} (hn : cx.n = 22) {f g m} {r} (h : qbM (K + 1) (.c0 f g m) = some r) : qiS cx (.c0 f g m) r := by
  rw [qbM] at h
  obtain ⟨x1, h2, h⟩ := qaH h
  exact qaU (fuel := 56) [rgG [oo, oo], rgG [oo, oo, opI (.call [[2], [2]] [(tl 2 f qaA), (tl 2 g qaA)] (tl 2 x1 qaA)), opI (.ln (x1.length : Int)), oo], .pre [.keep [5,11,12,13] [5]]] _ hn (by kernel_rfl) (aC (qeX h2) <| aC (qaT x1 qaA) <| aN) (ih _ _ h cx hn)
theorem qvG {K} (ih : qiT K) {cx} (hn : cx.n = 22) {m t11 t12 t13} {r} (h : qbM (K + 1) (.c1 m t11 t12 t13) = some r) : qiS cx (.c1 m t11 t12 t13) r := by
  rw [qbM] at h
  rcases qaK h with ⟨h1, h⟩ | ⟨h1, h⟩
  · skip
    obtain ⟨x2, h3, h⟩ := qaH h
    obtain ⟨x4, h5, h⟩ := qaH h
    rcases qaK h with ⟨h6, h⟩ | ⟨h6, h⟩
    · skip
      have h := Option.some.inj h; subst h
      exact qaN (fuel := 108) [.go, rgG [oo], .br true, rgG [opI (.ix (qaA x2)), oo, oo, oo], rgG [oo, oo, opI (.call [[0,1], [0,1]] [(TV.agg (qaA m)), (TV.agg (qaA x2))] (TV.c (T.bool x4))), oo], .br true, rgG [oo]] _ hn (by kernel_rfl) (aC h1 <| aC (qa0 h3) <| aC (qbH qaA h3) <| aC (qq0 h5) <| aC h6 <| aN)
    · skip
      exact qaU (fuel := 100) [.go, rgG [oo], .br true, rgG [opI (.ix (qaA x2)), oo, oo, oo], rgG [oo, oo, opI (.call [[0,1], [0,1]] [(TV.agg (qaA m)), (TV.agg (qaA x2))] (TV.c (T.bool x4))), oo], .br false, rgG [oo, oo], .pre [.keep [5,11,12,13] [5]]] _ hn (by kernel_rfl) (aC h1 <| aC (qa0 h3) <| aC (qbH qaA h3) <| aC (qq0 h5) <| aC h6 <| aN) (ih _ _ h cx hn)
  · skip
    have h := Option.some.inj h; subst h
    exact qaN (fuel := 78) [.go, rgG [oo], .br false, rgG [oo]] _ hn (by kernel_rfl) (aC h1 <| aN)
theorem qhX : ∀ K : Nat, qiT K
  | 0, c, r, h => by rw [qbM] at h; cases h
  | K + 1, .c0 .., r, h => fun cx hn => qvH (qhX K) hn h
  | K + 1, .c1 .., r, h => fun cx hn => qvG (qhX K) hn h
theorem qdL {K : Nat} {f : (List qaB)} {g : (List qaB)} {m : qaB} {r : Bool} (h : qe3 K f g m = some r) : qcX prog 49 [(tl 2 f qaA), (tl 2 g qaA), (TV.agg (qaA m))] (TV.c (T.bool r)) :=
  qa2 [[0]] (by kernel_rfl) (by simp) fun cx hn => qhX K (.c0 f g m) r h cx hn
end Go.Am.X
