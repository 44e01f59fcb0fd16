/- PointShrinks: the statement of the second form. -/
import Derived.Test.YteciehfkhmbfeaaGreatSb
import Derived.Test.YteciehfkhmbfeaaGreatSd
import Derived.Test.YteciehfkhmbfeaaGreatSe
import Derived.Test.YteciehfkhmbfeaaGreatSc
import Derived.OpenShut
import Derived.Deep.Slices
import Derived.Test.YteciehfkhmbfeaaGreatSa
import Derived.WalkKit
import Derived.ProofKit
import Derived.JoinedCond
import Derived.Test.YteciehfkhmbfeaaGreatRows
namespace Go.Am.X
open Go.Proofs.Tryz (prog)
inductive qgI where
 | c0 (p : (List qbB)) (x : qk7) (k : Int)
 | c1 (x : qk7) (part : qaJ) (p : (List qbB)) (i : Int)
 | c2 (x : qk7) (part : qaJ) (r63 : (List qaG)) (r75 : (List qaG)) (r83 : (List qaJ)) (p : (List qbB)) (i : Int)
def qa8 : Nat → qgI → Option Bool
 | 0, _ => none
 | K + 1, .c0 p x k =>
  (qiV K ).bind fun x1 =>
  bif (!x1) then
   (qiV K ).bind fun x4 =>
   some x4
  else
   (qm2 K p (6 : Int) (4 : Int)).bind fun x4 =>
   bif (!x4) then
    (qiV K ).bind fun x7 =>
    some x7
   else
    (qlQ K (1 : Int)).bind fun x7 =>
    (qlQ K (wI6 ((2 : Int) + (wI6 k)))).bind fun x9 =>
    (qpU K x7 x9).bind fun x11 =>
    qa8 K (.c1 x x11.1 p (0 : Int))
 | K + 1, .c1 x part p i =>
  bif (decide (i < (4 : Int))) then
   bif (decide (i = 0)) then
    (qcQ K x.e0.e0).bind fun x3 =>
    (qcQ K x.e0.e1).bind fun x5 =>
    (qd9 K (qaI.mk x3 x5)).bind fun x7 =>
    (qf1 K (qaI.mk x7.Lo x7.Hi)).bind fun x9 =>
    (qc8 K x9 part).bind fun x11 =>
    (qfC K x7.Lo x11).bind fun x14 =>
    (qgZ K x7.Hi x11).bind fun x16 =>
    (qh2 K x7.Lo x7.Hi).bind fun x19 =>
    qa8 K (.c2 x part ([(qaG.mk (qaD.mk (0 : Int) (qaE.mk false []) []) x7.Lo x7.Hi)] : List qaG) ([(qaG.mk (qaD.mk (0 : Int) (qaE.mk false []) []) x14 x16)] : List qaG) ([x19] : List qaJ) p (wI6 (i + (1 : Int))))
   else
    bif (decide (i = 1)) then
     (qcQ K x.e1.e0).bind fun x4 =>
     (qcQ K x.e1.e1).bind fun x6 =>
     (qd9 K (qaI.mk x4 x6)).bind fun x8 =>
     (qf1 K (qaI.mk x8.Lo x8.Hi)).bind fun x10 =>
     (qc8 K x10 part).bind fun x12 =>
     (qfC K x8.Lo x12).bind fun x15 =>
     (qgZ K x8.Hi x12).bind fun x17 =>
     (qh2 K x8.Lo x8.Hi).bind fun x20 =>
     qa8 K (.c2 x part ([(qaG.mk (qaD.mk (0 : Int) (qaE.mk false []) []) x8.Lo x8.Hi)] : List qaG) ([(qaG.mk (qaD.mk (0 : Int) (qaE.mk false []) []) x15 x17)] : List qaG) ([x20] : List qaJ) p (wI6 (i + (1 : Int))))
    else
     bif (decide (i = 2)) then
      (qcQ K x.e2.e0).bind fun x5 =>
      (qcQ K x.e2.e1).bind fun x7 =>
      (qd9 K (qaI.mk x5 x7)).bind fun x9 =>
      (qf1 K (qaI.mk x9.Lo x9.Hi)).bind fun x11 =>
      (qc8 K x11 part).bind fun x13 =>
      (qfC K x9.Lo x13).bind fun x16 =>
      (qgZ K x9.Hi x13).bind fun x18 =>
      (qh2 K x9.Lo x9.Hi).bind fun x21 =>
      qa8 K (.c2 x part ([(qaG.mk (qaD.mk (0 : Int) (qaE.mk false []) []) x9.Lo x9.Hi)] : List qaG) ([(qaG.mk (qaD.mk (0 : Int) (qaE.mk false []) []) x16 x18)] : List qaG) ([x21] : List qaJ) p (wI6 (i + (1 : Int))))
     else
      bif (decide (i = 3)) then
       (qcQ K x.e3.e0).bind fun x6 =>
       (qcQ K x.e3.e1).bind fun x8 =>
       (qd9 K (qaI.mk x6 x8)).bind fun x10 =>
       (qf1 K (qaI.mk x10.Lo x10.Hi)).bind fun x12 =>
       (qc8 K x12 part).bind fun x14 =>
       (qfC K x10.Lo x14).bind fun x17 =>
       (qgZ K x10.Hi x14).bind fun x19 =>
       (qh2 K x10.Lo x10.Hi).bind fun x22 =>
       qa8 K (.c2 x part ([(qaG.mk (qaD.mk (0 : Int) (qaE.mk false []) []) x10.Lo x10.Hi)] : List qaG) ([(qaG.mk (qaD.mk (0 : Int) (qaE.mk false []) []) x17 x19)] : List qaG) ([x22] : List qaJ) p (wI6 (i + (1 : Int))))
      else
       none
  else
   (qfQ K p).bind fun x2 =>
   (qnG K x2 []).bind fun x4 =>
   (qfQ K p).bind fun x6 =>
   (qnG K x6 []).bind fun x8 =>
   (qpD K (qaI.mk x8.1.Lo x8.1.Hi) (qaI.mk x4.1.Lo x4.1.Hi)).bind fun x10 =>
   bif x10 then
    (qfQ K p).bind fun x13 =>
    (quH K x13 []).bind fun x15 =>
    (qiU K (qaI.mk x8.1.Lo x8.1.Hi) x15).bind fun x17 =>
    some x17
   else
    some false
 | K + 1, .c2 x part r63 r75 r83 p i =>
  bif (decide (i < (4 : Int))) then
   bif (decide (i = 0)) then
    (qcQ K x.e0.e0).bind fun x3 =>
    (qcQ K x.e0.e1).bind fun x5 =>
    (qd9 K (qaI.mk x3 x5)).bind fun x7 =>
    (qf1 K (qaI.mk x7.Lo x7.Hi)).bind fun x9 =>
    (qc8 K x9 part).bind fun x11 =>
    gd ((r63 ++ ([(qaG.mk (qaD.mk (0 : Int) (qaE.mk false []) []) x7.Lo x7.Hi)] : List qaG)).length * 176 ≤ 140737488355328) <|
    (qfC K x7.Lo x11).bind fun x14 =>
    (qgZ K x7.Hi x11).bind fun x16 =>
    gd ((r75 ++ ([(qaG.mk (qaD.mk (0 : Int) (qaE.mk false []) []) x14 x16)] : List qaG)).length * 176 ≤ 140737488355328) <|
    (qh2 K x7.Lo x7.Hi).bind fun x19 =>
    gd ((r83 ++ ([x19] : List qaJ)).length * 56 ≤ 140737488355328) <|
    qa8 K (.c2 x part (r63 ++ ([(qaG.mk (qaD.mk (0 : Int) (qaE.mk false []) []) x7.Lo x7.Hi)] : List qaG)) (r75 ++ ([(qaG.mk (qaD.mk (0 : Int) (qaE.mk false []) []) x14 x16)] : List qaG)) (r83 ++ ([x19] : List qaJ)) p (wI6 (i + (1 : Int))))
   else
    bif (decide (i = 1)) then
     (qcQ K x.e1.e0).bind fun x4 =>
     (qcQ K x.e1.e1).bind fun x6 =>
     (qd9 K (qaI.mk x4 x6)).bind fun x8 =>
     (qf1 K (qaI.mk x8.Lo x8.Hi)).bind fun x10 =>
     (qc8 K x10 part).bind fun x12 =>
     gd ((r63 ++ ([(qaG.mk (qaD.mk (0 : Int) (qaE.mk false []) []) x8.Lo x8.Hi)] : List qaG)).length * 176 ≤ 140737488355328) <|
     (qfC K x8.Lo x12).bind fun x15 =>
     (qgZ K x8.Hi x12).bind fun x17 =>
     gd ((r75 ++ ([(qaG.mk (qaD.mk (0 : Int) (qaE.mk false []) []) x15 x17)] : List qaG)).length * 176 ≤ 140737488355328) <|
     (qh2 K x8.Lo x8.Hi).bind fun x20 =>
     gd ((r83 ++ ([x20] : List qaJ)).length * 56 ≤ 140737488355328) <|
     qa8 K (.c2 x part (r63 ++ ([(qaG.mk (qaD.mk (0 : Int) (qaE.mk false []) []) x8.Lo x8.Hi)] : List qaG)) (r75 ++ ([(qaG.mk (qaD.mk (0 : Int) (qaE.mk false []) []) x15 x17)] : List qaG)) (r83 ++ ([x20] : List qaJ)) p (wI6 (i + (1 : Int))))
    else
     bif (decide (i = 2)) then
      (qcQ K x.e2.e0).bind fun x5 =>
      (qcQ K x.e2.e1).bind fun x7 =>
      (qd9 K (qaI.mk x5 x7)).bind fun x9 =>
      (qf1 K (qaI.mk x9.Lo x9.Hi)).bind fun x11 =>
      (qc8 K x11 part).bind fun x13 =>
      gd ((r63 ++ ([(qaG.mk (qaD.mk (0 : Int) (qaE.mk false []) []) x9.Lo x9.Hi)] : List qaG)).length * 176 ≤ 140737488355328) <|
      (qfC K x9.Lo x13).bind fun x16 =>
      (qgZ K x9.Hi x13).bind fun x18 =>
      gd ((r75 ++ ([(qaG.mk (qaD.mk (0 : Int) (qaE.mk false []) []) x16 x18)] : List qaG)).length * 176 ≤ 140737488355328) <|
      (qh2 K x9.Lo x9.Hi).bind fun x21 =>
      gd ((r83 ++ ([x21] : List qaJ)).length * 56 ≤ 140737488355328) <|
      qa8 K (.c2 x part (r63 ++ ([(qaG.mk (qaD.mk (0 : Int) (qaE.mk false []) []) x9.Lo x9.Hi)] : List qaG)) (r75 ++ ([(qaG.mk (qaD.mk (0 : Int) (qaE.mk false []) []) x16 x18)] : List qaG)) (r83 ++ ([x21] : List qaJ)) p (wI6 (i + (1 : Int))))
     else
      bif (decide (i = 3)) then
       (qcQ K x.e3.e0).bind fun x6 =>
       (qcQ K x.e3.e1).bind fun x8 =>
       (qd9 K (qaI.mk x6 x8)).bind fun x10 =>
       (qf1 K (qaI.mk x10.Lo x10.Hi)).bind fun x12 =>
       (qc8 K x12 part).bind fun x14 =>
       gd ((r63 ++ ([(qaG.mk (qaD.mk (0 : Int) (qaE.mk false []) []) x10.Lo x10.Hi)] : List qaG)).length * 176 ≤ 140737488355328) <|
       (qfC K x10.Lo x14).bind fun x17 =>
       (qgZ K x10.Hi x14).bind fun x19 =>
       gd ((r75 ++ ([(qaG.mk (qaD.mk (0 : Int) (qaE.mk false []) []) x17 x19)] : List qaG)).length * 176 ≤ 140737488355328) <|
       (qh2 K x10.Lo x10.Hi).bind fun x22 =>
       gd ((r83 ++ ([x22] : List qaJ)).length * 56 ≤ 140737488355328) <|
       qa8 K (.c2 x part (r63 ++ ([(qaG.mk (qaD.mk (0 : Int) (qaE.mk false []) []) x10.Lo x10.Hi)] : List qaG)) (r75 ++ ([(qaG.mk (qaD.mk (0 : Int) (qaE.mk false []) []) x17 x19)] : List qaG)) (r83 ++ ([x22] : List qaJ)) p (wI6 (i + (1 : Int))))
      else
       none
  else
   (qfQ K p).bind fun x2 =>
   (qnG K x2 r63).bind fun x4 =>
   (qfQ K p).bind fun x6 =>
   (qnG K x6 r75).bind fun x8 =>
   (qpD K (qaI.mk x8.1.Lo x8.1.Hi) (qaI.mk x4.1.Lo x4.1.Hi)).bind fun x10 =>
   bif x10 then
    (qfQ K p).bind fun x13 =>
    (quH K x13 r83).bind fun x15 =>
    (qiU K (qaI.mk x8.1.Lo x8.1.Hi) x15).bind fun x17 =>
    some x17
   else
    some false
def qlE (K : Nat) (p : (List qbB)) (x : qk7) (k : Int) : Option Bool := qa8 K (.c0 p x k)
noncomputable def qfA : Code := qcS prog 3
noncomputable def quT : qgI → List Fr
 | .c0 .. => [.code qfA]
 | .c1 .. => [.code (.loop (atC qfA [1,1,1,1,1,0,1,0,0])), .blk 0, .code (atC qfA [1,1,1,1,1,1])]
 | .c2 .. => [.code (.loop (atC qfA [1,1,1,1,1,0,1,0,0])), .blk 0, .code (atC qfA [1,1,1,1,1,1])]
def qvA : qgI → St
 | .c0 p x k => St.init [(tl 5 p qaQ), (TV.agg (qmA x)), (ti .u8 k)]
 | .c1 x part p i => ⟨[(0, vl 5 p qaQ), (4, .c (C.ptr 4 0)), (7, .c (C.nil)), (8, .c (C.nil)), (9, .c (C.nil)), (10, .c (C.ptr 10 0)), (12, vi .i64 i)], [(4, .var ((qmA x).map C.t)), (10, .var ((qaB part).map C.t))], []⟩
 | .c2 x part r63 r75 r83 p i => ⟨[(0, vl 5 p qaQ), (4, .c (C.ptr 4 0)), (7, .c (C.row 63 0 r63.length)), (8, .c (C.row 75 0 r75.length)), (9, .c (C.row 83 0 r83.length)), (10, .c (C.ptr 10 0)), (12, vi .i64 i)], [(4, .var ((qmA x).map C.t)), (10, .var ((qaB part).map C.t)), (63, .row 52 10 (r63.map qaL) 0), (75, .row 52 10 (r75.map qaL) 0), (83, .row 37 3 (r83.map qaB) 0)], []⟩
def qg7 (cx : Cx) (c : qgI) (r : Bool) : Prop := Wk prog cx (qd8 prog 3 [[0]] (TV.c (T.bool r))) (quT c) .normal (qvA c)
abbrev qg8 (K : Nat) : Prop := ∀ c r, qa8 K c = some r → ∀ cx : Cx, cx.n = 109 → qg7 cx c r
theorem qvD {K} (ih : qg8 K) {cx} (hn : cx.n = 109) {p x k} {r} (h : qa8 (K + 1) (.c0 p x k) = some r) : qg7 cx (.c0 p x k) r := by
 rw [qa8] at h
 obtain ⟨x1, h2, h⟩ := qaU h
 rcases qa0 h with ⟨h3, h⟩ | ⟨h3, h⟩
 ·obtain ⟨x4, h5, h⟩ := qaU h
  have h := oinj h; subst h
  exact wkR [rg2, rgG [opI (.call [] [] (TV.c (T.bool x1))), oo, oo, .sb 21 true, oo, oo, oo, oo], bTr, rgG [opI (.call [] [] (TV.c (T.bool x4))), oo]] hn (aC (qgP h2) <| aC h3 <| aC rt <| aC (qgP h5) <| aN)
 ·obtain ⟨x4, h5, h⟩ := qaU h
  rcases qa0 h with ⟨h6, h⟩ | ⟨h6, h⟩
  ·obtain ⟨x7, h8, h⟩ := qaU h
   have h := oinj h; subst h
   exact wkR [rg2, rgG [opI (.call [] [] (TV.c (T.bool x1))), oo, oo, .sb 21 false, oo, opI (.call [[5], [0], [0]] [(tl 5 p qaQ), (TV.c (T.int .i64 (6 : Int))), (TV.c (T.int .u8 (4 : Int)))] (TV.c (T.bool x4))), oo, oo], bTr, rgG [opI (.call [] [] (TV.c (T.bool x7))), oo]] hn (aC (qgP h2) <| aC h3 <| aC (qtC h5) <| aC h6 <| aC (qgP h8) <| aN)
  ·obtain ⟨x7, h8, h⟩ := qaU h
   obtain ⟨x9, h10, h⟩ := qaU h
   obtain ⟨x11, h12, h⟩ := qaU h
   exact wkG [rg2, rgG [opI (.call [] [] (TV.c (T.bool x1))), oo, oo, .sb 21 false, oo, opI (.call [[5], [0], [0]] [(tl 5 p qaQ), (TV.c (T.int .i64 (6 : Int))), (TV.c (T.int .u8 (4 : Int)))] (TV.c (T.bool x4))), oo, oo], bFa, rg2, rg1, rgG [opI (.call [[0]] [(TV.c (T.int .i64 (1 : Int)))] (TV.agg (qaK x7))), oo, oo, oo, opI (.call [[0]] [(TV.c (T.int .i64 (wI6 ((2 : Int) + (wI6 k)))))] (TV.agg (qaK x9))), opI (.call [[0,1], [0,1]] [(TV.agg (qaK x7)), (TV.agg (qaK x9))] (TV.tup [(true, qaB x11.1), (false, [(T.int .i64 x11.2)])])), oo, oo, oo, oo, oo, oo], rg1, .pre [.keep [0,4,7,8,9,10,12] [4,10]]] hn (aC (qgP h2) <| aC h3 <| aC (qtC h5) <| aC h6 <| aC (qgR h8) <| aC (qgR h10) <| aC (qv8 h12) <| aN) (ih _ _ h cx hn)
theorem qvC {K} (ih : qg8 K) {cx} (hn : cx.n = 109) {x part p i} {r} (h : qa8 (K + 1) (.c1 x part p i) = some r) : qg7 cx (.c1 x part p i) r := by
 rw [qa8] at h
 rcases qa0 h with ⟨h1, h⟩ | ⟨h1, h⟩
 ·rcases qa0 h with ⟨h2, h⟩ | ⟨h2, h⟩
  ·obtain ⟨x3, h4, h⟩ := qaU h
   obtain ⟨x5, h6, h⟩ := qaU h
   obtain ⟨x7, h8, h⟩ := qaU h
   obtain ⟨x9, h10, h⟩ := qaU h
   obtain ⟨x11, h12, h⟩ := qaU h
   obtain ⟨x14, h15, h⟩ := qaU h
   obtain ⟨x16, h17, h⟩ := qaU h
   obtain ⟨x19, h20, h⟩ := qaU h
   exact wkG [.go, rg2, bTr, .draw [.p, (.ia 0), .p, .p, (.call [[0,0]] [(TV.agg (qiF x.e0.e0))] (TV.agg (qaB x3))), .p, (.ia 0), .p, .p, (.call [[0,0]] [(TV.agg (qiF x.e0.e1))] (TV.agg (qaB x5))), .p, (.call [[0,1,1,0,1,1]] [(TV.agg (qaN (qaI.mk x3 x5)))] (TV.agg (qaN x7))), .p] [.op .p], .draw [.p, (.call [[0,1,1,0,1,1]] [(TV.agg (qaN (qaI.mk x7.Lo x7.Hi)))] (TV.agg (qaB x9))), .p, (.call [[0,1,1], [0,1,1]] [(TV.agg (qaB x9)), (TV.agg (qaB part))] (TV.agg (qaB x11))), .p] [.op .p], rgG [oo, oo, oo, oo, oo, oo, opI (.lit (([(qaG.mk (qaD.mk (0 : Int) (qaE.mk false []) []) x7.Lo x7.Hi)] : List qaG).map qaL)), opI (.appN (([(qaG.mk (qaD.mk (0 : Int) (qaE.mk false []) []) x7.Lo x7.Hi)] : List qaG).map qaL)), oo], .draw [.p, .p, .p, .p, (.call [[0,1,1], [0,1,1]] [(TV.agg (qaB x7.Lo)), (TV.agg (qaB x11))] (TV.agg (qaB x14))), .p, .p, .p, (.call [[0,1,1], [0,1,1]] [(TV.agg (qaB x7.Hi)), (TV.agg (qaB x11))] (TV.agg (qaB x16))), .p, (.litT (([(qaG.mk (qaD.mk (0 : Int) (qaE.mk false []) []) x14 x16)] : List qaG).map qaL))] [opI (.appN (([(qaG.mk (qaD.mk (0 : Int) (qaE.mk false []) []) x14 x16)] : List qaG).map qaL)), .op .p], rgG [oo, oo, oo, oo, oo, opI (.call [[0,1,1], [0,1,1]] [(TV.agg (qaB x7.Lo)), (TV.agg (qaB x7.Hi))] (TV.agg (qaB x19))), opI (.lit (([x19] : List qaJ).map qaB)), opI (.appN (([x19] : List qaJ).map qaB)), oo], rg3, .pre [.rl 7 0 ([(qaG.mk (qaD.mk (0 : Int) (qaE.mk false []) []) x7.Lo x7.Hi)] : List qaG).length, .rl 8 0 ([(qaG.mk (qaD.mk (0 : Int) (qaE.mk false []) []) x14 x16)] : List qaG).length, .rl 9 0 ([x19] : List qaJ).length, .keep [0,4,7,8,9,10,12] [4,10,63,75,83]]] hn (aC h1 <| aC (of_decide_eq_true h2 : i = ((0 : Nat) : Int)) <| aC (qcI h4) <| aC (of_decide_eq_true h2 : i = ((0 : Nat) : Int)) <| aC (qcI h6) <| aC (qdM h8) <| aC (qfJ h10) <| aC (qbY h12) <| aC (by kernel_rfl : [(T.int .i64 (0 : Int)), (T.bool false), (T.sl 1 []), (T.sl 4 []), (T.bool x7.Lo.Num.Neg), (T.sl 1 (x7.Lo.Num.Abs.map qaF)), (T.sl 1 (x7.Lo.Den.map qaF)), (T.bool x7.Hi.Num.Neg), (T.sl 1 (x7.Hi.Num.Abs.map qaF)), (T.sl 1 (x7.Hi.Den.map qaF))] = (([(qaG.mk (qaD.mk (0 : Int) (qaE.mk false []) []) x7.Lo x7.Hi)] : List qaG).map qaL).flatten) <| aC (qeH _ _ _ (by simp) : ((([(qaG.mk (qaD.mk (0 : Int) (qaE.mk false []) []) x7.Lo x7.Hi)] : List qaG).map qaL).drop 0).take 1 = ([(qaG.mk (qaD.mk (0 : Int) (qaE.mk false []) []) x7.Lo x7.Hi)] : List qaG).map qaL) <| aC (by simp : 0 < (([(qaG.mk (qaD.mk (0 : Int) (qaE.mk false []) []) x7.Lo x7.Hi)] : List qaG).map qaL).length) <| aC (by simp : (([(qaG.mk (qaD.mk (0 : Int) (qaE.mk false []) []) x7.Lo x7.Hi)] : List qaG).map qaL).length * 176 ≤ 140737488355328) <| aC (by simp [maxLen] : (([(qaG.mk (qaD.mk (0 : Int) (qaE.mk false []) []) x7.Lo x7.Hi)] : List qaG).map qaL).length ≤ maxLen) <| aC (qeC h15) <| aC (qfM h17) <| aC (by kernel_rfl : [(T.int .i64 (0 : Int)), (T.bool false), (T.sl 1 []), (T.sl 4 []), (T.bool x14.Num.Neg), (T.sl 1 (x14.Num.Abs.map qaF)), (T.sl 1 (x14.Den.map qaF)), (T.bool x16.Num.Neg), (T.sl 1 (x16.Num.Abs.map qaF)), (T.sl 1 (x16.Den.map qaF))] = (([(qaG.mk (qaD.mk (0 : Int) (qaE.mk false []) []) x14 x16)] : List qaG).map qaL).flatten) <| aC (rfl : ([(qaG.mk (qaD.mk (0 : Int) (qaE.mk false []) []) x14 x16)] : List qaG).map qaL = ([(qaG.mk (qaD.mk (0 : Int) (qaE.mk false []) []) x14 x16)] : List qaG).map qaL) <| aC (by simp : 0 < (([(qaG.mk (qaD.mk (0 : Int) (qaE.mk false []) []) x14 x16)] : List qaG).map qaL).length) <| aC (by simp : (([(qaG.mk (qaD.mk (0 : Int) (qaE.mk false []) []) x14 x16)] : List qaG).map qaL).length * 176 ≤ 140737488355328) <| aC (by simp [maxLen] : (([(qaG.mk (qaD.mk (0 : Int) (qaE.mk false []) []) x14 x16)] : List qaG).map qaL).length ≤ maxLen) <| aC (qgG h20) <| aC (by kernel_rfl : [(T.bool x19.Num.Neg), (T.sl 1 (x19.Num.Abs.map qaF)), (T.sl 1 (x19.Den.map qaF))] = (([x19] : List qaJ).map qaB).flatten) <| aC (qeH _ _ _ (by simp) : ((([x19] : List qaJ).map qaB).drop 0).take 1 = ([x19] : List qaJ).map qaB) <| aC (by simp : 0 < (([x19] : List qaJ).map qaB).length) <| aC (by simp : (([x19] : List qaJ).map qaB).length * 56 ≤ 140737488355328) <| aC (by simp [maxLen] : (([x19] : List qaJ).map qaB).length ≤ maxLen) <| aC r0 <| aC (by simp : (([(qaG.mk (qaD.mk (0 : Int) (qaE.mk false []) []) x7.Lo x7.Hi)] : List qaG).map qaL).length = ([(qaG.mk (qaD.mk (0 : Int) (qaE.mk false []) []) x7.Lo x7.Hi)] : List qaG).length) <| aC r0 <| aC (by simp : (([(qaG.mk (qaD.mk (0 : Int) (qaE.mk false []) []) x14 x16)] : List qaG).map qaL).length = ([(qaG.mk (qaD.mk (0 : Int) (qaE.mk false []) []) x14 x16)] : List qaG).length) <| aC r0 <| aC (by simp : (([x19] : List qaJ).map qaB).length = ([x19] : List qaJ).length) <| aN) (ih _ _ h cx hn)
  ·rcases qa0 h with ⟨h3, h⟩ | ⟨h3, h⟩
   ·obtain ⟨x4, h5, h⟩ := qaU h
    obtain ⟨x6, h7, h⟩ := qaU h
    obtain ⟨x8, h9, h⟩ := qaU h
    obtain ⟨x10, h11, h⟩ := qaU h
    obtain ⟨x12, h13, h⟩ := qaU h
    obtain ⟨x15, h16, h⟩ := qaU h
    obtain ⟨x17, h18, h⟩ := qaU h
    obtain ⟨x20, h21, h⟩ := qaU h
    exact wkG [.go, rg2, bTr, .draw [.p, (.ia 1), .p, .p, (.call [[0,0]] [(TV.agg (qiF x.e1.e0))] (TV.agg (qaB x4))), .p, (.ia 1), .p, .p, (.call [[0,0]] [(TV.agg (qiF x.e1.e1))] (TV.agg (qaB x6))), .p, (.call [[0,1,1,0,1,1]] [(TV.agg (qaN (qaI.mk x4 x6)))] (TV.agg (qaN x8))), .p] [.op .p], .draw [.p, (.call [[0,1,1,0,1,1]] [(TV.agg (qaN (qaI.mk x8.Lo x8.Hi)))] (TV.agg (qaB x10))), .p, (.call [[0,1,1], [0,1,1]] [(TV.agg (qaB x10)), (TV.agg (qaB part))] (TV.agg (qaB x12))), .p] [.op .p], rgG [oo, oo, oo, oo, oo, oo, opI (.lit (([(qaG.mk (qaD.mk (0 : Int) (qaE.mk false []) []) x8.Lo x8.Hi)] : List qaG).map qaL)), opI (.appN (([(qaG.mk (qaD.mk (0 : Int) (qaE.mk false []) []) x8.Lo x8.Hi)] : List qaG).map qaL)), oo], .draw [.p, .p, .p, .p, (.call [[0,1,1], [0,1,1]] [(TV.agg (qaB x8.Lo)), (TV.agg (qaB x12))] (TV.agg (qaB x15))), .p, .p, .p, (.call [[0,1,1], [0,1,1]] [(TV.agg (qaB x8.Hi)), (TV.agg (qaB x12))] (TV.agg (qaB x17))), .p, (.litT (([(qaG.mk (qaD.mk (0 : Int) (qaE.mk false []) []) x15 x17)] : List qaG).map qaL))] [opI (.appN (([(qaG.mk (qaD.mk (0 : Int) (qaE.mk false []) []) x15 x17)] : List qaG).map qaL)), .op .p], rgG [oo, oo, oo, oo, oo, opI (.call [[0,1,1], [0,1,1]] [(TV.agg (qaB x8.Lo)), (TV.agg (qaB x8.Hi))] (TV.agg (qaB x20))), opI (.lit (([x20] : List qaJ).map qaB)), opI (.appN (([x20] : List qaJ).map qaB)), oo], rg3, .pre [.rl 7 0 ([(qaG.mk (qaD.mk (0 : Int) (qaE.mk false []) []) x8.Lo x8.Hi)] : List qaG).length, .rl 8 0 ([(qaG.mk (qaD.mk (0 : Int) (qaE.mk false []) []) x15 x17)] : List qaG).length, .rl 9 0 ([x20] : List qaJ).length, .keep [0,4,7,8,9,10,12] [4,10,63,75,83]]] hn (aC h1 <| aC (of_decide_eq_true h3 : i = ((1 : Nat) : Int)) <| aC (qcI h5) <| aC (of_decide_eq_true h3 : i = ((1 : Nat) : Int)) <| aC (qcI h7) <| aC (qdM h9) <| aC (qfJ h11) <| aC (qbY h13) <| aC (by kernel_rfl : [(T.int .i64 (0 : Int)), (T.bool false), (T.sl 1 []), (T.sl 4 []), (T.bool x8.Lo.Num.Neg), (T.sl 1 (x8.Lo.Num.Abs.map qaF)), (T.sl 1 (x8.Lo.Den.map qaF)), (T.bool x8.Hi.Num.Neg), (T.sl 1 (x8.Hi.Num.Abs.map qaF)), (T.sl 1 (x8.Hi.Den.map qaF))] = (([(qaG.mk (qaD.mk (0 : Int) (qaE.mk false []) []) x8.Lo x8.Hi)] : List qaG).map qaL).flatten) <| aC (qeH _ _ _ (by simp) : ((([(qaG.mk (qaD.mk (0 : Int) (qaE.mk false []) []) x8.Lo x8.Hi)] : List qaG).map qaL).drop 0).take 1 = ([(qaG.mk (qaD.mk (0 : Int) (qaE.mk false []) []) x8.Lo x8.Hi)] : List qaG).map qaL) <| aC (by simp : 0 < (([(qaG.mk (qaD.mk (0 : Int) (qaE.mk false []) []) x8.Lo x8.Hi)] : List qaG).map qaL).length) <| aC (by simp : (([(qaG.mk (qaD.mk (0 : Int) (qaE.mk false []) []) x8.Lo x8.Hi)] : List qaG).map qaL).length * 176 ≤ 140737488355328) <| aC (by simp [maxLen] : (([(qaG.mk (qaD.mk (0 : Int) (qaE.mk false []) []) x8.Lo x8.Hi)] : List qaG).map qaL).length ≤ maxLen) <| aC (qeC h16) <| aC (qfM h18) <| aC (by kernel_rfl : [(T.int .i64 (0 : Int)), (T.bool false), (T.sl 1 []), (T.sl 4 []), (T.bool x15.Num.Neg), (T.sl 1 (x15.Num.Abs.map qaF)), (T.sl 1 (x15.Den.map qaF)), (T.bool x17.Num.Neg), (T.sl 1 (x17.Num.Abs.map qaF)), (T.sl 1 (x17.Den.map qaF))] = (([(qaG.mk (qaD.mk (0 : Int) (qaE.mk false []) []) x15 x17)] : List qaG).map qaL).flatten) <| aC (rfl : ([(qaG.mk (qaD.mk (0 : Int) (qaE.mk false []) []) x15 x17)] : List qaG).map qaL = ([(qaG.mk (qaD.mk (0 : Int) (qaE.mk false []) []) x15 x17)] : List qaG).map qaL) <| aC (by simp : 0 < (([(qaG.mk (qaD.mk (0 : Int) (qaE.mk false []) []) x15 x17)] : List qaG).map qaL).length) <| aC (by simp : (([(qaG.mk (qaD.mk (0 : Int) (qaE.mk false []) []) x15 x17)] : List qaG).map qaL).length * 176 ≤ 140737488355328) <| aC (by simp [maxLen] : (([(qaG.mk (qaD.mk (0 : Int) (qaE.mk false []) []) x15 x17)] : List qaG).map qaL).length ≤ maxLen) <| aC (qgG h21) <| aC (by kernel_rfl : [(T.bool x20.Num.Neg), (T.sl 1 (x20.Num.Abs.map qaF)), (T.sl 1 (x20.Den.map qaF))] = (([x20] : List qaJ).map qaB).flatten) <| aC (qeH _ _ _ (by simp) : ((([x20] : List qaJ).map qaB).drop 0).take 1 = ([x20] : List qaJ).map qaB) <| aC (by simp : 0 < (([x20] : List qaJ).map qaB).length) <| aC (by simp : (([x20] : List qaJ).map qaB).length * 56 ≤ 140737488355328) <| aC (by simp [maxLen] : (([x20] : List qaJ).map qaB).length ≤ maxLen) <| aC r0 <| aC (by simp : (([(qaG.mk (qaD.mk (0 : Int) (qaE.mk false []) []) x8.Lo x8.Hi)] : List qaG).map qaL).length = ([(qaG.mk (qaD.mk (0 : Int) (qaE.mk false []) []) x8.Lo x8.Hi)] : List qaG).length) <| aC r0 <| aC (by simp : (([(qaG.mk (qaD.mk (0 : Int) (qaE.mk false []) []) x15 x17)] : List qaG).map qaL).length = ([(qaG.mk (qaD.mk (0 : Int) (qaE.mk false []) []) x15 x17)] : List qaG).length) <| aC r0 <| aC (by simp : (([x20] : List qaJ).map qaB).length = ([x20] : List qaJ).length) <| aN) (ih _ _ h cx hn)
   ·rcases qa0 h with ⟨h4, h⟩ | ⟨h4, h⟩
    ·obtain ⟨x5, h6, h⟩ := qaU h
     obtain ⟨x7, h8, h⟩ := qaU h
     obtain ⟨x9, h10, h⟩ := qaU h
     obtain ⟨x11, h12, h⟩ := qaU h
     obtain ⟨x13, h14, h⟩ := qaU h
     obtain ⟨x16, h17, h⟩ := qaU h
     obtain ⟨x18, h19, h⟩ := qaU h
     obtain ⟨x21, h22, h⟩ := qaU h
     exact wkG [.go, rg2, bTr, .draw [.p, (.ia 2), .p, .p, (.call [[0,0]] [(TV.agg (qiF x.e2.e0))] (TV.agg (qaB x5))), .p, (.ia 2), .p, .p, (.call [[0,0]] [(TV.agg (qiF x.e2.e1))] (TV.agg (qaB x7))), .p, (.call [[0,1,1,0,1,1]] [(TV.agg (qaN (qaI.mk x5 x7)))] (TV.agg (qaN x9))), .p] [.op .p], .draw [.p, (.call [[0,1,1,0,1,1]] [(TV.agg (qaN (qaI.mk x9.Lo x9.Hi)))] (TV.agg (qaB x11))), .p, (.call [[0,1,1], [0,1,1]] [(TV.agg (qaB x11)), (TV.agg (qaB part))] (TV.agg (qaB x13))), .p] [.op .p], rgG [oo, oo, oo, oo, oo, oo, opI (.lit (([(qaG.mk (qaD.mk (0 : Int) (qaE.mk false []) []) x9.Lo x9.Hi)] : List qaG).map qaL)), opI (.appN (([(qaG.mk (qaD.mk (0 : Int) (qaE.mk false []) []) x9.Lo x9.Hi)] : List qaG).map qaL)), oo], .draw [.p, .p, .p, .p, (.call [[0,1,1], [0,1,1]] [(TV.agg (qaB x9.Lo)), (TV.agg (qaB x13))] (TV.agg (qaB x16))), .p, .p, .p, (.call [[0,1,1], [0,1,1]] [(TV.agg (qaB x9.Hi)), (TV.agg (qaB x13))] (TV.agg (qaB x18))), .p, (.litT (([(qaG.mk (qaD.mk (0 : Int) (qaE.mk false []) []) x16 x18)] : List qaG).map qaL))] [opI (.appN (([(qaG.mk (qaD.mk (0 : Int) (qaE.mk false []) []) x16 x18)] : List qaG).map qaL)), .op .p], rgG [oo, oo, oo, oo, oo, opI (.call [[0,1,1], [0,1,1]] [(TV.agg (qaB x9.Lo)), (TV.agg (qaB x9.Hi))] (TV.agg (qaB x21))), opI (.lit (([x21] : List qaJ).map qaB)), opI (.appN (([x21] : List qaJ).map qaB)), oo], rg3, .pre [.rl 7 0 ([(qaG.mk (qaD.mk (0 : Int) (qaE.mk false []) []) x9.Lo x9.Hi)] : List qaG).length, .rl 8 0 ([(qaG.mk (qaD.mk (0 : Int) (qaE.mk false []) []) x16 x18)] : List qaG).length, .rl 9 0 ([x21] : List qaJ).length, .keep [0,4,7,8,9,10,12] [4,10,63,75,83]]] hn (aC h1 <| aC (of_decide_eq_true h4 : i = ((2 : Nat) : Int)) <| aC (qcI h6) <| aC (of_decide_eq_true h4 : i = ((2 : Nat) : Int)) <| aC (qcI h8) <| aC (qdM h10) <| aC (qfJ h12) <| aC (qbY h14) <| aC (by kernel_rfl : [(T.int .i64 (0 : Int)), (T.bool false), (T.sl 1 []), (T.sl 4 []), (T.bool x9.Lo.Num.Neg), (T.sl 1 (x9.Lo.Num.Abs.map qaF)), (T.sl 1 (x9.Lo.Den.map qaF)), (T.bool x9.Hi.Num.Neg), (T.sl 1 (x9.Hi.Num.Abs.map qaF)), (T.sl 1 (x9.Hi.Den.map qaF))] = (([(qaG.mk (qaD.mk (0 : Int) (qaE.mk false []) []) x9.Lo x9.Hi)] : List qaG).map qaL).flatten) <| aC (qeH _ _ _ (by simp) : ((([(qaG.mk (qaD.mk (0 : Int) (qaE.mk false []) []) x9.Lo x9.Hi)] : List qaG).map qaL).drop 0).take 1 = ([(qaG.mk (qaD.mk (0 : Int) (qaE.mk false []) []) x9.Lo x9.Hi)] : List qaG).map qaL) <| aC (by simp : 0 < (([(qaG.mk (qaD.mk (0 : Int) (qaE.mk false []) []) x9.Lo x9.Hi)] : List qaG).map qaL).length) <| aC (by simp : (([(qaG.mk (qaD.mk (0 : Int) (qaE.mk false []) []) x9.Lo x9.Hi)] : List qaG).map qaL).length * 176 ≤ 140737488355328) <| aC (by simp [maxLen] : (([(qaG.mk (qaD.mk (0 : Int) (qaE.mk false []) []) x9.Lo x9.Hi)] : List qaG).map qaL).length ≤ maxLen) <| aC (qeC h17) <| aC (qfM h19) <| aC (by kernel_rfl : [(T.int .i64 (0 : Int)), (T.bool false), (T.sl 1 []), (T.sl 4 []), (T.bool x16.Num.Neg), (T.sl 1 (x16.Num.Abs.map qaF)), (T.sl 1 (x16.Den.map qaF)), (T.bool x18.Num.Neg), (T.sl 1 (x18.Num.Abs.map qaF)), (T.sl 1 (x18.Den.map qaF))] = (([(qaG.mk (qaD.mk (0 : Int) (qaE.mk false []) []) x16 x18)] : List qaG).map qaL).flatten) <| aC (rfl : ([(qaG.mk (qaD.mk (0 : Int) (qaE.mk false []) []) x16 x18)] : List qaG).map qaL = ([(qaG.mk (qaD.mk (0 : Int) (qaE.mk false []) []) x16 x18)] : List qaG).map qaL) <| aC (by simp : 0 < (([(qaG.mk (qaD.mk (0 : Int) (qaE.mk false []) []) x16 x18)] : List qaG).map qaL).length) <| aC (by simp : (([(qaG.mk (qaD.mk (0 : Int) (qaE.mk false []) []) x16 x18)] : List qaG).map qaL).length * 176 ≤ 140737488355328) <| aC (by simp [maxLen] : (([(qaG.mk (qaD.mk (0 : Int) (qaE.mk false []) []) x16 x18)] : List qaG).map qaL).length ≤ maxLen) <| aC (qgG h22) <| aC (by kernel_rfl : [(T.bool x21.Num.Neg), (T.sl 1 (x21.Num.Abs.map qaF)), (T.sl 1 (x21.Den.map qaF))] = (([x21] : List qaJ).map qaB).flatten) <| aC (qeH _ _ _ (by simp) : ((([x21] : List qaJ).map qaB).drop 0).take 1 = ([x21] : List qaJ).map qaB) <| aC (by simp : 0 < (([x21] : List qaJ).map qaB).length) <| aC (by simp : (([x21] : List qaJ).map qaB).length * 56 ≤ 140737488355328) <| aC (by simp [maxLen] : (([x21] : List qaJ).map qaB).length ≤ maxLen) <| aC r0 <| aC (by simp : (([(qaG.mk (qaD.mk (0 : Int) (qaE.mk false []) []) x9.Lo x9.Hi)] : List qaG).map qaL).length = ([(qaG.mk (qaD.mk (0 : Int) (qaE.mk false []) []) x9.Lo x9.Hi)] : List qaG).length) <| aC r0 <| aC (by simp : (([(qaG.mk (qaD.mk (0 : Int) (qaE.mk false []) []) x16 x18)] : List qaG).map qaL).length = ([(qaG.mk (qaD.mk (0 : Int) (qaE.mk false []) []) x16 x18)] : List qaG).length) <| aC r0 <| aC (by simp : (([x21] : List qaJ).map qaB).length = ([x21] : List qaJ).length) <| aN) (ih _ _ h cx hn)
    ·rcases qa0 h with ⟨h5, h⟩ | ⟨h5, h⟩
     ·obtain ⟨x6, h7, h⟩ := qaU h
      obtain ⟨x8, h9, h⟩ := qaU h
      obtain ⟨x10, h11, h⟩ := qaU h
      obtain ⟨x12, h13, h⟩ := qaU h
      obtain ⟨x14, h15, h⟩ := qaU h
      obtain ⟨x17, h18, h⟩ := qaU h
      obtain ⟨x19, h20, h⟩ := qaU h
      obtain ⟨x22, h23, h⟩ := qaU h
      exact wkG [.go, rg2, bTr, .draw [.p, (.ia 3), .p, .p, (.call [[0,0]] [(TV.agg (qiF x.e3.e0))] (TV.agg (qaB x6))), .p, (.ia 3), .p, .p, (.call [[0,0]] [(TV.agg (qiF x.e3.e1))] (TV.agg (qaB x8))), .p, (.call [[0,1,1,0,1,1]] [(TV.agg (qaN (qaI.mk x6 x8)))] (TV.agg (qaN x10))), .p] [.op .p], .draw [.p, (.call [[0,1,1,0,1,1]] [(TV.agg (qaN (qaI.mk x10.Lo x10.Hi)))] (TV.agg (qaB x12))), .p, (.call [[0,1,1], [0,1,1]] [(TV.agg (qaB x12)), (TV.agg (qaB part))] (TV.agg (qaB x14))), .p] [.op .p], rgG [oo, oo, oo, oo, oo, oo, opI (.lit (([(qaG.mk (qaD.mk (0 : Int) (qaE.mk false []) []) x10.Lo x10.Hi)] : List qaG).map qaL)), opI (.appN (([(qaG.mk (qaD.mk (0 : Int) (qaE.mk false []) []) x10.Lo x10.Hi)] : List qaG).map qaL)), oo], .draw [.p, .p, .p, .p, (.call [[0,1,1], [0,1,1]] [(TV.agg (qaB x10.Lo)), (TV.agg (qaB x14))] (TV.agg (qaB x17))), .p, .p, .p, (.call [[0,1,1], [0,1,1]] [(TV.agg (qaB x10.Hi)), (TV.agg (qaB x14))] (TV.agg (qaB x19))), .p, (.litT (([(qaG.mk (qaD.mk (0 : Int) (qaE.mk false []) []) x17 x19)] : List qaG).map qaL))] [opI (.appN (([(qaG.mk (qaD.mk (0 : Int) (qaE.mk false []) []) x17 x19)] : List qaG).map qaL)), .op .p], rgG [oo, oo, oo, oo, oo, opI (.call [[0,1,1], [0,1,1]] [(TV.agg (qaB x10.Lo)), (TV.agg (qaB x10.Hi))] (TV.agg (qaB x22))), opI (.lit (([x22] : List qaJ).map qaB)), opI (.appN (([x22] : List qaJ).map qaB)), oo], rg3, .pre [.rl 7 0 ([(qaG.mk (qaD.mk (0 : Int) (qaE.mk false []) []) x10.Lo x10.Hi)] : List qaG).length, .rl 8 0 ([(qaG.mk (qaD.mk (0 : Int) (qaE.mk false []) []) x17 x19)] : List qaG).length, .rl 9 0 ([x22] : List qaJ).length, .keep [0,4,7,8,9,10,12] [4,10,63,75,83]]] hn (aC h1 <| aC (of_decide_eq_true h5 : i = ((3 : Nat) : Int)) <| aC (qcI h7) <| aC (of_decide_eq_true h5 : i = ((3 : Nat) : Int)) <| aC (qcI h9) <| aC (qdM h11) <| aC (qfJ h13) <| aC (qbY h15) <| aC (by kernel_rfl : [(T.int .i64 (0 : Int)), (T.bool false), (T.sl 1 []), (T.sl 4 []), (T.bool x10.Lo.Num.Neg), (T.sl 1 (x10.Lo.Num.Abs.map qaF)), (T.sl 1 (x10.Lo.Den.map qaF)), (T.bool x10.Hi.Num.Neg), (T.sl 1 (x10.Hi.Num.Abs.map qaF)), (T.sl 1 (x10.Hi.Den.map qaF))] = (([(qaG.mk (qaD.mk (0 : Int) (qaE.mk false []) []) x10.Lo x10.Hi)] : List qaG).map qaL).flatten) <| aC (qeH _ _ _ (by simp) : ((([(qaG.mk (qaD.mk (0 : Int) (qaE.mk false []) []) x10.Lo x10.Hi)] : List qaG).map qaL).drop 0).take 1 = ([(qaG.mk (qaD.mk (0 : Int) (qaE.mk false []) []) x10.Lo x10.Hi)] : List qaG).map qaL) <| aC (by simp : 0 < (([(qaG.mk (qaD.mk (0 : Int) (qaE.mk false []) []) x10.Lo x10.Hi)] : List qaG).map qaL).length) <| aC (by simp : (([(qaG.mk (qaD.mk (0 : Int) (qaE.mk false []) []) x10.Lo x10.Hi)] : List qaG).map qaL).length * 176 ≤ 140737488355328) <| aC (by simp [maxLen] : (([(qaG.mk (qaD.mk (0 : Int) (qaE.mk false []) []) x10.Lo x10.Hi)] : List qaG).map qaL).length ≤ maxLen) <| aC (qeC h18) <| aC (qfM h20) <| aC (by kernel_rfl : [(T.int .i64 (0 : Int)), (T.bool false), (T.sl 1 []), (T.sl 4 []), (T.bool x17.Num.Neg), (T.sl 1 (x17.Num.Abs.map qaF)), (T.sl 1 (x17.Den.map qaF)), (T.bool x19.Num.Neg), (T.sl 1 (x19.Num.Abs.map qaF)), (T.sl 1 (x19.Den.map qaF))] = (([(qaG.mk (qaD.mk (0 : Int) (qaE.mk false []) []) x17 x19)] : List qaG).map qaL).flatten) <| aC (rfl : ([(qaG.mk (qaD.mk (0 : Int) (qaE.mk false []) []) x17 x19)] : List qaG).map qaL = ([(qaG.mk (qaD.mk (0 : Int) (qaE.mk false []) []) x17 x19)] : List qaG).map qaL) <| aC (by simp : 0 < (([(qaG.mk (qaD.mk (0 : Int) (qaE.mk false []) []) x17 x19)] : List qaG).map qaL).length) <| aC (by simp : (([(qaG.mk (qaD.mk (0 : Int) (qaE.mk false []) []) x17 x19)] : List qaG).map qaL).length * 176 ≤ 140737488355328) <| aC (by simp [maxLen] : (([(qaG.mk (qaD.mk (0 : Int) (qaE.mk false []) []) x17 x19)] : List qaG).map qaL).length ≤ maxLen) <| aC (qgG h23) <| aC (by kernel_rfl : [(T.bool x22.Num.Neg), (T.sl 1 (x22.Num.Abs.map qaF)), (T.sl 1 (x22.Den.map qaF))] = (([x22] : List qaJ).map qaB).flatten) <| aC (qeH _ _ _ (by simp) : ((([x22] : List qaJ).map qaB).drop 0).take 1 = ([x22] : List qaJ).map qaB) <| aC (by simp : 0 < (([x22] : List qaJ).map qaB).length) <| aC (by simp : (([x22] : List qaJ).map qaB).length * 56 ≤ 140737488355328) <| aC (by simp [maxLen] : (([x22] : List qaJ).map qaB).length ≤ maxLen) <| aC r0 <| aC (by simp : (([(qaG.mk (qaD.mk (0 : Int) (qaE.mk false []) []) x10.Lo x10.Hi)] : List qaG).map qaL).length = ([(qaG.mk (qaD.mk (0 : Int) (qaE.mk false []) []) x10.Lo x10.Hi)] : List qaG).length) <| aC r0 <| aC (by simp : (([(qaG.mk (qaD.mk (0 : Int) (qaE.mk false []) []) x17 x19)] : List qaG).map qaL).length = ([(qaG.mk (qaD.mk (0 : Int) (qaE.mk false []) []) x17 x19)] : List qaG).length) <| aC r0 <| aC (by simp : (([x22] : List qaJ).map qaB).length = ([x22] : List qaJ).length) <| aN) (ih _ _ h cx hn)
     ·cases h
 ·obtain ⟨x2, h3, h⟩ := qaU h
  obtain ⟨x4, h5, h⟩ := qaU h
  obtain ⟨x6, h7, h⟩ := qaU h
  obtain ⟨x8, h9, h⟩ := qaU h
  obtain ⟨x10, h11, h⟩ := qaU h
  rcases qa0 h with ⟨h12, h⟩ | ⟨h12, h⟩
  ·obtain ⟨x13, h14, h⟩ := qaU h
   obtain ⟨x15, h16, h⟩ := qaU h
   obtain ⟨x17, h18, h⟩ := qaU h
   have h := oinj h; subst h
   exact wkR [.go, rg2, bFa, rgG [oo, opI (.call [[5]] [(tl 5 p qaQ)] (TV.agg (qaC x2))), oo, opI (.call [[0,0,1,4], [10]] [(TV.agg (qaC x2)), (TV.c (T.sl 10 ([].map qaL)))] (TV.tup [(true, qaN x4.1), (false, [(T.int .i64 x4.2)])])), oo, oo, oo, oo, oo, oo], rgG [oo, opI (.call [[5]] [(tl 5 p qaQ)] (TV.agg (qaC x6))), oo, opI (.call [[0,0,1,4], [10]] [(TV.agg (qaC x6)), (TV.c (T.sl 10 ([].map qaL)))] (TV.tup [(true, qaN x8.1), (false, [(T.int .i64 x8.2)])])), oo, oo, oo, oo, oo, oo], .draw [.p, .p, (.call [[0,1,1,0,1,1], [0,1,1,0,1,1]] [(TV.agg (qaN (qaI.mk x8.1.Lo x8.1.Hi))), (TV.agg (qaN (qaI.mk x4.1.Lo x4.1.Hi)))] (TV.c (T.bool x10))), .p, (.ga true .p), (.ga true .p), (.ga true (.call [[5]] [(tl 5 p qaQ)] (TV.agg (qaC x13)))), (.ga true .p), (.ga true (.call [[0,0,1,4], [3]] [(TV.agg (qaC x13)), (TV.c (T.sl 3 ([].map qaB)))] (TV.agg (qaB x15)))), (.ga true (.call [[0,1,1,0,1,1], [0,1,1]] [(TV.agg (qaN (qaI.mk x8.1.Lo x8.1.Hi))), (TV.agg (qaB x15))] (TV.c (T.bool x17)))), (.pk true), .p] []] hn (aC h1 <| aC (qd2 h3) <| aC (qfY h5) <| aC (qd2 h7) <| aC (qfY h9) <| aC (ql1 h11) <| aC h12 <| aC h12 <| aC h12 <| aC (qd2 h14) <| aC h12 <| aC h12 <| aC (qxI h16) <| aC h12 <| aC (qhO h18) <| aC h12 <| aN)
  ·have h := oinj h; subst h
   exact wkR [.go, rg2, bFa, rgG [oo, opI (.call [[5]] [(tl 5 p qaQ)] (TV.agg (qaC x2))), oo, opI (.call [[0,0,1,4], [10]] [(TV.agg (qaC x2)), (TV.c (T.sl 10 ([].map qaL)))] (TV.tup [(true, qaN x4.1), (false, [(T.int .i64 x4.2)])])), oo, oo, oo, oo, oo, oo], rgG [oo, opI (.call [[5]] [(tl 5 p qaQ)] (TV.agg (qaC x6))), oo, opI (.call [[0,0,1,4], [10]] [(TV.agg (qaC x6)), (TV.c (T.sl 10 ([].map qaL)))] (TV.tup [(true, qaN x8.1), (false, [(T.int .i64 x8.2)])])), oo, oo, oo, oo, oo, oo], .draw [.p, .p, (.call [[0,1,1,0,1,1], [0,1,1,0,1,1]] [(TV.agg (qaN (qaI.mk x8.1.Lo x8.1.Hi))), (TV.agg (qaN (qaI.mk x4.1.Lo x4.1.Hi)))] (TV.c (T.bool x10))), .p, (.ga false .p), (.ga false .p), (.ga false .p), (.ga false .p), (.ga false .p), (.ga false .p), (.pk false), .p] []] hn (aC h1 <| aC (qd2 h3) <| aC (qfY h5) <| aC (qd2 h7) <| aC (qfY h9) <| aC (ql1 h11) <| aC h12 <| aC h12 <| aC h12 <| aC h12 <| aC h12 <| aC h12 <| aC h12 <| aN)
theorem qvB {K} (ih : qg8 K) {cx} (hn : cx.n = 109) {x part r63 r75 r83 p i} {r} (h : qa8 (K + 1) (.c2 x part r63 r75 r83 p i) = some r) : qg7 cx (.c2 x part r63 r75 r83 p i) r := by
 rw [qa8] at h
 rcases qa0 h with ⟨h1, h⟩ | ⟨h1, h⟩
 ·rcases qa0 h with ⟨h2, h⟩ | ⟨h2, h⟩
  ·obtain ⟨x3, h4, h⟩ := qaU h
   obtain ⟨x5, h6, h⟩ := qaU h
   obtain ⟨x7, h8, h⟩ := qaU h
   obtain ⟨x9, h10, h⟩ := qaU h
   obtain ⟨x11, h12, h⟩ := qaU h
   obtain ⟨h13, h⟩ := qbV h
   obtain ⟨x14, h15, h⟩ := qaU h
   obtain ⟨x16, h17, h⟩ := qaU h
   obtain ⟨h18, h⟩ := qbV h
   obtain ⟨x19, h20, h⟩ := qaU h
   obtain ⟨h21, h⟩ := qbV h
   exact wkG [.go, rg2, bTr, .draw [.p, (.ia 0), .p, .p, (.call [[0,0]] [(TV.agg (qiF x.e0.e0))] (TV.agg (qaB x3))), .p, (.ia 0), .p, .p, (.call [[0,0]] [(TV.agg (qiF x.e0.e1))] (TV.agg (qaB x5))), .p, (.call [[0,1,1,0,1,1]] [(TV.agg (qaN (qaI.mk x3 x5)))] (TV.agg (qaN x7))), .p] [.op .p], .draw [.p, (.call [[0,1,1,0,1,1]] [(TV.agg (qaN (qaI.mk x7.Lo x7.Hi)))] (TV.agg (qaB x9))), .p, (.call [[0,1,1], [0,1,1]] [(TV.agg (qaB x9)), (TV.agg (qaB part))] (TV.agg (qaB x11))), .p] [.op .p], .pre [.keep [0,4,7,8,9,10,12,13,14] [4,10,13,14,63,75,83]], rgG [oo, oo, oo, oo, oo, oo, opI (.lit (([(qaG.mk (qaD.mk (0 : Int) (qaE.mk false []) []) x7.Lo x7.Hi)] : List qaG).map qaL)), .appR (([(qaG.mk (qaD.mk (0 : Int) (qaE.mk false []) []) x7.Lo x7.Hi)] : List qaG).map qaL) ((r63 ++ ([(qaG.mk (qaD.mk (0 : Int) (qaE.mk false []) []) x7.Lo x7.Hi)] : List qaG)).map qaL), oo], .pre [.keep [0,4,7,8,9,10,12,13,14] [4,10,13,14,63,75,83]], .draw [.mv, .p, .p, .p, (.call [[0,1,1], [0,1,1]] [(TV.agg (qaB x7.Lo)), (TV.agg (qaB x11))] (TV.agg (qaB x14))), .p, .p, .p, (.call [[0,1,1], [0,1,1]] [(TV.agg (qaB x7.Hi)), (TV.agg (qaB x11))] (TV.agg (qaB x16))), .p, (.litT (([(qaG.mk (qaD.mk (0 : Int) (qaE.mk false []) []) x14 x16)] : List qaG).map qaL))] [.appR (([(qaG.mk (qaD.mk (0 : Int) (qaE.mk false []) []) x14 x16)] : List qaG).map qaL) ((r75 ++ ([(qaG.mk (qaD.mk (0 : Int) (qaE.mk false []) []) x14 x16)] : List qaG)).map qaL), .op .p], .pre [.keep [0,4,7,8,9,10,12,13] [4,10,13,63,75,83]], rgG [oo, oo, oo, oo, oo, opI (.call [[0,1,1], [0,1,1]] [(TV.agg (qaB x7.Lo)), (TV.agg (qaB x7.Hi))] (TV.agg (qaB x19))), opI (.lit (([x19] : List qaJ).map qaB)), .appR (([x19] : List qaJ).map qaB) ((r83 ++ ([x19] : List qaJ)).map qaB), oo], rg3, .pre [.rl 7 0 (r63 ++ ([(qaG.mk (qaD.mk (0 : Int) (qaE.mk false []) []) x7.Lo x7.Hi)] : List qaG)).length, .rl 8 0 (r75 ++ ([(qaG.mk (qaD.mk (0 : Int) (qaE.mk false []) []) x14 x16)] : List qaG)).length, .rl 9 0 (r83 ++ ([x19] : List qaJ)).length, .keep [0,4,7,8,9,10,12] [4,10,63,75,83]]] hn (aC h1 <| aC (of_decide_eq_true h2 : i = ((0 : Nat) : Int)) <| aC (qcI h4) <| aC (of_decide_eq_true h2 : i = ((0 : Nat) : Int)) <| aC (qcI h6) <| aC (qdM h8) <| aC (qfJ h10) <| aC (qbY h12) <| aC (by kernel_rfl : [(T.int .i64 (0 : Int)), (T.bool false), (T.sl 1 []), (T.sl 4 []), (T.bool x7.Lo.Num.Neg), (T.sl 1 (x7.Lo.Num.Abs.map qaF)), (T.sl 1 (x7.Lo.Den.map qaF)), (T.bool x7.Hi.Num.Neg), (T.sl 1 (x7.Hi.Num.Abs.map qaF)), (T.sl 1 (x7.Hi.Den.map qaF))] = (([(qaG.mk (qaD.mk (0 : Int) (qaE.mk false []) []) x7.Lo x7.Hi)] : List qaG).map qaL).flatten) <| aC (by simp : r63.length = (r63.map qaL).length) <| aC (qeH _ _ _ (by simp) : ((([(qaG.mk (qaD.mk (0 : Int) (qaE.mk false []) []) x7.Lo x7.Hi)] : List qaG).map qaL).drop 0).take 1 = ([(qaG.mk (qaD.mk (0 : Int) (qaE.mk false []) []) x7.Lo x7.Hi)] : List qaG).map qaL) <| aC (qk5 _ _ _ : r63.map qaL ++ ([(qaG.mk (qaD.mk (0 : Int) (qaE.mk false []) []) x7.Lo x7.Hi)] : List qaG).map qaL = (r63 ++ ([(qaG.mk (qaD.mk (0 : Int) (qaE.mk false []) []) x7.Lo x7.Hi)] : List qaG)).map qaL) <| aC ((qcZ _ _).symm ▸ h13 : ((r63 ++ ([(qaG.mk (qaD.mk (0 : Int) (qaE.mk false []) []) x7.Lo x7.Hi)] : List qaG)).map qaL).length * 176 ≤ 140737488355328) <| aC ((qcZ _ _).symm ▸ room (by decide) h13 : ((r63 ++ ([(qaG.mk (qaD.mk (0 : Int) (qaE.mk false []) []) x7.Lo x7.Hi)] : List qaG)).map qaL).length ≤ maxLen) <| aC (qeC h15) <| aC (qfM h17) <| aC (by kernel_rfl : [(T.int .i64 (0 : Int)), (T.bool false), (T.sl 1 []), (T.sl 4 []), (T.bool x14.Num.Neg), (T.sl 1 (x14.Num.Abs.map qaF)), (T.sl 1 (x14.Den.map qaF)), (T.bool x16.Num.Neg), (T.sl 1 (x16.Num.Abs.map qaF)), (T.sl 1 (x16.Den.map qaF))] = (([(qaG.mk (qaD.mk (0 : Int) (qaE.mk false []) []) x14 x16)] : List qaG).map qaL).flatten) <| aC (by simp : r75.length = (r75.map qaL).length) <| aC (rfl : ([(qaG.mk (qaD.mk (0 : Int) (qaE.mk false []) []) x14 x16)] : List qaG).map qaL = ([(qaG.mk (qaD.mk (0 : Int) (qaE.mk false []) []) x14 x16)] : List qaG).map qaL) <| aC (qk5 _ _ _ : r75.map qaL ++ ([(qaG.mk (qaD.mk (0 : Int) (qaE.mk false []) []) x14 x16)] : List qaG).map qaL = (r75 ++ ([(qaG.mk (qaD.mk (0 : Int) (qaE.mk false []) []) x14 x16)] : List qaG)).map qaL) <| aC ((qcZ _ _).symm ▸ h18 : ((r75 ++ ([(qaG.mk (qaD.mk (0 : Int) (qaE.mk false []) []) x14 x16)] : List qaG)).map qaL).length * 176 ≤ 140737488355328) <| aC ((qcZ _ _).symm ▸ room (by decide) h18 : ((r75 ++ ([(qaG.mk (qaD.mk (0 : Int) (qaE.mk false []) []) x14 x16)] : List qaG)).map qaL).length ≤ maxLen) <| aC (qgG h20) <| aC (by kernel_rfl : [(T.bool x19.Num.Neg), (T.sl 1 (x19.Num.Abs.map qaF)), (T.sl 1 (x19.Den.map qaF))] = (([x19] : List qaJ).map qaB).flatten) <| aC (by simp : r83.length = (r83.map qaB).length) <| aC (qeH _ _ _ (by simp) : ((([x19] : List qaJ).map qaB).drop 0).take 1 = ([x19] : List qaJ).map qaB) <| aC (qk5 _ _ _ : r83.map qaB ++ ([x19] : List qaJ).map qaB = (r83 ++ ([x19] : List qaJ)).map qaB) <| aC ((qcZ _ _).symm ▸ h21 : ((r83 ++ ([x19] : List qaJ)).map qaB).length * 56 ≤ 140737488355328) <| aC ((qcZ _ _).symm ▸ room (by decide) h21 : ((r83 ++ ([x19] : List qaJ)).map qaB).length ≤ maxLen) <| aC r0 <| aC (by simp : ((r63 ++ ([(qaG.mk (qaD.mk (0 : Int) (qaE.mk false []) []) x7.Lo x7.Hi)] : List qaG)).map qaL).length = (r63 ++ ([(qaG.mk (qaD.mk (0 : Int) (qaE.mk false []) []) x7.Lo x7.Hi)] : List qaG)).length) <| aC r0 <| aC (by simp : ((r75 ++ ([(qaG.mk (qaD.mk (0 : Int) (qaE.mk false []) []) x14 x16)] : List qaG)).map qaL).length = (r75 ++ ([(qaG.mk (qaD.mk (0 : Int) (qaE.mk false []) []) x14 x16)] : List qaG)).length) <| aC r0 <| aC (by simp : ((r83 ++ ([x19] : List qaJ)).map qaB).length = (r83 ++ ([x19] : List qaJ)).length) <| aN) (ih _ _ h cx hn)
  ·rcases qa0 h with ⟨h3, h⟩ | ⟨h3, h⟩
   ·obtain ⟨x4, h5, h⟩ := qaU h
    obtain ⟨x6, h7, h⟩ := qaU h
    obtain ⟨x8, h9, h⟩ := qaU h
    obtain ⟨x10, h11, h⟩ := qaU h
    obtain ⟨x12, h13, h⟩ := qaU h
    obtain ⟨h14, h⟩ := qbV h
    obtain ⟨x15, h16, h⟩ := qaU h
    obtain ⟨x17, h18, h⟩ := qaU h
    obtain ⟨h19, h⟩ := qbV h
    obtain ⟨x20, h21, h⟩ := qaU h
    obtain ⟨h22, h⟩ := qbV h
    exact wkG [.go, rg2, bTr, .draw [.p, (.ia 1), .p, .p, (.call [[0,0]] [(TV.agg (qiF x.e1.e0))] (TV.agg (qaB x4))), .p, (.ia 1), .p, .p, (.call [[0,0]] [(TV.agg (qiF x.e1.e1))] (TV.agg (qaB x6))), .p, (.call [[0,1,1,0,1,1]] [(TV.agg (qaN (qaI.mk x4 x6)))] (TV.agg (qaN x8))), .p] [.op .p], .draw [.p, (.call [[0,1,1,0,1,1]] [(TV.agg (qaN (qaI.mk x8.Lo x8.Hi)))] (TV.agg (qaB x10))), .p, (.call [[0,1,1], [0,1,1]] [(TV.agg (qaB x10)), (TV.agg (qaB part))] (TV.agg (qaB x12))), .p] [.op .p], .pre [.keep [0,4,7,8,9,10,12,13,14] [4,10,13,14,63,75,83]], rgG [oo, oo, oo, oo, oo, oo, opI (.lit (([(qaG.mk (qaD.mk (0 : Int) (qaE.mk false []) []) x8.Lo x8.Hi)] : List qaG).map qaL)), .appR (([(qaG.mk (qaD.mk (0 : Int) (qaE.mk false []) []) x8.Lo x8.Hi)] : List qaG).map qaL) ((r63 ++ ([(qaG.mk (qaD.mk (0 : Int) (qaE.mk false []) []) x8.Lo x8.Hi)] : List qaG)).map qaL), oo], .pre [.keep [0,4,7,8,9,10,12,13,14] [4,10,13,14,63,75,83]], .draw [.mv, .p, .p, .p, (.call [[0,1,1], [0,1,1]] [(TV.agg (qaB x8.Lo)), (TV.agg (qaB x12))] (TV.agg (qaB x15))), .p, .p, .p, (.call [[0,1,1], [0,1,1]] [(TV.agg (qaB x8.Hi)), (TV.agg (qaB x12))] (TV.agg (qaB x17))), .p, (.litT (([(qaG.mk (qaD.mk (0 : Int) (qaE.mk false []) []) x15 x17)] : List qaG).map qaL))] [.appR (([(qaG.mk (qaD.mk (0 : Int) (qaE.mk false []) []) x15 x17)] : List qaG).map qaL) ((r75 ++ ([(qaG.mk (qaD.mk (0 : Int) (qaE.mk false []) []) x15 x17)] : List qaG)).map qaL), .op .p], .pre [.keep [0,4,7,8,9,10,12,13] [4,10,13,63,75,83]], rgG [oo, oo, oo, oo, oo, opI (.call [[0,1,1], [0,1,1]] [(TV.agg (qaB x8.Lo)), (TV.agg (qaB x8.Hi))] (TV.agg (qaB x20))), opI (.lit (([x20] : List qaJ).map qaB)), .appR (([x20] : List qaJ).map qaB) ((r83 ++ ([x20] : List qaJ)).map qaB), oo], rg3, .pre [.rl 7 0 (r63 ++ ([(qaG.mk (qaD.mk (0 : Int) (qaE.mk false []) []) x8.Lo x8.Hi)] : List qaG)).length, .rl 8 0 (r75 ++ ([(qaG.mk (qaD.mk (0 : Int) (qaE.mk false []) []) x15 x17)] : List qaG)).length, .rl 9 0 (r83 ++ ([x20] : List qaJ)).length, .keep [0,4,7,8,9,10,12] [4,10,63,75,83]]] hn (aC h1 <| aC (of_decide_eq_true h3 : i = ((1 : Nat) : Int)) <| aC (qcI h5) <| aC (of_decide_eq_true h3 : i = ((1 : Nat) : Int)) <| aC (qcI h7) <| aC (qdM h9) <| aC (qfJ h11) <| aC (qbY h13) <| aC (by kernel_rfl : [(T.int .i64 (0 : Int)), (T.bool false), (T.sl 1 []), (T.sl 4 []), (T.bool x8.Lo.Num.Neg), (T.sl 1 (x8.Lo.Num.Abs.map qaF)), (T.sl 1 (x8.Lo.Den.map qaF)), (T.bool x8.Hi.Num.Neg), (T.sl 1 (x8.Hi.Num.Abs.map qaF)), (T.sl 1 (x8.Hi.Den.map qaF))] = (([(qaG.mk (qaD.mk (0 : Int) (qaE.mk false []) []) x8.Lo x8.Hi)] : List qaG).map qaL).flatten) <| aC (by simp : r63.length = (r63.map qaL).length) <| aC (qeH _ _ _ (by simp) : ((([(qaG.mk (qaD.mk (0 : Int) (qaE.mk false []) []) x8.Lo x8.Hi)] : List qaG).map qaL).drop 0).take 1 = ([(qaG.mk (qaD.mk (0 : Int) (qaE.mk false []) []) x8.Lo x8.Hi)] : List qaG).map qaL) <| aC (qk5 _ _ _ : r63.map qaL ++ ([(qaG.mk (qaD.mk (0 : Int) (qaE.mk false []) []) x8.Lo x8.Hi)] : List qaG).map qaL = (r63 ++ ([(qaG.mk (qaD.mk (0 : Int) (qaE.mk false []) []) x8.Lo x8.Hi)] : List qaG)).map qaL) <| aC ((qcZ _ _).symm ▸ h14 : ((r63 ++ ([(qaG.mk (qaD.mk (0 : Int) (qaE.mk false []) []) x8.Lo x8.Hi)] : List qaG)).map qaL).length * 176 ≤ 140737488355328) <| aC ((qcZ _ _).symm ▸ room (by decide) h14 : ((r63 ++ ([(qaG.mk (qaD.mk (0 : Int) (qaE.mk false []) []) x8.Lo x8.Hi)] : List qaG)).map qaL).length ≤ maxLen) <| aC (qeC h16) <| aC (qfM h18) <| aC (by kernel_rfl : [(T.int .i64 (0 : Int)), (T.bool false), (T.sl 1 []), (T.sl 4 []), (T.bool x15.Num.Neg), (T.sl 1 (x15.Num.Abs.map qaF)), (T.sl 1 (x15.Den.map qaF)), (T.bool x17.Num.Neg), (T.sl 1 (x17.Num.Abs.map qaF)), (T.sl 1 (x17.Den.map qaF))] = (([(qaG.mk (qaD.mk (0 : Int) (qaE.mk false []) []) x15 x17)] : List qaG).map qaL).flatten) <| aC (by simp : r75.length = (r75.map qaL).length) <| aC (rfl : ([(qaG.mk (qaD.mk (0 : Int) (qaE.mk false []) []) x15 x17)] : List qaG).map qaL = ([(qaG.mk (qaD.mk (0 : Int) (qaE.mk false []) []) x15 x17)] : List qaG).map qaL) <| aC (qk5 _ _ _ : r75.map qaL ++ ([(qaG.mk (qaD.mk (0 : Int) (qaE.mk false []) []) x15 x17)] : List qaG).map qaL = (r75 ++ ([(qaG.mk (qaD.mk (0 : Int) (qaE.mk false []) []) x15 x17)] : List qaG)).map qaL) <| aC ((qcZ _ _).symm ▸ h19 : ((r75 ++ ([(qaG.mk (qaD.mk (0 : Int) (qaE.mk false []) []) x15 x17)] : List qaG)).map qaL).length * 176 ≤ 140737488355328) <| aC ((qcZ _ _).symm ▸ room (by decide) h19 : ((r75 ++ ([(qaG.mk (qaD.mk (0 : Int) (qaE.mk false []) []) x15 x17)] : List qaG)).map qaL).length ≤ maxLen) <| aC (qgG h21) <| aC (by kernel_rfl : [(T.bool x20.Num.Neg), (T.sl 1 (x20.Num.Abs.map qaF)), (T.sl 1 (x20.Den.map qaF))] = (([x20] : List qaJ).map qaB).flatten) <| aC (by simp : r83.length = (r83.map qaB).length) <| aC (qeH _ _ _ (by simp) : ((([x20] : List qaJ).map qaB).drop 0).take 1 = ([x20] : List qaJ).map qaB) <| aC (qk5 _ _ _ : r83.map qaB ++ ([x20] : List qaJ).map qaB = (r83 ++ ([x20] : List qaJ)).map qaB) <| aC ((qcZ _ _).symm ▸ h22 : ((r83 ++ ([x20] : List qaJ)).map qaB).length * 56 ≤ 140737488355328) <| aC ((qcZ _ _).symm ▸ room (by decide) h22 : ((r83 ++ ([x20] : List qaJ)).map qaB).length ≤ maxLen) <| aC r0 <| aC (by simp : ((r63 ++ ([(qaG.mk (qaD.mk (0 : Int) (qaE.mk false []) []) x8.Lo x8.Hi)] : List qaG)).map qaL).length = (r63 ++ ([(qaG.mk (qaD.mk (0 : Int) (qaE.mk false []) []) x8.Lo x8.Hi)] : List qaG)).length) <| aC r0 <| aC (by simp : ((r75 ++ ([(qaG.mk (qaD.mk (0 : Int) (qaE.mk false []) []) x15 x17)] : List qaG)).map qaL).length = (r75 ++ ([(qaG.mk (qaD.mk (0 : Int) (qaE.mk false []) []) x15 x17)] : List qaG)).length) <| aC r0 <| aC (by simp : ((r83 ++ ([x20] : List qaJ)).map qaB).length = (r83 ++ ([x20] : List qaJ)).length) <| aN) (ih _ _ h cx hn)
   ·rcases qa0 h with ⟨h4, h⟩ | ⟨h4, h⟩
    ·obtain ⟨x5, h6, h⟩ := qaU h
     obtain ⟨x7, h8, h⟩ := qaU h
     obtain ⟨x9, h10, h⟩ := qaU h
     obtain ⟨x11, h12, h⟩ := qaU h
     obtain ⟨x13, h14, h⟩ := qaU h
     obtain ⟨h15, h⟩ := qbV h
     obtain ⟨x16, h17, h⟩ := qaU h
     obtain ⟨x18, h19, h⟩ := qaU h
     obtain ⟨h20, h⟩ := qbV h
     obtain ⟨x21, h22, h⟩ := qaU h
     obtain ⟨h23, h⟩ := qbV h
     exact wkG [.go, rg2, bTr, .draw [.p, (.ia 2), .p, .p, (.call [[0,0]] [(TV.agg (qiF x.e2.e0))] (TV.agg (qaB x5))), .p, (.ia 2), .p, .p, (.call [[0,0]] [(TV.agg (qiF x.e2.e1))] (TV.agg (qaB x7))), .p, (.call [[0,1,1,0,1,1]] [(TV.agg (qaN (qaI.mk x5 x7)))] (TV.agg (qaN x9))), .p] [.op .p], .draw [.p, (.call [[0,1,1,0,1,1]] [(TV.agg (qaN (qaI.mk x9.Lo x9.Hi)))] (TV.agg (qaB x11))), .p, (.call [[0,1,1], [0,1,1]] [(TV.agg (qaB x11)), (TV.agg (qaB part))] (TV.agg (qaB x13))), .p] [.op .p], .pre [.keep [0,4,7,8,9,10,12,13,14] [4,10,13,14,63,75,83]], rgG [oo, oo, oo, oo, oo, oo, opI (.lit (([(qaG.mk (qaD.mk (0 : Int) (qaE.mk false []) []) x9.Lo x9.Hi)] : List qaG).map qaL)), .appR (([(qaG.mk (qaD.mk (0 : Int) (qaE.mk false []) []) x9.Lo x9.Hi)] : List qaG).map qaL) ((r63 ++ ([(qaG.mk (qaD.mk (0 : Int) (qaE.mk false []) []) x9.Lo x9.Hi)] : List qaG)).map qaL), oo], .pre [.keep [0,4,7,8,9,10,12,13,14] [4,10,13,14,63,75,83]], .draw [.mv, .p, .p, .p, (.call [[0,1,1], [0,1,1]] [(TV.agg (qaB x9.Lo)), (TV.agg (qaB x13))] (TV.agg (qaB x16))), .p, .p, .p, (.call [[0,1,1], [0,1,1]] [(TV.agg (qaB x9.Hi)), (TV.agg (qaB x13))] (TV.agg (qaB x18))), .p, (.litT (([(qaG.mk (qaD.mk (0 : Int) (qaE.mk false []) []) x16 x18)] : List qaG).map qaL))] [.appR (([(qaG.mk (qaD.mk (0 : Int) (qaE.mk false []) []) x16 x18)] : List qaG).map qaL) ((r75 ++ ([(qaG.mk (qaD.mk (0 : Int) (qaE.mk false []) []) x16 x18)] : List qaG)).map qaL), .op .p], .pre [.keep [0,4,7,8,9,10,12,13] [4,10,13,63,75,83]], rgG [oo, oo, oo, oo, oo, opI (.call [[0,1,1], [0,1,1]] [(TV.agg (qaB x9.Lo)), (TV.agg (qaB x9.Hi))] (TV.agg (qaB x21))), opI (.lit (([x21] : List qaJ).map qaB)), .appR (([x21] : List qaJ).map qaB) ((r83 ++ ([x21] : List qaJ)).map qaB), oo], rg3, .pre [.rl 7 0 (r63 ++ ([(qaG.mk (qaD.mk (0 : Int) (qaE.mk false []) []) x9.Lo x9.Hi)] : List qaG)).length, .rl 8 0 (r75 ++ ([(qaG.mk (qaD.mk (0 : Int) (qaE.mk false []) []) x16 x18)] : List qaG)).length, .rl 9 0 (r83 ++ ([x21] : List qaJ)).length, .keep [0,4,7,8,9,10,12] [4,10,63,75,83]]] hn (aC h1 <| aC (of_decide_eq_true h4 : i = ((2 : Nat) : Int)) <| aC (qcI h6) <| aC (of_decide_eq_true h4 : i = ((2 : Nat) : Int)) <| aC (qcI h8) <| aC (qdM h10) <| aC (qfJ h12) <| aC (qbY h14) <| aC (by kernel_rfl : [(T.int .i64 (0 : Int)), (T.bool false), (T.sl 1 []), (T.sl 4 []), (T.bool x9.Lo.Num.Neg), (T.sl 1 (x9.Lo.Num.Abs.map qaF)), (T.sl 1 (x9.Lo.Den.map qaF)), (T.bool x9.Hi.Num.Neg), (T.sl 1 (x9.Hi.Num.Abs.map qaF)), (T.sl 1 (x9.Hi.Den.map qaF))] = (([(qaG.mk (qaD.mk (0 : Int) (qaE.mk false []) []) x9.Lo x9.Hi)] : List qaG).map qaL).flatten) <| aC (by simp : r63.length = (r63.map qaL).length) <| aC (qeH _ _ _ (by simp) : ((([(qaG.mk (qaD.mk (0 : Int) (qaE.mk false []) []) x9.Lo x9.Hi)] : List qaG).map qaL).drop 0).take 1 = ([(qaG.mk (qaD.mk (0 : Int) (qaE.mk false []) []) x9.Lo x9.Hi)] : List qaG).map qaL) <| aC (qk5 _ _ _ : r63.map qaL ++ ([(qaG.mk (qaD.mk (0 : Int) (qaE.mk false []) []) x9.Lo x9.Hi)] : List qaG).map qaL = (r63 ++ ([(qaG.mk (qaD.mk (0 : Int) (qaE.mk false []) []) x9.Lo x9.Hi)] : List qaG)).map qaL) <| aC ((qcZ _ _).symm ▸ h15 : ((r63 ++ ([(qaG.mk (qaD.mk (0 : Int) (qaE.mk false []) []) x9.Lo x9.Hi)] : List qaG)).map qaL).length * 176 ≤ 140737488355328) <| aC ((qcZ _ _).symm ▸ room (by decide) h15 : ((r63 ++ ([(qaG.mk (qaD.mk (0 : Int) (qaE.mk false []) []) x9.Lo x9.Hi)] : List qaG)).map qaL).length ≤ maxLen) <| aC (qeC h17) <| aC (qfM h19) <| aC (by kernel_rfl : [(T.int .i64 (0 : Int)), (T.bool false), (T.sl 1 []), (T.sl 4 []), (T.bool x16.Num.Neg), (T.sl 1 (x16.Num.Abs.map qaF)), (T.sl 1 (x16.Den.map qaF)), (T.bool x18.Num.Neg), (T.sl 1 (x18.Num.Abs.map qaF)), (T.sl 1 (x18.Den.map qaF))] = (([(qaG.mk (qaD.mk (0 : Int) (qaE.mk false []) []) x16 x18)] : List qaG).map qaL).flatten) <| aC (by simp : r75.length = (r75.map qaL).length) <| aC (rfl : ([(qaG.mk (qaD.mk (0 : Int) (qaE.mk false []) []) x16 x18)] : List qaG).map qaL = ([(qaG.mk (qaD.mk (0 : Int) (qaE.mk false []) []) x16 x18)] : List qaG).map qaL) <| aC (qk5 _ _ _ : r75.map qaL ++ ([(qaG.mk (qaD.mk (0 : Int) (qaE.mk false []) []) x16 x18)] : List qaG).map qaL = (r75 ++ ([(qaG.mk (qaD.mk (0 : Int) (qaE.mk false []) []) x16 x18)] : List qaG)).map qaL) <| aC ((qcZ _ _).symm ▸ h20 : ((r75 ++ ([(qaG.mk (qaD.mk (0 : Int) (qaE.mk false []) []) x16 x18)] : List qaG)).map qaL).length * 176 ≤ 140737488355328) <| aC ((qcZ _ _).symm ▸ room (by decide) h20 : ((r75 ++ ([(qaG.mk (qaD.mk (0 : Int) (qaE.mk false []) []) x16 x18)] : List qaG)).map qaL).length ≤ maxLen) <| aC (qgG h22) <| aC (by kernel_rfl : [(T.bool x21.Num.Neg), (T.sl 1 (x21.Num.Abs.map qaF)), (T.sl 1 (x21.Den.map qaF))] = (([x21] : List qaJ).map qaB).flatten) <| aC (by simp : r83.length = (r83.map qaB).length) <| aC (qeH _ _ _ (by simp) : ((([x21] : List qaJ).map qaB).drop 0).take 1 = ([x21] : List qaJ).map qaB) <| aC (qk5 _ _ _ : r83.map qaB ++ ([x21] : List qaJ).map qaB = (r83 ++ ([x21] : List qaJ)).map qaB) <| aC ((qcZ _ _).symm ▸ h23 : ((r83 ++ ([x21] : List qaJ)).map qaB).length * 56 ≤ 140737488355328) <| aC ((qcZ _ _).symm ▸ room (by decide) h23 : ((r83 ++ ([x21] : List qaJ)).map qaB).length ≤ maxLen) <| aC r0 <| aC (by simp : ((r63 ++ ([(qaG.mk (qaD.mk (0 : Int) (qaE.mk false []) []) x9.Lo x9.Hi)] : List qaG)).map qaL).length = (r63 ++ ([(qaG.mk (qaD.mk (0 : Int) (qaE.mk false []) []) x9.Lo x9.Hi)] : List qaG)).length) <| aC r0 <| aC (by simp : ((r75 ++ ([(qaG.mk (qaD.mk (0 : Int) (qaE.mk false []) []) x16 x18)] : List qaG)).map qaL).length = (r75 ++ ([(qaG.mk (qaD.mk (0 : Int) (qaE.mk false []) []) x16 x18)] : List qaG)).length) <| aC r0 <| aC (by simp : ((r83 ++ ([x21] : List qaJ)).map qaB).length = (r83 ++ ([x21] : List qaJ)).length) <| aN) (ih _ _ h cx hn)
    ·rcases qa0 h with ⟨h5, h⟩ | ⟨h5, h⟩
     ·obtain ⟨x6, h7, h⟩ := qaU h
      obtain ⟨x8, h9, h⟩ := qaU h
      obtain ⟨x10, h11, h⟩ := qaU h
      obtain ⟨x12, h13, h⟩ := qaU h
      obtain ⟨x14, h15, h⟩ := qaU h
      obtain ⟨h16, h⟩ := qbV h
      obtain ⟨x17, h18, h⟩ := qaU h
      obtain ⟨x19, h20, h⟩ := qaU h
      obtain ⟨h21, h⟩ := qbV h
      obtain ⟨x22, h23, h⟩ := qaU h
      obtain ⟨h24, h⟩ := qbV h
      exact wkG [.go, rg2, bTr, .draw [.p, (.ia 3), .p, .p, (.call [[0,0]] [(TV.agg (qiF x.e3.e0))] (TV.agg (qaB x6))), .p, (.ia 3), .p, .p, (.call [[0,0]] [(TV.agg (qiF x.e3.e1))] (TV.agg (qaB x8))), .p, (.call [[0,1,1,0,1,1]] [(TV.agg (qaN (qaI.mk x6 x8)))] (TV.agg (qaN x10))), .p] [.op .p], .draw [.p, (.call [[0,1,1,0,1,1]] [(TV.agg (qaN (qaI.mk x10.Lo x10.Hi)))] (TV.agg (qaB x12))), .p, (.call [[0,1,1], [0,1,1]] [(TV.agg (qaB x12)), (TV.agg (qaB part))] (TV.agg (qaB x14))), .p] [.op .p], .pre [.keep [0,4,7,8,9,10,12,13,14] [4,10,13,14,63,75,83]], rgG [oo, oo, oo, oo, oo, oo, opI (.lit (([(qaG.mk (qaD.mk (0 : Int) (qaE.mk false []) []) x10.Lo x10.Hi)] : List qaG).map qaL)), .appR (([(qaG.mk (qaD.mk (0 : Int) (qaE.mk false []) []) x10.Lo x10.Hi)] : List qaG).map qaL) ((r63 ++ ([(qaG.mk (qaD.mk (0 : Int) (qaE.mk false []) []) x10.Lo x10.Hi)] : List qaG)).map qaL), oo], .pre [.keep [0,4,7,8,9,10,12,13,14] [4,10,13,14,63,75,83]], .draw [.mv, .p, .p, .p, (.call [[0,1,1], [0,1,1]] [(TV.agg (qaB x10.Lo)), (TV.agg (qaB x14))] (TV.agg (qaB x17))), .p, .p, .p, (.call [[0,1,1], [0,1,1]] [(TV.agg (qaB x10.Hi)), (TV.agg (qaB x14))] (TV.agg (qaB x19))), .p, (.litT (([(qaG.mk (qaD.mk (0 : Int) (qaE.mk false []) []) x17 x19)] : List qaG).map qaL))] [.appR (([(qaG.mk (qaD.mk (0 : Int) (qaE.mk false []) []) x17 x19)] : List qaG).map qaL) ((r75 ++ ([(qaG.mk (qaD.mk (0 : Int) (qaE.mk false []) []) x17 x19)] : List qaG)).map qaL), .op .p], .pre [.keep [0,4,7,8,9,10,12,13] [4,10,13,63,75,83]], rgG [oo, oo, oo, oo, oo, opI (.call [[0,1,1], [0,1,1]] [(TV.agg (qaB x10.Lo)), (TV.agg (qaB x10.Hi))] (TV.agg (qaB x22))), opI (.lit (([x22] : List qaJ).map qaB)), .appR (([x22] : List qaJ).map qaB) ((r83 ++ ([x22] : List qaJ)).map qaB), oo], rg3, .pre [.rl 7 0 (r63 ++ ([(qaG.mk (qaD.mk (0 : Int) (qaE.mk false []) []) x10.Lo x10.Hi)] : List qaG)).length, .rl 8 0 (r75 ++ ([(qaG.mk (qaD.mk (0 : Int) (qaE.mk false []) []) x17 x19)] : List qaG)).length, .rl 9 0 (r83 ++ ([x22] : List qaJ)).length, .keep [0,4,7,8,9,10,12] [4,10,63,75,83]]] hn (aC h1 <| aC (of_decide_eq_true h5 : i = ((3 : Nat) : Int)) <| aC (qcI h7) <| aC (of_decide_eq_true h5 : i = ((3 : Nat) : Int)) <| aC (qcI h9) <| aC (qdM h11) <| aC (qfJ h13) <| aC (qbY h15) <| aC (by kernel_rfl : [(T.int .i64 (0 : Int)), (T.bool false), (T.sl 1 []), (T.sl 4 []), (T.bool x10.Lo.Num.Neg), (T.sl 1 (x10.Lo.Num.Abs.map qaF)), (T.sl 1 (x10.Lo.Den.map qaF)), (T.bool x10.Hi.Num.Neg), (T.sl 1 (x10.Hi.Num.Abs.map qaF)), (T.sl 1 (x10.Hi.Den.map qaF))] = (([(qaG.mk (qaD.mk (0 : Int) (qaE.mk false []) []) x10.Lo x10.Hi)] : List qaG).map qaL).flatten) <| aC (by simp : r63.length = (r63.map qaL).length) <| aC (qeH _ _ _ (by simp) : ((([(qaG.mk (qaD.mk (0 : Int) (qaE.mk false []) []) x10.Lo x10.Hi)] : List qaG).map qaL).drop 0).take 1 = ([(qaG.mk (qaD.mk (0 : Int) (qaE.mk false []) []) x10.Lo x10.Hi)] : List qaG).map qaL) <| aC (qk5 _ _ _ : r63.map qaL ++ ([(qaG.mk (qaD.mk (0 : Int) (qaE.mk false []) []) x10.Lo x10.Hi)] : List qaG).map qaL = (r63 ++ ([(qaG.mk (qaD.mk (0 : Int) (qaE.mk false []) []) x10.Lo x10.Hi)] : List qaG)).map qaL) <| aC ((qcZ _ _).symm ▸ h16 : ((r63 ++ ([(qaG.mk (qaD.mk (0 : Int) (qaE.mk false []) []) x10.Lo x10.Hi)] : List qaG)).map qaL).length * 176 ≤ 140737488355328) <| aC ((qcZ _ _).symm ▸ room (by decide) h16 : ((r63 ++ ([(qaG.mk (qaD.mk (0 : Int) (qaE.mk false []) []) x10.Lo x10.Hi)] : List qaG)).map qaL).length ≤ maxLen) <| aC (qeC h18) <| aC (qfM h20) <| aC (by kernel_rfl : [(T.int .i64 (0 : Int)), (T.bool false), (T.sl 1 []), (T.sl 4 []), (T.bool x17.Num.Neg), (T.sl 1 (x17.Num.Abs.map qaF)), (T.sl 1 (x17.Den.map qaF)), (T.bool x19.Num.Neg), (T.sl 1 (x19.Num.Abs.map qaF)), (T.sl 1 (x19.Den.map qaF))] = (([(qaG.mk (qaD.mk (0 : Int) (qaE.mk false []) []) x17 x19)] : List qaG).map qaL).flatten) <| aC (by simp : r75.length = (r75.map qaL).length) <| aC (rfl : ([(qaG.mk (qaD.mk (0 : Int) (qaE.mk false []) []) x17 x19)] : List qaG).map qaL = ([(qaG.mk (qaD.mk (0 : Int) (qaE.mk false []) []) x17 x19)] : List qaG).map qaL) <| aC (qk5 _ _ _ : r75.map qaL ++ ([(qaG.mk (qaD.mk (0 : Int) (qaE.mk false []) []) x17 x19)] : List qaG).map qaL = (r75 ++ ([(qaG.mk (qaD.mk (0 : Int) (qaE.mk false []) []) x17 x19)] : List qaG)).map qaL) <| aC ((qcZ _ _).symm ▸ h21 : ((r75 ++ ([(qaG.mk (qaD.mk (0 : Int) (qaE.mk false []) []) x17 x19)] : List qaG)).map qaL).length * 176 ≤ 140737488355328) <| aC ((qcZ _ _).symm ▸ room (by decide) h21 : ((r75 ++ ([(qaG.mk (qaD.mk (0 : Int) (qaE.mk false []) []) x17 x19)] : List qaG)).map qaL).length ≤ maxLen) <| aC (qgG h23) <| aC (by kernel_rfl : [(T.bool x22.Num.Neg), (T.sl 1 (x22.Num.Abs.map qaF)), (T.sl 1 (x22.Den.map qaF))] = (([x22] : List qaJ).map qaB).flatten) <| aC (by simp : r83.length = (r83.map qaB).length) <| aC (qeH _ _ _ (by simp) : ((([x22] : List qaJ).map qaB).drop 0).take 1 = ([x22] : List qaJ).map qaB) <| aC (qk5 _ _ _ : r83.map qaB ++ ([x22] : List qaJ).map qaB = (r83 ++ ([x22] : List qaJ)).map qaB) <| aC ((qcZ _ _).symm ▸ h24 : ((r83 ++ ([x22] : List qaJ)).map qaB).length * 56 ≤ 140737488355328) <| aC ((qcZ _ _).symm ▸ room (by decide) h24 : ((r83 ++ ([x22] : List qaJ)).map qaB).length ≤ maxLen) <| aC r0 <| aC (by simp : ((r63 ++ ([(qaG.mk (qaD.mk (0 : Int) (qaE.mk false []) []) x10.Lo x10.Hi)] : List qaG)).map qaL).length = (r63 ++ ([(qaG.mk (qaD.mk (0 : Int) (qaE.mk false []) []) x10.Lo x10.Hi)] : List qaG)).length) <| aC r0 <| aC (by simp : ((r75 ++ ([(qaG.mk (qaD.mk (0 : Int) (qaE.mk false []) []) x17 x19)] : List qaG)).map qaL).length = (r75 ++ ([(qaG.mk (qaD.mk (0 : Int) (qaE.mk false []) []) x17 x19)] : List qaG)).length) <| aC r0 <| aC (by simp : ((r83 ++ ([x22] : List qaJ)).map qaB).length = (r83 ++ ([x22] : List qaJ)).length) <| aN) (ih _ _ h cx hn)
     ·cases h
 ·obtain ⟨x2, h3, h⟩ := qaU h
  obtain ⟨x4, h5, h⟩ := qaU h
  obtain ⟨x6, h7, h⟩ := qaU h
  obtain ⟨x8, h9, h⟩ := qaU h
  obtain ⟨x10, h11, h⟩ := qaU h
  rcases qa0 h with ⟨h12, h⟩ | ⟨h12, h⟩
  ·obtain ⟨x13, h14, h⟩ := qaU h
   obtain ⟨x15, h16, h⟩ := qaU h
   obtain ⟨x17, h18, h⟩ := qaU h
   have h := oinj h; subst h
   exact wkR [.go, rg2, bFa, rgG [oo, opI (.call [[5]] [(tl 5 p qaQ)] (TV.agg (qaC x2))), oo, .snap 87 (max 0 (0 + r63.length)) (r63.map qaL), opI (.call [[0,0,1,4], [10]] [(TV.agg (qaC x2)), (tl 10 r63 qaL)] (TV.tup [(true, qaN x4.1), (false, [(T.int .i64 x4.2)])])), oo, oo, oo, oo, oo, oo], rgG [oo, opI (.call [[5]] [(tl 5 p qaQ)] (TV.agg (qaC x6))), oo, .snap 94 (max 0 (0 + r75.length)) (r75.map qaL), opI (.call [[0,0,1,4], [10]] [(TV.agg (qaC x6)), (tl 10 r75 qaL)] (TV.tup [(true, qaN x8.1), (false, [(T.int .i64 x8.2)])])), oo, oo, oo, oo, oo, oo], .pre [.snap 9 (max 0 (0 + r83.length)) (r83.map qaB)], .draw [.p, .p, (.call [[0,1,1,0,1,1], [0,1,1,0,1,1]] [(TV.agg (qaN (qaI.mk x8.1.Lo x8.1.Hi))), (TV.agg (qaN (qaI.mk x4.1.Lo x4.1.Hi)))] (TV.c (T.bool x10))), .p, (.ga true .p), (.ga true .p), (.ga true (.call [[5]] [(tl 5 p qaQ)] (TV.agg (qaC x13)))), (.ga true .p), (.ga true (.call [[0,0,1,4], [3]] [(TV.agg (qaC x13)), (tl 3 r83 qaB)] (TV.agg (qaB x15)))), (.ga true (.call [[0,1,1,0,1,1], [0,1,1]] [(TV.agg (qaN (qaI.mk x8.1.Lo x8.1.Hi))), (TV.agg (qaB x15))] (TV.c (T.bool x17)))), (.pk true), .p] []] hn (aC h1 <| aC (qd2 h3) <| aC (qeH _ _ _ (by simp) : ((r63.map qaL).drop 0).take r63.length = r63.map qaL) <| aC (rfl : (max 0 (0 + r63.length)) = (max 0 (0 + r63.length))) <| aC (qfY h5) <| aC (qd2 h7) <| aC (qeH _ _ _ (by simp) : ((r75.map qaL).drop 0).take r75.length = r75.map qaL) <| aC (rfl : (max 0 (0 + r75.length)) = (max 0 (0 + r75.length))) <| aC (qfY h9) <| aC (qeH _ _ _ (by simp) : ((r83.map qaB).drop 0).take r83.length = r83.map qaB) <| aC (rfl : (max 0 (0 + r83.length)) = (max 0 (0 + r83.length))) <| aC (ql1 h11) <| aC h12 <| aC h12 <| aC h12 <| aC (qd2 h14) <| aC h12 <| aC h12 <| aC (qxI h16) <| aC h12 <| aC (qhO h18) <| aC h12 <| aN)
  ·have h := oinj h; subst h
   exact wkR [.go, rg2, bFa, rgG [oo, opI (.call [[5]] [(tl 5 p qaQ)] (TV.agg (qaC x2))), oo, .snap 87 (max 0 (0 + r63.length)) (r63.map qaL), opI (.call [[0,0,1,4], [10]] [(TV.agg (qaC x2)), (tl 10 r63 qaL)] (TV.tup [(true, qaN x4.1), (false, [(T.int .i64 x4.2)])])), oo, oo, oo, oo, oo, oo], rgG [oo, opI (.call [[5]] [(tl 5 p qaQ)] (TV.agg (qaC x6))), oo, .snap 94 (max 0 (0 + r75.length)) (r75.map qaL), opI (.call [[0,0,1,4], [10]] [(TV.agg (qaC x6)), (tl 10 r75 qaL)] (TV.tup [(true, qaN x8.1), (false, [(T.int .i64 x8.2)])])), oo, oo, oo, oo, oo, oo], .pre [.snap 9 (max 0 (0 + r83.length)) (r83.map qaB)], .draw [.p, .p, (.call [[0,1,1,0,1,1], [0,1,1,0,1,1]] [(TV.agg (qaN (qaI.mk x8.1.Lo x8.1.Hi))), (TV.agg (qaN (qaI.mk x4.1.Lo x4.1.Hi)))] (TV.c (T.bool x10))), .p, (.ga false .p), (.ga false .p), (.ga false .p), (.ga false .p), (.ga false .p), (.ga false .p), (.pk false), .p] []] hn (aC h1 <| aC (qd2 h3) <| aC (qeH _ _ _ (by simp) : ((r63.map qaL).drop 0).take r63.length = r63.map qaL) <| aC (rfl : (max 0 (0 + r63.length)) = (max 0 (0 + r63.length))) <| aC (qfY h5) <| aC (qd2 h7) <| aC (qeH _ _ _ (by simp) : ((r75.map qaL).drop 0).take r75.length = r75.map qaL) <| aC (rfl : (max 0 (0 + r75.length)) = (max 0 (0 + r75.length))) <| aC (qfY h9) <| aC (qeH _ _ _ (by simp) : ((r83.map qaB).drop 0).take r83.length = r83.map qaB) <| aC (rfl : (max 0 (0 + r83.length)) = (max 0 (0 + r83.length))) <| aC (ql1 h11) <| aC h12 <| aC h12 <| aC h12 <| aC h12 <| aC h12 <| aC h12 <| aC h12 <| aN)
theorem qgH : ∀ K : Nat, qg8 K
 | 0, c, r, h => by rw [qa8] at h; cases h
 | K + 1, .c0 .., r, h => fun cx hn => qvD (qgH K) hn h
 | K + 1, .c1 .., r, h => fun cx hn => qvC (qgH K) hn h
 | K + 1, .c2 .., r, h => fun cx hn => qvB (qgH K) hn h
theorem qtG {K : Nat} {p : (List qbB)} {x : qk7} {k : Int} {r : Bool} (h : qlE K p x k = some r) : qc7 prog 3 [(tl 5 p qaQ), (TV.agg (qmA x)), (ti .u8 k)] (TV.c (T.bool r)) :=
 qbL [[0]] (by kernel_rfl) (by simp) fun cx hn => qgH K (.c0 p x k) r h cx hn
theorem zqP {k : Nat} {q : Rat} (h : Sz k q) : Sz k (-q) := by
  refine ⟨?_, h.2⟩
  have := h.1
  show ((-q.num).natAbs : Int) < _
  omega
theorem q23 {i j : Nat} {a b : Rat} (ha : Sz i a) (hb : Sz j b) (h : i + j ≤ 1000000000) : Ev (fun K => qgZ K (mkQ a) (mkQ b)) (mkQ (a - b)) := by
  have sb := q5I hb (by omega)
  have h1 := zlC sb.1 (by have := sb.2; omega)
  rw [qdQ] at h1
  have h2 := qmT ha (zqP hb) h
  rw [← Rat.sub_eq_add_neg] at h2
  refine qaW ?_
  simp only [qgZ, qmO]
  exact qaR h1 (qaR h2 (qa6 _))
theorem zhW {k : Nat} {q : Rat} (h : Sz k q) (hk : k ≤ 1000000000) (h0 : 0 ≤ q) : Ev (fun K => qxL K (mkQ q)) (mkQ q) := by
  have sb := q5I h (by omega)
  have h1 := zlM sb.1 (by have := sb.2; omega)
  rw [qdQ] at h1
  have hn : (0 : Int) ≤ q.num := Rat.num_nonneg.2 h0
  have e : (q.num.natAbs : Int) = q.num := by omega
  rw [e] at h1
  have h2 := qlK sb (q6V h (by omega))
  rw [qdQ, qdP (by omega), Int.toNat_natCast, Rat.mkRat_self] at h2
  refine qaW ?_
  simp only [qxL, qmU]
  exact qaR h1 (qaR h2 (qa6 _))
def half : Rat := ⟨1, 2, by decide, by decide⟩
theorem zq7 : half * 2 = 1 := by decide +kernel
theorem zsK : Sz 1 half := by refine ⟨?_, ?_⟩ <;> decide
theorem zhP {i j : Nat} {a b : Rat} (ha : Sz i a) (hb : Sz j b) (h : i + j ≤ 100000000) : Ev (fun K => qh2 K (mkQ a) (mkQ b)) (mkQ ((a + b) * half)) := by
  have h1 := qmT ha hb (by omega)
  have h2 := qeS (q75 ha hb) zsK (by omega)
  have e : mkQ half = ⟨mkI 1, digs 2⟩ := rfl
  rw [e] at h2
  refine qaW ?_
  simp only [qh2, qmQ]
  exact qaR h1 (qaR (qnR (by omega)) (qaR (qp0 (n := 2) (by omega) (by omega)) (qaR h2 (qa6 _))))
theorem zcR {k : Nat} {a b : Rat} (ha : Sz k a) (hb : Sz k b) (h : k ≤ 1000000) (hab : a ≤ b) : Ev (fun K => qf1 K (iv a b)) (mkQ (b - a)) := by
  have h1 := q23 hb ha (by omega)
  have sz := q75 hb (zqP ha)
  rw [← Rat.sub_eq_add_neg] at sz
  have h2 := zhW sz (by omega) (by grind)
  refine qaW ?_
  simp only [qf1, qkR]
  exact qaR h1 (qaR h2 (qa6 _))
theorem zt4 (a b : Rat) : decide (cmpQ a b ≤ (0 : Int)) = decide (a ≤ b) := by
  unfold cmpQ
  split
  · rename_i h; rw [decide_eq_true (by decide), decide_eq_true (by grind)]
  · split
    · rename_i h1 h; rw [decide_eq_false (by decide), decide_eq_false (by grind)]
    · rename_i h1 h2; rw [decide_eq_true (by decide), decide_eq_true (by grind)]
theorem qqH {i j : Nat} {x : Rat × Rat} {a : Rat} (hx : SzI i x) (ha : Sz j a) (h : i + i + j ≤ 1000000) (hin : inI a x) : Ev (fun K => qiU K (ivP x) (mkQ a)) true := by
  have h1 := qmV hx.1 hx.2 (by omega)
  have h2 := qsI (q1X hx.1 hx.2) ha (by omega)
  have h3 := qj2 hx.1 hx.2 (by omega)
  have h4 := qsI ha (q1Y hx.1 hx.2) (by omega)
  refine qaW ?_
  simp only [qiU, qhU]
  refine qaR h1 (qaR h2 (ev_t ?_ (qaR h3 (qaR h4 (qe4 (qa6 _) ?_)))))
  · rw [zt4]; exact decide_eq_true (Rat.le_trans (q1E _ _) hin.1)
  · rw [zt4]; exact decide_eq_true (Rat.le_trans hin.2 (zdR _ _))
theorem q9W {i j : Nat} {x y : Rat × Rat} (hx : SzI i x) (hy : SzI j y) (h : j + j + i ≤ 1000000) (ho : ordI x) (hs : subI x y) : Ev (fun K => qpD K (ivP x) (ivP y)) true := by
  refine qaW ?_
  simp only [qpD, qjQ]
  exact qaR (qqH hy hx.1 h ⟨hs.1, Rat.le_trans ho hs.2⟩) (ev_t rfl (qaR (qqH hy hx.2 h ⟨Rat.le_trans hs.1 ho, hs.2⟩) (qa6 _)))
theorem zqA {x : Int} (h0 : 0 < x) (h1 : x < 4294967296) : Ev (fun K => qi6 K (digs x)) false := by
  have := qkN (a := digs x) (qdW _) (by rw [zaL h0 h1]; simp)
  rw [qdP (by omega), decide_eq_false (by omega)] at this
  exact this
def prt (k : Int) : Rat := mkRat 1 (2 + k).toNat
theorem prt_ok {k : Int} (h0 : 0 ≤ k) (h1 : k < 256) : Sz 1 (prt k) ∧ 0 ≤ prt k ∧ prt k ≤ half := by
  refine ⟨zgC (by omega) (by decide) (by rw [Int.pow_succ, Int.pow_zero]; omega), ?_⟩
  obtain ⟨n, hn⟩ : ∃ n : Nat, (2 + k).toNat = n + 2 := ⟨k.toNat, by omega⟩
  have e : prt k = ((1 : Int) : Rat) / ((n + 2 : Nat) : Rat) := by unfold prt; rw [hn, Rat.mkRat_eq_div]
  have hN : (0 : Rat) ≤ (n : Rat) := by exact_mod_cast Nat.zero_le n
  have hN2 : ((n + 2 : Nat) : Rat) = (n : Rat) + 2 := by push_cast; rfl
  rw [hN2] at e
  have hne : (n : Rat) + 2 ≠ 0 := by grind
  have hm : prt k * ((n : Rat) + 2) = 1 := by rw [e, Rat.div_mul_cancel hne]; rfl
  have hpos : 0 ≤ prt k := by
    by_cases h : 0 ≤ prt k
    · exact h
    · have h2 : 0 ≤ -prt k := by grind
      have := Rat.mul_nonneg h2 (show 0 ≤ (n : Rat) + 2 by grind)
      grind
  refine ⟨hpos, ?_⟩
  have := Rat.mul_nonneg hpos hN
  have h2 := zq7
  grind
theorem zzA {k : Int} (h0 : 0 ≤ k) (h1 : k < 256) : Ev (fun K => qpU K (mkI 1) (mkI (2 + k))) (mkQ (prt k), 0) := by
  have e : mkI (2 + k) = ⟨false, digs (2 + k)⟩ := qtR (by omega)
  have hz := zqA (x := 2 + k) (by omega) (by omega)
  have hd : SmN (digs (2 + k)) := ⟨qdW _, by rw [zaL (by omega) (by omega)]; simp⟩
  have hm := qlK zsW hd
  rw [qdQ, qdP (by omega)] at hm
  refine qaW ?_
  simp only [qpU, qjY, e]
  exact qaR hz (ev_f rfl (ev_f rfl (qaR hm (qa6 _))))
theorem side {q : qx4} (ok0 : A2Ok q.e0) (ok1 : A2Ok q.e1) {part : Rat} (hz : Sz 1 part) (h0 : 0 ≤ part) (h1 : part ≤ half) :
    ∃ a b lo hi w s l h m : Rat, Ev (fun K => qcQ K q.e0) (mkQ a) ∧ Ev (fun K => qcQ K q.e1) (mkQ b) ∧ Ev (fun K => qd9 K (iv a b)) (iv lo hi) ∧
      Ev (fun K => qf1 K (iv lo hi)) (mkQ w) ∧ Ev (fun K => qc8 K (mkQ w) (mkQ part)) (mkQ s) ∧ Ev (fun K => qfC K (mkQ lo) (mkQ s)) (mkQ l) ∧ Ev (fun K => qgZ K (mkQ hi) (mkQ s)) (mkQ h) ∧
      Ev (fun K => qh2 K (mkQ lo) (mkQ hi)) (mkQ m) ∧ (lo ≤ l ∧ l ≤ m ∧ m ≤ h ∧ h ≤ hi) ∧ SzI 10 (lo, hi) ∧ SzI 10 (l, h) ∧ Sz 10 m := by
  obtain ⟨a, e1, s1⟩ := qvK ok0.1 ok0.2
  obtain ⟨b, e2, s2⟩ := qvK ok1.1 ok1.2
  have lo := q1X s1 s2
  have hi := q1Y s1 s2
  have hle : lsQ a b ≤ gtQ a b := Rat.le_trans (q1E a b) (ziL a b)
  have e4 := zcR lo hi (by omega) hle
  have sw : Sz 3 (gtQ a b - lsQ a b) := by rw [Rat.sub_eq_add_neg]; exact qmF (by omega) (q75 hi (zqP lo))
  have e5 := qeS sw hz (by omega)
  have ss := qxE sw hz
  have e6 := qmT lo ss (by omega)
  have e7 := q23 hi ss (by omega)
  have e8 := zhP lo hi (by omega)
  have sl := q75 lo ss
  have sh : Sz 6 (gtQ a b - (gtQ a b - lsQ a b) * part) := by rw [Rat.sub_eq_add_neg (gtQ a b)]; exact qmF (by omega) (q75 hi (zqP ss))
  have sm := qxE (q75 lo hi) zsK
  refine ⟨a, b, _, _, _, _, _, _, _, e1, e2, qjS s1 s2 (by omega), e4, e5, e6, e7, e8, ?_, ⟨qmF (by omega) lo, qmF (by omega) hi⟩, ⟨qmF (by omega) sl, qmF (by omega) sh⟩, qmF (by omega) sm⟩
  generalize lsQ a b = x at *
  generalize gtQ a b = y at *
  have hw : 0 ≤ y - x := by grind
  have k1 := Rat.mul_nonneg hw h0
  have k2 := Rat.mul_nonneg hw (show 0 ≤ half - part by grind)
  have h2 := zq7
  have e : (x + y) * half = x + (y - x) * half := by grind
  have e' : (x + y) * half = y - (y - x) * half := by grind
  refine ⟨by grind, ?_, ?_, by grind⟩
  · rw [e]; grind
  · rw [e']; grind
theorem zuA {k : Nat} (hk1 : 1 ≤ k) {l : List (qaD × Rat × Rat)} (h : ∀ q ∈ l, SzI k q.2) (i : Nat) : SzI k (bxOf l i) := by
  unfold bxOf
  split
  · rename_i q hq; exact zsL (h q (List.mem_of_getElem? hq))
  · exact ⟨qmF hk1 zgS, qmF hk1 zgS⟩
def zp (x : Rat × Rat) : qaD × Rat × Rat := (⟨0, ⟨false, []⟩, []⟩, x.1, x.2)
def A4Ok (x : qk7) : Prop := (A2Ok x.e0.e0 ∧ A2Ok x.e0.e1) ∧ (A2Ok x.e1.e0 ∧ A2Ok x.e1.e1) ∧ (A2Ok x.e2.e0 ∧ A2Ok x.e2.e1) ∧ (A2Ok x.e3.e0 ∧ A2Ok x.e3.e1)
theorem zjU {p : List qbB} {x : qk7} {k : Int} (hp : ∀ m ∈ p, zmH m) (hx : A4Ok x) (h0 : 0 ≤ k) (h1 : k < 256) : Ev (fun K => qlE K p x k) true := by
  refine qaW ?_
  simp only [qlE, qa8]
  refine qaR zrL (ev_f rfl ?_)
  obtain ⟨b, hb, hf⟩ := few_ev p (n := 6) (most := 4) (by omega)
  refine qaR hb ?_
  cases b with
  | false => exact ev_t rfl (qaR zrL (qa6 _))
  | true =>
    have hf := hf rfl
    refine ev_f rfl ?_
    rw [qdF (x := k) (by omega), qdF (x := 2 + k) (by omega)]
    refine qaR (qnR (by omega)) (qaR (qnR (by omega)) (qaR (zzA h0 h1) ?_))
    obtain ⟨pz, p0, p1⟩ := prt_ok h0 h1
    obtain ⟨⟨x00, x01⟩, ⟨x10, x11⟩, ⟨x20, x21⟩, ⟨x30, x31⟩⟩ := hx
    obtain ⟨a0, b0, lo0, hi0, w0, s0, l0, r0, m0, e00, e01, e02, e03, e04, e05, e06, e07, o0, za0, zb0, zm0⟩ := side x00 x01 pz p0 p1
    obtain ⟨a1, b1, lo1, hi1, w1, s1, l1, r1, m1, e10, e11, e12, e13, e14, e15, e16, e17, o1, za1, zb1, zm1⟩ := side x10 x11 pz p0 p1
    obtain ⟨a2, b2, lo2, hi2, w2, s2, l2, r2, m2, e20, e21, e22, e23, e24, e25, e26, e27, o2, za2, zb2, zm2⟩ := side x20 x21 pz p0 p1
    obtain ⟨a3, b3, lo3, hi3, w3, s3, l3, r3, m3, e30, e31, e32, e33, e34, e35, e36, e37, o3, za3, zb3, zm3⟩ := side x30 x31 pz p0 p1
    have v0 : wI6 ((0 : Int) + 1) = 1 := by decide
    have v1 : wI6 ((1 : Int) + 1) = 2 := by decide
    have v2 : wI6 ((2 : Int) + 1) = 3 := by decide
    have v3 : wI6 ((3 : Int) + 1) = 4 := by decide
    refine qaW ?_
    simp only [qa8, v0]
    refine ev_t rfl (ev_t rfl (qaR e00 (qaR e01 (qaR e02 (qaR e03 (qaR e04 (qaR e05 (qaR e06 (qaR e07 ?_)))))))))
    refine qaW ?_
    simp only [qa8, v1]
    refine ev_t rfl (ev_f rfl (ev_t rfl (qaR e10 (qaR e11 (qaR e12 (qaR e13 (qaR e14 (qgA (by simp) (qaR e15 (qaR e16 (qgA (by simp) (qaR e17 (qgA (by simp) ?_)))))))))))))
    refine qaW ?_
    simp only [qa8, v2]
    refine ev_t rfl (ev_f rfl (ev_f rfl (ev_t rfl (qaR e20 (qaR e21 (qaR e22 (qaR e23 (qaR e24 (qgA (by simp) (qaR e25 (qaR e26 (qgA (by simp) (qaR e27 (qgA (by simp) ?_))))))))))))))
    refine qaW ?_
    simp only [qa8, v3]
    refine ev_t rfl (ev_f rfl (ev_f rfl (ev_f rfl (ev_t rfl (qaR e30 (qaR e31 (qaR e32 (qaR e33 (qaR e34 (qgA (by simp) (qaR e35 (qaR e36 (qgA (by simp) (qaR e37 (qgA (by simp) ?_)))))))))))))))
    refine qaW ?_
    simp only [qa8]
    refine ev_f rfl ?_
    obtain ⟨q, hC, hW, hq, _⟩ := zy8 hp hf
    have hlev := zuK hC
    let A : List (qaD × Rat × Rat) := [zp (lo0, hi0), zp (lo1, hi1), zp (lo2, hi2), zp (lo3, hi3)]
    let B : List (qaD × Rat × Rat) := [zp (l0, r0), zp (l1, r1), zp (l2, r2), zp (l3, r3)]
    have hA : ∀ q ∈ A, SzI 10 q.2 := by
      intro q hq
      simp only [A, List.mem_cons, List.not_mem_nil, or_false] at hq
      rcases hq with rfl | rfl | rfl | rfl
      · exact za0
      · exact za1
      · exact za2
      · exact za3
    have hB : ∀ q ∈ B, SzI 10 q.2 := by
      intro q hq
      simp only [B, List.mem_cons, List.not_mem_nil, or_false] at hq
      rcases hq with rfl | rfl | rfl | rfl
      · exact zb0
      · exact zb1
      · exact zb2
      · exact zb3
    have eA := q06 (n := 7) (m := 5) (k := 10) (l := A) (by omega) (by omega) (by omega) (by omega) (by omega) (by omega) (by decide) (by simp [A]) hA hC hW
    have eB := q06 (n := 7) (m := 5) (k := 10) (l := B) (by omega) (by omega) (by omega) (by omega) (by omega) (by omega) (by decide) (by simp [B]) hB hC hW
    rw [if_neg (by simp only [A, List.length_cons, List.length_nil]; omega)] at eA
    rw [if_neg (by simp only [B, List.length_cons, List.length_nil]; omega)] at eB
    let ρ : Nat → Rat := fun i => if i = 1 then m0 else if i = 2 then m1 else if i = 3 then m2 else m3
    have nb : ∀ {a b : Rat}, a ≤ b → nrmI (a, b) = (a, b) := fun h => by unfold nrmI; rw [zoQ h, zoW h]
    have tr : ∀ {a b c d e : Rat}, (a ≤ b ∧ b ≤ c ∧ c ≤ d ∧ d ≤ e) → ordI (nrmI (b, d)) ∧ subI (nrmI (b, d)) (nrmI (a, e)) ∧ inI c (nrmI (b, d)) := fun ⟨h1, h2, h3, h4⟩ => by
      have h5 := Rat.le_trans h2 h3
      rw [nb h5, nb (Rat.le_trans h1 (Rat.le_trans h5 h4))]
      exact ⟨h5, ⟨h1, h4⟩, h2, h3⟩
    have hsub : ∀ i, 1 ≤ i → i ≤ 4 → ordI (bxOf B i) ∧ subI (bxOf B i) (bxOf A i) ∧ inI (ρ i) (bxOf B i) := fun i i1 i4 => by
      rcases (by omega : i = 1 ∨ i = 2 ∨ i = 3 ∨ i = 4) with rfl | rfl | rfl | rfl
      · exact tr o0
      · exact tr o1
      · exact tr o2
      · exact tr o3
    obtain ⟨ho, hs⟩ := zvR 4 q hC fun i h1 h2 => ⟨(hsub i h1 h2).1, (hsub i h1 h2).2.1⟩
    have hin := zy0 (ρ := ρ) 4 q hC fun i h1 h2 => (hsub i h1 h2).2.2
    have zA := zp5 (n := 7) (m := 5) (by omega) (by omega) (zuA (by omega) hA) 4 q hC hW
    have zB := zp5 (n := 7) (m := 5) (by omega) (by omega) (zuA (by omega) hB) 4 q hC hW
    have hfs : fS 7 10 5 4 = 12955 := by decide
    rw [hfs] at zA zB
    obtain ⟨sv, hv⟩ := zhE (k := 10) (n := 7) (by omega) zm0 zm1 zm2 zm3 (by omega) (ρ := ρ) rfl rfl rfl rfl hC hW
    refine qaR hq (qaR eA (qaR hq (qaR eB ?_)))
    refine qaR (q9W zB zA (by omega) ho hs) (ev_t rfl (qaR hq (qaR hv (qaR (qqH zB sv (by omega) hin) (qa6 _)))))
end Go.Am.X
namespace Go.Am
def zqM (P : Program) : Nat → List Field → Bool
  | _, [] => true
  | off, f :: fs => f.offset == off && zqM P (off + P.cellsOf f.type) fs
def zmJ (P : Program) : Nat → List Field → Nat
  | off, [] => off
  | off, f :: fs => zmJ P (off + P.cellsOf f.type) fs
def qvE (P : Program) : Nat → TypeId → Bool
  | 0, _ => false
  | n + 1, t => match P.underlying t with
    | some .bool => true
    | some (.int _) => true
    | some (.slice e) => decide (0 < P.cellsOf e) && qvE P n e
    | some (.struct fs) => zqM P 0 fs.toList && (zmJ P 0 fs.toList == P.cellsOf t) && fs.toList.all fun f => qvE P n f.type
    | some (.array m e) => (m * P.cellsOf e == P.cellsOf t) && qvE P n e
    | _ => false
def WtL (W : TypeId → List T → Prop) : List TypeId → List T → Prop
  | [], ts => ts = []
  | t :: r, ts => ∃ a b, ts = a ++ b ∧ W t a ∧ WtL W r b
def Wt (P : Program) : Nat → TypeId → List T → Prop
  | 0, _, _ => False
  | n + 1, t, ts => match P.underlying t with
    | some .bool => ∃ b, ts = [.bool b]
    | some (.int k) => ∃ m, ts = [.int k m] ∧ (Lit.int k m).wf = true
    | some (.slice e) => ∃ es, ts = [.sl (P.cellsOf e) es] ∧ es.length ≤ maxLen ∧ ∀ x ∈ es, Wt P n e x
    | some (.struct fs) => WtL (Wt P n) (fs.toList.map (·.type)) ts
    | some (.array m e) => WtL (Wt P n) (List.replicate m e) ts
    | _ => False
def RepL (w : World) (I : Nat → Nat → Prop) : List Value → List T → Prop
  | [], [] => True
  | v :: vs, t :: ts => Rep w I v t ∧ RepL w I vs ts
  | _, _ => False
theorem RepL.append {w : World} {I : Nat → Nat → Prop} : ∀ {a b : List Value} {x y : List T}, RepL w I a x → RepL w I b y → RepL w I (a ++ b) (x ++ y)
  | [], _, [], _, _, h => h
  | _ :: _, _, _ :: _, _, h, h' => ⟨h.1, h.2.append h'⟩
  | [], _, _ :: _, _, h, _ => h.elim
  | _ :: _, _, [], _, h, _ => h.elim
theorem RepL.length {w : World} {I : Nat → Nat → Prop} : ∀ {a : List Value} {x : List T}, RepL w I a x → a.length = x.length
  | [], [], _ => rfl
  | _ :: _, _ :: _, h => by simp [h.2.length]
  | [], _ :: _, h => h.elim
  | _ :: _, [], h => h.elim
theorem RepL.get {w : World} {I : Nat → Nat → Prop} : ∀ {a : List Value} {x : List T} {k : Nat} {v : Value} {t : T}, RepL w I a x → a[k]? = some v → x[k]? = some t → Rep w I v t
  | _ :: _, _ :: _, 0, _, _, h, h1, h2 => by simp at h1 h2; subst h1; subst h2; exact h.1
  | _ :: _, _ :: _, k + 1, _, _, h, h1, h2 => h.2.get (k := k) (by simpa using h1) (by simpa using h2)
  | [], [], _, _, _, _, h1, _ => by simp at h1
  | [], _ :: _, _, _, _, h, _, _ => h.elim
  | _ :: _, [], _, _, _, h, _, _ => h.elim
theorem RepL.crs {w : World} {I : Nat → Nat → Prop} {L : Loc} {H : List (Nat × Blk)} : ∀ {a : List Value} {x : List T}, RepL w I a x → CRs w L H I a (x.map .t)
  | [], [], _ => trivial
  | _ :: _, _ :: _, h => ⟨⟨h.1.one, h.1⟩, h.2.crs⟩
  | [], _ :: _, h => h.elim
  | _ :: _, [], h => h.elim
section
variable {H : Type} {enc : TypeId × Value → H} {P : Program} {w : World} {base : Nat} {held : Bool}
theorem tile {n : Nat} {I : Nat → Nat → Prop} (cs : List Value) : ∀ (fs : List Field) (off : Nat), zqM P off fs = true → cs.length = zmJ P off fs →
    (∀ f ∈ fs, ∃ ts, Wt P n f.type ts ∧ RepL w I ((cs.drop f.offset).take (P.cellsOf f.type)) ts) → ∃ ts, WtL (Wt P n) (fs.map (·.type)) ts ∧ RepL w I (cs.drop off) ts
  | [], off, _, hl, _ => ⟨[], rfl, by rw [List.drop_of_length_le (by simp only [zmJ] at hl; omega)]; trivial⟩
  | f :: fs, off, ht, hl, h => by
    simp only [zqM, Bool.and_eq_true, beq_iff_eq] at ht
    obtain ⟨a, h1, h2⟩ := h f (List.mem_cons_self ..)
    obtain ⟨b, h3, h4⟩ := tile cs fs (off + P.cellsOf f.type) ht.2 hl (fun g hg => h g (List.mem_cons_of_mem _ hg))
    refine ⟨a ++ b, ⟨a, b, rfl, h1, h3⟩, ?_⟩
    have e : cs.drop off = (cs.drop off).take (P.cellsOf f.type) ++ cs.drop (off + P.cellsOf f.type) := by rw [← List.drop_drop, List.take_append_drop]
    rw [e]
    rw [ht.1] at h2
    exact h2.append h4
theorem tileA {n c : Nat} {e : TypeId} {I : Nat → Nat → Prop} (cs : List Value) : ∀ (m i : Nat), cs.length = (i + m) * c →
    (∀ j, j < i + m → ∃ ts, Wt P n e ts ∧ RepL w I ((cs.drop (j * c)).take c) ts) → ∃ ts, WtL (Wt P n) (List.replicate m e) ts ∧ RepL w I (cs.drop (i * c)) ts
  | 0, i, hl, _ => ⟨[], rfl, by rw [List.drop_of_length_le (by rw [hl]; simp)]; trivial⟩
  | m + 1, i, hl, h => by
    obtain ⟨a, h1, h2⟩ := h i (by omega)
    obtain ⟨b, h3, h4⟩ := tileA cs m (i + 1) (by rw [hl]; congr 1; omega) (fun j hj => h j (by omega))
    refine ⟨a ++ b, ⟨a, b, rfl, h1, h3⟩, ?_⟩
    have e : cs.drop (i * c) = (cs.drop (i * c)).take c ++ cs.drop ((i + 1) * c) := by rw [Nat.add_mul, Nat.one_mul, ← List.drop_drop, List.take_append_drop]
    rw [e]
    exact h2.append h4
theorem zo5 {a : Addr} {v : Value} (h : w.cell? a = some v) : a.spot = none ∧ a.block < w.heap.size := by
  unfold World.cell? at h
  split at h
  · rename_i hg
    split at h
    · cases h
    · rename_i hs
      exact ⟨by simpa using hs, (Array.getElem?_eq_some_iff.1 hg).1⟩
  · cases h
theorem q4G : ∀ (n : Nat) (t : TypeId) (fuel : Nat) (cs : List Value) (x : DataW H × List MemPlace), qvE P n t = true → DataW.trod enc P w 0 (fun _ => true) held fuel t cs = some x →
    ∃ ts, Wt P n t ts ∧ RepL w (fun b _ => b < w.heap.size) cs ts
  | 0, _, _, _, _, hp, _ => by cases hp
  | n + 1, t, fuel, cs, x, hp, h => by
    unfold qvE at hp
    unfold Wt
    split at hp
    · rename_i hu
      obtain ⟨b, rfl, rfl⟩ := DataW.trod_bool hu h
      exact ⟨_, ⟨b, rfl⟩, .bool b, trivial⟩
    · rename_i k hu
      obtain ⟨m, rfl, rfl, hw⟩ := DataW.trod_int hu h
      exact ⟨_, ⟨m, rfl, hw⟩, .int k m, trivial⟩
    · rename_i e hu
      simp only [Bool.and_eq_true, decide_eq_true_eq] at hp
      rcases Deep.open_slice hu h with ⟨rfl, _⟩ | ⟨a, len, cap, m, n', D, Pl, rfl, _, hlc, hcm, hm, _, hel⟩
      · exact ⟨_, ⟨[], rfl, Nat.zero_le _, by simp⟩, .nil _, trivial⟩
      · simp only [if_true] at hm
        subst hm
        by_cases hc : m = 0
        · subst hc
          have : len = 0 := by omega
          subst this
          exact ⟨_, ⟨[], rfl, Nat.zero_le _, by simp⟩, .emp a _, trivial⟩
        · obtain ⟨cs0, h0, _⟩ := hel 0 (by omega)
          obtain ⟨_, hl0, hg0⟩ := World.cells?_some h0
          have hsp : a.spot = none := by
            have hz := hg0 0 hp.1
            rw [List.getElem?_eq_getElem (by omega), Nat.zero_mul] at hz
            simp only [Addr.add, if_true] at hz
            exact (zo5 hz).1
          obtain ⟨b, off, sp⟩ := a
          simp only at hsp
          subst hsp
          obtain ⟨f, hf⟩ := Deep.choose_lt (α := List Value × List T) (n := len) (p := fun i y => w.cells? 0 ((⟨b, off, none⟩ : Addr).add (i * P.cellsOf e)) (P.cellsOf e) = some y.1 ∧ Wt P n e y.2 ∧ RepL w (fun b _ => b < w.heap.size) y.1 y.2) (fun i hi => by
            obtain ⟨cs', h1, h2⟩ := hel i (by omega)
            obtain ⟨ts, h3, h4⟩ := q4G n e n' cs' _ hp.2 h2
            exact ⟨(cs', ts), h1, h3, h4⟩)
          have hlen : ∀ i, i < len → (f i).1.length = P.cellsOf e ∧ (f i).2.length = P.cellsOf e := fun i hi => by
            obtain ⟨g1, _, g3⟩ := hf i hi
            have := (World.cells?_some g1).2.1
            exact ⟨this, by rw [← g3.length, this]⟩
          have hcell : ∀ i k, i < len → k < P.cellsOf e → w.cell? ⟨b, off + i * P.cellsOf e + k, none⟩ = some ((f i).1.getD k undef) := fun i k hi hk => by
            obtain ⟨g1, _, _⟩ := hf i hi
            have := (World.cells?_some g1).2.2 k hk
            rw [qtE, qtE] at this
            rw [this, List.getD, List.getElem?_eq_getElem (by rw [(hlen i hi).1]; exact hk)]
            rfl
          refine ⟨_, ⟨(List.range len).map fun i => (f i).2, rfl, by simp; omega, ?_⟩, ?_, trivial⟩
          · intro y hy
            obtain ⟨i, hi, rfl⟩ := List.mem_map.1 hy
            exact (hf i (List.mem_range.1 hi)).2.1
          · refine .sl b off len m _ _ (fun i k => (f i).1.getD k undef) (fun i k => (f i).2.getD k (.bool false)) (by simp) hlc ?_ ?_ ?_ hcell ?_
            · intro y hy
              obtain ⟨i, hi, rfl⟩ := List.mem_map.1 hy
              exact (hlen i (List.mem_range.1 hi)).2
            · intro i k y hy hk
              rw [List.getElem?_map] at hy
              obtain ⟨j, hj, rfl⟩ := Option.map_eq_some_iff.1 hy
              obtain ⟨hj1, hj2⟩ := List.getElem?_eq_some_iff.1 hj
              simp only [List.length_range] at hj1
              simp only [List.getElem_range] at hj2
              subst hj2
              rw [List.getD, List.getElem?_eq_getElem (by rw [(hlen i hj1).2]; exact hk)]
              rfl
            · intro i k hi hk
              exact (zo5 (hcell i k hi hk)).2
            · intro i k hi hk
              refine (hf i hi).2.2.get (k := k) ?_ ?_
              · rw [List.getD, List.getElem?_eq_getElem (by rw [(hlen i hi).1]; exact hk)]; rfl
              · rw [List.getD, List.getElem?_eq_getElem (by rw [(hlen i hi).2]; exact hk)]; rfl
    · rename_i fs hu
      simp only [Bool.and_eq_true, beq_iff_eq, List.all_eq_true] at hp
      obtain ⟨xs, n', _, _, hl, hxl, hx⟩ := DataW.trod_struct hu h
      have := tile (w := w) (n := n) (I := fun b _ => b < w.heap.size) cs fs.toList 0 hp.1.1 (by rw [hl, hp.1.2]) (fun f hf => by
        obtain ⟨i, hi, hif⟩ := List.getElem_of_mem hf
        have h1 := hx i f (by rw [← Array.getElem?_toList, List.getElem?_eq_getElem hi, hif])
        rw [List.getElem?_eq_getElem (by rw [hxl]; simpa using hi)] at h1
        exact q4G n f.type n' _ _ (hp.2 f hf) h1)
      rw [List.drop_zero] at this
      exact this
    · rename_i m e hu
      simp only [Bool.and_eq_true, beq_iff_eq] at hp
      obtain ⟨xs, n', _, _, hl, hxl, hx⟩ := DataW.trod_array hu h
      have := tileA (w := w) (n := n) (e := e) (c := P.cellsOf e) (I := fun b _ => b < w.heap.size) cs m 0 (by rw [hl, Nat.zero_add, hp.1]) (fun j hj => by
        have h1 := hx j (by omega)
        rw [List.getElem?_eq_getElem (by omega)] at h1
        exact q4G n e n' _ _ hp.2 h1)
      rw [Nat.zero_mul, List.drop_zero] at this
      exact this
    · cases hp
def zu9 : List T → TV
  | [x] => .c x
  | ts => .agg ts
def tvOf (P : Program) (t : TypeId) (ts : List T) : TV := match P.underlying t with
  | some (.struct _) | some (.array _ _) => .agg ts
  | _ => zu9 ts
theorem q4H {n : Nat} {t : TypeId} {v : Value} {d : DataW H} {ps : List MemPlace} {r : Reach} (hp : qvE P n t = true) (hv : Value.okWide P w r base t v)
    (h : DataW.Trod enc P w 0 (fun _ => true) held t v d ps) : ∃ ts, Wt P n t ts ∧ TVR w (fun b _ => b < w.heap.size) v (tvOf P t ts) := by
  obtain ⟨fuel, h⟩ := h
  obtain ⟨ts, h1, h2⟩ := q4G n t fuel _ _ hp h
  refine ⟨ts, h1, ?_⟩
  have agg : (∃ cs : Array Value, v = .agg cs) → TVR w (fun b _ => b < w.heap.size) v (.agg ts) := by
    rintro ⟨cs, rfl⟩
    exact ⟨cs, rfl, h2.crs⟩
  have one : (∀ cs : Array Value, v ≠ .agg cs) → TVR w (fun b _ => b < w.heap.size) v (zu9 ts) := by
    intro hne
    clear agg h1
    have hc : v.cells.toList = [v] := by
      cases v <;> first | rfl | exact absurd rfl (hne _)
    rw [hc] at h2
    match ts, h2 with
    | [x], h2 => exact h2.1
    | [], h2 => exact h2.elim
    | _ :: _ :: _, h2 => exact h2.2.elim
  unfold qvE at hp
  unfold tvOf
  unfold Value.okWide at hv
  cases n with
  | zero => cases hp
  | succ n =>
    simp only at hp
    split at hp
    · rename_i hu
      simp only [hu] at hv ⊢
      refine one fun cs e => ?_
      subst e
      simp [Cell.okWide, Cell.ok, hu] at hv
    · rename_i k hu
      simp only [hu] at hv ⊢
      refine one fun cs e => ?_
      subst e
      simp [Cell.okWide, Cell.ok, hu] at hv
    · rename_i k hu
      simp only [hu] at hv ⊢
      refine one fun cs e => ?_
      subst e
      simp [Cell.okWide, Cell.ok, hu] at hv
    · rename_i k hu
      simp only [hu] at hv ⊢
      obtain ⟨cs, rfl, _⟩ := hv
      exact agg ⟨cs, rfl⟩
    · rename_i m k hu
      simp only [hu] at hv ⊢
      obtain ⟨cs, rfl, _⟩ := hv
      exact agg ⟨cs, rfl⟩
    · cases hp
end
open Go.RowKit (Below)
section
variable {H : Type} {enc : TypeId × Value → H} {P : Program} {W : World} {r : Reach} {base n : Nat} {held : Bool} {t0 t1 t2 : TypeId} {v0 v1 v2 : Value} {d0 d1 d2 : DataW H} {p0 p1 p2 : List MemPlace}
theorem open3 (n0 : qvE P n t0 = true) (n1 : qvE P n t1 = true) (n2 : qvE P n t2 = true) (h : ∀ (j : Nat) t v, #[t0, t1, t2][j]? = some t → #[v0, v1, v2][j]? = some v → Value.okWide P W r base t v)
    (h0 : DataW.Trod enc P W 0 (fun _ => true) held t0 v0 d0 p0) (h1 : DataW.Trod enc P W 0 (fun _ => true) held t1 v1 d1 p1) (h2 : DataW.Trod enc P W 0 (fun _ => true) held t2 v2 d2 p2) :
    (∃ ts, Wt P n t0 ts ∧ TVR W (fun b _ => b < W.heap.size) v0 (tvOf P t0 ts)) ∧ (∃ ts, Wt P n t1 ts ∧ TVR W (fun b _ => b < W.heap.size) v1 (tvOf P t1 ts)) ∧ (∃ ts, Wt P n t2 ts ∧ TVR W (fun b _ => b < W.heap.size) v2 (tvOf P t2 ts)) :=
  ⟨q4H n0 (h 0 t0 v0 rfl rfl) h0, q4H n1 (h 1 t1 v1 rfl rfl) h1, q4H n2 (h 2 t2 v2 rfl rfl) h2⟩
end
theorem zr5 {P : Program} {f : FuncId} {args : List TV} {W : World} {vs : List Value} (h : qc7 P f args (.c (.bool true))) (hv : TVRs W (fun b _ => b < W.heap.size) vs args) :
    Calls P f vs.toArray W fun e w' => e = .returned (.bool true) ∧ Below W.heap.size W w' := by
  refine (h _ W vs (fun _ _ h => h) hv).mono fun e w' ⟨v, he, hB, I', _, _, _, hr⟩ => ⟨?_, hB⟩
  have : Rep w' I' v (.bool true) := hr
  cases this
  exact he
theorem zsG {α : Type} {P : Program} {n : Nat} {e : TypeId} {ce : α → List T} {good : α → Prop} (h : ∀ ts, Wt P n e ts → ∃ a, ts = ce a ∧ good a) :
    ∀ es : List (List T), (∀ x ∈ es, Wt P n e x) → ∃ l : List α, es = l.map ce ∧ ∀ a ∈ l, good a
  | [], _ => ⟨[], rfl, fun _ h => by cases h⟩
  | x :: es, hx => by
    obtain ⟨a, rfl, ga⟩ := h x (hx x (List.mem_cons_self ..))
    obtain ⟨l, rfl, gl⟩ := zsG h es fun y hy => hx y (List.mem_cons_of_mem _ hy)
    exact ⟨a :: l, rfl, fun b hb => (List.mem_cons.1 hb).elim (fun e => e ▸ ga) (gl b)⟩
end Go.Am
namespace Go.Am.X
open Go.Proofs
theorem zxV {n : Nat} {t : TypeId} (ht : Tryz.prog.underlying t = some (.int .i8)) {ts : List T} (h : Wt Tryz.prog n t ts) : ∃ x, ts = [T.int .i8 x] ∧ -128 ≤ x ∧ x < 128 := by
  cases n with
  | zero => exact h.elim
  | succ n =>
    simp only [Wt, ht] at h
    obtain ⟨m, rfl, hw⟩ := h
    have hx : -128 ≤ m ∧ m ≤ 127 := by simpa [Lit.wf, IntKind.min, IntKind.max, IntKind.signed, IntKind.bits] using hw
    exact ⟨m, rfl, by omega⟩
theorem zsF {n : Nat} {t : TypeId} (ht : Tryz.prog.underlying t = some (.int .u8)) {ts : List T} (h : Wt Tryz.prog n t ts) : ∃ x, ts = [T.int .u8 x] ∧ 0 ≤ x ∧ x < 256 := by
  cases n with
  | zero => exact h.elim
  | succ n =>
    simp only [Wt, ht] at h
    obtain ⟨m, rfl, hw⟩ := h
    have hx : 0 ≤ m ∧ m ≤ 255 := by simpa [Lit.wf, IntKind.min, IntKind.max, IntKind.signed, IntKind.bits] using hw
    exact ⟨m, rfl, by omega⟩
theorem own : ownKnob Tryz.prog.godebug = none := by kernel_rfl
theorem zpZ : laidOutB Tryz.prog = true := by kernel_rfl
open Go.Proofs
def ok91 (q : zwG) : Prop := (0 ≤ q.e0 ∧ q.e0 < 256) ∧ (0 ≤ q.e1 ∧ q.e1 < 256) ∧ (0 ≤ q.e2 ∧ q.e2 < 256) ∧ (0 ≤ q.e3 ∧ q.e3 < 256)
theorem wt91 {n : Nat} {ts : List T} (h : Wt Tryz.prog n 91 ts) : ∃ q : zwG, ts = zv2 q ∧ ok91 q := by
  cases n with
  | zero => exact h.elim
  | succ n =>
    simp only [Wt, Tryz.underlying91] at h
    obtain ⟨a0, b0, rfl, h0, a1, b1, rfl, h1, a2, b2, rfl, h2, a3, b3, rfl, h3, rfl⟩ := h
    obtain ⟨x0, rfl, g0⟩ := zsF Tryz.underlying5 h0
    obtain ⟨x1, rfl, g1⟩ := zsF Tryz.underlying5 h1
    obtain ⟨x2, rfl, g2⟩ := zsF Tryz.underlying5 h2
    obtain ⟨x3, rfl, g3⟩ := zsF Tryz.underlying5 h3
    exact ⟨⟨x0, x1, x2, x3⟩, rfl, g0, g1, g2, g3⟩
def ok93 (q : qbB) : Prop := (-128 ≤ q.Coef ∧ q.Coef < 128) ∧ ok91 q.Exp
theorem wt93 {n : Nat} {ts : List T} (h : Wt Tryz.prog n 93 ts) : ∃ q : qbB, ts = qaQ q ∧ ok93 q := by
  cases n with
  | zero => exact h.elim
  | succ n =>
    simp only [Wt, Tryz.underlying93] at h
    obtain ⟨a0, b0, rfl, h0, a1, b1, rfl, h1, rfl⟩ := h
    obtain ⟨x0, rfl, g0⟩ := zxV Tryz.underlying23 h0
    obtain ⟨x1, rfl, g1⟩ := wt91 h1
    exact ⟨⟨x0, x1⟩, rfl, g0, g1⟩
theorem zy2 : Tryz.prog.cellsOf 93 = 5 := by kernel_rfl
theorem wt22 {n : Nat} {ts : List T} (h : Wt Tryz.prog n 22 ts) : ∃ f : (List qbB), ts = qoD f ∧ (∀ a ∈ f, ok93 a) ∧ f.length ≤ maxLen := by
  cases n with
  | zero => exact h.elim
  | succ n =>
    simp only [Wt, Tryz.underlying22] at h
    obtain ⟨es, rfl, hl, hx⟩ := h
    obtain ⟨l, rfl, hg⟩ := zsG (ce := qaQ) (good := ok93) (fun ts h => wt93 h) es hx
    exact ⟨l, by rw [zy2]; rfl, hg, by simpa using hl⟩
def ok24 (q : zdG) : Prop := (-128 ≤ q.e0 ∧ q.e0 < 128) ∧ (-128 ≤ q.e1 ∧ q.e1 < 128)
theorem wt24 {n : Nat} {ts : List T} (h : Wt Tryz.prog n 24 ts) : ∃ q : zdG, ts = qiF q ∧ ok24 q := by
  cases n with
  | zero => exact h.elim
  | succ n =>
    simp only [Wt, Tryz.underlying24] at h
    obtain ⟨a0, b0, rfl, h0, a1, b1, rfl, h1, rfl⟩ := h
    obtain ⟨x0, rfl, g0⟩ := zxV Tryz.underlying23 h0
    obtain ⟨x1, rfl, g1⟩ := zxV Tryz.underlying23 h1
    exact ⟨⟨x0, x1⟩, rfl, g0, g1⟩
def ok25 (q : qx4) : Prop := ok24 q.e0 ∧ ok24 q.e1
theorem wt25 {n : Nat} {ts : List T} (h : Wt Tryz.prog n 25 ts) : ∃ q : qx4, ts = zp8 q ∧ ok25 q := by
  cases n with
  | zero => exact h.elim
  | succ n =>
    simp only [Wt, Tryz.underlying25] at h
    obtain ⟨a0, b0, rfl, h0, a1, b1, rfl, h1, rfl⟩ := h
    obtain ⟨x0, rfl, g0⟩ := wt24 h0
    obtain ⟨x1, rfl, g1⟩ := wt24 h1
    exact ⟨⟨x0, x1⟩, rfl, g0, g1⟩
def ok26 (q : qk7) : Prop := ok25 q.e0 ∧ ok25 q.e1 ∧ ok25 q.e2 ∧ ok25 q.e3
theorem wt26 {n : Nat} {ts : List T} (h : Wt Tryz.prog n 26 ts) : ∃ q : qk7, ts = qmA q ∧ ok26 q := by
  cases n with
  | zero => exact h.elim
  | succ n =>
    simp only [Wt, Tryz.underlying26] at h
    obtain ⟨a0, b0, rfl, h0, a1, b1, rfl, h1, a2, b2, rfl, h2, a3, b3, rfl, h3, rfl⟩ := h
    obtain ⟨x0, rfl, g0⟩ := wt25 h0
    obtain ⟨x1, rfl, g1⟩ := wt25 h1
    obtain ⟨x2, rfl, g2⟩ := wt25 h2
    obtain ⟨x3, rfl, g3⟩ := wt25 h3
    exact ⟨⟨x0, x1, x2, x3⟩, rfl, g0, g1, g2, g3⟩
theorem tv22 (f : (List qbB)) : tvOf Tryz.prog 22 (qoD f) = .c (.sl 5 (f.map qaQ)) := by simp only [tvOf, Tryz.underlying22, zu9, qoD]
theorem tv26 (b : qk7) : tvOf Tryz.prog 26 (qmA b) = .agg (qmA b) := by simp only [tvOf, Tryz.underlying26]
theorem tv5 (x : Int) : tvOf Tryz.prog 5 [T.int .u8 x] = .c (.int .u8 x) := by simp only [tvOf, Tryz.underlying5, zu9]
end Go.Am.X
namespace Go.Proofs.YteciehfkhmbfeaaGreat.pointShrinks
open Go.ChangeShapes Go.WideShapes Go.ChangeAt Go.RowKit Go.Am Go.Am.X
set_option maxRecDepth 100000 in
theorem contract (H : Type) (enc : TypeId × Value → H) (W : World) (base : Nat) (args : Array Value) (ds gs : List (DataW H)) (before : List MemPlace)
    (hval : ∀ (j : Nat) t v, Tryz.f3.params[j]? = some t → args[j]? = some v → Value.okWide Tryz.prog W .any base t v)
    (hW : DataW.Whole enc Tryz.prog Tryz.f3.params.toList Rows.pointShrinksSpec.vars false W args.toList ds gs before) :
    Calls Tryz.prog 3 args W fun e W' => ∃ v, e = .returned v ∧ Rows.pointShrinksSpec.post enc Tryz.prog Tryz.f3 false true false false W args v W' := by
  have hW' := hW
  obtain ⟨p, q, hA0, hV, rfl, hfz, hnd⟩ := hW
  have hA : DataW.TrodAll enc Tryz.prog W 0 (fun _ => true) true Tryz.f3.params.toList args.toList ds p := hA0
  rw [Tryz.params3] at hA hval
  obtain ⟨v0, vs0, d0, ds0, p0, q0, hargs, rfl, rfl, h0, r0⟩ := trodAll_cons hA
  obtain ⟨v1, vs1, d1, ds1, p1, q1, rfl, rfl, rfl, h1, r1⟩ := trodAll_cons r0
  obtain ⟨v2, vs2, d2, ds2, p2, q2, rfl, rfl, rfl, h2, r2⟩ := trodAll_cons r1
  obtain ⟨rfl, rfl, rfl⟩ := trodAll_nil r2
  obtain rfl : args = #[v0, v1, v2] := by cases args; simp_all
  obtain ⟨rfl, rfl⟩ := trodVars_none hV
  obtain ⟨n, n0, n1, n2⟩ : ∃ n, qvE Tryz.prog n 22 = true ∧ qvE Tryz.prog n 26 = true ∧ qvE Tryz.prog n 5 = true := ⟨6, by kernel_rfl, by kernel_rfl, by kernel_rfl⟩
  obtain ⟨⟨ts0, w0, g0⟩, ⟨ts1, w1, g1⟩, ⟨ts2, w2, g2⟩⟩ := open3 n0 n1 n2 @hval h0 h1 h2
  obtain ⟨x0, rfl, k0⟩ := wt22 w0
  obtain ⟨x1, rfl, k1⟩ := wt26 w1
  obtain ⟨x2, rfl, k2⟩ := zsF Tryz.underlying5 w2
  rw [tv22] at g0
  rw [tv26] at g1
  rw [tv5] at g2
  obtain ⟨K, hK⟩ := zjU k0.1 k1 k2.1 k2.2
  have hh := qtG (hK K (Nat.le_refl _))
  have hlt := hW'.lt
  simp only [List.append_nil] at hW' hlt
  refine (zr5 (vs := [v0, v1, v2]) hh ⟨g0, g1, g2, trivial⟩).mono fun e W' ⟨he, hB⟩ => ?_
  subst he
  refine ⟨_, rfl, _, _, _, [], p0 ++ (p1 ++ p2), [], hW', trodAll_cons_mk (shut_bool Tryz.underlying4 _) trodAll_mk0, ?_, rfl, hB.frame _, fun h => by cases h⟩
  rw [Tryz.params3]
  have := trodAll_cons_mk (Below.trod zpZ (by kernel_rfl) (of_decide_eq_true (by kernel_rfl)) h0 hB (fun x hx => hlt x (List.mem_append_left _ hx))) (trodAll_cons_mk (Below.trod zpZ (by kernel_rfl) (of_decide_eq_true (by kernel_rfl)) h1 hB (fun x hx => hlt x (List.mem_append_right _ (List.mem_append_left _ hx)))) (trodAll_cons_mk (Below.trod zpZ (by kernel_rfl) (of_decide_eq_true (by kernel_rfl)) h2 hB (fun x hx => hlt x (List.mem_append_right _ (List.mem_append_right _ hx)))) trodAll_mk0))
  rw [List.append_nil] at this
  exact this
set_option maxRecDepth 100000 in
theorem lifted (os : Os) (started : os.Started) (H : Type) (enc : TypeId × Value → H) (F : Stop.Interp) :
    ReturnsInHanded {} Tryz.checked os 3 .any ((Rows.OpenSpec.upto Rows.pointShrinksSpec).pre6 enc Tryz.prog Tryz.f3 Rows.pointShrinksUptoRow.domain false) (((Rows.OpenSpec.upto Rows.pointShrinksSpec).at F).post enc Tryz.prog Tryz.f3 false true false false) := by
  refine returnsInHanded_of_cond (C := Tryz.checked) (s := Rows.OpenSpec.upto Rows.pointShrinksSpec) (k := Rows.uptoSmall) rfl own started (by kernel_rfl) Tryz.func3
    (OpenSpec.witness (enc := enc) (C := Tryz.checked) (s := Rows.OpenSpec.upto Rows.pointShrinksSpec) (k := Rows.uptoSmall) rfl false ⟨#[], #[.slice none 0 0, .agg #[.int .i8 0, .int .i8 0, .int .i8 0, .int .i8 0, .int .i8 0, .int .i8 0, .int .i8 0, .int .i8 0, .int .i8 0, .int .i8 0, .int .i8 0, .int .i8 0, .int .i8 0, .int .i8 0, .int .i8 0, .int .i8 0], .int .u8 0], []⟩ 8 (by kernel_rfl) (by kernel_rfl) (by kernel_rfl)
      (x := ([.nil, .agg [.agg [.agg [.lit (.int .i8 0), .lit (.int .i8 0)], .agg [.lit (.int .i8 0), .lit (.int .i8 0)]], .agg [.agg [.lit (.int .i8 0), .lit (.int .i8 0)], .agg [.lit (.int .i8 0), .lit (.int .i8 0)]], .agg [.agg [.lit (.int .i8 0), .lit (.int .i8 0)], .agg [.lit (.int .i8 0), .lit (.int .i8 0)]], .agg [.agg [.lit (.int .i8 0), .lit (.int .i8 0)], .agg [.lit (.int .i8 0), .lit (.int .i8 0)]]], .lit (.int .u8 0)], [], [])) (by kernel_rfl) rfl (by kernel_rfl)) ?_
  intro W base args ds gs before hval hW _ hk _
  exact contract H enc W base args ds gs before hval hW
theorem over : Rows.pointShrinksUptoRow.holds Tryz.pinned (Rows.OpenSpec.upto Rows.pointShrinksSpec) :=
  OpenClaim.holds_of_cond 3 Tryz.f3 rfl rfl rfl rfl rfl rfl rfl ⟨rfl, rfl, rfl, rfl, rfl⟩ rfl rfl rfl rfl rfl (by kernel_rfl) Tryz.func3 (by kernel_rfl)
    (of_decide_eq_true (by kernel_rfl)) (by unfold Func.isWrapper; first | (rw [if_pos (by decide +kernel)]; kernel_rfl) | (rw [if_neg (by decide +kernel)]; exact ⟨rfl, rfl⟩))
    (fun os started H enc _ F => lifted os started H enc F)
theorem proved : Rows.PointShrinksUptoSaid :=
  over
end Go.Proofs.YteciehfkhmbfeaaGreat.pointShrinks
