/- Part 5 of the proof: Fn_hensel_Lift Fn_unipoly_Compare Fn_unipoly_Same Fn_cylinderlaw12_fit Fit Fn_hensel_Exponent Fn_cylinderlaw12_HenselExponent M10. -/
import Derived.Test.YteciehfkhmbfeaaCb
import Derived.Test.YteciehfkhmbfeaaCc
import Derived.Test.YteciehfkhmbfeaaCd
namespace Go.Am.X
open Go.Proofs.Try (prog)


inductive hensel_Lift_Cut where
  | c0 (f : (List integer_Int)) (list : (List (List Int))) (p : Int) (k : Int)
  | c1 (base : integer_Int) (top : integer_Int) (f : (List integer_Int)) (list : (List (List Int))) (p : Int) (k : Int) (t63 : Int) (t64 : Int)
  | c2 (base : integer_Int) (top : integer_Int) (p : Int) (k : Int) (goal : (List integer_Int)) (monic : (List (List Int))) (parts : (List (List Int))) (t85 : (List (List Int))) (t86 : Int) (t87 : Int)
  | c3 (base : integer_Int) (top : integer_Int) (r97 : (List (List integer_Int))) (p : Int) (k : Int) (goal : (List integer_Int)) (monic : (List (List Int))) (parts : (List (List Int))) (t85 : (List (List Int))) (t86 : Int) (t87 : Int)
  | c4 (base : integer_Int) (top : integer_Int) (power : integer_Int) (p : Int) (k : Int) (goal : (List integer_Int)) (monic : (List (List Int))) (parts : (List (List Int))) (step : Int)
  | c5 (base : integer_Int) (top : integer_Int) (pair : (List (List integer_Int))) (power : integer_Int) (p : Int) (k : Int) (goal : (List integer_Int)) (monic : (List (List Int))) (parts : (List (List Int))) (step : Int)
  | c6 (base : integer_Int) (top : integer_Int) (power : integer_Int) (p : Int) (k : Int) (goal : (List integer_Int)) (monic : (List (List Int))) (parts : (List (List Int))) (step : Int) (t131 : (List integer_Int)) (t132 : Int) (t133 : Int)
  | c7 (base : integer_Int) (top : integer_Int) (pair : (List (List integer_Int))) (power : integer_Int) (p : Int) (k : Int) (goal : (List integer_Int)) (monic : (List (List Int))) (parts : (List (List Int))) (step : Int) (now : (List (List integer_Int))) (t131 : (List integer_Int)) (t132 : Int) (t133 : Int)
  | c8 (base : integer_Int) (top : integer_Int) (pair : (List (List integer_Int))) (power : integer_Int) (p : Int) (k : Int) (goal : (List integer_Int)) (monic : (List (List Int))) (parts : (List (List Int))) (step : Int) (t131 : (List integer_Int)) (t132 : Int) (t133 : Int)
  | c9 (base : integer_Int) (top : integer_Int) (power : integer_Int) (r148 : (List Int)) (p : Int) (k : Int) (goal : (List integer_Int)) (monic : (List (List Int))) (parts : (List (List Int))) (step : Int) (t131 : (List integer_Int)) (t132 : Int) (t133 : Int)
  | c10 (base : integer_Int) (top : integer_Int) (power : integer_Int) (next : integer_Int) (p : Int) (k : Int) (goal : (List integer_Int)) (monic : (List (List Int))) (parts : (List (List Int))) (step : Int) (t154 : Int) (t155 : Int)
  | c11 (base : integer_Int) (top : integer_Int) (pair : (List (List integer_Int))) (power : integer_Int) (r148 : (List Int)) (p : Int) (k : Int) (goal : (List integer_Int)) (monic : (List (List Int))) (parts : (List (List Int))) (step : Int) (now : (List (List integer_Int))) (t131 : (List integer_Int)) (t132 : Int) (t133 : Int)
  | c12 (base : integer_Int) (top : integer_Int) (pair : (List (List integer_Int))) (power : integer_Int) (next : integer_Int) (p : Int) (k : Int) (goal : (List integer_Int)) (monic : (List (List Int))) (parts : (List (List Int))) (step : Int) (t153 : (List (List integer_Int))) (t154 : Int) (t155 : Int)
  | c13 (base : integer_Int) (top : integer_Int) (pair : (List (List integer_Int))) (power : integer_Int) (r148 : (List Int)) (p : Int) (k : Int) (goal : (List integer_Int)) (monic : (List (List Int))) (parts : (List (List Int))) (step : Int) (t131 : (List integer_Int)) (t132 : Int) (t133 : Int)
  | c14 (base : integer_Int) (top : integer_Int) (pair : (List (List integer_Int))) (power : integer_Int) (next : integer_Int) (p : Int) (k : Int) (goal : (List integer_Int)) (monic : (List (List Int))) (parts : (List (List Int))) (step : Int) (t154 : Int) (t155 : Int)
  | c15 (base : integer_Int) (top : integer_Int) (power : integer_Int) (next : integer_Int) (r148 : (List Int)) (p : Int) (k : Int) (goal : (List integer_Int)) (monic : (List (List Int))) (parts : (List (List Int))) (step : Int) (t154 : Int) (t155 : Int)
  | c16 (base : integer_Int) (top : integer_Int) (power : integer_Int) (p : Int) (k : Int) (goal : (List integer_Int)) (monic : (List (List Int))) (parts : (List (List Int))) (step : Int)
  | c17 (base : integer_Int) (top : integer_Int) (pair : (List (List integer_Int))) (power : integer_Int) (next : integer_Int) (r148 : (List Int)) (p : Int) (k : Int) (goal : (List integer_Int)) (monic : (List (List Int))) (parts : (List (List Int))) (step : Int) (t153 : (List (List integer_Int))) (t154 : Int) (t155 : Int)
  | c18 (base : integer_Int) (top : integer_Int) (pair : (List (List integer_Int))) (power : integer_Int) (next : integer_Int) (r193 : (List (List integer_Int))) (p : Int) (k : Int) (goal : (List integer_Int)) (monic : (List (List Int))) (parts : (List (List Int))) (step : Int) (t153 : (List (List integer_Int))) (t154 : Int) (t155 : Int)
  | c19 (base : integer_Int) (top : integer_Int) (pair : (List (List integer_Int))) (power : integer_Int) (p : Int) (k : Int) (goal : (List integer_Int)) (monic : (List (List Int))) (parts : (List (List Int))) (step : Int)
  | c20 (base : integer_Int) (top : integer_Int) (pair : (List (List integer_Int))) (power : integer_Int) (next : integer_Int) (r148 : (List Int)) (p : Int) (k : Int) (goal : (List integer_Int)) (monic : (List (List Int))) (parts : (List (List Int))) (step : Int) (t154 : Int) (t155 : Int)
  | c21 (base : integer_Int) (top : integer_Int) (pair : (List (List integer_Int))) (power : integer_Int) (next : integer_Int) (r193 : (List (List integer_Int))) (p : Int) (k : Int) (goal : (List integer_Int)) (monic : (List (List Int))) (parts : (List (List Int))) (step : Int) (change : (List Int)) (t153 : (List (List integer_Int))) (t154 : Int) (t155 : Int)
  | c22 (base : integer_Int) (top : integer_Int) (power : integer_Int) (r193 : (List (List integer_Int))) (p : Int) (k : Int) (goal : (List integer_Int)) (monic : (List (List Int))) (parts : (List (List Int))) (step : Int)
  | c23 (base : integer_Int) (top : integer_Int) (pair : (List (List integer_Int))) (power : integer_Int) (r193 : (List (List integer_Int))) (p : Int) (k : Int) (goal : (List integer_Int)) (monic : (List (List Int))) (parts : (List (List Int))) (step : Int)
  | c24 (base : integer_Int) (top : integer_Int) (pair : A2_Lunipoly_Poly) (power : integer_Int) (p : Int) (k : Int) (goal : (List integer_Int)) (monic : (List (List Int))) (parts : (List (List Int))) (step : Int)
  | c25 (base : integer_Int) (top : integer_Int) (pair : A2_Lunipoly_Poly) (power : integer_Int) (p : Int) (k : Int) (goal : (List integer_Int)) (monic : (List (List Int))) (parts : (List (List Int))) (step : Int) (now : (List (List integer_Int))) (t131 : (List integer_Int)) (t132 : Int) (t133 : Int)
  | c26 (base : integer_Int) (top : integer_Int) (pair : A2_Lunipoly_Poly) (power : integer_Int) (r148 : (List Int)) (p : Int) (k : Int) (goal : (List integer_Int)) (monic : (List (List Int))) (parts : (List (List Int))) (step : Int) (now : (List (List integer_Int))) (t131 : (List integer_Int)) (t132 : Int) (t133 : Int)
  | c27 (base : integer_Int) (top : integer_Int) (pair : A2_Lunipoly_Poly) (power : integer_Int) (next : integer_Int) (p : Int) (k : Int) (goal : (List integer_Int)) (monic : (List (List Int))) (parts : (List (List Int))) (step : Int) (t153 : (List (List integer_Int))) (t154 : Int) (t155 : Int)
  | c28 (base : integer_Int) (top : integer_Int) (pair : A2_Lunipoly_Poly) (power : integer_Int) (next : integer_Int) (r148 : (List Int)) (p : Int) (k : Int) (goal : (List integer_Int)) (monic : (List (List Int))) (parts : (List (List Int))) (step : Int) (t153 : (List (List integer_Int))) (t154 : Int) (t155 : Int)
  | c29 (base : integer_Int) (top : integer_Int) (pair : A2_Lunipoly_Poly) (power : integer_Int) (next : integer_Int) (r193 : (List (List integer_Int))) (p : Int) (k : Int) (goal : (List integer_Int)) (monic : (List (List Int))) (parts : (List (List Int))) (step : Int) (t153 : (List (List integer_Int))) (t154 : Int) (t155 : Int)
  | c30 (base : integer_Int) (top : integer_Int) (pair : (List (List integer_Int))) (power : integer_Int) (p : Int) (k : Int) (goal : (List integer_Int)) (monic : (List (List Int))) (parts : (List (List Int))) (step : Int)
  | c31 (base : integer_Int) (top : integer_Int) (pair : A2_Lunipoly_Poly) (power : integer_Int) (next : integer_Int) (r193 : (List (List integer_Int))) (p : Int) (k : Int) (goal : (List integer_Int)) (monic : (List (List Int))) (parts : (List (List Int))) (step : Int) (change : (List Int)) (t153 : (List (List integer_Int))) (t154 : Int) (t155 : Int)
  | c32 (base : integer_Int) (top : integer_Int) (pair : (List (List integer_Int))) (power : integer_Int) (r193 : (List (List integer_Int))) (p : Int) (k : Int) (goal : (List integer_Int)) (monic : (List (List Int))) (parts : (List (List Int))) (step : Int)
  | c33 (base : integer_Int) (top : integer_Int) (pair : (List (List integer_Int))) (power : integer_Int) (p : Int) (k : Int) (goal : (List integer_Int)) (monic : (List (List Int))) (parts : (List (List Int))) (step : Int)
  | c34 (base : integer_Int) (top : integer_Int) (pair : (List (List integer_Int))) (power : integer_Int) (p : Int) (k : Int) (goal : (List integer_Int)) (monic : (List (List Int))) (parts : (List (List Int))) (step : Int) (t131 : (List integer_Int)) (t132 : Int) (t133 : Int)
  | c35 (base : integer_Int) (top : integer_Int) (pair : (List (List integer_Int))) (power : integer_Int) (p : Int) (k : Int) (goal : (List integer_Int)) (monic : (List (List Int))) (parts : (List (List Int))) (step : Int) (now : (List (List integer_Int))) (t131 : (List integer_Int)) (t132 : Int) (t133 : Int)
  | c36 (base : integer_Int) (top : integer_Int) (pair : (List (List integer_Int))) (power : integer_Int) (r148 : (List Int)) (p : Int) (k : Int) (goal : (List integer_Int)) (monic : (List (List Int))) (parts : (List (List Int))) (step : Int) (t131 : (List integer_Int)) (t132 : Int) (t133 : Int)
  | c37 (base : integer_Int) (top : integer_Int) (pair : (List (List integer_Int))) (power : integer_Int) (next : integer_Int) (p : Int) (k : Int) (goal : (List integer_Int)) (monic : (List (List Int))) (parts : (List (List Int))) (step : Int) (t154 : Int) (t155 : Int)
  | c38 (base : integer_Int) (top : integer_Int) (pair : (List (List integer_Int))) (power : integer_Int) (r148 : (List Int)) (p : Int) (k : Int) (goal : (List integer_Int)) (monic : (List (List Int))) (parts : (List (List Int))) (step : Int) (now : (List (List integer_Int))) (t131 : (List integer_Int)) (t132 : Int) (t133 : Int)
  | c39 (base : integer_Int) (top : integer_Int) (pair : (List (List integer_Int))) (power : integer_Int) (next : integer_Int) (p : Int) (k : Int) (goal : (List integer_Int)) (monic : (List (List Int))) (parts : (List (List Int))) (step : Int) (t153 : (List (List integer_Int))) (t154 : Int) (t155 : Int)
  | c40 (base : integer_Int) (top : integer_Int) (pair : (List (List integer_Int))) (power : integer_Int) (next : integer_Int) (r148 : (List Int)) (p : Int) (k : Int) (goal : (List integer_Int)) (monic : (List (List Int))) (parts : (List (List Int))) (step : Int) (t154 : Int) (t155 : Int)
  | c41 (base : integer_Int) (top : integer_Int) (pair : (List (List integer_Int))) (power : integer_Int) (next : integer_Int) (r148 : (List Int)) (p : Int) (k : Int) (goal : (List integer_Int)) (monic : (List (List Int))) (parts : (List (List Int))) (step : Int) (t153 : (List (List integer_Int))) (t154 : Int) (t155 : Int)
  | c42 (base : integer_Int) (top : integer_Int) (pair : (List (List integer_Int))) (power : integer_Int) (next : integer_Int) (r193 : (List (List integer_Int))) (p : Int) (k : Int) (goal : (List integer_Int)) (monic : (List (List Int))) (parts : (List (List Int))) (step : Int) (t153 : (List (List integer_Int))) (t154 : Int) (t155 : Int)
  | c43 (base : integer_Int) (top : integer_Int) (pair : (List (List integer_Int))) (power : integer_Int) (next : integer_Int) (r193 : (List (List integer_Int))) (p : Int) (k : Int) (goal : (List integer_Int)) (monic : (List (List Int))) (parts : (List (List Int))) (step : Int) (change : (List Int)) (t153 : (List (List integer_Int))) (t154 : Int) (t155 : Int)
  | c44 (base : integer_Int) (top : integer_Int) (power : integer_Int) (r193 : (List (List integer_Int))) (p : Int) (k : Int) (goal : (List integer_Int)) (monic : (List (List Int))) (parts : (List (List Int))) (step : Int)

def hensel_Lift_go : Nat → hensel_Lift_Cut → Option ((List (List integer_Int)) × Int)
  | 0, _ => none
  | K + 1, .c0 f list p k =>
    (modular_IsPrime K p).bind fun x1 =>
    bif (!x1) then
      some ([], (1 : Int))
    else
      bif (decide (k < (1 : Int))) then
        some ([], (1 : Int))
      else
        (hensel_check K list p).bind fun x5 =>
        bif (!decide (x5 = (0 : Int))) then
          some ([], x5)
        else
          (unipoly_Lead K f).bind fun x8 =>
          (modular_Reduce K x8 p).bind fun x10 =>
          bif (decide (x10 = (0 : Int))) then
            some ([], (3 : Int))
          else
            (integer_Of K (IntKind.i64.wrap p)).bind fun x13 =>
            hensel_Lift_go K (.c1 x13 x13 f list p k (IntKind.i64.wrap (k - (1 : Int))) (0 : Int))
  | K + 1, .c1 base top f list p k t63 t64 =>
    bif (decide (t64 < t63)) then
      (integer_Mul K top base).bind fun x2 =>
      hensel_Lift_go K (.c1 base x2 f list p k t63 (IntKind.i64.wrap (t64 + (1 : Int))))
    else
      (hensel_start K f list p top).bind fun x2 =>
      bif (!decide (x2.2.2 = (0 : Int))) then
        some ([], x2.2.2)
      else
        (hensel_cofactors K x2.2.1 p).bind fun x5 =>
        hensel_Lift_go K (.c2 base top p k x2.1 x2.2.1 x5 x2.2.1 (x2.2.1.length : Int) (0 : Int))
  | K + 1, .c2 base top p k goal monic parts t85 t86 t87 =>
    bif (decide (t87 < t86)) then
      (gi t85 t87).bind fun x2 =>
      (modpoly_Symmetric K x2 p).bind fun x4 =>
      hensel_Lift_go K (.c3 base top ([x4] : List (List integer_Int)) p k goal monic parts t85 t86 (IntKind.i64.wrap (t87 + (1 : Int))))
    else
      hensel_Lift_go K (.c4 base top base p k goal monic parts (1 : Int))
  | K + 1, .c3 base top r97 p k goal monic parts t85 t86 t87 =>
    bif (decide (t87 < t86)) then
      (gi t85 t87).bind fun x2 =>
      (modpoly_Symmetric K x2 p).bind fun x4 =>
      gd ((r97 ++ ([x4] : List (List integer_Int))).length * 24 ≤ 140737488355328) <|
      hensel_Lift_go K (.c3 base top (r97 ++ ([x4] : List (List integer_Int))) p k goal monic parts t85 t86 (IntKind.i64.wrap (t87 + (1 : Int))))
    else
      hensel_Lift_go K (.c5 base top r97 base p k goal monic parts (1 : Int))
  | K + 1, .c4 base top power p k goal monic parts step =>
    bif (decide (step = k)) then
      bif (decide ((monic.length : Int) = (0 : Int))) then
        some ([], (0 : Int))
      else
        bif (decide ((Int.tmod (IntKind.i64.wrap (k - (1 : Int))) (2 : Int)) = 0)) then
          some ([], (0 : Int))
        else
          bif (decide ((Int.tmod (IntKind.i64.wrap (k - (1 : Int))) (2 : Int)) = 1)) then
            some ([], (0 : Int))
          else
            none
    else
      bif (decide ((monic.length : Int) = (0 : Int))) then
        bif (decide ((monic.length : Int) = (0 : Int))) then
          some ([], (0 : Int))
        else
          bif (decide ((Int.tmod (IntKind.i64.wrap (k - (1 : Int))) (2 : Int)) = 0)) then
            some ([], (0 : Int))
          else
            bif (decide ((Int.tmod (IntKind.i64.wrap (k - (1 : Int))) (2 : Int)) = 1)) then
              some ([], (0 : Int))
            else
              none
      else
        bif (decide ((Int.tmod (IntKind.i64.wrap (step - (1 : Int))) (2 : Int)) = 0)) then
          (hensel_Product K [] top).bind fun x4 =>
          (unipoly_Sub K goal x4.1).bind fun x6 =>
          (hensel_Reduce K x6 top).bind fun x8 =>
          hensel_Lift_go K (.c6 base top power p k goal monic parts step x8.1 (x8.1.length : Int) (0 : Int))
        else
          bif (decide ((Int.tmod (IntKind.i64.wrap (step - (1 : Int))) (2 : Int)) = 1)) then
            (hensel_Product K [] top).bind fun x5 =>
            (unipoly_Sub K goal x5.1).bind fun x7 =>
            (hensel_Reduce K x7 top).bind fun x9 =>
            hensel_Lift_go K (.c6 base top power p k goal monic parts step x9.1 (x9.1.length : Int) (0 : Int))
          else
            none
  | K + 1, .c5 base top pair power p k goal monic parts step =>
    bif (decide (step = k)) then
      bif (decide ((monic.length : Int) = (0 : Int))) then
        some ([], (0 : Int))
      else
        bif (decide ((Int.tmod (IntKind.i64.wrap (k - (1 : Int))) (2 : Int)) = 0)) then
          some (pair, (0 : Int))
        else
          bif (decide ((Int.tmod (IntKind.i64.wrap (k - (1 : Int))) (2 : Int)) = 1)) then
            some ([], (0 : Int))
          else
            none
    else
      bif (decide ((monic.length : Int) = (0 : Int))) then
        bif (decide ((monic.length : Int) = (0 : Int))) then
          some ([], (0 : Int))
        else
          bif (decide ((Int.tmod (IntKind.i64.wrap (k - (1 : Int))) (2 : Int)) = 0)) then
            some (pair, (0 : Int))
          else
            bif (decide ((Int.tmod (IntKind.i64.wrap (k - (1 : Int))) (2 : Int)) = 1)) then
              some ([], (0 : Int))
            else
              none
      else
        bif (decide ((Int.tmod (IntKind.i64.wrap (step - (1 : Int))) (2 : Int)) = 0)) then
          (hensel_Product K pair top).bind fun x4 =>
          (unipoly_Sub K goal x4.1).bind fun x6 =>
          (hensel_Reduce K x6 top).bind fun x8 =>
          hensel_Lift_go K (.c7 base top pair power p k goal monic parts step pair x8.1 (x8.1.length : Int) (0 : Int))
        else
          bif (decide ((Int.tmod (IntKind.i64.wrap (step - (1 : Int))) (2 : Int)) = 1)) then
            (hensel_Product K [] top).bind fun x5 =>
            (unipoly_Sub K goal x5.1).bind fun x7 =>
            (hensel_Reduce K x7 top).bind fun x9 =>
            hensel_Lift_go K (.c8 base top pair power p k goal monic parts step x9.1 (x9.1.length : Int) (0 : Int))
          else
            none
  | K + 1, .c6 base top power p k goal monic parts step t131 t132 t133 =>
    bif (decide (t133 < t132)) then
      (gi t131 t133).bind fun x2 =>
      (division_Exact K x2 power).bind fun x4 =>
      (modular_Reduce K x4.1 p).bind fun x6 =>
      hensel_Lift_go K (.c9 base top power ([x6] : List Int) p k goal monic parts step t131 t132 (IntKind.i64.wrap (t133 + (1 : Int))))
    else
      (integer_Mul K power base).bind fun x2 =>
      hensel_Lift_go K (.c10 base top power x2 p k goal monic parts step (0 : Int) (0 : Int))
  | K + 1, .c7 base top pair power p k goal monic parts step now t131 t132 t133 =>
    bif (decide (t133 < t132)) then
      (gi t131 t133).bind fun x2 =>
      (division_Exact K x2 power).bind fun x4 =>
      (modular_Reduce K x4.1 p).bind fun x6 =>
      hensel_Lift_go K (.c11 base top pair power ([x6] : List Int) p k goal monic parts step now t131 t132 (IntKind.i64.wrap (t133 + (1 : Int))))
    else
      (integer_Mul K power base).bind fun x2 =>
      hensel_Lift_go K (.c12 base top pair power x2 p k goal monic parts step now (now.length : Int) (0 : Int))
  | K + 1, .c8 base top pair power p k goal monic parts step t131 t132 t133 =>
    bif (decide (t133 < t132)) then
      (gi t131 t133).bind fun x2 =>
      (division_Exact K x2 power).bind fun x4 =>
      (modular_Reduce K x4.1 p).bind fun x6 =>
      hensel_Lift_go K (.c13 base top pair power ([x6] : List Int) p k goal monic parts step t131 t132 (IntKind.i64.wrap (t133 + (1 : Int))))
    else
      (integer_Mul K power base).bind fun x2 =>
      hensel_Lift_go K (.c14 base top pair power x2 p k goal monic parts step (0 : Int) (0 : Int))
  | K + 1, .c9 base top power r148 p k goal monic parts step t131 t132 t133 =>
    bif (decide (t133 < t132)) then
      (gi t131 t133).bind fun x2 =>
      (division_Exact K x2 power).bind fun x4 =>
      (modular_Reduce K x4.1 p).bind fun x6 =>
      gd ((r148 ++ ([x6] : List Int)).length * 4 ≤ 140737488355328) <|
      hensel_Lift_go K (.c9 base top power (r148 ++ ([x6] : List Int)) p k goal monic parts step t131 t132 (IntKind.i64.wrap (t133 + (1 : Int))))
    else
      (integer_Mul K power base).bind fun x2 =>
      hensel_Lift_go K (.c15 base top power x2 r148 p k goal monic parts step (0 : Int) (0 : Int))
  | K + 1, .c10 base top _ next p k goal monic parts step t154 t155 =>
    bif (decide (t155 < t154)) then
      none
    else
      bif (decide ((Int.tmod step (2 : Int)) = 0)) then
        hensel_Lift_go K (.c16 base top next p k goal monic parts step)
      else
        bif (decide ((Int.tmod step (2 : Int)) = 1)) then
          hensel_Lift_go K (.c16 base top next p k goal monic parts step)
        else
          none
  | K + 1, .c11 base top pair power r148 p k goal monic parts step now t131 t132 t133 =>
    bif (decide (t133 < t132)) then
      (gi t131 t133).bind fun x2 =>
      (division_Exact K x2 power).bind fun x4 =>
      (modular_Reduce K x4.1 p).bind fun x6 =>
      gd ((r148 ++ ([x6] : List Int)).length * 4 ≤ 140737488355328) <|
      hensel_Lift_go K (.c11 base top pair power (r148 ++ ([x6] : List Int)) p k goal monic parts step now t131 t132 (IntKind.i64.wrap (t133 + (1 : Int))))
    else
      (integer_Mul K power base).bind fun x2 =>
      hensel_Lift_go K (.c17 base top pair power x2 r148 p k goal monic parts step now (now.length : Int) (0 : Int))
  | K + 1, .c12 base top pair power next p k goal monic parts step t153 t154 t155 =>
    bif (decide (t155 < t154)) then
      (gi t153 t155).bind fun x2 =>
      (gi parts t155).bind fun x4 =>
      (modpoly_Mul K [] x4 p).bind fun x6 =>
      (gi monic t155).bind fun x8 =>
      (modpoly_Divide K x6 x8 p).bind fun x10 =>
      (modpoly_Symmetric K x10.2.1 p).bind fun x12 =>
      (unipoly_Scale K x12 power).bind fun x14 =>
      (unipoly_Add K x2 x14).bind fun x16 =>
      (hensel_Reduce K x16 next).bind fun x18 =>
      hensel_Lift_go K (.c18 base top pair power next ([x18.1] : List (List integer_Int)) p k goal monic parts step t153 t154 (IntKind.i64.wrap (t155 + (1 : Int))))
    else
      bif (decide ((Int.tmod step (2 : Int)) = 0)) then
        hensel_Lift_go K (.c16 base top next p k goal monic parts step)
      else
        bif (decide ((Int.tmod step (2 : Int)) = 1)) then
          hensel_Lift_go K (.c19 base top pair next p k goal monic parts step)
        else
          none
  | K + 1, .c13 base top pair power r148 p k goal monic parts step t131 t132 t133 =>
    bif (decide (t133 < t132)) then
      (gi t131 t133).bind fun x2 =>
      (division_Exact K x2 power).bind fun x4 =>
      (modular_Reduce K x4.1 p).bind fun x6 =>
      gd ((r148 ++ ([x6] : List Int)).length * 4 ≤ 140737488355328) <|
      hensel_Lift_go K (.c13 base top pair power (r148 ++ ([x6] : List Int)) p k goal monic parts step t131 t132 (IntKind.i64.wrap (t133 + (1 : Int))))
    else
      (integer_Mul K power base).bind fun x2 =>
      hensel_Lift_go K (.c20 base top pair power x2 r148 p k goal monic parts step (0 : Int) (0 : Int))
  | K + 1, .c14 base top pair _ next p k goal monic parts step t154 t155 =>
    bif (decide (t155 < t154)) then
      none
    else
      bif (decide ((Int.tmod step (2 : Int)) = 0)) then
        hensel_Lift_go K (.c16 base top next p k goal monic parts step)
      else
        bif (decide ((Int.tmod step (2 : Int)) = 1)) then
          hensel_Lift_go K (.c19 base top pair next p k goal monic parts step)
        else
          none
  | K + 1, .c15 base top _ next _ p k goal monic parts step t154 t155 =>
    bif (decide (t155 < t154)) then
      none
    else
      bif (decide ((Int.tmod step (2 : Int)) = 0)) then
        hensel_Lift_go K (.c16 base top next p k goal monic parts step)
      else
        bif (decide ((Int.tmod step (2 : Int)) = 1)) then
          hensel_Lift_go K (.c16 base top next p k goal monic parts step)
        else
          none
  | K + 1, .c16 base top power p k goal monic parts step =>
    hensel_Lift_go K (.c4 base top power p k goal monic parts (IntKind.i64.wrap (step + (1 : Int))))
  | K + 1, .c17 base top pair power next r148 p k goal monic parts step t153 t154 t155 =>
    bif (decide (t155 < t154)) then
      (gi t153 t155).bind fun x2 =>
      (gi parts t155).bind fun x4 =>
      (modpoly_Mul K r148 x4 p).bind fun x6 =>
      (gi monic t155).bind fun x8 =>
      (modpoly_Divide K x6 x8 p).bind fun x10 =>
      (modpoly_Symmetric K x10.2.1 p).bind fun x12 =>
      (unipoly_Scale K x12 power).bind fun x14 =>
      (unipoly_Add K x2 x14).bind fun x16 =>
      (hensel_Reduce K x16 next).bind fun x18 =>
      hensel_Lift_go K (.c21 base top pair power next ([x18.1] : List (List integer_Int)) p k goal monic parts step r148 t153 t154 (IntKind.i64.wrap (t155 + (1 : Int))))
    else
      bif (decide ((Int.tmod step (2 : Int)) = 0)) then
        hensel_Lift_go K (.c16 base top next p k goal monic parts step)
      else
        bif (decide ((Int.tmod step (2 : Int)) = 1)) then
          hensel_Lift_go K (.c19 base top pair next p k goal monic parts step)
        else
          none
  | K + 1, .c18 base top pair power next r193 p k goal monic parts step t153 t154 t155 =>
    bif (decide (t155 < t154)) then
      (gi t153 t155).bind fun x2 =>
      (gi parts t155).bind fun x4 =>
      (modpoly_Mul K [] x4 p).bind fun x6 =>
      (gi monic t155).bind fun x8 =>
      (modpoly_Divide K x6 x8 p).bind fun x10 =>
      (modpoly_Symmetric K x10.2.1 p).bind fun x12 =>
      (unipoly_Scale K x12 power).bind fun x14 =>
      (unipoly_Add K x2 x14).bind fun x16 =>
      (hensel_Reduce K x16 next).bind fun x18 =>
      gd ((r193 ++ ([x18.1] : List (List integer_Int))).length * 24 ≤ 140737488355328) <|
      hensel_Lift_go K (.c18 base top pair power next (r193 ++ ([x18.1] : List (List integer_Int))) p k goal monic parts step t153 t154 (IntKind.i64.wrap (t155 + (1 : Int))))
    else
      bif (decide ((Int.tmod step (2 : Int)) = 0)) then
        hensel_Lift_go K (.c22 base top next r193 p k goal monic parts step)
      else
        bif (decide ((Int.tmod step (2 : Int)) = 1)) then
          hensel_Lift_go K (.c23 base top pair next r193 p k goal monic parts step)
        else
          none
  | K + 1, .c19 base top pair power p k goal monic parts step =>
    hensel_Lift_go K (.c5 base top pair power p k goal monic parts (IntKind.i64.wrap (step + (1 : Int))))
  | K + 1, .c20 base top pair _ next _ p k goal monic parts step t154 t155 =>
    bif (decide (t155 < t154)) then
      none
    else
      bif (decide ((Int.tmod step (2 : Int)) = 0)) then
        hensel_Lift_go K (.c16 base top next p k goal monic parts step)
      else
        bif (decide ((Int.tmod step (2 : Int)) = 1)) then
          hensel_Lift_go K (.c19 base top pair next p k goal monic parts step)
        else
          none
  | K + 1, .c21 base top pair power next r193 p k goal monic parts step change t153 t154 t155 =>
    bif (decide (t155 < t154)) then
      (gi t153 t155).bind fun x2 =>
      (gi parts t155).bind fun x4 =>
      (modpoly_Mul K change x4 p).bind fun x6 =>
      (gi monic t155).bind fun x8 =>
      (modpoly_Divide K x6 x8 p).bind fun x10 =>
      (modpoly_Symmetric K x10.2.1 p).bind fun x12 =>
      (unipoly_Scale K x12 power).bind fun x14 =>
      (unipoly_Add K x2 x14).bind fun x16 =>
      (hensel_Reduce K x16 next).bind fun x18 =>
      gd ((r193 ++ ([x18.1] : List (List integer_Int))).length * 24 ≤ 140737488355328) <|
      hensel_Lift_go K (.c21 base top pair power next (r193 ++ ([x18.1] : List (List integer_Int))) p k goal monic parts step change t153 t154 (IntKind.i64.wrap (t155 + (1 : Int))))
    else
      bif (decide ((Int.tmod step (2 : Int)) = 0)) then
        hensel_Lift_go K (.c22 base top next r193 p k goal monic parts step)
      else
        bif (decide ((Int.tmod step (2 : Int)) = 1)) then
          hensel_Lift_go K (.c23 base top pair next r193 p k goal monic parts step)
        else
          none
  | K + 1, .c22 base top power r193 p k goal monic parts step =>
    hensel_Lift_go K (.c5 base top r193 power p k goal monic parts (IntKind.i64.wrap (step + (1 : Int))))
  | K + 1, .c23 base top pair power r193 p k goal monic parts step =>
    hensel_Lift_go K (.c24 base top (A2_Lunipoly_Poly.mk pair r193) power p k goal monic parts (IntKind.i64.wrap (step + (1 : Int))))
  | K + 1, .c24 base top pair power p k goal monic parts step =>
    bif (decide (step = k)) then
      bif (decide ((monic.length : Int) = (0 : Int))) then
        some ([], (0 : Int))
      else
        bif (decide ((Int.tmod (IntKind.i64.wrap (k - (1 : Int))) (2 : Int)) = 0)) then
          some (pair.e0, (0 : Int))
        else
          bif (decide ((Int.tmod (IntKind.i64.wrap (k - (1 : Int))) (2 : Int)) = 1)) then
            some (pair.e1, (0 : Int))
          else
            none
    else
      bif (decide ((monic.length : Int) = (0 : Int))) then
        bif (decide ((monic.length : Int) = (0 : Int))) then
          some ([], (0 : Int))
        else
          bif (decide ((Int.tmod (IntKind.i64.wrap (k - (1 : Int))) (2 : Int)) = 0)) then
            some (pair.e0, (0 : Int))
          else
            bif (decide ((Int.tmod (IntKind.i64.wrap (k - (1 : Int))) (2 : Int)) = 1)) then
              some (pair.e1, (0 : Int))
            else
              none
      else
        bif (decide ((Int.tmod (IntKind.i64.wrap (step - (1 : Int))) (2 : Int)) = 0)) then
          (hensel_Product K pair.e0 top).bind fun x4 =>
          (unipoly_Sub K goal x4.1).bind fun x6 =>
          (hensel_Reduce K x6 top).bind fun x8 =>
          hensel_Lift_go K (.c25 base top pair power p k goal monic parts step pair.e0 x8.1 (x8.1.length : Int) (0 : Int))
        else
          bif (decide ((Int.tmod (IntKind.i64.wrap (step - (1 : Int))) (2 : Int)) = 1)) then
            (hensel_Product K pair.e1 top).bind fun x5 =>
            (unipoly_Sub K goal x5.1).bind fun x7 =>
            (hensel_Reduce K x7 top).bind fun x9 =>
            hensel_Lift_go K (.c25 base top pair power p k goal monic parts step pair.e1 x9.1 (x9.1.length : Int) (0 : Int))
          else
            none
  | K + 1, .c25 base top pair power p k goal monic parts step now t131 t132 t133 =>
    bif (decide (t133 < t132)) then
      (gi t131 t133).bind fun x2 =>
      (division_Exact K x2 power).bind fun x4 =>
      (modular_Reduce K x4.1 p).bind fun x6 =>
      hensel_Lift_go K (.c26 base top pair power ([x6] : List Int) p k goal monic parts step now t131 t132 (IntKind.i64.wrap (t133 + (1 : Int))))
    else
      (integer_Mul K power base).bind fun x2 =>
      hensel_Lift_go K (.c27 base top pair power x2 p k goal monic parts step now (now.length : Int) (0 : Int))
  | K + 1, .c26 base top pair power r148 p k goal monic parts step now t131 t132 t133 =>
    bif (decide (t133 < t132)) then
      (gi t131 t133).bind fun x2 =>
      (division_Exact K x2 power).bind fun x4 =>
      (modular_Reduce K x4.1 p).bind fun x6 =>
      gd ((r148 ++ ([x6] : List Int)).length * 4 ≤ 140737488355328) <|
      hensel_Lift_go K (.c26 base top pair power (r148 ++ ([x6] : List Int)) p k goal monic parts step now t131 t132 (IntKind.i64.wrap (t133 + (1 : Int))))
    else
      (integer_Mul K power base).bind fun x2 =>
      hensel_Lift_go K (.c28 base top pair power x2 r148 p k goal monic parts step now (now.length : Int) (0 : Int))
  | K + 1, .c27 base top pair power next p k goal monic parts step t153 t154 t155 =>
    bif (decide (t155 < t154)) then
      (gi t153 t155).bind fun x2 =>
      (gi parts t155).bind fun x4 =>
      (modpoly_Mul K [] x4 p).bind fun x6 =>
      (gi monic t155).bind fun x8 =>
      (modpoly_Divide K x6 x8 p).bind fun x10 =>
      (modpoly_Symmetric K x10.2.1 p).bind fun x12 =>
      (unipoly_Scale K x12 power).bind fun x14 =>
      (unipoly_Add K x2 x14).bind fun x16 =>
      (hensel_Reduce K x16 next).bind fun x18 =>
      hensel_Lift_go K (.c29 base top pair power next ([x18.1] : List (List integer_Int)) p k goal monic parts step t153 t154 (IntKind.i64.wrap (t155 + (1 : Int))))
    else
      bif (decide ((Int.tmod step (2 : Int)) = 0)) then
        hensel_Lift_go K (.c30 base top pair.e1 next p k goal monic parts step)
      else
        bif (decide ((Int.tmod step (2 : Int)) = 1)) then
          hensel_Lift_go K (.c19 base top pair.e0 next p k goal monic parts step)
        else
          none
  | K + 1, .c28 base top pair power next r148 p k goal monic parts step t153 t154 t155 =>
    bif (decide (t155 < t154)) then
      (gi t153 t155).bind fun x2 =>
      (gi parts t155).bind fun x4 =>
      (modpoly_Mul K r148 x4 p).bind fun x6 =>
      (gi monic t155).bind fun x8 =>
      (modpoly_Divide K x6 x8 p).bind fun x10 =>
      (modpoly_Symmetric K x10.2.1 p).bind fun x12 =>
      (unipoly_Scale K x12 power).bind fun x14 =>
      (unipoly_Add K x2 x14).bind fun x16 =>
      (hensel_Reduce K x16 next).bind fun x18 =>
      hensel_Lift_go K (.c31 base top pair power next ([x18.1] : List (List integer_Int)) p k goal monic parts step r148 t153 t154 (IntKind.i64.wrap (t155 + (1 : Int))))
    else
      bif (decide ((Int.tmod step (2 : Int)) = 0)) then
        hensel_Lift_go K (.c30 base top pair.e1 next p k goal monic parts step)
      else
        bif (decide ((Int.tmod step (2 : Int)) = 1)) then
          hensel_Lift_go K (.c19 base top pair.e0 next p k goal monic parts step)
        else
          none
  | K + 1, .c29 base top pair power next r193 p k goal monic parts step t153 t154 t155 =>
    bif (decide (t155 < t154)) then
      (gi t153 t155).bind fun x2 =>
      (gi parts t155).bind fun x4 =>
      (modpoly_Mul K [] x4 p).bind fun x6 =>
      (gi monic t155).bind fun x8 =>
      (modpoly_Divide K x6 x8 p).bind fun x10 =>
      (modpoly_Symmetric K x10.2.1 p).bind fun x12 =>
      (unipoly_Scale K x12 power).bind fun x14 =>
      (unipoly_Add K x2 x14).bind fun x16 =>
      (hensel_Reduce K x16 next).bind fun x18 =>
      gd ((r193 ++ ([x18.1] : List (List integer_Int))).length * 24 ≤ 140737488355328) <|
      hensel_Lift_go K (.c29 base top pair power next (r193 ++ ([x18.1] : List (List integer_Int))) p k goal monic parts step t153 t154 (IntKind.i64.wrap (t155 + (1 : Int))))
    else
      bif (decide ((Int.tmod step (2 : Int)) = 0)) then
        hensel_Lift_go K (.c32 base top pair.e1 next r193 p k goal monic parts step)
      else
        bif (decide ((Int.tmod step (2 : Int)) = 1)) then
          hensel_Lift_go K (.c23 base top pair.e0 next r193 p k goal monic parts step)
        else
          none
  | K + 1, .c30 base top pair power p k goal monic parts step =>
    hensel_Lift_go K (.c33 base top pair power p k goal monic parts (IntKind.i64.wrap (step + (1 : Int))))
  | K + 1, .c31 base top pair power next r193 p k goal monic parts step change t153 t154 t155 =>
    bif (decide (t155 < t154)) then
      (gi t153 t155).bind fun x2 =>
      (gi parts t155).bind fun x4 =>
      (modpoly_Mul K change x4 p).bind fun x6 =>
      (gi monic t155).bind fun x8 =>
      (modpoly_Divide K x6 x8 p).bind fun x10 =>
      (modpoly_Symmetric K x10.2.1 p).bind fun x12 =>
      (unipoly_Scale K x12 power).bind fun x14 =>
      (unipoly_Add K x2 x14).bind fun x16 =>
      (hensel_Reduce K x16 next).bind fun x18 =>
      gd ((r193 ++ ([x18.1] : List (List integer_Int))).length * 24 ≤ 140737488355328) <|
      hensel_Lift_go K (.c31 base top pair power next (r193 ++ ([x18.1] : List (List integer_Int))) p k goal monic parts step change t153 t154 (IntKind.i64.wrap (t155 + (1 : Int))))
    else
      bif (decide ((Int.tmod step (2 : Int)) = 0)) then
        hensel_Lift_go K (.c32 base top pair.e1 next r193 p k goal monic parts step)
      else
        bif (decide ((Int.tmod step (2 : Int)) = 1)) then
          hensel_Lift_go K (.c23 base top pair.e0 next r193 p k goal monic parts step)
        else
          none
  | K + 1, .c32 base top pair power r193 p k goal monic parts step =>
    hensel_Lift_go K (.c24 base top (A2_Lunipoly_Poly.mk r193 pair) power p k goal monic parts (IntKind.i64.wrap (step + (1 : Int))))
  | K + 1, .c33 base top pair power p k goal monic parts step =>
    bif (decide (step = k)) then
      bif (decide ((monic.length : Int) = (0 : Int))) then
        some ([], (0 : Int))
      else
        bif (decide ((Int.tmod (IntKind.i64.wrap (k - (1 : Int))) (2 : Int)) = 0)) then
          some ([], (0 : Int))
        else
          bif (decide ((Int.tmod (IntKind.i64.wrap (k - (1 : Int))) (2 : Int)) = 1)) then
            some (pair, (0 : Int))
          else
            none
    else
      bif (decide ((monic.length : Int) = (0 : Int))) then
        bif (decide ((monic.length : Int) = (0 : Int))) then
          some ([], (0 : Int))
        else
          bif (decide ((Int.tmod (IntKind.i64.wrap (k - (1 : Int))) (2 : Int)) = 0)) then
            some ([], (0 : Int))
          else
            bif (decide ((Int.tmod (IntKind.i64.wrap (k - (1 : Int))) (2 : Int)) = 1)) then
              some (pair, (0 : Int))
            else
              none
      else
        bif (decide ((Int.tmod (IntKind.i64.wrap (step - (1 : Int))) (2 : Int)) = 0)) then
          (hensel_Product K [] top).bind fun x4 =>
          (unipoly_Sub K goal x4.1).bind fun x6 =>
          (hensel_Reduce K x6 top).bind fun x8 =>
          hensel_Lift_go K (.c34 base top pair power p k goal monic parts step x8.1 (x8.1.length : Int) (0 : Int))
        else
          bif (decide ((Int.tmod (IntKind.i64.wrap (step - (1 : Int))) (2 : Int)) = 1)) then
            (hensel_Product K pair top).bind fun x5 =>
            (unipoly_Sub K goal x5.1).bind fun x7 =>
            (hensel_Reduce K x7 top).bind fun x9 =>
            hensel_Lift_go K (.c35 base top pair power p k goal monic parts step pair x9.1 (x9.1.length : Int) (0 : Int))
          else
            none
  | K + 1, .c34 base top pair power p k goal monic parts step t131 t132 t133 =>
    bif (decide (t133 < t132)) then
      (gi t131 t133).bind fun x2 =>
      (division_Exact K x2 power).bind fun x4 =>
      (modular_Reduce K x4.1 p).bind fun x6 =>
      hensel_Lift_go K (.c36 base top pair power ([x6] : List Int) p k goal monic parts step t131 t132 (IntKind.i64.wrap (t133 + (1 : Int))))
    else
      (integer_Mul K power base).bind fun x2 =>
      hensel_Lift_go K (.c37 base top pair power x2 p k goal monic parts step (0 : Int) (0 : Int))
  | K + 1, .c35 base top pair power p k goal monic parts step now t131 t132 t133 =>
    bif (decide (t133 < t132)) then
      (gi t131 t133).bind fun x2 =>
      (division_Exact K x2 power).bind fun x4 =>
      (modular_Reduce K x4.1 p).bind fun x6 =>
      hensel_Lift_go K (.c38 base top pair power ([x6] : List Int) p k goal monic parts step now t131 t132 (IntKind.i64.wrap (t133 + (1 : Int))))
    else
      (integer_Mul K power base).bind fun x2 =>
      hensel_Lift_go K (.c39 base top pair power x2 p k goal monic parts step now (now.length : Int) (0 : Int))
  | K + 1, .c36 base top pair power r148 p k goal monic parts step t131 t132 t133 =>
    bif (decide (t133 < t132)) then
      (gi t131 t133).bind fun x2 =>
      (division_Exact K x2 power).bind fun x4 =>
      (modular_Reduce K x4.1 p).bind fun x6 =>
      gd ((r148 ++ ([x6] : List Int)).length * 4 ≤ 140737488355328) <|
      hensel_Lift_go K (.c36 base top pair power (r148 ++ ([x6] : List Int)) p k goal monic parts step t131 t132 (IntKind.i64.wrap (t133 + (1 : Int))))
    else
      (integer_Mul K power base).bind fun x2 =>
      hensel_Lift_go K (.c40 base top pair power x2 r148 p k goal monic parts step (0 : Int) (0 : Int))
  | K + 1, .c37 base top pair _ next p k goal monic parts step t154 t155 =>
    bif (decide (t155 < t154)) then
      none
    else
      bif (decide ((Int.tmod step (2 : Int)) = 0)) then
        hensel_Lift_go K (.c30 base top pair next p k goal monic parts step)
      else
        bif (decide ((Int.tmod step (2 : Int)) = 1)) then
          hensel_Lift_go K (.c16 base top next p k goal monic parts step)
        else
          none
  | K + 1, .c38 base top pair power r148 p k goal monic parts step now t131 t132 t133 =>
    bif (decide (t133 < t132)) then
      (gi t131 t133).bind fun x2 =>
      (division_Exact K x2 power).bind fun x4 =>
      (modular_Reduce K x4.1 p).bind fun x6 =>
      gd ((r148 ++ ([x6] : List Int)).length * 4 ≤ 140737488355328) <|
      hensel_Lift_go K (.c38 base top pair power (r148 ++ ([x6] : List Int)) p k goal monic parts step now t131 t132 (IntKind.i64.wrap (t133 + (1 : Int))))
    else
      (integer_Mul K power base).bind fun x2 =>
      hensel_Lift_go K (.c41 base top pair power x2 r148 p k goal monic parts step now (now.length : Int) (0 : Int))
  | K + 1, .c39 base top pair power next p k goal monic parts step t153 t154 t155 =>
    bif (decide (t155 < t154)) then
      (gi t153 t155).bind fun x2 =>
      (gi parts t155).bind fun x4 =>
      (modpoly_Mul K [] x4 p).bind fun x6 =>
      (gi monic t155).bind fun x8 =>
      (modpoly_Divide K x6 x8 p).bind fun x10 =>
      (modpoly_Symmetric K x10.2.1 p).bind fun x12 =>
      (unipoly_Scale K x12 power).bind fun x14 =>
      (unipoly_Add K x2 x14).bind fun x16 =>
      (hensel_Reduce K x16 next).bind fun x18 =>
      hensel_Lift_go K (.c42 base top pair power next ([x18.1] : List (List integer_Int)) p k goal monic parts step t153 t154 (IntKind.i64.wrap (t155 + (1 : Int))))
    else
      bif (decide ((Int.tmod step (2 : Int)) = 0)) then
        hensel_Lift_go K (.c30 base top pair next p k goal monic parts step)
      else
        bif (decide ((Int.tmod step (2 : Int)) = 1)) then
          hensel_Lift_go K (.c16 base top next p k goal monic parts step)
        else
          none
  | K + 1, .c40 base top pair _ next _ p k goal monic parts step t154 t155 =>
    bif (decide (t155 < t154)) then
      none
    else
      bif (decide ((Int.tmod step (2 : Int)) = 0)) then
        hensel_Lift_go K (.c30 base top pair next p k goal monic parts step)
      else
        bif (decide ((Int.tmod step (2 : Int)) = 1)) then
          hensel_Lift_go K (.c16 base top next p k goal monic parts step)
        else
          none
  | K + 1, .c41 base top pair power next r148 p k goal monic parts step t153 t154 t155 =>
    bif (decide (t155 < t154)) then
      (gi t153 t155).bind fun x2 =>
      (gi parts t155).bind fun x4 =>
      (modpoly_Mul K r148 x4 p).bind fun x6 =>
      (gi monic t155).bind fun x8 =>
      (modpoly_Divide K x6 x8 p).bind fun x10 =>
      (modpoly_Symmetric K x10.2.1 p).bind fun x12 =>
      (unipoly_Scale K x12 power).bind fun x14 =>
      (unipoly_Add K x2 x14).bind fun x16 =>
      (hensel_Reduce K x16 next).bind fun x18 =>
      hensel_Lift_go K (.c43 base top pair power next ([x18.1] : List (List integer_Int)) p k goal monic parts step r148 t153 t154 (IntKind.i64.wrap (t155 + (1 : Int))))
    else
      bif (decide ((Int.tmod step (2 : Int)) = 0)) then
        hensel_Lift_go K (.c30 base top pair next p k goal monic parts step)
      else
        bif (decide ((Int.tmod step (2 : Int)) = 1)) then
          hensel_Lift_go K (.c16 base top next p k goal monic parts step)
        else
          none
  | K + 1, .c42 base top pair power next r193 p k goal monic parts step t153 t154 t155 =>
    bif (decide (t155 < t154)) then
      (gi t153 t155).bind fun x2 =>
      (gi parts t155).bind fun x4 =>
      (modpoly_Mul K [] x4 p).bind fun x6 =>
      (gi monic t155).bind fun x8 =>
      (modpoly_Divide K x6 x8 p).bind fun x10 =>
      (modpoly_Symmetric K x10.2.1 p).bind fun x12 =>
      (unipoly_Scale K x12 power).bind fun x14 =>
      (unipoly_Add K x2 x14).bind fun x16 =>
      (hensel_Reduce K x16 next).bind fun x18 =>
      gd ((r193 ++ ([x18.1] : List (List integer_Int))).length * 24 ≤ 140737488355328) <|
      hensel_Lift_go K (.c42 base top pair power next (r193 ++ ([x18.1] : List (List integer_Int))) p k goal monic parts step t153 t154 (IntKind.i64.wrap (t155 + (1 : Int))))
    else
      bif (decide ((Int.tmod step (2 : Int)) = 0)) then
        hensel_Lift_go K (.c32 base top pair next r193 p k goal monic parts step)
      else
        bif (decide ((Int.tmod step (2 : Int)) = 1)) then
          hensel_Lift_go K (.c44 base top next r193 p k goal monic parts step)
        else
          none
  | K + 1, .c43 base top pair power next r193 p k goal monic parts step change t153 t154 t155 =>
    bif (decide (t155 < t154)) then
      (gi t153 t155).bind fun x2 =>
      (gi parts t155).bind fun x4 =>
      (modpoly_Mul K change x4 p).bind fun x6 =>
      (gi monic t155).bind fun x8 =>
      (modpoly_Divide K x6 x8 p).bind fun x10 =>
      (modpoly_Symmetric K x10.2.1 p).bind fun x12 =>
      (unipoly_Scale K x12 power).bind fun x14 =>
      (unipoly_Add K x2 x14).bind fun x16 =>
      (hensel_Reduce K x16 next).bind fun x18 =>
      gd ((r193 ++ ([x18.1] : List (List integer_Int))).length * 24 ≤ 140737488355328) <|
      hensel_Lift_go K (.c43 base top pair power next (r193 ++ ([x18.1] : List (List integer_Int))) p k goal monic parts step change t153 t154 (IntKind.i64.wrap (t155 + (1 : Int))))
    else
      bif (decide ((Int.tmod step (2 : Int)) = 0)) then
        hensel_Lift_go K (.c32 base top pair next r193 p k goal monic parts step)
      else
        bif (decide ((Int.tmod step (2 : Int)) = 1)) then
          hensel_Lift_go K (.c44 base top next r193 p k goal monic parts step)
        else
          none
  | K + 1, .c44 base top power r193 p k goal monic parts step =>
    hensel_Lift_go K (.c33 base top r193 power p k goal monic parts (IntKind.i64.wrap (step + (1 : Int))))

def hensel_Lift (K : Nat) (f : (List integer_Int)) (list : (List (List Int))) (p : Int) (k : Int) : Option ((List (List integer_Int)) × Int) := hensel_Lift_go K (.c0 f list p k)

noncomputable def hensel_Lift_body : Code := bodyOf prog 62
noncomputable def hensel_Lift_pos : hensel_Lift_Cut → List Fr
  | .c0 .. => [.code hensel_Lift_body]
  | .c1 .. => [.code (.loop (atC hensel_Lift_body [1,0,1,1,1,1,1,0,1,0,0])), .blk 0, .code (atC hensel_Lift_body [1,0,1,1,1,1,1,1]), .sc]
  | .c2 .. => [.code (.loop (atC hensel_Lift_body [1,0,1,1,1,1,1,1,1,1,1,1,0,1,0,0])), .blk 2, .code (atC hensel_Lift_body [1,0,1,1,1,1,1,1,1,1,1,1,1]), .sc]
  | .c3 .. => [.code (.loop (atC hensel_Lift_body [1,0,1,1,1,1,1,1,1,1,1,1,0,1,0,0])), .blk 2, .code (atC hensel_Lift_body [1,0,1,1,1,1,1,1,1,1,1,1,1]), .sc]
  | .c4 .. => [.code (.loop (atC hensel_Lift_body [1,0,1,1,1,1,1,1,1,1,1,1,1,1,1,0,1,0,0])), .blk 4, .code (atC hensel_Lift_body [1,0,1,1,1,1,1,1,1,1,1,1,1,1,1,1]), .sc]
  | .c5 .. => [.code (.loop (atC hensel_Lift_body [1,0,1,1,1,1,1,1,1,1,1,1,1,1,1,0,1,0,0])), .blk 4, .code (atC hensel_Lift_body [1,0,1,1,1,1,1,1,1,1,1,1,1,1,1,1]), .sc]
  | .c6 .. => [.code (.loop (atC hensel_Lift_body [1,0,1,1,1,1,1,1,1,1,1,1,1,1,1,0,1,0,0,0,0,1,1,1,1,1,0,1,0,0])), .blk 6, .code (atC hensel_Lift_body [1,0,1,1,1,1,1,1,1,1,1,1,1,1,1,0,1,0,0,0,0,1,1,1,1,1,1]), .blk 5, .code (atC hensel_Lift_body [1,0,1,1,1,1,1,1,1,1,1,1,1,1,1,0,1,0,0,1]), .lp (atC hensel_Lift_body [1,0,1,1,1,1,1,1,1,1,1,1,1,1,1,0,1,0,0]), .blk 4, .code (atC hensel_Lift_body [1,0,1,1,1,1,1,1,1,1,1,1,1,1,1,1]), .sc]
  | .c7 .. => [.code (.loop (atC hensel_Lift_body [1,0,1,1,1,1,1,1,1,1,1,1,1,1,1,0,1,0,0,0,0,1,1,1,1,1,0,1,0,0])), .blk 6, .code (atC hensel_Lift_body [1,0,1,1,1,1,1,1,1,1,1,1,1,1,1,0,1,0,0,0,0,1,1,1,1,1,1]), .blk 5, .code (atC hensel_Lift_body [1,0,1,1,1,1,1,1,1,1,1,1,1,1,1,0,1,0,0,1]), .lp (atC hensel_Lift_body [1,0,1,1,1,1,1,1,1,1,1,1,1,1,1,0,1,0,0]), .blk 4, .code (atC hensel_Lift_body [1,0,1,1,1,1,1,1,1,1,1,1,1,1,1,1]), .sc]
  | .c8 .. => [.code (.loop (atC hensel_Lift_body [1,0,1,1,1,1,1,1,1,1,1,1,1,1,1,0,1,0,0,0,0,1,1,1,1,1,0,1,0,0])), .blk 6, .code (atC hensel_Lift_body [1,0,1,1,1,1,1,1,1,1,1,1,1,1,1,0,1,0,0,0,0,1,1,1,1,1,1]), .blk 5, .code (atC hensel_Lift_body [1,0,1,1,1,1,1,1,1,1,1,1,1,1,1,0,1,0,0,1]), .lp (atC hensel_Lift_body [1,0,1,1,1,1,1,1,1,1,1,1,1,1,1,0,1,0,0]), .blk 4, .code (atC hensel_Lift_body [1,0,1,1,1,1,1,1,1,1,1,1,1,1,1,1]), .sc]
  | .c9 .. => [.code (.loop (atC hensel_Lift_body [1,0,1,1,1,1,1,1,1,1,1,1,1,1,1,0,1,0,0,0,0,1,1,1,1,1,0,1,0,0])), .blk 6, .code (atC hensel_Lift_body [1,0,1,1,1,1,1,1,1,1,1,1,1,1,1,0,1,0,0,0,0,1,1,1,1,1,1]), .blk 5, .code (atC hensel_Lift_body [1,0,1,1,1,1,1,1,1,1,1,1,1,1,1,0,1,0,0,1]), .lp (atC hensel_Lift_body [1,0,1,1,1,1,1,1,1,1,1,1,1,1,1,0,1,0,0]), .blk 4, .code (atC hensel_Lift_body [1,0,1,1,1,1,1,1,1,1,1,1,1,1,1,1]), .sc]
  | .c10 .. => [.code (.loop (atC hensel_Lift_body [1,0,1,1,1,1,1,1,1,1,1,1,1,1,1,0,1,0,0,0,0,1,1,1,1,1,1,1,1,0,1,0,0])), .blk 8, .code (atC hensel_Lift_body [1,0,1,1,1,1,1,1,1,1,1,1,1,1,1,0,1,0,0,0,0,1,1,1,1,1,1,1,1,1]), .blk 5, .code (atC hensel_Lift_body [1,0,1,1,1,1,1,1,1,1,1,1,1,1,1,0,1,0,0,1]), .lp (atC hensel_Lift_body [1,0,1,1,1,1,1,1,1,1,1,1,1,1,1,0,1,0,0]), .blk 4, .code (atC hensel_Lift_body [1,0,1,1,1,1,1,1,1,1,1,1,1,1,1,1]), .sc]
  | .c11 .. => [.code (.loop (atC hensel_Lift_body [1,0,1,1,1,1,1,1,1,1,1,1,1,1,1,0,1,0,0,0,0,1,1,1,1,1,0,1,0,0])), .blk 6, .code (atC hensel_Lift_body [1,0,1,1,1,1,1,1,1,1,1,1,1,1,1,0,1,0,0,0,0,1,1,1,1,1,1]), .blk 5, .code (atC hensel_Lift_body [1,0,1,1,1,1,1,1,1,1,1,1,1,1,1,0,1,0,0,1]), .lp (atC hensel_Lift_body [1,0,1,1,1,1,1,1,1,1,1,1,1,1,1,0,1,0,0]), .blk 4, .code (atC hensel_Lift_body [1,0,1,1,1,1,1,1,1,1,1,1,1,1,1,1]), .sc]
  | .c12 .. => [.code (.loop (atC hensel_Lift_body [1,0,1,1,1,1,1,1,1,1,1,1,1,1,1,0,1,0,0,0,0,1,1,1,1,1,1,1,1,0,1,0,0])), .blk 8, .code (atC hensel_Lift_body [1,0,1,1,1,1,1,1,1,1,1,1,1,1,1,0,1,0,0,0,0,1,1,1,1,1,1,1,1,1]), .blk 5, .code (atC hensel_Lift_body [1,0,1,1,1,1,1,1,1,1,1,1,1,1,1,0,1,0,0,1]), .lp (atC hensel_Lift_body [1,0,1,1,1,1,1,1,1,1,1,1,1,1,1,0,1,0,0]), .blk 4, .code (atC hensel_Lift_body [1,0,1,1,1,1,1,1,1,1,1,1,1,1,1,1]), .sc]
  | .c13 .. => [.code (.loop (atC hensel_Lift_body [1,0,1,1,1,1,1,1,1,1,1,1,1,1,1,0,1,0,0,0,0,1,1,1,1,1,0,1,0,0])), .blk 6, .code (atC hensel_Lift_body [1,0,1,1,1,1,1,1,1,1,1,1,1,1,1,0,1,0,0,0,0,1,1,1,1,1,1]), .blk 5, .code (atC hensel_Lift_body [1,0,1,1,1,1,1,1,1,1,1,1,1,1,1,0,1,0,0,1]), .lp (atC hensel_Lift_body [1,0,1,1,1,1,1,1,1,1,1,1,1,1,1,0,1,0,0]), .blk 4, .code (atC hensel_Lift_body [1,0,1,1,1,1,1,1,1,1,1,1,1,1,1,1]), .sc]
  | .c14 .. => [.code (.loop (atC hensel_Lift_body [1,0,1,1,1,1,1,1,1,1,1,1,1,1,1,0,1,0,0,0,0,1,1,1,1,1,1,1,1,0,1,0,0])), .blk 8, .code (atC hensel_Lift_body [1,0,1,1,1,1,1,1,1,1,1,1,1,1,1,0,1,0,0,0,0,1,1,1,1,1,1,1,1,1]), .blk 5, .code (atC hensel_Lift_body [1,0,1,1,1,1,1,1,1,1,1,1,1,1,1,0,1,0,0,1]), .lp (atC hensel_Lift_body [1,0,1,1,1,1,1,1,1,1,1,1,1,1,1,0,1,0,0]), .blk 4, .code (atC hensel_Lift_body [1,0,1,1,1,1,1,1,1,1,1,1,1,1,1,1]), .sc]
  | .c15 .. => [.code (.loop (atC hensel_Lift_body [1,0,1,1,1,1,1,1,1,1,1,1,1,1,1,0,1,0,0,0,0,1,1,1,1,1,1,1,1,0,1,0,0])), .blk 8, .code (atC hensel_Lift_body [1,0,1,1,1,1,1,1,1,1,1,1,1,1,1,0,1,0,0,0,0,1,1,1,1,1,1,1,1,1]), .blk 5, .code (atC hensel_Lift_body [1,0,1,1,1,1,1,1,1,1,1,1,1,1,1,0,1,0,0,1]), .lp (atC hensel_Lift_body [1,0,1,1,1,1,1,1,1,1,1,1,1,1,1,0,1,0,0]), .blk 4, .code (atC hensel_Lift_body [1,0,1,1,1,1,1,1,1,1,1,1,1,1,1,1]), .sc]
  | .c16 .. => [.code (atC hensel_Lift_body [1,0,1,1,1,1,1,1,1,1,1,1,1,1,1,0,1,0,0,1]), .lp (atC hensel_Lift_body [1,0,1,1,1,1,1,1,1,1,1,1,1,1,1,0,1,0,0]), .blk 4, .code (atC hensel_Lift_body [1,0,1,1,1,1,1,1,1,1,1,1,1,1,1,1]), .sc]
  | .c17 .. => [.code (.loop (atC hensel_Lift_body [1,0,1,1,1,1,1,1,1,1,1,1,1,1,1,0,1,0,0,0,0,1,1,1,1,1,1,1,1,0,1,0,0])), .blk 8, .code (atC hensel_Lift_body [1,0,1,1,1,1,1,1,1,1,1,1,1,1,1,0,1,0,0,0,0,1,1,1,1,1,1,1,1,1]), .blk 5, .code (atC hensel_Lift_body [1,0,1,1,1,1,1,1,1,1,1,1,1,1,1,0,1,0,0,1]), .lp (atC hensel_Lift_body [1,0,1,1,1,1,1,1,1,1,1,1,1,1,1,0,1,0,0]), .blk 4, .code (atC hensel_Lift_body [1,0,1,1,1,1,1,1,1,1,1,1,1,1,1,1]), .sc]
  | .c18 .. => [.code (.loop (atC hensel_Lift_body [1,0,1,1,1,1,1,1,1,1,1,1,1,1,1,0,1,0,0,0,0,1,1,1,1,1,1,1,1,0,1,0,0])), .blk 8, .code (atC hensel_Lift_body [1,0,1,1,1,1,1,1,1,1,1,1,1,1,1,0,1,0,0,0,0,1,1,1,1,1,1,1,1,1]), .blk 5, .code (atC hensel_Lift_body [1,0,1,1,1,1,1,1,1,1,1,1,1,1,1,0,1,0,0,1]), .lp (atC hensel_Lift_body [1,0,1,1,1,1,1,1,1,1,1,1,1,1,1,0,1,0,0]), .blk 4, .code (atC hensel_Lift_body [1,0,1,1,1,1,1,1,1,1,1,1,1,1,1,1]), .sc]
  | .c19 .. => [.code (atC hensel_Lift_body [1,0,1,1,1,1,1,1,1,1,1,1,1,1,1,0,1,0,0,1]), .lp (atC hensel_Lift_body [1,0,1,1,1,1,1,1,1,1,1,1,1,1,1,0,1,0,0]), .blk 4, .code (atC hensel_Lift_body [1,0,1,1,1,1,1,1,1,1,1,1,1,1,1,1]), .sc]
  | .c20 .. => [.code (.loop (atC hensel_Lift_body [1,0,1,1,1,1,1,1,1,1,1,1,1,1,1,0,1,0,0,0,0,1,1,1,1,1,1,1,1,0,1,0,0])), .blk 8, .code (atC hensel_Lift_body [1,0,1,1,1,1,1,1,1,1,1,1,1,1,1,0,1,0,0,0,0,1,1,1,1,1,1,1,1,1]), .blk 5, .code (atC hensel_Lift_body [1,0,1,1,1,1,1,1,1,1,1,1,1,1,1,0,1,0,0,1]), .lp (atC hensel_Lift_body [1,0,1,1,1,1,1,1,1,1,1,1,1,1,1,0,1,0,0]), .blk 4, .code (atC hensel_Lift_body [1,0,1,1,1,1,1,1,1,1,1,1,1,1,1,1]), .sc]
  | .c21 .. => [.code (.loop (atC hensel_Lift_body [1,0,1,1,1,1,1,1,1,1,1,1,1,1,1,0,1,0,0,0,0,1,1,1,1,1,1,1,1,0,1,0,0])), .blk 8, .code (atC hensel_Lift_body [1,0,1,1,1,1,1,1,1,1,1,1,1,1,1,0,1,0,0,0,0,1,1,1,1,1,1,1,1,1]), .blk 5, .code (atC hensel_Lift_body [1,0,1,1,1,1,1,1,1,1,1,1,1,1,1,0,1,0,0,1]), .lp (atC hensel_Lift_body [1,0,1,1,1,1,1,1,1,1,1,1,1,1,1,0,1,0,0]), .blk 4, .code (atC hensel_Lift_body [1,0,1,1,1,1,1,1,1,1,1,1,1,1,1,1]), .sc]
  | .c22 .. => [.code (atC hensel_Lift_body [1,0,1,1,1,1,1,1,1,1,1,1,1,1,1,0,1,0,0,1]), .lp (atC hensel_Lift_body [1,0,1,1,1,1,1,1,1,1,1,1,1,1,1,0,1,0,0]), .blk 4, .code (atC hensel_Lift_body [1,0,1,1,1,1,1,1,1,1,1,1,1,1,1,1]), .sc]
  | .c23 .. => [.code (atC hensel_Lift_body [1,0,1,1,1,1,1,1,1,1,1,1,1,1,1,0,1,0,0,1]), .lp (atC hensel_Lift_body [1,0,1,1,1,1,1,1,1,1,1,1,1,1,1,0,1,0,0]), .blk 4, .code (atC hensel_Lift_body [1,0,1,1,1,1,1,1,1,1,1,1,1,1,1,1]), .sc]
  | .c24 .. => [.code (.loop (atC hensel_Lift_body [1,0,1,1,1,1,1,1,1,1,1,1,1,1,1,0,1,0,0])), .blk 4, .code (atC hensel_Lift_body [1,0,1,1,1,1,1,1,1,1,1,1,1,1,1,1]), .sc]
  | .c25 .. => [.code (.loop (atC hensel_Lift_body [1,0,1,1,1,1,1,1,1,1,1,1,1,1,1,0,1,0,0,0,0,1,1,1,1,1,0,1,0,0])), .blk 6, .code (atC hensel_Lift_body [1,0,1,1,1,1,1,1,1,1,1,1,1,1,1,0,1,0,0,0,0,1,1,1,1,1,1]), .blk 5, .code (atC hensel_Lift_body [1,0,1,1,1,1,1,1,1,1,1,1,1,1,1,0,1,0,0,1]), .lp (atC hensel_Lift_body [1,0,1,1,1,1,1,1,1,1,1,1,1,1,1,0,1,0,0]), .blk 4, .code (atC hensel_Lift_body [1,0,1,1,1,1,1,1,1,1,1,1,1,1,1,1]), .sc]
  | .c26 .. => [.code (.loop (atC hensel_Lift_body [1,0,1,1,1,1,1,1,1,1,1,1,1,1,1,0,1,0,0,0,0,1,1,1,1,1,0,1,0,0])), .blk 6, .code (atC hensel_Lift_body [1,0,1,1,1,1,1,1,1,1,1,1,1,1,1,0,1,0,0,0,0,1,1,1,1,1,1]), .blk 5, .code (atC hensel_Lift_body [1,0,1,1,1,1,1,1,1,1,1,1,1,1,1,0,1,0,0,1]), .lp (atC hensel_Lift_body [1,0,1,1,1,1,1,1,1,1,1,1,1,1,1,0,1,0,0]), .blk 4, .code (atC hensel_Lift_body [1,0,1,1,1,1,1,1,1,1,1,1,1,1,1,1]), .sc]
  | .c27 .. => [.code (.loop (atC hensel_Lift_body [1,0,1,1,1,1,1,1,1,1,1,1,1,1,1,0,1,0,0,0,0,1,1,1,1,1,1,1,1,0,1,0,0])), .blk 8, .code (atC hensel_Lift_body [1,0,1,1,1,1,1,1,1,1,1,1,1,1,1,0,1,0,0,0,0,1,1,1,1,1,1,1,1,1]), .blk 5, .code (atC hensel_Lift_body [1,0,1,1,1,1,1,1,1,1,1,1,1,1,1,0,1,0,0,1]), .lp (atC hensel_Lift_body [1,0,1,1,1,1,1,1,1,1,1,1,1,1,1,0,1,0,0]), .blk 4, .code (atC hensel_Lift_body [1,0,1,1,1,1,1,1,1,1,1,1,1,1,1,1]), .sc]
  | .c28 .. => [.code (.loop (atC hensel_Lift_body [1,0,1,1,1,1,1,1,1,1,1,1,1,1,1,0,1,0,0,0,0,1,1,1,1,1,1,1,1,0,1,0,0])), .blk 8, .code (atC hensel_Lift_body [1,0,1,1,1,1,1,1,1,1,1,1,1,1,1,0,1,0,0,0,0,1,1,1,1,1,1,1,1,1]), .blk 5, .code (atC hensel_Lift_body [1,0,1,1,1,1,1,1,1,1,1,1,1,1,1,0,1,0,0,1]), .lp (atC hensel_Lift_body [1,0,1,1,1,1,1,1,1,1,1,1,1,1,1,0,1,0,0]), .blk 4, .code (atC hensel_Lift_body [1,0,1,1,1,1,1,1,1,1,1,1,1,1,1,1]), .sc]
  | .c29 .. => [.code (.loop (atC hensel_Lift_body [1,0,1,1,1,1,1,1,1,1,1,1,1,1,1,0,1,0,0,0,0,1,1,1,1,1,1,1,1,0,1,0,0])), .blk 8, .code (atC hensel_Lift_body [1,0,1,1,1,1,1,1,1,1,1,1,1,1,1,0,1,0,0,0,0,1,1,1,1,1,1,1,1,1]), .blk 5, .code (atC hensel_Lift_body [1,0,1,1,1,1,1,1,1,1,1,1,1,1,1,0,1,0,0,1]), .lp (atC hensel_Lift_body [1,0,1,1,1,1,1,1,1,1,1,1,1,1,1,0,1,0,0]), .blk 4, .code (atC hensel_Lift_body [1,0,1,1,1,1,1,1,1,1,1,1,1,1,1,1]), .sc]
  | .c30 .. => [.code (atC hensel_Lift_body [1,0,1,1,1,1,1,1,1,1,1,1,1,1,1,0,1,0,0,1]), .lp (atC hensel_Lift_body [1,0,1,1,1,1,1,1,1,1,1,1,1,1,1,0,1,0,0]), .blk 4, .code (atC hensel_Lift_body [1,0,1,1,1,1,1,1,1,1,1,1,1,1,1,1]), .sc]
  | .c31 .. => [.code (.loop (atC hensel_Lift_body [1,0,1,1,1,1,1,1,1,1,1,1,1,1,1,0,1,0,0,0,0,1,1,1,1,1,1,1,1,0,1,0,0])), .blk 8, .code (atC hensel_Lift_body [1,0,1,1,1,1,1,1,1,1,1,1,1,1,1,0,1,0,0,0,0,1,1,1,1,1,1,1,1,1]), .blk 5, .code (atC hensel_Lift_body [1,0,1,1,1,1,1,1,1,1,1,1,1,1,1,0,1,0,0,1]), .lp (atC hensel_Lift_body [1,0,1,1,1,1,1,1,1,1,1,1,1,1,1,0,1,0,0]), .blk 4, .code (atC hensel_Lift_body [1,0,1,1,1,1,1,1,1,1,1,1,1,1,1,1]), .sc]
  | .c32 .. => [.code (atC hensel_Lift_body [1,0,1,1,1,1,1,1,1,1,1,1,1,1,1,0,1,0,0,1]), .lp (atC hensel_Lift_body [1,0,1,1,1,1,1,1,1,1,1,1,1,1,1,0,1,0,0]), .blk 4, .code (atC hensel_Lift_body [1,0,1,1,1,1,1,1,1,1,1,1,1,1,1,1]), .sc]
  | .c33 .. => [.code (.loop (atC hensel_Lift_body [1,0,1,1,1,1,1,1,1,1,1,1,1,1,1,0,1,0,0])), .blk 4, .code (atC hensel_Lift_body [1,0,1,1,1,1,1,1,1,1,1,1,1,1,1,1]), .sc]
  | .c34 .. => [.code (.loop (atC hensel_Lift_body [1,0,1,1,1,1,1,1,1,1,1,1,1,1,1,0,1,0,0,0,0,1,1,1,1,1,0,1,0,0])), .blk 6, .code (atC hensel_Lift_body [1,0,1,1,1,1,1,1,1,1,1,1,1,1,1,0,1,0,0,0,0,1,1,1,1,1,1]), .blk 5, .code (atC hensel_Lift_body [1,0,1,1,1,1,1,1,1,1,1,1,1,1,1,0,1,0,0,1]), .lp (atC hensel_Lift_body [1,0,1,1,1,1,1,1,1,1,1,1,1,1,1,0,1,0,0]), .blk 4, .code (atC hensel_Lift_body [1,0,1,1,1,1,1,1,1,1,1,1,1,1,1,1]), .sc]
  | .c35 .. => [.code (.loop (atC hensel_Lift_body [1,0,1,1,1,1,1,1,1,1,1,1,1,1,1,0,1,0,0,0,0,1,1,1,1,1,0,1,0,0])), .blk 6, .code (atC hensel_Lift_body [1,0,1,1,1,1,1,1,1,1,1,1,1,1,1,0,1,0,0,0,0,1,1,1,1,1,1]), .blk 5, .code (atC hensel_Lift_body [1,0,1,1,1,1,1,1,1,1,1,1,1,1,1,0,1,0,0,1]), .lp (atC hensel_Lift_body [1,0,1,1,1,1,1,1,1,1,1,1,1,1,1,0,1,0,0]), .blk 4, .code (atC hensel_Lift_body [1,0,1,1,1,1,1,1,1,1,1,1,1,1,1,1]), .sc]
  | .c36 .. => [.code (.loop (atC hensel_Lift_body [1,0,1,1,1,1,1,1,1,1,1,1,1,1,1,0,1,0,0,0,0,1,1,1,1,1,0,1,0,0])), .blk 6, .code (atC hensel_Lift_body [1,0,1,1,1,1,1,1,1,1,1,1,1,1,1,0,1,0,0,0,0,1,1,1,1,1,1]), .blk 5, .code (atC hensel_Lift_body [1,0,1,1,1,1,1,1,1,1,1,1,1,1,1,0,1,0,0,1]), .lp (atC hensel_Lift_body [1,0,1,1,1,1,1,1,1,1,1,1,1,1,1,0,1,0,0]), .blk 4, .code (atC hensel_Lift_body [1,0,1,1,1,1,1,1,1,1,1,1,1,1,1,1]), .sc]
  | .c37 .. => [.code (.loop (atC hensel_Lift_body [1,0,1,1,1,1,1,1,1,1,1,1,1,1,1,0,1,0,0,0,0,1,1,1,1,1,1,1,1,0,1,0,0])), .blk 8, .code (atC hensel_Lift_body [1,0,1,1,1,1,1,1,1,1,1,1,1,1,1,0,1,0,0,0,0,1,1,1,1,1,1,1,1,1]), .blk 5, .code (atC hensel_Lift_body [1,0,1,1,1,1,1,1,1,1,1,1,1,1,1,0,1,0,0,1]), .lp (atC hensel_Lift_body [1,0,1,1,1,1,1,1,1,1,1,1,1,1,1,0,1,0,0]), .blk 4, .code (atC hensel_Lift_body [1,0,1,1,1,1,1,1,1,1,1,1,1,1,1,1]), .sc]
  | .c38 .. => [.code (.loop (atC hensel_Lift_body [1,0,1,1,1,1,1,1,1,1,1,1,1,1,1,0,1,0,0,0,0,1,1,1,1,1,0,1,0,0])), .blk 6, .code (atC hensel_Lift_body [1,0,1,1,1,1,1,1,1,1,1,1,1,1,1,0,1,0,0,0,0,1,1,1,1,1,1]), .blk 5, .code (atC hensel_Lift_body [1,0,1,1,1,1,1,1,1,1,1,1,1,1,1,0,1,0,0,1]), .lp (atC hensel_Lift_body [1,0,1,1,1,1,1,1,1,1,1,1,1,1,1,0,1,0,0]), .blk 4, .code (atC hensel_Lift_body [1,0,1,1,1,1,1,1,1,1,1,1,1,1,1,1]), .sc]
  | .c39 .. => [.code (.loop (atC hensel_Lift_body [1,0,1,1,1,1,1,1,1,1,1,1,1,1,1,0,1,0,0,0,0,1,1,1,1,1,1,1,1,0,1,0,0])), .blk 8, .code (atC hensel_Lift_body [1,0,1,1,1,1,1,1,1,1,1,1,1,1,1,0,1,0,0,0,0,1,1,1,1,1,1,1,1,1]), .blk 5, .code (atC hensel_Lift_body [1,0,1,1,1,1,1,1,1,1,1,1,1,1,1,0,1,0,0,1]), .lp (atC hensel_Lift_body [1,0,1,1,1,1,1,1,1,1,1,1,1,1,1,0,1,0,0]), .blk 4, .code (atC hensel_Lift_body [1,0,1,1,1,1,1,1,1,1,1,1,1,1,1,1]), .sc]
  | .c40 .. => [.code (.loop (atC hensel_Lift_body [1,0,1,1,1,1,1,1,1,1,1,1,1,1,1,0,1,0,0,0,0,1,1,1,1,1,1,1,1,0,1,0,0])), .blk 8, .code (atC hensel_Lift_body [1,0,1,1,1,1,1,1,1,1,1,1,1,1,1,0,1,0,0,0,0,1,1,1,1,1,1,1,1,1]), .blk 5, .code (atC hensel_Lift_body [1,0,1,1,1,1,1,1,1,1,1,1,1,1,1,0,1,0,0,1]), .lp (atC hensel_Lift_body [1,0,1,1,1,1,1,1,1,1,1,1,1,1,1,0,1,0,0]), .blk 4, .code (atC hensel_Lift_body [1,0,1,1,1,1,1,1,1,1,1,1,1,1,1,1]), .sc]
  | .c41 .. => [.code (.loop (atC hensel_Lift_body [1,0,1,1,1,1,1,1,1,1,1,1,1,1,1,0,1,0,0,0,0,1,1,1,1,1,1,1,1,0,1,0,0])), .blk 8, .code (atC hensel_Lift_body [1,0,1,1,1,1,1,1,1,1,1,1,1,1,1,0,1,0,0,0,0,1,1,1,1,1,1,1,1,1]), .blk 5, .code (atC hensel_Lift_body [1,0,1,1,1,1,1,1,1,1,1,1,1,1,1,0,1,0,0,1]), .lp (atC hensel_Lift_body [1,0,1,1,1,1,1,1,1,1,1,1,1,1,1,0,1,0,0]), .blk 4, .code (atC hensel_Lift_body [1,0,1,1,1,1,1,1,1,1,1,1,1,1,1,1]), .sc]
  | .c42 .. => [.code (.loop (atC hensel_Lift_body [1,0,1,1,1,1,1,1,1,1,1,1,1,1,1,0,1,0,0,0,0,1,1,1,1,1,1,1,1,0,1,0,0])), .blk 8, .code (atC hensel_Lift_body [1,0,1,1,1,1,1,1,1,1,1,1,1,1,1,0,1,0,0,0,0,1,1,1,1,1,1,1,1,1]), .blk 5, .code (atC hensel_Lift_body [1,0,1,1,1,1,1,1,1,1,1,1,1,1,1,0,1,0,0,1]), .lp (atC hensel_Lift_body [1,0,1,1,1,1,1,1,1,1,1,1,1,1,1,0,1,0,0]), .blk 4, .code (atC hensel_Lift_body [1,0,1,1,1,1,1,1,1,1,1,1,1,1,1,1]), .sc]
  | .c43 .. => [.code (.loop (atC hensel_Lift_body [1,0,1,1,1,1,1,1,1,1,1,1,1,1,1,0,1,0,0,0,0,1,1,1,1,1,1,1,1,0,1,0,0])), .blk 8, .code (atC hensel_Lift_body [1,0,1,1,1,1,1,1,1,1,1,1,1,1,1,0,1,0,0,0,0,1,1,1,1,1,1,1,1,1]), .blk 5, .code (atC hensel_Lift_body [1,0,1,1,1,1,1,1,1,1,1,1,1,1,1,0,1,0,0,1]), .lp (atC hensel_Lift_body [1,0,1,1,1,1,1,1,1,1,1,1,1,1,1,0,1,0,0]), .blk 4, .code (atC hensel_Lift_body [1,0,1,1,1,1,1,1,1,1,1,1,1,1,1,1]), .sc]
  | .c44 .. => [.code (atC hensel_Lift_body [1,0,1,1,1,1,1,1,1,1,1,1,1,1,1,0,1,0,0,1]), .lp (atC hensel_Lift_body [1,0,1,1,1,1,1,1,1,1,1,1,1,1,1,0,1,0,0]), .blk 4, .code (atC hensel_Lift_body [1,0,1,1,1,1,1,1,1,1,1,1,1,1,1,1]), .sc]
def hensel_Lift_st : hensel_Lift_Cut → St
  | .c0 f list p k => St.init [(tl 2 f ce_integer_Int), (tl 1 list ce_Lu32), (ti .u32 p), (ti .i64 k)]
  | .c1 base top f list p k t63 t64 => ⟨[(0, vl 2 f ce_integer_Int), (1, vl 1 list ce_Lu32), (2, vi .u32 p), (3, vi .i64 k), (11, .c (C.ptr 11 0)), (12, .c (C.ptr 12 0)), (63, vi .i64 t63), (64, vi .i64 t64)], [(11, .var ((ce_integer_Int base).map C.t)), (12, .var ((ce_integer_Int top).map C.t))], []⟩
  | .c2 base top p k goal monic parts t85 t86 t87 => ⟨[(2, vi .u32 p), (3, vi .i64 k), (11, .c (C.ptr 11 0)), (12, .c (C.ptr 12 0)), (13, vl 2 goal ce_integer_Int), (14, vl 1 monic ce_Lu32), (16, vl 1 parts ce_Lu32), (17, .c (C.ptr 17 0)), (85, vl 1 t85 ce_Lu32), (86, vi .i64 t86), (87, vi .i64 t87)], [(11, .var ((ce_integer_Int base).map C.t)), (12, .var ((ce_integer_Int top).map C.t)), (17, .var [C.nil, C.nil])], []⟩
  | .c3 base top r97 p k goal monic parts t85 t86 t87 => ⟨[(2, vi .u32 p), (3, vi .i64 k), (11, .c (C.ptr 11 0)), (12, .c (C.ptr 12 0)), (13, vl 2 goal ce_integer_Int), (14, vl 1 monic ce_Lu32), (16, vl 1 parts ce_Lu32), (17, .c (C.ptr 17 0)), (85, vl 1 t85 ce_Lu32), (86, vi .i64 t86), (87, vi .i64 t87)], [(11, .var ((ce_integer_Int base).map C.t)), (12, .var ((ce_integer_Int top).map C.t)), (17, .var [C.row 97 0 r97.length, C.nil]), (97, .row 90 1 (r97.map ce_Linteger_Int) 0)], []⟩
  | .c4 base top power p k goal monic parts step => ⟨[(2, vi .u32 p), (3, vi .i64 k), (11, .c (C.ptr 11 0)), (12, .c (C.ptr 12 0)), (13, vl 2 goal ce_integer_Int), (14, vl 1 monic ce_Lu32), (16, vl 1 parts ce_Lu32), (17, .c (C.ptr 17 0)), (20, .c (C.ptr 20 0)), (21, vi .i64 step)], [(11, .var ((ce_integer_Int base).map C.t)), (12, .var ((ce_integer_Int top).map C.t)), (17, .var [C.nil, C.nil]), (20, .var ((ce_integer_Int power).map C.t))], []⟩
  | .c5 base top pair power p k goal monic parts step => ⟨[(2, vi .u32 p), (3, vi .i64 k), (11, .c (C.ptr 11 0)), (12, .c (C.ptr 12 0)), (13, vl 2 goal ce_integer_Int), (14, vl 1 monic ce_Lu32), (16, vl 1 parts ce_Lu32), (17, .c (C.ptr 17 0)), (20, .c (C.ptr 20 0)), (21, vi .i64 step)], [(11, .var ((ce_integer_Int base).map C.t)), (12, .var ((ce_integer_Int top).map C.t)), (17, .var [C.t (T.sl 1 (pair.map ce_Linteger_Int)), C.nil]), (20, .var ((ce_integer_Int power).map C.t))], []⟩
  | .c6 base top power p k goal monic parts step t131 t132 t133 => ⟨[(2, vi .u32 p), (3, vi .i64 k), (11, .c (C.ptr 11 0)), (12, .c (C.ptr 12 0)), (13, vl 2 goal ce_integer_Int), (14, vl 1 monic ce_Lu32), (16, vl 1 parts ce_Lu32), (17, .c (C.ptr 17 0)), (20, .c (C.ptr 20 0)), (21, vi .i64 step), (22, .c (C.nil)), (27, .c (C.nil)), (131, vl 2 t131 ce_integer_Int), (132, vi .i64 t132), (133, vi .i64 t133)], [(11, .var ((ce_integer_Int base).map C.t)), (12, .var ((ce_integer_Int top).map C.t)), (17, .var [C.nil, C.nil]), (20, .var ((ce_integer_Int power).map C.t))], []⟩
  | .c7 base top pair power p k goal monic parts step now t131 t132 t133 => ⟨[(2, vi .u32 p), (3, vi .i64 k), (11, .c (C.ptr 11 0)), (12, .c (C.ptr 12 0)), (13, vl 2 goal ce_integer_Int), (14, vl 1 monic ce_Lu32), (16, vl 1 parts ce_Lu32), (17, .c (C.ptr 17 0)), (20, .c (C.ptr 20 0)), (21, vi .i64 step), (22, vl 1 now ce_Linteger_Int), (27, .c (C.nil)), (131, vl 2 t131 ce_integer_Int), (132, vi .i64 t132), (133, vi .i64 t133)], [(11, .var ((ce_integer_Int base).map C.t)), (12, .var ((ce_integer_Int top).map C.t)), (17, .var [C.t (T.sl 1 (pair.map ce_Linteger_Int)), C.nil]), (20, .var ((ce_integer_Int power).map C.t))], []⟩
  | .c8 base top pair power p k goal monic parts step t131 t132 t133 => ⟨[(2, vi .u32 p), (3, vi .i64 k), (11, .c (C.ptr 11 0)), (12, .c (C.ptr 12 0)), (13, vl 2 goal ce_integer_Int), (14, vl 1 monic ce_Lu32), (16, vl 1 parts ce_Lu32), (17, .c (C.ptr 17 0)), (20, .c (C.ptr 20 0)), (21, vi .i64 step), (22, .c (C.nil)), (27, .c (C.nil)), (131, vl 2 t131 ce_integer_Int), (132, vi .i64 t132), (133, vi .i64 t133)], [(11, .var ((ce_integer_Int base).map C.t)), (12, .var ((ce_integer_Int top).map C.t)), (17, .var [C.t (T.sl 1 (pair.map ce_Linteger_Int)), C.nil]), (20, .var ((ce_integer_Int power).map C.t))], []⟩
  | .c9 base top power r148 p k goal monic parts step t131 t132 t133 => ⟨[(2, vi .u32 p), (3, vi .i64 k), (11, .c (C.ptr 11 0)), (12, .c (C.ptr 12 0)), (13, vl 2 goal ce_integer_Int), (14, vl 1 monic ce_Lu32), (16, vl 1 parts ce_Lu32), (17, .c (C.ptr 17 0)), (20, .c (C.ptr 20 0)), (21, vi .i64 step), (22, .c (C.nil)), (27, .c (C.row 148 0 r148.length)), (131, vl 2 t131 ce_integer_Int), (132, vi .i64 t132), (133, vi .i64 t133)], [(11, .var ((ce_integer_Int base).map C.t)), (12, .var ((ce_integer_Int top).map C.t)), (17, .var [C.nil, C.nil]), (20, .var ((ce_integer_Int power).map C.t)), (148, .row 101 1 (r148.map ce_u32) 0)], []⟩
  | .c10 base top power next p k goal monic parts step t154 t155 => ⟨[(2, vi .u32 p), (3, vi .i64 k), (11, .c (C.ptr 11 0)), (12, .c (C.ptr 12 0)), (13, vl 2 goal ce_integer_Int), (14, vl 1 monic ce_Lu32), (16, vl 1 parts ce_Lu32), (17, .c (C.ptr 17 0)), (20, .c (C.ptr 20 0)), (21, vi .i64 step), (27, .c (C.nil)), (32, .c (C.ptr 32 0)), (33, .c (C.nil)), (153, .c (C.nil)), (154, vi .i64 t154), (155, vi .i64 t155)], [(11, .var ((ce_integer_Int base).map C.t)), (12, .var ((ce_integer_Int top).map C.t)), (17, .var [C.nil, C.nil]), (20, .var ((ce_integer_Int power).map C.t)), (32, .var ((ce_integer_Int next).map C.t))], []⟩
  | .c11 base top pair power r148 p k goal monic parts step now t131 t132 t133 => ⟨[(2, vi .u32 p), (3, vi .i64 k), (11, .c (C.ptr 11 0)), (12, .c (C.ptr 12 0)), (13, vl 2 goal ce_integer_Int), (14, vl 1 monic ce_Lu32), (16, vl 1 parts ce_Lu32), (17, .c (C.ptr 17 0)), (20, .c (C.ptr 20 0)), (21, vi .i64 step), (22, vl 1 now ce_Linteger_Int), (27, .c (C.row 148 0 r148.length)), (131, vl 2 t131 ce_integer_Int), (132, vi .i64 t132), (133, vi .i64 t133)], [(11, .var ((ce_integer_Int base).map C.t)), (12, .var ((ce_integer_Int top).map C.t)), (17, .var [C.t (T.sl 1 (pair.map ce_Linteger_Int)), C.nil]), (20, .var ((ce_integer_Int power).map C.t)), (148, .row 101 1 (r148.map ce_u32) 0)], []⟩
  | .c12 base top pair power next p k goal monic parts step t153 t154 t155 => ⟨[(2, vi .u32 p), (3, vi .i64 k), (11, .c (C.ptr 11 0)), (12, .c (C.ptr 12 0)), (13, vl 2 goal ce_integer_Int), (14, vl 1 monic ce_Lu32), (16, vl 1 parts ce_Lu32), (17, .c (C.ptr 17 0)), (20, .c (C.ptr 20 0)), (21, vi .i64 step), (27, .c (C.nil)), (32, .c (C.ptr 32 0)), (33, .c (C.nil)), (153, vl 1 t153 ce_Linteger_Int), (154, vi .i64 t154), (155, vi .i64 t155)], [(11, .var ((ce_integer_Int base).map C.t)), (12, .var ((ce_integer_Int top).map C.t)), (17, .var [C.t (T.sl 1 (pair.map ce_Linteger_Int)), C.nil]), (20, .var ((ce_integer_Int power).map C.t)), (32, .var ((ce_integer_Int next).map C.t))], []⟩
  | .c13 base top pair power r148 p k goal monic parts step t131 t132 t133 => ⟨[(2, vi .u32 p), (3, vi .i64 k), (11, .c (C.ptr 11 0)), (12, .c (C.ptr 12 0)), (13, vl 2 goal ce_integer_Int), (14, vl 1 monic ce_Lu32), (16, vl 1 parts ce_Lu32), (17, .c (C.ptr 17 0)), (20, .c (C.ptr 20 0)), (21, vi .i64 step), (22, .c (C.nil)), (27, .c (C.row 148 0 r148.length)), (131, vl 2 t131 ce_integer_Int), (132, vi .i64 t132), (133, vi .i64 t133)], [(11, .var ((ce_integer_Int base).map C.t)), (12, .var ((ce_integer_Int top).map C.t)), (17, .var [C.t (T.sl 1 (pair.map ce_Linteger_Int)), C.nil]), (20, .var ((ce_integer_Int power).map C.t)), (148, .row 101 1 (r148.map ce_u32) 0)], []⟩
  | .c14 base top pair power next p k goal monic parts step t154 t155 => ⟨[(2, vi .u32 p), (3, vi .i64 k), (11, .c (C.ptr 11 0)), (12, .c (C.ptr 12 0)), (13, vl 2 goal ce_integer_Int), (14, vl 1 monic ce_Lu32), (16, vl 1 parts ce_Lu32), (17, .c (C.ptr 17 0)), (20, .c (C.ptr 20 0)), (21, vi .i64 step), (27, .c (C.nil)), (32, .c (C.ptr 32 0)), (33, .c (C.nil)), (153, .c (C.nil)), (154, vi .i64 t154), (155, vi .i64 t155)], [(11, .var ((ce_integer_Int base).map C.t)), (12, .var ((ce_integer_Int top).map C.t)), (17, .var [C.t (T.sl 1 (pair.map ce_Linteger_Int)), C.nil]), (20, .var ((ce_integer_Int power).map C.t)), (32, .var ((ce_integer_Int next).map C.t))], []⟩
  | .c15 base top power next r148 p k goal monic parts step t154 t155 => ⟨[(2, vi .u32 p), (3, vi .i64 k), (11, .c (C.ptr 11 0)), (12, .c (C.ptr 12 0)), (13, vl 2 goal ce_integer_Int), (14, vl 1 monic ce_Lu32), (16, vl 1 parts ce_Lu32), (17, .c (C.ptr 17 0)), (20, .c (C.ptr 20 0)), (21, vi .i64 step), (27, .c (C.row 148 0 r148.length)), (32, .c (C.ptr 32 0)), (33, .c (C.nil)), (153, .c (C.nil)), (154, vi .i64 t154), (155, vi .i64 t155)], [(11, .var ((ce_integer_Int base).map C.t)), (12, .var ((ce_integer_Int top).map C.t)), (17, .var [C.nil, C.nil]), (20, .var ((ce_integer_Int power).map C.t)), (32, .var ((ce_integer_Int next).map C.t)), (148, .row 101 1 (r148.map ce_u32) 0)], []⟩
  | .c16 base top power p k goal monic parts step => ⟨[(2, vi .u32 p), (3, vi .i64 k), (11, .c (C.ptr 11 0)), (12, .c (C.ptr 12 0)), (13, vl 2 goal ce_integer_Int), (14, vl 1 monic ce_Lu32), (16, vl 1 parts ce_Lu32), (17, .c (C.ptr 17 0)), (20, .c (C.ptr 20 0)), (21, vi .i64 step)], [(11, .var ((ce_integer_Int base).map C.t)), (12, .var ((ce_integer_Int top).map C.t)), (17, .var [C.nil, C.nil]), (20, .var ((ce_integer_Int power).map C.t))], []⟩
  | .c17 base top pair power next r148 p k goal monic parts step t153 t154 t155 => ⟨[(2, vi .u32 p), (3, vi .i64 k), (11, .c (C.ptr 11 0)), (12, .c (C.ptr 12 0)), (13, vl 2 goal ce_integer_Int), (14, vl 1 monic ce_Lu32), (16, vl 1 parts ce_Lu32), (17, .c (C.ptr 17 0)), (20, .c (C.ptr 20 0)), (21, vi .i64 step), (27, .c (C.row 148 0 r148.length)), (32, .c (C.ptr 32 0)), (33, .c (C.nil)), (153, vl 1 t153 ce_Linteger_Int), (154, vi .i64 t154), (155, vi .i64 t155)], [(11, .var ((ce_integer_Int base).map C.t)), (12, .var ((ce_integer_Int top).map C.t)), (17, .var [C.t (T.sl 1 (pair.map ce_Linteger_Int)), C.nil]), (20, .var ((ce_integer_Int power).map C.t)), (32, .var ((ce_integer_Int next).map C.t)), (148, .row 101 1 (r148.map ce_u32) 0)], []⟩
  | .c18 base top pair power next r193 p k goal monic parts step t153 t154 t155 => ⟨[(2, vi .u32 p), (3, vi .i64 k), (11, .c (C.ptr 11 0)), (12, .c (C.ptr 12 0)), (13, vl 2 goal ce_integer_Int), (14, vl 1 monic ce_Lu32), (16, vl 1 parts ce_Lu32), (17, .c (C.ptr 17 0)), (20, .c (C.ptr 20 0)), (21, vi .i64 step), (27, .c (C.nil)), (32, .c (C.ptr 32 0)), (33, .c (C.row 193 0 r193.length)), (153, vl 1 t153 ce_Linteger_Int), (154, vi .i64 t154), (155, vi .i64 t155)], [(11, .var ((ce_integer_Int base).map C.t)), (12, .var ((ce_integer_Int top).map C.t)), (17, .var [C.t (T.sl 1 (pair.map ce_Linteger_Int)), C.nil]), (20, .var ((ce_integer_Int power).map C.t)), (32, .var ((ce_integer_Int next).map C.t)), (193, .row 90 1 (r193.map ce_Linteger_Int) 0)], []⟩
  | .c19 base top pair power p k goal monic parts step => ⟨[(2, vi .u32 p), (3, vi .i64 k), (11, .c (C.ptr 11 0)), (12, .c (C.ptr 12 0)), (13, vl 2 goal ce_integer_Int), (14, vl 1 monic ce_Lu32), (16, vl 1 parts ce_Lu32), (17, .c (C.ptr 17 0)), (20, .c (C.ptr 20 0)), (21, vi .i64 step)], [(11, .var ((ce_integer_Int base).map C.t)), (12, .var ((ce_integer_Int top).map C.t)), (17, .var [C.t (T.sl 1 (pair.map ce_Linteger_Int)), C.nil]), (20, .var ((ce_integer_Int power).map C.t))], []⟩
  | .c20 base top pair power next r148 p k goal monic parts step t154 t155 => ⟨[(2, vi .u32 p), (3, vi .i64 k), (11, .c (C.ptr 11 0)), (12, .c (C.ptr 12 0)), (13, vl 2 goal ce_integer_Int), (14, vl 1 monic ce_Lu32), (16, vl 1 parts ce_Lu32), (17, .c (C.ptr 17 0)), (20, .c (C.ptr 20 0)), (21, vi .i64 step), (27, .c (C.row 148 0 r148.length)), (32, .c (C.ptr 32 0)), (33, .c (C.nil)), (153, .c (C.nil)), (154, vi .i64 t154), (155, vi .i64 t155)], [(11, .var ((ce_integer_Int base).map C.t)), (12, .var ((ce_integer_Int top).map C.t)), (17, .var [C.t (T.sl 1 (pair.map ce_Linteger_Int)), C.nil]), (20, .var ((ce_integer_Int power).map C.t)), (32, .var ((ce_integer_Int next).map C.t)), (148, .row 101 1 (r148.map ce_u32) 0)], []⟩
  | .c21 base top pair power next r193 p k goal monic parts step change t153 t154 t155 => ⟨[(2, vi .u32 p), (3, vi .i64 k), (11, .c (C.ptr 11 0)), (12, .c (C.ptr 12 0)), (13, vl 2 goal ce_integer_Int), (14, vl 1 monic ce_Lu32), (16, vl 1 parts ce_Lu32), (17, .c (C.ptr 17 0)), (20, .c (C.ptr 20 0)), (21, vi .i64 step), (27, vl 1 change ce_u32), (32, .c (C.ptr 32 0)), (33, .c (C.row 193 0 r193.length)), (153, vl 1 t153 ce_Linteger_Int), (154, vi .i64 t154), (155, vi .i64 t155)], [(11, .var ((ce_integer_Int base).map C.t)), (12, .var ((ce_integer_Int top).map C.t)), (17, .var [C.t (T.sl 1 (pair.map ce_Linteger_Int)), C.nil]), (20, .var ((ce_integer_Int power).map C.t)), (32, .var ((ce_integer_Int next).map C.t)), (193, .row 90 1 (r193.map ce_Linteger_Int) 0)], []⟩
  | .c22 base top power r193 p k goal monic parts step => ⟨[(2, vi .u32 p), (3, vi .i64 k), (11, .c (C.ptr 11 0)), (12, .c (C.ptr 12 0)), (13, vl 2 goal ce_integer_Int), (14, vl 1 monic ce_Lu32), (16, vl 1 parts ce_Lu32), (17, .c (C.ptr 17 0)), (20, .c (C.ptr 20 0)), (21, vi .i64 step)], [(11, .var ((ce_integer_Int base).map C.t)), (12, .var ((ce_integer_Int top).map C.t)), (17, .var [C.row 193 0 r193.length, C.nil]), (20, .var ((ce_integer_Int power).map C.t)), (193, .row 90 1 (r193.map ce_Linteger_Int) 0)], []⟩
  | .c23 base top pair power r193 p k goal monic parts step => ⟨[(2, vi .u32 p), (3, vi .i64 k), (11, .c (C.ptr 11 0)), (12, .c (C.ptr 12 0)), (13, vl 2 goal ce_integer_Int), (14, vl 1 monic ce_Lu32), (16, vl 1 parts ce_Lu32), (17, .c (C.ptr 17 0)), (20, .c (C.ptr 20 0)), (21, vi .i64 step)], [(11, .var ((ce_integer_Int base).map C.t)), (12, .var ((ce_integer_Int top).map C.t)), (17, .var [C.t (T.sl 1 (pair.map ce_Linteger_Int)), C.row 193 0 r193.length]), (20, .var ((ce_integer_Int power).map C.t)), (193, .row 90 1 (r193.map ce_Linteger_Int) 0)], []⟩
  | .c24 base top pair power p k goal monic parts step => ⟨[(2, vi .u32 p), (3, vi .i64 k), (11, .c (C.ptr 11 0)), (12, .c (C.ptr 12 0)), (13, vl 2 goal ce_integer_Int), (14, vl 1 monic ce_Lu32), (16, vl 1 parts ce_Lu32), (17, .c (C.ptr 17 0)), (20, .c (C.ptr 20 0)), (21, vi .i64 step)], [(11, .var ((ce_integer_Int base).map C.t)), (12, .var ((ce_integer_Int top).map C.t)), (17, .var ((ce_A2_Lunipoly_Poly pair).map C.t)), (20, .var ((ce_integer_Int power).map C.t))], []⟩
  | .c25 base top pair power p k goal monic parts step now t131 t132 t133 => ⟨[(2, vi .u32 p), (3, vi .i64 k), (11, .c (C.ptr 11 0)), (12, .c (C.ptr 12 0)), (13, vl 2 goal ce_integer_Int), (14, vl 1 monic ce_Lu32), (16, vl 1 parts ce_Lu32), (17, .c (C.ptr 17 0)), (20, .c (C.ptr 20 0)), (21, vi .i64 step), (22, vl 1 now ce_Linteger_Int), (27, .c (C.nil)), (131, vl 2 t131 ce_integer_Int), (132, vi .i64 t132), (133, vi .i64 t133)], [(11, .var ((ce_integer_Int base).map C.t)), (12, .var ((ce_integer_Int top).map C.t)), (17, .var ((ce_A2_Lunipoly_Poly pair).map C.t)), (20, .var ((ce_integer_Int power).map C.t))], []⟩
  | .c26 base top pair power r148 p k goal monic parts step now t131 t132 t133 => ⟨[(2, vi .u32 p), (3, vi .i64 k), (11, .c (C.ptr 11 0)), (12, .c (C.ptr 12 0)), (13, vl 2 goal ce_integer_Int), (14, vl 1 monic ce_Lu32), (16, vl 1 parts ce_Lu32), (17, .c (C.ptr 17 0)), (20, .c (C.ptr 20 0)), (21, vi .i64 step), (22, vl 1 now ce_Linteger_Int), (27, .c (C.row 148 0 r148.length)), (131, vl 2 t131 ce_integer_Int), (132, vi .i64 t132), (133, vi .i64 t133)], [(11, .var ((ce_integer_Int base).map C.t)), (12, .var ((ce_integer_Int top).map C.t)), (17, .var ((ce_A2_Lunipoly_Poly pair).map C.t)), (20, .var ((ce_integer_Int power).map C.t)), (148, .row 101 1 (r148.map ce_u32) 0)], []⟩
  | .c27 base top pair power next p k goal monic parts step t153 t154 t155 => ⟨[(2, vi .u32 p), (3, vi .i64 k), (11, .c (C.ptr 11 0)), (12, .c (C.ptr 12 0)), (13, vl 2 goal ce_integer_Int), (14, vl 1 monic ce_Lu32), (16, vl 1 parts ce_Lu32), (17, .c (C.ptr 17 0)), (20, .c (C.ptr 20 0)), (21, vi .i64 step), (27, .c (C.nil)), (32, .c (C.ptr 32 0)), (33, .c (C.nil)), (153, vl 1 t153 ce_Linteger_Int), (154, vi .i64 t154), (155, vi .i64 t155)], [(11, .var ((ce_integer_Int base).map C.t)), (12, .var ((ce_integer_Int top).map C.t)), (17, .var ((ce_A2_Lunipoly_Poly pair).map C.t)), (20, .var ((ce_integer_Int power).map C.t)), (32, .var ((ce_integer_Int next).map C.t))], []⟩
  | .c28 base top pair power next r148 p k goal monic parts step t153 t154 t155 => ⟨[(2, vi .u32 p), (3, vi .i64 k), (11, .c (C.ptr 11 0)), (12, .c (C.ptr 12 0)), (13, vl 2 goal ce_integer_Int), (14, vl 1 monic ce_Lu32), (16, vl 1 parts ce_Lu32), (17, .c (C.ptr 17 0)), (20, .c (C.ptr 20 0)), (21, vi .i64 step), (27, .c (C.row 148 0 r148.length)), (32, .c (C.ptr 32 0)), (33, .c (C.nil)), (153, vl 1 t153 ce_Linteger_Int), (154, vi .i64 t154), (155, vi .i64 t155)], [(11, .var ((ce_integer_Int base).map C.t)), (12, .var ((ce_integer_Int top).map C.t)), (17, .var ((ce_A2_Lunipoly_Poly pair).map C.t)), (20, .var ((ce_integer_Int power).map C.t)), (32, .var ((ce_integer_Int next).map C.t)), (148, .row 101 1 (r148.map ce_u32) 0)], []⟩
  | .c29 base top pair power next r193 p k goal monic parts step t153 t154 t155 => ⟨[(2, vi .u32 p), (3, vi .i64 k), (11, .c (C.ptr 11 0)), (12, .c (C.ptr 12 0)), (13, vl 2 goal ce_integer_Int), (14, vl 1 monic ce_Lu32), (16, vl 1 parts ce_Lu32), (17, .c (C.ptr 17 0)), (20, .c (C.ptr 20 0)), (21, vi .i64 step), (27, .c (C.nil)), (32, .c (C.ptr 32 0)), (33, .c (C.row 193 0 r193.length)), (153, vl 1 t153 ce_Linteger_Int), (154, vi .i64 t154), (155, vi .i64 t155)], [(11, .var ((ce_integer_Int base).map C.t)), (12, .var ((ce_integer_Int top).map C.t)), (17, .var ((ce_A2_Lunipoly_Poly pair).map C.t)), (20, .var ((ce_integer_Int power).map C.t)), (32, .var ((ce_integer_Int next).map C.t)), (193, .row 90 1 (r193.map ce_Linteger_Int) 0)], []⟩
  | .c30 base top pair power p k goal monic parts step => ⟨[(2, vi .u32 p), (3, vi .i64 k), (11, .c (C.ptr 11 0)), (12, .c (C.ptr 12 0)), (13, vl 2 goal ce_integer_Int), (14, vl 1 monic ce_Lu32), (16, vl 1 parts ce_Lu32), (17, .c (C.ptr 17 0)), (20, .c (C.ptr 20 0)), (21, vi .i64 step)], [(11, .var ((ce_integer_Int base).map C.t)), (12, .var ((ce_integer_Int top).map C.t)), (17, .var [C.nil, C.t (T.sl 1 (pair.map ce_Linteger_Int))]), (20, .var ((ce_integer_Int power).map C.t))], []⟩
  | .c31 base top pair power next r193 p k goal monic parts step change t153 t154 t155 => ⟨[(2, vi .u32 p), (3, vi .i64 k), (11, .c (C.ptr 11 0)), (12, .c (C.ptr 12 0)), (13, vl 2 goal ce_integer_Int), (14, vl 1 monic ce_Lu32), (16, vl 1 parts ce_Lu32), (17, .c (C.ptr 17 0)), (20, .c (C.ptr 20 0)), (21, vi .i64 step), (27, vl 1 change ce_u32), (32, .c (C.ptr 32 0)), (33, .c (C.row 193 0 r193.length)), (153, vl 1 t153 ce_Linteger_Int), (154, vi .i64 t154), (155, vi .i64 t155)], [(11, .var ((ce_integer_Int base).map C.t)), (12, .var ((ce_integer_Int top).map C.t)), (17, .var ((ce_A2_Lunipoly_Poly pair).map C.t)), (20, .var ((ce_integer_Int power).map C.t)), (32, .var ((ce_integer_Int next).map C.t)), (193, .row 90 1 (r193.map ce_Linteger_Int) 0)], []⟩
  | .c32 base top pair power r193 p k goal monic parts step => ⟨[(2, vi .u32 p), (3, vi .i64 k), (11, .c (C.ptr 11 0)), (12, .c (C.ptr 12 0)), (13, vl 2 goal ce_integer_Int), (14, vl 1 monic ce_Lu32), (16, vl 1 parts ce_Lu32), (17, .c (C.ptr 17 0)), (20, .c (C.ptr 20 0)), (21, vi .i64 step)], [(11, .var ((ce_integer_Int base).map C.t)), (12, .var ((ce_integer_Int top).map C.t)), (17, .var [C.row 193 0 r193.length, C.t (T.sl 1 (pair.map ce_Linteger_Int))]), (20, .var ((ce_integer_Int power).map C.t)), (193, .row 90 1 (r193.map ce_Linteger_Int) 0)], []⟩
  | .c33 base top pair power p k goal monic parts step => ⟨[(2, vi .u32 p), (3, vi .i64 k), (11, .c (C.ptr 11 0)), (12, .c (C.ptr 12 0)), (13, vl 2 goal ce_integer_Int), (14, vl 1 monic ce_Lu32), (16, vl 1 parts ce_Lu32), (17, .c (C.ptr 17 0)), (20, .c (C.ptr 20 0)), (21, vi .i64 step)], [(11, .var ((ce_integer_Int base).map C.t)), (12, .var ((ce_integer_Int top).map C.t)), (17, .var [C.nil, C.t (T.sl 1 (pair.map ce_Linteger_Int))]), (20, .var ((ce_integer_Int power).map C.t))], []⟩
  | .c34 base top pair power p k goal monic parts step t131 t132 t133 => ⟨[(2, vi .u32 p), (3, vi .i64 k), (11, .c (C.ptr 11 0)), (12, .c (C.ptr 12 0)), (13, vl 2 goal ce_integer_Int), (14, vl 1 monic ce_Lu32), (16, vl 1 parts ce_Lu32), (17, .c (C.ptr 17 0)), (20, .c (C.ptr 20 0)), (21, vi .i64 step), (22, .c (C.nil)), (27, .c (C.nil)), (131, vl 2 t131 ce_integer_Int), (132, vi .i64 t132), (133, vi .i64 t133)], [(11, .var ((ce_integer_Int base).map C.t)), (12, .var ((ce_integer_Int top).map C.t)), (17, .var [C.nil, C.t (T.sl 1 (pair.map ce_Linteger_Int))]), (20, .var ((ce_integer_Int power).map C.t))], []⟩
  | .c35 base top pair power p k goal monic parts step now t131 t132 t133 => ⟨[(2, vi .u32 p), (3, vi .i64 k), (11, .c (C.ptr 11 0)), (12, .c (C.ptr 12 0)), (13, vl 2 goal ce_integer_Int), (14, vl 1 monic ce_Lu32), (16, vl 1 parts ce_Lu32), (17, .c (C.ptr 17 0)), (20, .c (C.ptr 20 0)), (21, vi .i64 step), (22, vl 1 now ce_Linteger_Int), (27, .c (C.nil)), (131, vl 2 t131 ce_integer_Int), (132, vi .i64 t132), (133, vi .i64 t133)], [(11, .var ((ce_integer_Int base).map C.t)), (12, .var ((ce_integer_Int top).map C.t)), (17, .var [C.nil, C.t (T.sl 1 (pair.map ce_Linteger_Int))]), (20, .var ((ce_integer_Int power).map C.t))], []⟩
  | .c36 base top pair power r148 p k goal monic parts step t131 t132 t133 => ⟨[(2, vi .u32 p), (3, vi .i64 k), (11, .c (C.ptr 11 0)), (12, .c (C.ptr 12 0)), (13, vl 2 goal ce_integer_Int), (14, vl 1 monic ce_Lu32), (16, vl 1 parts ce_Lu32), (17, .c (C.ptr 17 0)), (20, .c (C.ptr 20 0)), (21, vi .i64 step), (22, .c (C.nil)), (27, .c (C.row 148 0 r148.length)), (131, vl 2 t131 ce_integer_Int), (132, vi .i64 t132), (133, vi .i64 t133)], [(11, .var ((ce_integer_Int base).map C.t)), (12, .var ((ce_integer_Int top).map C.t)), (17, .var [C.nil, C.t (T.sl 1 (pair.map ce_Linteger_Int))]), (20, .var ((ce_integer_Int power).map C.t)), (148, .row 101 1 (r148.map ce_u32) 0)], []⟩
  | .c37 base top pair power next p k goal monic parts step t154 t155 => ⟨[(2, vi .u32 p), (3, vi .i64 k), (11, .c (C.ptr 11 0)), (12, .c (C.ptr 12 0)), (13, vl 2 goal ce_integer_Int), (14, vl 1 monic ce_Lu32), (16, vl 1 parts ce_Lu32), (17, .c (C.ptr 17 0)), (20, .c (C.ptr 20 0)), (21, vi .i64 step), (27, .c (C.nil)), (32, .c (C.ptr 32 0)), (33, .c (C.nil)), (153, .c (C.nil)), (154, vi .i64 t154), (155, vi .i64 t155)], [(11, .var ((ce_integer_Int base).map C.t)), (12, .var ((ce_integer_Int top).map C.t)), (17, .var [C.nil, C.t (T.sl 1 (pair.map ce_Linteger_Int))]), (20, .var ((ce_integer_Int power).map C.t)), (32, .var ((ce_integer_Int next).map C.t))], []⟩
  | .c38 base top pair power r148 p k goal monic parts step now t131 t132 t133 => ⟨[(2, vi .u32 p), (3, vi .i64 k), (11, .c (C.ptr 11 0)), (12, .c (C.ptr 12 0)), (13, vl 2 goal ce_integer_Int), (14, vl 1 monic ce_Lu32), (16, vl 1 parts ce_Lu32), (17, .c (C.ptr 17 0)), (20, .c (C.ptr 20 0)), (21, vi .i64 step), (22, vl 1 now ce_Linteger_Int), (27, .c (C.row 148 0 r148.length)), (131, vl 2 t131 ce_integer_Int), (132, vi .i64 t132), (133, vi .i64 t133)], [(11, .var ((ce_integer_Int base).map C.t)), (12, .var ((ce_integer_Int top).map C.t)), (17, .var [C.nil, C.t (T.sl 1 (pair.map ce_Linteger_Int))]), (20, .var ((ce_integer_Int power).map C.t)), (148, .row 101 1 (r148.map ce_u32) 0)], []⟩
  | .c39 base top pair power next p k goal monic parts step t153 t154 t155 => ⟨[(2, vi .u32 p), (3, vi .i64 k), (11, .c (C.ptr 11 0)), (12, .c (C.ptr 12 0)), (13, vl 2 goal ce_integer_Int), (14, vl 1 monic ce_Lu32), (16, vl 1 parts ce_Lu32), (17, .c (C.ptr 17 0)), (20, .c (C.ptr 20 0)), (21, vi .i64 step), (27, .c (C.nil)), (32, .c (C.ptr 32 0)), (33, .c (C.nil)), (153, vl 1 t153 ce_Linteger_Int), (154, vi .i64 t154), (155, vi .i64 t155)], [(11, .var ((ce_integer_Int base).map C.t)), (12, .var ((ce_integer_Int top).map C.t)), (17, .var [C.nil, C.t (T.sl 1 (pair.map ce_Linteger_Int))]), (20, .var ((ce_integer_Int power).map C.t)), (32, .var ((ce_integer_Int next).map C.t))], []⟩
  | .c40 base top pair power next r148 p k goal monic parts step t154 t155 => ⟨[(2, vi .u32 p), (3, vi .i64 k), (11, .c (C.ptr 11 0)), (12, .c (C.ptr 12 0)), (13, vl 2 goal ce_integer_Int), (14, vl 1 monic ce_Lu32), (16, vl 1 parts ce_Lu32), (17, .c (C.ptr 17 0)), (20, .c (C.ptr 20 0)), (21, vi .i64 step), (27, .c (C.row 148 0 r148.length)), (32, .c (C.ptr 32 0)), (33, .c (C.nil)), (153, .c (C.nil)), (154, vi .i64 t154), (155, vi .i64 t155)], [(11, .var ((ce_integer_Int base).map C.t)), (12, .var ((ce_integer_Int top).map C.t)), (17, .var [C.nil, C.t (T.sl 1 (pair.map ce_Linteger_Int))]), (20, .var ((ce_integer_Int power).map C.t)), (32, .var ((ce_integer_Int next).map C.t)), (148, .row 101 1 (r148.map ce_u32) 0)], []⟩
  | .c41 base top pair power next r148 p k goal monic parts step t153 t154 t155 => ⟨[(2, vi .u32 p), (3, vi .i64 k), (11, .c (C.ptr 11 0)), (12, .c (C.ptr 12 0)), (13, vl 2 goal ce_integer_Int), (14, vl 1 monic ce_Lu32), (16, vl 1 parts ce_Lu32), (17, .c (C.ptr 17 0)), (20, .c (C.ptr 20 0)), (21, vi .i64 step), (27, .c (C.row 148 0 r148.length)), (32, .c (C.ptr 32 0)), (33, .c (C.nil)), (153, vl 1 t153 ce_Linteger_Int), (154, vi .i64 t154), (155, vi .i64 t155)], [(11, .var ((ce_integer_Int base).map C.t)), (12, .var ((ce_integer_Int top).map C.t)), (17, .var [C.nil, C.t (T.sl 1 (pair.map ce_Linteger_Int))]), (20, .var ((ce_integer_Int power).map C.t)), (32, .var ((ce_integer_Int next).map C.t)), (148, .row 101 1 (r148.map ce_u32) 0)], []⟩
  | .c42 base top pair power next r193 p k goal monic parts step t153 t154 t155 => ⟨[(2, vi .u32 p), (3, vi .i64 k), (11, .c (C.ptr 11 0)), (12, .c (C.ptr 12 0)), (13, vl 2 goal ce_integer_Int), (14, vl 1 monic ce_Lu32), (16, vl 1 parts ce_Lu32), (17, .c (C.ptr 17 0)), (20, .c (C.ptr 20 0)), (21, vi .i64 step), (27, .c (C.nil)), (32, .c (C.ptr 32 0)), (33, .c (C.row 193 0 r193.length)), (153, vl 1 t153 ce_Linteger_Int), (154, vi .i64 t154), (155, vi .i64 t155)], [(11, .var ((ce_integer_Int base).map C.t)), (12, .var ((ce_integer_Int top).map C.t)), (17, .var [C.nil, C.t (T.sl 1 (pair.map ce_Linteger_Int))]), (20, .var ((ce_integer_Int power).map C.t)), (32, .var ((ce_integer_Int next).map C.t)), (193, .row 90 1 (r193.map ce_Linteger_Int) 0)], []⟩
  | .c43 base top pair power next r193 p k goal monic parts step change t153 t154 t155 => ⟨[(2, vi .u32 p), (3, vi .i64 k), (11, .c (C.ptr 11 0)), (12, .c (C.ptr 12 0)), (13, vl 2 goal ce_integer_Int), (14, vl 1 monic ce_Lu32), (16, vl 1 parts ce_Lu32), (17, .c (C.ptr 17 0)), (20, .c (C.ptr 20 0)), (21, vi .i64 step), (27, vl 1 change ce_u32), (32, .c (C.ptr 32 0)), (33, .c (C.row 193 0 r193.length)), (153, vl 1 t153 ce_Linteger_Int), (154, vi .i64 t154), (155, vi .i64 t155)], [(11, .var ((ce_integer_Int base).map C.t)), (12, .var ((ce_integer_Int top).map C.t)), (17, .var [C.nil, C.t (T.sl 1 (pair.map ce_Linteger_Int))]), (20, .var ((ce_integer_Int power).map C.t)), (32, .var ((ce_integer_Int next).map C.t)), (193, .row 90 1 (r193.map ce_Linteger_Int) 0)], []⟩
  | .c44 base top power r193 p k goal monic parts step => ⟨[(2, vi .u32 p), (3, vi .i64 k), (11, .c (C.ptr 11 0)), (12, .c (C.ptr 12 0)), (13, vl 2 goal ce_integer_Int), (14, vl 1 monic ce_Lu32), (16, vl 1 parts ce_Lu32), (17, .c (C.ptr 17 0)), (20, .c (C.ptr 20 0)), (21, vi .i64 step)], [(11, .var ((ce_integer_Int base).map C.t)), (12, .var ((ce_integer_Int top).map C.t)), (17, .var [C.nil, C.row 193 0 r193.length]), (20, .var ((ce_integer_Int power).map C.t)), (193, .row 90 1 (r193.map ce_Linteger_Int) 0)], []⟩

def hensel_Lift_S (cx : Cx) (c : hensel_Lift_Cut) (r : ((List (List integer_Int)) × Int)) : Prop := Wk prog cx (EndsF prog 62 [[1], [0]] (TV.tup [(false, [(T.sl 1 (r.1.map ce_Linteger_Int))]), (false, [(T.int .i64 r.2)])])) (hensel_Lift_pos c) .normal (hensel_Lift_st c)
abbrev hensel_Lift_H (K : Nat) : Prop := ∀ c r, hensel_Lift_go K c = some r → ∀ cx : Cx, cx.n = 208 → hensel_Lift_S cx c r

theorem hensel_Lift_c0 {K} (ih : hensel_Lift_H K) {cx} (hn : cx.n = 208) {f list p k} {r} (h : hensel_Lift_go (K + 1) (.c0 f list p k) = some r) : hensel_Lift_S cx (.c0 f list p k) r := by
  rw [hensel_Lift_go] at h
  obtain ⟨x1, h2, h⟩ := obind h
  rcases bcases h with ⟨h3, h⟩ | ⟨h3, h⟩
  · skip
    have h := Option.some.inj h; subst h
    exact wk_ret (fuel := 76) [.reg [oo, oo], .reg [oo, .op (.call [[0]] [(ti .u32 p)] (TV.c (T.bool x1))), oo, oo, .sb 43 true, oo, oo, oo], .br true, .reg [oo, oo]] _ hn (by kernel_rfl) (aC (modular_IsPrime_holds h2) <| aC h3 <| aC rt <| aN)
  · skip
    rcases bcases h with ⟨h4, h⟩ | ⟨h4, h⟩
    · skip
      have h := Option.some.inj h; subst h
      exact wk_ret (fuel := 76) [.reg [oo, oo], .reg [oo, .op (.call [[0]] [(ti .u32 p)] (TV.c (T.bool x1))), oo, oo, .sb 43 false, oo, oo, oo], .br true, .reg [oo, oo]] _ hn (by kernel_rfl) (aC (modular_IsPrime_holds h2) <| aC h3 <| aC h4 <| aN)
    · skip
      obtain ⟨x5, h6, h⟩ := obind h
      rcases bcases h with ⟨h7, h⟩ | ⟨h7, h⟩
      · skip
        have h := Option.some.inj h; subst h
        exact wk_ret (fuel := 102) [.reg [oo, oo], .reg [oo, .op (.call [[0]] [(ti .u32 p)] (TV.c (T.bool x1))), oo, oo, .sb 43 false, oo, oo, oo], .br false, .reg [oo, oo, .op (.call [[1], [0]] [(tl 1 list ce_Lu32), (ti .u32 p)] (ti .i64 x5)), oo], .reg [oo, oo], .br true, .reg [oo, oo, oo]] _ hn (by kernel_rfl) (aC (modular_IsPrime_holds h2) <| aC h3 <| aC h4 <| aC (hensel_check_holds h6) <| aC h7 <| aN)
      · skip
        obtain ⟨x8, h9, h⟩ := obind h
        obtain ⟨x10, h11, h⟩ := obind h
        rcases bcases h with ⟨h12, h⟩ | ⟨h12, h⟩
        · skip
          have h := Option.some.inj h; subst h
          exact wk_ret (fuel := 120) [.reg [oo, oo], .reg [oo, .op (.call [[0]] [(ti .u32 p)] (TV.c (T.bool x1))), oo, oo, .sb 43 false, oo, oo, oo], .br false, .reg [oo, oo, .op (.call [[1], [0]] [(tl 1 list ce_Lu32), (ti .u32 p)] (ti .i64 x5)), oo], .reg [oo, oo], .br false, .reg [oo, .op (.call [[2]] [(tl 2 f ce_integer_Int)] (TV.agg (ce_integer_Int x8))), oo, .op (.call [[0,1], [0]] [(TV.agg (ce_integer_Int x8)), (ti .u32 p)] (ti .u32 x10)), oo], .br true, .reg [oo, oo]] _ hn (by kernel_rfl) (aC (modular_IsPrime_holds h2) <| aC h3 <| aC h4 <| aC (hensel_check_holds h6) <| aC h7 <| aC (unipoly_Lead_holds h9) <| aC (modular_Reduce_holds h11) <| aC h12 <| aN)
        · skip
          obtain ⟨x13, h14, h⟩ := obind h
          exact wk_go (fuel := 136) [.reg [oo, oo], .reg [oo, .op (.call [[0]] [(ti .u32 p)] (TV.c (T.bool x1))), oo, oo, .sb 43 false, oo, oo, oo], .br false, .reg [oo, oo, .op (.call [[1], [0]] [(tl 1 list ce_Lu32), (ti .u32 p)] (ti .i64 x5)), oo], .reg [oo, oo], .br false, .reg [oo, .op (.call [[2]] [(tl 2 f ce_integer_Int)] (TV.agg (ce_integer_Int x8))), oo, .op (.call [[0,1], [0]] [(TV.agg (ce_integer_Int x8)), (ti .u32 p)] (ti .u32 x10)), oo], .br false, .reg [oo, oo, .op (.call [[0]] [(TV.c (T.int .i64 (IntKind.i64.wrap p)))] (TV.agg (ce_integer_Int x13))), oo, oo], .reg [oo, oo, oo], .reg [oo, oo, oo], .pre [.keep [0,1,2,3,11,12,63,64] [11,12]]] _ hn (by kernel_rfl) (aC (modular_IsPrime_holds h2) <| aC h3 <| aC h4 <| aC (hensel_check_holds h6) <| aC h7 <| aC (unipoly_Lead_holds h9) <| aC (modular_Reduce_holds h11) <| aC h12 <| aC (integer_Of_holds h14) <| aN) (ih _ _ h cx hn)

theorem hensel_Lift_c1 {K} (ih : hensel_Lift_H K) {cx} (hn : cx.n = 208) {base top f list p k t63 t64} {r} (h : hensel_Lift_go (K + 1) (.c1 base top f list p k t63 t64) = some r) : hensel_Lift_S cx (.c1 base top f list p k t63 t64) r := by
  rw [hensel_Lift_go] at h
  rcases bcases h with ⟨h1, h⟩ | ⟨h1, h⟩
  · skip
    obtain ⟨x2, h3, h⟩ := obind h
    exact wk_go (fuel := 82) [.go, .reg [oo], .br true, .reg [oo, oo, .op (.call [[0,1], [0,1]] [(TV.agg (ce_integer_Int top)), (TV.agg (ce_integer_Int base))] (TV.agg (ce_integer_Int x2))), oo], .reg [oo, oo], .pre [.keep [0,1,2,3,11,12,63,64] [11,12]]] _ hn (by kernel_rfl) (aC h1 <| aC (integer_Mul_holds h3) <| aN) (ih _ _ h cx hn)
  · skip
    obtain ⟨x2, h3, h⟩ := obind h
    rcases bcases h with ⟨h4, h⟩ | ⟨h4, h⟩
    · skip
      have h := Option.some.inj h; subst h
      exact wk_ret (fuel := 106) [.go, .reg [oo], .br false, .reg [oo, oo, oo, oo, .op (.call [[2], [1], [0], [0,1]] [(tl 2 f ce_integer_Int), (tl 1 list ce_Lu32), (ti .u32 p), (TV.agg (ce_integer_Int top))] (TV.tup [(false, [(T.sl 2 (x2.1.map ce_integer_Int))]), (false, [(T.sl 1 (x2.2.1.map ce_Lu32))]), (false, [(T.int .i64 x2.2.2)])])), oo, oo, oo, oo, oo, oo, oo], .reg [oo, oo], .br true, .reg [oo, oo, oo]] _ hn (by kernel_rfl) (aC h1 <| aC (hensel_start_holds h3) <| aC h4 <| aN)
    · skip
      obtain ⟨x5, h6, h⟩ := obind h
      exact wk_go (fuel := 122) [.go, .reg [oo], .br false, .reg [oo, oo, oo, oo, .op (.call [[2], [1], [0], [0,1]] [(tl 2 f ce_integer_Int), (tl 1 list ce_Lu32), (ti .u32 p), (TV.agg (ce_integer_Int top))] (TV.tup [(false, [(T.sl 2 (x2.1.map ce_integer_Int))]), (false, [(T.sl 1 (x2.2.1.map ce_Lu32))]), (false, [(T.int .i64 x2.2.2)])])), oo, oo, oo, oo, oo, oo, oo], .reg [oo, oo], .br false, .reg [oo, oo, .op (.call [[1], [0]] [(TV.c (T.sl 1 (x2.2.1.map ce_Lu32))), (ti .u32 p)] (tl 1 x5 ce_Lu32)), oo], .reg [oo], .reg [oo, .op (.ln (x2.2.1.length : Int)), oo], .pre [.keep [2,3,11,12,13,14,16,17,85,86,87] [11,12,17]]] _ hn (by kernel_rfl) (aC h1 <| aC (hensel_start_holds h3) <| aC h4 <| aC (hensel_cofactors_holds h6) <| aC (ln_eq x2.2.1 ce_Lu32) <| aN) (ih _ _ h cx hn)

theorem hensel_Lift_c2 {K} (ih : hensel_Lift_H K) {cx} (hn : cx.n = 208) {base top p k goal monic parts t85 t86 t87} {r} (h : hensel_Lift_go (K + 1) (.c2 base top p k goal monic parts t85 t86 t87) = some r) : hensel_Lift_S cx (.c2 base top p k goal monic parts t85 t86 t87) r := by
  rw [hensel_Lift_go] at h
  rcases bcases h with ⟨h1, h⟩ | ⟨h1, h⟩
  · skip
    obtain ⟨x2, h3, h⟩ := obind h
    obtain ⟨x4, h5, h⟩ := obind h
    exact wk_go (fuel := 90) [.go, .reg [oo], .br true, .reg [.op (.ix (ce_Lu32 x2)), oo, oo], .draw [.p, .p, .p, .p, (.call [[1], [0]] [(tl 1 x2 ce_u32), (ti .u32 p)] (tl 2 x4 ce_integer_Int)), (.litT (([x4] : List (List integer_Int)).map ce_Linteger_Int))] [.op (.appN (([x4] : List (List integer_Int)).map ce_Linteger_Int)), .op .p, .op .p], .reg [oo, oo], .pre [.rlB 17 0 0 ([x4] : List (List integer_Int)).length, .keep [2,3,11,12,13,14,16,17,85,86,87] [11,12,17,97]]] _ hn (by kernel_rfl) (aC h1 <| aC (gi_nn h3) <| aC (gi_at ce_Lu32 h3) <| aC (modpoly_Symmetric_holds h5) <| aC (by kernel_rfl : [(T.sl 2 (x4.map ce_integer_Int))] = (([x4] : List (List integer_Int)).map ce_Linteger_Int).flatten) <| aC (rfl : ([x4] : List (List integer_Int)).map ce_Linteger_Int = ([x4] : List (List integer_Int)).map ce_Linteger_Int) <| aC (by simp : 0 < (([x4] : List (List integer_Int)).map ce_Linteger_Int).length) <| aC (by simp : (([x4] : List (List integer_Int)).map ce_Linteger_Int).length * 24 ≤ 140737488355328) <| aC (by simp [maxLen] : (([x4] : List (List integer_Int)).map ce_Linteger_Int).length ≤ maxLen) <| aC r0 <| aC (by simp : (([x4] : List (List integer_Int)).map ce_Linteger_Int).length = ([x4] : List (List integer_Int)).length) <| aN) (ih _ _ h cx hn)
  · skip
    exact wk_go (fuel := 92) [.go, .reg [oo], .br false, .reg [oo, oo, oo], .reg [oo], .pre [.keep [2,3,11,12,13,14,16,17,20,21] [11,12,17,20]]] _ hn (by kernel_rfl) (aC h1 <| aN) (ih _ _ h cx hn)

theorem hensel_Lift_c3 {K} (ih : hensel_Lift_H K) {cx} (hn : cx.n = 208) {base top r97 p k goal monic parts t85 t86 t87} {r} (h : hensel_Lift_go (K + 1) (.c3 base top r97 p k goal monic parts t85 t86 t87) = some r) : hensel_Lift_S cx (.c3 base top r97 p k goal monic parts t85 t86 t87) r := by
  rw [hensel_Lift_go] at h
  rcases bcases h with ⟨h1, h⟩ | ⟨h1, h⟩
  · skip
    obtain ⟨x2, h3, h⟩ := obind h
    obtain ⟨x4, h5, h⟩ := obind h
    obtain ⟨h6, h⟩ := gd_some h
    exact wk_go (fuel := 90) [.go, .reg [oo], .br true, .reg [.op (.ix (ce_Lu32 x2)), oo, oo], .pre [.keep [2,3,11,12,13,14,16,17,19,85,86,87] [11,12,17,97]], .draw [.p, .p, .p, .p, (.call [[1], [0]] [(tl 1 x2 ce_u32), (ti .u32 p)] (tl 2 x4 ce_integer_Int)), (.litT (([x4] : List (List integer_Int)).map ce_Linteger_Int))] [.appR (([x4] : List (List integer_Int)).map ce_Linteger_Int) ((r97 ++ ([x4] : List (List integer_Int))).map ce_Linteger_Int), .op .p, .op .p], .reg [oo, oo], .pre [.rlB 17 0 0 (r97 ++ ([x4] : List (List integer_Int))).length, .keep [2,3,11,12,13,14,16,17,85,86,87] [11,12,17,97]]] _ hn (by kernel_rfl) (aC h1 <| aC (gi_nn h3) <| aC (gi_at ce_Lu32 h3) <| aC (modpoly_Symmetric_holds h5) <| aC (by kernel_rfl : [(T.sl 2 (x4.map ce_integer_Int))] = (([x4] : List (List integer_Int)).map ce_Linteger_Int).flatten) <| aC (by simp : r97.length = (r97.map ce_Linteger_Int).length) <| aC (rfl : ([x4] : List (List integer_Int)).map ce_Linteger_Int = ([x4] : List (List integer_Int)).map ce_Linteger_Int) <| aC (app_map _ _ _ : r97.map ce_Linteger_Int ++ ([x4] : List (List integer_Int)).map ce_Linteger_Int = (r97 ++ ([x4] : List (List integer_Int))).map ce_Linteger_Int) <| aC ((len_map _ _).symm ▸ h6 : ((r97 ++ ([x4] : List (List integer_Int))).map ce_Linteger_Int).length * 24 ≤ 140737488355328) <| aC ((len_map _ _).symm ▸ room (by decide) h6 : ((r97 ++ ([x4] : List (List integer_Int))).map ce_Linteger_Int).length ≤ maxLen) <| aC r0 <| aC (by simp : ((r97 ++ ([x4] : List (List integer_Int))).map ce_Linteger_Int).length = (r97 ++ ([x4] : List (List integer_Int))).length) <| aN) (ih _ _ h cx hn)
  · skip
    exact wk_go (fuel := 92) [.go, .reg [oo], .br false, .reg [oo, oo, oo], .reg [oo], .pre [.snapC 17 0 (max 0 (0 + r97.length)) (r97.map ce_Linteger_Int)], .pre [.keep [2,3,11,12,13,14,16,17,20,21] [11,12,17,20]]] _ hn (by kernel_rfl) (aC h1 <| aC (sn_map _ _ _ (by simp) : ((r97.map ce_Linteger_Int).drop 0).take r97.length = r97.map ce_Linteger_Int) <| aC (rfl : (max 0 (0 + r97.length)) = (max 0 (0 + r97.length))) <| aN) (ih _ _ h cx hn)

theorem hensel_Lift_c4 {K} (ih : hensel_Lift_H K) {cx} (hn : cx.n = 208) {base top power p k goal monic parts step} {r} (h : hensel_Lift_go (K + 1) (.c4 base top power p k goal monic parts step) = some r) : hensel_Lift_S cx (.c4 base top power p k goal monic parts step) r := by
  rw [hensel_Lift_go] at h
  rcases bcases h with ⟨h1, h⟩ | ⟨h1, h⟩
  · skip
    rcases bcases h with ⟨h2, h⟩ | ⟨h2, h⟩
    · skip
      have h := Option.some.inj h; subst h
      exact wk_ret (fuel := 106) [.go, .reg [oo, oo, oo, oo, .sb 106 true, oo, oo, oo, oo], .br true, .reg [oo, .op (.ln (monic.length : Int)), oo], .br true, .reg [oo, oo]] _ hn (by kernel_rfl) (aC h1 <| aC rt <| aC (ln_eq monic ce_Lu32) <| aC h2 <| aN)
    · skip
      rcases bcases h with ⟨h3, h⟩ | ⟨h3, h⟩
      · skip
        have h := Option.some.inj h; subst h
        exact wk_ret (fuel := 106) [.go, .reg [oo, oo, oo, oo, .sb 106 true, oo, oo, oo, oo], .br true, .reg [oo, .op (.ln (monic.length : Int)), oo], .br false, .reg [oo, oo, oo, .op (.ia 0), oo, oo, oo]] _ hn (by kernel_rfl) (aC h1 <| aC rt <| aC (ln_eq monic ce_Lu32) <| aC h2 <| aC (of_decide_eq_true h3 : (Int.tmod (IntKind.i64.wrap (k - (1 : Int))) (2 : Int)) = ((0 : Nat) : Int)) <| aN)
      · skip
        rcases bcases h with ⟨h4, h⟩ | ⟨h4, h⟩
        · skip
          have h := Option.some.inj h; subst h
          exact wk_ret (fuel := 106) [.go, .reg [oo, oo, oo, oo, .sb 106 true, oo, oo, oo, oo], .br true, .reg [oo, .op (.ln (monic.length : Int)), oo], .br false, .reg [oo, oo, oo, .op (.ia 1), oo, oo, oo]] _ hn (by kernel_rfl) (aC h1 <| aC rt <| aC (ln_eq monic ce_Lu32) <| aC h2 <| aC (of_decide_eq_true h4 : (Int.tmod (IntKind.i64.wrap (k - (1 : Int))) (2 : Int)) = ((1 : Nat) : Int)) <| aN)
        · skip
          cases h
  · skip
    rcases bcases h with ⟨h2, h⟩ | ⟨h2, h⟩
    · skip
      rcases bcases h with ⟨h3, h⟩ | ⟨h3, h⟩
      · skip
        have h := Option.some.inj h; subst h
        exact wk_ret (fuel := 106) [.go, .reg [oo, oo, oo, oo, .sb 106 false, oo, .op (.ln (monic.length : Int)), oo, oo], .br true, .reg [oo, .op (.ln (monic.length : Int)), oo], .br true, .reg [oo, oo]] _ hn (by kernel_rfl) (aC h1 <| aC (ln_eq monic ce_Lu32) <| aC h2 <| aC (ln_eq monic ce_Lu32) <| aC h3 <| aN)
      · skip
        rcases bcases h with ⟨h4, h⟩ | ⟨h4, h⟩
        · skip
          have h := Option.some.inj h; subst h
          exact wk_ret (fuel := 106) [.go, .reg [oo, oo, oo, oo, .sb 106 false, oo, .op (.ln (monic.length : Int)), oo, oo], .br true, .reg [oo, .op (.ln (monic.length : Int)), oo], .br false, .reg [oo, oo, oo, .op (.ia 0), oo, oo, oo]] _ hn (by kernel_rfl) (aC h1 <| aC (ln_eq monic ce_Lu32) <| aC h2 <| aC (ln_eq monic ce_Lu32) <| aC h3 <| aC (of_decide_eq_true h4 : (Int.tmod (IntKind.i64.wrap (k - (1 : Int))) (2 : Int)) = ((0 : Nat) : Int)) <| aN)
        · skip
          rcases bcases h with ⟨h5, h⟩ | ⟨h5, h⟩
          · skip
            have h := Option.some.inj h; subst h
            exact wk_ret (fuel := 106) [.go, .reg [oo, oo, oo, oo, .sb 106 false, oo, .op (.ln (monic.length : Int)), oo, oo], .br true, .reg [oo, .op (.ln (monic.length : Int)), oo], .br false, .reg [oo, oo, oo, .op (.ia 1), oo, oo, oo]] _ hn (by kernel_rfl) (aC h1 <| aC (ln_eq monic ce_Lu32) <| aC h2 <| aC (ln_eq monic ce_Lu32) <| aC h3 <| aC (of_decide_eq_true h5 : (Int.tmod (IntKind.i64.wrap (k - (1 : Int))) (2 : Int)) = ((1 : Nat) : Int)) <| aN)
          · skip
            cases h
    · skip
      rcases bcases h with ⟨h3, h⟩ | ⟨h3, h⟩
      · skip
        obtain ⟨x4, h5, h⟩ := obind h
        obtain ⟨x6, h7, h⟩ := obind h
        obtain ⟨x8, h9, h⟩ := obind h
        exact wk_go (fuel := 110) [.go, .reg [oo, oo, oo, oo, .sb 106 false, oo, .op (.ln (monic.length : Int)), oo, oo], .br false, .reg [oo, oo, oo, .op (.ia 0), oo, oo], .reg [oo, oo, .op (.call [[1], [0,1]] [(TV.c (T.sl 1 ([].map ce_Linteger_Int))), (TV.agg (ce_integer_Int top))] (TV.tup [(false, [(T.sl 2 (x4.1.map ce_integer_Int))]), (false, [(T.int .i64 x4.2)])])), oo, oo, oo, oo, oo], .draw [.p, .p, (.call [[2], [2]] [(tl 2 goal ce_integer_Int), (tl 2 x4.1 ce_integer_Int)] (tl 2 x6 ce_integer_Int)), .p, (.call [[2], [0,1]] [(tl 2 x6 ce_integer_Int), (TV.agg (ce_integer_Int top))] (TV.tup [(false, [(T.sl 2 (x8.1.map ce_integer_Int))]), (false, [(T.int .i64 x8.2)])])), .p, .p, .p, .p] [.op .p], .reg [.op .lit0, oo], .reg [oo, .op (.ln (x8.1.length : Int)), oo], .pre [.keep [2,3,11,12,13,14,16,17,20,21,22,27,131,132,133] [11,12,17,20]]] _ hn (by kernel_rfl) (aC h1 <| aC (ln_eq monic ce_Lu32) <| aC h2 <| aC (of_decide_eq_true h3 : (Int.tmod (IntKind.i64.wrap (step - (1 : Int))) (2 : Int)) = ((0 : Nat) : Int)) <| aC (hensel_Product_holds h5) <| aC (unipoly_Sub_holds h7) <| aC (hensel_Reduce_holds h9) <| aC (ln_eq x8.1 ce_integer_Int) <| aN) (ih _ _ h cx hn)
      · skip
        rcases bcases h with ⟨h4, h⟩ | ⟨h4, h⟩
        · skip
          obtain ⟨x5, h6, h⟩ := obind h
          obtain ⟨x7, h8, h⟩ := obind h
          obtain ⟨x9, h10, h⟩ := obind h
          exact wk_go (fuel := 110) [.go, .reg [oo, oo, oo, oo, .sb 106 false, oo, .op (.ln (monic.length : Int)), oo, oo], .br false, .reg [oo, oo, oo, .op (.ia 1), oo, oo], .reg [oo, oo, .op (.call [[1], [0,1]] [(TV.c (T.sl 1 ([].map ce_Linteger_Int))), (TV.agg (ce_integer_Int top))] (TV.tup [(false, [(T.sl 2 (x5.1.map ce_integer_Int))]), (false, [(T.int .i64 x5.2)])])), oo, oo, oo, oo, oo], .draw [.p, .p, (.call [[2], [2]] [(tl 2 goal ce_integer_Int), (tl 2 x5.1 ce_integer_Int)] (tl 2 x7 ce_integer_Int)), .p, (.call [[2], [0,1]] [(tl 2 x7 ce_integer_Int), (TV.agg (ce_integer_Int top))] (TV.tup [(false, [(T.sl 2 (x9.1.map ce_integer_Int))]), (false, [(T.int .i64 x9.2)])])), .p, .p, .p, .p] [.op .p], .reg [.op .lit0, oo], .reg [oo, .op (.ln (x9.1.length : Int)), oo], .pre [.keep [2,3,11,12,13,14,16,17,20,21,22,27,131,132,133] [11,12,17,20]]] _ hn (by kernel_rfl) (aC h1 <| aC (ln_eq monic ce_Lu32) <| aC h2 <| aC (of_decide_eq_true h4 : (Int.tmod (IntKind.i64.wrap (step - (1 : Int))) (2 : Int)) = ((1 : Nat) : Int)) <| aC (hensel_Product_holds h6) <| aC (unipoly_Sub_holds h8) <| aC (hensel_Reduce_holds h10) <| aC (ln_eq x9.1 ce_integer_Int) <| aN) (ih _ _ h cx hn)
        · skip
          cases h

theorem hensel_Lift_c5 {K} (ih : hensel_Lift_H K) {cx} (hn : cx.n = 208) {base top pair power p k goal monic parts step} {r} (h : hensel_Lift_go (K + 1) (.c5 base top pair power p k goal monic parts step) = some r) : hensel_Lift_S cx (.c5 base top pair power p k goal monic parts step) r := by
  rw [hensel_Lift_go] at h
  rcases bcases h with ⟨h1, h⟩ | ⟨h1, h⟩
  · skip
    rcases bcases h with ⟨h2, h⟩ | ⟨h2, h⟩
    · skip
      have h := Option.some.inj h; subst h
      exact wk_ret (fuel := 106) [.go, .reg [oo, oo, oo, oo, .sb 106 true, oo, oo, oo, oo], .br true, .reg [oo, .op (.ln (monic.length : Int)), oo], .br true, .reg [oo, oo]] _ hn (by kernel_rfl) (aC h1 <| aC rt <| aC (ln_eq monic ce_Lu32) <| aC h2 <| aN)
    · skip
      rcases bcases h with ⟨h3, h⟩ | ⟨h3, h⟩
      · skip
        have h := Option.some.inj h; subst h
        exact wk_ret (fuel := 106) [.go, .reg [oo, oo, oo, oo, .sb 106 true, oo, oo, oo, oo], .br true, .reg [oo, .op (.ln (monic.length : Int)), oo], .br false, .reg [oo, oo, oo, .op (.ia 0), oo, oo, oo]] _ hn (by kernel_rfl) (aC h1 <| aC rt <| aC (ln_eq monic ce_Lu32) <| aC h2 <| aC (of_decide_eq_true h3 : (Int.tmod (IntKind.i64.wrap (k - (1 : Int))) (2 : Int)) = ((0 : Nat) : Int)) <| aN)
      · skip
        rcases bcases h with ⟨h4, h⟩ | ⟨h4, h⟩
        · skip
          have h := Option.some.inj h; subst h
          exact wk_ret (fuel := 106) [.go, .reg [oo, oo, oo, oo, .sb 106 true, oo, oo, oo, oo], .br true, .reg [oo, .op (.ln (monic.length : Int)), oo], .br false, .reg [oo, oo, oo, .op (.ia 1), oo, oo, oo]] _ hn (by kernel_rfl) (aC h1 <| aC rt <| aC (ln_eq monic ce_Lu32) <| aC h2 <| aC (of_decide_eq_true h4 : (Int.tmod (IntKind.i64.wrap (k - (1 : Int))) (2 : Int)) = ((1 : Nat) : Int)) <| aN)
        · skip
          cases h
  · skip
    rcases bcases h with ⟨h2, h⟩ | ⟨h2, h⟩
    · skip
      rcases bcases h with ⟨h3, h⟩ | ⟨h3, h⟩
      · skip
        have h := Option.some.inj h; subst h
        exact wk_ret (fuel := 106) [.go, .reg [oo, oo, oo, oo, .sb 106 false, oo, .op (.ln (monic.length : Int)), oo, oo], .br true, .reg [oo, .op (.ln (monic.length : Int)), oo], .br true, .reg [oo, oo]] _ hn (by kernel_rfl) (aC h1 <| aC (ln_eq monic ce_Lu32) <| aC h2 <| aC (ln_eq monic ce_Lu32) <| aC h3 <| aN)
      · skip
        rcases bcases h with ⟨h4, h⟩ | ⟨h4, h⟩
        · skip
          have h := Option.some.inj h; subst h
          exact wk_ret (fuel := 106) [.go, .reg [oo, oo, oo, oo, .sb 106 false, oo, .op (.ln (monic.length : Int)), oo, oo], .br true, .reg [oo, .op (.ln (monic.length : Int)), oo], .br false, .reg [oo, oo, oo, .op (.ia 0), oo, oo, oo]] _ hn (by kernel_rfl) (aC h1 <| aC (ln_eq monic ce_Lu32) <| aC h2 <| aC (ln_eq monic ce_Lu32) <| aC h3 <| aC (of_decide_eq_true h4 : (Int.tmod (IntKind.i64.wrap (k - (1 : Int))) (2 : Int)) = ((0 : Nat) : Int)) <| aN)
        · skip
          rcases bcases h with ⟨h5, h⟩ | ⟨h5, h⟩
          · skip
            have h := Option.some.inj h; subst h
            exact wk_ret (fuel := 106) [.go, .reg [oo, oo, oo, oo, .sb 106 false, oo, .op (.ln (monic.length : Int)), oo, oo], .br true, .reg [oo, .op (.ln (monic.length : Int)), oo], .br false, .reg [oo, oo, oo, .op (.ia 1), oo, oo, oo]] _ hn (by kernel_rfl) (aC h1 <| aC (ln_eq monic ce_Lu32) <| aC h2 <| aC (ln_eq monic ce_Lu32) <| aC h3 <| aC (of_decide_eq_true h5 : (Int.tmod (IntKind.i64.wrap (k - (1 : Int))) (2 : Int)) = ((1 : Nat) : Int)) <| aN)
          · skip
            cases h
    · skip
      rcases bcases h with ⟨h3, h⟩ | ⟨h3, h⟩
      · skip
        obtain ⟨x4, h5, h⟩ := obind h
        obtain ⟨x6, h7, h⟩ := obind h
        obtain ⟨x8, h9, h⟩ := obind h
        exact wk_go (fuel := 110) [.go, .reg [oo, oo, oo, oo, .sb 106 false, oo, .op (.ln (monic.length : Int)), oo, oo], .br false, .reg [oo, oo, oo, .op (.ia 0), oo, oo], .reg [oo, oo, .op (.call [[1], [0,1]] [(tl 1 pair ce_Linteger_Int), (TV.agg (ce_integer_Int top))] (TV.tup [(false, [(T.sl 2 (x4.1.map ce_integer_Int))]), (false, [(T.int .i64 x4.2)])])), oo, oo, oo, oo, oo], .draw [.p, .p, (.call [[2], [2]] [(tl 2 goal ce_integer_Int), (tl 2 x4.1 ce_integer_Int)] (tl 2 x6 ce_integer_Int)), .p, (.call [[2], [0,1]] [(tl 2 x6 ce_integer_Int), (TV.agg (ce_integer_Int top))] (TV.tup [(false, [(T.sl 2 (x8.1.map ce_integer_Int))]), (false, [(T.int .i64 x8.2)])])), .p, .p, .p, .p] [.op .p], .reg [.op .lit0, oo], .reg [oo, .op (.ln (x8.1.length : Int)), oo], .pre [.keep [2,3,11,12,13,14,16,17,20,21,22,27,131,132,133] [11,12,17,20]]] _ hn (by kernel_rfl) (aC h1 <| aC (ln_eq monic ce_Lu32) <| aC h2 <| aC (of_decide_eq_true h3 : (Int.tmod (IntKind.i64.wrap (step - (1 : Int))) (2 : Int)) = ((0 : Nat) : Int)) <| aC (hensel_Product_holds h5) <| aC (unipoly_Sub_holds h7) <| aC (hensel_Reduce_holds h9) <| aC (ln_eq x8.1 ce_integer_Int) <| aN) (ih _ _ h cx hn)
      · skip
        rcases bcases h with ⟨h4, h⟩ | ⟨h4, h⟩
        · skip
          obtain ⟨x5, h6, h⟩ := obind h
          obtain ⟨x7, h8, h⟩ := obind h
          obtain ⟨x9, h10, h⟩ := obind h
          exact wk_go (fuel := 110) [.go, .reg [oo, oo, oo, oo, .sb 106 false, oo, .op (.ln (monic.length : Int)), oo, oo], .br false, .reg [oo, oo, oo, .op (.ia 1), oo, oo], .reg [oo, oo, .op (.call [[1], [0,1]] [(TV.c (T.sl 1 ([].map ce_Linteger_Int))), (TV.agg (ce_integer_Int top))] (TV.tup [(false, [(T.sl 2 (x5.1.map ce_integer_Int))]), (false, [(T.int .i64 x5.2)])])), oo, oo, oo, oo, oo], .draw [.p, .p, (.call [[2], [2]] [(tl 2 goal ce_integer_Int), (tl 2 x5.1 ce_integer_Int)] (tl 2 x7 ce_integer_Int)), .p, (.call [[2], [0,1]] [(tl 2 x7 ce_integer_Int), (TV.agg (ce_integer_Int top))] (TV.tup [(false, [(T.sl 2 (x9.1.map ce_integer_Int))]), (false, [(T.int .i64 x9.2)])])), .p, .p, .p, .p] [.op .p], .reg [.op .lit0, oo], .reg [oo, .op (.ln (x9.1.length : Int)), oo], .pre [.keep [2,3,11,12,13,14,16,17,20,21,22,27,131,132,133] [11,12,17,20]]] _ hn (by kernel_rfl) (aC h1 <| aC (ln_eq monic ce_Lu32) <| aC h2 <| aC (of_decide_eq_true h4 : (Int.tmod (IntKind.i64.wrap (step - (1 : Int))) (2 : Int)) = ((1 : Nat) : Int)) <| aC (hensel_Product_holds h6) <| aC (unipoly_Sub_holds h8) <| aC (hensel_Reduce_holds h10) <| aC (ln_eq x9.1 ce_integer_Int) <| aN) (ih _ _ h cx hn)
        · skip
          cases h

theorem hensel_Lift_c6 {K} (ih : hensel_Lift_H K) {cx} (hn : cx.n = 208) {base top power p k goal monic parts step t131 t132 t133} {r} (h : hensel_Lift_go (K + 1) (.c6 base top power p k goal monic parts step t131 t132 t133) = some r) : hensel_Lift_S cx (.c6 base top power p k goal monic parts step t131 t132 t133) r := by
  rw [hensel_Lift_go] at h
  rcases bcases h with ⟨h1, h⟩ | ⟨h1, h⟩
  · skip
    obtain ⟨x2, h3, h⟩ := obind h
    obtain ⟨x4, h5, h⟩ := obind h
    obtain ⟨x6, h7, h⟩ := obind h
    exact wk_go (fuel := 98) [.go, .reg [oo], .br true, .reg [.op (.ix (ce_integer_Int x2)), oo, oo, oo], .reg [oo, oo, .op (.call [[0,1], [0,1]] [(TV.agg (ce_integer_Int x2)), (TV.agg (ce_integer_Int power))] (TV.tup [(true, ce_integer_Int x4.1), (false, [(T.int .i64 x4.2)])])), oo, oo, oo, oo, oo, oo], .reg [oo, oo, oo, .op (.call [[0,1], [0]] [(TV.agg (ce_integer_Int x4.1)), (ti .u32 p)] (ti .u32 x6)), .op (.lit (([x6] : List Int).map ce_u32)), .op (.appN (([x6] : List Int).map ce_u32)), oo], .reg [oo, oo], .pre [.rl 27 0 ([x6] : List Int).length, .keep [2,3,11,12,13,14,16,17,20,21,22,27,131,132,133] [11,12,17,20,148]]] _ hn (by kernel_rfl) (aC h1 <| aC (gi_nn h3) <| aC (gi_at ce_integer_Int h3) <| aC (division_Exact_holds h5) <| aC (modular_Reduce_holds h7) <| aC (by kernel_rfl : [(T.int .u32 x6)] = (([x6] : List Int).map ce_u32).flatten) <| aC (sn_map _ _ _ (by simp) : ((([x6] : List Int).map ce_u32).drop 0).take 1 = ([x6] : List Int).map ce_u32) <| aC (by simp : 0 < (([x6] : List Int).map ce_u32).length) <| aC (by simp : (([x6] : List Int).map ce_u32).length * 4 ≤ 140737488355328) <| aC (by simp [maxLen] : (([x6] : List Int).map ce_u32).length ≤ maxLen) <| aC r0 <| aC (by simp : (([x6] : List Int).map ce_u32).length = ([x6] : List Int).length) <| aN) (ih _ _ h cx hn)
  · skip
    obtain ⟨x2, h3, h⟩ := obind h
    exact wk_go (fuel := 96) [.go, .reg [oo], .br false, .reg [oo, oo, .op (.call [[0,1], [0,1]] [(TV.agg (ce_integer_Int power)), (TV.agg (ce_integer_Int base))] (TV.agg (ce_integer_Int x2))), oo, oo], .reg [oo], .reg [oo, oo, oo], .pre [.keep [2,3,11,12,13,14,16,17,20,21,27,32,33,153,154,155] [11,12,17,20,32]]] _ hn (by kernel_rfl) (aC h1 <| aC (integer_Mul_holds h3) <| aN) (ih _ _ h cx hn)

theorem hensel_Lift_c7 {K} (ih : hensel_Lift_H K) {cx} (hn : cx.n = 208) {base top pair power p k goal monic parts step now t131 t132 t133} {r} (h : hensel_Lift_go (K + 1) (.c7 base top pair power p k goal monic parts step now t131 t132 t133) = some r) : hensel_Lift_S cx (.c7 base top pair power p k goal monic parts step now t131 t132 t133) r := by
  rw [hensel_Lift_go] at h
  rcases bcases h with ⟨h1, h⟩ | ⟨h1, h⟩
  · skip
    obtain ⟨x2, h3, h⟩ := obind h
    obtain ⟨x4, h5, h⟩ := obind h
    obtain ⟨x6, h7, h⟩ := obind h
    exact wk_go (fuel := 98) [.go, .reg [oo], .br true, .reg [.op (.ix (ce_integer_Int x2)), oo, oo, oo], .reg [oo, oo, .op (.call [[0,1], [0,1]] [(TV.agg (ce_integer_Int x2)), (TV.agg (ce_integer_Int power))] (TV.tup [(true, ce_integer_Int x4.1), (false, [(T.int .i64 x4.2)])])), oo, oo, oo, oo, oo, oo], .reg [oo, oo, oo, .op (.call [[0,1], [0]] [(TV.agg (ce_integer_Int x4.1)), (ti .u32 p)] (ti .u32 x6)), .op (.lit (([x6] : List Int).map ce_u32)), .op (.appN (([x6] : List Int).map ce_u32)), oo], .reg [oo, oo], .pre [.rl 27 0 ([x6] : List Int).length, .keep [2,3,11,12,13,14,16,17,20,21,22,27,131,132,133] [11,12,17,20,148]]] _ hn (by kernel_rfl) (aC h1 <| aC (gi_nn h3) <| aC (gi_at ce_integer_Int h3) <| aC (division_Exact_holds h5) <| aC (modular_Reduce_holds h7) <| aC (by kernel_rfl : [(T.int .u32 x6)] = (([x6] : List Int).map ce_u32).flatten) <| aC (sn_map _ _ _ (by simp) : ((([x6] : List Int).map ce_u32).drop 0).take 1 = ([x6] : List Int).map ce_u32) <| aC (by simp : 0 < (([x6] : List Int).map ce_u32).length) <| aC (by simp : (([x6] : List Int).map ce_u32).length * 4 ≤ 140737488355328) <| aC (by simp [maxLen] : (([x6] : List Int).map ce_u32).length ≤ maxLen) <| aC r0 <| aC (by simp : (([x6] : List Int).map ce_u32).length = ([x6] : List Int).length) <| aN) (ih _ _ h cx hn)
  · skip
    obtain ⟨x2, h3, h⟩ := obind h
    exact wk_go (fuel := 96) [.go, .reg [oo], .br false, .reg [oo, oo, .op (.call [[0,1], [0,1]] [(TV.agg (ce_integer_Int power)), (TV.agg (ce_integer_Int base))] (TV.agg (ce_integer_Int x2))), oo, oo], .reg [oo], .reg [oo, .op (.ln (now.length : Int)), oo], .pre [.keep [2,3,11,12,13,14,16,17,20,21,27,32,33,153,154,155] [11,12,17,20,32]]] _ hn (by kernel_rfl) (aC h1 <| aC (integer_Mul_holds h3) <| aC (ln_eq now ce_Linteger_Int) <| aN) (ih _ _ h cx hn)

theorem hensel_Lift_c8 {K} (ih : hensel_Lift_H K) {cx} (hn : cx.n = 208) {base top pair power p k goal monic parts step t131 t132 t133} {r} (h : hensel_Lift_go (K + 1) (.c8 base top pair power p k goal monic parts step t131 t132 t133) = some r) : hensel_Lift_S cx (.c8 base top pair power p k goal monic parts step t131 t132 t133) r := by
  rw [hensel_Lift_go] at h
  rcases bcases h with ⟨h1, h⟩ | ⟨h1, h⟩
  · skip
    obtain ⟨x2, h3, h⟩ := obind h
    obtain ⟨x4, h5, h⟩ := obind h
    obtain ⟨x6, h7, h⟩ := obind h
    exact wk_go (fuel := 98) [.go, .reg [oo], .br true, .reg [.op (.ix (ce_integer_Int x2)), oo, oo, oo], .reg [oo, oo, .op (.call [[0,1], [0,1]] [(TV.agg (ce_integer_Int x2)), (TV.agg (ce_integer_Int power))] (TV.tup [(true, ce_integer_Int x4.1), (false, [(T.int .i64 x4.2)])])), oo, oo, oo, oo, oo, oo], .reg [oo, oo, oo, .op (.call [[0,1], [0]] [(TV.agg (ce_integer_Int x4.1)), (ti .u32 p)] (ti .u32 x6)), .op (.lit (([x6] : List Int).map ce_u32)), .op (.appN (([x6] : List Int).map ce_u32)), oo], .reg [oo, oo], .pre [.rl 27 0 ([x6] : List Int).length, .keep [2,3,11,12,13,14,16,17,20,21,22,27,131,132,133] [11,12,17,20,148]]] _ hn (by kernel_rfl) (aC h1 <| aC (gi_nn h3) <| aC (gi_at ce_integer_Int h3) <| aC (division_Exact_holds h5) <| aC (modular_Reduce_holds h7) <| aC (by kernel_rfl : [(T.int .u32 x6)] = (([x6] : List Int).map ce_u32).flatten) <| aC (sn_map _ _ _ (by simp) : ((([x6] : List Int).map ce_u32).drop 0).take 1 = ([x6] : List Int).map ce_u32) <| aC (by simp : 0 < (([x6] : List Int).map ce_u32).length) <| aC (by simp : (([x6] : List Int).map ce_u32).length * 4 ≤ 140737488355328) <| aC (by simp [maxLen] : (([x6] : List Int).map ce_u32).length ≤ maxLen) <| aC r0 <| aC (by simp : (([x6] : List Int).map ce_u32).length = ([x6] : List Int).length) <| aN) (ih _ _ h cx hn)
  · skip
    obtain ⟨x2, h3, h⟩ := obind h
    exact wk_go (fuel := 96) [.go, .reg [oo], .br false, .reg [oo, oo, .op (.call [[0,1], [0,1]] [(TV.agg (ce_integer_Int power)), (TV.agg (ce_integer_Int base))] (TV.agg (ce_integer_Int x2))), oo, oo], .reg [oo], .reg [oo, oo, oo], .pre [.keep [2,3,11,12,13,14,16,17,20,21,27,32,33,153,154,155] [11,12,17,20,32]]] _ hn (by kernel_rfl) (aC h1 <| aC (integer_Mul_holds h3) <| aN) (ih _ _ h cx hn)

theorem hensel_Lift_c9 {K} (ih : hensel_Lift_H K) {cx} (hn : cx.n = 208) {base top power r148 p k goal monic parts step t131 t132 t133} {r} (h : hensel_Lift_go (K + 1) (.c9 base top power r148 p k goal monic parts step t131 t132 t133) = some r) : hensel_Lift_S cx (.c9 base top power r148 p k goal monic parts step t131 t132 t133) r := by
  rw [hensel_Lift_go] at h
  rcases bcases h with ⟨h1, h⟩ | ⟨h1, h⟩
  · skip
    obtain ⟨x2, h3, h⟩ := obind h
    obtain ⟨x4, h5, h⟩ := obind h
    obtain ⟨x6, h7, h⟩ := obind h
    obtain ⟨h8, h⟩ := gd_some h
    exact wk_go (fuel := 98) [.go, .reg [oo], .br true, .reg [.op (.ix (ce_integer_Int x2)), oo, oo, oo], .reg [oo, oo, .op (.call [[0,1], [0,1]] [(TV.agg (ce_integer_Int x2)), (TV.agg (ce_integer_Int power))] (TV.tup [(true, ce_integer_Int x4.1), (false, [(T.int .i64 x4.2)])])), oo, oo, oo, oo, oo, oo], .pre [.keep [2,3,11,12,13,14,16,17,20,21,22,27,30,131,132,133] [11,12,17,20,30,148]], .reg [oo, oo, oo, .op (.call [[0,1], [0]] [(TV.agg (ce_integer_Int x4.1)), (ti .u32 p)] (ti .u32 x6)), .op (.lit (([x6] : List Int).map ce_u32)), .appR (([x6] : List Int).map ce_u32) ((r148 ++ ([x6] : List Int)).map ce_u32), oo], .reg [oo, oo], .pre [.rl 27 0 (r148 ++ ([x6] : List Int)).length, .keep [2,3,11,12,13,14,16,17,20,21,22,27,131,132,133] [11,12,17,20,148]]] _ hn (by kernel_rfl) (aC h1 <| aC (gi_nn h3) <| aC (gi_at ce_integer_Int h3) <| aC (division_Exact_holds h5) <| aC (modular_Reduce_holds h7) <| aC (by kernel_rfl : [(T.int .u32 x6)] = (([x6] : List Int).map ce_u32).flatten) <| aC (by simp : r148.length = (r148.map ce_u32).length) <| aC (sn_map _ _ _ (by simp) : ((([x6] : List Int).map ce_u32).drop 0).take 1 = ([x6] : List Int).map ce_u32) <| aC (app_map _ _ _ : r148.map ce_u32 ++ ([x6] : List Int).map ce_u32 = (r148 ++ ([x6] : List Int)).map ce_u32) <| aC ((len_map _ _).symm ▸ h8 : ((r148 ++ ([x6] : List Int)).map ce_u32).length * 4 ≤ 140737488355328) <| aC ((len_map _ _).symm ▸ room (by decide) h8 : ((r148 ++ ([x6] : List Int)).map ce_u32).length ≤ maxLen) <| aC r0 <| aC (by simp : ((r148 ++ ([x6] : List Int)).map ce_u32).length = (r148 ++ ([x6] : List Int)).length) <| aN) (ih _ _ h cx hn)
  · skip
    obtain ⟨x2, h3, h⟩ := obind h
    exact wk_go (fuel := 96) [.go, .reg [oo], .br false, .reg [oo, oo, .op (.call [[0,1], [0,1]] [(TV.agg (ce_integer_Int power)), (TV.agg (ce_integer_Int base))] (TV.agg (ce_integer_Int x2))), oo, oo], .reg [oo], .reg [oo, oo, oo], .pre [.rl 27 0 r148.length, .keep [2,3,11,12,13,14,16,17,20,21,27,32,33,153,154,155] [11,12,17,20,32,148]]] _ hn (by kernel_rfl) (aC h1 <| aC (integer_Mul_holds h3) <| aC r0 <| aC (lq r148) <| aN) (ih _ _ h cx hn)

theorem hensel_Lift_c10 {K} (ih : hensel_Lift_H K) {cx} (hn : cx.n = 208) {base top power next p k goal monic parts step t154 t155} {r} (h : hensel_Lift_go (K + 1) (.c10 base top power next p k goal monic parts step t154 t155) = some r) : hensel_Lift_S cx (.c10 base top power next p k goal monic parts step t154 t155) r := by
  rw [hensel_Lift_go] at h
  rcases bcases h with ⟨h1, h⟩ | ⟨h1, h⟩
  · skip
    cases h
  · skip
    rcases bcases h with ⟨h2, h⟩ | ⟨h2, h⟩
    · skip
      exact wk_go (fuel := 84) [.go, .reg [oo], .br false, .reg [oo, oo, oo, .op (.ia 0), oo], .reg [oo, oo], .pre [.keep [2,3,11,12,13,14,16,17,20,21] [11,12,17,20]]] _ hn (by kernel_rfl) (aC h1 <| aC (of_decide_eq_true h2 : (Int.tmod step (2 : Int)) = ((0 : Nat) : Int)) <| aN) (ih _ _ h cx hn)
    · skip
      rcases bcases h with ⟨h3, h⟩ | ⟨h3, h⟩
      · skip
        exact wk_go (fuel := 84) [.go, .reg [oo], .br false, .reg [oo, oo, oo, .op (.ia 1), oo], .reg [oo, oo], .pre [.keep [2,3,11,12,13,14,16,17,20,21] [11,12,17,20]]] _ hn (by kernel_rfl) (aC h1 <| aC (of_decide_eq_true h3 : (Int.tmod step (2 : Int)) = ((1 : Nat) : Int)) <| aN) (ih _ _ h cx hn)
      · skip
        cases h

theorem hensel_Lift_c11 {K} (ih : hensel_Lift_H K) {cx} (hn : cx.n = 208) {base top pair power r148 p k goal monic parts step now t131 t132 t133} {r} (h : hensel_Lift_go (K + 1) (.c11 base top pair power r148 p k goal monic parts step now t131 t132 t133) = some r) : hensel_Lift_S cx (.c11 base top pair power r148 p k goal monic parts step now t131 t132 t133) r := by
  rw [hensel_Lift_go] at h
  rcases bcases h with ⟨h1, h⟩ | ⟨h1, h⟩
  · skip
    obtain ⟨x2, h3, h⟩ := obind h
    obtain ⟨x4, h5, h⟩ := obind h
    obtain ⟨x6, h7, h⟩ := obind h
    obtain ⟨h8, h⟩ := gd_some h
    exact wk_go (fuel := 98) [.go, .reg [oo], .br true, .reg [.op (.ix (ce_integer_Int x2)), oo, oo, oo], .reg [oo, oo, .op (.call [[0,1], [0,1]] [(TV.agg (ce_integer_Int x2)), (TV.agg (ce_integer_Int power))] (TV.tup [(true, ce_integer_Int x4.1), (false, [(T.int .i64 x4.2)])])), oo, oo, oo, oo, oo, oo], .pre [.keep [2,3,11,12,13,14,16,17,20,21,22,27,30,131,132,133] [11,12,17,20,30,148]], .reg [oo, oo, oo, .op (.call [[0,1], [0]] [(TV.agg (ce_integer_Int x4.1)), (ti .u32 p)] (ti .u32 x6)), .op (.lit (([x6] : List Int).map ce_u32)), .appR (([x6] : List Int).map ce_u32) ((r148 ++ ([x6] : List Int)).map ce_u32), oo], .reg [oo, oo], .pre [.rl 27 0 (r148 ++ ([x6] : List Int)).length, .keep [2,3,11,12,13,14,16,17,20,21,22,27,131,132,133] [11,12,17,20,148]]] _ hn (by kernel_rfl) (aC h1 <| aC (gi_nn h3) <| aC (gi_at ce_integer_Int h3) <| aC (division_Exact_holds h5) <| aC (modular_Reduce_holds h7) <| aC (by kernel_rfl : [(T.int .u32 x6)] = (([x6] : List Int).map ce_u32).flatten) <| aC (by simp : r148.length = (r148.map ce_u32).length) <| aC (sn_map _ _ _ (by simp) : ((([x6] : List Int).map ce_u32).drop 0).take 1 = ([x6] : List Int).map ce_u32) <| aC (app_map _ _ _ : r148.map ce_u32 ++ ([x6] : List Int).map ce_u32 = (r148 ++ ([x6] : List Int)).map ce_u32) <| aC ((len_map _ _).symm ▸ h8 : ((r148 ++ ([x6] : List Int)).map ce_u32).length * 4 ≤ 140737488355328) <| aC ((len_map _ _).symm ▸ room (by decide) h8 : ((r148 ++ ([x6] : List Int)).map ce_u32).length ≤ maxLen) <| aC r0 <| aC (by simp : ((r148 ++ ([x6] : List Int)).map ce_u32).length = (r148 ++ ([x6] : List Int)).length) <| aN) (ih _ _ h cx hn)
  · skip
    obtain ⟨x2, h3, h⟩ := obind h
    exact wk_go (fuel := 96) [.go, .reg [oo], .br false, .reg [oo, oo, .op (.call [[0,1], [0,1]] [(TV.agg (ce_integer_Int power)), (TV.agg (ce_integer_Int base))] (TV.agg (ce_integer_Int x2))), oo, oo], .reg [oo], .reg [oo, .op (.ln (now.length : Int)), oo], .pre [.rl 27 0 r148.length, .keep [2,3,11,12,13,14,16,17,20,21,27,32,33,153,154,155] [11,12,17,20,32,148]]] _ hn (by kernel_rfl) (aC h1 <| aC (integer_Mul_holds h3) <| aC (ln_eq now ce_Linteger_Int) <| aC r0 <| aC (lq r148) <| aN) (ih _ _ h cx hn)

theorem hensel_Lift_c12 {K} (ih : hensel_Lift_H K) {cx} (hn : cx.n = 208) {base top pair power next p k goal monic parts step t153 t154 t155} {r} (h : hensel_Lift_go (K + 1) (.c12 base top pair power next p k goal monic parts step t153 t154 t155) = some r) : hensel_Lift_S cx (.c12 base top pair power next p k goal monic parts step t153 t154 t155) r := by
  rw [hensel_Lift_go] at h
  rcases bcases h with ⟨h1, h⟩ | ⟨h1, h⟩
  · skip
    obtain ⟨x2, h3, h⟩ := obind h
    obtain ⟨x4, h5, h⟩ := obind h
    obtain ⟨x6, h7, h⟩ := obind h
    obtain ⟨x8, h9, h⟩ := obind h
    obtain ⟨x10, h11, h⟩ := obind h
    obtain ⟨x12, h13, h⟩ := obind h
    obtain ⟨x14, h15, h⟩ := obind h
    obtain ⟨x16, h17, h⟩ := obind h
    obtain ⟨x18, h19, h⟩ := obind h
    exact wk_go (fuel := 114) [.go, .reg [oo], .br true, .reg [oo, .op (.ix (ce_Linteger_Int x2)), oo, oo, oo], .draw [.p, .p, .p, (.ix (ce_Lu32 x4)), .p, .p, (.call [[1], [1], [0]] [(TV.c (T.sl 1 ([].map ce_u32))), (tl 1 x4 ce_u32), (ti .u32 p)] (tl 1 x6 ce_u32)), .p, .p, (.ix (ce_Lu32 x8)), .p, .p, (.call [[1], [1], [0]] [(tl 1 x6 ce_u32), (tl 1 x8 ce_u32), (ti .u32 p)] (TV.tup [(false, [(T.sl 1 (x10.1.map ce_u32))]), (false, [(T.sl 1 (x10.2.1.map ce_u32))]), (false, [(T.int .i64 x10.2.2)])])), .p, .p, .p, .p, .p, .p] [.op .p], .draw [.p, .p, .p, (.call [[1], [0]] [(TV.c (T.sl 1 (x10.2.1.map ce_u32))), (ti .u32 p)] (tl 2 x12 ce_integer_Int)), .p, (.call [[2], [0,1]] [(tl 2 x12 ce_integer_Int), (TV.agg (ce_integer_Int power))] (tl 2 x14 ce_integer_Int))] [.op (.call [[2], [2]] [(tl 2 x2 ce_integer_Int), (tl 2 x14 ce_integer_Int)] (tl 2 x16 ce_integer_Int)), .op .p], .reg [oo, oo, .op (.call [[2], [0,1]] [(tl 2 x16 ce_integer_Int), (TV.agg (ce_integer_Int next))] (TV.tup [(false, [(T.sl 2 (x18.1.map ce_integer_Int))]), (false, [(T.int .i64 x18.2)])])), oo, oo, oo, oo], .reg [oo, oo, .op (.lit (([x18.1] : List (List integer_Int)).map ce_Linteger_Int)), .op (.appN (([x18.1] : List (List integer_Int)).map ce_Linteger_Int)), oo], .reg [oo, oo], .pre [.rl 33 0 ([x18.1] : List (List integer_Int)).length, .keep [2,3,11,12,13,14,16,17,20,21,27,32,33,153,154,155] [11,12,17,20,32,193]]] _ hn (by kernel_rfl) (aC h1 <| aC (gi_nn h3) <| aC (gi_at ce_Linteger_Int h3) <| aC (gi_nn h5) <| aC (gi_at ce_Lu32 h5) <| aC (modpoly_Mul_holds h7) <| aC (gi_nn h9) <| aC (gi_at ce_Lu32 h9) <| aC (modpoly_Divide_holds h11) <| aC (modpoly_Symmetric_holds h13) <| aC (unipoly_Scale_holds h15) <| aC (unipoly_Add_holds h17) <| aC (hensel_Reduce_holds h19) <| aC (by kernel_rfl : [(T.sl 2 (x18.1.map ce_integer_Int))] = (([x18.1] : List (List integer_Int)).map ce_Linteger_Int).flatten) <| aC (sn_map _ _ _ (by simp) : ((([x18.1] : List (List integer_Int)).map ce_Linteger_Int).drop 0).take 1 = ([x18.1] : List (List integer_Int)).map ce_Linteger_Int) <| aC (by simp : 0 < (([x18.1] : List (List integer_Int)).map ce_Linteger_Int).length) <| aC (by simp : (([x18.1] : List (List integer_Int)).map ce_Linteger_Int).length * 24 ≤ 140737488355328) <| aC (by simp [maxLen] : (([x18.1] : List (List integer_Int)).map ce_Linteger_Int).length ≤ maxLen) <| aC r0 <| aC (by simp : (([x18.1] : List (List integer_Int)).map ce_Linteger_Int).length = ([x18.1] : List (List integer_Int)).length) <| aN) (ih _ _ h cx hn)
  · skip
    rcases bcases h with ⟨h2, h⟩ | ⟨h2, h⟩
    · skip
      exact wk_go (fuel := 84) [.go, .reg [oo], .br false, .reg [oo, oo, oo, .op (.ia 0), oo], .reg [oo, oo], .pre [.keep [2,3,11,12,13,14,16,17,20,21] [11,12,17,20]]] _ hn (by kernel_rfl) (aC h1 <| aC (of_decide_eq_true h2 : (Int.tmod step (2 : Int)) = ((0 : Nat) : Int)) <| aN) (ih _ _ h cx hn)
    · skip
      rcases bcases h with ⟨h3, h⟩ | ⟨h3, h⟩
      · skip
        exact wk_go (fuel := 84) [.go, .reg [oo], .br false, .reg [oo, oo, oo, .op (.ia 1), oo], .reg [oo, oo], .pre [.keep [2,3,11,12,13,14,16,17,20,21] [11,12,17,20]]] _ hn (by kernel_rfl) (aC h1 <| aC (of_decide_eq_true h3 : (Int.tmod step (2 : Int)) = ((1 : Nat) : Int)) <| aN) (ih _ _ h cx hn)
      · skip
        cases h

theorem hensel_Lift_c13 {K} (ih : hensel_Lift_H K) {cx} (hn : cx.n = 208) {base top pair power r148 p k goal monic parts step t131 t132 t133} {r} (h : hensel_Lift_go (K + 1) (.c13 base top pair power r148 p k goal monic parts step t131 t132 t133) = some r) : hensel_Lift_S cx (.c13 base top pair power r148 p k goal monic parts step t131 t132 t133) r := by
  rw [hensel_Lift_go] at h
  rcases bcases h with ⟨h1, h⟩ | ⟨h1, h⟩
  · skip
    obtain ⟨x2, h3, h⟩ := obind h
    obtain ⟨x4, h5, h⟩ := obind h
    obtain ⟨x6, h7, h⟩ := obind h
    obtain ⟨h8, h⟩ := gd_some h
    exact wk_go (fuel := 98) [.go, .reg [oo], .br true, .reg [.op (.ix (ce_integer_Int x2)), oo, oo, oo], .reg [oo, oo, .op (.call [[0,1], [0,1]] [(TV.agg (ce_integer_Int x2)), (TV.agg (ce_integer_Int power))] (TV.tup [(true, ce_integer_Int x4.1), (false, [(T.int .i64 x4.2)])])), oo, oo, oo, oo, oo, oo], .pre [.keep [2,3,11,12,13,14,16,17,20,21,22,27,30,131,132,133] [11,12,17,20,30,148]], .reg [oo, oo, oo, .op (.call [[0,1], [0]] [(TV.agg (ce_integer_Int x4.1)), (ti .u32 p)] (ti .u32 x6)), .op (.lit (([x6] : List Int).map ce_u32)), .appR (([x6] : List Int).map ce_u32) ((r148 ++ ([x6] : List Int)).map ce_u32), oo], .reg [oo, oo], .pre [.rl 27 0 (r148 ++ ([x6] : List Int)).length, .keep [2,3,11,12,13,14,16,17,20,21,22,27,131,132,133] [11,12,17,20,148]]] _ hn (by kernel_rfl) (aC h1 <| aC (gi_nn h3) <| aC (gi_at ce_integer_Int h3) <| aC (division_Exact_holds h5) <| aC (modular_Reduce_holds h7) <| aC (by kernel_rfl : [(T.int .u32 x6)] = (([x6] : List Int).map ce_u32).flatten) <| aC (by simp : r148.length = (r148.map ce_u32).length) <| aC (sn_map _ _ _ (by simp) : ((([x6] : List Int).map ce_u32).drop 0).take 1 = ([x6] : List Int).map ce_u32) <| aC (app_map _ _ _ : r148.map ce_u32 ++ ([x6] : List Int).map ce_u32 = (r148 ++ ([x6] : List Int)).map ce_u32) <| aC ((len_map _ _).symm ▸ h8 : ((r148 ++ ([x6] : List Int)).map ce_u32).length * 4 ≤ 140737488355328) <| aC ((len_map _ _).symm ▸ room (by decide) h8 : ((r148 ++ ([x6] : List Int)).map ce_u32).length ≤ maxLen) <| aC r0 <| aC (by simp : ((r148 ++ ([x6] : List Int)).map ce_u32).length = (r148 ++ ([x6] : List Int)).length) <| aN) (ih _ _ h cx hn)
  · skip
    obtain ⟨x2, h3, h⟩ := obind h
    exact wk_go (fuel := 96) [.go, .reg [oo], .br false, .reg [oo, oo, .op (.call [[0,1], [0,1]] [(TV.agg (ce_integer_Int power)), (TV.agg (ce_integer_Int base))] (TV.agg (ce_integer_Int x2))), oo, oo], .reg [oo], .reg [oo, oo, oo], .pre [.rl 27 0 r148.length, .keep [2,3,11,12,13,14,16,17,20,21,27,32,33,153,154,155] [11,12,17,20,32,148]]] _ hn (by kernel_rfl) (aC h1 <| aC (integer_Mul_holds h3) <| aC r0 <| aC (lq r148) <| aN) (ih _ _ h cx hn)

theorem hensel_Lift_c14 {K} (ih : hensel_Lift_H K) {cx} (hn : cx.n = 208) {base top pair power next p k goal monic parts step t154 t155} {r} (h : hensel_Lift_go (K + 1) (.c14 base top pair power next p k goal monic parts step t154 t155) = some r) : hensel_Lift_S cx (.c14 base top pair power next p k goal monic parts step t154 t155) r := by
  rw [hensel_Lift_go] at h
  rcases bcases h with ⟨h1, h⟩ | ⟨h1, h⟩
  · skip
    cases h
  · skip
    rcases bcases h with ⟨h2, h⟩ | ⟨h2, h⟩
    · skip
      exact wk_go (fuel := 84) [.go, .reg [oo], .br false, .reg [oo, oo, oo, .op (.ia 0), oo], .reg [oo, oo], .pre [.keep [2,3,11,12,13,14,16,17,20,21] [11,12,17,20]]] _ hn (by kernel_rfl) (aC h1 <| aC (of_decide_eq_true h2 : (Int.tmod step (2 : Int)) = ((0 : Nat) : Int)) <| aN) (ih _ _ h cx hn)
    · skip
      rcases bcases h with ⟨h3, h⟩ | ⟨h3, h⟩
      · skip
        exact wk_go (fuel := 84) [.go, .reg [oo], .br false, .reg [oo, oo, oo, .op (.ia 1), oo], .reg [oo, oo], .pre [.keep [2,3,11,12,13,14,16,17,20,21] [11,12,17,20]]] _ hn (by kernel_rfl) (aC h1 <| aC (of_decide_eq_true h3 : (Int.tmod step (2 : Int)) = ((1 : Nat) : Int)) <| aN) (ih _ _ h cx hn)
      · skip
        cases h

theorem hensel_Lift_c15 {K} (ih : hensel_Lift_H K) {cx} (hn : cx.n = 208) {base top power next r148 p k goal monic parts step t154 t155} {r} (h : hensel_Lift_go (K + 1) (.c15 base top power next r148 p k goal monic parts step t154 t155) = some r) : hensel_Lift_S cx (.c15 base top power next r148 p k goal monic parts step t154 t155) r := by
  rw [hensel_Lift_go] at h
  rcases bcases h with ⟨h1, h⟩ | ⟨h1, h⟩
  · skip
    cases h
  · skip
    rcases bcases h with ⟨h2, h⟩ | ⟨h2, h⟩
    · skip
      exact wk_go (fuel := 84) [.go, .reg [oo], .br false, .reg [oo, oo, oo, .op (.ia 0), oo], .reg [oo, oo], .pre [.keep [2,3,11,12,13,14,16,17,20,21] [11,12,17,20]]] _ hn (by kernel_rfl) (aC h1 <| aC (of_decide_eq_true h2 : (Int.tmod step (2 : Int)) = ((0 : Nat) : Int)) <| aN) (ih _ _ h cx hn)
    · skip
      rcases bcases h with ⟨h3, h⟩ | ⟨h3, h⟩
      · skip
        exact wk_go (fuel := 84) [.go, .reg [oo], .br false, .reg [oo, oo, oo, .op (.ia 1), oo], .reg [oo, oo], .pre [.keep [2,3,11,12,13,14,16,17,20,21] [11,12,17,20]]] _ hn (by kernel_rfl) (aC h1 <| aC (of_decide_eq_true h3 : (Int.tmod step (2 : Int)) = ((1 : Nat) : Int)) <| aN) (ih _ _ h cx hn)
      · skip
        cases h

theorem hensel_Lift_c16 {K} (ih : hensel_Lift_H K) {cx} (hn : cx.n = 208) {base top power p k goal monic parts step} {r} (h : hensel_Lift_go (K + 1) (.c16 base top power p k goal monic parts step) = some r) : hensel_Lift_S cx (.c16 base top power p k goal monic parts step) r := by
  rw [hensel_Lift_go] at h
  exact wk_go (fuel := 44) [.reg [oo, oo, oo], .pre [.keep [2,3,11,12,13,14,16,17,20,21] [11,12,17,20]]] _ hn (by kernel_rfl) aN (ih _ _ h cx hn)

theorem hensel_Lift_c17 {K} (ih : hensel_Lift_H K) {cx} (hn : cx.n = 208) {base top pair power next r148 p k goal monic parts step t153 t154 t155} {r} (h : hensel_Lift_go (K + 1) (.c17 base top pair power next r148 p k goal monic parts step t153 t154 t155) = some r) : hensel_Lift_S cx (.c17 base top pair power next r148 p k goal monic parts step t153 t154 t155) r := by
  rw [hensel_Lift_go] at h
  rcases bcases h with ⟨h1, h⟩ | ⟨h1, h⟩
  · skip
    obtain ⟨x2, h3, h⟩ := obind h
    obtain ⟨x4, h5, h⟩ := obind h
    obtain ⟨x6, h7, h⟩ := obind h
    obtain ⟨x8, h9, h⟩ := obind h
    obtain ⟨x10, h11, h⟩ := obind h
    obtain ⟨x12, h13, h⟩ := obind h
    obtain ⟨x14, h15, h⟩ := obind h
    obtain ⟨x16, h17, h⟩ := obind h
    obtain ⟨x18, h19, h⟩ := obind h
    exact wk_go (fuel := 114) [.go, .reg [oo], .br true, .reg [oo, .op (.ix (ce_Linteger_Int x2)), oo, oo, oo], .pre [.snap 27 (max 0 (0 + r148.length)) (r148.map ce_u32)], .draw [.p, .p, .p, (.ix (ce_Lu32 x4)), .p, .p, (.call [[1], [1], [0]] [(tl 1 r148 ce_u32), (tl 1 x4 ce_u32), (ti .u32 p)] (tl 1 x6 ce_u32)), .p, .p, (.ix (ce_Lu32 x8)), .p, .p, (.call [[1], [1], [0]] [(tl 1 x6 ce_u32), (tl 1 x8 ce_u32), (ti .u32 p)] (TV.tup [(false, [(T.sl 1 (x10.1.map ce_u32))]), (false, [(T.sl 1 (x10.2.1.map ce_u32))]), (false, [(T.int .i64 x10.2.2)])])), .p, .p, .p, .p, .p, .p] [.op .p], .draw [.p, .p, .p, (.call [[1], [0]] [(TV.c (T.sl 1 (x10.2.1.map ce_u32))), (ti .u32 p)] (tl 2 x12 ce_integer_Int)), .p, (.call [[2], [0,1]] [(tl 2 x12 ce_integer_Int), (TV.agg (ce_integer_Int power))] (tl 2 x14 ce_integer_Int))] [.op (.call [[2], [2]] [(tl 2 x2 ce_integer_Int), (tl 2 x14 ce_integer_Int)] (tl 2 x16 ce_integer_Int)), .op .p], .reg [oo, oo, .op (.call [[2], [0,1]] [(tl 2 x16 ce_integer_Int), (TV.agg (ce_integer_Int next))] (TV.tup [(false, [(T.sl 2 (x18.1.map ce_integer_Int))]), (false, [(T.int .i64 x18.2)])])), oo, oo, oo, oo], .reg [oo, oo, .op (.lit (([x18.1] : List (List integer_Int)).map ce_Linteger_Int)), .op (.appN (([x18.1] : List (List integer_Int)).map ce_Linteger_Int)), oo], .reg [oo, oo], .pre [.rl 33 0 ([x18.1] : List (List integer_Int)).length, .keep [2,3,11,12,13,14,16,17,20,21,27,32,33,153,154,155] [11,12,17,20,32,193]]] _ hn (by kernel_rfl) (aC h1 <| aC (gi_nn h3) <| aC (gi_at ce_Linteger_Int h3) <| aC (sn_map _ _ _ (by simp) : ((r148.map ce_u32).drop 0).take r148.length = r148.map ce_u32) <| aC (rfl : (max 0 (0 + r148.length)) = (max 0 (0 + r148.length))) <| aC (gi_nn h5) <| aC (gi_at ce_Lu32 h5) <| aC (modpoly_Mul_holds h7) <| aC (gi_nn h9) <| aC (gi_at ce_Lu32 h9) <| aC (modpoly_Divide_holds h11) <| aC (modpoly_Symmetric_holds h13) <| aC (unipoly_Scale_holds h15) <| aC (unipoly_Add_holds h17) <| aC (hensel_Reduce_holds h19) <| aC (by kernel_rfl : [(T.sl 2 (x18.1.map ce_integer_Int))] = (([x18.1] : List (List integer_Int)).map ce_Linteger_Int).flatten) <| aC (sn_map _ _ _ (by simp) : ((([x18.1] : List (List integer_Int)).map ce_Linteger_Int).drop 0).take 1 = ([x18.1] : List (List integer_Int)).map ce_Linteger_Int) <| aC (by simp : 0 < (([x18.1] : List (List integer_Int)).map ce_Linteger_Int).length) <| aC (by simp : (([x18.1] : List (List integer_Int)).map ce_Linteger_Int).length * 24 ≤ 140737488355328) <| aC (by simp [maxLen] : (([x18.1] : List (List integer_Int)).map ce_Linteger_Int).length ≤ maxLen) <| aC r0 <| aC (by simp : (([x18.1] : List (List integer_Int)).map ce_Linteger_Int).length = ([x18.1] : List (List integer_Int)).length) <| aN) (ih _ _ h cx hn)
  · skip
    rcases bcases h with ⟨h2, h⟩ | ⟨h2, h⟩
    · skip
      exact wk_go (fuel := 84) [.go, .reg [oo], .br false, .reg [oo, oo, oo, .op (.ia 0), oo], .reg [oo, oo], .pre [.keep [2,3,11,12,13,14,16,17,20,21] [11,12,17,20]]] _ hn (by kernel_rfl) (aC h1 <| aC (of_decide_eq_true h2 : (Int.tmod step (2 : Int)) = ((0 : Nat) : Int)) <| aN) (ih _ _ h cx hn)
    · skip
      rcases bcases h with ⟨h3, h⟩ | ⟨h3, h⟩
      · skip
        exact wk_go (fuel := 84) [.go, .reg [oo], .br false, .reg [oo, oo, oo, .op (.ia 1), oo], .reg [oo, oo], .pre [.keep [2,3,11,12,13,14,16,17,20,21] [11,12,17,20]]] _ hn (by kernel_rfl) (aC h1 <| aC (of_decide_eq_true h3 : (Int.tmod step (2 : Int)) = ((1 : Nat) : Int)) <| aN) (ih _ _ h cx hn)
      · skip
        cases h

theorem hensel_Lift_c18 {K} (ih : hensel_Lift_H K) {cx} (hn : cx.n = 208) {base top pair power next r193 p k goal monic parts step t153 t154 t155} {r} (h : hensel_Lift_go (K + 1) (.c18 base top pair power next r193 p k goal monic parts step t153 t154 t155) = some r) : hensel_Lift_S cx (.c18 base top pair power next r193 p k goal monic parts step t153 t154 t155) r := by
  rw [hensel_Lift_go] at h
  rcases bcases h with ⟨h1, h⟩ | ⟨h1, h⟩
  · skip
    obtain ⟨x2, h3, h⟩ := obind h
    obtain ⟨x4, h5, h⟩ := obind h
    obtain ⟨x6, h7, h⟩ := obind h
    obtain ⟨x8, h9, h⟩ := obind h
    obtain ⟨x10, h11, h⟩ := obind h
    obtain ⟨x12, h13, h⟩ := obind h
    obtain ⟨x14, h15, h⟩ := obind h
    obtain ⟨x16, h17, h⟩ := obind h
    obtain ⟨x18, h19, h⟩ := obind h
    obtain ⟨h20, h⟩ := gd_some h
    exact wk_go (fuel := 114) [.go, .reg [oo], .br true, .reg [oo, .op (.ix (ce_Linteger_Int x2)), oo, oo, oo], .draw [.p, .p, .p, (.ix (ce_Lu32 x4)), .p, .p, (.call [[1], [1], [0]] [(TV.c (T.sl 1 ([].map ce_u32))), (tl 1 x4 ce_u32), (ti .u32 p)] (tl 1 x6 ce_u32)), .p, .p, (.ix (ce_Lu32 x8)), .p, .p, (.call [[1], [1], [0]] [(tl 1 x6 ce_u32), (tl 1 x8 ce_u32), (ti .u32 p)] (TV.tup [(false, [(T.sl 1 (x10.1.map ce_u32))]), (false, [(T.sl 1 (x10.2.1.map ce_u32))]), (false, [(T.int .i64 x10.2.2)])])), .p, .p, .p, .p, .p, .p] [.op .p], .draw [.p, .p, .p, (.call [[1], [0]] [(TV.c (T.sl 1 (x10.2.1.map ce_u32))), (ti .u32 p)] (tl 2 x12 ce_integer_Int)), .p, (.call [[2], [0,1]] [(tl 2 x12 ce_integer_Int), (TV.agg (ce_integer_Int power))] (tl 2 x14 ce_integer_Int))] [.op (.call [[2], [2]] [(tl 2 x2 ce_integer_Int), (tl 2 x14 ce_integer_Int)] (tl 2 x16 ce_integer_Int)), .op .p], .reg [oo, oo, .op (.call [[2], [0,1]] [(tl 2 x16 ce_integer_Int), (TV.agg (ce_integer_Int next))] (TV.tup [(false, [(T.sl 2 (x18.1.map ce_integer_Int))]), (false, [(T.int .i64 x18.2)])])), oo, oo, oo, oo], .pre [.keep [2,3,11,12,13,14,16,17,20,21,27,32,33,39,153,154,155] [11,12,17,20,32,193]], .reg [oo, oo, .op (.lit (([x18.1] : List (List integer_Int)).map ce_Linteger_Int)), .appR (([x18.1] : List (List integer_Int)).map ce_Linteger_Int) ((r193 ++ ([x18.1] : List (List integer_Int))).map ce_Linteger_Int), oo], .reg [oo, oo], .pre [.rl 33 0 (r193 ++ ([x18.1] : List (List integer_Int))).length, .keep [2,3,11,12,13,14,16,17,20,21,27,32,33,153,154,155] [11,12,17,20,32,193]]] _ hn (by kernel_rfl) (aC h1 <| aC (gi_nn h3) <| aC (gi_at ce_Linteger_Int h3) <| aC (gi_nn h5) <| aC (gi_at ce_Lu32 h5) <| aC (modpoly_Mul_holds h7) <| aC (gi_nn h9) <| aC (gi_at ce_Lu32 h9) <| aC (modpoly_Divide_holds h11) <| aC (modpoly_Symmetric_holds h13) <| aC (unipoly_Scale_holds h15) <| aC (unipoly_Add_holds h17) <| aC (hensel_Reduce_holds h19) <| aC (by kernel_rfl : [(T.sl 2 (x18.1.map ce_integer_Int))] = (([x18.1] : List (List integer_Int)).map ce_Linteger_Int).flatten) <| aC (by simp : r193.length = (r193.map ce_Linteger_Int).length) <| aC (sn_map _ _ _ (by simp) : ((([x18.1] : List (List integer_Int)).map ce_Linteger_Int).drop 0).take 1 = ([x18.1] : List (List integer_Int)).map ce_Linteger_Int) <| aC (app_map _ _ _ : r193.map ce_Linteger_Int ++ ([x18.1] : List (List integer_Int)).map ce_Linteger_Int = (r193 ++ ([x18.1] : List (List integer_Int))).map ce_Linteger_Int) <| aC ((len_map _ _).symm ▸ h20 : ((r193 ++ ([x18.1] : List (List integer_Int))).map ce_Linteger_Int).length * 24 ≤ 140737488355328) <| aC ((len_map _ _).symm ▸ room (by decide) h20 : ((r193 ++ ([x18.1] : List (List integer_Int))).map ce_Linteger_Int).length ≤ maxLen) <| aC r0 <| aC (by simp : ((r193 ++ ([x18.1] : List (List integer_Int))).map ce_Linteger_Int).length = (r193 ++ ([x18.1] : List (List integer_Int))).length) <| aN) (ih _ _ h cx hn)
  · skip
    rcases bcases h with ⟨h2, h⟩ | ⟨h2, h⟩
    · skip
      exact wk_go (fuel := 84) [.go, .reg [oo], .br false, .reg [oo, oo, oo, .op (.ia 0), oo], .reg [oo, oo], .pre [.rlB 17 0 0 r193.length, .keep [2,3,11,12,13,14,16,17,20,21] [11,12,17,20,193]]] _ hn (by kernel_rfl) (aC h1 <| aC (of_decide_eq_true h2 : (Int.tmod step (2 : Int)) = ((0 : Nat) : Int)) <| aC r0 <| aC (lq r193) <| aN) (ih _ _ h cx hn)
    · skip
      rcases bcases h with ⟨h3, h⟩ | ⟨h3, h⟩
      · skip
        exact wk_go (fuel := 84) [.go, .reg [oo], .br false, .reg [oo, oo, oo, .op (.ia 1), oo], .reg [oo, oo], .pre [.rlB 17 1 0 r193.length, .keep [2,3,11,12,13,14,16,17,20,21] [11,12,17,20,193]]] _ hn (by kernel_rfl) (aC h1 <| aC (of_decide_eq_true h3 : (Int.tmod step (2 : Int)) = ((1 : Nat) : Int)) <| aC r0 <| aC (lq r193) <| aN) (ih _ _ h cx hn)
      · skip
        cases h

theorem hensel_Lift_c19 {K} (ih : hensel_Lift_H K) {cx} (hn : cx.n = 208) {base top pair power p k goal monic parts step} {r} (h : hensel_Lift_go (K + 1) (.c19 base top pair power p k goal monic parts step) = some r) : hensel_Lift_S cx (.c19 base top pair power p k goal monic parts step) r := by
  rw [hensel_Lift_go] at h
  exact wk_go (fuel := 44) [.reg [oo, oo, oo], .pre [.keep [2,3,11,12,13,14,16,17,20,21] [11,12,17,20]]] _ hn (by kernel_rfl) aN (ih _ _ h cx hn)

theorem hensel_Lift_c20 {K} (ih : hensel_Lift_H K) {cx} (hn : cx.n = 208) {base top pair power next r148 p k goal monic parts step t154 t155} {r} (h : hensel_Lift_go (K + 1) (.c20 base top pair power next r148 p k goal monic parts step t154 t155) = some r) : hensel_Lift_S cx (.c20 base top pair power next r148 p k goal monic parts step t154 t155) r := by
  rw [hensel_Lift_go] at h
  rcases bcases h with ⟨h1, h⟩ | ⟨h1, h⟩
  · skip
    cases h
  · skip
    rcases bcases h with ⟨h2, h⟩ | ⟨h2, h⟩
    · skip
      exact wk_go (fuel := 84) [.go, .reg [oo], .br false, .reg [oo, oo, oo, .op (.ia 0), oo], .reg [oo, oo], .pre [.keep [2,3,11,12,13,14,16,17,20,21] [11,12,17,20]]] _ hn (by kernel_rfl) (aC h1 <| aC (of_decide_eq_true h2 : (Int.tmod step (2 : Int)) = ((0 : Nat) : Int)) <| aN) (ih _ _ h cx hn)
    · skip
      rcases bcases h with ⟨h3, h⟩ | ⟨h3, h⟩
      · skip
        exact wk_go (fuel := 84) [.go, .reg [oo], .br false, .reg [oo, oo, oo, .op (.ia 1), oo], .reg [oo, oo], .pre [.keep [2,3,11,12,13,14,16,17,20,21] [11,12,17,20]]] _ hn (by kernel_rfl) (aC h1 <| aC (of_decide_eq_true h3 : (Int.tmod step (2 : Int)) = ((1 : Nat) : Int)) <| aN) (ih _ _ h cx hn)
      · skip
        cases h

theorem hensel_Lift_c21 {K} (ih : hensel_Lift_H K) {cx} (hn : cx.n = 208) {base top pair power next r193 p k goal monic parts step change t153 t154 t155} {r} (h : hensel_Lift_go (K + 1) (.c21 base top pair power next r193 p k goal monic parts step change t153 t154 t155) = some r) : hensel_Lift_S cx (.c21 base top pair power next r193 p k goal monic parts step change t153 t154 t155) r := by
  rw [hensel_Lift_go] at h
  rcases bcases h with ⟨h1, h⟩ | ⟨h1, h⟩
  · skip
    obtain ⟨x2, h3, h⟩ := obind h
    obtain ⟨x4, h5, h⟩ := obind h
    obtain ⟨x6, h7, h⟩ := obind h
    obtain ⟨x8, h9, h⟩ := obind h
    obtain ⟨x10, h11, h⟩ := obind h
    obtain ⟨x12, h13, h⟩ := obind h
    obtain ⟨x14, h15, h⟩ := obind h
    obtain ⟨x16, h17, h⟩ := obind h
    obtain ⟨x18, h19, h⟩ := obind h
    obtain ⟨h20, h⟩ := gd_some h
    exact wk_go (fuel := 114) [.go, .reg [oo], .br true, .reg [oo, .op (.ix (ce_Linteger_Int x2)), oo, oo, oo], .draw [.p, .p, .p, (.ix (ce_Lu32 x4)), .p, .p, (.call [[1], [1], [0]] [(tl 1 change ce_u32), (tl 1 x4 ce_u32), (ti .u32 p)] (tl 1 x6 ce_u32)), .p, .p, (.ix (ce_Lu32 x8)), .p, .p, (.call [[1], [1], [0]] [(tl 1 x6 ce_u32), (tl 1 x8 ce_u32), (ti .u32 p)] (TV.tup [(false, [(T.sl 1 (x10.1.map ce_u32))]), (false, [(T.sl 1 (x10.2.1.map ce_u32))]), (false, [(T.int .i64 x10.2.2)])])), .p, .p, .p, .p, .p, .p] [.op .p], .draw [.p, .p, .p, (.call [[1], [0]] [(TV.c (T.sl 1 (x10.2.1.map ce_u32))), (ti .u32 p)] (tl 2 x12 ce_integer_Int)), .p, (.call [[2], [0,1]] [(tl 2 x12 ce_integer_Int), (TV.agg (ce_integer_Int power))] (tl 2 x14 ce_integer_Int))] [.op (.call [[2], [2]] [(tl 2 x2 ce_integer_Int), (tl 2 x14 ce_integer_Int)] (tl 2 x16 ce_integer_Int)), .op .p], .reg [oo, oo, .op (.call [[2], [0,1]] [(tl 2 x16 ce_integer_Int), (TV.agg (ce_integer_Int next))] (TV.tup [(false, [(T.sl 2 (x18.1.map ce_integer_Int))]), (false, [(T.int .i64 x18.2)])])), oo, oo, oo, oo], .pre [.keep [2,3,11,12,13,14,16,17,20,21,27,32,33,39,153,154,155] [11,12,17,20,32,193]], .reg [oo, oo, .op (.lit (([x18.1] : List (List integer_Int)).map ce_Linteger_Int)), .appR (([x18.1] : List (List integer_Int)).map ce_Linteger_Int) ((r193 ++ ([x18.1] : List (List integer_Int))).map ce_Linteger_Int), oo], .reg [oo, oo], .pre [.rl 33 0 (r193 ++ ([x18.1] : List (List integer_Int))).length, .keep [2,3,11,12,13,14,16,17,20,21,27,32,33,153,154,155] [11,12,17,20,32,193]]] _ hn (by kernel_rfl) (aC h1 <| aC (gi_nn h3) <| aC (gi_at ce_Linteger_Int h3) <| aC (gi_nn h5) <| aC (gi_at ce_Lu32 h5) <| aC (modpoly_Mul_holds h7) <| aC (gi_nn h9) <| aC (gi_at ce_Lu32 h9) <| aC (modpoly_Divide_holds h11) <| aC (modpoly_Symmetric_holds h13) <| aC (unipoly_Scale_holds h15) <| aC (unipoly_Add_holds h17) <| aC (hensel_Reduce_holds h19) <| aC (by kernel_rfl : [(T.sl 2 (x18.1.map ce_integer_Int))] = (([x18.1] : List (List integer_Int)).map ce_Linteger_Int).flatten) <| aC (by simp : r193.length = (r193.map ce_Linteger_Int).length) <| aC (sn_map _ _ _ (by simp) : ((([x18.1] : List (List integer_Int)).map ce_Linteger_Int).drop 0).take 1 = ([x18.1] : List (List integer_Int)).map ce_Linteger_Int) <| aC (app_map _ _ _ : r193.map ce_Linteger_Int ++ ([x18.1] : List (List integer_Int)).map ce_Linteger_Int = (r193 ++ ([x18.1] : List (List integer_Int))).map ce_Linteger_Int) <| aC ((len_map _ _).symm ▸ h20 : ((r193 ++ ([x18.1] : List (List integer_Int))).map ce_Linteger_Int).length * 24 ≤ 140737488355328) <| aC ((len_map _ _).symm ▸ room (by decide) h20 : ((r193 ++ ([x18.1] : List (List integer_Int))).map ce_Linteger_Int).length ≤ maxLen) <| aC r0 <| aC (by simp : ((r193 ++ ([x18.1] : List (List integer_Int))).map ce_Linteger_Int).length = (r193 ++ ([x18.1] : List (List integer_Int))).length) <| aN) (ih _ _ h cx hn)
  · skip
    rcases bcases h with ⟨h2, h⟩ | ⟨h2, h⟩
    · skip
      exact wk_go (fuel := 84) [.go, .reg [oo], .br false, .reg [oo, oo, oo, .op (.ia 0), oo], .reg [oo, oo], .pre [.rlB 17 0 0 r193.length, .keep [2,3,11,12,13,14,16,17,20,21] [11,12,17,20,193]]] _ hn (by kernel_rfl) (aC h1 <| aC (of_decide_eq_true h2 : (Int.tmod step (2 : Int)) = ((0 : Nat) : Int)) <| aC r0 <| aC (lq r193) <| aN) (ih _ _ h cx hn)
    · skip
      rcases bcases h with ⟨h3, h⟩ | ⟨h3, h⟩
      · skip
        exact wk_go (fuel := 84) [.go, .reg [oo], .br false, .reg [oo, oo, oo, .op (.ia 1), oo], .reg [oo, oo], .pre [.rlB 17 1 0 r193.length, .keep [2,3,11,12,13,14,16,17,20,21] [11,12,17,20,193]]] _ hn (by kernel_rfl) (aC h1 <| aC (of_decide_eq_true h3 : (Int.tmod step (2 : Int)) = ((1 : Nat) : Int)) <| aC r0 <| aC (lq r193) <| aN) (ih _ _ h cx hn)
      · skip
        cases h

theorem hensel_Lift_c22 {K} (ih : hensel_Lift_H K) {cx} (hn : cx.n = 208) {base top power r193 p k goal monic parts step} {r} (h : hensel_Lift_go (K + 1) (.c22 base top power r193 p k goal monic parts step) = some r) : hensel_Lift_S cx (.c22 base top power r193 p k goal monic parts step) r := by
  rw [hensel_Lift_go] at h
  exact wk_go (fuel := 44) [.reg [oo, oo, oo], .pre [.snapC 17 0 (max 0 (0 + r193.length)) (r193.map ce_Linteger_Int)], .pre [.keep [2,3,11,12,13,14,16,17,20,21] [11,12,17,20]]] _ hn (by kernel_rfl) (aC (sn_map _ _ _ (by simp) : ((r193.map ce_Linteger_Int).drop 0).take r193.length = r193.map ce_Linteger_Int) <| aC (rfl : (max 0 (0 + r193.length)) = (max 0 (0 + r193.length))) <| aN) (ih _ _ h cx hn)

theorem hensel_Lift_c23 {K} (ih : hensel_Lift_H K) {cx} (hn : cx.n = 208) {base top pair power r193 p k goal monic parts step} {r} (h : hensel_Lift_go (K + 1) (.c23 base top pair power r193 p k goal monic parts step) = some r) : hensel_Lift_S cx (.c23 base top pair power r193 p k goal monic parts step) r := by
  rw [hensel_Lift_go] at h
  exact wk_go (fuel := 44) [.reg [oo, oo, oo], .pre [.snapC 17 1 (max 0 (0 + r193.length)) (r193.map ce_Linteger_Int)], .pre [.keep [2,3,11,12,13,14,16,17,20,21] [11,12,17,20]]] _ hn (by kernel_rfl) (aC (sn_map _ _ _ (by simp) : ((r193.map ce_Linteger_Int).drop 0).take r193.length = r193.map ce_Linteger_Int) <| aC (rfl : (max 0 (0 + r193.length)) = (max 0 (0 + r193.length))) <| aN) (ih _ _ h cx hn)

theorem hensel_Lift_c24 {K} (ih : hensel_Lift_H K) {cx} (hn : cx.n = 208) {base top pair power p k goal monic parts step} {r} (h : hensel_Lift_go (K + 1) (.c24 base top pair power p k goal monic parts step) = some r) : hensel_Lift_S cx (.c24 base top pair power p k goal monic parts step) r := by
  rw [hensel_Lift_go] at h
  rcases bcases h with ⟨h1, h⟩ | ⟨h1, h⟩
  · skip
    rcases bcases h with ⟨h2, h⟩ | ⟨h2, h⟩
    · skip
      have h := Option.some.inj h; subst h
      exact wk_ret (fuel := 106) [.go, .reg [oo, oo, oo, oo, .sb 106 true, oo, oo, oo, oo], .br true, .reg [oo, .op (.ln (monic.length : Int)), oo], .br true, .reg [oo, oo]] _ hn (by kernel_rfl) (aC h1 <| aC rt <| aC (ln_eq monic ce_Lu32) <| aC h2 <| aN)
    · skip
      rcases bcases h with ⟨h3, h⟩ | ⟨h3, h⟩
      · skip
        have h := Option.some.inj h; subst h
        exact wk_ret (fuel := 106) [.go, .reg [oo, oo, oo, oo, .sb 106 true, oo, oo, oo, oo], .br true, .reg [oo, .op (.ln (monic.length : Int)), oo], .br false, .reg [oo, oo, oo, .op (.ia 0), oo, oo, oo]] _ hn (by kernel_rfl) (aC h1 <| aC rt <| aC (ln_eq monic ce_Lu32) <| aC h2 <| aC (of_decide_eq_true h3 : (Int.tmod (IntKind.i64.wrap (k - (1 : Int))) (2 : Int)) = ((0 : Nat) : Int)) <| aN)
      · skip
        rcases bcases h with ⟨h4, h⟩ | ⟨h4, h⟩
        · skip
          have h := Option.some.inj h; subst h
          exact wk_ret (fuel := 106) [.go, .reg [oo, oo, oo, oo, .sb 106 true, oo, oo, oo, oo], .br true, .reg [oo, .op (.ln (monic.length : Int)), oo], .br false, .reg [oo, oo, oo, .op (.ia 1), oo, oo, oo]] _ hn (by kernel_rfl) (aC h1 <| aC rt <| aC (ln_eq monic ce_Lu32) <| aC h2 <| aC (of_decide_eq_true h4 : (Int.tmod (IntKind.i64.wrap (k - (1 : Int))) (2 : Int)) = ((1 : Nat) : Int)) <| aN)
        · skip
          cases h
  · skip
    rcases bcases h with ⟨h2, h⟩ | ⟨h2, h⟩
    · skip
      rcases bcases h with ⟨h3, h⟩ | ⟨h3, h⟩
      · skip
        have h := Option.some.inj h; subst h
        exact wk_ret (fuel := 106) [.go, .reg [oo, oo, oo, oo, .sb 106 false, oo, .op (.ln (monic.length : Int)), oo, oo], .br true, .reg [oo, .op (.ln (monic.length : Int)), oo], .br true, .reg [oo, oo]] _ hn (by kernel_rfl) (aC h1 <| aC (ln_eq monic ce_Lu32) <| aC h2 <| aC (ln_eq monic ce_Lu32) <| aC h3 <| aN)
      · skip
        rcases bcases h with ⟨h4, h⟩ | ⟨h4, h⟩
        · skip
          have h := Option.some.inj h; subst h
          exact wk_ret (fuel := 106) [.go, .reg [oo, oo, oo, oo, .sb 106 false, oo, .op (.ln (monic.length : Int)), oo, oo], .br true, .reg [oo, .op (.ln (monic.length : Int)), oo], .br false, .reg [oo, oo, oo, .op (.ia 0), oo, oo, oo]] _ hn (by kernel_rfl) (aC h1 <| aC (ln_eq monic ce_Lu32) <| aC h2 <| aC (ln_eq monic ce_Lu32) <| aC h3 <| aC (of_decide_eq_true h4 : (Int.tmod (IntKind.i64.wrap (k - (1 : Int))) (2 : Int)) = ((0 : Nat) : Int)) <| aN)
        · skip
          rcases bcases h with ⟨h5, h⟩ | ⟨h5, h⟩
          · skip
            have h := Option.some.inj h; subst h
            exact wk_ret (fuel := 106) [.go, .reg [oo, oo, oo, oo, .sb 106 false, oo, .op (.ln (monic.length : Int)), oo, oo], .br true, .reg [oo, .op (.ln (monic.length : Int)), oo], .br false, .reg [oo, oo, oo, .op (.ia 1), oo, oo, oo]] _ hn (by kernel_rfl) (aC h1 <| aC (ln_eq monic ce_Lu32) <| aC h2 <| aC (ln_eq monic ce_Lu32) <| aC h3 <| aC (of_decide_eq_true h5 : (Int.tmod (IntKind.i64.wrap (k - (1 : Int))) (2 : Int)) = ((1 : Nat) : Int)) <| aN)
          · skip
            cases h
    · skip
      rcases bcases h with ⟨h3, h⟩ | ⟨h3, h⟩
      · skip
        obtain ⟨x4, h5, h⟩ := obind h
        obtain ⟨x6, h7, h⟩ := obind h
        obtain ⟨x8, h9, h⟩ := obind h
        exact wk_go (fuel := 110) [.go, .reg [oo, oo, oo, oo, .sb 106 false, oo, .op (.ln (monic.length : Int)), oo, oo], .br false, .reg [oo, oo, oo, .op (.ia 0), oo, oo], .reg [oo, oo, .op (.call [[1], [0,1]] [(TV.c (T.sl 1 (pair.e0.map ce_Linteger_Int))), (TV.agg (ce_integer_Int top))] (TV.tup [(false, [(T.sl 2 (x4.1.map ce_integer_Int))]), (false, [(T.int .i64 x4.2)])])), oo, oo, oo, oo, oo], .draw [.p, .p, (.call [[2], [2]] [(tl 2 goal ce_integer_Int), (tl 2 x4.1 ce_integer_Int)] (tl 2 x6 ce_integer_Int)), .p, (.call [[2], [0,1]] [(tl 2 x6 ce_integer_Int), (TV.agg (ce_integer_Int top))] (TV.tup [(false, [(T.sl 2 (x8.1.map ce_integer_Int))]), (false, [(T.int .i64 x8.2)])])), .p, .p, .p, .p] [.op .p], .reg [.op .lit0, oo], .reg [oo, .op (.ln (x8.1.length : Int)), oo], .pre [.keep [2,3,11,12,13,14,16,17,20,21,22,27,131,132,133] [11,12,17,20]]] _ hn (by kernel_rfl) (aC h1 <| aC (ln_eq monic ce_Lu32) <| aC h2 <| aC (of_decide_eq_true h3 : (Int.tmod (IntKind.i64.wrap (step - (1 : Int))) (2 : Int)) = ((0 : Nat) : Int)) <| aC (hensel_Product_holds h5) <| aC (unipoly_Sub_holds h7) <| aC (hensel_Reduce_holds h9) <| aC (ln_eq x8.1 ce_integer_Int) <| aN) (ih _ _ h cx hn)
      · skip
        rcases bcases h with ⟨h4, h⟩ | ⟨h4, h⟩
        · skip
          obtain ⟨x5, h6, h⟩ := obind h
          obtain ⟨x7, h8, h⟩ := obind h
          obtain ⟨x9, h10, h⟩ := obind h
          exact wk_go (fuel := 110) [.go, .reg [oo, oo, oo, oo, .sb 106 false, oo, .op (.ln (monic.length : Int)), oo, oo], .br false, .reg [oo, oo, oo, .op (.ia 1), oo, oo], .reg [oo, oo, .op (.call [[1], [0,1]] [(TV.c (T.sl 1 (pair.e1.map ce_Linteger_Int))), (TV.agg (ce_integer_Int top))] (TV.tup [(false, [(T.sl 2 (x5.1.map ce_integer_Int))]), (false, [(T.int .i64 x5.2)])])), oo, oo, oo, oo, oo], .draw [.p, .p, (.call [[2], [2]] [(tl 2 goal ce_integer_Int), (tl 2 x5.1 ce_integer_Int)] (tl 2 x7 ce_integer_Int)), .p, (.call [[2], [0,1]] [(tl 2 x7 ce_integer_Int), (TV.agg (ce_integer_Int top))] (TV.tup [(false, [(T.sl 2 (x9.1.map ce_integer_Int))]), (false, [(T.int .i64 x9.2)])])), .p, .p, .p, .p] [.op .p], .reg [.op .lit0, oo], .reg [oo, .op (.ln (x9.1.length : Int)), oo], .pre [.keep [2,3,11,12,13,14,16,17,20,21,22,27,131,132,133] [11,12,17,20]]] _ hn (by kernel_rfl) (aC h1 <| aC (ln_eq monic ce_Lu32) <| aC h2 <| aC (of_decide_eq_true h4 : (Int.tmod (IntKind.i64.wrap (step - (1 : Int))) (2 : Int)) = ((1 : Nat) : Int)) <| aC (hensel_Product_holds h6) <| aC (unipoly_Sub_holds h8) <| aC (hensel_Reduce_holds h10) <| aC (ln_eq x9.1 ce_integer_Int) <| aN) (ih _ _ h cx hn)
        · skip
          cases h

theorem hensel_Lift_c25 {K} (ih : hensel_Lift_H K) {cx} (hn : cx.n = 208) {base top pair power p k goal monic parts step now t131 t132 t133} {r} (h : hensel_Lift_go (K + 1) (.c25 base top pair power p k goal monic parts step now t131 t132 t133) = some r) : hensel_Lift_S cx (.c25 base top pair power p k goal monic parts step now t131 t132 t133) r := by
  rw [hensel_Lift_go] at h
  rcases bcases h with ⟨h1, h⟩ | ⟨h1, h⟩
  · skip
    obtain ⟨x2, h3, h⟩ := obind h
    obtain ⟨x4, h5, h⟩ := obind h
    obtain ⟨x6, h7, h⟩ := obind h
    exact wk_go (fuel := 98) [.go, .reg [oo], .br true, .reg [.op (.ix (ce_integer_Int x2)), oo, oo, oo], .reg [oo, oo, .op (.call [[0,1], [0,1]] [(TV.agg (ce_integer_Int x2)), (TV.agg (ce_integer_Int power))] (TV.tup [(true, ce_integer_Int x4.1), (false, [(T.int .i64 x4.2)])])), oo, oo, oo, oo, oo, oo], .reg [oo, oo, oo, .op (.call [[0,1], [0]] [(TV.agg (ce_integer_Int x4.1)), (ti .u32 p)] (ti .u32 x6)), .op (.lit (([x6] : List Int).map ce_u32)), .op (.appN (([x6] : List Int).map ce_u32)), oo], .reg [oo, oo], .pre [.rl 27 0 ([x6] : List Int).length, .keep [2,3,11,12,13,14,16,17,20,21,22,27,131,132,133] [11,12,17,20,148]]] _ hn (by kernel_rfl) (aC h1 <| aC (gi_nn h3) <| aC (gi_at ce_integer_Int h3) <| aC (division_Exact_holds h5) <| aC (modular_Reduce_holds h7) <| aC (by kernel_rfl : [(T.int .u32 x6)] = (([x6] : List Int).map ce_u32).flatten) <| aC (sn_map _ _ _ (by simp) : ((([x6] : List Int).map ce_u32).drop 0).take 1 = ([x6] : List Int).map ce_u32) <| aC (by simp : 0 < (([x6] : List Int).map ce_u32).length) <| aC (by simp : (([x6] : List Int).map ce_u32).length * 4 ≤ 140737488355328) <| aC (by simp [maxLen] : (([x6] : List Int).map ce_u32).length ≤ maxLen) <| aC r0 <| aC (by simp : (([x6] : List Int).map ce_u32).length = ([x6] : List Int).length) <| aN) (ih _ _ h cx hn)
  · skip
    obtain ⟨x2, h3, h⟩ := obind h
    exact wk_go (fuel := 96) [.go, .reg [oo], .br false, .reg [oo, oo, .op (.call [[0,1], [0,1]] [(TV.agg (ce_integer_Int power)), (TV.agg (ce_integer_Int base))] (TV.agg (ce_integer_Int x2))), oo, oo], .reg [oo], .reg [oo, .op (.ln (now.length : Int)), oo], .pre [.keep [2,3,11,12,13,14,16,17,20,21,27,32,33,153,154,155] [11,12,17,20,32]]] _ hn (by kernel_rfl) (aC h1 <| aC (integer_Mul_holds h3) <| aC (ln_eq now ce_Linteger_Int) <| aN) (ih _ _ h cx hn)

theorem hensel_Lift_c26 {K} (ih : hensel_Lift_H K) {cx} (hn : cx.n = 208) {base top pair power r148 p k goal monic parts step now t131 t132 t133} {r} (h : hensel_Lift_go (K + 1) (.c26 base top pair power r148 p k goal monic parts step now t131 t132 t133) = some r) : hensel_Lift_S cx (.c26 base top pair power r148 p k goal monic parts step now t131 t132 t133) r := by
  rw [hensel_Lift_go] at h
  rcases bcases h with ⟨h1, h⟩ | ⟨h1, h⟩
  · skip
    obtain ⟨x2, h3, h⟩ := obind h
    obtain ⟨x4, h5, h⟩ := obind h
    obtain ⟨x6, h7, h⟩ := obind h
    obtain ⟨h8, h⟩ := gd_some h
    exact wk_go (fuel := 98) [.go, .reg [oo], .br true, .reg [.op (.ix (ce_integer_Int x2)), oo, oo, oo], .reg [oo, oo, .op (.call [[0,1], [0,1]] [(TV.agg (ce_integer_Int x2)), (TV.agg (ce_integer_Int power))] (TV.tup [(true, ce_integer_Int x4.1), (false, [(T.int .i64 x4.2)])])), oo, oo, oo, oo, oo, oo], .pre [.keep [2,3,11,12,13,14,16,17,20,21,22,27,30,131,132,133] [11,12,17,20,30,148]], .reg [oo, oo, oo, .op (.call [[0,1], [0]] [(TV.agg (ce_integer_Int x4.1)), (ti .u32 p)] (ti .u32 x6)), .op (.lit (([x6] : List Int).map ce_u32)), .appR (([x6] : List Int).map ce_u32) ((r148 ++ ([x6] : List Int)).map ce_u32), oo], .reg [oo, oo], .pre [.rl 27 0 (r148 ++ ([x6] : List Int)).length, .keep [2,3,11,12,13,14,16,17,20,21,22,27,131,132,133] [11,12,17,20,148]]] _ hn (by kernel_rfl) (aC h1 <| aC (gi_nn h3) <| aC (gi_at ce_integer_Int h3) <| aC (division_Exact_holds h5) <| aC (modular_Reduce_holds h7) <| aC (by kernel_rfl : [(T.int .u32 x6)] = (([x6] : List Int).map ce_u32).flatten) <| aC (by simp : r148.length = (r148.map ce_u32).length) <| aC (sn_map _ _ _ (by simp) : ((([x6] : List Int).map ce_u32).drop 0).take 1 = ([x6] : List Int).map ce_u32) <| aC (app_map _ _ _ : r148.map ce_u32 ++ ([x6] : List Int).map ce_u32 = (r148 ++ ([x6] : List Int)).map ce_u32) <| aC ((len_map _ _).symm ▸ h8 : ((r148 ++ ([x6] : List Int)).map ce_u32).length * 4 ≤ 140737488355328) <| aC ((len_map _ _).symm ▸ room (by decide) h8 : ((r148 ++ ([x6] : List Int)).map ce_u32).length ≤ maxLen) <| aC r0 <| aC (by simp : ((r148 ++ ([x6] : List Int)).map ce_u32).length = (r148 ++ ([x6] : List Int)).length) <| aN) (ih _ _ h cx hn)
  · skip
    obtain ⟨x2, h3, h⟩ := obind h
    exact wk_go (fuel := 96) [.go, .reg [oo], .br false, .reg [oo, oo, .op (.call [[0,1], [0,1]] [(TV.agg (ce_integer_Int power)), (TV.agg (ce_integer_Int base))] (TV.agg (ce_integer_Int x2))), oo, oo], .reg [oo], .reg [oo, .op (.ln (now.length : Int)), oo], .pre [.rl 27 0 r148.length, .keep [2,3,11,12,13,14,16,17,20,21,27,32,33,153,154,155] [11,12,17,20,32,148]]] _ hn (by kernel_rfl) (aC h1 <| aC (integer_Mul_holds h3) <| aC (ln_eq now ce_Linteger_Int) <| aC r0 <| aC (lq r148) <| aN) (ih _ _ h cx hn)

theorem hensel_Lift_c27 {K} (ih : hensel_Lift_H K) {cx} (hn : cx.n = 208) {base top pair power next p k goal monic parts step t153 t154 t155} {r} (h : hensel_Lift_go (K + 1) (.c27 base top pair power next p k goal monic parts step t153 t154 t155) = some r) : hensel_Lift_S cx (.c27 base top pair power next p k goal monic parts step t153 t154 t155) r := by
  rw [hensel_Lift_go] at h
  rcases bcases h with ⟨h1, h⟩ | ⟨h1, h⟩
  · skip
    obtain ⟨x2, h3, h⟩ := obind h
    obtain ⟨x4, h5, h⟩ := obind h
    obtain ⟨x6, h7, h⟩ := obind h
    obtain ⟨x8, h9, h⟩ := obind h
    obtain ⟨x10, h11, h⟩ := obind h
    obtain ⟨x12, h13, h⟩ := obind h
    obtain ⟨x14, h15, h⟩ := obind h
    obtain ⟨x16, h17, h⟩ := obind h
    obtain ⟨x18, h19, h⟩ := obind h
    exact wk_go (fuel := 114) [.go, .reg [oo], .br true, .reg [oo, .op (.ix (ce_Linteger_Int x2)), oo, oo, oo], .draw [.p, .p, .p, (.ix (ce_Lu32 x4)), .p, .p, (.call [[1], [1], [0]] [(TV.c (T.sl 1 ([].map ce_u32))), (tl 1 x4 ce_u32), (ti .u32 p)] (tl 1 x6 ce_u32)), .p, .p, (.ix (ce_Lu32 x8)), .p, .p, (.call [[1], [1], [0]] [(tl 1 x6 ce_u32), (tl 1 x8 ce_u32), (ti .u32 p)] (TV.tup [(false, [(T.sl 1 (x10.1.map ce_u32))]), (false, [(T.sl 1 (x10.2.1.map ce_u32))]), (false, [(T.int .i64 x10.2.2)])])), .p, .p, .p, .p, .p, .p] [.op .p], .draw [.p, .p, .p, (.call [[1], [0]] [(TV.c (T.sl 1 (x10.2.1.map ce_u32))), (ti .u32 p)] (tl 2 x12 ce_integer_Int)), .p, (.call [[2], [0,1]] [(tl 2 x12 ce_integer_Int), (TV.agg (ce_integer_Int power))] (tl 2 x14 ce_integer_Int))] [.op (.call [[2], [2]] [(tl 2 x2 ce_integer_Int), (tl 2 x14 ce_integer_Int)] (tl 2 x16 ce_integer_Int)), .op .p], .reg [oo, oo, .op (.call [[2], [0,1]] [(tl 2 x16 ce_integer_Int), (TV.agg (ce_integer_Int next))] (TV.tup [(false, [(T.sl 2 (x18.1.map ce_integer_Int))]), (false, [(T.int .i64 x18.2)])])), oo, oo, oo, oo], .reg [oo, oo, .op (.lit (([x18.1] : List (List integer_Int)).map ce_Linteger_Int)), .op (.appN (([x18.1] : List (List integer_Int)).map ce_Linteger_Int)), oo], .reg [oo, oo], .pre [.rl 33 0 ([x18.1] : List (List integer_Int)).length, .keep [2,3,11,12,13,14,16,17,20,21,27,32,33,153,154,155] [11,12,17,20,32,193]]] _ hn (by kernel_rfl) (aC h1 <| aC (gi_nn h3) <| aC (gi_at ce_Linteger_Int h3) <| aC (gi_nn h5) <| aC (gi_at ce_Lu32 h5) <| aC (modpoly_Mul_holds h7) <| aC (gi_nn h9) <| aC (gi_at ce_Lu32 h9) <| aC (modpoly_Divide_holds h11) <| aC (modpoly_Symmetric_holds h13) <| aC (unipoly_Scale_holds h15) <| aC (unipoly_Add_holds h17) <| aC (hensel_Reduce_holds h19) <| aC (by kernel_rfl : [(T.sl 2 (x18.1.map ce_integer_Int))] = (([x18.1] : List (List integer_Int)).map ce_Linteger_Int).flatten) <| aC (sn_map _ _ _ (by simp) : ((([x18.1] : List (List integer_Int)).map ce_Linteger_Int).drop 0).take 1 = ([x18.1] : List (List integer_Int)).map ce_Linteger_Int) <| aC (by simp : 0 < (([x18.1] : List (List integer_Int)).map ce_Linteger_Int).length) <| aC (by simp : (([x18.1] : List (List integer_Int)).map ce_Linteger_Int).length * 24 ≤ 140737488355328) <| aC (by simp [maxLen] : (([x18.1] : List (List integer_Int)).map ce_Linteger_Int).length ≤ maxLen) <| aC r0 <| aC (by simp : (([x18.1] : List (List integer_Int)).map ce_Linteger_Int).length = ([x18.1] : List (List integer_Int)).length) <| aN) (ih _ _ h cx hn)
  · skip
    rcases bcases h with ⟨h2, h⟩ | ⟨h2, h⟩
    · skip
      exact wk_go (fuel := 84) [.go, .reg [oo], .br false, .reg [oo, oo, oo, .op (.ia 0), oo], .reg [oo, oo], .pre [.keep [2,3,11,12,13,14,16,17,20,21] [11,12,17,20]]] _ hn (by kernel_rfl) (aC h1 <| aC (of_decide_eq_true h2 : (Int.tmod step (2 : Int)) = ((0 : Nat) : Int)) <| aN) (ih _ _ h cx hn)
    · skip
      rcases bcases h with ⟨h3, h⟩ | ⟨h3, h⟩
      · skip
        exact wk_go (fuel := 84) [.go, .reg [oo], .br false, .reg [oo, oo, oo, .op (.ia 1), oo], .reg [oo, oo], .pre [.keep [2,3,11,12,13,14,16,17,20,21] [11,12,17,20]]] _ hn (by kernel_rfl) (aC h1 <| aC (of_decide_eq_true h3 : (Int.tmod step (2 : Int)) = ((1 : Nat) : Int)) <| aN) (ih _ _ h cx hn)
      · skip
        cases h

theorem hensel_Lift_c28 {K} (ih : hensel_Lift_H K) {cx} (hn : cx.n = 208) {base top pair power next r148 p k goal monic parts step t153 t154 t155} {r} (h : hensel_Lift_go (K + 1) (.c28 base top pair power next r148 p k goal monic parts step t153 t154 t155) = some r) : hensel_Lift_S cx (.c28 base top pair power next r148 p k goal monic parts step t153 t154 t155) r := by
  rw [hensel_Lift_go] at h
  rcases bcases h with ⟨h1, h⟩ | ⟨h1, h⟩
  · skip
    obtain ⟨x2, h3, h⟩ := obind h
    obtain ⟨x4, h5, h⟩ := obind h
    obtain ⟨x6, h7, h⟩ := obind h
    obtain ⟨x8, h9, h⟩ := obind h
    obtain ⟨x10, h11, h⟩ := obind h
    obtain ⟨x12, h13, h⟩ := obind h
    obtain ⟨x14, h15, h⟩ := obind h
    obtain ⟨x16, h17, h⟩ := obind h
    obtain ⟨x18, h19, h⟩ := obind h
    exact wk_go (fuel := 114) [.go, .reg [oo], .br true, .reg [oo, .op (.ix (ce_Linteger_Int x2)), oo, oo, oo], .pre [.snap 27 (max 0 (0 + r148.length)) (r148.map ce_u32)], .draw [.p, .p, .p, (.ix (ce_Lu32 x4)), .p, .p, (.call [[1], [1], [0]] [(tl 1 r148 ce_u32), (tl 1 x4 ce_u32), (ti .u32 p)] (tl 1 x6 ce_u32)), .p, .p, (.ix (ce_Lu32 x8)), .p, .p, (.call [[1], [1], [0]] [(tl 1 x6 ce_u32), (tl 1 x8 ce_u32), (ti .u32 p)] (TV.tup [(false, [(T.sl 1 (x10.1.map ce_u32))]), (false, [(T.sl 1 (x10.2.1.map ce_u32))]), (false, [(T.int .i64 x10.2.2)])])), .p, .p, .p, .p, .p, .p] [.op .p], .draw [.p, .p, .p, (.call [[1], [0]] [(TV.c (T.sl 1 (x10.2.1.map ce_u32))), (ti .u32 p)] (tl 2 x12 ce_integer_Int)), .p, (.call [[2], [0,1]] [(tl 2 x12 ce_integer_Int), (TV.agg (ce_integer_Int power))] (tl 2 x14 ce_integer_Int))] [.op (.call [[2], [2]] [(tl 2 x2 ce_integer_Int), (tl 2 x14 ce_integer_Int)] (tl 2 x16 ce_integer_Int)), .op .p], .reg [oo, oo, .op (.call [[2], [0,1]] [(tl 2 x16 ce_integer_Int), (TV.agg (ce_integer_Int next))] (TV.tup [(false, [(T.sl 2 (x18.1.map ce_integer_Int))]), (false, [(T.int .i64 x18.2)])])), oo, oo, oo, oo], .reg [oo, oo, .op (.lit (([x18.1] : List (List integer_Int)).map ce_Linteger_Int)), .op (.appN (([x18.1] : List (List integer_Int)).map ce_Linteger_Int)), oo], .reg [oo, oo], .pre [.rl 33 0 ([x18.1] : List (List integer_Int)).length, .keep [2,3,11,12,13,14,16,17,20,21,27,32,33,153,154,155] [11,12,17,20,32,193]]] _ hn (by kernel_rfl) (aC h1 <| aC (gi_nn h3) <| aC (gi_at ce_Linteger_Int h3) <| aC (sn_map _ _ _ (by simp) : ((r148.map ce_u32).drop 0).take r148.length = r148.map ce_u32) <| aC (rfl : (max 0 (0 + r148.length)) = (max 0 (0 + r148.length))) <| aC (gi_nn h5) <| aC (gi_at ce_Lu32 h5) <| aC (modpoly_Mul_holds h7) <| aC (gi_nn h9) <| aC (gi_at ce_Lu32 h9) <| aC (modpoly_Divide_holds h11) <| aC (modpoly_Symmetric_holds h13) <| aC (unipoly_Scale_holds h15) <| aC (unipoly_Add_holds h17) <| aC (hensel_Reduce_holds h19) <| aC (by kernel_rfl : [(T.sl 2 (x18.1.map ce_integer_Int))] = (([x18.1] : List (List integer_Int)).map ce_Linteger_Int).flatten) <| aC (sn_map _ _ _ (by simp) : ((([x18.1] : List (List integer_Int)).map ce_Linteger_Int).drop 0).take 1 = ([x18.1] : List (List integer_Int)).map ce_Linteger_Int) <| aC (by simp : 0 < (([x18.1] : List (List integer_Int)).map ce_Linteger_Int).length) <| aC (by simp : (([x18.1] : List (List integer_Int)).map ce_Linteger_Int).length * 24 ≤ 140737488355328) <| aC (by simp [maxLen] : (([x18.1] : List (List integer_Int)).map ce_Linteger_Int).length ≤ maxLen) <| aC r0 <| aC (by simp : (([x18.1] : List (List integer_Int)).map ce_Linteger_Int).length = ([x18.1] : List (List integer_Int)).length) <| aN) (ih _ _ h cx hn)
  · skip
    rcases bcases h with ⟨h2, h⟩ | ⟨h2, h⟩
    · skip
      exact wk_go (fuel := 84) [.go, .reg [oo], .br false, .reg [oo, oo, oo, .op (.ia 0), oo], .reg [oo, oo], .pre [.keep [2,3,11,12,13,14,16,17,20,21] [11,12,17,20]]] _ hn (by kernel_rfl) (aC h1 <| aC (of_decide_eq_true h2 : (Int.tmod step (2 : Int)) = ((0 : Nat) : Int)) <| aN) (ih _ _ h cx hn)
    · skip
      rcases bcases h with ⟨h3, h⟩ | ⟨h3, h⟩
      · skip
        exact wk_go (fuel := 84) [.go, .reg [oo], .br false, .reg [oo, oo, oo, .op (.ia 1), oo], .reg [oo, oo], .pre [.keep [2,3,11,12,13,14,16,17,20,21] [11,12,17,20]]] _ hn (by kernel_rfl) (aC h1 <| aC (of_decide_eq_true h3 : (Int.tmod step (2 : Int)) = ((1 : Nat) : Int)) <| aN) (ih _ _ h cx hn)
      · skip
        cases h

theorem hensel_Lift_c29 {K} (ih : hensel_Lift_H K) {cx} (hn : cx.n = 208) {base top pair power next r193 p k goal monic parts step t153 t154 t155} {r} (h : hensel_Lift_go (K + 1) (.c29 base top pair power next r193 p k goal monic parts step t153 t154 t155) = some r) : hensel_Lift_S cx (.c29 base top pair power next r193 p k goal monic parts step t153 t154 t155) r := by
  rw [hensel_Lift_go] at h
  rcases bcases h with ⟨h1, h⟩ | ⟨h1, h⟩
  · skip
    obtain ⟨x2, h3, h⟩ := obind h
    obtain ⟨x4, h5, h⟩ := obind h
    obtain ⟨x6, h7, h⟩ := obind h
    obtain ⟨x8, h9, h⟩ := obind h
    obtain ⟨x10, h11, h⟩ := obind h
    obtain ⟨x12, h13, h⟩ := obind h
    obtain ⟨x14, h15, h⟩ := obind h
    obtain ⟨x16, h17, h⟩ := obind h
    obtain ⟨x18, h19, h⟩ := obind h
    obtain ⟨h20, h⟩ := gd_some h
    exact wk_go (fuel := 114) [.go, .reg [oo], .br true, .reg [oo, .op (.ix (ce_Linteger_Int x2)), oo, oo, oo], .draw [.p, .p, .p, (.ix (ce_Lu32 x4)), .p, .p, (.call [[1], [1], [0]] [(TV.c (T.sl 1 ([].map ce_u32))), (tl 1 x4 ce_u32), (ti .u32 p)] (tl 1 x6 ce_u32)), .p, .p, (.ix (ce_Lu32 x8)), .p, .p, (.call [[1], [1], [0]] [(tl 1 x6 ce_u32), (tl 1 x8 ce_u32), (ti .u32 p)] (TV.tup [(false, [(T.sl 1 (x10.1.map ce_u32))]), (false, [(T.sl 1 (x10.2.1.map ce_u32))]), (false, [(T.int .i64 x10.2.2)])])), .p, .p, .p, .p, .p, .p] [.op .p], .draw [.p, .p, .p, (.call [[1], [0]] [(TV.c (T.sl 1 (x10.2.1.map ce_u32))), (ti .u32 p)] (tl 2 x12 ce_integer_Int)), .p, (.call [[2], [0,1]] [(tl 2 x12 ce_integer_Int), (TV.agg (ce_integer_Int power))] (tl 2 x14 ce_integer_Int))] [.op (.call [[2], [2]] [(tl 2 x2 ce_integer_Int), (tl 2 x14 ce_integer_Int)] (tl 2 x16 ce_integer_Int)), .op .p], .reg [oo, oo, .op (.call [[2], [0,1]] [(tl 2 x16 ce_integer_Int), (TV.agg (ce_integer_Int next))] (TV.tup [(false, [(T.sl 2 (x18.1.map ce_integer_Int))]), (false, [(T.int .i64 x18.2)])])), oo, oo, oo, oo], .pre [.keep [2,3,11,12,13,14,16,17,20,21,27,32,33,39,153,154,155] [11,12,17,20,32,193]], .reg [oo, oo, .op (.lit (([x18.1] : List (List integer_Int)).map ce_Linteger_Int)), .appR (([x18.1] : List (List integer_Int)).map ce_Linteger_Int) ((r193 ++ ([x18.1] : List (List integer_Int))).map ce_Linteger_Int), oo], .reg [oo, oo], .pre [.rl 33 0 (r193 ++ ([x18.1] : List (List integer_Int))).length, .keep [2,3,11,12,13,14,16,17,20,21,27,32,33,153,154,155] [11,12,17,20,32,193]]] _ hn (by kernel_rfl) (aC h1 <| aC (gi_nn h3) <| aC (gi_at ce_Linteger_Int h3) <| aC (gi_nn h5) <| aC (gi_at ce_Lu32 h5) <| aC (modpoly_Mul_holds h7) <| aC (gi_nn h9) <| aC (gi_at ce_Lu32 h9) <| aC (modpoly_Divide_holds h11) <| aC (modpoly_Symmetric_holds h13) <| aC (unipoly_Scale_holds h15) <| aC (unipoly_Add_holds h17) <| aC (hensel_Reduce_holds h19) <| aC (by kernel_rfl : [(T.sl 2 (x18.1.map ce_integer_Int))] = (([x18.1] : List (List integer_Int)).map ce_Linteger_Int).flatten) <| aC (by simp : r193.length = (r193.map ce_Linteger_Int).length) <| aC (sn_map _ _ _ (by simp) : ((([x18.1] : List (List integer_Int)).map ce_Linteger_Int).drop 0).take 1 = ([x18.1] : List (List integer_Int)).map ce_Linteger_Int) <| aC (app_map _ _ _ : r193.map ce_Linteger_Int ++ ([x18.1] : List (List integer_Int)).map ce_Linteger_Int = (r193 ++ ([x18.1] : List (List integer_Int))).map ce_Linteger_Int) <| aC ((len_map _ _).symm ▸ h20 : ((r193 ++ ([x18.1] : List (List integer_Int))).map ce_Linteger_Int).length * 24 ≤ 140737488355328) <| aC ((len_map _ _).symm ▸ room (by decide) h20 : ((r193 ++ ([x18.1] : List (List integer_Int))).map ce_Linteger_Int).length ≤ maxLen) <| aC r0 <| aC (by simp : ((r193 ++ ([x18.1] : List (List integer_Int))).map ce_Linteger_Int).length = (r193 ++ ([x18.1] : List (List integer_Int))).length) <| aN) (ih _ _ h cx hn)
  · skip
    rcases bcases h with ⟨h2, h⟩ | ⟨h2, h⟩
    · skip
      exact wk_go (fuel := 84) [.go, .reg [oo], .br false, .reg [oo, oo, oo, .op (.ia 0), oo], .reg [oo, oo], .pre [.rlB 17 0 0 r193.length, .keep [2,3,11,12,13,14,16,17,20,21] [11,12,17,20,193]]] _ hn (by kernel_rfl) (aC h1 <| aC (of_decide_eq_true h2 : (Int.tmod step (2 : Int)) = ((0 : Nat) : Int)) <| aC r0 <| aC (lq r193) <| aN) (ih _ _ h cx hn)
    · skip
      rcases bcases h with ⟨h3, h⟩ | ⟨h3, h⟩
      · skip
        exact wk_go (fuel := 84) [.go, .reg [oo], .br false, .reg [oo, oo, oo, .op (.ia 1), oo], .reg [oo, oo], .pre [.rlB 17 1 0 r193.length, .keep [2,3,11,12,13,14,16,17,20,21] [11,12,17,20,193]]] _ hn (by kernel_rfl) (aC h1 <| aC (of_decide_eq_true h3 : (Int.tmod step (2 : Int)) = ((1 : Nat) : Int)) <| aC r0 <| aC (lq r193) <| aN) (ih _ _ h cx hn)
      · skip
        cases h

theorem hensel_Lift_c30 {K} (ih : hensel_Lift_H K) {cx} (hn : cx.n = 208) {base top pair power p k goal monic parts step} {r} (h : hensel_Lift_go (K + 1) (.c30 base top pair power p k goal monic parts step) = some r) : hensel_Lift_S cx (.c30 base top pair power p k goal monic parts step) r := by
  rw [hensel_Lift_go] at h
  exact wk_go (fuel := 44) [.reg [oo, oo, oo], .pre [.keep [2,3,11,12,13,14,16,17,20,21] [11,12,17,20]]] _ hn (by kernel_rfl) aN (ih _ _ h cx hn)

theorem hensel_Lift_c31 {K} (ih : hensel_Lift_H K) {cx} (hn : cx.n = 208) {base top pair power next r193 p k goal monic parts step change t153 t154 t155} {r} (h : hensel_Lift_go (K + 1) (.c31 base top pair power next r193 p k goal monic parts step change t153 t154 t155) = some r) : hensel_Lift_S cx (.c31 base top pair power next r193 p k goal monic parts step change t153 t154 t155) r := by
  rw [hensel_Lift_go] at h
  rcases bcases h with ⟨h1, h⟩ | ⟨h1, h⟩
  · skip
    obtain ⟨x2, h3, h⟩ := obind h
    obtain ⟨x4, h5, h⟩ := obind h
    obtain ⟨x6, h7, h⟩ := obind h
    obtain ⟨x8, h9, h⟩ := obind h
    obtain ⟨x10, h11, h⟩ := obind h
    obtain ⟨x12, h13, h⟩ := obind h
    obtain ⟨x14, h15, h⟩ := obind h
    obtain ⟨x16, h17, h⟩ := obind h
    obtain ⟨x18, h19, h⟩ := obind h
    obtain ⟨h20, h⟩ := gd_some h
    exact wk_go (fuel := 114) [.go, .reg [oo], .br true, .reg [oo, .op (.ix (ce_Linteger_Int x2)), oo, oo, oo], .draw [.p, .p, .p, (.ix (ce_Lu32 x4)), .p, .p, (.call [[1], [1], [0]] [(tl 1 change ce_u32), (tl 1 x4 ce_u32), (ti .u32 p)] (tl 1 x6 ce_u32)), .p, .p, (.ix (ce_Lu32 x8)), .p, .p, (.call [[1], [1], [0]] [(tl 1 x6 ce_u32), (tl 1 x8 ce_u32), (ti .u32 p)] (TV.tup [(false, [(T.sl 1 (x10.1.map ce_u32))]), (false, [(T.sl 1 (x10.2.1.map ce_u32))]), (false, [(T.int .i64 x10.2.2)])])), .p, .p, .p, .p, .p, .p] [.op .p], .draw [.p, .p, .p, (.call [[1], [0]] [(TV.c (T.sl 1 (x10.2.1.map ce_u32))), (ti .u32 p)] (tl 2 x12 ce_integer_Int)), .p, (.call [[2], [0,1]] [(tl 2 x12 ce_integer_Int), (TV.agg (ce_integer_Int power))] (tl 2 x14 ce_integer_Int))] [.op (.call [[2], [2]] [(tl 2 x2 ce_integer_Int), (tl 2 x14 ce_integer_Int)] (tl 2 x16 ce_integer_Int)), .op .p], .reg [oo, oo, .op (.call [[2], [0,1]] [(tl 2 x16 ce_integer_Int), (TV.agg (ce_integer_Int next))] (TV.tup [(false, [(T.sl 2 (x18.1.map ce_integer_Int))]), (false, [(T.int .i64 x18.2)])])), oo, oo, oo, oo], .pre [.keep [2,3,11,12,13,14,16,17,20,21,27,32,33,39,153,154,155] [11,12,17,20,32,193]], .reg [oo, oo, .op (.lit (([x18.1] : List (List integer_Int)).map ce_Linteger_Int)), .appR (([x18.1] : List (List integer_Int)).map ce_Linteger_Int) ((r193 ++ ([x18.1] : List (List integer_Int))).map ce_Linteger_Int), oo], .reg [oo, oo], .pre [.rl 33 0 (r193 ++ ([x18.1] : List (List integer_Int))).length, .keep [2,3,11,12,13,14,16,17,20,21,27,32,33,153,154,155] [11,12,17,20,32,193]]] _ hn (by kernel_rfl) (aC h1 <| aC (gi_nn h3) <| aC (gi_at ce_Linteger_Int h3) <| aC (gi_nn h5) <| aC (gi_at ce_Lu32 h5) <| aC (modpoly_Mul_holds h7) <| aC (gi_nn h9) <| aC (gi_at ce_Lu32 h9) <| aC (modpoly_Divide_holds h11) <| aC (modpoly_Symmetric_holds h13) <| aC (unipoly_Scale_holds h15) <| aC (unipoly_Add_holds h17) <| aC (hensel_Reduce_holds h19) <| aC (by kernel_rfl : [(T.sl 2 (x18.1.map ce_integer_Int))] = (([x18.1] : List (List integer_Int)).map ce_Linteger_Int).flatten) <| aC (by simp : r193.length = (r193.map ce_Linteger_Int).length) <| aC (sn_map _ _ _ (by simp) : ((([x18.1] : List (List integer_Int)).map ce_Linteger_Int).drop 0).take 1 = ([x18.1] : List (List integer_Int)).map ce_Linteger_Int) <| aC (app_map _ _ _ : r193.map ce_Linteger_Int ++ ([x18.1] : List (List integer_Int)).map ce_Linteger_Int = (r193 ++ ([x18.1] : List (List integer_Int))).map ce_Linteger_Int) <| aC ((len_map _ _).symm ▸ h20 : ((r193 ++ ([x18.1] : List (List integer_Int))).map ce_Linteger_Int).length * 24 ≤ 140737488355328) <| aC ((len_map _ _).symm ▸ room (by decide) h20 : ((r193 ++ ([x18.1] : List (List integer_Int))).map ce_Linteger_Int).length ≤ maxLen) <| aC r0 <| aC (by simp : ((r193 ++ ([x18.1] : List (List integer_Int))).map ce_Linteger_Int).length = (r193 ++ ([x18.1] : List (List integer_Int))).length) <| aN) (ih _ _ h cx hn)
  · skip
    rcases bcases h with ⟨h2, h⟩ | ⟨h2, h⟩
    · skip
      exact wk_go (fuel := 84) [.go, .reg [oo], .br false, .reg [oo, oo, oo, .op (.ia 0), oo], .reg [oo, oo], .pre [.rlB 17 0 0 r193.length, .keep [2,3,11,12,13,14,16,17,20,21] [11,12,17,20,193]]] _ hn (by kernel_rfl) (aC h1 <| aC (of_decide_eq_true h2 : (Int.tmod step (2 : Int)) = ((0 : Nat) : Int)) <| aC r0 <| aC (lq r193) <| aN) (ih _ _ h cx hn)
    · skip
      rcases bcases h with ⟨h3, h⟩ | ⟨h3, h⟩
      · skip
        exact wk_go (fuel := 84) [.go, .reg [oo], .br false, .reg [oo, oo, oo, .op (.ia 1), oo], .reg [oo, oo], .pre [.rlB 17 1 0 r193.length, .keep [2,3,11,12,13,14,16,17,20,21] [11,12,17,20,193]]] _ hn (by kernel_rfl) (aC h1 <| aC (of_decide_eq_true h3 : (Int.tmod step (2 : Int)) = ((1 : Nat) : Int)) <| aC r0 <| aC (lq r193) <| aN) (ih _ _ h cx hn)
      · skip
        cases h

theorem hensel_Lift_c32 {K} (ih : hensel_Lift_H K) {cx} (hn : cx.n = 208) {base top pair power r193 p k goal monic parts step} {r} (h : hensel_Lift_go (K + 1) (.c32 base top pair power r193 p k goal monic parts step) = some r) : hensel_Lift_S cx (.c32 base top pair power r193 p k goal monic parts step) r := by
  rw [hensel_Lift_go] at h
  exact wk_go (fuel := 44) [.reg [oo, oo, oo], .pre [.snapC 17 0 (max 0 (0 + r193.length)) (r193.map ce_Linteger_Int)], .pre [.keep [2,3,11,12,13,14,16,17,20,21] [11,12,17,20]]] _ hn (by kernel_rfl) (aC (sn_map _ _ _ (by simp) : ((r193.map ce_Linteger_Int).drop 0).take r193.length = r193.map ce_Linteger_Int) <| aC (rfl : (max 0 (0 + r193.length)) = (max 0 (0 + r193.length))) <| aN) (ih _ _ h cx hn)

theorem hensel_Lift_c33 {K} (ih : hensel_Lift_H K) {cx} (hn : cx.n = 208) {base top pair power p k goal monic parts step} {r} (h : hensel_Lift_go (K + 1) (.c33 base top pair power p k goal monic parts step) = some r) : hensel_Lift_S cx (.c33 base top pair power p k goal monic parts step) r := by
  rw [hensel_Lift_go] at h
  rcases bcases h with ⟨h1, h⟩ | ⟨h1, h⟩
  · skip
    rcases bcases h with ⟨h2, h⟩ | ⟨h2, h⟩
    · skip
      have h := Option.some.inj h; subst h
      exact wk_ret (fuel := 106) [.go, .reg [oo, oo, oo, oo, .sb 106 true, oo, oo, oo, oo], .br true, .reg [oo, .op (.ln (monic.length : Int)), oo], .br true, .reg [oo, oo]] _ hn (by kernel_rfl) (aC h1 <| aC rt <| aC (ln_eq monic ce_Lu32) <| aC h2 <| aN)
    · skip
      rcases bcases h with ⟨h3, h⟩ | ⟨h3, h⟩
      · skip
        have h := Option.some.inj h; subst h
        exact wk_ret (fuel := 106) [.go, .reg [oo, oo, oo, oo, .sb 106 true, oo, oo, oo, oo], .br true, .reg [oo, .op (.ln (monic.length : Int)), oo], .br false, .reg [oo, oo, oo, .op (.ia 0), oo, oo, oo]] _ hn (by kernel_rfl) (aC h1 <| aC rt <| aC (ln_eq monic ce_Lu32) <| aC h2 <| aC (of_decide_eq_true h3 : (Int.tmod (IntKind.i64.wrap (k - (1 : Int))) (2 : Int)) = ((0 : Nat) : Int)) <| aN)
      · skip
        rcases bcases h with ⟨h4, h⟩ | ⟨h4, h⟩
        · skip
          have h := Option.some.inj h; subst h
          exact wk_ret (fuel := 106) [.go, .reg [oo, oo, oo, oo, .sb 106 true, oo, oo, oo, oo], .br true, .reg [oo, .op (.ln (monic.length : Int)), oo], .br false, .reg [oo, oo, oo, .op (.ia 1), oo, oo, oo]] _ hn (by kernel_rfl) (aC h1 <| aC rt <| aC (ln_eq monic ce_Lu32) <| aC h2 <| aC (of_decide_eq_true h4 : (Int.tmod (IntKind.i64.wrap (k - (1 : Int))) (2 : Int)) = ((1 : Nat) : Int)) <| aN)
        · skip
          cases h
  · skip
    rcases bcases h with ⟨h2, h⟩ | ⟨h2, h⟩
    · skip
      rcases bcases h with ⟨h3, h⟩ | ⟨h3, h⟩
      · skip
        have h := Option.some.inj h; subst h
        exact wk_ret (fuel := 106) [.go, .reg [oo, oo, oo, oo, .sb 106 false, oo, .op (.ln (monic.length : Int)), oo, oo], .br true, .reg [oo, .op (.ln (monic.length : Int)), oo], .br true, .reg [oo, oo]] _ hn (by kernel_rfl) (aC h1 <| aC (ln_eq monic ce_Lu32) <| aC h2 <| aC (ln_eq monic ce_Lu32) <| aC h3 <| aN)
      · skip
        rcases bcases h with ⟨h4, h⟩ | ⟨h4, h⟩
        · skip
          have h := Option.some.inj h; subst h
          exact wk_ret (fuel := 106) [.go, .reg [oo, oo, oo, oo, .sb 106 false, oo, .op (.ln (monic.length : Int)), oo, oo], .br true, .reg [oo, .op (.ln (monic.length : Int)), oo], .br false, .reg [oo, oo, oo, .op (.ia 0), oo, oo, oo]] _ hn (by kernel_rfl) (aC h1 <| aC (ln_eq monic ce_Lu32) <| aC h2 <| aC (ln_eq monic ce_Lu32) <| aC h3 <| aC (of_decide_eq_true h4 : (Int.tmod (IntKind.i64.wrap (k - (1 : Int))) (2 : Int)) = ((0 : Nat) : Int)) <| aN)
        · skip
          rcases bcases h with ⟨h5, h⟩ | ⟨h5, h⟩
          · skip
            have h := Option.some.inj h; subst h
            exact wk_ret (fuel := 106) [.go, .reg [oo, oo, oo, oo, .sb 106 false, oo, .op (.ln (monic.length : Int)), oo, oo], .br true, .reg [oo, .op (.ln (monic.length : Int)), oo], .br false, .reg [oo, oo, oo, .op (.ia 1), oo, oo, oo]] _ hn (by kernel_rfl) (aC h1 <| aC (ln_eq monic ce_Lu32) <| aC h2 <| aC (ln_eq monic ce_Lu32) <| aC h3 <| aC (of_decide_eq_true h5 : (Int.tmod (IntKind.i64.wrap (k - (1 : Int))) (2 : Int)) = ((1 : Nat) : Int)) <| aN)
          · skip
            cases h
    · skip
      rcases bcases h with ⟨h3, h⟩ | ⟨h3, h⟩
      · skip
        obtain ⟨x4, h5, h⟩ := obind h
        obtain ⟨x6, h7, h⟩ := obind h
        obtain ⟨x8, h9, h⟩ := obind h
        exact wk_go (fuel := 110) [.go, .reg [oo, oo, oo, oo, .sb 106 false, oo, .op (.ln (monic.length : Int)), oo, oo], .br false, .reg [oo, oo, oo, .op (.ia 0), oo, oo], .reg [oo, oo, .op (.call [[1], [0,1]] [(TV.c (T.sl 1 ([].map ce_Linteger_Int))), (TV.agg (ce_integer_Int top))] (TV.tup [(false, [(T.sl 2 (x4.1.map ce_integer_Int))]), (false, [(T.int .i64 x4.2)])])), oo, oo, oo, oo, oo], .draw [.p, .p, (.call [[2], [2]] [(tl 2 goal ce_integer_Int), (tl 2 x4.1 ce_integer_Int)] (tl 2 x6 ce_integer_Int)), .p, (.call [[2], [0,1]] [(tl 2 x6 ce_integer_Int), (TV.agg (ce_integer_Int top))] (TV.tup [(false, [(T.sl 2 (x8.1.map ce_integer_Int))]), (false, [(T.int .i64 x8.2)])])), .p, .p, .p, .p] [.op .p], .reg [.op .lit0, oo], .reg [oo, .op (.ln (x8.1.length : Int)), oo], .pre [.keep [2,3,11,12,13,14,16,17,20,21,22,27,131,132,133] [11,12,17,20]]] _ hn (by kernel_rfl) (aC h1 <| aC (ln_eq monic ce_Lu32) <| aC h2 <| aC (of_decide_eq_true h3 : (Int.tmod (IntKind.i64.wrap (step - (1 : Int))) (2 : Int)) = ((0 : Nat) : Int)) <| aC (hensel_Product_holds h5) <| aC (unipoly_Sub_holds h7) <| aC (hensel_Reduce_holds h9) <| aC (ln_eq x8.1 ce_integer_Int) <| aN) (ih _ _ h cx hn)
      · skip
        rcases bcases h with ⟨h4, h⟩ | ⟨h4, h⟩
        · skip
          obtain ⟨x5, h6, h⟩ := obind h
          obtain ⟨x7, h8, h⟩ := obind h
          obtain ⟨x9, h10, h⟩ := obind h
          exact wk_go (fuel := 110) [.go, .reg [oo, oo, oo, oo, .sb 106 false, oo, .op (.ln (monic.length : Int)), oo, oo], .br false, .reg [oo, oo, oo, .op (.ia 1), oo, oo], .reg [oo, oo, .op (.call [[1], [0,1]] [(tl 1 pair ce_Linteger_Int), (TV.agg (ce_integer_Int top))] (TV.tup [(false, [(T.sl 2 (x5.1.map ce_integer_Int))]), (false, [(T.int .i64 x5.2)])])), oo, oo, oo, oo, oo], .draw [.p, .p, (.call [[2], [2]] [(tl 2 goal ce_integer_Int), (tl 2 x5.1 ce_integer_Int)] (tl 2 x7 ce_integer_Int)), .p, (.call [[2], [0,1]] [(tl 2 x7 ce_integer_Int), (TV.agg (ce_integer_Int top))] (TV.tup [(false, [(T.sl 2 (x9.1.map ce_integer_Int))]), (false, [(T.int .i64 x9.2)])])), .p, .p, .p, .p] [.op .p], .reg [.op .lit0, oo], .reg [oo, .op (.ln (x9.1.length : Int)), oo], .pre [.keep [2,3,11,12,13,14,16,17,20,21,22,27,131,132,133] [11,12,17,20]]] _ hn (by kernel_rfl) (aC h1 <| aC (ln_eq monic ce_Lu32) <| aC h2 <| aC (of_decide_eq_true h4 : (Int.tmod (IntKind.i64.wrap (step - (1 : Int))) (2 : Int)) = ((1 : Nat) : Int)) <| aC (hensel_Product_holds h6) <| aC (unipoly_Sub_holds h8) <| aC (hensel_Reduce_holds h10) <| aC (ln_eq x9.1 ce_integer_Int) <| aN) (ih _ _ h cx hn)
        · skip
          cases h

theorem hensel_Lift_c34 {K} (ih : hensel_Lift_H K) {cx} (hn : cx.n = 208) {base top pair power p k goal monic parts step t131 t132 t133} {r} (h : hensel_Lift_go (K + 1) (.c34 base top pair power p k goal monic parts step t131 t132 t133) = some r) : hensel_Lift_S cx (.c34 base top pair power p k goal monic parts step t131 t132 t133) r := by
  rw [hensel_Lift_go] at h
  rcases bcases h with ⟨h1, h⟩ | ⟨h1, h⟩
  · skip
    obtain ⟨x2, h3, h⟩ := obind h
    obtain ⟨x4, h5, h⟩ := obind h
    obtain ⟨x6, h7, h⟩ := obind h
    exact wk_go (fuel := 98) [.go, .reg [oo], .br true, .reg [.op (.ix (ce_integer_Int x2)), oo, oo, oo], .reg [oo, oo, .op (.call [[0,1], [0,1]] [(TV.agg (ce_integer_Int x2)), (TV.agg (ce_integer_Int power))] (TV.tup [(true, ce_integer_Int x4.1), (false, [(T.int .i64 x4.2)])])), oo, oo, oo, oo, oo, oo], .reg [oo, oo, oo, .op (.call [[0,1], [0]] [(TV.agg (ce_integer_Int x4.1)), (ti .u32 p)] (ti .u32 x6)), .op (.lit (([x6] : List Int).map ce_u32)), .op (.appN (([x6] : List Int).map ce_u32)), oo], .reg [oo, oo], .pre [.rl 27 0 ([x6] : List Int).length, .keep [2,3,11,12,13,14,16,17,20,21,22,27,131,132,133] [11,12,17,20,148]]] _ hn (by kernel_rfl) (aC h1 <| aC (gi_nn h3) <| aC (gi_at ce_integer_Int h3) <| aC (division_Exact_holds h5) <| aC (modular_Reduce_holds h7) <| aC (by kernel_rfl : [(T.int .u32 x6)] = (([x6] : List Int).map ce_u32).flatten) <| aC (sn_map _ _ _ (by simp) : ((([x6] : List Int).map ce_u32).drop 0).take 1 = ([x6] : List Int).map ce_u32) <| aC (by simp : 0 < (([x6] : List Int).map ce_u32).length) <| aC (by simp : (([x6] : List Int).map ce_u32).length * 4 ≤ 140737488355328) <| aC (by simp [maxLen] : (([x6] : List Int).map ce_u32).length ≤ maxLen) <| aC r0 <| aC (by simp : (([x6] : List Int).map ce_u32).length = ([x6] : List Int).length) <| aN) (ih _ _ h cx hn)
  · skip
    obtain ⟨x2, h3, h⟩ := obind h
    exact wk_go (fuel := 96) [.go, .reg [oo], .br false, .reg [oo, oo, .op (.call [[0,1], [0,1]] [(TV.agg (ce_integer_Int power)), (TV.agg (ce_integer_Int base))] (TV.agg (ce_integer_Int x2))), oo, oo], .reg [oo], .reg [oo, oo, oo], .pre [.keep [2,3,11,12,13,14,16,17,20,21,27,32,33,153,154,155] [11,12,17,20,32]]] _ hn (by kernel_rfl) (aC h1 <| aC (integer_Mul_holds h3) <| aN) (ih _ _ h cx hn)

theorem hensel_Lift_c35 {K} (ih : hensel_Lift_H K) {cx} (hn : cx.n = 208) {base top pair power p k goal monic parts step now t131 t132 t133} {r} (h : hensel_Lift_go (K + 1) (.c35 base top pair power p k goal monic parts step now t131 t132 t133) = some r) : hensel_Lift_S cx (.c35 base top pair power p k goal monic parts step now t131 t132 t133) r := by
  rw [hensel_Lift_go] at h
  rcases bcases h with ⟨h1, h⟩ | ⟨h1, h⟩
  · skip
    obtain ⟨x2, h3, h⟩ := obind h
    obtain ⟨x4, h5, h⟩ := obind h
    obtain ⟨x6, h7, h⟩ := obind h
    exact wk_go (fuel := 98) [.go, .reg [oo], .br true, .reg [.op (.ix (ce_integer_Int x2)), oo, oo, oo], .reg [oo, oo, .op (.call [[0,1], [0,1]] [(TV.agg (ce_integer_Int x2)), (TV.agg (ce_integer_Int power))] (TV.tup [(true, ce_integer_Int x4.1), (false, [(T.int .i64 x4.2)])])), oo, oo, oo, oo, oo, oo], .reg [oo, oo, oo, .op (.call [[0,1], [0]] [(TV.agg (ce_integer_Int x4.1)), (ti .u32 p)] (ti .u32 x6)), .op (.lit (([x6] : List Int).map ce_u32)), .op (.appN (([x6] : List Int).map ce_u32)), oo], .reg [oo, oo], .pre [.rl 27 0 ([x6] : List Int).length, .keep [2,3,11,12,13,14,16,17,20,21,22,27,131,132,133] [11,12,17,20,148]]] _ hn (by kernel_rfl) (aC h1 <| aC (gi_nn h3) <| aC (gi_at ce_integer_Int h3) <| aC (division_Exact_holds h5) <| aC (modular_Reduce_holds h7) <| aC (by kernel_rfl : [(T.int .u32 x6)] = (([x6] : List Int).map ce_u32).flatten) <| aC (sn_map _ _ _ (by simp) : ((([x6] : List Int).map ce_u32).drop 0).take 1 = ([x6] : List Int).map ce_u32) <| aC (by simp : 0 < (([x6] : List Int).map ce_u32).length) <| aC (by simp : (([x6] : List Int).map ce_u32).length * 4 ≤ 140737488355328) <| aC (by simp [maxLen] : (([x6] : List Int).map ce_u32).length ≤ maxLen) <| aC r0 <| aC (by simp : (([x6] : List Int).map ce_u32).length = ([x6] : List Int).length) <| aN) (ih _ _ h cx hn)
  · skip
    obtain ⟨x2, h3, h⟩ := obind h
    exact wk_go (fuel := 96) [.go, .reg [oo], .br false, .reg [oo, oo, .op (.call [[0,1], [0,1]] [(TV.agg (ce_integer_Int power)), (TV.agg (ce_integer_Int base))] (TV.agg (ce_integer_Int x2))), oo, oo], .reg [oo], .reg [oo, .op (.ln (now.length : Int)), oo], .pre [.keep [2,3,11,12,13,14,16,17,20,21,27,32,33,153,154,155] [11,12,17,20,32]]] _ hn (by kernel_rfl) (aC h1 <| aC (integer_Mul_holds h3) <| aC (ln_eq now ce_Linteger_Int) <| aN) (ih _ _ h cx hn)

theorem hensel_Lift_c36 {K} (ih : hensel_Lift_H K) {cx} (hn : cx.n = 208) {base top pair power r148 p k goal monic parts step t131 t132 t133} {r} (h : hensel_Lift_go (K + 1) (.c36 base top pair power r148 p k goal monic parts step t131 t132 t133) = some r) : hensel_Lift_S cx (.c36 base top pair power r148 p k goal monic parts step t131 t132 t133) r := by
  rw [hensel_Lift_go] at h
  rcases bcases h with ⟨h1, h⟩ | ⟨h1, h⟩
  · skip
    obtain ⟨x2, h3, h⟩ := obind h
    obtain ⟨x4, h5, h⟩ := obind h
    obtain ⟨x6, h7, h⟩ := obind h
    obtain ⟨h8, h⟩ := gd_some h
    exact wk_go (fuel := 98) [.go, .reg [oo], .br true, .reg [.op (.ix (ce_integer_Int x2)), oo, oo, oo], .reg [oo, oo, .op (.call [[0,1], [0,1]] [(TV.agg (ce_integer_Int x2)), (TV.agg (ce_integer_Int power))] (TV.tup [(true, ce_integer_Int x4.1), (false, [(T.int .i64 x4.2)])])), oo, oo, oo, oo, oo, oo], .pre [.keep [2,3,11,12,13,14,16,17,20,21,22,27,30,131,132,133] [11,12,17,20,30,148]], .reg [oo, oo, oo, .op (.call [[0,1], [0]] [(TV.agg (ce_integer_Int x4.1)), (ti .u32 p)] (ti .u32 x6)), .op (.lit (([x6] : List Int).map ce_u32)), .appR (([x6] : List Int).map ce_u32) ((r148 ++ ([x6] : List Int)).map ce_u32), oo], .reg [oo, oo], .pre [.rl 27 0 (r148 ++ ([x6] : List Int)).length, .keep [2,3,11,12,13,14,16,17,20,21,22,27,131,132,133] [11,12,17,20,148]]] _ hn (by kernel_rfl) (aC h1 <| aC (gi_nn h3) <| aC (gi_at ce_integer_Int h3) <| aC (division_Exact_holds h5) <| aC (modular_Reduce_holds h7) <| aC (by kernel_rfl : [(T.int .u32 x6)] = (([x6] : List Int).map ce_u32).flatten) <| aC (by simp : r148.length = (r148.map ce_u32).length) <| aC (sn_map _ _ _ (by simp) : ((([x6] : List Int).map ce_u32).drop 0).take 1 = ([x6] : List Int).map ce_u32) <| aC (app_map _ _ _ : r148.map ce_u32 ++ ([x6] : List Int).map ce_u32 = (r148 ++ ([x6] : List Int)).map ce_u32) <| aC ((len_map _ _).symm ▸ h8 : ((r148 ++ ([x6] : List Int)).map ce_u32).length * 4 ≤ 140737488355328) <| aC ((len_map _ _).symm ▸ room (by decide) h8 : ((r148 ++ ([x6] : List Int)).map ce_u32).length ≤ maxLen) <| aC r0 <| aC (by simp : ((r148 ++ ([x6] : List Int)).map ce_u32).length = (r148 ++ ([x6] : List Int)).length) <| aN) (ih _ _ h cx hn)
  · skip
    obtain ⟨x2, h3, h⟩ := obind h
    exact wk_go (fuel := 96) [.go, .reg [oo], .br false, .reg [oo, oo, .op (.call [[0,1], [0,1]] [(TV.agg (ce_integer_Int power)), (TV.agg (ce_integer_Int base))] (TV.agg (ce_integer_Int x2))), oo, oo], .reg [oo], .reg [oo, oo, oo], .pre [.rl 27 0 r148.length, .keep [2,3,11,12,13,14,16,17,20,21,27,32,33,153,154,155] [11,12,17,20,32,148]]] _ hn (by kernel_rfl) (aC h1 <| aC (integer_Mul_holds h3) <| aC r0 <| aC (lq r148) <| aN) (ih _ _ h cx hn)

theorem hensel_Lift_c37 {K} (ih : hensel_Lift_H K) {cx} (hn : cx.n = 208) {base top pair power next p k goal monic parts step t154 t155} {r} (h : hensel_Lift_go (K + 1) (.c37 base top pair power next p k goal monic parts step t154 t155) = some r) : hensel_Lift_S cx (.c37 base top pair power next p k goal monic parts step t154 t155) r := by
  rw [hensel_Lift_go] at h
  rcases bcases h with ⟨h1, h⟩ | ⟨h1, h⟩
  · skip
    cases h
  · skip
    rcases bcases h with ⟨h2, h⟩ | ⟨h2, h⟩
    · skip
      exact wk_go (fuel := 84) [.go, .reg [oo], .br false, .reg [oo, oo, oo, .op (.ia 0), oo], .reg [oo, oo], .pre [.keep [2,3,11,12,13,14,16,17,20,21] [11,12,17,20]]] _ hn (by kernel_rfl) (aC h1 <| aC (of_decide_eq_true h2 : (Int.tmod step (2 : Int)) = ((0 : Nat) : Int)) <| aN) (ih _ _ h cx hn)
    · skip
      rcases bcases h with ⟨h3, h⟩ | ⟨h3, h⟩
      · skip
        exact wk_go (fuel := 84) [.go, .reg [oo], .br false, .reg [oo, oo, oo, .op (.ia 1), oo], .reg [oo, oo], .pre [.keep [2,3,11,12,13,14,16,17,20,21] [11,12,17,20]]] _ hn (by kernel_rfl) (aC h1 <| aC (of_decide_eq_true h3 : (Int.tmod step (2 : Int)) = ((1 : Nat) : Int)) <| aN) (ih _ _ h cx hn)
      · skip
        cases h

theorem hensel_Lift_c38 {K} (ih : hensel_Lift_H K) {cx} (hn : cx.n = 208) {base top pair power r148 p k goal monic parts step now t131 t132 t133} {r} (h : hensel_Lift_go (K + 1) (.c38 base top pair power r148 p k goal monic parts step now t131 t132 t133) = some r) : hensel_Lift_S cx (.c38 base top pair power r148 p k goal monic parts step now t131 t132 t133) r := by
  rw [hensel_Lift_go] at h
  rcases bcases h with ⟨h1, h⟩ | ⟨h1, h⟩
  · skip
    obtain ⟨x2, h3, h⟩ := obind h
    obtain ⟨x4, h5, h⟩ := obind h
    obtain ⟨x6, h7, h⟩ := obind h
    obtain ⟨h8, h⟩ := gd_some h
    exact wk_go (fuel := 98) [.go, .reg [oo], .br true, .reg [.op (.ix (ce_integer_Int x2)), oo, oo, oo], .reg [oo, oo, .op (.call [[0,1], [0,1]] [(TV.agg (ce_integer_Int x2)), (TV.agg (ce_integer_Int power))] (TV.tup [(true, ce_integer_Int x4.1), (false, [(T.int .i64 x4.2)])])), oo, oo, oo, oo, oo, oo], .pre [.keep [2,3,11,12,13,14,16,17,20,21,22,27,30,131,132,133] [11,12,17,20,30,148]], .reg [oo, oo, oo, .op (.call [[0,1], [0]] [(TV.agg (ce_integer_Int x4.1)), (ti .u32 p)] (ti .u32 x6)), .op (.lit (([x6] : List Int).map ce_u32)), .appR (([x6] : List Int).map ce_u32) ((r148 ++ ([x6] : List Int)).map ce_u32), oo], .reg [oo, oo], .pre [.rl 27 0 (r148 ++ ([x6] : List Int)).length, .keep [2,3,11,12,13,14,16,17,20,21,22,27,131,132,133] [11,12,17,20,148]]] _ hn (by kernel_rfl) (aC h1 <| aC (gi_nn h3) <| aC (gi_at ce_integer_Int h3) <| aC (division_Exact_holds h5) <| aC (modular_Reduce_holds h7) <| aC (by kernel_rfl : [(T.int .u32 x6)] = (([x6] : List Int).map ce_u32).flatten) <| aC (by simp : r148.length = (r148.map ce_u32).length) <| aC (sn_map _ _ _ (by simp) : ((([x6] : List Int).map ce_u32).drop 0).take 1 = ([x6] : List Int).map ce_u32) <| aC (app_map _ _ _ : r148.map ce_u32 ++ ([x6] : List Int).map ce_u32 = (r148 ++ ([x6] : List Int)).map ce_u32) <| aC ((len_map _ _).symm ▸ h8 : ((r148 ++ ([x6] : List Int)).map ce_u32).length * 4 ≤ 140737488355328) <| aC ((len_map _ _).symm ▸ room (by decide) h8 : ((r148 ++ ([x6] : List Int)).map ce_u32).length ≤ maxLen) <| aC r0 <| aC (by simp : ((r148 ++ ([x6] : List Int)).map ce_u32).length = (r148 ++ ([x6] : List Int)).length) <| aN) (ih _ _ h cx hn)
  · skip
    obtain ⟨x2, h3, h⟩ := obind h
    exact wk_go (fuel := 96) [.go, .reg [oo], .br false, .reg [oo, oo, .op (.call [[0,1], [0,1]] [(TV.agg (ce_integer_Int power)), (TV.agg (ce_integer_Int base))] (TV.agg (ce_integer_Int x2))), oo, oo], .reg [oo], .reg [oo, .op (.ln (now.length : Int)), oo], .pre [.rl 27 0 r148.length, .keep [2,3,11,12,13,14,16,17,20,21,27,32,33,153,154,155] [11,12,17,20,32,148]]] _ hn (by kernel_rfl) (aC h1 <| aC (integer_Mul_holds h3) <| aC (ln_eq now ce_Linteger_Int) <| aC r0 <| aC (lq r148) <| aN) (ih _ _ h cx hn)

theorem hensel_Lift_c39 {K} (ih : hensel_Lift_H K) {cx} (hn : cx.n = 208) {base top pair power next p k goal monic parts step t153 t154 t155} {r} (h : hensel_Lift_go (K + 1) (.c39 base top pair power next p k goal monic parts step t153 t154 t155) = some r) : hensel_Lift_S cx (.c39 base top pair power next p k goal monic parts step t153 t154 t155) r := by
  rw [hensel_Lift_go] at h
  rcases bcases h with ⟨h1, h⟩ | ⟨h1, h⟩
  · skip
    obtain ⟨x2, h3, h⟩ := obind h
    obtain ⟨x4, h5, h⟩ := obind h
    obtain ⟨x6, h7, h⟩ := obind h
    obtain ⟨x8, h9, h⟩ := obind h
    obtain ⟨x10, h11, h⟩ := obind h
    obtain ⟨x12, h13, h⟩ := obind h
    obtain ⟨x14, h15, h⟩ := obind h
    obtain ⟨x16, h17, h⟩ := obind h
    obtain ⟨x18, h19, h⟩ := obind h
    exact wk_go (fuel := 114) [.go, .reg [oo], .br true, .reg [oo, .op (.ix (ce_Linteger_Int x2)), oo, oo, oo], .draw [.p, .p, .p, (.ix (ce_Lu32 x4)), .p, .p, (.call [[1], [1], [0]] [(TV.c (T.sl 1 ([].map ce_u32))), (tl 1 x4 ce_u32), (ti .u32 p)] (tl 1 x6 ce_u32)), .p, .p, (.ix (ce_Lu32 x8)), .p, .p, (.call [[1], [1], [0]] [(tl 1 x6 ce_u32), (tl 1 x8 ce_u32), (ti .u32 p)] (TV.tup [(false, [(T.sl 1 (x10.1.map ce_u32))]), (false, [(T.sl 1 (x10.2.1.map ce_u32))]), (false, [(T.int .i64 x10.2.2)])])), .p, .p, .p, .p, .p, .p] [.op .p], .draw [.p, .p, .p, (.call [[1], [0]] [(TV.c (T.sl 1 (x10.2.1.map ce_u32))), (ti .u32 p)] (tl 2 x12 ce_integer_Int)), .p, (.call [[2], [0,1]] [(tl 2 x12 ce_integer_Int), (TV.agg (ce_integer_Int power))] (tl 2 x14 ce_integer_Int))] [.op (.call [[2], [2]] [(tl 2 x2 ce_integer_Int), (tl 2 x14 ce_integer_Int)] (tl 2 x16 ce_integer_Int)), .op .p], .reg [oo, oo, .op (.call [[2], [0,1]] [(tl 2 x16 ce_integer_Int), (TV.agg (ce_integer_Int next))] (TV.tup [(false, [(T.sl 2 (x18.1.map ce_integer_Int))]), (false, [(T.int .i64 x18.2)])])), oo, oo, oo, oo], .reg [oo, oo, .op (.lit (([x18.1] : List (List integer_Int)).map ce_Linteger_Int)), .op (.appN (([x18.1] : List (List integer_Int)).map ce_Linteger_Int)), oo], .reg [oo, oo], .pre [.rl 33 0 ([x18.1] : List (List integer_Int)).length, .keep [2,3,11,12,13,14,16,17,20,21,27,32,33,153,154,155] [11,12,17,20,32,193]]] _ hn (by kernel_rfl) (aC h1 <| aC (gi_nn h3) <| aC (gi_at ce_Linteger_Int h3) <| aC (gi_nn h5) <| aC (gi_at ce_Lu32 h5) <| aC (modpoly_Mul_holds h7) <| aC (gi_nn h9) <| aC (gi_at ce_Lu32 h9) <| aC (modpoly_Divide_holds h11) <| aC (modpoly_Symmetric_holds h13) <| aC (unipoly_Scale_holds h15) <| aC (unipoly_Add_holds h17) <| aC (hensel_Reduce_holds h19) <| aC (by kernel_rfl : [(T.sl 2 (x18.1.map ce_integer_Int))] = (([x18.1] : List (List integer_Int)).map ce_Linteger_Int).flatten) <| aC (sn_map _ _ _ (by simp) : ((([x18.1] : List (List integer_Int)).map ce_Linteger_Int).drop 0).take 1 = ([x18.1] : List (List integer_Int)).map ce_Linteger_Int) <| aC (by simp : 0 < (([x18.1] : List (List integer_Int)).map ce_Linteger_Int).length) <| aC (by simp : (([x18.1] : List (List integer_Int)).map ce_Linteger_Int).length * 24 ≤ 140737488355328) <| aC (by simp [maxLen] : (([x18.1] : List (List integer_Int)).map ce_Linteger_Int).length ≤ maxLen) <| aC r0 <| aC (by simp : (([x18.1] : List (List integer_Int)).map ce_Linteger_Int).length = ([x18.1] : List (List integer_Int)).length) <| aN) (ih _ _ h cx hn)
  · skip
    rcases bcases h with ⟨h2, h⟩ | ⟨h2, h⟩
    · skip
      exact wk_go (fuel := 84) [.go, .reg [oo], .br false, .reg [oo, oo, oo, .op (.ia 0), oo], .reg [oo, oo], .pre [.keep [2,3,11,12,13,14,16,17,20,21] [11,12,17,20]]] _ hn (by kernel_rfl) (aC h1 <| aC (of_decide_eq_true h2 : (Int.tmod step (2 : Int)) = ((0 : Nat) : Int)) <| aN) (ih _ _ h cx hn)
    · skip
      rcases bcases h with ⟨h3, h⟩ | ⟨h3, h⟩
      · skip
        exact wk_go (fuel := 84) [.go, .reg [oo], .br false, .reg [oo, oo, oo, .op (.ia 1), oo], .reg [oo, oo], .pre [.keep [2,3,11,12,13,14,16,17,20,21] [11,12,17,20]]] _ hn (by kernel_rfl) (aC h1 <| aC (of_decide_eq_true h3 : (Int.tmod step (2 : Int)) = ((1 : Nat) : Int)) <| aN) (ih _ _ h cx hn)
      · skip
        cases h

theorem hensel_Lift_c40 {K} (ih : hensel_Lift_H K) {cx} (hn : cx.n = 208) {base top pair power next r148 p k goal monic parts step t154 t155} {r} (h : hensel_Lift_go (K + 1) (.c40 base top pair power next r148 p k goal monic parts step t154 t155) = some r) : hensel_Lift_S cx (.c40 base top pair power next r148 p k goal monic parts step t154 t155) r := by
  rw [hensel_Lift_go] at h
  rcases bcases h with ⟨h1, h⟩ | ⟨h1, h⟩
  · skip
    cases h
  · skip
    rcases bcases h with ⟨h2, h⟩ | ⟨h2, h⟩
    · skip
      exact wk_go (fuel := 84) [.go, .reg [oo], .br false, .reg [oo, oo, oo, .op (.ia 0), oo], .reg [oo, oo], .pre [.keep [2,3,11,12,13,14,16,17,20,21] [11,12,17,20]]] _ hn (by kernel_rfl) (aC h1 <| aC (of_decide_eq_true h2 : (Int.tmod step (2 : Int)) = ((0 : Nat) : Int)) <| aN) (ih _ _ h cx hn)
    · skip
      rcases bcases h with ⟨h3, h⟩ | ⟨h3, h⟩
      · skip
        exact wk_go (fuel := 84) [.go, .reg [oo], .br false, .reg [oo, oo, oo, .op (.ia 1), oo], .reg [oo, oo], .pre [.keep [2,3,11,12,13,14,16,17,20,21] [11,12,17,20]]] _ hn (by kernel_rfl) (aC h1 <| aC (of_decide_eq_true h3 : (Int.tmod step (2 : Int)) = ((1 : Nat) : Int)) <| aN) (ih _ _ h cx hn)
      · skip
        cases h

theorem hensel_Lift_c41 {K} (ih : hensel_Lift_H K) {cx} (hn : cx.n = 208) {base top pair power next r148 p k goal monic parts step t153 t154 t155} {r} (h : hensel_Lift_go (K + 1) (.c41 base top pair power next r148 p k goal monic parts step t153 t154 t155) = some r) : hensel_Lift_S cx (.c41 base top pair power next r148 p k goal monic parts step t153 t154 t155) r := by
  rw [hensel_Lift_go] at h
  rcases bcases h with ⟨h1, h⟩ | ⟨h1, h⟩
  · skip
    obtain ⟨x2, h3, h⟩ := obind h
    obtain ⟨x4, h5, h⟩ := obind h
    obtain ⟨x6, h7, h⟩ := obind h
    obtain ⟨x8, h9, h⟩ := obind h
    obtain ⟨x10, h11, h⟩ := obind h
    obtain ⟨x12, h13, h⟩ := obind h
    obtain ⟨x14, h15, h⟩ := obind h
    obtain ⟨x16, h17, h⟩ := obind h
    obtain ⟨x18, h19, h⟩ := obind h
    exact wk_go (fuel := 114) [.go, .reg [oo], .br true, .reg [oo, .op (.ix (ce_Linteger_Int x2)), oo, oo, oo], .pre [.snap 27 (max 0 (0 + r148.length)) (r148.map ce_u32)], .draw [.p, .p, .p, (.ix (ce_Lu32 x4)), .p, .p, (.call [[1], [1], [0]] [(tl 1 r148 ce_u32), (tl 1 x4 ce_u32), (ti .u32 p)] (tl 1 x6 ce_u32)), .p, .p, (.ix (ce_Lu32 x8)), .p, .p, (.call [[1], [1], [0]] [(tl 1 x6 ce_u32), (tl 1 x8 ce_u32), (ti .u32 p)] (TV.tup [(false, [(T.sl 1 (x10.1.map ce_u32))]), (false, [(T.sl 1 (x10.2.1.map ce_u32))]), (false, [(T.int .i64 x10.2.2)])])), .p, .p, .p, .p, .p, .p] [.op .p], .draw [.p, .p, .p, (.call [[1], [0]] [(TV.c (T.sl 1 (x10.2.1.map ce_u32))), (ti .u32 p)] (tl 2 x12 ce_integer_Int)), .p, (.call [[2], [0,1]] [(tl 2 x12 ce_integer_Int), (TV.agg (ce_integer_Int power))] (tl 2 x14 ce_integer_Int))] [.op (.call [[2], [2]] [(tl 2 x2 ce_integer_Int), (tl 2 x14 ce_integer_Int)] (tl 2 x16 ce_integer_Int)), .op .p], .reg [oo, oo, .op (.call [[2], [0,1]] [(tl 2 x16 ce_integer_Int), (TV.agg (ce_integer_Int next))] (TV.tup [(false, [(T.sl 2 (x18.1.map ce_integer_Int))]), (false, [(T.int .i64 x18.2)])])), oo, oo, oo, oo], .reg [oo, oo, .op (.lit (([x18.1] : List (List integer_Int)).map ce_Linteger_Int)), .op (.appN (([x18.1] : List (List integer_Int)).map ce_Linteger_Int)), oo], .reg [oo, oo], .pre [.rl 33 0 ([x18.1] : List (List integer_Int)).length, .keep [2,3,11,12,13,14,16,17,20,21,27,32,33,153,154,155] [11,12,17,20,32,193]]] _ hn (by kernel_rfl) (aC h1 <| aC (gi_nn h3) <| aC (gi_at ce_Linteger_Int h3) <| aC (sn_map _ _ _ (by simp) : ((r148.map ce_u32).drop 0).take r148.length = r148.map ce_u32) <| aC (rfl : (max 0 (0 + r148.length)) = (max 0 (0 + r148.length))) <| aC (gi_nn h5) <| aC (gi_at ce_Lu32 h5) <| aC (modpoly_Mul_holds h7) <| aC (gi_nn h9) <| aC (gi_at ce_Lu32 h9) <| aC (modpoly_Divide_holds h11) <| aC (modpoly_Symmetric_holds h13) <| aC (unipoly_Scale_holds h15) <| aC (unipoly_Add_holds h17) <| aC (hensel_Reduce_holds h19) <| aC (by kernel_rfl : [(T.sl 2 (x18.1.map ce_integer_Int))] = (([x18.1] : List (List integer_Int)).map ce_Linteger_Int).flatten) <| aC (sn_map _ _ _ (by simp) : ((([x18.1] : List (List integer_Int)).map ce_Linteger_Int).drop 0).take 1 = ([x18.1] : List (List integer_Int)).map ce_Linteger_Int) <| aC (by simp : 0 < (([x18.1] : List (List integer_Int)).map ce_Linteger_Int).length) <| aC (by simp : (([x18.1] : List (List integer_Int)).map ce_Linteger_Int).length * 24 ≤ 140737488355328) <| aC (by simp [maxLen] : (([x18.1] : List (List integer_Int)).map ce_Linteger_Int).length ≤ maxLen) <| aC r0 <| aC (by simp : (([x18.1] : List (List integer_Int)).map ce_Linteger_Int).length = ([x18.1] : List (List integer_Int)).length) <| aN) (ih _ _ h cx hn)
  · skip
    rcases bcases h with ⟨h2, h⟩ | ⟨h2, h⟩
    · skip
      exact wk_go (fuel := 84) [.go, .reg [oo], .br false, .reg [oo, oo, oo, .op (.ia 0), oo], .reg [oo, oo], .pre [.keep [2,3,11,12,13,14,16,17,20,21] [11,12,17,20]]] _ hn (by kernel_rfl) (aC h1 <| aC (of_decide_eq_true h2 : (Int.tmod step (2 : Int)) = ((0 : Nat) : Int)) <| aN) (ih _ _ h cx hn)
    · skip
      rcases bcases h with ⟨h3, h⟩ | ⟨h3, h⟩
      · skip
        exact wk_go (fuel := 84) [.go, .reg [oo], .br false, .reg [oo, oo, oo, .op (.ia 1), oo], .reg [oo, oo], .pre [.keep [2,3,11,12,13,14,16,17,20,21] [11,12,17,20]]] _ hn (by kernel_rfl) (aC h1 <| aC (of_decide_eq_true h3 : (Int.tmod step (2 : Int)) = ((1 : Nat) : Int)) <| aN) (ih _ _ h cx hn)
      · skip
        cases h

theorem hensel_Lift_c42 {K} (ih : hensel_Lift_H K) {cx} (hn : cx.n = 208) {base top pair power next r193 p k goal monic parts step t153 t154 t155} {r} (h : hensel_Lift_go (K + 1) (.c42 base top pair power next r193 p k goal monic parts step t153 t154 t155) = some r) : hensel_Lift_S cx (.c42 base top pair power next r193 p k goal monic parts step t153 t154 t155) r := by
  rw [hensel_Lift_go] at h
  rcases bcases h with ⟨h1, h⟩ | ⟨h1, h⟩
  · skip
    obtain ⟨x2, h3, h⟩ := obind h
    obtain ⟨x4, h5, h⟩ := obind h
    obtain ⟨x6, h7, h⟩ := obind h
    obtain ⟨x8, h9, h⟩ := obind h
    obtain ⟨x10, h11, h⟩ := obind h
    obtain ⟨x12, h13, h⟩ := obind h
    obtain ⟨x14, h15, h⟩ := obind h
    obtain ⟨x16, h17, h⟩ := obind h
    obtain ⟨x18, h19, h⟩ := obind h
    obtain ⟨h20, h⟩ := gd_some h
    exact wk_go (fuel := 114) [.go, .reg [oo], .br true, .reg [oo, .op (.ix (ce_Linteger_Int x2)), oo, oo, oo], .draw [.p, .p, .p, (.ix (ce_Lu32 x4)), .p, .p, (.call [[1], [1], [0]] [(TV.c (T.sl 1 ([].map ce_u32))), (tl 1 x4 ce_u32), (ti .u32 p)] (tl 1 x6 ce_u32)), .p, .p, (.ix (ce_Lu32 x8)), .p, .p, (.call [[1], [1], [0]] [(tl 1 x6 ce_u32), (tl 1 x8 ce_u32), (ti .u32 p)] (TV.tup [(false, [(T.sl 1 (x10.1.map ce_u32))]), (false, [(T.sl 1 (x10.2.1.map ce_u32))]), (false, [(T.int .i64 x10.2.2)])])), .p, .p, .p, .p, .p, .p] [.op .p], .draw [.p, .p, .p, (.call [[1], [0]] [(TV.c (T.sl 1 (x10.2.1.map ce_u32))), (ti .u32 p)] (tl 2 x12 ce_integer_Int)), .p, (.call [[2], [0,1]] [(tl 2 x12 ce_integer_Int), (TV.agg (ce_integer_Int power))] (tl 2 x14 ce_integer_Int))] [.op (.call [[2], [2]] [(tl 2 x2 ce_integer_Int), (tl 2 x14 ce_integer_Int)] (tl 2 x16 ce_integer_Int)), .op .p], .reg [oo, oo, .op (.call [[2], [0,1]] [(tl 2 x16 ce_integer_Int), (TV.agg (ce_integer_Int next))] (TV.tup [(false, [(T.sl 2 (x18.1.map ce_integer_Int))]), (false, [(T.int .i64 x18.2)])])), oo, oo, oo, oo], .pre [.keep [2,3,11,12,13,14,16,17,20,21,27,32,33,39,153,154,155] [11,12,17,20,32,193]], .reg [oo, oo, .op (.lit (([x18.1] : List (List integer_Int)).map ce_Linteger_Int)), .appR (([x18.1] : List (List integer_Int)).map ce_Linteger_Int) ((r193 ++ ([x18.1] : List (List integer_Int))).map ce_Linteger_Int), oo], .reg [oo, oo], .pre [.rl 33 0 (r193 ++ ([x18.1] : List (List integer_Int))).length, .keep [2,3,11,12,13,14,16,17,20,21,27,32,33,153,154,155] [11,12,17,20,32,193]]] _ hn (by kernel_rfl) (aC h1 <| aC (gi_nn h3) <| aC (gi_at ce_Linteger_Int h3) <| aC (gi_nn h5) <| aC (gi_at ce_Lu32 h5) <| aC (modpoly_Mul_holds h7) <| aC (gi_nn h9) <| aC (gi_at ce_Lu32 h9) <| aC (modpoly_Divide_holds h11) <| aC (modpoly_Symmetric_holds h13) <| aC (unipoly_Scale_holds h15) <| aC (unipoly_Add_holds h17) <| aC (hensel_Reduce_holds h19) <| aC (by kernel_rfl : [(T.sl 2 (x18.1.map ce_integer_Int))] = (([x18.1] : List (List integer_Int)).map ce_Linteger_Int).flatten) <| aC (by simp : r193.length = (r193.map ce_Linteger_Int).length) <| aC (sn_map _ _ _ (by simp) : ((([x18.1] : List (List integer_Int)).map ce_Linteger_Int).drop 0).take 1 = ([x18.1] : List (List integer_Int)).map ce_Linteger_Int) <| aC (app_map _ _ _ : r193.map ce_Linteger_Int ++ ([x18.1] : List (List integer_Int)).map ce_Linteger_Int = (r193 ++ ([x18.1] : List (List integer_Int))).map ce_Linteger_Int) <| aC ((len_map _ _).symm ▸ h20 : ((r193 ++ ([x18.1] : List (List integer_Int))).map ce_Linteger_Int).length * 24 ≤ 140737488355328) <| aC ((len_map _ _).symm ▸ room (by decide) h20 : ((r193 ++ ([x18.1] : List (List integer_Int))).map ce_Linteger_Int).length ≤ maxLen) <| aC r0 <| aC (by simp : ((r193 ++ ([x18.1] : List (List integer_Int))).map ce_Linteger_Int).length = (r193 ++ ([x18.1] : List (List integer_Int))).length) <| aN) (ih _ _ h cx hn)
  · skip
    rcases bcases h with ⟨h2, h⟩ | ⟨h2, h⟩
    · skip
      exact wk_go (fuel := 84) [.go, .reg [oo], .br false, .reg [oo, oo, oo, .op (.ia 0), oo], .reg [oo, oo], .pre [.rlB 17 0 0 r193.length, .keep [2,3,11,12,13,14,16,17,20,21] [11,12,17,20,193]]] _ hn (by kernel_rfl) (aC h1 <| aC (of_decide_eq_true h2 : (Int.tmod step (2 : Int)) = ((0 : Nat) : Int)) <| aC r0 <| aC (lq r193) <| aN) (ih _ _ h cx hn)
    · skip
      rcases bcases h with ⟨h3, h⟩ | ⟨h3, h⟩
      · skip
        exact wk_go (fuel := 84) [.go, .reg [oo], .br false, .reg [oo, oo, oo, .op (.ia 1), oo], .reg [oo, oo], .pre [.rlB 17 1 0 r193.length, .keep [2,3,11,12,13,14,16,17,20,21] [11,12,17,20,193]]] _ hn (by kernel_rfl) (aC h1 <| aC (of_decide_eq_true h3 : (Int.tmod step (2 : Int)) = ((1 : Nat) : Int)) <| aC r0 <| aC (lq r193) <| aN) (ih _ _ h cx hn)
      · skip
        cases h

theorem hensel_Lift_c43 {K} (ih : hensel_Lift_H K) {cx} (hn : cx.n = 208) {base top pair power next r193 p k goal monic parts step change t153 t154 t155} {r} (h : hensel_Lift_go (K + 1) (.c43 base top pair power next r193 p k goal monic parts step change t153 t154 t155) = some r) : hensel_Lift_S cx (.c43 base top pair power next r193 p k goal monic parts step change t153 t154 t155) r := by
  rw [hensel_Lift_go] at h
  rcases bcases h with ⟨h1, h⟩ | ⟨h1, h⟩
  · skip
    obtain ⟨x2, h3, h⟩ := obind h
    obtain ⟨x4, h5, h⟩ := obind h
    obtain ⟨x6, h7, h⟩ := obind h
    obtain ⟨x8, h9, h⟩ := obind h
    obtain ⟨x10, h11, h⟩ := obind h
    obtain ⟨x12, h13, h⟩ := obind h
    obtain ⟨x14, h15, h⟩ := obind h
    obtain ⟨x16, h17, h⟩ := obind h
    obtain ⟨x18, h19, h⟩ := obind h
    obtain ⟨h20, h⟩ := gd_some h
    exact wk_go (fuel := 114) [.go, .reg [oo], .br true, .reg [oo, .op (.ix (ce_Linteger_Int x2)), oo, oo, oo], .draw [.p, .p, .p, (.ix (ce_Lu32 x4)), .p, .p, (.call [[1], [1], [0]] [(tl 1 change ce_u32), (tl 1 x4 ce_u32), (ti .u32 p)] (tl 1 x6 ce_u32)), .p, .p, (.ix (ce_Lu32 x8)), .p, .p, (.call [[1], [1], [0]] [(tl 1 x6 ce_u32), (tl 1 x8 ce_u32), (ti .u32 p)] (TV.tup [(false, [(T.sl 1 (x10.1.map ce_u32))]), (false, [(T.sl 1 (x10.2.1.map ce_u32))]), (false, [(T.int .i64 x10.2.2)])])), .p, .p, .p, .p, .p, .p] [.op .p], .draw [.p, .p, .p, (.call [[1], [0]] [(TV.c (T.sl 1 (x10.2.1.map ce_u32))), (ti .u32 p)] (tl 2 x12 ce_integer_Int)), .p, (.call [[2], [0,1]] [(tl 2 x12 ce_integer_Int), (TV.agg (ce_integer_Int power))] (tl 2 x14 ce_integer_Int))] [.op (.call [[2], [2]] [(tl 2 x2 ce_integer_Int), (tl 2 x14 ce_integer_Int)] (tl 2 x16 ce_integer_Int)), .op .p], .reg [oo, oo, .op (.call [[2], [0,1]] [(tl 2 x16 ce_integer_Int), (TV.agg (ce_integer_Int next))] (TV.tup [(false, [(T.sl 2 (x18.1.map ce_integer_Int))]), (false, [(T.int .i64 x18.2)])])), oo, oo, oo, oo], .pre [.keep [2,3,11,12,13,14,16,17,20,21,27,32,33,39,153,154,155] [11,12,17,20,32,193]], .reg [oo, oo, .op (.lit (([x18.1] : List (List integer_Int)).map ce_Linteger_Int)), .appR (([x18.1] : List (List integer_Int)).map ce_Linteger_Int) ((r193 ++ ([x18.1] : List (List integer_Int))).map ce_Linteger_Int), oo], .reg [oo, oo], .pre [.rl 33 0 (r193 ++ ([x18.1] : List (List integer_Int))).length, .keep [2,3,11,12,13,14,16,17,20,21,27,32,33,153,154,155] [11,12,17,20,32,193]]] _ hn (by kernel_rfl) (aC h1 <| aC (gi_nn h3) <| aC (gi_at ce_Linteger_Int h3) <| aC (gi_nn h5) <| aC (gi_at ce_Lu32 h5) <| aC (modpoly_Mul_holds h7) <| aC (gi_nn h9) <| aC (gi_at ce_Lu32 h9) <| aC (modpoly_Divide_holds h11) <| aC (modpoly_Symmetric_holds h13) <| aC (unipoly_Scale_holds h15) <| aC (unipoly_Add_holds h17) <| aC (hensel_Reduce_holds h19) <| aC (by kernel_rfl : [(T.sl 2 (x18.1.map ce_integer_Int))] = (([x18.1] : List (List integer_Int)).map ce_Linteger_Int).flatten) <| aC (by simp : r193.length = (r193.map ce_Linteger_Int).length) <| aC (sn_map _ _ _ (by simp) : ((([x18.1] : List (List integer_Int)).map ce_Linteger_Int).drop 0).take 1 = ([x18.1] : List (List integer_Int)).map ce_Linteger_Int) <| aC (app_map _ _ _ : r193.map ce_Linteger_Int ++ ([x18.1] : List (List integer_Int)).map ce_Linteger_Int = (r193 ++ ([x18.1] : List (List integer_Int))).map ce_Linteger_Int) <| aC ((len_map _ _).symm ▸ h20 : ((r193 ++ ([x18.1] : List (List integer_Int))).map ce_Linteger_Int).length * 24 ≤ 140737488355328) <| aC ((len_map _ _).symm ▸ room (by decide) h20 : ((r193 ++ ([x18.1] : List (List integer_Int))).map ce_Linteger_Int).length ≤ maxLen) <| aC r0 <| aC (by simp : ((r193 ++ ([x18.1] : List (List integer_Int))).map ce_Linteger_Int).length = (r193 ++ ([x18.1] : List (List integer_Int))).length) <| aN) (ih _ _ h cx hn)
  · skip
    rcases bcases h with ⟨h2, h⟩ | ⟨h2, h⟩
    · skip
      exact wk_go (fuel := 84) [.go, .reg [oo], .br false, .reg [oo, oo, oo, .op (.ia 0), oo], .reg [oo, oo], .pre [.rlB 17 0 0 r193.length, .keep [2,3,11,12,13,14,16,17,20,21] [11,12,17,20,193]]] _ hn (by kernel_rfl) (aC h1 <| aC (of_decide_eq_true h2 : (Int.tmod step (2 : Int)) = ((0 : Nat) : Int)) <| aC r0 <| aC (lq r193) <| aN) (ih _ _ h cx hn)
    · skip
      rcases bcases h with ⟨h3, h⟩ | ⟨h3, h⟩
      · skip
        exact wk_go (fuel := 84) [.go, .reg [oo], .br false, .reg [oo, oo, oo, .op (.ia 1), oo], .reg [oo, oo], .pre [.rlB 17 1 0 r193.length, .keep [2,3,11,12,13,14,16,17,20,21] [11,12,17,20,193]]] _ hn (by kernel_rfl) (aC h1 <| aC (of_decide_eq_true h3 : (Int.tmod step (2 : Int)) = ((1 : Nat) : Int)) <| aC r0 <| aC (lq r193) <| aN) (ih _ _ h cx hn)
      · skip
        cases h

theorem hensel_Lift_c44 {K} (ih : hensel_Lift_H K) {cx} (hn : cx.n = 208) {base top power r193 p k goal monic parts step} {r} (h : hensel_Lift_go (K + 1) (.c44 base top power r193 p k goal monic parts step) = some r) : hensel_Lift_S cx (.c44 base top power r193 p k goal monic parts step) r := by
  rw [hensel_Lift_go] at h
  exact wk_go (fuel := 44) [.reg [oo, oo, oo], .pre [.snapC 17 1 (max 0 (0 + r193.length)) (r193.map ce_Linteger_Int)], .pre [.keep [2,3,11,12,13,14,16,17,20,21] [11,12,17,20]]] _ hn (by kernel_rfl) (aC (sn_map _ _ _ (by simp) : ((r193.map ce_Linteger_Int).drop 0).take r193.length = r193.map ce_Linteger_Int) <| aC (rfl : (max 0 (0 + r193.length)) = (max 0 (0 + r193.length))) <| aN) (ih _ _ h cx hn)

theorem hensel_Lift_all : ∀ K : Nat, hensel_Lift_H K
  | 0, c, r, h => by rw [hensel_Lift_go] at h; cases h
  | K + 1, .c0 .., r, h => fun cx hn => hensel_Lift_c0 (hensel_Lift_all K) hn h
  | K + 1, .c1 .., r, h => fun cx hn => hensel_Lift_c1 (hensel_Lift_all K) hn h
  | K + 1, .c2 .., r, h => fun cx hn => hensel_Lift_c2 (hensel_Lift_all K) hn h
  | K + 1, .c3 .., r, h => fun cx hn => hensel_Lift_c3 (hensel_Lift_all K) hn h
  | K + 1, .c4 .., r, h => fun cx hn => hensel_Lift_c4 (hensel_Lift_all K) hn h
  | K + 1, .c5 .., r, h => fun cx hn => hensel_Lift_c5 (hensel_Lift_all K) hn h
  | K + 1, .c6 .., r, h => fun cx hn => hensel_Lift_c6 (hensel_Lift_all K) hn h
  | K + 1, .c7 .., r, h => fun cx hn => hensel_Lift_c7 (hensel_Lift_all K) hn h
  | K + 1, .c8 .., r, h => fun cx hn => hensel_Lift_c8 (hensel_Lift_all K) hn h
  | K + 1, .c9 .., r, h => fun cx hn => hensel_Lift_c9 (hensel_Lift_all K) hn h
  | K + 1, .c10 .., r, h => fun cx hn => hensel_Lift_c10 (hensel_Lift_all K) hn h
  | K + 1, .c11 .., r, h => fun cx hn => hensel_Lift_c11 (hensel_Lift_all K) hn h
  | K + 1, .c12 .., r, h => fun cx hn => hensel_Lift_c12 (hensel_Lift_all K) hn h
  | K + 1, .c13 .., r, h => fun cx hn => hensel_Lift_c13 (hensel_Lift_all K) hn h
  | K + 1, .c14 .., r, h => fun cx hn => hensel_Lift_c14 (hensel_Lift_all K) hn h
  | K + 1, .c15 .., r, h => fun cx hn => hensel_Lift_c15 (hensel_Lift_all K) hn h
  | K + 1, .c16 .., r, h => fun cx hn => hensel_Lift_c16 (hensel_Lift_all K) hn h
  | K + 1, .c17 .., r, h => fun cx hn => hensel_Lift_c17 (hensel_Lift_all K) hn h
  | K + 1, .c18 .., r, h => fun cx hn => hensel_Lift_c18 (hensel_Lift_all K) hn h
  | K + 1, .c19 .., r, h => fun cx hn => hensel_Lift_c19 (hensel_Lift_all K) hn h
  | K + 1, .c20 .., r, h => fun cx hn => hensel_Lift_c20 (hensel_Lift_all K) hn h
  | K + 1, .c21 .., r, h => fun cx hn => hensel_Lift_c21 (hensel_Lift_all K) hn h
  | K + 1, .c22 .., r, h => fun cx hn => hensel_Lift_c22 (hensel_Lift_all K) hn h
  | K + 1, .c23 .., r, h => fun cx hn => hensel_Lift_c23 (hensel_Lift_all K) hn h
  | K + 1, .c24 .., r, h => fun cx hn => hensel_Lift_c24 (hensel_Lift_all K) hn h
  | K + 1, .c25 .., r, h => fun cx hn => hensel_Lift_c25 (hensel_Lift_all K) hn h
  | K + 1, .c26 .., r, h => fun cx hn => hensel_Lift_c26 (hensel_Lift_all K) hn h
  | K + 1, .c27 .., r, h => fun cx hn => hensel_Lift_c27 (hensel_Lift_all K) hn h
  | K + 1, .c28 .., r, h => fun cx hn => hensel_Lift_c28 (hensel_Lift_all K) hn h
  | K + 1, .c29 .., r, h => fun cx hn => hensel_Lift_c29 (hensel_Lift_all K) hn h
  | K + 1, .c30 .., r, h => fun cx hn => hensel_Lift_c30 (hensel_Lift_all K) hn h
  | K + 1, .c31 .., r, h => fun cx hn => hensel_Lift_c31 (hensel_Lift_all K) hn h
  | K + 1, .c32 .., r, h => fun cx hn => hensel_Lift_c32 (hensel_Lift_all K) hn h
  | K + 1, .c33 .., r, h => fun cx hn => hensel_Lift_c33 (hensel_Lift_all K) hn h
  | K + 1, .c34 .., r, h => fun cx hn => hensel_Lift_c34 (hensel_Lift_all K) hn h
  | K + 1, .c35 .., r, h => fun cx hn => hensel_Lift_c35 (hensel_Lift_all K) hn h
  | K + 1, .c36 .., r, h => fun cx hn => hensel_Lift_c36 (hensel_Lift_all K) hn h
  | K + 1, .c37 .., r, h => fun cx hn => hensel_Lift_c37 (hensel_Lift_all K) hn h
  | K + 1, .c38 .., r, h => fun cx hn => hensel_Lift_c38 (hensel_Lift_all K) hn h
  | K + 1, .c39 .., r, h => fun cx hn => hensel_Lift_c39 (hensel_Lift_all K) hn h
  | K + 1, .c40 .., r, h => fun cx hn => hensel_Lift_c40 (hensel_Lift_all K) hn h
  | K + 1, .c41 .., r, h => fun cx hn => hensel_Lift_c41 (hensel_Lift_all K) hn h
  | K + 1, .c42 .., r, h => fun cx hn => hensel_Lift_c42 (hensel_Lift_all K) hn h
  | K + 1, .c43 .., r, h => fun cx hn => hensel_Lift_c43 (hensel_Lift_all K) hn h
  | K + 1, .c44 .., r, h => fun cx hn => hensel_Lift_c44 (hensel_Lift_all K) hn h

theorem hensel_Lift_holds {K : Nat} {f : (List integer_Int)} {list : (List (List Int))} {p : Int} {k : Int} {r : ((List (List integer_Int)) × Int)} (h : hensel_Lift K f list p k = some r) : Holds prog 62 [(tl 2 f ce_integer_Int), (tl 1 list ce_Lu32), (ti .u32 p), (ti .i64 k)] (TV.tup [(false, [(T.sl 1 (r.1.map ce_Linteger_Int))]), (false, [(T.int .i64 r.2)])]) :=
  holds_wk [[1], [0]] (by kernel_rfl) (by simp) fun cx hn => hensel_Lift_all K (.c0 f list p k) r h cx hn
end Go.Am.X
namespace Go.Am.X
open Go.Proofs.Try (prog)


inductive unipoly_Compare_Cut where
  | c0 (f : (List integer_Int)) (g : (List integer_Int))
  | c1 (f : (List integer_Int)) (g : (List integer_Int)) (i : Int)

def unipoly_Compare_go : Nat → unipoly_Compare_Cut → Option Int
  | 0, _ => none
  | K + 1, .c0 f g =>
    (unipoly_trim K f).bind fun x1 =>
    (unipoly_trim K g).bind fun x3 =>
    bif (decide ((x3.length : Int) < (x1.length : Int))) then
      some (1 : Int)
    else
      bif (decide ((x1.length : Int) < (x3.length : Int))) then
        some (-1 : Int)
      else
        unipoly_Compare_go K (.c1 x1 x3 (IntKind.i64.wrap ((x1.length : Int) - (1 : Int))))
  | K + 1, .c1 f g i =>
    bif (decide ((0 : Int) ≤ i)) then
      (gi f i).bind fun x2 =>
      (gi g i).bind fun x4 =>
      (integer_Cmp K x2 x4).bind fun x6 =>
      bif (!decide (x6 = (0 : Int))) then
        some x6
      else
        unipoly_Compare_go K (.c1 f g (IntKind.i64.wrap (i - (1 : Int))))
    else
      some (0 : Int)

def unipoly_Compare (K : Nat) (f : (List integer_Int)) (g : (List integer_Int)) : Option Int := unipoly_Compare_go K (.c0 f g)

noncomputable def unipoly_Compare_body : Code := bodyOf prog 124
noncomputable def unipoly_Compare_pos : unipoly_Compare_Cut → List Fr
  | .c0 .. => [.code unipoly_Compare_body]
  | .c1 .. => [.code (.loop (atC unipoly_Compare_body [1,1,1,0,1,0,0])), .blk 1, .code (atC unipoly_Compare_body [1,1,1,1])]
def unipoly_Compare_st : unipoly_Compare_Cut → St
  | .c0 f g => St.init [(tl 2 f ce_integer_Int), (tl 2 g ce_integer_Int)]
  | .c1 f g i => ⟨[(0, vl 2 f ce_integer_Int), (1, vl 2 g ce_integer_Int), (5, vi .i64 i)], [], []⟩

def unipoly_Compare_S (cx : Cx) (c : unipoly_Compare_Cut) (r : Int) : Prop := Wk prog cx (EndsF prog 124 [[0]] (ti .i64 r)) (unipoly_Compare_pos c) .normal (unipoly_Compare_st c)
abbrev unipoly_Compare_H (K : Nat) : Prop := ∀ c r, unipoly_Compare_go K c = some r → ∀ cx : Cx, cx.n = 42 → unipoly_Compare_S cx c r

theorem unipoly_Compare_c0 {K} (ih : unipoly_Compare_H K) {cx} (hn : cx.n = 42) {f g} {r} (h : unipoly_Compare_go (K + 1) (.c0 f g) = some r) : unipoly_Compare_S cx (.c0 f g) r := by
  rw [unipoly_Compare_go] at h
  obtain ⟨x1, h2, h⟩ := obind h
  obtain ⟨x3, h4, h⟩ := obind h
  rcases bcases h with ⟨h5, h⟩ | ⟨h5, h⟩
  · skip
    have h := Option.some.inj h; subst h
    exact wk_ret (fuel := 84) [.reg [oo], .reg [oo, .op (.call [[2]] [(tl 2 f ce_integer_Int)] (tl 2 x1 ce_integer_Int)), oo, .op (.call [[2]] [(tl 2 g ce_integer_Int)] (tl 2 x3 ce_integer_Int)), oo, oo], .reg [oo, .op (.ln (x1.length : Int)), oo, .op (.ln (x3.length : Int)), oo, oo], .br true, .reg [oo]] _ hn (by kernel_rfl) (aC (unipoly_trim_holds h2) <| aC (unipoly_trim_holds h4) <| aC (ln_eq x1 ce_integer_Int) <| aC (ln_eq x3 ce_integer_Int) <| aC h5 <| aN)
  · skip
    rcases bcases h with ⟨h6, h⟩ | ⟨h6, h⟩
    · skip
      have h := Option.some.inj h; subst h
      exact wk_ret (fuel := 98) [.reg [oo], .reg [oo, .op (.call [[2]] [(tl 2 f ce_integer_Int)] (tl 2 x1 ce_integer_Int)), oo, .op (.call [[2]] [(tl 2 g ce_integer_Int)] (tl 2 x3 ce_integer_Int)), oo, oo], .reg [oo, .op (.ln (x1.length : Int)), oo, .op (.ln (x3.length : Int)), oo, oo], .br false, .reg [oo, .op (.ln (x1.length : Int)), oo, .op (.ln (x3.length : Int)), oo, oo], .br true, .reg [oo]] _ hn (by kernel_rfl) (aC (unipoly_trim_holds h2) <| aC (unipoly_trim_holds h4) <| aC (ln_eq x1 ce_integer_Int) <| aC (ln_eq x3 ce_integer_Int) <| aC h5 <| aC (ln_eq x1 ce_integer_Int) <| aC (ln_eq x3 ce_integer_Int) <| aC h6 <| aN)
    · skip
      exact wk_go (fuel := 100) [.reg [oo], .reg [oo, .op (.call [[2]] [(tl 2 f ce_integer_Int)] (tl 2 x1 ce_integer_Int)), oo, .op (.call [[2]] [(tl 2 g ce_integer_Int)] (tl 2 x3 ce_integer_Int)), oo, oo], .reg [oo, .op (.ln (x1.length : Int)), oo, .op (.ln (x3.length : Int)), oo, oo], .br false, .reg [oo, .op (.ln (x1.length : Int)), oo, .op (.ln (x3.length : Int)), oo, oo], .br false, .reg [oo, .op (.ln (x1.length : Int)), oo, oo], .pre [.keep [0,1,5] []]] _ hn (by kernel_rfl) (aC (unipoly_trim_holds h2) <| aC (unipoly_trim_holds h4) <| aC (ln_eq x1 ce_integer_Int) <| aC (ln_eq x3 ce_integer_Int) <| aC h5 <| aC (ln_eq x1 ce_integer_Int) <| aC (ln_eq x3 ce_integer_Int) <| aC h6 <| aC (ln_eq x1 ce_integer_Int) <| aN) (ih _ _ h cx hn)

theorem unipoly_Compare_c1 {K} (ih : unipoly_Compare_H K) {cx} (hn : cx.n = 42) {f g i} {r} (h : unipoly_Compare_go (K + 1) (.c1 f g i) = some r) : unipoly_Compare_S cx (.c1 f g i) r := by
  rw [unipoly_Compare_go] at h
  rcases bcases h with ⟨h1, h⟩ | ⟨h1, h⟩
  · skip
    obtain ⟨x2, h3, h⟩ := obind h
    obtain ⟨x4, h5, h⟩ := obind h
    obtain ⟨x6, h7, h⟩ := obind h
    rcases bcases h with ⟨h8, h⟩ | ⟨h8, h⟩
    · skip
      have h := Option.some.inj h; subst h
      exact wk_ret (fuel := 108) [.go, .reg [oo, oo], .br true, .draw [.p, .p, (.ix (ce_integer_Int x2)), .p, .p, .p, (.ix (ce_integer_Int x4)), .p] [.op (.call [[0,1], [0,1]] [(TV.agg (ce_integer_Int x2)), (TV.agg (ce_integer_Int x4))] (ti .i64 x6)), .op .p], .reg [oo, oo], .br true, .reg [oo, oo]] _ hn (by kernel_rfl) (aC h1 <| aC (gi_nn h3) <| aC (gi_at ce_integer_Int h3) <| aC (gi_nn h5) <| aC (gi_at ce_integer_Int h5) <| aC (integer_Cmp_holds h7) <| aC h8 <| aN)
    · skip
      exact wk_go (fuel := 100) [.go, .reg [oo, oo], .br true, .draw [.p, .p, (.ix (ce_integer_Int x2)), .p, .p, .p, (.ix (ce_integer_Int x4)), .p] [.op (.call [[0,1], [0,1]] [(TV.agg (ce_integer_Int x2)), (TV.agg (ce_integer_Int x4))] (ti .i64 x6)), .op .p], .reg [oo, oo], .br false, .reg [oo, oo, oo], .pre [.keep [0,1,5] []]] _ hn (by kernel_rfl) (aC h1 <| aC (gi_nn h3) <| aC (gi_at ce_integer_Int h3) <| aC (gi_nn h5) <| aC (gi_at ce_integer_Int h5) <| aC (integer_Cmp_holds h7) <| aC h8 <| aN) (ih _ _ h cx hn)
  · skip
    have h := Option.some.inj h; subst h
    exact wk_ret (fuel := 78) [.go, .reg [oo, oo], .br false, .reg [oo]] _ hn (by kernel_rfl) (aC h1 <| aN)

theorem unipoly_Compare_all : ∀ K : Nat, unipoly_Compare_H K
  | 0, c, r, h => by rw [unipoly_Compare_go] at h; cases h
  | K + 1, .c0 .., r, h => fun cx hn => unipoly_Compare_c0 (unipoly_Compare_all K) hn h
  | K + 1, .c1 .., r, h => fun cx hn => unipoly_Compare_c1 (unipoly_Compare_all K) hn h

theorem unipoly_Compare_holds {K : Nat} {f : (List integer_Int)} {g : (List integer_Int)} {r : Int} (h : unipoly_Compare K f g = some r) : Holds prog 124 [(tl 2 f ce_integer_Int), (tl 2 g ce_integer_Int)] (ti .i64 r) :=
  holds_wk [[0]] (by kernel_rfl) (by simp) fun cx hn => unipoly_Compare_all K (.c0 f g) r h cx hn
end Go.Am.X
namespace Go.Am.X
open Go.Proofs.Try (prog)


inductive unipoly_Same_Cut where
  | c0 (f : (List integer_Int)) (g : (List integer_Int))

def unipoly_Same_go : Nat → unipoly_Same_Cut → Option Bool
  | 0, _ => none
  | K + 1, .c0 f g =>
    (unipoly_Compare K f g).bind fun x1 =>
    some (decide (x1 = (0 : Int)))

def unipoly_Same (K : Nat) (f : (List integer_Int)) (g : (List integer_Int)) : Option Bool := unipoly_Same_go K (.c0 f g)

noncomputable def unipoly_Same_body : Code := bodyOf prog 65
noncomputable def unipoly_Same_pos : unipoly_Same_Cut → List Fr
  | .c0 .. => [.code unipoly_Same_body]
def unipoly_Same_st : unipoly_Same_Cut → St
  | .c0 f g => St.init [(tl 2 f ce_integer_Int), (tl 2 g ce_integer_Int)]

def unipoly_Same_S (cx : Cx) (c : unipoly_Same_Cut) (r : Bool) : Prop := Wk prog cx (EndsF prog 65 [[0]] (TV.c (T.bool r))) (unipoly_Same_pos c) .normal (unipoly_Same_st c)
abbrev unipoly_Same_H (K : Nat) : Prop := ∀ c r, unipoly_Same_go K c = some r → ∀ cx : Cx, cx.n = 9 → unipoly_Same_S cx c r

theorem unipoly_Same_c0 {K} (_ : unipoly_Same_H K) {cx} (hn : cx.n = 9) {f g} {r} (h : unipoly_Same_go (K + 1) (.c0 f g) = some r) : unipoly_Same_S cx (.c0 f g) r := by
  rw [unipoly_Same_go] at h
  obtain ⟨x1, h2, h⟩ := obind h
  have h := Option.some.inj h; subst h
  exact wk_ret (fuel := 54) [.reg [oo], .reg [oo, oo, .op (.call [[2], [2]] [(tl 2 f ce_integer_Int), (tl 2 g ce_integer_Int)] (ti .i64 x1)), oo, oo]] _ hn (by kernel_rfl) (aC (unipoly_Compare_holds h2) <| aN)

theorem unipoly_Same_all : ∀ K : Nat, unipoly_Same_H K
  | 0, c, r, h => by rw [unipoly_Same_go] at h; cases h
  | K + 1, .c0 .., r, h => fun cx hn => unipoly_Same_c0 (unipoly_Same_all K) hn h

theorem unipoly_Same_holds {K : Nat} {f : (List integer_Int)} {g : (List integer_Int)} {r : Bool} (h : unipoly_Same K f g = some r) : Holds prog 65 [(tl 2 f ce_integer_Int), (tl 2 g ce_integer_Int)] (TV.c (T.bool r)) :=
  holds_wk [[0]] (by kernel_rfl) (by simp) fun cx hn => unipoly_Same_all K (.c0 f g) r h cx hn
end Go.Am.X
namespace Go.Am.X
open Go.Proofs.Try (prog)


inductive cylinderlaw12_fit_Cut where
  | c0 

def cylinderlaw12_fit_go : Nat → cylinderlaw12_fit_Cut → Option Bool
  | 0, _ => none
  | K + 1, .c0  =>
    (unipoly_Of K ([(1 : Int), (0 : Int), (1 : Int)] : List Int)).bind fun x1 =>
    (hensel_Lift K x1 ([([(2 : Int), (1 : Int)] : List Int), ([(3 : Int), (1 : Int)] : List Int)] : List (List Int)) (5 : Int) (2 : Int)).bind fun x3 =>
    bif (decide (x3.2 = (0 : Int))) then
      bif (decide ((x3.1.length : Int) = (2 : Int))) then
        (gi x3.1 (0 : Int)).bind fun x7 =>
        (unipoly_Of K ([(7 : Int), (1 : Int)] : List Int)).bind fun x9 =>
        (unipoly_Same K x7 x9).bind fun x11 =>
        bif x11 then
          (gi x3.1 (1 : Int)).bind fun x14 =>
          (unipoly_Of K ([(-7 : Int), (1 : Int)] : List Int)).bind fun x16 =>
          (unipoly_Same K x14 x16).bind fun x18 =>
          some x18
        else
          some false
      else
        some false
    else
      some false

def cylinderlaw12_fit (K : Nat) : Option Bool := cylinderlaw12_fit_go K .c0

noncomputable def cylinderlaw12_fit_body : Code := bodyOf prog 43
noncomputable def cylinderlaw12_fit_pos : cylinderlaw12_fit_Cut → List Fr
  | .c0  => [.code cylinderlaw12_fit_body]
def cylinderlaw12_fit_st : cylinderlaw12_fit_Cut → St
  | .c0  => St.init []

def cylinderlaw12_fit_S (cx : Cx) (c : cylinderlaw12_fit_Cut) (r : Bool) : Prop := Wk prog cx (EndsF prog 43 [[0]] (TV.c (T.bool r))) (cylinderlaw12_fit_pos c) .normal (cylinderlaw12_fit_st c)
abbrev cylinderlaw12_fit_H (K : Nat) : Prop := ∀ c r, cylinderlaw12_fit_go K c = some r → ∀ cx : Cx, cx.n = 35 → cylinderlaw12_fit_S cx c r

theorem cylinderlaw12_fit_c0 {K} (_ : cylinderlaw12_fit_H K) {cx} (hn : cx.n = 35)  {r} (h : cylinderlaw12_fit_go (K + 1) .c0 = some r) : cylinderlaw12_fit_S cx .c0 r := by
  rw [cylinderlaw12_fit_go] at h
  obtain ⟨x1, h2, h⟩ := obind h
  obtain ⟨x3, h4, h⟩ := obind h
  rcases bcases h with ⟨h5, h⟩ | ⟨h5, h⟩
  · skip
    rcases bcases h with ⟨h6, h⟩ | ⟨h6, h⟩
    · skip
      obtain ⟨x7, h8, h⟩ := obind h
      obtain ⟨x9, h10, h⟩ := obind h
      obtain ⟨x11, h12, h⟩ := obind h
      rcases bcases h with ⟨h13, h⟩ | ⟨h13, h⟩
      · skip
        obtain ⟨x14, h15, h⟩ := obind h
        obtain ⟨x16, h17, h⟩ := obind h
        obtain ⟨x18, h19, h⟩ := obind h
        have h := Option.some.inj h; subst h
        exact wk_ret (fuel := 62) [.reg [oo], .reg [.op (.lit (([(1 : Int), (0 : Int), (1 : Int)] : List Int).map ce_i64)), .snap 4 (max 0 (0 + 3)) (([(1 : Int), (0 : Int), (1 : Int)] : List Int).map ce_i64), .op (.call [[1]] [(TV.c (T.sl 1 (([(1 : Int), (0 : Int), (1 : Int)] : List Int).map ce_i64)))] (tl 2 x1 ce_integer_Int)), .op (.lit (([(2 : Int), (1 : Int)] : List Int).map ce_u32)), .op (.lit (([(3 : Int), (1 : Int)] : List Int).map ce_u32)), .snap 6 (max 0 (0 + 2)) (([(2 : Int), (1 : Int)] : List Int).map ce_u32), .snap 7 (max 0 (0 + 2)) (([(3 : Int), (1 : Int)] : List Int).map ce_u32), .op (.lit (([([(2 : Int), (1 : Int)] : List Int), ([(3 : Int), (1 : Int)] : List Int)] : List (List Int)).map ce_Lu32)), .snap 8 (max 0 (0 + 2)) (([([(2 : Int), (1 : Int)] : List Int), ([(3 : Int), (1 : Int)] : List Int)] : List (List Int)).map ce_Lu32), .op (.call [[2], [1], [0], [0]] [(tl 2 x1 ce_integer_Int), (TV.c (T.sl 1 (([([(2 : Int), (1 : Int)] : List Int), ([(3 : Int), (1 : Int)] : List Int)] : List (List Int)).map ce_Lu32))), (TV.c (T.int .u32 (5 : Int))), (TV.c (T.int .i64 (2 : Int)))] (TV.tup [(false, [(T.sl 1 (x3.1.map ce_Linteger_Int))]), (false, [(T.int .i64 x3.2)])])), oo, oo, oo, oo, oo], .draw [.p, .p, .p, (.ga true .p), (.ga true (.ln (x3.1.length : Int))), (.ga true .p), (.pk true), .p, (.ga true .p), (.ga true (.ix (ce_Linteger_Int x7))), (.ga true .p), (.ga true (.litT (([(7 : Int), (1 : Int)] : List Int).map ce_i64))), (.ga true (.call [[1]] [(TV.c (T.sl 1 (([(7 : Int), (1 : Int)] : List Int).map ce_i64)))] (tl 2 x9 ce_integer_Int))), (.ga true (.call [[2], [2]] [(tl 2 x7 ce_integer_Int), (tl 2 x9 ce_integer_Int)] (TV.c (T.bool x11)))), (.pk true), .p, (.ga true .p), (.ga true (.ix (ce_Linteger_Int x14))), (.ga true .p), (.ga true (.litT (([(-7 : Int), (1 : Int)] : List Int).map ce_i64))), (.ga true (.call [[1]] [(TV.c (T.sl 1 (([(-7 : Int), (1 : Int)] : List Int).map ce_i64)))] (tl 2 x16 ce_integer_Int))), (.ga true (.call [[2], [2]] [(tl 2 x14 ce_integer_Int), (tl 2 x16 ce_integer_Int)] (TV.c (T.bool x18)))), (.pk true), .p] []] _ hn (by kernel_rfl) (aC (by kernel_rfl : [(T.int .i64 (1 : Int)), (T.int .i64 (0 : Int)), (T.int .i64 (1 : Int))] = (([(1 : Int), (0 : Int), (1 : Int)] : List Int).map ce_i64).flatten) <| aC (sn_map _ _ _ (by simp) : ((([(1 : Int), (0 : Int), (1 : Int)] : List Int).map ce_i64).drop 0).take 3 = ([(1 : Int), (0 : Int), (1 : Int)] : List Int).map ce_i64) <| aC (rfl : (max 0 (0 + 3)) = (max 0 (0 + 3))) <| aC (unipoly_Of_holds h2) <| aC (by kernel_rfl : [(T.int .u32 (2 : Int)), (T.int .u32 (1 : Int))] = (([(2 : Int), (1 : Int)] : List Int).map ce_u32).flatten) <| aC (by kernel_rfl : [(T.int .u32 (3 : Int)), (T.int .u32 (1 : Int))] = (([(3 : Int), (1 : Int)] : List Int).map ce_u32).flatten) <| aC (sn_map _ _ _ (by simp) : ((([(2 : Int), (1 : Int)] : List Int).map ce_u32).drop 0).take 2 = ([(2 : Int), (1 : Int)] : List Int).map ce_u32) <| aC (rfl : (max 0 (0 + 2)) = (max 0 (0 + 2))) <| aC (sn_map _ _ _ (by simp) : ((([(3 : Int), (1 : Int)] : List Int).map ce_u32).drop 0).take 2 = ([(3 : Int), (1 : Int)] : List Int).map ce_u32) <| aC (rfl : (max 0 (0 + 2)) = (max 0 (0 + 2))) <| aC (by kernel_rfl : [(T.sl 1 (([(2 : Int), (1 : Int)] : List Int).map ce_u32)), (T.sl 1 (([(3 : Int), (1 : Int)] : List Int).map ce_u32))] = (([([(2 : Int), (1 : Int)] : List Int), ([(3 : Int), (1 : Int)] : List Int)] : List (List Int)).map ce_Lu32).flatten) <| aC (sn_map _ _ _ (by simp) : ((([([(2 : Int), (1 : Int)] : List Int), ([(3 : Int), (1 : Int)] : List Int)] : List (List Int)).map ce_Lu32).drop 0).take 2 = ([([(2 : Int), (1 : Int)] : List Int), ([(3 : Int), (1 : Int)] : List Int)] : List (List Int)).map ce_Lu32) <| aC (rfl : (max 0 (0 + 2)) = (max 0 (0 + 2))) <| aC (hensel_Lift_holds h4) <| aC h5 <| aC h5 <| aC (ln_eq x3.1 ce_Linteger_Int) <| aC h5 <| aC h5 <| aC h6 <| aC h6 <| aC (gi_nn h8) <| aC (gi_at ce_Linteger_Int h8) <| aC h6 <| aC h6 <| aC (by kernel_rfl : [(T.int .i64 (7 : Int)), (T.int .i64 (1 : Int))] = (([(7 : Int), (1 : Int)] : List Int).map ce_i64).flatten) <| aC h6 <| aC (unipoly_Of_holds h10) <| aC h6 <| aC (unipoly_Same_holds h12) <| aC h6 <| aC h13 <| aC h13 <| aC (gi_nn h15) <| aC (gi_at ce_Linteger_Int h15) <| aC h13 <| aC h13 <| aC (by kernel_rfl : [(T.int .i64 (-7 : Int)), (T.int .i64 (1 : Int))] = (([(-7 : Int), (1 : Int)] : List Int).map ce_i64).flatten) <| aC h13 <| aC (unipoly_Of_holds h17) <| aC h13 <| aC (unipoly_Same_holds h19) <| aC h13 <| aN)
      · skip
        have h := Option.some.inj h; subst h
        exact wk_ret (fuel := 62) [.reg [oo], .reg [.op (.lit (([(1 : Int), (0 : Int), (1 : Int)] : List Int).map ce_i64)), .snap 4 (max 0 (0 + 3)) (([(1 : Int), (0 : Int), (1 : Int)] : List Int).map ce_i64), .op (.call [[1]] [(TV.c (T.sl 1 (([(1 : Int), (0 : Int), (1 : Int)] : List Int).map ce_i64)))] (tl 2 x1 ce_integer_Int)), .op (.lit (([(2 : Int), (1 : Int)] : List Int).map ce_u32)), .op (.lit (([(3 : Int), (1 : Int)] : List Int).map ce_u32)), .snap 6 (max 0 (0 + 2)) (([(2 : Int), (1 : Int)] : List Int).map ce_u32), .snap 7 (max 0 (0 + 2)) (([(3 : Int), (1 : Int)] : List Int).map ce_u32), .op (.lit (([([(2 : Int), (1 : Int)] : List Int), ([(3 : Int), (1 : Int)] : List Int)] : List (List Int)).map ce_Lu32)), .snap 8 (max 0 (0 + 2)) (([([(2 : Int), (1 : Int)] : List Int), ([(3 : Int), (1 : Int)] : List Int)] : List (List Int)).map ce_Lu32), .op (.call [[2], [1], [0], [0]] [(tl 2 x1 ce_integer_Int), (TV.c (T.sl 1 (([([(2 : Int), (1 : Int)] : List Int), ([(3 : Int), (1 : Int)] : List Int)] : List (List Int)).map ce_Lu32))), (TV.c (T.int .u32 (5 : Int))), (TV.c (T.int .i64 (2 : Int)))] (TV.tup [(false, [(T.sl 1 (x3.1.map ce_Linteger_Int))]), (false, [(T.int .i64 x3.2)])])), oo, oo, oo, oo, oo], .draw [.p, .p, .p, (.ga true .p), (.ga true (.ln (x3.1.length : Int))), (.ga true .p), (.pk true), .p, (.ga true .p), (.ga true (.ix (ce_Linteger_Int x7))), (.ga true .p), (.ga true (.litT (([(7 : Int), (1 : Int)] : List Int).map ce_i64))), (.ga true (.call [[1]] [(TV.c (T.sl 1 (([(7 : Int), (1 : Int)] : List Int).map ce_i64)))] (tl 2 x9 ce_integer_Int))), (.ga true (.call [[2], [2]] [(tl 2 x7 ce_integer_Int), (tl 2 x9 ce_integer_Int)] (TV.c (T.bool x11)))), (.pk true), .p, (.ga false .p), (.ga false .p), (.ga false .p), (.ga false .p), (.ga false .p), (.ga false .p), (.pk false), .p] []] _ hn (by kernel_rfl) (aC (by kernel_rfl : [(T.int .i64 (1 : Int)), (T.int .i64 (0 : Int)), (T.int .i64 (1 : Int))] = (([(1 : Int), (0 : Int), (1 : Int)] : List Int).map ce_i64).flatten) <| aC (sn_map _ _ _ (by simp) : ((([(1 : Int), (0 : Int), (1 : Int)] : List Int).map ce_i64).drop 0).take 3 = ([(1 : Int), (0 : Int), (1 : Int)] : List Int).map ce_i64) <| aC (rfl : (max 0 (0 + 3)) = (max 0 (0 + 3))) <| aC (unipoly_Of_holds h2) <| aC (by kernel_rfl : [(T.int .u32 (2 : Int)), (T.int .u32 (1 : Int))] = (([(2 : Int), (1 : Int)] : List Int).map ce_u32).flatten) <| aC (by kernel_rfl : [(T.int .u32 (3 : Int)), (T.int .u32 (1 : Int))] = (([(3 : Int), (1 : Int)] : List Int).map ce_u32).flatten) <| aC (sn_map _ _ _ (by simp) : ((([(2 : Int), (1 : Int)] : List Int).map ce_u32).drop 0).take 2 = ([(2 : Int), (1 : Int)] : List Int).map ce_u32) <| aC (rfl : (max 0 (0 + 2)) = (max 0 (0 + 2))) <| aC (sn_map _ _ _ (by simp) : ((([(3 : Int), (1 : Int)] : List Int).map ce_u32).drop 0).take 2 = ([(3 : Int), (1 : Int)] : List Int).map ce_u32) <| aC (rfl : (max 0 (0 + 2)) = (max 0 (0 + 2))) <| aC (by kernel_rfl : [(T.sl 1 (([(2 : Int), (1 : Int)] : List Int).map ce_u32)), (T.sl 1 (([(3 : Int), (1 : Int)] : List Int).map ce_u32))] = (([([(2 : Int), (1 : Int)] : List Int), ([(3 : Int), (1 : Int)] : List Int)] : List (List Int)).map ce_Lu32).flatten) <| aC (sn_map _ _ _ (by simp) : ((([([(2 : Int), (1 : Int)] : List Int), ([(3 : Int), (1 : Int)] : List Int)] : List (List Int)).map ce_Lu32).drop 0).take 2 = ([([(2 : Int), (1 : Int)] : List Int), ([(3 : Int), (1 : Int)] : List Int)] : List (List Int)).map ce_Lu32) <| aC (rfl : (max 0 (0 + 2)) = (max 0 (0 + 2))) <| aC (hensel_Lift_holds h4) <| aC h5 <| aC h5 <| aC (ln_eq x3.1 ce_Linteger_Int) <| aC h5 <| aC h5 <| aC h6 <| aC h6 <| aC (gi_nn h8) <| aC (gi_at ce_Linteger_Int h8) <| aC h6 <| aC h6 <| aC (by kernel_rfl : [(T.int .i64 (7 : Int)), (T.int .i64 (1 : Int))] = (([(7 : Int), (1 : Int)] : List Int).map ce_i64).flatten) <| aC h6 <| aC (unipoly_Of_holds h10) <| aC h6 <| aC (unipoly_Same_holds h12) <| aC h6 <| aC h13 <| aC h13 <| aC h13 <| aC h13 <| aC h13 <| aC h13 <| aC h13 <| aN)
    · skip
      have h := Option.some.inj h; subst h
      exact wk_ret (fuel := 62) [.reg [oo], .reg [.op (.lit (([(1 : Int), (0 : Int), (1 : Int)] : List Int).map ce_i64)), .snap 4 (max 0 (0 + 3)) (([(1 : Int), (0 : Int), (1 : Int)] : List Int).map ce_i64), .op (.call [[1]] [(TV.c (T.sl 1 (([(1 : Int), (0 : Int), (1 : Int)] : List Int).map ce_i64)))] (tl 2 x1 ce_integer_Int)), .op (.lit (([(2 : Int), (1 : Int)] : List Int).map ce_u32)), .op (.lit (([(3 : Int), (1 : Int)] : List Int).map ce_u32)), .snap 6 (max 0 (0 + 2)) (([(2 : Int), (1 : Int)] : List Int).map ce_u32), .snap 7 (max 0 (0 + 2)) (([(3 : Int), (1 : Int)] : List Int).map ce_u32), .op (.lit (([([(2 : Int), (1 : Int)] : List Int), ([(3 : Int), (1 : Int)] : List Int)] : List (List Int)).map ce_Lu32)), .snap 8 (max 0 (0 + 2)) (([([(2 : Int), (1 : Int)] : List Int), ([(3 : Int), (1 : Int)] : List Int)] : List (List Int)).map ce_Lu32), .op (.call [[2], [1], [0], [0]] [(tl 2 x1 ce_integer_Int), (TV.c (T.sl 1 (([([(2 : Int), (1 : Int)] : List Int), ([(3 : Int), (1 : Int)] : List Int)] : List (List Int)).map ce_Lu32))), (TV.c (T.int .u32 (5 : Int))), (TV.c (T.int .i64 (2 : Int)))] (TV.tup [(false, [(T.sl 1 (x3.1.map ce_Linteger_Int))]), (false, [(T.int .i64 x3.2)])])), oo, oo, oo, oo, oo], .draw [.p, .p, .p, (.ga true .p), (.ga true (.ln (x3.1.length : Int))), (.ga true .p), (.pk true), .p, (.ga false .p), (.ga false .p), (.ga false .p), (.ga false .p), (.ga false .p), (.ga false .p), (.pk false), .p, .p, .p, .p, .p, .p, .p, .p, .p] []] _ hn (by kernel_rfl) (aC (by kernel_rfl : [(T.int .i64 (1 : Int)), (T.int .i64 (0 : Int)), (T.int .i64 (1 : Int))] = (([(1 : Int), (0 : Int), (1 : Int)] : List Int).map ce_i64).flatten) <| aC (sn_map _ _ _ (by simp) : ((([(1 : Int), (0 : Int), (1 : Int)] : List Int).map ce_i64).drop 0).take 3 = ([(1 : Int), (0 : Int), (1 : Int)] : List Int).map ce_i64) <| aC (rfl : (max 0 (0 + 3)) = (max 0 (0 + 3))) <| aC (unipoly_Of_holds h2) <| aC (by kernel_rfl : [(T.int .u32 (2 : Int)), (T.int .u32 (1 : Int))] = (([(2 : Int), (1 : Int)] : List Int).map ce_u32).flatten) <| aC (by kernel_rfl : [(T.int .u32 (3 : Int)), (T.int .u32 (1 : Int))] = (([(3 : Int), (1 : Int)] : List Int).map ce_u32).flatten) <| aC (sn_map _ _ _ (by simp) : ((([(2 : Int), (1 : Int)] : List Int).map ce_u32).drop 0).take 2 = ([(2 : Int), (1 : Int)] : List Int).map ce_u32) <| aC (rfl : (max 0 (0 + 2)) = (max 0 (0 + 2))) <| aC (sn_map _ _ _ (by simp) : ((([(3 : Int), (1 : Int)] : List Int).map ce_u32).drop 0).take 2 = ([(3 : Int), (1 : Int)] : List Int).map ce_u32) <| aC (rfl : (max 0 (0 + 2)) = (max 0 (0 + 2))) <| aC (by kernel_rfl : [(T.sl 1 (([(2 : Int), (1 : Int)] : List Int).map ce_u32)), (T.sl 1 (([(3 : Int), (1 : Int)] : List Int).map ce_u32))] = (([([(2 : Int), (1 : Int)] : List Int), ([(3 : Int), (1 : Int)] : List Int)] : List (List Int)).map ce_Lu32).flatten) <| aC (sn_map _ _ _ (by simp) : ((([([(2 : Int), (1 : Int)] : List Int), ([(3 : Int), (1 : Int)] : List Int)] : List (List Int)).map ce_Lu32).drop 0).take 2 = ([([(2 : Int), (1 : Int)] : List Int), ([(3 : Int), (1 : Int)] : List Int)] : List (List Int)).map ce_Lu32) <| aC (rfl : (max 0 (0 + 2)) = (max 0 (0 + 2))) <| aC (hensel_Lift_holds h4) <| aC h5 <| aC h5 <| aC (ln_eq x3.1 ce_Linteger_Int) <| aC h5 <| aC h5 <| aC h6 <| aC h6 <| aC h6 <| aC h6 <| aC h6 <| aC h6 <| aC h6 <| aN)
  · skip
    have h := Option.some.inj h; subst h
    exact wk_ret (fuel := 62) [.reg [oo], .reg [.op (.lit (([(1 : Int), (0 : Int), (1 : Int)] : List Int).map ce_i64)), .snap 4 (max 0 (0 + 3)) (([(1 : Int), (0 : Int), (1 : Int)] : List Int).map ce_i64), .op (.call [[1]] [(TV.c (T.sl 1 (([(1 : Int), (0 : Int), (1 : Int)] : List Int).map ce_i64)))] (tl 2 x1 ce_integer_Int)), .op (.lit (([(2 : Int), (1 : Int)] : List Int).map ce_u32)), .op (.lit (([(3 : Int), (1 : Int)] : List Int).map ce_u32)), .snap 6 (max 0 (0 + 2)) (([(2 : Int), (1 : Int)] : List Int).map ce_u32), .snap 7 (max 0 (0 + 2)) (([(3 : Int), (1 : Int)] : List Int).map ce_u32), .op (.lit (([([(2 : Int), (1 : Int)] : List Int), ([(3 : Int), (1 : Int)] : List Int)] : List (List Int)).map ce_Lu32)), .snap 8 (max 0 (0 + 2)) (([([(2 : Int), (1 : Int)] : List Int), ([(3 : Int), (1 : Int)] : List Int)] : List (List Int)).map ce_Lu32), .op (.call [[2], [1], [0], [0]] [(tl 2 x1 ce_integer_Int), (TV.c (T.sl 1 (([([(2 : Int), (1 : Int)] : List Int), ([(3 : Int), (1 : Int)] : List Int)] : List (List Int)).map ce_Lu32))), (TV.c (T.int .u32 (5 : Int))), (TV.c (T.int .i64 (2 : Int)))] (TV.tup [(false, [(T.sl 1 (x3.1.map ce_Linteger_Int))]), (false, [(T.int .i64 x3.2)])])), oo, oo, oo, oo, oo], .draw [.p, .p, .p, (.ga false .p), (.ga false .p), (.ga false .p), (.pk false), .p, .p, .p, .p, .p, .p, .p, .p, .p, .p, .p, .p, .p, .p, .p, .p, .p] []] _ hn (by kernel_rfl) (aC (by kernel_rfl : [(T.int .i64 (1 : Int)), (T.int .i64 (0 : Int)), (T.int .i64 (1 : Int))] = (([(1 : Int), (0 : Int), (1 : Int)] : List Int).map ce_i64).flatten) <| aC (sn_map _ _ _ (by simp) : ((([(1 : Int), (0 : Int), (1 : Int)] : List Int).map ce_i64).drop 0).take 3 = ([(1 : Int), (0 : Int), (1 : Int)] : List Int).map ce_i64) <| aC (rfl : (max 0 (0 + 3)) = (max 0 (0 + 3))) <| aC (unipoly_Of_holds h2) <| aC (by kernel_rfl : [(T.int .u32 (2 : Int)), (T.int .u32 (1 : Int))] = (([(2 : Int), (1 : Int)] : List Int).map ce_u32).flatten) <| aC (by kernel_rfl : [(T.int .u32 (3 : Int)), (T.int .u32 (1 : Int))] = (([(3 : Int), (1 : Int)] : List Int).map ce_u32).flatten) <| aC (sn_map _ _ _ (by simp) : ((([(2 : Int), (1 : Int)] : List Int).map ce_u32).drop 0).take 2 = ([(2 : Int), (1 : Int)] : List Int).map ce_u32) <| aC (rfl : (max 0 (0 + 2)) = (max 0 (0 + 2))) <| aC (sn_map _ _ _ (by simp) : ((([(3 : Int), (1 : Int)] : List Int).map ce_u32).drop 0).take 2 = ([(3 : Int), (1 : Int)] : List Int).map ce_u32) <| aC (rfl : (max 0 (0 + 2)) = (max 0 (0 + 2))) <| aC (by kernel_rfl : [(T.sl 1 (([(2 : Int), (1 : Int)] : List Int).map ce_u32)), (T.sl 1 (([(3 : Int), (1 : Int)] : List Int).map ce_u32))] = (([([(2 : Int), (1 : Int)] : List Int), ([(3 : Int), (1 : Int)] : List Int)] : List (List Int)).map ce_Lu32).flatten) <| aC (sn_map _ _ _ (by simp) : ((([([(2 : Int), (1 : Int)] : List Int), ([(3 : Int), (1 : Int)] : List Int)] : List (List Int)).map ce_Lu32).drop 0).take 2 = ([([(2 : Int), (1 : Int)] : List Int), ([(3 : Int), (1 : Int)] : List Int)] : List (List Int)).map ce_Lu32) <| aC (rfl : (max 0 (0 + 2)) = (max 0 (0 + 2))) <| aC (hensel_Lift_holds h4) <| aC h5 <| aC h5 <| aC h5 <| aC h5 <| aN)

theorem cylinderlaw12_fit_all : ∀ K : Nat, cylinderlaw12_fit_H K
  | 0, c, r, h => by rw [cylinderlaw12_fit_go] at h; cases h
  | K + 1, .c0, r, h => fun cx hn => cylinderlaw12_fit_c0 (cylinderlaw12_fit_all K) hn h

theorem cylinderlaw12_fit_holds {K : Nat}  {r : Bool} (h : cylinderlaw12_fit K  = some r) : Holds prog 43 [] (TV.c (T.bool r)) :=
  holds_wk [[0]] (by kernel_rfl) (by simp) fun cx hn => cylinderlaw12_fit_all K .c0 r h cx hn
end Go.Am.X
namespace Go.Am.X
theorem fit_true (K : Nat) : cylinderlaw12_fit (K + 100) = some true := by kernel_rfl
end Go.Am.X
namespace Go.Am.X
open Go.Proofs.Try (prog)


inductive hensel_Exponent_Cut where
  | c0 (b : integer_Int) (p : Int)
  | c1 (most : integer_Int) (base : integer_Int) (power : integer_Int) (k : Int)

def hensel_Exponent_go : Nat → hensel_Exponent_Cut → Option (Int × Int)
  | 0, _ => none
  | K + 1, .c0 b p =>
    bif (decide (p < (2 : Int))) then
      some ((0 : Int), (1 : Int))
    else
      (integer_Abs K b).bind fun x2 =>
      (integer_Shl K x2 (1 : Int)).bind fun x4 =>
      (integer_Of K (IntKind.i64.wrap p)).bind fun x6 =>
      hensel_Exponent_go K (.c1 x4 x6 x6 (1 : Int))
  | K + 1, .c1 most base power k =>
    (integer_Cmp K power most).bind fun x1 =>
    bif (decide (x1 ≤ (0 : Int))) then
      (integer_Mul K power base).bind fun x4 =>
      hensel_Exponent_go K (.c1 most base x4 (IntKind.i64.wrap (k + (1 : Int))))
    else
      some (k, (0 : Int))

def hensel_Exponent (K : Nat) (b : integer_Int) (p : Int) : Option (Int × Int) := hensel_Exponent_go K (.c0 b p)

noncomputable def hensel_Exponent_body : Code := bodyOf prog 52
noncomputable def hensel_Exponent_pos : hensel_Exponent_Cut → List Fr
  | .c0 .. => [.code hensel_Exponent_body]
  | .c1 .. => [.code (.loop (atC hensel_Exponent_body [1,1,1,1,1,1,0,0,0])), .blk 0, .code (atC hensel_Exponent_body [1,1,1,1,1,1,1])]
def hensel_Exponent_st : hensel_Exponent_Cut → St
  | .c0 b p => St.init [(TV.agg (ce_integer_Int b)), (ti .u32 p)]
  | .c1 most base power k => ⟨[(6, .c (C.ptr 6 0)), (7, .c (C.ptr 7 0)), (8, .c (C.ptr 8 0)), (9, vi .i64 k)], [(6, .var ((ce_integer_Int most).map C.t)), (7, .var ((ce_integer_Int base).map C.t)), (8, .var ((ce_integer_Int power).map C.t))], []⟩

def hensel_Exponent_S (cx : Cx) (c : hensel_Exponent_Cut) (r : (Int × Int)) : Prop := Wk prog cx (EndsF prog 52 [[0], [0]] (TV.tup [(false, [(T.int .i64 r.1)]), (false, [(T.int .i64 r.2)])])) (hensel_Exponent_pos c) .normal (hensel_Exponent_st c)
abbrev hensel_Exponent_H (K : Nat) : Prop := ∀ c r, hensel_Exponent_go K c = some r → ∀ cx : Cx, cx.n = 29 → hensel_Exponent_S cx c r

theorem hensel_Exponent_c0 {K} (ih : hensel_Exponent_H K) {cx} (hn : cx.n = 29) {b p} {r} (h : hensel_Exponent_go (K + 1) (.c0 b p) = some r) : hensel_Exponent_S cx (.c0 b p) r := by
  rw [hensel_Exponent_go] at h
  rcases bcases h with ⟨h1, h⟩ | ⟨h1, h⟩
  · skip
    have h := Option.some.inj h; subst h
    exact wk_ret (fuel := 72) [.reg [oo, oo, oo], .reg [oo, oo], .br true, .reg [oo, oo]] _ hn (by kernel_rfl) (aC h1 <| aN)
  · skip
    obtain ⟨x2, h3, h⟩ := obind h
    obtain ⟨x4, h5, h⟩ := obind h
    obtain ⟨x6, h7, h⟩ := obind h
    exact wk_go (fuel := 98) [.reg [oo, oo, oo], .reg [oo, oo], .br false, .reg [oo, .op (.call [[0,1]] [(TV.agg (ce_integer_Int b))] (TV.agg (ce_integer_Int x2))), .op (.call [[0,1], [0]] [(TV.agg (ce_integer_Int x2)), (TV.c (T.int .i64 (1 : Int)))] (TV.agg (ce_integer_Int x4))), oo, oo], .reg [oo, oo, .op (.call [[0]] [(TV.c (T.int .i64 (IntKind.i64.wrap p)))] (TV.agg (ce_integer_Int x6))), oo, oo], .reg [oo, oo, oo], .reg [oo], .pre [.keep [6,7,8,9] [6,7,8]]] _ hn (by kernel_rfl) (aC h1 <| aC (integer_Abs_holds h3) <| aC (integer_Shl_holds h5) <| aC (integer_Of_holds h7) <| aN) (ih _ _ h cx hn)

theorem hensel_Exponent_c1 {K} (ih : hensel_Exponent_H K) {cx} (hn : cx.n = 29) {most base power k} {r} (h : hensel_Exponent_go (K + 1) (.c1 most base power k) = some r) : hensel_Exponent_S cx (.c1 most base power k) r := by
  rw [hensel_Exponent_go] at h
  obtain ⟨x1, h2, h⟩ := obind h
  rcases bcases h with ⟨h3, h⟩ | ⟨h3, h⟩
  · skip
    obtain ⟨x4, h5, h⟩ := obind h
    exact wk_go (fuel := 82) [.go, .reg [oo, oo, .op (.call [[0,1], [0,1]] [(TV.agg (ce_integer_Int power)), (TV.agg (ce_integer_Int most))] (ti .i64 x1)), oo], .br true, .reg [oo, oo, .op (.call [[0,1], [0,1]] [(TV.agg (ce_integer_Int power)), (TV.agg (ce_integer_Int base))] (TV.agg (ce_integer_Int x4))), oo], .reg [oo, oo, oo], .pre [.keep [6,7,8,9] [6,7,8]]] _ hn (by kernel_rfl) (aC (integer_Cmp_holds h2) <| aC h3 <| aC (integer_Mul_holds h5) <| aN) (ih _ _ h cx hn)
  · skip
    have h := Option.some.inj h; subst h
    exact wk_ret (fuel := 78) [.go, .reg [oo, oo, .op (.call [[0,1], [0,1]] [(TV.agg (ce_integer_Int power)), (TV.agg (ce_integer_Int most))] (ti .i64 x1)), oo], .br false, .reg [oo, oo, oo]] _ hn (by kernel_rfl) (aC (integer_Cmp_holds h2) <| aC h3 <| aN)

theorem hensel_Exponent_all : ∀ K : Nat, hensel_Exponent_H K
  | 0, c, r, h => by rw [hensel_Exponent_go] at h; cases h
  | K + 1, .c0 .., r, h => fun cx hn => hensel_Exponent_c0 (hensel_Exponent_all K) hn h
  | K + 1, .c1 .., r, h => fun cx hn => hensel_Exponent_c1 (hensel_Exponent_all K) hn h

theorem hensel_Exponent_holds {K : Nat} {b : integer_Int} {p : Int} {r : (Int × Int)} (h : hensel_Exponent K b p = some r) : Holds prog 52 [(TV.agg (ce_integer_Int b)), (ti .u32 p)] (TV.tup [(false, [(T.int .i64 r.1)]), (false, [(T.int .i64 r.2)])]) :=
  holds_wk [[0], [0]] (by kernel_rfl) (by simp) fun cx hn => hensel_Exponent_all K (.c0 b p) r h cx hn
end Go.Am.X
namespace Go.Am.X
open Go.Proofs.Try (prog)


inductive cylinderlaw12_HenselExponent_Cut where
  | c0 (b : integer_Int) (p : Int)

def cylinderlaw12_HenselExponent_go : Nat → cylinderlaw12_HenselExponent_Cut → Option Bool
  | 0, _ => none
  | K + 1, .c0 b p =>
    (cylinderlaw12_fit K ).bind fun x1 =>
    bif (!x1) then
      some false
    else
      bif (decide ((10 : Int) < (b.Abs.length : Int))) then
        some true
      else
        (hensel_Exponent K b p).bind fun x5 =>
        bif (decide (p < (2 : Int))) then
          bif (decide (x5.2 = (1 : Int))) then
            some (decide (x5.1 = (0 : Int)))
          else
            some false
        else
          bif (!decide (x5.2 = (0 : Int))) then
            some false
          else
            bif (decide (x5.1 < (1 : Int))) then
              some false
            else
              bif (decide ((400 : Int) < x5.1)) then
                some false
              else
                (integer_Add K b b).bind fun x11 =>
                (integer_Abs K x11).bind fun x13 =>
                (cylinderlaw12_power K p x5.1).bind fun x15 =>
                (integer_Cmp K x15 x13).bind fun x17 =>
                bif (decide ((0 : Int) < x17)) then
                  bif (decide (x5.1 = (1 : Int))) then
                    some true
                  else
                    (cylinderlaw12_power K p (IntKind.i64.wrap (x5.1 - (1 : Int)))).bind fun x21 =>
                    (integer_Cmp K x21 x13).bind fun x23 =>
                    some (decide (x23 ≤ (0 : Int)))
                else
                  some false

def cylinderlaw12_HenselExponent (K : Nat) (b : integer_Int) (p : Int) : Option Bool := cylinderlaw12_HenselExponent_go K (.c0 b p)

noncomputable def cylinderlaw12_HenselExponent_body : Code := bodyOf prog 10
noncomputable def cylinderlaw12_HenselExponent_pos : cylinderlaw12_HenselExponent_Cut → List Fr
  | .c0 .. => [.code cylinderlaw12_HenselExponent_body]
def cylinderlaw12_HenselExponent_st : cylinderlaw12_HenselExponent_Cut → St
  | .c0 b p => St.init [(TV.agg (ce_integer_Int b)), (ti .u32 p)]

def cylinderlaw12_HenselExponent_S (cx : Cx) (c : cylinderlaw12_HenselExponent_Cut) (r : Bool) : Prop := Wk prog cx (EndsF prog 10 [[0]] (TV.c (T.bool r))) (cylinderlaw12_HenselExponent_pos c) .normal (cylinderlaw12_HenselExponent_st c)
abbrev cylinderlaw12_HenselExponent_H (K : Nat) : Prop := ∀ c r, cylinderlaw12_HenselExponent_go K c = some r → ∀ cx : Cx, cx.n = 61 → cylinderlaw12_HenselExponent_S cx c r

theorem cylinderlaw12_HenselExponent_c0 {K} (_ : cylinderlaw12_HenselExponent_H K) {cx} (hn : cx.n = 61) {b p} {r} (h : cylinderlaw12_HenselExponent_go (K + 1) (.c0 b p) = some r) : cylinderlaw12_HenselExponent_S cx (.c0 b p) r := by
  rw [cylinderlaw12_HenselExponent_go] at h
  obtain ⟨x1, h2, h⟩ := obind h
  rcases bcases h with ⟨h3, h⟩ | ⟨h3, h⟩
  · skip
    have h := Option.some.inj h; subst h
    exact wk_ret (fuel := 72) [.reg [oo, oo], .reg [.op (.call [] [] (TV.c (T.bool x1))), oo], .br true, .reg [oo]] _ hn (by kernel_rfl) (aC (cylinderlaw12_fit_holds h2) <| aC h3 <| aN)
  · skip
    rcases bcases h with ⟨h4, h⟩ | ⟨h4, h⟩
    · skip
      have h := Option.some.inj h; subst h
      exact wk_ret (fuel := 90) [.reg [oo, oo], .reg [.op (.call [] [] (TV.c (T.bool x1))), oo], .br false, .reg [oo, oo, .op (.ln (b.Abs.length : Int)), oo], .br true, .reg [oo]] _ hn (by kernel_rfl) (aC (cylinderlaw12_fit_holds h2) <| aC h3 <| aC (ln_eq b.Abs ce_u32) <| aC h4 <| aN)
    · skip
      obtain ⟨x5, h6, h⟩ := obind h
      rcases bcases h with ⟨h7, h⟩ | ⟨h7, h⟩
      · skip
        rcases bcases h with ⟨h8, h⟩ | ⟨h8, h⟩
        · skip
          have h := Option.some.inj h; subst h
          exact wk_ret (fuel := 116) [.reg [oo, oo], .reg [.op (.call [] [] (TV.c (T.bool x1))), oo], .br false, .reg [oo, oo, .op (.ln (b.Abs.length : Int)), oo], .br false, .reg [oo, oo, .op (.call [[0,1], [0]] [(TV.agg (ce_integer_Int b)), (ti .u32 p)] (TV.tup [(false, [(T.int .i64 x5.1)]), (false, [(T.int .i64 x5.2)])])), oo, oo, oo, oo, oo], .reg [oo, oo], .br true, .reg [oo, oo, oo, .sb 24 true, oo, oo, oo, oo]] _ hn (by kernel_rfl) (aC (cylinderlaw12_fit_holds h2) <| aC h3 <| aC (ln_eq b.Abs ce_u32) <| aC h4 <| aC (hensel_Exponent_holds h6) <| aC h7 <| aC h8 <| aN)
        · skip
          have h := Option.some.inj h; subst h
          exact wk_ret (fuel := 116) [.reg [oo, oo], .reg [.op (.call [] [] (TV.c (T.bool x1))), oo], .br false, .reg [oo, oo, .op (.ln (b.Abs.length : Int)), oo], .br false, .reg [oo, oo, .op (.call [[0,1], [0]] [(TV.agg (ce_integer_Int b)), (ti .u32 p)] (TV.tup [(false, [(T.int .i64 x5.1)]), (false, [(T.int .i64 x5.2)])])), oo, oo, oo, oo, oo], .reg [oo, oo], .br true, .reg [oo, oo, oo, .sb 24 false, oo, oo, oo, oo]] _ hn (by kernel_rfl) (aC (cylinderlaw12_fit_holds h2) <| aC h3 <| aC (ln_eq b.Abs ce_u32) <| aC h4 <| aC (hensel_Exponent_holds h6) <| aC h7 <| aC h8 <| aN)
      · skip
        rcases bcases h with ⟨h8, h⟩ | ⟨h8, h⟩
        · skip
          have h := Option.some.inj h; subst h
          exact wk_ret (fuel := 134) [.reg [oo, oo], .reg [.op (.call [] [] (TV.c (T.bool x1))), oo], .br false, .reg [oo, oo, .op (.ln (b.Abs.length : Int)), oo], .br false, .reg [oo, oo, .op (.call [[0,1], [0]] [(TV.agg (ce_integer_Int b)), (ti .u32 p)] (TV.tup [(false, [(T.int .i64 x5.1)]), (false, [(T.int .i64 x5.2)])])), oo, oo, oo, oo, oo], .reg [oo, oo], .br false, .reg [oo, oo, oo, .sb 30 true, oo, oo, oo, oo, oo, oo, oo], .br true, .reg [oo]] _ hn (by kernel_rfl) (aC (cylinderlaw12_fit_holds h2) <| aC h3 <| aC (ln_eq b.Abs ce_u32) <| aC h4 <| aC (hensel_Exponent_holds h6) <| aC h7 <| aC h8 <| aC rt <| aN)
        · skip
          rcases bcases h with ⟨h9, h⟩ | ⟨h9, h⟩
          · skip
            have h := Option.some.inj h; subst h
            exact wk_ret (fuel := 134) [.reg [oo, oo], .reg [.op (.call [] [] (TV.c (T.bool x1))), oo], .br false, .reg [oo, oo, .op (.ln (b.Abs.length : Int)), oo], .br false, .reg [oo, oo, .op (.call [[0,1], [0]] [(TV.agg (ce_integer_Int b)), (ti .u32 p)] (TV.tup [(false, [(T.int .i64 x5.1)]), (false, [(T.int .i64 x5.2)])])), oo, oo, oo, oo, oo], .reg [oo, oo], .br false, .reg [oo, oo, oo, .sb 30 false, oo, oo, oo, oo, .sb 34 true, oo, oo, oo], .br true, .reg [oo]] _ hn (by kernel_rfl) (aC (cylinderlaw12_fit_holds h2) <| aC h3 <| aC (ln_eq b.Abs ce_u32) <| aC h4 <| aC (hensel_Exponent_holds h6) <| aC h7 <| aC h8 <| aC h9 <| aC rt <| aN)
          · skip
            rcases bcases h with ⟨h10, h⟩ | ⟨h10, h⟩
            · skip
              have h := Option.some.inj h; subst h
              exact wk_ret (fuel := 134) [.reg [oo, oo], .reg [.op (.call [] [] (TV.c (T.bool x1))), oo], .br false, .reg [oo, oo, .op (.ln (b.Abs.length : Int)), oo], .br false, .reg [oo, oo, .op (.call [[0,1], [0]] [(TV.agg (ce_integer_Int b)), (ti .u32 p)] (TV.tup [(false, [(T.int .i64 x5.1)]), (false, [(T.int .i64 x5.2)])])), oo, oo, oo, oo, oo], .reg [oo, oo], .br false, .reg [oo, oo, oo, .sb 30 false, oo, oo, oo, oo, .sb 34 false, oo, oo, oo], .br true, .reg [oo]] _ hn (by kernel_rfl) (aC (cylinderlaw12_fit_holds h2) <| aC h3 <| aC (ln_eq b.Abs ce_u32) <| aC h4 <| aC (hensel_Exponent_holds h6) <| aC h7 <| aC h8 <| aC h9 <| aC h10 <| aN)
            · skip
              obtain ⟨x11, h12, h⟩ := obind h
              obtain ⟨x13, h14, h⟩ := obind h
              obtain ⟨x15, h16, h⟩ := obind h
              obtain ⟨x17, h18, h⟩ := obind h
              rcases bcases h with ⟨h19, h⟩ | ⟨h19, h⟩
              · skip
                rcases bcases h with ⟨h20, h⟩ | ⟨h20, h⟩
                · skip
                  have h := Option.some.inj h; subst h
                  exact wk_ret (fuel := 142) [.reg [oo, oo], .reg [.op (.call [] [] (TV.c (T.bool x1))), oo], .br false, .reg [oo, oo, .op (.ln (b.Abs.length : Int)), oo], .br false, .reg [oo, oo, .op (.call [[0,1], [0]] [(TV.agg (ce_integer_Int b)), (ti .u32 p)] (TV.tup [(false, [(T.int .i64 x5.1)]), (false, [(T.int .i64 x5.2)])])), oo, oo, oo, oo, oo], .reg [oo, oo], .br false, .reg [oo, oo, oo, .sb 30 false, oo, oo, oo, oo, .sb 34 false, oo, oo, oo], .br false, .reg [oo, oo, .op (.call [[0,1], [0,1]] [(TV.agg (ce_integer_Int b)), (TV.agg (ce_integer_Int b))] (TV.agg (ce_integer_Int x11))), .op (.call [[0,1]] [(TV.agg (ce_integer_Int x11))] (TV.agg (ce_integer_Int x13))), oo, oo], .draw [.p, .p, (.call [[0], [0]] [(ti .u32 p), (ti .i64 x5.1)] (TV.agg (ce_integer_Int x15))), .p, (.call [[0,1], [0,1]] [(TV.agg (ce_integer_Int x15)), (TV.agg (ce_integer_Int x13))] (ti .i64 x17)), .p, .p, (.ga true .p), (.ga true .p), (.ga true .p), (.ga true .p), (.ga true .p), (.ga true .p), (.ga true .p), (.ga true .p), (.ga true .p), (.ga true .p), (.ga true (.pk true)), (.pk true), .p] []] _ hn (by kernel_rfl) (aC (cylinderlaw12_fit_holds h2) <| aC h3 <| aC (ln_eq b.Abs ce_u32) <| aC h4 <| aC (hensel_Exponent_holds h6) <| aC h7 <| aC h8 <| aC h9 <| aC h10 <| aC (integer_Add_holds h12) <| aC (integer_Abs_holds h14) <| aC (cylinderlaw12_power_holds h16) <| aC (integer_Cmp_holds h18) <| aC h19 <| aC h19 <| aC h19 <| aC h20 <| aC h20 <| aC h20 <| aC h20 <| aC h20 <| aC h20 <| aC h20 <| aC h19 <| aC h20 <| aC h19 <| aN)
                · skip
                  obtain ⟨x21, h22, h⟩ := obind h
                  obtain ⟨x23, h24, h⟩ := obind h
                  have h := Option.some.inj h; subst h
                  exact wk_ret (fuel := 142) [.reg [oo, oo], .reg [.op (.call [] [] (TV.c (T.bool x1))), oo], .br false, .reg [oo, oo, .op (.ln (b.Abs.length : Int)), oo], .br false, .reg [oo, oo, .op (.call [[0,1], [0]] [(TV.agg (ce_integer_Int b)), (ti .u32 p)] (TV.tup [(false, [(T.int .i64 x5.1)]), (false, [(T.int .i64 x5.2)])])), oo, oo, oo, oo, oo], .reg [oo, oo], .br false, .reg [oo, oo, oo, .sb 30 false, oo, oo, oo, oo, .sb 34 false, oo, oo, oo], .br false, .reg [oo, oo, .op (.call [[0,1], [0,1]] [(TV.agg (ce_integer_Int b)), (TV.agg (ce_integer_Int b))] (TV.agg (ce_integer_Int x11))), .op (.call [[0,1]] [(TV.agg (ce_integer_Int x11))] (TV.agg (ce_integer_Int x13))), oo, oo], .draw [.p, .p, (.call [[0], [0]] [(ti .u32 p), (ti .i64 x5.1)] (TV.agg (ce_integer_Int x15))), .p, (.call [[0,1], [0,1]] [(TV.agg (ce_integer_Int x15)), (TV.agg (ce_integer_Int x13))] (ti .i64 x17)), .p, .p, (.ga true .p), (.ga true .p), (.ga true .p), (.ga false .p), (.ga false .p), (.ga false .p), (.ga false (.call [[0], [0]] [(ti .u32 p), (TV.c (T.int .i64 (IntKind.i64.wrap (x5.1 - (1 : Int)))))] (TV.agg (ce_integer_Int x21)))), (.ga false .p), (.ga false (.call [[0,1], [0,1]] [(TV.agg (ce_integer_Int x21)), (TV.agg (ce_integer_Int x13))] (ti .i64 x23))), (.ga false .p), (.ga true (.pk false)), (.pk true), .p] []] _ hn (by kernel_rfl) (aC (cylinderlaw12_fit_holds h2) <| aC h3 <| aC (ln_eq b.Abs ce_u32) <| aC h4 <| aC (hensel_Exponent_holds h6) <| aC h7 <| aC h8 <| aC h9 <| aC h10 <| aC (integer_Add_holds h12) <| aC (integer_Abs_holds h14) <| aC (cylinderlaw12_power_holds h16) <| aC (integer_Cmp_holds h18) <| aC h19 <| aC h19 <| aC h19 <| aC h20 <| aC h20 <| aC h20 <| aC h20 <| aC (cylinderlaw12_power_holds h22) <| aC h20 <| aC h20 <| aC (integer_Cmp_holds h24) <| aC h20 <| aC h19 <| aC h20 <| aC h19 <| aN)
              · skip
                have h := Option.some.inj h; subst h
                exact wk_ret (fuel := 142) [.reg [oo, oo], .reg [.op (.call [] [] (TV.c (T.bool x1))), oo], .br false, .reg [oo, oo, .op (.ln (b.Abs.length : Int)), oo], .br false, .reg [oo, oo, .op (.call [[0,1], [0]] [(TV.agg (ce_integer_Int b)), (ti .u32 p)] (TV.tup [(false, [(T.int .i64 x5.1)]), (false, [(T.int .i64 x5.2)])])), oo, oo, oo, oo, oo], .reg [oo, oo], .br false, .reg [oo, oo, oo, .sb 30 false, oo, oo, oo, oo, .sb 34 false, oo, oo, oo], .br false, .reg [oo, oo, .op (.call [[0,1], [0,1]] [(TV.agg (ce_integer_Int b)), (TV.agg (ce_integer_Int b))] (TV.agg (ce_integer_Int x11))), .op (.call [[0,1]] [(TV.agg (ce_integer_Int x11))] (TV.agg (ce_integer_Int x13))), oo, oo], .draw [.p, .p, (.call [[0], [0]] [(ti .u32 p), (ti .i64 x5.1)] (TV.agg (ce_integer_Int x15))), .p, (.call [[0,1], [0,1]] [(TV.agg (ce_integer_Int x15)), (TV.agg (ce_integer_Int x13))] (ti .i64 x17)), .p, .p, (.ga false .p), (.ga false .p), (.ga false .p), .p, .p, .p, .p, .p, .p, .p, (.ga false .p), (.pk false), .p] []] _ hn (by kernel_rfl) (aC (cylinderlaw12_fit_holds h2) <| aC h3 <| aC (ln_eq b.Abs ce_u32) <| aC h4 <| aC (hensel_Exponent_holds h6) <| aC h7 <| aC h8 <| aC h9 <| aC h10 <| aC (integer_Add_holds h12) <| aC (integer_Abs_holds h14) <| aC (cylinderlaw12_power_holds h16) <| aC (integer_Cmp_holds h18) <| aC h19 <| aC h19 <| aC h19 <| aC h19 <| aC h19 <| aN)

theorem cylinderlaw12_HenselExponent_all : ∀ K : Nat, cylinderlaw12_HenselExponent_H K
  | 0, c, r, h => by rw [cylinderlaw12_HenselExponent_go] at h; cases h
  | K + 1, .c0 .., r, h => fun cx hn => cylinderlaw12_HenselExponent_c0 (cylinderlaw12_HenselExponent_all K) hn h

theorem cylinderlaw12_HenselExponent_holds {K : Nat} {b : integer_Int} {p : Int} {r : Bool} (h : cylinderlaw12_HenselExponent K b p = some r) : Holds prog 10 [(TV.agg (ce_integer_Int b)), (ti .u32 p)] (TV.c (T.bool r)) :=
  holds_wk [[0]] (by kernel_rfl) (by simp) fun cx hn => cylinderlaw12_HenselExponent_all K (.c0 b p) r h cx hn
end Go.Am.X
namespace Go.Am.X

theorem pow_bound {p : Int} (hp : 2 ≤ p) (n : Nat) : 2 ^ n ≤ p ^ n := ipow_le (by decide) hp n
theorem pow2_mono {m n : Nat} (h : m ≤ n) : (2 : Int) ^ m ≤ 2 ^ n := by
  have : (2 : Nat) ^ m ≤ 2 ^ n := Nat.pow_le_pow_right (by decide) h
  exact_mod_cast this

theorem bpow_two (n : Nat) : (4294967296 : Int) ^ n = 2 ^ (32 * n) := by
  rw [show (4294967296 : Int) = 2 ^ 32 by decide, ← Int.pow_mul]
theorem bpow_lt {m n : Nat} (h : m < n) : (4294967296 : Int) ^ m < 4294967296 ^ n := by
  have h1 := bpow_le (show m + 1 ≤ n from h)
  have h2 := bpow_pos m
  rw [Int.pow_succ] at h1; omega

theorem hensel_Exponent_v1 {p most : Int} (hp : 2 ≤ p ∧ p < 4294967296) (hm0 : 0 ≤ most) (hm : most < 2 ^ 321) : ∀ (m k : Nat), k + m = 330 → 1 ≤ k → (k = 1 ∨ p ^ (k - 1) ≤ most) →
    ∃ n : Nat, Ev (fun K => hensel_Exponent_go K (.c1 (mkI most) (mkI p) (mkI (p ^ k)) k)) ((n : Int), 0) ∧ 1 ≤ n ∧ n ≤ 330 ∧ most < p ^ n ∧ (n = 1 ∨ p ^ (n - 1) ≤ most)
  | m, k, hk, h1, h2 => by
    have hkk : k ≤ 322 := by
      apply Classical.byContradiction; intro hne
      have h3 : p ^ (k - 1) ≤ most := by omega
      have h4 := pow_bound hp.1 (k - 1)
      have h5 := pow2_mono (show 321 ≤ k - 1 by omega)
      omega
    have hpk0 : 0 ≤ p ^ k := Int.pow_nonneg (by omega)
    have hpk : p ^ k < 4294967296 ^ (k + 1) := by
      have h1 : p ^ k ≤ 4294967296 ^ k := ipow_le (by omega) (by omega) k
      have h2 := bpow_pos k
      rw [Int.pow_succ]; omega
    have l1 := mkI_small hpk0 hpk
    have l2 : (mkI most).Abs.length ≤ 11 := mkI_small hm0 (Int.lt_of_lt_of_le hm (by rw [bpow_two]; exact pow2_mono (by decide)))
    have l3 : (mkI p).Abs.length ≤ 1 := mkI_small (by omega) (by omega)
    have hc := cmpI_cases (p ^ k) most
    have hcmp := integer_Cmp_ev (mkI_dig (p ^ k)) (mkI_dig most) (by omega) (by omega)
    rw [ival_mkI, ival_mkI] at hcmp
    by_cases h : p ^ k ≤ most
    · match m, hk with
      | 0, hk => omega
      | m + 1, hk =>
        obtain ⟨n, g1, g2, g3, g4, g5⟩ := hensel_Exponent_v1 hp hm0 hm m (k + 1) (by omega) (by omega) (.inr (by rw [Nat.add_sub_cancel]; exact h))
        refine ⟨n, ?_, g2, g3, g4, g5⟩
        refine ev_succ ?_
        simp only [hensel_Exponent_go]
        refine ev_bind hcmp (ev_t (by simp; omega) ?_)
        have hmul := integer_Mul_ev (mkI_dig (p ^ k)) (mkI_dig p) (by omega)
        rw [ival_mkI, ival_mkI, ← Int.pow_succ] at hmul
        rw [w_i64 (by omega), show (k : Int) + 1 = ((k + 1 : Nat) : Int) by omega]
        exact ev_bind hmul g1
    · refine ⟨k, ?_, h1, by omega, by omega, h2⟩
      refine ev_succ ?_
      simp only [hensel_Exponent_go]
      exact ev_bind hcmp (ev_f (by simp; omega) (ev_some _))
termination_by m => m

theorem hensel_Exponent_ev {b : integer_Int} {p : Int} (hb : Dig b.Abs) (hl : b.Abs.length ≤ 10) (hp : 2 ≤ p ∧ p < 4294967296) :
    ∃ n : Nat, Ev (fun K => hensel_Exponent K b p) ((n : Int), 0) ∧ 1 ≤ n ∧ n ≤ 330 ∧ 2 * ((ival b).natAbs : Int) < p ^ n ∧ (n = 1 ∨ p ^ (n - 1) ≤ 2 * ((ival b).natAbs : Int)) := by
  have hv := val_lt hb
  have hB : (4294967296 : Int) ^ b.Abs.length ≤ 4294967296 ^ 10 := bpow_le hl
  have h10 : (4294967296 : Int) ^ 10 = 2 ^ 320 := bpow_two 10
  have h11 : (2 : Int) ^ 321 = 2 ^ 320 * 2 := Int.pow_succ 2 320
  have hva := val_abs b hb
  obtain ⟨n, g1, g2, g3, g4, g5⟩ := hensel_Exponent_v1 (most := 2 * ((ival b).natAbs : Int)) hp (by omega) (by omega) 329 1 rfl (Nat.le_refl _) (.inl rfl)
  refine ⟨n, ?_, g2, g3, g4, g5⟩
  refine ev_succ ?_
  simp only [hensel_Exponent, hensel_Exponent_go]
  rw [w_i64 (x := p) (by omega)]
  have hl1 : (mkI ((ival b).natAbs : Int)).Abs.length ≤ 10 := mkI_small (by omega) (by omega)
  have hs := integer_Shl_ev (mkI_dig ((ival b).natAbs : Int)) (n := 1) (by decide) (by omega)
  rw [ival_mkI] at hs
  rw [show ((ival b).natAbs : Int) * 2 ^ 1 = 2 * ((ival b).natAbs : Int) by omega] at hs
  have ep : p ^ (1 : Nat) = p := by rw [Int.pow_succ, Int.pow_zero, Int.one_mul]
  rw [ep] at g1
  exact ev_f (by simp; omega) (ev_bind (integer_Abs_ev hb (by omega)) (ev_bind hs (ev_bind (integer_Of_ev (by omega)) g1)))

theorem fit_ev : Ev (fun K => cylinderlaw12_fit K) true := ⟨100, fun K hK => by
  obtain ⟨k, rfl⟩ : ∃ k, K = k + 100 := ⟨K - 100, by omega⟩
  exact fit_true k⟩

theorem HenselExponent_ev {b : integer_Int} {p : Int} (hb : Dig b.Abs) (hp : 0 ≤ p ∧ p < 4294967296) : Ev (fun K => cylinderlaw12_HenselExponent K b p) true := by
  refine ev_succ ?_
  simp only [cylinderlaw12_HenselExponent, cylinderlaw12_HenselExponent_go]
  refine ev_bind fit_ev (ev_f rfl ?_)
  by_cases hl : 10 < b.Abs.length
  · exact ev_t (by simp; omega) (ev_some _)
  · refine ev_f (by simp; omega) ?_
    by_cases hp2 : p < 2
    · have : Ev (fun K => hensel_Exponent K b p) (0, 1) := by
        refine ev_succ ?_
        simp only [hensel_Exponent, hensel_Exponent_go]
        exact ev_t (by simpa using hp2) (ev_some _)
      exact ev_bind this (ev_t (by simpa using hp2) (ev_t rfl (ev_some _)))
    · obtain ⟨n, g1, g2, g3, g4, g5⟩ := hensel_Exponent_ev hb (by omega) ⟨by omega, hp.2⟩
      refine ev_bind g1 (ev_f (by simp; omega) (ev_f rfl (ev_f (by simp; omega) (ev_f (by simp; omega) ?_))))
      have hv := val_lt hb
      have hB : (4294967296 : Int) ^ b.Abs.length ≤ 4294967296 ^ 10 := bpow_le (by omega)
      have hva := val_abs b hb
      have hbb : (mkI (ival b + ival b)).Abs.length ≤ 11 := mkI_len (by omega) (by omega)
      have hab := integer_Abs_ev (mkI_dig (ival b + ival b)) (by omega)
      rw [ival_mkI] at hab
      have h2 : ((ival b + ival b).natAbs : Int) = 2 * ((ival b).natAbs : Int) := by omega
      rw [h2] at hab
      have hd : (mkI (2 * ((ival b).natAbs : Int))).Abs.length ≤ 11 := mkI_len (by omega) (by omega)
      have small : ∀ k : Nat, k ≤ 330 → (mkI (p ^ k)).Abs.length ≤ 331 := by
        intro k hk
        have h1 : p ^ k ≤ 4294967296 ^ k := ipow_le (by omega) (by omega) k
        have h2 := bpow_le (show k ≤ 330 from hk)
        exact mkI_small (Int.pow_nonneg (by omega)) (by have := bpow_lt (show 330 < 331 by decide)
                                                        omega)
      have hcmp : ∀ k : Nat, k ≤ 330 → Ev (fun K => integer_Cmp K (mkI (p ^ k)) (mkI (2 * ((ival b).natAbs : Int)))) (cmpI (p ^ k) (2 * ((ival b).natAbs : Int))) := by
        intro k hk
        have h3 := integer_Cmp_ev (mkI_dig (p ^ k)) (mkI_dig (2 * ((ival b).natAbs : Int))) (by have := small k hk; omega) (by omega)
        rw [ival_mkI, ival_mkI] at h3
        exact h3
      refine ev_bind (integer_Add_ev hb hb (by omega) (by omega)) (ev_bind hab (ev_bind (cylinderlaw12_power_ev hp (by omega)) (ev_bind (hcmp n g3) ?_)))
      have c1 := cmpI_cases (p ^ n) (2 * ((ival b).natAbs : Int))
      refine ev_t (by simp; omega) ?_
      by_cases hn : n = 1
      · exact ev_t (by simp; omega) (ev_some _)
      · refine ev_f (by simp; omega) ?_
        rw [w_i64 (by omega), show (n : Int) - 1 = ((n - 1 : Nat) : Int) by omega]
        refine ev_bind (cylinderlaw12_power_ev hp (by omega)) (ev_bind (hcmp (n - 1) (by omega)) (ev_eq (ev_some _) ?_))
        have c2 := cmpI_cases (p ^ (n - 1)) (2 * ((ival b).natAbs : Int))
        simp; omega
end Go.Am.X
