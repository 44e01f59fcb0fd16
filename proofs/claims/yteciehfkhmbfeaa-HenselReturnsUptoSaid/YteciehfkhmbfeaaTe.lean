/- Part 5 of the proof: Fn_hensel_Lift .. M28. -/
import Derived.Test.YteciehfkhmbfeaaTb
import Derived.Test.YteciehfkhmbfeaaTc
import Derived.Test.YteciehfkhmbfeaaTd
namespace Go.Am.X
open Go.Proofs.Try (prog)
inductive qsU where
 | c0 (f : (List qaB)) (list : (List (List Int))) (p : Int) (k : Int)
 | c1 (base : qaB) (top : qaB) (f : (List qaB)) (list : (List (List Int))) (p : Int) (k : Int) (t63 : Int) (t64 : Int)
 | c2 (base : qaB) (top : qaB) (p : Int) (k : Int) (goal : (List qaB)) (monic : (List (List Int))) (parts : (List (List Int))) (t85 : (List (List Int))) (t86 : Int) (t87 : Int)
 | c3 (base : qaB) (top : qaB) (r97 : (List (List qaB))) (p : Int) (k : Int) (goal : (List qaB)) (monic : (List (List Int))) (parts : (List (List Int))) (t85 : (List (List Int))) (t86 : Int) (t87 : Int)
 | c4 (base : qaB) (top : qaB) (power : qaB) (p : Int) (k : Int) (goal : (List qaB)) (monic : (List (List Int))) (parts : (List (List Int))) (step : Int)
 | c5 (base : qaB) (top : qaB) (pair : (List (List qaB))) (power : qaB) (p : Int) (k : Int) (goal : (List qaB)) (monic : (List (List Int))) (parts : (List (List Int))) (step : Int)
 | c7 (base : qaB) (top : qaB) (pair : (List (List qaB))) (power : qaB) (p : Int) (k : Int) (goal : (List qaB)) (monic : (List (List Int))) (parts : (List (List Int))) (step : Int) (now : (List (List qaB))) (t131 : (List qaB)) (t132 : Int) (t133 : Int)
 | c11 (base : qaB) (top : qaB) (pair : (List (List qaB))) (power : qaB) (r148 : (List Int)) (p : Int) (k : Int) (goal : (List qaB)) (monic : (List (List Int))) (parts : (List (List Int))) (step : Int) (now : (List (List qaB))) (t131 : (List qaB)) (t132 : Int) (t133 : Int)
 | c12 (base : qaB) (top : qaB) (pair : (List (List qaB))) (power : qaB) (next : qaB) (p : Int) (k : Int) (goal : (List qaB)) (monic : (List (List Int))) (parts : (List (List Int))) (step : Int) (t153 : (List (List qaB))) (t154 : Int) (t155 : Int)
 | c17 (base : qaB) (top : qaB) (pair : (List (List qaB))) (power : qaB) (next : qaB) (r148 : (List Int)) (p : Int) (k : Int) (goal : (List qaB)) (monic : (List (List Int))) (parts : (List (List Int))) (step : Int) (t153 : (List (List qaB))) (t154 : Int) (t155 : Int)
 | c18 (base : qaB) (top : qaB) (pair : (List (List qaB))) (power : qaB) (next : qaB) (r193 : (List (List qaB))) (p : Int) (k : Int) (goal : (List qaB)) (monic : (List (List Int))) (parts : (List (List Int))) (step : Int) (t153 : (List (List qaB))) (t154 : Int) (t155 : Int)
 | c21 (base : qaB) (top : qaB) (pair : (List (List qaB))) (power : qaB) (next : qaB) (r193 : (List (List qaB))) (p : Int) (k : Int) (goal : (List qaB)) (monic : (List (List Int))) (parts : (List (List Int))) (step : Int) (change : (List Int)) (t153 : (List (List qaB))) (t154 : Int) (t155 : Int)
 | c22 (base : qaB) (top : qaB) (power : qaB) (r193 : (List (List qaB))) (p : Int) (k : Int) (goal : (List qaB)) (monic : (List (List Int))) (parts : (List (List Int))) (step : Int)
 | c23 (base : qaB) (top : qaB) (pair : (List (List qaB))) (power : qaB) (r193 : (List (List qaB))) (p : Int) (k : Int) (goal : (List qaB)) (monic : (List (List Int))) (parts : (List (List Int))) (step : Int)
 | c24 (base : qaB) (top : qaB) (pair : qeN) (power : qaB) (p : Int) (k : Int) (goal : (List qaB)) (monic : (List (List Int))) (parts : (List (List Int))) (step : Int)
 | c25 (base : qaB) (top : qaB) (pair : qeN) (power : qaB) (p : Int) (k : Int) (goal : (List qaB)) (monic : (List (List Int))) (parts : (List (List Int))) (step : Int) (now : (List (List qaB))) (t131 : (List qaB)) (t132 : Int) (t133 : Int)
 | c26 (base : qaB) (top : qaB) (pair : qeN) (power : qaB) (r148 : (List Int)) (p : Int) (k : Int) (goal : (List qaB)) (monic : (List (List Int))) (parts : (List (List Int))) (step : Int) (now : (List (List qaB))) (t131 : (List qaB)) (t132 : Int) (t133 : Int)
 | c27 (base : qaB) (top : qaB) (pair : qeN) (power : qaB) (next : qaB) (p : Int) (k : Int) (goal : (List qaB)) (monic : (List (List Int))) (parts : (List (List Int))) (step : Int) (t153 : (List (List qaB))) (t154 : Int) (t155 : Int)
 | c28 (base : qaB) (top : qaB) (pair : qeN) (power : qaB) (next : qaB) (r148 : (List Int)) (p : Int) (k : Int) (goal : (List qaB)) (monic : (List (List Int))) (parts : (List (List Int))) (step : Int) (t153 : (List (List qaB))) (t154 : Int) (t155 : Int)
 | c29 (base : qaB) (top : qaB) (pair : qeN) (power : qaB) (next : qaB) (r193 : (List (List qaB))) (p : Int) (k : Int) (goal : (List qaB)) (monic : (List (List Int))) (parts : (List (List Int))) (step : Int) (t153 : (List (List qaB))) (t154 : Int) (t155 : Int)
 | c31 (base : qaB) (top : qaB) (pair : qeN) (power : qaB) (next : qaB) (r193 : (List (List qaB))) (p : Int) (k : Int) (goal : (List qaB)) (monic : (List (List Int))) (parts : (List (List Int))) (step : Int) (change : (List Int)) (t153 : (List (List qaB))) (t154 : Int) (t155 : Int)
 | c32 (base : qaB) (top : qaB) (pair : (List (List qaB))) (power : qaB) (r193 : (List (List qaB))) (p : Int) (k : Int) (goal : (List qaB)) (monic : (List (List Int))) (parts : (List (List Int))) (step : Int)
def qaE : Nat → qsU → Option ((List (List qaB)) × Int)
 | 0, _ => none
 | K + 1, .c0 f list p k =>
  (qhU K p).bind fun x1 =>
  bif (!x1) then
   some ([], (1 : Int))
  else
   bif (decide (k < (1 : Int))) then
    some ([], (1 : Int))
   else
    (qyR K list p).bind fun x5 =>
    bif (!decide (x5 = (0 : Int))) then
     some ([], x5)
    else
     (qlE K f).bind fun x8 =>
     (qdQ K x8 p).bind fun x10 =>
     bif (decide (x10 = (0 : Int))) then
      some ([], (3 : Int))
     else
      (qiA K (wI6 p)).bind fun x13 =>
      qaE K (.c1 x13 x13 f list p k (wI6 (k - (1 : Int))) (0 : Int))
 | K + 1, .c1 base top f list p k t63 t64 =>
  bif (decide (t64 < t63)) then
   (qf0 K top base).bind fun x2 =>
   qaE K (.c1 base x2 f list p k t63 (wI6 (t64 + (1 : Int))))
  else
   (qyQ K f list p top).bind fun x2 =>
   bif (!decide (x2.2.2 = (0 : Int))) then
    some ([], x2.2.2)
   else
    (qqI K x2.2.1 p).bind fun x5 =>
    qaE K (.c2 base top p k x2.1 x2.2.1 x5 x2.2.1 (x2.2.1.length : Int) (0 : Int))
 | K + 1, .c2 base top p k goal monic parts t85 t86 t87 =>
  bif (decide (t87 < t86)) then
   (gi t85 t87).bind fun x2 =>
   (qdJ K x2 p).bind fun x4 =>
   qaE K (.c3 base top ([x4] : List (List qaB)) p k goal monic parts t85 t86 (wI6 (t87 + (1 : Int))))
  else
   qaE K (.c4 base top base p k goal monic parts (1 : Int))
 | K + 1, .c3 base top r97 p k goal monic parts t85 t86 t87 =>
  bif (decide (t87 < t86)) then
   (gi t85 t87).bind fun x2 =>
   (qdJ K x2 p).bind fun x4 =>
   gd ((r97 ++ ([x4] : List (List qaB))).length * 24 ≤ 140737488355328) <|
   qaE K (.c3 base top (r97 ++ ([x4] : List (List qaB))) p k goal monic parts t85 t86 (wI6 (t87 + (1 : Int))))
  else
   qaE K (.c5 base top r97 base p k goal monic parts (1 : Int))
 | K + 1, .c4 _ top _ _ k goal monic _ step =>
  bif (decide (step = k)) then
   bif (decide ((monic.length : Int) = (0 : Int))) then
    some ([], (0 : Int))
   else
    bif (decide ((Int.tmod (wI6 (k - (1 : Int))) (2 : Int)) = 0)) then
     some ([], (0 : Int))
    else
     bif (decide ((Int.tmod (wI6 (k - (1 : Int))) (2 : Int)) = 1)) then
      some ([], (0 : Int))
     else
      none
  else
   bif (decide ((monic.length : Int) = (0 : Int))) then
    bif (decide ((monic.length : Int) = (0 : Int))) then
     some ([], (0 : Int))
    else
     bif (decide ((Int.tmod (wI6 (k - (1 : Int))) (2 : Int)) = 0)) then
      some ([], (0 : Int))
     else
      bif (decide ((Int.tmod (wI6 (k - (1 : Int))) (2 : Int)) = 1)) then
       some ([], (0 : Int))
      else
       none
   else
    bif (decide ((Int.tmod (wI6 (step - (1 : Int))) (2 : Int)) = 0)) then
     (qeT K [] top).bind fun x4 =>
     (qjA K goal x4.1).bind fun x6 =>
     (qb5 K x6 top).bind fun _ =>
     none
    else
     bif (decide ((Int.tmod (wI6 (step - (1 : Int))) (2 : Int)) = 1)) then
      (qeT K [] top).bind fun x5 =>
      (qjA K goal x5.1).bind fun x7 =>
      (qb5 K x7 top).bind fun _ =>
      none
     else
      none
 | K + 1, .c5 base top pair power p k goal monic parts step =>
  bif (decide (step = k)) then
   bif (decide ((monic.length : Int) = (0 : Int))) then
    some ([], (0 : Int))
   else
    bif (decide ((Int.tmod (wI6 (k - (1 : Int))) (2 : Int)) = 0)) then
     some (pair, (0 : Int))
    else
     bif (decide ((Int.tmod (wI6 (k - (1 : Int))) (2 : Int)) = 1)) then
      some ([], (0 : Int))
     else
      none
  else
   bif (decide ((monic.length : Int) = (0 : Int))) then
    bif (decide ((monic.length : Int) = (0 : Int))) then
     some ([], (0 : Int))
    else
     bif (decide ((Int.tmod (wI6 (k - (1 : Int))) (2 : Int)) = 0)) then
      some (pair, (0 : Int))
     else
      bif (decide ((Int.tmod (wI6 (k - (1 : Int))) (2 : Int)) = 1)) then
       some ([], (0 : Int))
      else
       none
   else
    bif (decide ((Int.tmod (wI6 (step - (1 : Int))) (2 : Int)) = 0)) then
     (qeT K pair top).bind fun x4 =>
     (qjA K goal x4.1).bind fun x6 =>
     (qb5 K x6 top).bind fun x8 =>
     qaE K (.c7 base top pair power p k goal monic parts step pair x8.1 (x8.1.length : Int) (0 : Int))
    else
     bif (decide ((Int.tmod (wI6 (step - (1 : Int))) (2 : Int)) = 1)) then
      (qeT K [] top).bind fun x5 =>
      (qjA K goal x5.1).bind fun x7 =>
      (qb5 K x7 top).bind fun _ =>
      none
     else
      none
 | K + 1, .c7 base top pair power p k goal monic parts step now t131 t132 t133 =>
  bif (decide (t133 < t132)) then
   (gi t131 t133).bind fun x2 =>
   (qeU K x2 power).bind fun x4 =>
   (qdQ K x4.1 p).bind fun x6 =>
   qaE K (.c11 base top pair power ([x6] : List Int) p k goal monic parts step now t131 t132 (wI6 (t133 + (1 : Int))))
  else
   (qf0 K power base).bind fun x2 =>
   qaE K (.c12 base top pair power x2 p k goal monic parts step now (now.length : Int) (0 : Int))
 | K + 1, .c11 base top pair power r148 p k goal monic parts step now t131 t132 t133 =>
  bif (decide (t133 < t132)) then
   (gi t131 t133).bind fun x2 =>
   (qeU K x2 power).bind fun x4 =>
   (qdQ K x4.1 p).bind fun x6 =>
   gd ((r148 ++ ([x6] : List Int)).length * 4 ≤ 140737488355328) <|
   qaE K (.c11 base top pair power (r148 ++ ([x6] : List Int)) p k goal monic parts step now t131 t132 (wI6 (t133 + (1 : Int))))
  else
   (qf0 K power base).bind fun x2 =>
   qaE K (.c17 base top pair power x2 r148 p k goal monic parts step now (now.length : Int) (0 : Int))
 | K + 1, .c12 base top pair power next p k goal monic parts step t153 t154 t155 =>
  bif (decide (t155 < t154)) then
   (gi t153 t155).bind fun x2 =>
   (gi parts t155).bind fun x4 =>
   (qdO K [] x4 p).bind fun x6 =>
   (gi monic t155).bind fun x8 =>
   (qdR K x6 x8 p).bind fun x10 =>
   (qdJ K x10.2.1 p).bind fun x12 =>
   (qeK K x12 power).bind fun x14 =>
   (qiD K x2 x14).bind fun x16 =>
   (qb5 K x16 next).bind fun x18 =>
   qaE K (.c18 base top pair power next ([x18.1] : List (List qaB)) p k goal monic parts step t153 t154 (wI6 (t155 + (1 : Int))))
  else
   bif (decide ((Int.tmod step (2 : Int)) = 0)) then
    none
   else
    bif (decide ((Int.tmod step (2 : Int)) = 1)) then
     none
    else
     none
 | K + 1, .c17 base top pair power next r148 p k goal monic parts step t153 t154 t155 =>
  bif (decide (t155 < t154)) then
   (gi t153 t155).bind fun x2 =>
   (gi parts t155).bind fun x4 =>
   (qdO K r148 x4 p).bind fun x6 =>
   (gi monic t155).bind fun x8 =>
   (qdR K x6 x8 p).bind fun x10 =>
   (qdJ K x10.2.1 p).bind fun x12 =>
   (qeK K x12 power).bind fun x14 =>
   (qiD K x2 x14).bind fun x16 =>
   (qb5 K x16 next).bind fun x18 =>
   qaE K (.c21 base top pair power next ([x18.1] : List (List qaB)) p k goal monic parts step r148 t153 t154 (wI6 (t155 + (1 : Int))))
  else
   bif (decide ((Int.tmod step (2 : Int)) = 0)) then
    none
   else
    bif (decide ((Int.tmod step (2 : Int)) = 1)) then
     none
    else
     none
 | K + 1, .c18 base top pair power next r193 p k goal monic parts step t153 t154 t155 =>
  bif (decide (t155 < t154)) then
   (gi t153 t155).bind fun x2 =>
   (gi parts t155).bind fun x4 =>
   (qdO K [] x4 p).bind fun x6 =>
   (gi monic t155).bind fun x8 =>
   (qdR K x6 x8 p).bind fun x10 =>
   (qdJ K x10.2.1 p).bind fun x12 =>
   (qeK K x12 power).bind fun x14 =>
   (qiD K x2 x14).bind fun x16 =>
   (qb5 K x16 next).bind fun x18 =>
   gd ((r193 ++ ([x18.1] : List (List qaB))).length * 24 ≤ 140737488355328) <|
   qaE K (.c18 base top pair power next (r193 ++ ([x18.1] : List (List qaB))) p k goal monic parts step t153 t154 (wI6 (t155 + (1 : Int))))
  else
   bif (decide ((Int.tmod step (2 : Int)) = 0)) then
    qaE K (.c22 base top next r193 p k goal monic parts step)
   else
    bif (decide ((Int.tmod step (2 : Int)) = 1)) then
     qaE K (.c23 base top pair next r193 p k goal monic parts step)
    else
     none
 | K + 1, .c21 base top pair power next r193 p k goal monic parts step change t153 t154 t155 =>
  bif (decide (t155 < t154)) then
   (gi t153 t155).bind fun x2 =>
   (gi parts t155).bind fun x4 =>
   (qdO K change x4 p).bind fun x6 =>
   (gi monic t155).bind fun x8 =>
   (qdR K x6 x8 p).bind fun x10 =>
   (qdJ K x10.2.1 p).bind fun x12 =>
   (qeK K x12 power).bind fun x14 =>
   (qiD K x2 x14).bind fun x16 =>
   (qb5 K x16 next).bind fun x18 =>
   gd ((r193 ++ ([x18.1] : List (List qaB))).length * 24 ≤ 140737488355328) <|
   qaE K (.c21 base top pair power next (r193 ++ ([x18.1] : List (List qaB))) p k goal monic parts step change t153 t154 (wI6 (t155 + (1 : Int))))
  else
   bif (decide ((Int.tmod step (2 : Int)) = 0)) then
    qaE K (.c22 base top next r193 p k goal monic parts step)
   else
    bif (decide ((Int.tmod step (2 : Int)) = 1)) then
     qaE K (.c23 base top pair next r193 p k goal monic parts step)
    else
     none
 | K + 1, .c22 base top power r193 p k goal monic parts step =>
  qaE K (.c5 base top r193 power p k goal monic parts (wI6 (step + (1 : Int))))
 | K + 1, .c23 base top pair power r193 p k goal monic parts step =>
  qaE K (.c24 base top (qeN.mk pair r193) power p k goal monic parts (wI6 (step + (1 : Int))))
 | K + 1, .c24 base top pair power p k goal monic parts step =>
  bif (decide (step = k)) then
   bif (decide ((monic.length : Int) = (0 : Int))) then
    some ([], (0 : Int))
   else
    bif (decide ((Int.tmod (wI6 (k - (1 : Int))) (2 : Int)) = 0)) then
     some (pair.e0, (0 : Int))
    else
     bif (decide ((Int.tmod (wI6 (k - (1 : Int))) (2 : Int)) = 1)) then
      some (pair.e1, (0 : Int))
     else
      none
  else
   bif (decide ((monic.length : Int) = (0 : Int))) then
    bif (decide ((monic.length : Int) = (0 : Int))) then
     some ([], (0 : Int))
    else
     bif (decide ((Int.tmod (wI6 (k - (1 : Int))) (2 : Int)) = 0)) then
      some (pair.e0, (0 : Int))
     else
      bif (decide ((Int.tmod (wI6 (k - (1 : Int))) (2 : Int)) = 1)) then
       some (pair.e1, (0 : Int))
      else
       none
   else
    bif (decide ((Int.tmod (wI6 (step - (1 : Int))) (2 : Int)) = 0)) then
     (qeT K pair.e0 top).bind fun x4 =>
     (qjA K goal x4.1).bind fun x6 =>
     (qb5 K x6 top).bind fun x8 =>
     qaE K (.c25 base top pair power p k goal monic parts step pair.e0 x8.1 (x8.1.length : Int) (0 : Int))
    else
     bif (decide ((Int.tmod (wI6 (step - (1 : Int))) (2 : Int)) = 1)) then
      (qeT K pair.e1 top).bind fun x5 =>
      (qjA K goal x5.1).bind fun x7 =>
      (qb5 K x7 top).bind fun x9 =>
      qaE K (.c25 base top pair power p k goal monic parts step pair.e1 x9.1 (x9.1.length : Int) (0 : Int))
     else
      none
 | K + 1, .c25 base top pair power p k goal monic parts step now t131 t132 t133 =>
  bif (decide (t133 < t132)) then
   (gi t131 t133).bind fun x2 =>
   (qeU K x2 power).bind fun x4 =>
   (qdQ K x4.1 p).bind fun x6 =>
   qaE K (.c26 base top pair power ([x6] : List Int) p k goal monic parts step now t131 t132 (wI6 (t133 + (1 : Int))))
  else
   (qf0 K power base).bind fun x2 =>
   qaE K (.c27 base top pair power x2 p k goal monic parts step now (now.length : Int) (0 : Int))
 | K + 1, .c26 base top pair power r148 p k goal monic parts step now t131 t132 t133 =>
  bif (decide (t133 < t132)) then
   (gi t131 t133).bind fun x2 =>
   (qeU K x2 power).bind fun x4 =>
   (qdQ K x4.1 p).bind fun x6 =>
   gd ((r148 ++ ([x6] : List Int)).length * 4 ≤ 140737488355328) <|
   qaE K (.c26 base top pair power (r148 ++ ([x6] : List Int)) p k goal monic parts step now t131 t132 (wI6 (t133 + (1 : Int))))
  else
   (qf0 K power base).bind fun x2 =>
   qaE K (.c28 base top pair power x2 r148 p k goal monic parts step now (now.length : Int) (0 : Int))
 | K + 1, .c27 base top pair power next p k goal monic parts step t153 t154 t155 =>
  bif (decide (t155 < t154)) then
   (gi t153 t155).bind fun x2 =>
   (gi parts t155).bind fun x4 =>
   (qdO K [] x4 p).bind fun x6 =>
   (gi monic t155).bind fun x8 =>
   (qdR K x6 x8 p).bind fun x10 =>
   (qdJ K x10.2.1 p).bind fun x12 =>
   (qeK K x12 power).bind fun x14 =>
   (qiD K x2 x14).bind fun x16 =>
   (qb5 K x16 next).bind fun x18 =>
   qaE K (.c29 base top pair power next ([x18.1] : List (List qaB)) p k goal monic parts step t153 t154 (wI6 (t155 + (1 : Int))))
  else
   bif (decide ((Int.tmod step (2 : Int)) = 0)) then
    none
   else
    bif (decide ((Int.tmod step (2 : Int)) = 1)) then
     none
    else
     none
 | K + 1, .c28 base top pair power next r148 p k goal monic parts step t153 t154 t155 =>
  bif (decide (t155 < t154)) then
   (gi t153 t155).bind fun x2 =>
   (gi parts t155).bind fun x4 =>
   (qdO K r148 x4 p).bind fun x6 =>
   (gi monic t155).bind fun x8 =>
   (qdR K x6 x8 p).bind fun x10 =>
   (qdJ K x10.2.1 p).bind fun x12 =>
   (qeK K x12 power).bind fun x14 =>
   (qiD K x2 x14).bind fun x16 =>
   (qb5 K x16 next).bind fun x18 =>
   qaE K (.c31 base top pair power next ([x18.1] : List (List qaB)) p k goal monic parts step r148 t153 t154 (wI6 (t155 + (1 : Int))))
  else
   bif (decide ((Int.tmod step (2 : Int)) = 0)) then
    none
   else
    bif (decide ((Int.tmod step (2 : Int)) = 1)) then
     none
    else
     none
 | K + 1, .c29 base top pair power next r193 p k goal monic parts step t153 t154 t155 =>
  bif (decide (t155 < t154)) then
   (gi t153 t155).bind fun x2 =>
   (gi parts t155).bind fun x4 =>
   (qdO K [] x4 p).bind fun x6 =>
   (gi monic t155).bind fun x8 =>
   (qdR K x6 x8 p).bind fun x10 =>
   (qdJ K x10.2.1 p).bind fun x12 =>
   (qeK K x12 power).bind fun x14 =>
   (qiD K x2 x14).bind fun x16 =>
   (qb5 K x16 next).bind fun x18 =>
   gd ((r193 ++ ([x18.1] : List (List qaB))).length * 24 ≤ 140737488355328) <|
   qaE K (.c29 base top pair power next (r193 ++ ([x18.1] : List (List qaB))) p k goal monic parts step t153 t154 (wI6 (t155 + (1 : Int))))
  else
   bif (decide ((Int.tmod step (2 : Int)) = 0)) then
    qaE K (.c32 base top pair.e1 next r193 p k goal monic parts step)
   else
    bif (decide ((Int.tmod step (2 : Int)) = 1)) then
     qaE K (.c23 base top pair.e0 next r193 p k goal monic parts step)
    else
     none
 | K + 1, .c31 base top pair power next r193 p k goal monic parts step change t153 t154 t155 =>
  bif (decide (t155 < t154)) then
   (gi t153 t155).bind fun x2 =>
   (gi parts t155).bind fun x4 =>
   (qdO K change x4 p).bind fun x6 =>
   (gi monic t155).bind fun x8 =>
   (qdR K x6 x8 p).bind fun x10 =>
   (qdJ K x10.2.1 p).bind fun x12 =>
   (qeK K x12 power).bind fun x14 =>
   (qiD K x2 x14).bind fun x16 =>
   (qb5 K x16 next).bind fun x18 =>
   gd ((r193 ++ ([x18.1] : List (List qaB))).length * 24 ≤ 140737488355328) <|
   qaE K (.c31 base top pair power next (r193 ++ ([x18.1] : List (List qaB))) p k goal monic parts step change t153 t154 (wI6 (t155 + (1 : Int))))
  else
   bif (decide ((Int.tmod step (2 : Int)) = 0)) then
    qaE K (.c32 base top pair.e1 next r193 p k goal monic parts step)
   else
    bif (decide ((Int.tmod step (2 : Int)) = 1)) then
     qaE K (.c23 base top pair.e0 next r193 p k goal monic parts step)
    else
     none
 | K + 1, .c32 base top pair power r193 p k goal monic parts step =>
  qaE K (.c24 base top (qeN.mk r193 pair) power p k goal monic parts (wI6 (step + (1 : Int))))
def qjF (K : Nat) (f : (List qaB)) (list : (List (List Int))) (p : Int) (k : Int) : Option ((List (List qaB)) × Int) := qaE K (.c0 f list p k)
noncomputable def qaN : Code := qbQ prog 62
noncomputable def ziZ : qsU → List Fr
 | .c0 .. => [.code qaN]
 | .c1 .. => [.code (.loop (atC qaN [1,0,1,1,1,1,1,0,1,0,0])), .blk 0, .code (atC qaN [1,0,1,1,1,1,1,1]), .sc]
 | .c2 .. => [.code (.loop (atC qaN [1,0,1,1,1,1,1,1,1,1,1,1,0,1,0,0])), .blk 2, .code (atC qaN [1,0,1,1,1,1,1,1,1,1,1,1,1]), .sc]
 | .c3 .. => [.code (.loop (atC qaN [1,0,1,1,1,1,1,1,1,1,1,1,0,1,0,0])), .blk 2, .code (atC qaN [1,0,1,1,1,1,1,1,1,1,1,1,1]), .sc]
 | .c4 .. => [.code (.loop (atC qaN [1,0,1,1,1,1,1,1,1,1,1,1,1,1,1,0,1,0,0])), .blk 4, .code (atC qaN [1,0,1,1,1,1,1,1,1,1,1,1,1,1,1,1]), .sc]
 | .c5 .. => [.code (.loop (atC qaN [1,0,1,1,1,1,1,1,1,1,1,1,1,1,1,0,1,0,0])), .blk 4, .code (atC qaN [1,0,1,1,1,1,1,1,1,1,1,1,1,1,1,1]), .sc]
 | .c7 .. => [.code (.loop (atC qaN [1,0,1,1,1,1,1,1,1,1,1,1,1,1,1,0,1,0,0,0,0,1,1,1,1,1,0,1,0,0])), .blk 6, .code (atC qaN [1,0,1,1,1,1,1,1,1,1,1,1,1,1,1,0,1,0,0,0,0,1,1,1,1,1,1]), .blk 5, .code (atC qaN [1,0,1,1,1,1,1,1,1,1,1,1,1,1,1,0,1,0,0,1]), .lp (atC qaN [1,0,1,1,1,1,1,1,1,1,1,1,1,1,1,0,1,0,0]), .blk 4, .code (atC qaN [1,0,1,1,1,1,1,1,1,1,1,1,1,1,1,1]), .sc]
 | .c11 .. => [.code (.loop (atC qaN [1,0,1,1,1,1,1,1,1,1,1,1,1,1,1,0,1,0,0,0,0,1,1,1,1,1,0,1,0,0])), .blk 6, .code (atC qaN [1,0,1,1,1,1,1,1,1,1,1,1,1,1,1,0,1,0,0,0,0,1,1,1,1,1,1]), .blk 5, .code (atC qaN [1,0,1,1,1,1,1,1,1,1,1,1,1,1,1,0,1,0,0,1]), .lp (atC qaN [1,0,1,1,1,1,1,1,1,1,1,1,1,1,1,0,1,0,0]), .blk 4, .code (atC qaN [1,0,1,1,1,1,1,1,1,1,1,1,1,1,1,1]), .sc]
 | .c12 .. => [.code (.loop (atC qaN [1,0,1,1,1,1,1,1,1,1,1,1,1,1,1,0,1,0,0,0,0,1,1,1,1,1,1,1,1,0,1,0,0])), .blk 8, .code (atC qaN [1,0,1,1,1,1,1,1,1,1,1,1,1,1,1,0,1,0,0,0,0,1,1,1,1,1,1,1,1,1]), .blk 5, .code (atC qaN [1,0,1,1,1,1,1,1,1,1,1,1,1,1,1,0,1,0,0,1]), .lp (atC qaN [1,0,1,1,1,1,1,1,1,1,1,1,1,1,1,0,1,0,0]), .blk 4, .code (atC qaN [1,0,1,1,1,1,1,1,1,1,1,1,1,1,1,1]), .sc]
 | .c17 .. => [.code (.loop (atC qaN [1,0,1,1,1,1,1,1,1,1,1,1,1,1,1,0,1,0,0,0,0,1,1,1,1,1,1,1,1,0,1,0,0])), .blk 8, .code (atC qaN [1,0,1,1,1,1,1,1,1,1,1,1,1,1,1,0,1,0,0,0,0,1,1,1,1,1,1,1,1,1]), .blk 5, .code (atC qaN [1,0,1,1,1,1,1,1,1,1,1,1,1,1,1,0,1,0,0,1]), .lp (atC qaN [1,0,1,1,1,1,1,1,1,1,1,1,1,1,1,0,1,0,0]), .blk 4, .code (atC qaN [1,0,1,1,1,1,1,1,1,1,1,1,1,1,1,1]), .sc]
 | .c18 .. => [.code (.loop (atC qaN [1,0,1,1,1,1,1,1,1,1,1,1,1,1,1,0,1,0,0,0,0,1,1,1,1,1,1,1,1,0,1,0,0])), .blk 8, .code (atC qaN [1,0,1,1,1,1,1,1,1,1,1,1,1,1,1,0,1,0,0,0,0,1,1,1,1,1,1,1,1,1]), .blk 5, .code (atC qaN [1,0,1,1,1,1,1,1,1,1,1,1,1,1,1,0,1,0,0,1]), .lp (atC qaN [1,0,1,1,1,1,1,1,1,1,1,1,1,1,1,0,1,0,0]), .blk 4, .code (atC qaN [1,0,1,1,1,1,1,1,1,1,1,1,1,1,1,1]), .sc]
 | .c21 .. => [.code (.loop (atC qaN [1,0,1,1,1,1,1,1,1,1,1,1,1,1,1,0,1,0,0,0,0,1,1,1,1,1,1,1,1,0,1,0,0])), .blk 8, .code (atC qaN [1,0,1,1,1,1,1,1,1,1,1,1,1,1,1,0,1,0,0,0,0,1,1,1,1,1,1,1,1,1]), .blk 5, .code (atC qaN [1,0,1,1,1,1,1,1,1,1,1,1,1,1,1,0,1,0,0,1]), .lp (atC qaN [1,0,1,1,1,1,1,1,1,1,1,1,1,1,1,0,1,0,0]), .blk 4, .code (atC qaN [1,0,1,1,1,1,1,1,1,1,1,1,1,1,1,1]), .sc]
 | .c22 .. => [.code (atC qaN [1,0,1,1,1,1,1,1,1,1,1,1,1,1,1,0,1,0,0,1]), .lp (atC qaN [1,0,1,1,1,1,1,1,1,1,1,1,1,1,1,0,1,0,0]), .blk 4, .code (atC qaN [1,0,1,1,1,1,1,1,1,1,1,1,1,1,1,1]), .sc]
 | .c23 .. => [.code (atC qaN [1,0,1,1,1,1,1,1,1,1,1,1,1,1,1,0,1,0,0,1]), .lp (atC qaN [1,0,1,1,1,1,1,1,1,1,1,1,1,1,1,0,1,0,0]), .blk 4, .code (atC qaN [1,0,1,1,1,1,1,1,1,1,1,1,1,1,1,1]), .sc]
 | .c24 .. => [.code (.loop (atC qaN [1,0,1,1,1,1,1,1,1,1,1,1,1,1,1,0,1,0,0])), .blk 4, .code (atC qaN [1,0,1,1,1,1,1,1,1,1,1,1,1,1,1,1]), .sc]
 | .c25 .. => [.code (.loop (atC qaN [1,0,1,1,1,1,1,1,1,1,1,1,1,1,1,0,1,0,0,0,0,1,1,1,1,1,0,1,0,0])), .blk 6, .code (atC qaN [1,0,1,1,1,1,1,1,1,1,1,1,1,1,1,0,1,0,0,0,0,1,1,1,1,1,1]), .blk 5, .code (atC qaN [1,0,1,1,1,1,1,1,1,1,1,1,1,1,1,0,1,0,0,1]), .lp (atC qaN [1,0,1,1,1,1,1,1,1,1,1,1,1,1,1,0,1,0,0]), .blk 4, .code (atC qaN [1,0,1,1,1,1,1,1,1,1,1,1,1,1,1,1]), .sc]
 | .c26 .. => [.code (.loop (atC qaN [1,0,1,1,1,1,1,1,1,1,1,1,1,1,1,0,1,0,0,0,0,1,1,1,1,1,0,1,0,0])), .blk 6, .code (atC qaN [1,0,1,1,1,1,1,1,1,1,1,1,1,1,1,0,1,0,0,0,0,1,1,1,1,1,1]), .blk 5, .code (atC qaN [1,0,1,1,1,1,1,1,1,1,1,1,1,1,1,0,1,0,0,1]), .lp (atC qaN [1,0,1,1,1,1,1,1,1,1,1,1,1,1,1,0,1,0,0]), .blk 4, .code (atC qaN [1,0,1,1,1,1,1,1,1,1,1,1,1,1,1,1]), .sc]
 | .c27 .. => [.code (.loop (atC qaN [1,0,1,1,1,1,1,1,1,1,1,1,1,1,1,0,1,0,0,0,0,1,1,1,1,1,1,1,1,0,1,0,0])), .blk 8, .code (atC qaN [1,0,1,1,1,1,1,1,1,1,1,1,1,1,1,0,1,0,0,0,0,1,1,1,1,1,1,1,1,1]), .blk 5, .code (atC qaN [1,0,1,1,1,1,1,1,1,1,1,1,1,1,1,0,1,0,0,1]), .lp (atC qaN [1,0,1,1,1,1,1,1,1,1,1,1,1,1,1,0,1,0,0]), .blk 4, .code (atC qaN [1,0,1,1,1,1,1,1,1,1,1,1,1,1,1,1]), .sc]
 | .c28 .. => [.code (.loop (atC qaN [1,0,1,1,1,1,1,1,1,1,1,1,1,1,1,0,1,0,0,0,0,1,1,1,1,1,1,1,1,0,1,0,0])), .blk 8, .code (atC qaN [1,0,1,1,1,1,1,1,1,1,1,1,1,1,1,0,1,0,0,0,0,1,1,1,1,1,1,1,1,1]), .blk 5, .code (atC qaN [1,0,1,1,1,1,1,1,1,1,1,1,1,1,1,0,1,0,0,1]), .lp (atC qaN [1,0,1,1,1,1,1,1,1,1,1,1,1,1,1,0,1,0,0]), .blk 4, .code (atC qaN [1,0,1,1,1,1,1,1,1,1,1,1,1,1,1,1]), .sc]
 | .c29 .. => [.code (.loop (atC qaN [1,0,1,1,1,1,1,1,1,1,1,1,1,1,1,0,1,0,0,0,0,1,1,1,1,1,1,1,1,0,1,0,0])), .blk 8, .code (atC qaN [1,0,1,1,1,1,1,1,1,1,1,1,1,1,1,0,1,0,0,0,0,1,1,1,1,1,1,1,1,1]), .blk 5, .code (atC qaN [1,0,1,1,1,1,1,1,1,1,1,1,1,1,1,0,1,0,0,1]), .lp (atC qaN [1,0,1,1,1,1,1,1,1,1,1,1,1,1,1,0,1,0,0]), .blk 4, .code (atC qaN [1,0,1,1,1,1,1,1,1,1,1,1,1,1,1,1]), .sc]
 | .c31 .. => [.code (.loop (atC qaN [1,0,1,1,1,1,1,1,1,1,1,1,1,1,1,0,1,0,0,0,0,1,1,1,1,1,1,1,1,0,1,0,0])), .blk 8, .code (atC qaN [1,0,1,1,1,1,1,1,1,1,1,1,1,1,1,0,1,0,0,0,0,1,1,1,1,1,1,1,1,1]), .blk 5, .code (atC qaN [1,0,1,1,1,1,1,1,1,1,1,1,1,1,1,0,1,0,0,1]), .lp (atC qaN [1,0,1,1,1,1,1,1,1,1,1,1,1,1,1,0,1,0,0]), .blk 4, .code (atC qaN [1,0,1,1,1,1,1,1,1,1,1,1,1,1,1,1]), .sc]
 | .c32 .. => [.code (atC qaN [1,0,1,1,1,1,1,1,1,1,1,1,1,1,1,0,1,0,0,1]), .lp (atC qaN [1,0,1,1,1,1,1,1,1,1,1,1,1,1,1,0,1,0,0]), .blk 4, .code (atC qaN [1,0,1,1,1,1,1,1,1,1,1,1,1,1,1,1]), .sc]
def zmH : qsU → St
 | .c0 f list p k => St.init [(tl 2 f qaA), (tl 1 list qaF), (ti .u32 p), (ti .i64 k)]
 | .c1 base top f list p k t63 t64 => ⟨[(0, vl 2 f qaA), (1, vl 1 list qaF), (2, vi .u32 p), (3, vi .i64 k), (11, .c (C.ptr 11 0)), (12, .c (C.ptr 12 0)), (63, vi .i64 t63), (64, vi .i64 t64)], [(11, .var ((qaA base).map C.t)), (12, .var ((qaA top).map C.t))], []⟩
 | .c2 base top p k goal monic parts t85 t86 t87 => ⟨[(2, vi .u32 p), (3, vi .i64 k), (11, .c (C.ptr 11 0)), (12, .c (C.ptr 12 0)), (13, vl 2 goal qaA), (14, vl 1 monic qaF), (16, vl 1 parts qaF), (17, .c (C.ptr 17 0)), (85, vl 1 t85 qaF), (86, vi .i64 t86), (87, vi .i64 t87)], [(11, .var ((qaA base).map C.t)), (12, .var ((qaA top).map C.t)), (17, .var [C.nil, C.nil])], []⟩
 | .c3 base top r97 p k goal monic parts t85 t86 t87 => ⟨[(2, vi .u32 p), (3, vi .i64 k), (11, .c (C.ptr 11 0)), (12, .c (C.ptr 12 0)), (13, vl 2 goal qaA), (14, vl 1 monic qaF), (16, vl 1 parts qaF), (17, .c (C.ptr 17 0)), (85, vl 1 t85 qaF), (86, vi .i64 t86), (87, vi .i64 t87)], [(11, .var ((qaA base).map C.t)), (12, .var ((qaA top).map C.t)), (17, .var [C.row 97 0 r97.length, C.nil]), (97, .row 90 1 (r97.map qaD) 0)], []⟩
 | .c4 base top power p k goal monic parts step => ⟨[(2, vi .u32 p), (3, vi .i64 k), (11, .c (C.ptr 11 0)), (12, .c (C.ptr 12 0)), (13, vl 2 goal qaA), (14, vl 1 monic qaF), (16, vl 1 parts qaF), (17, .c (C.ptr 17 0)), (20, .c (C.ptr 20 0)), (21, vi .i64 step)], [(11, .var ((qaA base).map C.t)), (12, .var ((qaA top).map C.t)), (17, .var [C.nil, C.nil]), (20, .var ((qaA power).map C.t))], []⟩
 | .c5 base top pair power p k goal monic parts step => ⟨[(2, vi .u32 p), (3, vi .i64 k), (11, .c (C.ptr 11 0)), (12, .c (C.ptr 12 0)), (13, vl 2 goal qaA), (14, vl 1 monic qaF), (16, vl 1 parts qaF), (17, .c (C.ptr 17 0)), (20, .c (C.ptr 20 0)), (21, vi .i64 step)], [(11, .var ((qaA base).map C.t)), (12, .var ((qaA top).map C.t)), (17, .var [C.t (T.sl 1 (pair.map qaD)), C.nil]), (20, .var ((qaA power).map C.t))], []⟩
 | .c7 base top pair power p k goal monic parts step now t131 t132 t133 => ⟨[(2, vi .u32 p), (3, vi .i64 k), (11, .c (C.ptr 11 0)), (12, .c (C.ptr 12 0)), (13, vl 2 goal qaA), (14, vl 1 monic qaF), (16, vl 1 parts qaF), (17, .c (C.ptr 17 0)), (20, .c (C.ptr 20 0)), (21, vi .i64 step), (22, vl 1 now qaD), (27, .c (C.nil)), (131, vl 2 t131 qaA), (132, vi .i64 t132), (133, vi .i64 t133)], [(11, .var ((qaA base).map C.t)), (12, .var ((qaA top).map C.t)), (17, .var [C.t (T.sl 1 (pair.map qaD)), C.nil]), (20, .var ((qaA power).map C.t))], []⟩
 | .c11 base top pair power r148 p k goal monic parts step now t131 t132 t133 => ⟨[(2, vi .u32 p), (3, vi .i64 k), (11, .c (C.ptr 11 0)), (12, .c (C.ptr 12 0)), (13, vl 2 goal qaA), (14, vl 1 monic qaF), (16, vl 1 parts qaF), (17, .c (C.ptr 17 0)), (20, .c (C.ptr 20 0)), (21, vi .i64 step), (22, vl 1 now qaD), (27, .c (C.row 148 0 r148.length)), (131, vl 2 t131 qaA), (132, vi .i64 t132), (133, vi .i64 t133)], [(11, .var ((qaA base).map C.t)), (12, .var ((qaA top).map C.t)), (17, .var [C.t (T.sl 1 (pair.map qaD)), C.nil]), (20, .var ((qaA power).map C.t)), (148, .row 101 1 (r148.map qaC) 0)], []⟩
 | .c12 base top pair power next p k goal monic parts step t153 t154 t155 => ⟨[(2, vi .u32 p), (3, vi .i64 k), (11, .c (C.ptr 11 0)), (12, .c (C.ptr 12 0)), (13, vl 2 goal qaA), (14, vl 1 monic qaF), (16, vl 1 parts qaF), (17, .c (C.ptr 17 0)), (20, .c (C.ptr 20 0)), (21, vi .i64 step), (27, .c (C.nil)), (32, .c (C.ptr 32 0)), (33, .c (C.nil)), (153, vl 1 t153 qaD), (154, vi .i64 t154), (155, vi .i64 t155)], [(11, .var ((qaA base).map C.t)), (12, .var ((qaA top).map C.t)), (17, .var [C.t (T.sl 1 (pair.map qaD)), C.nil]), (20, .var ((qaA power).map C.t)), (32, .var ((qaA next).map C.t))], []⟩
 | .c17 base top pair power next r148 p k goal monic parts step t153 t154 t155 => ⟨[(2, vi .u32 p), (3, vi .i64 k), (11, .c (C.ptr 11 0)), (12, .c (C.ptr 12 0)), (13, vl 2 goal qaA), (14, vl 1 monic qaF), (16, vl 1 parts qaF), (17, .c (C.ptr 17 0)), (20, .c (C.ptr 20 0)), (21, vi .i64 step), (27, .c (C.row 148 0 r148.length)), (32, .c (C.ptr 32 0)), (33, .c (C.nil)), (153, vl 1 t153 qaD), (154, vi .i64 t154), (155, vi .i64 t155)], [(11, .var ((qaA base).map C.t)), (12, .var ((qaA top).map C.t)), (17, .var [C.t (T.sl 1 (pair.map qaD)), C.nil]), (20, .var ((qaA power).map C.t)), (32, .var ((qaA next).map C.t)), (148, .row 101 1 (r148.map qaC) 0)], []⟩
 | .c18 base top pair power next r193 p k goal monic parts step t153 t154 t155 => ⟨[(2, vi .u32 p), (3, vi .i64 k), (11, .c (C.ptr 11 0)), (12, .c (C.ptr 12 0)), (13, vl 2 goal qaA), (14, vl 1 monic qaF), (16, vl 1 parts qaF), (17, .c (C.ptr 17 0)), (20, .c (C.ptr 20 0)), (21, vi .i64 step), (27, .c (C.nil)), (32, .c (C.ptr 32 0)), (33, .c (C.row 193 0 r193.length)), (153, vl 1 t153 qaD), (154, vi .i64 t154), (155, vi .i64 t155)], [(11, .var ((qaA base).map C.t)), (12, .var ((qaA top).map C.t)), (17, .var [C.t (T.sl 1 (pair.map qaD)), C.nil]), (20, .var ((qaA power).map C.t)), (32, .var ((qaA next).map C.t)), (193, .row 90 1 (r193.map qaD) 0)], []⟩
 | .c21 base top pair power next r193 p k goal monic parts step change t153 t154 t155 => ⟨[(2, vi .u32 p), (3, vi .i64 k), (11, .c (C.ptr 11 0)), (12, .c (C.ptr 12 0)), (13, vl 2 goal qaA), (14, vl 1 monic qaF), (16, vl 1 parts qaF), (17, .c (C.ptr 17 0)), (20, .c (C.ptr 20 0)), (21, vi .i64 step), (27, vl 1 change qaC), (32, .c (C.ptr 32 0)), (33, .c (C.row 193 0 r193.length)), (153, vl 1 t153 qaD), (154, vi .i64 t154), (155, vi .i64 t155)], [(11, .var ((qaA base).map C.t)), (12, .var ((qaA top).map C.t)), (17, .var [C.t (T.sl 1 (pair.map qaD)), C.nil]), (20, .var ((qaA power).map C.t)), (32, .var ((qaA next).map C.t)), (193, .row 90 1 (r193.map qaD) 0)], []⟩
 | .c22 base top power r193 p k goal monic parts step => ⟨[(2, vi .u32 p), (3, vi .i64 k), (11, .c (C.ptr 11 0)), (12, .c (C.ptr 12 0)), (13, vl 2 goal qaA), (14, vl 1 monic qaF), (16, vl 1 parts qaF), (17, .c (C.ptr 17 0)), (20, .c (C.ptr 20 0)), (21, vi .i64 step)], [(11, .var ((qaA base).map C.t)), (12, .var ((qaA top).map C.t)), (17, .var [C.row 193 0 r193.length, C.nil]), (20, .var ((qaA power).map C.t)), (193, .row 90 1 (r193.map qaD) 0)], []⟩
 | .c23 base top pair power r193 p k goal monic parts step => ⟨[(2, vi .u32 p), (3, vi .i64 k), (11, .c (C.ptr 11 0)), (12, .c (C.ptr 12 0)), (13, vl 2 goal qaA), (14, vl 1 monic qaF), (16, vl 1 parts qaF), (17, .c (C.ptr 17 0)), (20, .c (C.ptr 20 0)), (21, vi .i64 step)], [(11, .var ((qaA base).map C.t)), (12, .var ((qaA top).map C.t)), (17, .var [C.t (T.sl 1 (pair.map qaD)), C.row 193 0 r193.length]), (20, .var ((qaA power).map C.t)), (193, .row 90 1 (r193.map qaD) 0)], []⟩
 | .c24 base top pair power p k goal monic parts step => ⟨[(2, vi .u32 p), (3, vi .i64 k), (11, .c (C.ptr 11 0)), (12, .c (C.ptr 12 0)), (13, vl 2 goal qaA), (14, vl 1 monic qaF), (16, vl 1 parts qaF), (17, .c (C.ptr 17 0)), (20, .c (C.ptr 20 0)), (21, vi .i64 step)], [(11, .var ((qaA base).map C.t)), (12, .var ((qaA top).map C.t)), (17, .var ((qgD pair).map C.t)), (20, .var ((qaA power).map C.t))], []⟩
 | .c25 base top pair power p k goal monic parts step now t131 t132 t133 => ⟨[(2, vi .u32 p), (3, vi .i64 k), (11, .c (C.ptr 11 0)), (12, .c (C.ptr 12 0)), (13, vl 2 goal qaA), (14, vl 1 monic qaF), (16, vl 1 parts qaF), (17, .c (C.ptr 17 0)), (20, .c (C.ptr 20 0)), (21, vi .i64 step), (22, vl 1 now qaD), (27, .c (C.nil)), (131, vl 2 t131 qaA), (132, vi .i64 t132), (133, vi .i64 t133)], [(11, .var ((qaA base).map C.t)), (12, .var ((qaA top).map C.t)), (17, .var ((qgD pair).map C.t)), (20, .var ((qaA power).map C.t))], []⟩
 | .c26 base top pair power r148 p k goal monic parts step now t131 t132 t133 => ⟨[(2, vi .u32 p), (3, vi .i64 k), (11, .c (C.ptr 11 0)), (12, .c (C.ptr 12 0)), (13, vl 2 goal qaA), (14, vl 1 monic qaF), (16, vl 1 parts qaF), (17, .c (C.ptr 17 0)), (20, .c (C.ptr 20 0)), (21, vi .i64 step), (22, vl 1 now qaD), (27, .c (C.row 148 0 r148.length)), (131, vl 2 t131 qaA), (132, vi .i64 t132), (133, vi .i64 t133)], [(11, .var ((qaA base).map C.t)), (12, .var ((qaA top).map C.t)), (17, .var ((qgD pair).map C.t)), (20, .var ((qaA power).map C.t)), (148, .row 101 1 (r148.map qaC) 0)], []⟩
 | .c27 base top pair power next p k goal monic parts step t153 t154 t155 => ⟨[(2, vi .u32 p), (3, vi .i64 k), (11, .c (C.ptr 11 0)), (12, .c (C.ptr 12 0)), (13, vl 2 goal qaA), (14, vl 1 monic qaF), (16, vl 1 parts qaF), (17, .c (C.ptr 17 0)), (20, .c (C.ptr 20 0)), (21, vi .i64 step), (27, .c (C.nil)), (32, .c (C.ptr 32 0)), (33, .c (C.nil)), (153, vl 1 t153 qaD), (154, vi .i64 t154), (155, vi .i64 t155)], [(11, .var ((qaA base).map C.t)), (12, .var ((qaA top).map C.t)), (17, .var ((qgD pair).map C.t)), (20, .var ((qaA power).map C.t)), (32, .var ((qaA next).map C.t))], []⟩
 | .c28 base top pair power next r148 p k goal monic parts step t153 t154 t155 => ⟨[(2, vi .u32 p), (3, vi .i64 k), (11, .c (C.ptr 11 0)), (12, .c (C.ptr 12 0)), (13, vl 2 goal qaA), (14, vl 1 monic qaF), (16, vl 1 parts qaF), (17, .c (C.ptr 17 0)), (20, .c (C.ptr 20 0)), (21, vi .i64 step), (27, .c (C.row 148 0 r148.length)), (32, .c (C.ptr 32 0)), (33, .c (C.nil)), (153, vl 1 t153 qaD), (154, vi .i64 t154), (155, vi .i64 t155)], [(11, .var ((qaA base).map C.t)), (12, .var ((qaA top).map C.t)), (17, .var ((qgD pair).map C.t)), (20, .var ((qaA power).map C.t)), (32, .var ((qaA next).map C.t)), (148, .row 101 1 (r148.map qaC) 0)], []⟩
 | .c29 base top pair power next r193 p k goal monic parts step t153 t154 t155 => ⟨[(2, vi .u32 p), (3, vi .i64 k), (11, .c (C.ptr 11 0)), (12, .c (C.ptr 12 0)), (13, vl 2 goal qaA), (14, vl 1 monic qaF), (16, vl 1 parts qaF), (17, .c (C.ptr 17 0)), (20, .c (C.ptr 20 0)), (21, vi .i64 step), (27, .c (C.nil)), (32, .c (C.ptr 32 0)), (33, .c (C.row 193 0 r193.length)), (153, vl 1 t153 qaD), (154, vi .i64 t154), (155, vi .i64 t155)], [(11, .var ((qaA base).map C.t)), (12, .var ((qaA top).map C.t)), (17, .var ((qgD pair).map C.t)), (20, .var ((qaA power).map C.t)), (32, .var ((qaA next).map C.t)), (193, .row 90 1 (r193.map qaD) 0)], []⟩
 | .c31 base top pair power next r193 p k goal monic parts step change t153 t154 t155 => ⟨[(2, vi .u32 p), (3, vi .i64 k), (11, .c (C.ptr 11 0)), (12, .c (C.ptr 12 0)), (13, vl 2 goal qaA), (14, vl 1 monic qaF), (16, vl 1 parts qaF), (17, .c (C.ptr 17 0)), (20, .c (C.ptr 20 0)), (21, vi .i64 step), (27, vl 1 change qaC), (32, .c (C.ptr 32 0)), (33, .c (C.row 193 0 r193.length)), (153, vl 1 t153 qaD), (154, vi .i64 t154), (155, vi .i64 t155)], [(11, .var ((qaA base).map C.t)), (12, .var ((qaA top).map C.t)), (17, .var ((qgD pair).map C.t)), (20, .var ((qaA power).map C.t)), (32, .var ((qaA next).map C.t)), (193, .row 90 1 (r193.map qaD) 0)], []⟩
 | .c32 base top pair power r193 p k goal monic parts step => ⟨[(2, vi .u32 p), (3, vi .i64 k), (11, .c (C.ptr 11 0)), (12, .c (C.ptr 12 0)), (13, vl 2 goal qaA), (14, vl 1 monic qaF), (16, vl 1 parts qaF), (17, .c (C.ptr 17 0)), (20, .c (C.ptr 20 0)), (21, vi .i64 step)], [(11, .var ((qaA base).map C.t)), (12, .var ((qaA top).map C.t)), (17, .var [C.row 193 0 r193.length, C.t (T.sl 1 (pair.map qaD))]), (20, .var ((qaA power).map C.t)), (193, .row 90 1 (r193.map qaD) 0)], []⟩
def qcW (cx : Cx) (c : qsU) (r : ((List (List qaB)) × Int)) : Prop := Wk prog cx (qc2 prog 62 [[1], [0]] (TV.tup [(false, [(T.sl 1 (r.1.map qaD))]), (false, [(T.int .i64 r.2)])])) (ziZ c) .normal (zmH c)
abbrev qcX (K : Nat) : Prop := ∀ c r, qaE K c = some r → ∀ cx : Cx, cx.n = 208 → qcW cx c r
theorem zmO {K} (ih : qcX K) {cx} (hn : cx.n = 208) {f list p k} {r} (h : qaE (K + 1) (.c0 f list p k) = some r) : qcW cx (.c0 f list p k) r := by
 rw [qaE] at h
 obtain ⟨x1, h2, h⟩ := qaH h
 rcases qaQ h with ⟨h3, h⟩ | ⟨h3, h⟩
 ·have h := oinj h; subst h
  exact wkR [rg2, rgG [oo, opI (.call [[0]] [(ti .u32 p)] (TV.c (T.bool x1))), oo, oo, .sb 43 true, oo, oo, oo], bTr, rg2] hn (aC (qbT h2) <| aC h3 <| aC rt <| aN)
 ·rcases qaQ h with ⟨h4, h⟩ | ⟨h4, h⟩
  ·have h := oinj h; subst h
   exact wkR [rg2, rgG [oo, opI (.call [[0]] [(ti .u32 p)] (TV.c (T.bool x1))), oo, oo, .sb 43 false, oo, oo, oo], bTr, rg2] hn (aC (qbT h2) <| aC h3 <| aC h4 <| aN)
  ·obtain ⟨x5, h6, h⟩ := qaH h
   rcases qaQ h with ⟨h7, h⟩ | ⟨h7, h⟩
   ·have h := oinj h; subst h
    exact wkR [rg2, rgG [oo, opI (.call [[0]] [(ti .u32 p)] (TV.c (T.bool x1))), oo, oo, .sb 43 false, oo, oo, oo], bFa, rgG [oo, oo, opI (.call [[1], [0]] [(tl 1 list qaF), (ti .u32 p)] (ti .i64 x5)), oo], rg2, bTr, rg3] hn (aC (qbT h2) <| aC h3 <| aC h4 <| aC (qsS h6) <| aC h7 <| aN)
   ·obtain ⟨x8, h9, h⟩ := qaH h
    obtain ⟨x10, h11, h⟩ := qaH h
    rcases qaQ h with ⟨h12, h⟩ | ⟨h12, h⟩
    ·have h := oinj h; subst h
     exact wkR [rg2, rgG [oo, opI (.call [[0]] [(ti .u32 p)] (TV.c (T.bool x1))), oo, oo, .sb 43 false, oo, oo, oo], bFa, rgG [oo, oo, opI (.call [[1], [0]] [(tl 1 list qaF), (ti .u32 p)] (ti .i64 x5)), oo], rg2, bFa, rgG [oo, opI (.call [[2]] [(tl 2 f qaA)] (TV.agg (qaA x8))), oo, opI (.call [[0,1], [0]] [(TV.agg (qaA x8)), (ti .u32 p)] (ti .u32 x10)), oo], bTr, rg2] hn (aC (qbT h2) <| aC h3 <| aC h4 <| aC (qsS h6) <| aC h7 <| aC (qm5 h9) <| aC (qa8 h11) <| aC h12 <| aN)
    ·obtain ⟨x13, h14, h⟩ := qaH h
     exact wkG [rg2, rgG [oo, opI (.call [[0]] [(ti .u32 p)] (TV.c (T.bool x1))), oo, oo, .sb 43 false, oo, oo, oo], bFa, rgG [oo, oo, opI (.call [[1], [0]] [(tl 1 list qaF), (ti .u32 p)] (ti .i64 x5)), oo], rg2, bFa, rgG [oo, opI (.call [[2]] [(tl 2 f qaA)] (TV.agg (qaA x8))), oo, opI (.call [[0,1], [0]] [(TV.agg (qaA x8)), (ti .u32 p)] (ti .u32 x10)), oo], bFa, rgG [oo, oo, opI (.call [[0]] [(TV.c (T.int .i64 (wI6 p)))] (TV.agg (qaA x13))), oo, oo], rg3, rg3, .pre [.keep [0,1,2,3,11,12,63,64] [11,12]]] hn (aC (qbT h2) <| aC h3 <| aC h4 <| aC (qsS h6) <| aC h7 <| aC (qm5 h9) <| aC (qa8 h11) <| aC h12 <| aC (qd8 h14) <| aN) (ih _ _ h cx hn)
theorem zmN {K} (ih : qcX K) {cx} (hn : cx.n = 208) {base top f list p k t63 t64} {r} (h : qaE (K + 1) (.c1 base top f list p k t63 t64) = some r) : qcW cx (.c1 base top f list p k t63 t64) r := by
 rw [qaE] at h
 rcases qaQ h with ⟨h1, h⟩ | ⟨h1, h⟩
 ·obtain ⟨x2, h3, h⟩ := qaH h
  exact wkG [.go, rg1, bTr, rgG [oo, oo, opI (.call [[0,1], [0,1]] [(TV.agg (qaA top)), (TV.agg (qaA base))] (TV.agg (qaA x2))), oo], rg2, .pre [.keep [0,1,2,3,11,12,63,64] [11,12]]] hn (aC h1 <| aC (qd9 h3) <| aN) (ih _ _ h cx hn)
 ·obtain ⟨x2, h3, h⟩ := qaH h
  rcases qaQ h with ⟨h4, h⟩ | ⟨h4, h⟩
  ·have h := oinj h; subst h
   exact wkR [.go, rg1, bFa, rgG [oo, oo, oo, oo, opI (.call [[2], [1], [0], [0,1]] [(tl 2 f qaA), (tl 1 list qaF), (ti .u32 p), (TV.agg (qaA top))] (TV.tup [(false, [(T.sl 2 (x2.1.map qaA))]), (false, [(T.sl 1 (x2.2.1.map qaF))]), (false, [(T.int .i64 x2.2.2)])])), oo, oo, oo, oo, oo, oo, oo], rg2, bTr, rg3] hn (aC h1 <| aC (qyP h3) <| aC h4 <| aN)
  ·obtain ⟨x5, h6, h⟩ := qaH h
   exact wkG [.go, rg1, bFa, rgG [oo, oo, oo, oo, opI (.call [[2], [1], [0], [0,1]] [(tl 2 f qaA), (tl 1 list qaF), (ti .u32 p), (TV.agg (qaA top))] (TV.tup [(false, [(T.sl 2 (x2.1.map qaA))]), (false, [(T.sl 1 (x2.2.1.map qaF))]), (false, [(T.int .i64 x2.2.2)])])), oo, oo, oo, oo, oo, oo, oo], rg2, bFa, rgG [oo, oo, opI (.call [[1], [0]] [(TV.c (T.sl 1 (x2.2.1.map qaF))), (ti .u32 p)] (tl 1 x5 qaF)), oo], rg1, rgG [oo, opI (.ln (x2.2.1.length : Int)), oo], .pre [.keep [2,3,11,12,13,14,16,17,85,86,87] [11,12,17]]] hn (aC h1 <| aC (qyP h3) <| aC h4 <| aC (q2Q h6) <| aC (qaX x2.2.1 qaF) <| aN) (ih _ _ h cx hn)
theorem zmM {K} (ih : qcX K) {cx} (hn : cx.n = 208) {base top p k goal monic parts t85 t86 t87} {r} (h : qaE (K + 1) (.c2 base top p k goal monic parts t85 t86 t87) = some r) : qcW cx (.c2 base top p k goal monic parts t85 t86 t87) r := by
 rw [qaE] at h
 rcases qaQ h with ⟨h1, h⟩ | ⟨h1, h⟩
 ·obtain ⟨x2, h3, h⟩ := qaH h
  obtain ⟨x4, h5, h⟩ := qaH h
  exact wkG [.go, rg1, bTr, rgG [opI (.ix (qaF x2)), oo, oo], .draw [.p, .p, .p, .p, (.call [[1], [0]] [(tl 1 x2 qaC), (ti .u32 p)] (tl 2 x4 qaA)), (.litT (([x4] : List (List qaB)).map qaD))] [opI (.appN (([x4] : List (List qaB)).map qaD)), .op .p, .op .p], rg2, .pre [.rlB 17 0 0 ([x4] : List (List qaB)).length, .keep [2,3,11,12,13,14,16,17,85,86,87] [11,12,17,97]]] hn (aC h1 <| aC (qa1 h3) <| aC (qbS qaF h3) <| aC (qdG h5) <| aC (by kernel_rfl : [(T.sl 2 (x4.map qaA))] = (([x4] : List (List qaB)).map qaD).flatten) <| aC (rfl : ([x4] : List (List qaB)).map qaD = ([x4] : List (List qaB)).map qaD) <| aC (by simp : 0 < (([x4] : List (List qaB)).map qaD).length) <| aC (by simp : (([x4] : List (List qaB)).map qaD).length * 24 ≤ 140737488355328) <| aC (by simp [maxLen] : (([x4] : List (List qaB)).map qaD).length ≤ maxLen) <| aC r0 <| aC (by simp : (([x4] : List (List qaB)).map qaD).length = ([x4] : List (List qaB)).length) <| aN) (ih _ _ h cx hn)
 ·exact wkG [.go, rg1, bFa, rg3, rg1, .pre [.keep [2,3,11,12,13,14,16,17,20,21] [11,12,17,20]]] hn (aC h1 <| aN) (ih _ _ h cx hn)
theorem zmL {K} (ih : qcX K) {cx} (hn : cx.n = 208) {base top r97 p k goal monic parts t85 t86 t87} {r} (h : qaE (K + 1) (.c3 base top r97 p k goal monic parts t85 t86 t87) = some r) : qcW cx (.c3 base top r97 p k goal monic parts t85 t86 t87) r := by
 rw [qaE] at h
 rcases qaQ h with ⟨h1, h⟩ | ⟨h1, h⟩
 ·obtain ⟨x2, h3, h⟩ := qaH h
  obtain ⟨x4, h5, h⟩ := qaH h
  obtain ⟨h6, h⟩ := qbI h
  exact wkG [.go, rg1, bTr, rgG [opI (.ix (qaF x2)), oo, oo], .pre [.keep [2,3,11,12,13,14,16,17,19,85,86,87] [11,12,17,97]], .draw [.p, .p, .p, .p, (.call [[1], [0]] [(tl 1 x2 qaC), (ti .u32 p)] (tl 2 x4 qaA)), (.litT (([x4] : List (List qaB)).map qaD))] [.appR (([x4] : List (List qaB)).map qaD) ((r97 ++ ([x4] : List (List qaB))).map qaD), .op .p, .op .p], rg2, .pre [.rlB 17 0 0 (r97 ++ ([x4] : List (List qaB))).length, .keep [2,3,11,12,13,14,16,17,85,86,87] [11,12,17,97]]] hn (aC h1 <| aC (qa1 h3) <| aC (qbS qaF h3) <| aC (qdG h5) <| aC (by kernel_rfl : [(T.sl 2 (x4.map qaA))] = (([x4] : List (List qaB)).map qaD).flatten) <| aC (by simp : r97.length = (r97.map qaD).length) <| aC (rfl : ([x4] : List (List qaB)).map qaD = ([x4] : List (List qaB)).map qaD) <| aC (qs5 _ _ _ : r97.map qaD ++ ([x4] : List (List qaB)).map qaD = (r97 ++ ([x4] : List (List qaB))).map qaD) <| aC ((qeF _ _).symm ▸ h6 : ((r97 ++ ([x4] : List (List qaB))).map qaD).length * 24 ≤ 140737488355328) <| aC ((qeF _ _).symm ▸ room (by decide) h6 : ((r97 ++ ([x4] : List (List qaB))).map qaD).length ≤ maxLen) <| aC r0 <| aC (by simp : ((r97 ++ ([x4] : List (List qaB))).map qaD).length = (r97 ++ ([x4] : List (List qaB))).length) <| aN) (ih _ _ h cx hn)
 ·exact wkG [.go, rg1, bFa, rg3, rg1, .pre [.snapC 17 0 (max 0 (0 + r97.length)) (r97.map qaD)], .pre [.keep [2,3,11,12,13,14,16,17,20,21] [11,12,17,20]]] hn (aC h1 <| aC (qbJ _ _ _ (by simp) : ((r97.map qaD).drop 0).take r97.length = r97.map qaD) <| aC (rfl : (max 0 (0 + r97.length)) = (max 0 (0 + r97.length))) <| aN) (ih _ _ h cx hn)
theorem zmK {K} (_ih : qcX K) {cx} (hn : cx.n = 208) {base top power p k goal monic parts step} {r} (h : qaE (K + 1) (.c4 base top power p k goal monic parts step) = some r) : qcW cx (.c4 base top power p k goal monic parts step) r := by
 rw [qaE] at h
 rcases qaQ h with ⟨h1, h⟩ | ⟨h1, h⟩
 ·rcases qaQ h with ⟨h2, h⟩ | ⟨h2, h⟩
  ·have h := oinj h; subst h
   exact wkR [.go, rgG [oo, oo, oo, oo, .sb 106 true, oo, oo, oo, oo], bTr, rgG [oo, opI (.ln (monic.length : Int)), oo], bTr, rg2] hn (aC h1 <| aC rt <| aC (qaX monic qaF) <| aC h2 <| aN)
  ·rcases qaQ h with ⟨h3, h⟩ | ⟨h3, h⟩
   ·have h := oinj h; subst h
    exact wkR [.go, rgG [oo, oo, oo, oo, .sb 106 true, oo, oo, oo, oo], bTr, rgG [oo, opI (.ln (monic.length : Int)), oo], bFa, rgG [oo, oo, oo, opI (.ia 0), oo, oo, oo]] hn (aC h1 <| aC rt <| aC (qaX monic qaF) <| aC h2 <| aC (of_decide_eq_true h3 : (Int.tmod (wI6 (k - (1 : Int))) (2 : Int)) = ((0 : Nat) : Int)) <| aN)
   ·rcases qaQ h with ⟨h4, h⟩ | ⟨h4, h⟩
    ·have h := oinj h; subst h
     exact wkR [.go, rgG [oo, oo, oo, oo, .sb 106 true, oo, oo, oo, oo], bTr, rgG [oo, opI (.ln (monic.length : Int)), oo], bFa, rgG [oo, oo, oo, opI (.ia 1), oo, oo, oo]] hn (aC h1 <| aC rt <| aC (qaX monic qaF) <| aC h2 <| aC (of_decide_eq_true h4 : (Int.tmod (wI6 (k - (1 : Int))) (2 : Int)) = ((1 : Nat) : Int)) <| aN)
    ·cases h
 ·rcases qaQ h with ⟨h2, h⟩ | ⟨h2, h⟩
  ·rcases qaQ h with ⟨h3, h⟩ | ⟨h3, h⟩
   ·have h := oinj h; subst h
    exact wkR [.go, rgG [oo, oo, oo, oo, .sb 106 false, oo, opI (.ln (monic.length : Int)), oo, oo], bTr, rgG [oo, opI (.ln (monic.length : Int)), oo], bTr, rg2] hn (aC h1 <| aC (qaX monic qaF) <| aC h2 <| aC (qaX monic qaF) <| aC h3 <| aN)
   ·rcases qaQ h with ⟨h4, h⟩ | ⟨h4, h⟩
    ·have h := oinj h; subst h
     exact wkR [.go, rgG [oo, oo, oo, oo, .sb 106 false, oo, opI (.ln (monic.length : Int)), oo, oo], bTr, rgG [oo, opI (.ln (monic.length : Int)), oo], bFa, rgG [oo, oo, oo, opI (.ia 0), oo, oo, oo]] hn (aC h1 <| aC (qaX monic qaF) <| aC h2 <| aC (qaX monic qaF) <| aC h3 <| aC (of_decide_eq_true h4 : (Int.tmod (wI6 (k - (1 : Int))) (2 : Int)) = ((0 : Nat) : Int)) <| aN)
    ·rcases qaQ h with ⟨h5, h⟩ | ⟨h5, h⟩
     ·have h := oinj h; subst h
      exact wkR [.go, rgG [oo, oo, oo, oo, .sb 106 false, oo, opI (.ln (monic.length : Int)), oo, oo], bTr, rgG [oo, opI (.ln (monic.length : Int)), oo], bFa, rgG [oo, oo, oo, opI (.ia 1), oo, oo, oo]] hn (aC h1 <| aC (qaX monic qaF) <| aC h2 <| aC (qaX monic qaF) <| aC h3 <| aC (of_decide_eq_true h5 : (Int.tmod (wI6 (k - (1 : Int))) (2 : Int)) = ((1 : Nat) : Int)) <| aN)
     ·cases h
  ·rcases qaQ h with ⟨h3, h⟩ | ⟨h3, h⟩
   ·obtain ⟨x4, h5, h⟩ := qaH h
    obtain ⟨x6, h7, h⟩ := qaH h
    obtain ⟨x8, h9, h⟩ := qaH h
    cases h
   ·rcases qaQ h with ⟨h4, h⟩ | ⟨h4, h⟩
    ·obtain ⟨x5, h6, h⟩ := qaH h
     obtain ⟨x7, h8, h⟩ := qaH h
     obtain ⟨x9, h10, h⟩ := qaH h
     cases h
    ·cases h
theorem zmJ {K} (ih : qcX K) {cx} (hn : cx.n = 208) {base top pair power p k goal monic parts step} {r} (h : qaE (K + 1) (.c5 base top pair power p k goal monic parts step) = some r) : qcW cx (.c5 base top pair power p k goal monic parts step) r := by
 rw [qaE] at h
 rcases qaQ h with ⟨h1, h⟩ | ⟨h1, h⟩
 ·rcases qaQ h with ⟨h2, h⟩ | ⟨h2, h⟩
  ·have h := oinj h; subst h
   exact wkR [.go, rgG [oo, oo, oo, oo, .sb 106 true, oo, oo, oo, oo], bTr, rgG [oo, opI (.ln (monic.length : Int)), oo], bTr, rg2] hn (aC h1 <| aC rt <| aC (qaX monic qaF) <| aC h2 <| aN)
  ·rcases qaQ h with ⟨h3, h⟩ | ⟨h3, h⟩
   ·have h := oinj h; subst h
    exact wkR [.go, rgG [oo, oo, oo, oo, .sb 106 true, oo, oo, oo, oo], bTr, rgG [oo, opI (.ln (monic.length : Int)), oo], bFa, rgG [oo, oo, oo, opI (.ia 0), oo, oo, oo]] hn (aC h1 <| aC rt <| aC (qaX monic qaF) <| aC h2 <| aC (of_decide_eq_true h3 : (Int.tmod (wI6 (k - (1 : Int))) (2 : Int)) = ((0 : Nat) : Int)) <| aN)
   ·rcases qaQ h with ⟨h4, h⟩ | ⟨h4, h⟩
    ·have h := oinj h; subst h
     exact wkR [.go, rgG [oo, oo, oo, oo, .sb 106 true, oo, oo, oo, oo], bTr, rgG [oo, opI (.ln (monic.length : Int)), oo], bFa, rgG [oo, oo, oo, opI (.ia 1), oo, oo, oo]] hn (aC h1 <| aC rt <| aC (qaX monic qaF) <| aC h2 <| aC (of_decide_eq_true h4 : (Int.tmod (wI6 (k - (1 : Int))) (2 : Int)) = ((1 : Nat) : Int)) <| aN)
    ·cases h
 ·rcases qaQ h with ⟨h2, h⟩ | ⟨h2, h⟩
  ·rcases qaQ h with ⟨h3, h⟩ | ⟨h3, h⟩
   ·have h := oinj h; subst h
    exact wkR [.go, rgG [oo, oo, oo, oo, .sb 106 false, oo, opI (.ln (monic.length : Int)), oo, oo], bTr, rgG [oo, opI (.ln (monic.length : Int)), oo], bTr, rg2] hn (aC h1 <| aC (qaX monic qaF) <| aC h2 <| aC (qaX monic qaF) <| aC h3 <| aN)
   ·rcases qaQ h with ⟨h4, h⟩ | ⟨h4, h⟩
    ·have h := oinj h; subst h
     exact wkR [.go, rgG [oo, oo, oo, oo, .sb 106 false, oo, opI (.ln (monic.length : Int)), oo, oo], bTr, rgG [oo, opI (.ln (monic.length : Int)), oo], bFa, rgG [oo, oo, oo, opI (.ia 0), oo, oo, oo]] hn (aC h1 <| aC (qaX monic qaF) <| aC h2 <| aC (qaX monic qaF) <| aC h3 <| aC (of_decide_eq_true h4 : (Int.tmod (wI6 (k - (1 : Int))) (2 : Int)) = ((0 : Nat) : Int)) <| aN)
    ·rcases qaQ h with ⟨h5, h⟩ | ⟨h5, h⟩
     ·have h := oinj h; subst h
      exact wkR [.go, rgG [oo, oo, oo, oo, .sb 106 false, oo, opI (.ln (monic.length : Int)), oo, oo], bTr, rgG [oo, opI (.ln (monic.length : Int)), oo], bFa, rgG [oo, oo, oo, opI (.ia 1), oo, oo, oo]] hn (aC h1 <| aC (qaX monic qaF) <| aC h2 <| aC (qaX monic qaF) <| aC h3 <| aC (of_decide_eq_true h5 : (Int.tmod (wI6 (k - (1 : Int))) (2 : Int)) = ((1 : Nat) : Int)) <| aN)
     ·cases h
  ·rcases qaQ h with ⟨h3, h⟩ | ⟨h3, h⟩
   ·obtain ⟨x4, h5, h⟩ := qaH h
    obtain ⟨x6, h7, h⟩ := qaH h
    obtain ⟨x8, h9, h⟩ := qaH h
    exact wkG [.go, rgG [oo, oo, oo, oo, .sb 106 false, oo, opI (.ln (monic.length : Int)), oo, oo], bFa, rgG [oo, oo, oo, opI (.ia 0), oo, oo], rgG [oo, oo, opI (.call [[1], [0,1]] [(tl 1 pair qaD), (TV.agg (qaA top))] (TV.tup [(false, [(T.sl 2 (x4.1.map qaA))]), (false, [(T.int .i64 x4.2)])])), oo, oo, oo, oo, oo], .draw [.p, .p, (.call [[2], [2]] [(tl 2 goal qaA), (tl 2 x4.1 qaA)] (tl 2 x6 qaA)), .p, (.call [[2], [0,1]] [(tl 2 x6 qaA), (TV.agg (qaA top))] (TV.tup [(false, [(T.sl 2 (x8.1.map qaA))]), (false, [(T.int .i64 x8.2)])])), .p, .p, .p, .p] [.op .p], rgG [.op .lit0, oo], rgG [oo, opI (.ln (x8.1.length : Int)), oo], .pre [.keep [2,3,11,12,13,14,16,17,20,21,22,27,131,132,133] [11,12,17,20]]] hn (aC h1 <| aC (qaX monic qaF) <| aC h2 <| aC (of_decide_eq_true h3 : (Int.tmod (wI6 (step - (1 : Int))) (2 : Int)) = ((0 : Nat) : Int)) <| aC (qa5 h5) <| aC (qoH h7) <| aC (qa6 h9) <| aC (qaX x8.1 qaA) <| aN) (ih _ _ h cx hn)
   ·rcases qaQ h with ⟨h4, h⟩ | ⟨h4, h⟩
    ·obtain ⟨x5, h6, h⟩ := qaH h
     obtain ⟨x7, h8, h⟩ := qaH h
     obtain ⟨x9, h10, h⟩ := qaH h
     cases h
    ·cases h
theorem zmI {K} (ih : qcX K) {cx} (hn : cx.n = 208) {base top pair power p k goal monic parts step now t131 t132 t133} {r} (h : qaE (K + 1) (.c7 base top pair power p k goal monic parts step now t131 t132 t133) = some r) : qcW cx (.c7 base top pair power p k goal monic parts step now t131 t132 t133) r := by
 rw [qaE] at h
 rcases qaQ h with ⟨h1, h⟩ | ⟨h1, h⟩
 ·obtain ⟨x2, h3, h⟩ := qaH h
  obtain ⟨x4, h5, h⟩ := qaH h
  obtain ⟨x6, h7, h⟩ := qaH h
  exact wkG [.go, rg1, bTr, rgG [opI (.ix (qaA x2)), oo, oo, oo], rgG [oo, oo, opI (.call [[0,1], [0,1]] [(TV.agg (qaA x2)), (TV.agg (qaA power))] (TV.tup [(true, qaA x4.1), (false, [(T.int .i64 x4.2)])])), oo, oo, oo, oo, oo, oo], rgG [oo, oo, oo, opI (.call [[0,1], [0]] [(TV.agg (qaA x4.1)), (ti .u32 p)] (ti .u32 x6)), opI (.lit (([x6] : List Int).map qaC)), opI (.appN (([x6] : List Int).map qaC)), oo], rg2, .pre [.rl 27 0 ([x6] : List Int).length, .keep [2,3,11,12,13,14,16,17,20,21,22,27,131,132,133] [11,12,17,20,148]]] hn (aC h1 <| aC (qa1 h3) <| aC (qbS qaA h3) <| aC (qfD h5) <| aC (qa8 h7) <| aC (by kernel_rfl : [(T.int .u32 x6)] = (([x6] : List Int).map qaC).flatten) <| aC (qbJ _ _ _ (by simp) : ((([x6] : List Int).map qaC).drop 0).take 1 = ([x6] : List Int).map qaC) <| aC (by simp : 0 < (([x6] : List Int).map qaC).length) <| aC (by simp : (([x6] : List Int).map qaC).length * 4 ≤ 140737488355328) <| aC (by simp [maxLen] : (([x6] : List Int).map qaC).length ≤ maxLen) <| aC r0 <| aC (by simp : (([x6] : List Int).map qaC).length = ([x6] : List Int).length) <| aN) (ih _ _ h cx hn)
 ·obtain ⟨x2, h3, h⟩ := qaH h
  exact wkG [.go, rg1, bFa, rgG [oo, oo, opI (.call [[0,1], [0,1]] [(TV.agg (qaA power)), (TV.agg (qaA base))] (TV.agg (qaA x2))), oo, oo], rg1, rgG [oo, opI (.ln (now.length : Int)), oo], .pre [.keep [2,3,11,12,13,14,16,17,20,21,27,32,33,153,154,155] [11,12,17,20,32]]] hn (aC h1 <| aC (qd9 h3) <| aC (qaX now qaD) <| aN) (ih _ _ h cx hn)
theorem zjE {K} (ih : qcX K) {cx} (hn : cx.n = 208) {base top pair power r148 p k goal monic parts step now t131 t132 t133} {r} (h : qaE (K + 1) (.c11 base top pair power r148 p k goal monic parts step now t131 t132 t133) = some r) : qcW cx (.c11 base top pair power r148 p k goal monic parts step now t131 t132 t133) r := by
 rw [qaE] at h
 rcases qaQ h with ⟨h1, h⟩ | ⟨h1, h⟩
 ·obtain ⟨x2, h3, h⟩ := qaH h
  obtain ⟨x4, h5, h⟩ := qaH h
  obtain ⟨x6, h7, h⟩ := qaH h
  obtain ⟨h8, h⟩ := qbI h
  exact wkG [.go, rg1, bTr, rgG [opI (.ix (qaA x2)), oo, oo, oo], rgG [oo, oo, opI (.call [[0,1], [0,1]] [(TV.agg (qaA x2)), (TV.agg (qaA power))] (TV.tup [(true, qaA x4.1), (false, [(T.int .i64 x4.2)])])), oo, oo, oo, oo, oo, oo], .pre [.keep [2,3,11,12,13,14,16,17,20,21,22,27,30,131,132,133] [11,12,17,20,30,148]], rgG [oo, oo, oo, opI (.call [[0,1], [0]] [(TV.agg (qaA x4.1)), (ti .u32 p)] (ti .u32 x6)), opI (.lit (([x6] : List Int).map qaC)), .appR (([x6] : List Int).map qaC) ((r148 ++ ([x6] : List Int)).map qaC), oo], rg2, .pre [.rl 27 0 (r148 ++ ([x6] : List Int)).length, .keep [2,3,11,12,13,14,16,17,20,21,22,27,131,132,133] [11,12,17,20,148]]] hn (aC h1 <| aC (qa1 h3) <| aC (qbS qaA h3) <| aC (qfD h5) <| aC (qa8 h7) <| aC (by kernel_rfl : [(T.int .u32 x6)] = (([x6] : List Int).map qaC).flatten) <| aC (by simp : r148.length = (r148.map qaC).length) <| aC (qbJ _ _ _ (by simp) : ((([x6] : List Int).map qaC).drop 0).take 1 = ([x6] : List Int).map qaC) <| aC (qs5 _ _ _ : r148.map qaC ++ ([x6] : List Int).map qaC = (r148 ++ ([x6] : List Int)).map qaC) <| aC ((qeF _ _).symm ▸ h8 : ((r148 ++ ([x6] : List Int)).map qaC).length * 4 ≤ 140737488355328) <| aC ((qeF _ _).symm ▸ room (by decide) h8 : ((r148 ++ ([x6] : List Int)).map qaC).length ≤ maxLen) <| aC r0 <| aC (by simp : ((r148 ++ ([x6] : List Int)).map qaC).length = (r148 ++ ([x6] : List Int)).length) <| aN) (ih _ _ h cx hn)
 ·obtain ⟨x2, h3, h⟩ := qaH h
  exact wkG [.go, rg1, bFa, rgG [oo, oo, opI (.call [[0,1], [0,1]] [(TV.agg (qaA power)), (TV.agg (qaA base))] (TV.agg (qaA x2))), oo, oo], rg1, rgG [oo, opI (.ln (now.length : Int)), oo], .pre [.rl 27 0 r148.length, .keep [2,3,11,12,13,14,16,17,20,21,27,32,33,153,154,155] [11,12,17,20,32,148]]] hn (aC h1 <| aC (qd9 h3) <| aC (qaX now qaD) <| aC r0 <| aC (lq r148) <| aN) (ih _ _ h cx hn)
theorem zjD {K} (ih : qcX K) {cx} (hn : cx.n = 208) {base top pair power next p k goal monic parts step t153 t154 t155} {r} (h : qaE (K + 1) (.c12 base top pair power next p k goal monic parts step t153 t154 t155) = some r) : qcW cx (.c12 base top pair power next p k goal monic parts step t153 t154 t155) r := by
 rw [qaE] at h
 rcases qaQ h with ⟨h1, h⟩ | ⟨h1, h⟩
 ·obtain ⟨x2, h3, h⟩ := qaH h
  obtain ⟨x4, h5, h⟩ := qaH h
  obtain ⟨x6, h7, h⟩ := qaH h
  obtain ⟨x8, h9, h⟩ := qaH h
  obtain ⟨x10, h11, h⟩ := qaH h
  obtain ⟨x12, h13, h⟩ := qaH h
  obtain ⟨x14, h15, h⟩ := qaH h
  obtain ⟨x16, h17, h⟩ := qaH h
  obtain ⟨x18, h19, h⟩ := qaH h
  exact wkG [.go, rg1, bTr, rgG [oo, opI (.ix (qaD x2)), oo, oo, oo], .draw [.p, .p, .p, (.ix (qaF x4)), .p, .p, (.call [[1], [1], [0]] [(TV.c (T.sl 1 ([].map qaC))), (tl 1 x4 qaC), (ti .u32 p)] (tl 1 x6 qaC)), .p, .p, (.ix (qaF x8)), .p, .p, (.call [[1], [1], [0]] [(tl 1 x6 qaC), (tl 1 x8 qaC), (ti .u32 p)] (TV.tup [(false, [(T.sl 1 (x10.1.map qaC))]), (false, [(T.sl 1 (x10.2.1.map qaC))]), (false, [(T.int .i64 x10.2.2)])])), .p, .p, .p, .p, .p, .p] [.op .p], .draw [.p, .p, .p, (.call [[1], [0]] [(TV.c (T.sl 1 (x10.2.1.map qaC))), (ti .u32 p)] (tl 2 x12 qaA)), .p, (.call [[2], [0,1]] [(tl 2 x12 qaA), (TV.agg (qaA power))] (tl 2 x14 qaA))] [opI (.call [[2], [2]] [(tl 2 x2 qaA), (tl 2 x14 qaA)] (tl 2 x16 qaA)), .op .p], rgG [oo, oo, opI (.call [[2], [0,1]] [(tl 2 x16 qaA), (TV.agg (qaA next))] (TV.tup [(false, [(T.sl 2 (x18.1.map qaA))]), (false, [(T.int .i64 x18.2)])])), oo, oo, oo, oo], rgG [oo, oo, opI (.lit (([x18.1] : List (List qaB)).map qaD)), opI (.appN (([x18.1] : List (List qaB)).map qaD)), oo], rg2, .pre [.rl 33 0 ([x18.1] : List (List qaB)).length, .keep [2,3,11,12,13,14,16,17,20,21,27,32,33,153,154,155] [11,12,17,20,32,193]]] hn (aC h1 <| aC (qa1 h3) <| aC (qbS qaD h3) <| aC (qa1 h5) <| aC (qbS qaF h5) <| aC (qcF h7) <| aC (qa1 h9) <| aC (qbS qaF h9) <| aC (qdC h11) <| aC (qdG h13) <| aC (qd1 h15) <| aC (qgE h17) <| aC (qa6 h19) <| aC (by kernel_rfl : [(T.sl 2 (x18.1.map qaA))] = (([x18.1] : List (List qaB)).map qaD).flatten) <| aC (qbJ _ _ _ (by simp) : ((([x18.1] : List (List qaB)).map qaD).drop 0).take 1 = ([x18.1] : List (List qaB)).map qaD) <| aC (by simp : 0 < (([x18.1] : List (List qaB)).map qaD).length) <| aC (by simp : (([x18.1] : List (List qaB)).map qaD).length * 24 ≤ 140737488355328) <| aC (by simp [maxLen] : (([x18.1] : List (List qaB)).map qaD).length ≤ maxLen) <| aC r0 <| aC (by simp : (([x18.1] : List (List qaB)).map qaD).length = ([x18.1] : List (List qaB)).length) <| aN) (ih _ _ h cx hn)
 ·rcases qaQ h with ⟨h2, h⟩ | ⟨h2, h⟩
  ·cases h
  ·rcases qaQ h with ⟨h3, h⟩ | ⟨h3, h⟩
   ·cases h
   ·cases h
theorem zjC {K} (ih : qcX K) {cx} (hn : cx.n = 208) {base top pair power next r148 p k goal monic parts step t153 t154 t155} {r} (h : qaE (K + 1) (.c17 base top pair power next r148 p k goal monic parts step t153 t154 t155) = some r) : qcW cx (.c17 base top pair power next r148 p k goal monic parts step t153 t154 t155) r := by
 rw [qaE] at h
 rcases qaQ h with ⟨h1, h⟩ | ⟨h1, h⟩
 ·obtain ⟨x2, h3, h⟩ := qaH h
  obtain ⟨x4, h5, h⟩ := qaH h
  obtain ⟨x6, h7, h⟩ := qaH h
  obtain ⟨x8, h9, h⟩ := qaH h
  obtain ⟨x10, h11, h⟩ := qaH h
  obtain ⟨x12, h13, h⟩ := qaH h
  obtain ⟨x14, h15, h⟩ := qaH h
  obtain ⟨x16, h17, h⟩ := qaH h
  obtain ⟨x18, h19, h⟩ := qaH h
  exact wkG [.go, rg1, bTr, rgG [oo, opI (.ix (qaD x2)), oo, oo, oo], .pre [.snap 27 (max 0 (0 + r148.length)) (r148.map qaC)], .draw [.p, .p, .p, (.ix (qaF x4)), .p, .p, (.call [[1], [1], [0]] [(tl 1 r148 qaC), (tl 1 x4 qaC), (ti .u32 p)] (tl 1 x6 qaC)), .p, .p, (.ix (qaF x8)), .p, .p, (.call [[1], [1], [0]] [(tl 1 x6 qaC), (tl 1 x8 qaC), (ti .u32 p)] (TV.tup [(false, [(T.sl 1 (x10.1.map qaC))]), (false, [(T.sl 1 (x10.2.1.map qaC))]), (false, [(T.int .i64 x10.2.2)])])), .p, .p, .p, .p, .p, .p] [.op .p], .draw [.p, .p, .p, (.call [[1], [0]] [(TV.c (T.sl 1 (x10.2.1.map qaC))), (ti .u32 p)] (tl 2 x12 qaA)), .p, (.call [[2], [0,1]] [(tl 2 x12 qaA), (TV.agg (qaA power))] (tl 2 x14 qaA))] [opI (.call [[2], [2]] [(tl 2 x2 qaA), (tl 2 x14 qaA)] (tl 2 x16 qaA)), .op .p], rgG [oo, oo, opI (.call [[2], [0,1]] [(tl 2 x16 qaA), (TV.agg (qaA next))] (TV.tup [(false, [(T.sl 2 (x18.1.map qaA))]), (false, [(T.int .i64 x18.2)])])), oo, oo, oo, oo], rgG [oo, oo, opI (.lit (([x18.1] : List (List qaB)).map qaD)), opI (.appN (([x18.1] : List (List qaB)).map qaD)), oo], rg2, .pre [.rl 33 0 ([x18.1] : List (List qaB)).length, .keep [2,3,11,12,13,14,16,17,20,21,27,32,33,153,154,155] [11,12,17,20,32,193]]] hn (aC h1 <| aC (qa1 h3) <| aC (qbS qaD h3) <| aC (qbJ _ _ _ (by simp) : ((r148.map qaC).drop 0).take r148.length = r148.map qaC) <| aC (rfl : (max 0 (0 + r148.length)) = (max 0 (0 + r148.length))) <| aC (qa1 h5) <| aC (qbS qaF h5) <| aC (qcF h7) <| aC (qa1 h9) <| aC (qbS qaF h9) <| aC (qdC h11) <| aC (qdG h13) <| aC (qd1 h15) <| aC (qgE h17) <| aC (qa6 h19) <| aC (by kernel_rfl : [(T.sl 2 (x18.1.map qaA))] = (([x18.1] : List (List qaB)).map qaD).flatten) <| aC (qbJ _ _ _ (by simp) : ((([x18.1] : List (List qaB)).map qaD).drop 0).take 1 = ([x18.1] : List (List qaB)).map qaD) <| aC (by simp : 0 < (([x18.1] : List (List qaB)).map qaD).length) <| aC (by simp : (([x18.1] : List (List qaB)).map qaD).length * 24 ≤ 140737488355328) <| aC (by simp [maxLen] : (([x18.1] : List (List qaB)).map qaD).length ≤ maxLen) <| aC r0 <| aC (by simp : (([x18.1] : List (List qaB)).map qaD).length = ([x18.1] : List (List qaB)).length) <| aN) (ih _ _ h cx hn)
 ·rcases qaQ h with ⟨h2, h⟩ | ⟨h2, h⟩
  ·cases h
  ·rcases qaQ h with ⟨h3, h⟩ | ⟨h3, h⟩
   ·cases h
   ·cases h
theorem zjB {K} (ih : qcX K) {cx} (hn : cx.n = 208) {base top pair power next r193 p k goal monic parts step t153 t154 t155} {r} (h : qaE (K + 1) (.c18 base top pair power next r193 p k goal monic parts step t153 t154 t155) = some r) : qcW cx (.c18 base top pair power next r193 p k goal monic parts step t153 t154 t155) r := by
 rw [qaE] at h
 rcases qaQ h with ⟨h1, h⟩ | ⟨h1, h⟩
 ·obtain ⟨x2, h3, h⟩ := qaH h
  obtain ⟨x4, h5, h⟩ := qaH h
  obtain ⟨x6, h7, h⟩ := qaH h
  obtain ⟨x8, h9, h⟩ := qaH h
  obtain ⟨x10, h11, h⟩ := qaH h
  obtain ⟨x12, h13, h⟩ := qaH h
  obtain ⟨x14, h15, h⟩ := qaH h
  obtain ⟨x16, h17, h⟩ := qaH h
  obtain ⟨x18, h19, h⟩ := qaH h
  obtain ⟨h20, h⟩ := qbI h
  exact wkG [.go, rg1, bTr, rgG [oo, opI (.ix (qaD x2)), oo, oo, oo], .draw [.p, .p, .p, (.ix (qaF x4)), .p, .p, (.call [[1], [1], [0]] [(TV.c (T.sl 1 ([].map qaC))), (tl 1 x4 qaC), (ti .u32 p)] (tl 1 x6 qaC)), .p, .p, (.ix (qaF x8)), .p, .p, (.call [[1], [1], [0]] [(tl 1 x6 qaC), (tl 1 x8 qaC), (ti .u32 p)] (TV.tup [(false, [(T.sl 1 (x10.1.map qaC))]), (false, [(T.sl 1 (x10.2.1.map qaC))]), (false, [(T.int .i64 x10.2.2)])])), .p, .p, .p, .p, .p, .p] [.op .p], .draw [.p, .p, .p, (.call [[1], [0]] [(TV.c (T.sl 1 (x10.2.1.map qaC))), (ti .u32 p)] (tl 2 x12 qaA)), .p, (.call [[2], [0,1]] [(tl 2 x12 qaA), (TV.agg (qaA power))] (tl 2 x14 qaA))] [opI (.call [[2], [2]] [(tl 2 x2 qaA), (tl 2 x14 qaA)] (tl 2 x16 qaA)), .op .p], rgG [oo, oo, opI (.call [[2], [0,1]] [(tl 2 x16 qaA), (TV.agg (qaA next))] (TV.tup [(false, [(T.sl 2 (x18.1.map qaA))]), (false, [(T.int .i64 x18.2)])])), oo, oo, oo, oo], .pre [.keep [2,3,11,12,13,14,16,17,20,21,27,32,33,39,153,154,155] [11,12,17,20,32,193]], rgG [oo, oo, opI (.lit (([x18.1] : List (List qaB)).map qaD)), .appR (([x18.1] : List (List qaB)).map qaD) ((r193 ++ ([x18.1] : List (List qaB))).map qaD), oo], rg2, .pre [.rl 33 0 (r193 ++ ([x18.1] : List (List qaB))).length, .keep [2,3,11,12,13,14,16,17,20,21,27,32,33,153,154,155] [11,12,17,20,32,193]]] hn (aC h1 <| aC (qa1 h3) <| aC (qbS qaD h3) <| aC (qa1 h5) <| aC (qbS qaF h5) <| aC (qcF h7) <| aC (qa1 h9) <| aC (qbS qaF h9) <| aC (qdC h11) <| aC (qdG h13) <| aC (qd1 h15) <| aC (qgE h17) <| aC (qa6 h19) <| aC (by kernel_rfl : [(T.sl 2 (x18.1.map qaA))] = (([x18.1] : List (List qaB)).map qaD).flatten) <| aC (by simp : r193.length = (r193.map qaD).length) <| aC (qbJ _ _ _ (by simp) : ((([x18.1] : List (List qaB)).map qaD).drop 0).take 1 = ([x18.1] : List (List qaB)).map qaD) <| aC (qs5 _ _ _ : r193.map qaD ++ ([x18.1] : List (List qaB)).map qaD = (r193 ++ ([x18.1] : List (List qaB))).map qaD) <| aC ((qeF _ _).symm ▸ h20 : ((r193 ++ ([x18.1] : List (List qaB))).map qaD).length * 24 ≤ 140737488355328) <| aC ((qeF _ _).symm ▸ room (by decide) h20 : ((r193 ++ ([x18.1] : List (List qaB))).map qaD).length ≤ maxLen) <| aC r0 <| aC (by simp : ((r193 ++ ([x18.1] : List (List qaB))).map qaD).length = (r193 ++ ([x18.1] : List (List qaB))).length) <| aN) (ih _ _ h cx hn)
 ·rcases qaQ h with ⟨h2, h⟩ | ⟨h2, h⟩
  ·exact wkG [.go, rg1, bFa, rgG [oo, oo, oo, opI (.ia 0), oo], rg2, .pre [.rlB 17 0 0 r193.length, .keep [2,3,11,12,13,14,16,17,20,21] [11,12,17,20,193]]] hn (aC h1 <| aC (of_decide_eq_true h2 : (Int.tmod step (2 : Int)) = ((0 : Nat) : Int)) <| aC r0 <| aC (lq r193) <| aN) (ih _ _ h cx hn)
  ·rcases qaQ h with ⟨h3, h⟩ | ⟨h3, h⟩
   ·exact wkG [.go, rg1, bFa, rgG [oo, oo, oo, opI (.ia 1), oo], rg2, .pre [.rlB 17 1 0 r193.length, .keep [2,3,11,12,13,14,16,17,20,21] [11,12,17,20,193]]] hn (aC h1 <| aC (of_decide_eq_true h3 : (Int.tmod step (2 : Int)) = ((1 : Nat) : Int)) <| aC r0 <| aC (lq r193) <| aN) (ih _ _ h cx hn)
   ·cases h
theorem zjA {K} (ih : qcX K) {cx} (hn : cx.n = 208) {base top pair power next r193 p k goal monic parts step change t153 t154 t155} {r} (h : qaE (K + 1) (.c21 base top pair power next r193 p k goal monic parts step change t153 t154 t155) = some r) : qcW cx (.c21 base top pair power next r193 p k goal monic parts step change t153 t154 t155) r := by
 rw [qaE] at h
 rcases qaQ h with ⟨h1, h⟩ | ⟨h1, h⟩
 ·obtain ⟨x2, h3, h⟩ := qaH h
  obtain ⟨x4, h5, h⟩ := qaH h
  obtain ⟨x6, h7, h⟩ := qaH h
  obtain ⟨x8, h9, h⟩ := qaH h
  obtain ⟨x10, h11, h⟩ := qaH h
  obtain ⟨x12, h13, h⟩ := qaH h
  obtain ⟨x14, h15, h⟩ := qaH h
  obtain ⟨x16, h17, h⟩ := qaH h
  obtain ⟨x18, h19, h⟩ := qaH h
  obtain ⟨h20, h⟩ := qbI h
  exact wkG [.go, rg1, bTr, rgG [oo, opI (.ix (qaD x2)), oo, oo, oo], .draw [.p, .p, .p, (.ix (qaF x4)), .p, .p, (.call [[1], [1], [0]] [(tl 1 change qaC), (tl 1 x4 qaC), (ti .u32 p)] (tl 1 x6 qaC)), .p, .p, (.ix (qaF x8)), .p, .p, (.call [[1], [1], [0]] [(tl 1 x6 qaC), (tl 1 x8 qaC), (ti .u32 p)] (TV.tup [(false, [(T.sl 1 (x10.1.map qaC))]), (false, [(T.sl 1 (x10.2.1.map qaC))]), (false, [(T.int .i64 x10.2.2)])])), .p, .p, .p, .p, .p, .p] [.op .p], .draw [.p, .p, .p, (.call [[1], [0]] [(TV.c (T.sl 1 (x10.2.1.map qaC))), (ti .u32 p)] (tl 2 x12 qaA)), .p, (.call [[2], [0,1]] [(tl 2 x12 qaA), (TV.agg (qaA power))] (tl 2 x14 qaA))] [opI (.call [[2], [2]] [(tl 2 x2 qaA), (tl 2 x14 qaA)] (tl 2 x16 qaA)), .op .p], rgG [oo, oo, opI (.call [[2], [0,1]] [(tl 2 x16 qaA), (TV.agg (qaA next))] (TV.tup [(false, [(T.sl 2 (x18.1.map qaA))]), (false, [(T.int .i64 x18.2)])])), oo, oo, oo, oo], .pre [.keep [2,3,11,12,13,14,16,17,20,21,27,32,33,39,153,154,155] [11,12,17,20,32,193]], rgG [oo, oo, opI (.lit (([x18.1] : List (List qaB)).map qaD)), .appR (([x18.1] : List (List qaB)).map qaD) ((r193 ++ ([x18.1] : List (List qaB))).map qaD), oo], rg2, .pre [.rl 33 0 (r193 ++ ([x18.1] : List (List qaB))).length, .keep [2,3,11,12,13,14,16,17,20,21,27,32,33,153,154,155] [11,12,17,20,32,193]]] hn (aC h1 <| aC (qa1 h3) <| aC (qbS qaD h3) <| aC (qa1 h5) <| aC (qbS qaF h5) <| aC (qcF h7) <| aC (qa1 h9) <| aC (qbS qaF h9) <| aC (qdC h11) <| aC (qdG h13) <| aC (qd1 h15) <| aC (qgE h17) <| aC (qa6 h19) <| aC (by kernel_rfl : [(T.sl 2 (x18.1.map qaA))] = (([x18.1] : List (List qaB)).map qaD).flatten) <| aC (by simp : r193.length = (r193.map qaD).length) <| aC (qbJ _ _ _ (by simp) : ((([x18.1] : List (List qaB)).map qaD).drop 0).take 1 = ([x18.1] : List (List qaB)).map qaD) <| aC (qs5 _ _ _ : r193.map qaD ++ ([x18.1] : List (List qaB)).map qaD = (r193 ++ ([x18.1] : List (List qaB))).map qaD) <| aC ((qeF _ _).symm ▸ h20 : ((r193 ++ ([x18.1] : List (List qaB))).map qaD).length * 24 ≤ 140737488355328) <| aC ((qeF _ _).symm ▸ room (by decide) h20 : ((r193 ++ ([x18.1] : List (List qaB))).map qaD).length ≤ maxLen) <| aC r0 <| aC (by simp : ((r193 ++ ([x18.1] : List (List qaB))).map qaD).length = (r193 ++ ([x18.1] : List (List qaB))).length) <| aN) (ih _ _ h cx hn)
 ·rcases qaQ h with ⟨h2, h⟩ | ⟨h2, h⟩
  ·exact wkG [.go, rg1, bFa, rgG [oo, oo, oo, opI (.ia 0), oo], rg2, .pre [.rlB 17 0 0 r193.length, .keep [2,3,11,12,13,14,16,17,20,21] [11,12,17,20,193]]] hn (aC h1 <| aC (of_decide_eq_true h2 : (Int.tmod step (2 : Int)) = ((0 : Nat) : Int)) <| aC r0 <| aC (lq r193) <| aN) (ih _ _ h cx hn)
  ·rcases qaQ h with ⟨h3, h⟩ | ⟨h3, h⟩
   ·exact wkG [.go, rg1, bFa, rgG [oo, oo, oo, opI (.ia 1), oo], rg2, .pre [.rlB 17 1 0 r193.length, .keep [2,3,11,12,13,14,16,17,20,21] [11,12,17,20,193]]] hn (aC h1 <| aC (of_decide_eq_true h3 : (Int.tmod step (2 : Int)) = ((1 : Nat) : Int)) <| aC r0 <| aC (lq r193) <| aN) (ih _ _ h cx hn)
   ·cases h
theorem zi9 {K} (ih : qcX K) {cx} (hn : cx.n = 208) {base top power r193 p k goal monic parts step} {r} (h : qaE (K + 1) (.c22 base top power r193 p k goal monic parts step) = some r) : qcW cx (.c22 base top power r193 p k goal monic parts step) r := by
 rw [qaE] at h
 exact wkG [rg3, .pre [.snapC 17 0 (max 0 (0 + r193.length)) (r193.map qaD)], .pre [.keep [2,3,11,12,13,14,16,17,20,21] [11,12,17,20]]] hn (aC (qbJ _ _ _ (by simp) : ((r193.map qaD).drop 0).take r193.length = r193.map qaD) <| aC (rfl : (max 0 (0 + r193.length)) = (max 0 (0 + r193.length))) <| aN) (ih _ _ h cx hn)
theorem zi8 {K} (ih : qcX K) {cx} (hn : cx.n = 208) {base top pair power r193 p k goal monic parts step} {r} (h : qaE (K + 1) (.c23 base top pair power r193 p k goal monic parts step) = some r) : qcW cx (.c23 base top pair power r193 p k goal monic parts step) r := by
 rw [qaE] at h
 exact wkG [rg3, .pre [.snapC 17 1 (max 0 (0 + r193.length)) (r193.map qaD)], .pre [.keep [2,3,11,12,13,14,16,17,20,21] [11,12,17,20]]] hn (aC (qbJ _ _ _ (by simp) : ((r193.map qaD).drop 0).take r193.length = r193.map qaD) <| aC (rfl : (max 0 (0 + r193.length)) = (max 0 (0 + r193.length))) <| aN) (ih _ _ h cx hn)
theorem zi7 {K} (ih : qcX K) {cx} (hn : cx.n = 208) {base top pair power p k goal monic parts step} {r} (h : qaE (K + 1) (.c24 base top pair power p k goal monic parts step) = some r) : qcW cx (.c24 base top pair power p k goal monic parts step) r := by
 rw [qaE] at h
 rcases qaQ h with ⟨h1, h⟩ | ⟨h1, h⟩
 ·rcases qaQ h with ⟨h2, h⟩ | ⟨h2, h⟩
  ·have h := oinj h; subst h
   exact wkR [.go, rgG [oo, oo, oo, oo, .sb 106 true, oo, oo, oo, oo], bTr, rgG [oo, opI (.ln (monic.length : Int)), oo], bTr, rg2] hn (aC h1 <| aC rt <| aC (qaX monic qaF) <| aC h2 <| aN)
  ·rcases qaQ h with ⟨h3, h⟩ | ⟨h3, h⟩
   ·have h := oinj h; subst h
    exact wkR [.go, rgG [oo, oo, oo, oo, .sb 106 true, oo, oo, oo, oo], bTr, rgG [oo, opI (.ln (monic.length : Int)), oo], bFa, rgG [oo, oo, oo, opI (.ia 0), oo, oo, oo]] hn (aC h1 <| aC rt <| aC (qaX monic qaF) <| aC h2 <| aC (of_decide_eq_true h3 : (Int.tmod (wI6 (k - (1 : Int))) (2 : Int)) = ((0 : Nat) : Int)) <| aN)
   ·rcases qaQ h with ⟨h4, h⟩ | ⟨h4, h⟩
    ·have h := oinj h; subst h
     exact wkR [.go, rgG [oo, oo, oo, oo, .sb 106 true, oo, oo, oo, oo], bTr, rgG [oo, opI (.ln (monic.length : Int)), oo], bFa, rgG [oo, oo, oo, opI (.ia 1), oo, oo, oo]] hn (aC h1 <| aC rt <| aC (qaX monic qaF) <| aC h2 <| aC (of_decide_eq_true h4 : (Int.tmod (wI6 (k - (1 : Int))) (2 : Int)) = ((1 : Nat) : Int)) <| aN)
    ·cases h
 ·rcases qaQ h with ⟨h2, h⟩ | ⟨h2, h⟩
  ·rcases qaQ h with ⟨h3, h⟩ | ⟨h3, h⟩
   ·have h := oinj h; subst h
    exact wkR [.go, rgG [oo, oo, oo, oo, .sb 106 false, oo, opI (.ln (monic.length : Int)), oo, oo], bTr, rgG [oo, opI (.ln (monic.length : Int)), oo], bTr, rg2] hn (aC h1 <| aC (qaX monic qaF) <| aC h2 <| aC (qaX monic qaF) <| aC h3 <| aN)
   ·rcases qaQ h with ⟨h4, h⟩ | ⟨h4, h⟩
    ·have h := oinj h; subst h
     exact wkR [.go, rgG [oo, oo, oo, oo, .sb 106 false, oo, opI (.ln (monic.length : Int)), oo, oo], bTr, rgG [oo, opI (.ln (monic.length : Int)), oo], bFa, rgG [oo, oo, oo, opI (.ia 0), oo, oo, oo]] hn (aC h1 <| aC (qaX monic qaF) <| aC h2 <| aC (qaX monic qaF) <| aC h3 <| aC (of_decide_eq_true h4 : (Int.tmod (wI6 (k - (1 : Int))) (2 : Int)) = ((0 : Nat) : Int)) <| aN)
    ·rcases qaQ h with ⟨h5, h⟩ | ⟨h5, h⟩
     ·have h := oinj h; subst h
      exact wkR [.go, rgG [oo, oo, oo, oo, .sb 106 false, oo, opI (.ln (monic.length : Int)), oo, oo], bTr, rgG [oo, opI (.ln (monic.length : Int)), oo], bFa, rgG [oo, oo, oo, opI (.ia 1), oo, oo, oo]] hn (aC h1 <| aC (qaX monic qaF) <| aC h2 <| aC (qaX monic qaF) <| aC h3 <| aC (of_decide_eq_true h5 : (Int.tmod (wI6 (k - (1 : Int))) (2 : Int)) = ((1 : Nat) : Int)) <| aN)
     ·cases h
  ·rcases qaQ h with ⟨h3, h⟩ | ⟨h3, h⟩
   ·obtain ⟨x4, h5, h⟩ := qaH h
    obtain ⟨x6, h7, h⟩ := qaH h
    obtain ⟨x8, h9, h⟩ := qaH h
    exact wkG [.go, rgG [oo, oo, oo, oo, .sb 106 false, oo, opI (.ln (monic.length : Int)), oo, oo], bFa, rgG [oo, oo, oo, opI (.ia 0), oo, oo], rgG [oo, oo, opI (.call [[1], [0,1]] [(TV.c (T.sl 1 (pair.e0.map qaD))), (TV.agg (qaA top))] (TV.tup [(false, [(T.sl 2 (x4.1.map qaA))]), (false, [(T.int .i64 x4.2)])])), oo, oo, oo, oo, oo], .draw [.p, .p, (.call [[2], [2]] [(tl 2 goal qaA), (tl 2 x4.1 qaA)] (tl 2 x6 qaA)), .p, (.call [[2], [0,1]] [(tl 2 x6 qaA), (TV.agg (qaA top))] (TV.tup [(false, [(T.sl 2 (x8.1.map qaA))]), (false, [(T.int .i64 x8.2)])])), .p, .p, .p, .p] [.op .p], rgG [.op .lit0, oo], rgG [oo, opI (.ln (x8.1.length : Int)), oo], .pre [.keep [2,3,11,12,13,14,16,17,20,21,22,27,131,132,133] [11,12,17,20]]] hn (aC h1 <| aC (qaX monic qaF) <| aC h2 <| aC (of_decide_eq_true h3 : (Int.tmod (wI6 (step - (1 : Int))) (2 : Int)) = ((0 : Nat) : Int)) <| aC (qa5 h5) <| aC (qoH h7) <| aC (qa6 h9) <| aC (qaX x8.1 qaA) <| aN) (ih _ _ h cx hn)
   ·rcases qaQ h with ⟨h4, h⟩ | ⟨h4, h⟩
    ·obtain ⟨x5, h6, h⟩ := qaH h
     obtain ⟨x7, h8, h⟩ := qaH h
     obtain ⟨x9, h10, h⟩ := qaH h
     exact wkG [.go, rgG [oo, oo, oo, oo, .sb 106 false, oo, opI (.ln (monic.length : Int)), oo, oo], bFa, rgG [oo, oo, oo, opI (.ia 1), oo, oo], rgG [oo, oo, opI (.call [[1], [0,1]] [(TV.c (T.sl 1 (pair.e1.map qaD))), (TV.agg (qaA top))] (TV.tup [(false, [(T.sl 2 (x5.1.map qaA))]), (false, [(T.int .i64 x5.2)])])), oo, oo, oo, oo, oo], .draw [.p, .p, (.call [[2], [2]] [(tl 2 goal qaA), (tl 2 x5.1 qaA)] (tl 2 x7 qaA)), .p, (.call [[2], [0,1]] [(tl 2 x7 qaA), (TV.agg (qaA top))] (TV.tup [(false, [(T.sl 2 (x9.1.map qaA))]), (false, [(T.int .i64 x9.2)])])), .p, .p, .p, .p] [.op .p], rgG [.op .lit0, oo], rgG [oo, opI (.ln (x9.1.length : Int)), oo], .pre [.keep [2,3,11,12,13,14,16,17,20,21,22,27,131,132,133] [11,12,17,20]]] hn (aC h1 <| aC (qaX monic qaF) <| aC h2 <| aC (of_decide_eq_true h4 : (Int.tmod (wI6 (step - (1 : Int))) (2 : Int)) = ((1 : Nat) : Int)) <| aC (qa5 h6) <| aC (qoH h8) <| aC (qa6 h10) <| aC (qaX x9.1 qaA) <| aN) (ih _ _ h cx hn)
    ·cases h
theorem zi6 {K} (ih : qcX K) {cx} (hn : cx.n = 208) {base top pair power p k goal monic parts step now t131 t132 t133} {r} (h : qaE (K + 1) (.c25 base top pair power p k goal monic parts step now t131 t132 t133) = some r) : qcW cx (.c25 base top pair power p k goal monic parts step now t131 t132 t133) r := by
 rw [qaE] at h
 rcases qaQ h with ⟨h1, h⟩ | ⟨h1, h⟩
 ·obtain ⟨x2, h3, h⟩ := qaH h
  obtain ⟨x4, h5, h⟩ := qaH h
  obtain ⟨x6, h7, h⟩ := qaH h
  exact wkG [.go, rg1, bTr, rgG [opI (.ix (qaA x2)), oo, oo, oo], rgG [oo, oo, opI (.call [[0,1], [0,1]] [(TV.agg (qaA x2)), (TV.agg (qaA power))] (TV.tup [(true, qaA x4.1), (false, [(T.int .i64 x4.2)])])), oo, oo, oo, oo, oo, oo], rgG [oo, oo, oo, opI (.call [[0,1], [0]] [(TV.agg (qaA x4.1)), (ti .u32 p)] (ti .u32 x6)), opI (.lit (([x6] : List Int).map qaC)), opI (.appN (([x6] : List Int).map qaC)), oo], rg2, .pre [.rl 27 0 ([x6] : List Int).length, .keep [2,3,11,12,13,14,16,17,20,21,22,27,131,132,133] [11,12,17,20,148]]] hn (aC h1 <| aC (qa1 h3) <| aC (qbS qaA h3) <| aC (qfD h5) <| aC (qa8 h7) <| aC (by kernel_rfl : [(T.int .u32 x6)] = (([x6] : List Int).map qaC).flatten) <| aC (qbJ _ _ _ (by simp) : ((([x6] : List Int).map qaC).drop 0).take 1 = ([x6] : List Int).map qaC) <| aC (by simp : 0 < (([x6] : List Int).map qaC).length) <| aC (by simp : (([x6] : List Int).map qaC).length * 4 ≤ 140737488355328) <| aC (by simp [maxLen] : (([x6] : List Int).map qaC).length ≤ maxLen) <| aC r0 <| aC (by simp : (([x6] : List Int).map qaC).length = ([x6] : List Int).length) <| aN) (ih _ _ h cx hn)
 ·obtain ⟨x2, h3, h⟩ := qaH h
  exact wkG [.go, rg1, bFa, rgG [oo, oo, opI (.call [[0,1], [0,1]] [(TV.agg (qaA power)), (TV.agg (qaA base))] (TV.agg (qaA x2))), oo, oo], rg1, rgG [oo, opI (.ln (now.length : Int)), oo], .pre [.keep [2,3,11,12,13,14,16,17,20,21,27,32,33,153,154,155] [11,12,17,20,32]]] hn (aC h1 <| aC (qd9 h3) <| aC (qaX now qaD) <| aN) (ih _ _ h cx hn)
theorem zi5 {K} (ih : qcX K) {cx} (hn : cx.n = 208) {base top pair power r148 p k goal monic parts step now t131 t132 t133} {r} (h : qaE (K + 1) (.c26 base top pair power r148 p k goal monic parts step now t131 t132 t133) = some r) : qcW cx (.c26 base top pair power r148 p k goal monic parts step now t131 t132 t133) r := by
 rw [qaE] at h
 rcases qaQ h with ⟨h1, h⟩ | ⟨h1, h⟩
 ·obtain ⟨x2, h3, h⟩ := qaH h
  obtain ⟨x4, h5, h⟩ := qaH h
  obtain ⟨x6, h7, h⟩ := qaH h
  obtain ⟨h8, h⟩ := qbI h
  exact wkG [.go, rg1, bTr, rgG [opI (.ix (qaA x2)), oo, oo, oo], rgG [oo, oo, opI (.call [[0,1], [0,1]] [(TV.agg (qaA x2)), (TV.agg (qaA power))] (TV.tup [(true, qaA x4.1), (false, [(T.int .i64 x4.2)])])), oo, oo, oo, oo, oo, oo], .pre [.keep [2,3,11,12,13,14,16,17,20,21,22,27,30,131,132,133] [11,12,17,20,30,148]], rgG [oo, oo, oo, opI (.call [[0,1], [0]] [(TV.agg (qaA x4.1)), (ti .u32 p)] (ti .u32 x6)), opI (.lit (([x6] : List Int).map qaC)), .appR (([x6] : List Int).map qaC) ((r148 ++ ([x6] : List Int)).map qaC), oo], rg2, .pre [.rl 27 0 (r148 ++ ([x6] : List Int)).length, .keep [2,3,11,12,13,14,16,17,20,21,22,27,131,132,133] [11,12,17,20,148]]] hn (aC h1 <| aC (qa1 h3) <| aC (qbS qaA h3) <| aC (qfD h5) <| aC (qa8 h7) <| aC (by kernel_rfl : [(T.int .u32 x6)] = (([x6] : List Int).map qaC).flatten) <| aC (by simp : r148.length = (r148.map qaC).length) <| aC (qbJ _ _ _ (by simp) : ((([x6] : List Int).map qaC).drop 0).take 1 = ([x6] : List Int).map qaC) <| aC (qs5 _ _ _ : r148.map qaC ++ ([x6] : List Int).map qaC = (r148 ++ ([x6] : List Int)).map qaC) <| aC ((qeF _ _).symm ▸ h8 : ((r148 ++ ([x6] : List Int)).map qaC).length * 4 ≤ 140737488355328) <| aC ((qeF _ _).symm ▸ room (by decide) h8 : ((r148 ++ ([x6] : List Int)).map qaC).length ≤ maxLen) <| aC r0 <| aC (by simp : ((r148 ++ ([x6] : List Int)).map qaC).length = (r148 ++ ([x6] : List Int)).length) <| aN) (ih _ _ h cx hn)
 ·obtain ⟨x2, h3, h⟩ := qaH h
  exact wkG [.go, rg1, bFa, rgG [oo, oo, opI (.call [[0,1], [0,1]] [(TV.agg (qaA power)), (TV.agg (qaA base))] (TV.agg (qaA x2))), oo, oo], rg1, rgG [oo, opI (.ln (now.length : Int)), oo], .pre [.rl 27 0 r148.length, .keep [2,3,11,12,13,14,16,17,20,21,27,32,33,153,154,155] [11,12,17,20,32,148]]] hn (aC h1 <| aC (qd9 h3) <| aC (qaX now qaD) <| aC r0 <| aC (lq r148) <| aN) (ih _ _ h cx hn)
theorem zi4 {K} (ih : qcX K) {cx} (hn : cx.n = 208) {base top pair power next p k goal monic parts step t153 t154 t155} {r} (h : qaE (K + 1) (.c27 base top pair power next p k goal monic parts step t153 t154 t155) = some r) : qcW cx (.c27 base top pair power next p k goal monic parts step t153 t154 t155) r := by
 rw [qaE] at h
 rcases qaQ h with ⟨h1, h⟩ | ⟨h1, h⟩
 ·obtain ⟨x2, h3, h⟩ := qaH h
  obtain ⟨x4, h5, h⟩ := qaH h
  obtain ⟨x6, h7, h⟩ := qaH h
  obtain ⟨x8, h9, h⟩ := qaH h
  obtain ⟨x10, h11, h⟩ := qaH h
  obtain ⟨x12, h13, h⟩ := qaH h
  obtain ⟨x14, h15, h⟩ := qaH h
  obtain ⟨x16, h17, h⟩ := qaH h
  obtain ⟨x18, h19, h⟩ := qaH h
  exact wkG [.go, rg1, bTr, rgG [oo, opI (.ix (qaD x2)), oo, oo, oo], .draw [.p, .p, .p, (.ix (qaF x4)), .p, .p, (.call [[1], [1], [0]] [(TV.c (T.sl 1 ([].map qaC))), (tl 1 x4 qaC), (ti .u32 p)] (tl 1 x6 qaC)), .p, .p, (.ix (qaF x8)), .p, .p, (.call [[1], [1], [0]] [(tl 1 x6 qaC), (tl 1 x8 qaC), (ti .u32 p)] (TV.tup [(false, [(T.sl 1 (x10.1.map qaC))]), (false, [(T.sl 1 (x10.2.1.map qaC))]), (false, [(T.int .i64 x10.2.2)])])), .p, .p, .p, .p, .p, .p] [.op .p], .draw [.p, .p, .p, (.call [[1], [0]] [(TV.c (T.sl 1 (x10.2.1.map qaC))), (ti .u32 p)] (tl 2 x12 qaA)), .p, (.call [[2], [0,1]] [(tl 2 x12 qaA), (TV.agg (qaA power))] (tl 2 x14 qaA))] [opI (.call [[2], [2]] [(tl 2 x2 qaA), (tl 2 x14 qaA)] (tl 2 x16 qaA)), .op .p], rgG [oo, oo, opI (.call [[2], [0,1]] [(tl 2 x16 qaA), (TV.agg (qaA next))] (TV.tup [(false, [(T.sl 2 (x18.1.map qaA))]), (false, [(T.int .i64 x18.2)])])), oo, oo, oo, oo], rgG [oo, oo, opI (.lit (([x18.1] : List (List qaB)).map qaD)), opI (.appN (([x18.1] : List (List qaB)).map qaD)), oo], rg2, .pre [.rl 33 0 ([x18.1] : List (List qaB)).length, .keep [2,3,11,12,13,14,16,17,20,21,27,32,33,153,154,155] [11,12,17,20,32,193]]] hn (aC h1 <| aC (qa1 h3) <| aC (qbS qaD h3) <| aC (qa1 h5) <| aC (qbS qaF h5) <| aC (qcF h7) <| aC (qa1 h9) <| aC (qbS qaF h9) <| aC (qdC h11) <| aC (qdG h13) <| aC (qd1 h15) <| aC (qgE h17) <| aC (qa6 h19) <| aC (by kernel_rfl : [(T.sl 2 (x18.1.map qaA))] = (([x18.1] : List (List qaB)).map qaD).flatten) <| aC (qbJ _ _ _ (by simp) : ((([x18.1] : List (List qaB)).map qaD).drop 0).take 1 = ([x18.1] : List (List qaB)).map qaD) <| aC (by simp : 0 < (([x18.1] : List (List qaB)).map qaD).length) <| aC (by simp : (([x18.1] : List (List qaB)).map qaD).length * 24 ≤ 140737488355328) <| aC (by simp [maxLen] : (([x18.1] : List (List qaB)).map qaD).length ≤ maxLen) <| aC r0 <| aC (by simp : (([x18.1] : List (List qaB)).map qaD).length = ([x18.1] : List (List qaB)).length) <| aN) (ih _ _ h cx hn)
 ·rcases qaQ h with ⟨h2, h⟩ | ⟨h2, h⟩
  ·cases h
  ·rcases qaQ h with ⟨h3, h⟩ | ⟨h3, h⟩
   ·cases h
   ·cases h
theorem zi3 {K} (ih : qcX K) {cx} (hn : cx.n = 208) {base top pair power next r148 p k goal monic parts step t153 t154 t155} {r} (h : qaE (K + 1) (.c28 base top pair power next r148 p k goal monic parts step t153 t154 t155) = some r) : qcW cx (.c28 base top pair power next r148 p k goal monic parts step t153 t154 t155) r := by
 rw [qaE] at h
 rcases qaQ h with ⟨h1, h⟩ | ⟨h1, h⟩
 ·obtain ⟨x2, h3, h⟩ := qaH h
  obtain ⟨x4, h5, h⟩ := qaH h
  obtain ⟨x6, h7, h⟩ := qaH h
  obtain ⟨x8, h9, h⟩ := qaH h
  obtain ⟨x10, h11, h⟩ := qaH h
  obtain ⟨x12, h13, h⟩ := qaH h
  obtain ⟨x14, h15, h⟩ := qaH h
  obtain ⟨x16, h17, h⟩ := qaH h
  obtain ⟨x18, h19, h⟩ := qaH h
  exact wkG [.go, rg1, bTr, rgG [oo, opI (.ix (qaD x2)), oo, oo, oo], .pre [.snap 27 (max 0 (0 + r148.length)) (r148.map qaC)], .draw [.p, .p, .p, (.ix (qaF x4)), .p, .p, (.call [[1], [1], [0]] [(tl 1 r148 qaC), (tl 1 x4 qaC), (ti .u32 p)] (tl 1 x6 qaC)), .p, .p, (.ix (qaF x8)), .p, .p, (.call [[1], [1], [0]] [(tl 1 x6 qaC), (tl 1 x8 qaC), (ti .u32 p)] (TV.tup [(false, [(T.sl 1 (x10.1.map qaC))]), (false, [(T.sl 1 (x10.2.1.map qaC))]), (false, [(T.int .i64 x10.2.2)])])), .p, .p, .p, .p, .p, .p] [.op .p], .draw [.p, .p, .p, (.call [[1], [0]] [(TV.c (T.sl 1 (x10.2.1.map qaC))), (ti .u32 p)] (tl 2 x12 qaA)), .p, (.call [[2], [0,1]] [(tl 2 x12 qaA), (TV.agg (qaA power))] (tl 2 x14 qaA))] [opI (.call [[2], [2]] [(tl 2 x2 qaA), (tl 2 x14 qaA)] (tl 2 x16 qaA)), .op .p], rgG [oo, oo, opI (.call [[2], [0,1]] [(tl 2 x16 qaA), (TV.agg (qaA next))] (TV.tup [(false, [(T.sl 2 (x18.1.map qaA))]), (false, [(T.int .i64 x18.2)])])), oo, oo, oo, oo], rgG [oo, oo, opI (.lit (([x18.1] : List (List qaB)).map qaD)), opI (.appN (([x18.1] : List (List qaB)).map qaD)), oo], rg2, .pre [.rl 33 0 ([x18.1] : List (List qaB)).length, .keep [2,3,11,12,13,14,16,17,20,21,27,32,33,153,154,155] [11,12,17,20,32,193]]] hn (aC h1 <| aC (qa1 h3) <| aC (qbS qaD h3) <| aC (qbJ _ _ _ (by simp) : ((r148.map qaC).drop 0).take r148.length = r148.map qaC) <| aC (rfl : (max 0 (0 + r148.length)) = (max 0 (0 + r148.length))) <| aC (qa1 h5) <| aC (qbS qaF h5) <| aC (qcF h7) <| aC (qa1 h9) <| aC (qbS qaF h9) <| aC (qdC h11) <| aC (qdG h13) <| aC (qd1 h15) <| aC (qgE h17) <| aC (qa6 h19) <| aC (by kernel_rfl : [(T.sl 2 (x18.1.map qaA))] = (([x18.1] : List (List qaB)).map qaD).flatten) <| aC (qbJ _ _ _ (by simp) : ((([x18.1] : List (List qaB)).map qaD).drop 0).take 1 = ([x18.1] : List (List qaB)).map qaD) <| aC (by simp : 0 < (([x18.1] : List (List qaB)).map qaD).length) <| aC (by simp : (([x18.1] : List (List qaB)).map qaD).length * 24 ≤ 140737488355328) <| aC (by simp [maxLen] : (([x18.1] : List (List qaB)).map qaD).length ≤ maxLen) <| aC r0 <| aC (by simp : (([x18.1] : List (List qaB)).map qaD).length = ([x18.1] : List (List qaB)).length) <| aN) (ih _ _ h cx hn)
 ·rcases qaQ h with ⟨h2, h⟩ | ⟨h2, h⟩
  ·cases h
  ·rcases qaQ h with ⟨h3, h⟩ | ⟨h3, h⟩
   ·cases h
   ·cases h
theorem zi2 {K} (ih : qcX K) {cx} (hn : cx.n = 208) {base top pair power next r193 p k goal monic parts step t153 t154 t155} {r} (h : qaE (K + 1) (.c29 base top pair power next r193 p k goal monic parts step t153 t154 t155) = some r) : qcW cx (.c29 base top pair power next r193 p k goal monic parts step t153 t154 t155) r := by
 rw [qaE] at h
 rcases qaQ h with ⟨h1, h⟩ | ⟨h1, h⟩
 ·obtain ⟨x2, h3, h⟩ := qaH h
  obtain ⟨x4, h5, h⟩ := qaH h
  obtain ⟨x6, h7, h⟩ := qaH h
  obtain ⟨x8, h9, h⟩ := qaH h
  obtain ⟨x10, h11, h⟩ := qaH h
  obtain ⟨x12, h13, h⟩ := qaH h
  obtain ⟨x14, h15, h⟩ := qaH h
  obtain ⟨x16, h17, h⟩ := qaH h
  obtain ⟨x18, h19, h⟩ := qaH h
  obtain ⟨h20, h⟩ := qbI h
  exact wkG [.go, rg1, bTr, rgG [oo, opI (.ix (qaD x2)), oo, oo, oo], .draw [.p, .p, .p, (.ix (qaF x4)), .p, .p, (.call [[1], [1], [0]] [(TV.c (T.sl 1 ([].map qaC))), (tl 1 x4 qaC), (ti .u32 p)] (tl 1 x6 qaC)), .p, .p, (.ix (qaF x8)), .p, .p, (.call [[1], [1], [0]] [(tl 1 x6 qaC), (tl 1 x8 qaC), (ti .u32 p)] (TV.tup [(false, [(T.sl 1 (x10.1.map qaC))]), (false, [(T.sl 1 (x10.2.1.map qaC))]), (false, [(T.int .i64 x10.2.2)])])), .p, .p, .p, .p, .p, .p] [.op .p], .draw [.p, .p, .p, (.call [[1], [0]] [(TV.c (T.sl 1 (x10.2.1.map qaC))), (ti .u32 p)] (tl 2 x12 qaA)), .p, (.call [[2], [0,1]] [(tl 2 x12 qaA), (TV.agg (qaA power))] (tl 2 x14 qaA))] [opI (.call [[2], [2]] [(tl 2 x2 qaA), (tl 2 x14 qaA)] (tl 2 x16 qaA)), .op .p], rgG [oo, oo, opI (.call [[2], [0,1]] [(tl 2 x16 qaA), (TV.agg (qaA next))] (TV.tup [(false, [(T.sl 2 (x18.1.map qaA))]), (false, [(T.int .i64 x18.2)])])), oo, oo, oo, oo], .pre [.keep [2,3,11,12,13,14,16,17,20,21,27,32,33,39,153,154,155] [11,12,17,20,32,193]], rgG [oo, oo, opI (.lit (([x18.1] : List (List qaB)).map qaD)), .appR (([x18.1] : List (List qaB)).map qaD) ((r193 ++ ([x18.1] : List (List qaB))).map qaD), oo], rg2, .pre [.rl 33 0 (r193 ++ ([x18.1] : List (List qaB))).length, .keep [2,3,11,12,13,14,16,17,20,21,27,32,33,153,154,155] [11,12,17,20,32,193]]] hn (aC h1 <| aC (qa1 h3) <| aC (qbS qaD h3) <| aC (qa1 h5) <| aC (qbS qaF h5) <| aC (qcF h7) <| aC (qa1 h9) <| aC (qbS qaF h9) <| aC (qdC h11) <| aC (qdG h13) <| aC (qd1 h15) <| aC (qgE h17) <| aC (qa6 h19) <| aC (by kernel_rfl : [(T.sl 2 (x18.1.map qaA))] = (([x18.1] : List (List qaB)).map qaD).flatten) <| aC (by simp : r193.length = (r193.map qaD).length) <| aC (qbJ _ _ _ (by simp) : ((([x18.1] : List (List qaB)).map qaD).drop 0).take 1 = ([x18.1] : List (List qaB)).map qaD) <| aC (qs5 _ _ _ : r193.map qaD ++ ([x18.1] : List (List qaB)).map qaD = (r193 ++ ([x18.1] : List (List qaB))).map qaD) <| aC ((qeF _ _).symm ▸ h20 : ((r193 ++ ([x18.1] : List (List qaB))).map qaD).length * 24 ≤ 140737488355328) <| aC ((qeF _ _).symm ▸ room (by decide) h20 : ((r193 ++ ([x18.1] : List (List qaB))).map qaD).length ≤ maxLen) <| aC r0 <| aC (by simp : ((r193 ++ ([x18.1] : List (List qaB))).map qaD).length = (r193 ++ ([x18.1] : List (List qaB))).length) <| aN) (ih _ _ h cx hn)
 ·rcases qaQ h with ⟨h2, h⟩ | ⟨h2, h⟩
  ·exact wkG [.go, rg1, bFa, rgG [oo, oo, oo, opI (.ia 0), oo], rg2, .pre [.rlB 17 0 0 r193.length, .keep [2,3,11,12,13,14,16,17,20,21] [11,12,17,20,193]]] hn (aC h1 <| aC (of_decide_eq_true h2 : (Int.tmod step (2 : Int)) = ((0 : Nat) : Int)) <| aC r0 <| aC (lq r193) <| aN) (ih _ _ h cx hn)
  ·rcases qaQ h with ⟨h3, h⟩ | ⟨h3, h⟩
   ·exact wkG [.go, rg1, bFa, rgG [oo, oo, oo, opI (.ia 1), oo], rg2, .pre [.rlB 17 1 0 r193.length, .keep [2,3,11,12,13,14,16,17,20,21] [11,12,17,20,193]]] hn (aC h1 <| aC (of_decide_eq_true h3 : (Int.tmod step (2 : Int)) = ((1 : Nat) : Int)) <| aC r0 <| aC (lq r193) <| aN) (ih _ _ h cx hn)
   ·cases h
theorem zi1 {K} (ih : qcX K) {cx} (hn : cx.n = 208) {base top pair power next r193 p k goal monic parts step change t153 t154 t155} {r} (h : qaE (K + 1) (.c31 base top pair power next r193 p k goal monic parts step change t153 t154 t155) = some r) : qcW cx (.c31 base top pair power next r193 p k goal monic parts step change t153 t154 t155) r := by
 rw [qaE] at h
 rcases qaQ h with ⟨h1, h⟩ | ⟨h1, h⟩
 ·obtain ⟨x2, h3, h⟩ := qaH h
  obtain ⟨x4, h5, h⟩ := qaH h
  obtain ⟨x6, h7, h⟩ := qaH h
  obtain ⟨x8, h9, h⟩ := qaH h
  obtain ⟨x10, h11, h⟩ := qaH h
  obtain ⟨x12, h13, h⟩ := qaH h
  obtain ⟨x14, h15, h⟩ := qaH h
  obtain ⟨x16, h17, h⟩ := qaH h
  obtain ⟨x18, h19, h⟩ := qaH h
  obtain ⟨h20, h⟩ := qbI h
  exact wkG [.go, rg1, bTr, rgG [oo, opI (.ix (qaD x2)), oo, oo, oo], .draw [.p, .p, .p, (.ix (qaF x4)), .p, .p, (.call [[1], [1], [0]] [(tl 1 change qaC), (tl 1 x4 qaC), (ti .u32 p)] (tl 1 x6 qaC)), .p, .p, (.ix (qaF x8)), .p, .p, (.call [[1], [1], [0]] [(tl 1 x6 qaC), (tl 1 x8 qaC), (ti .u32 p)] (TV.tup [(false, [(T.sl 1 (x10.1.map qaC))]), (false, [(T.sl 1 (x10.2.1.map qaC))]), (false, [(T.int .i64 x10.2.2)])])), .p, .p, .p, .p, .p, .p] [.op .p], .draw [.p, .p, .p, (.call [[1], [0]] [(TV.c (T.sl 1 (x10.2.1.map qaC))), (ti .u32 p)] (tl 2 x12 qaA)), .p, (.call [[2], [0,1]] [(tl 2 x12 qaA), (TV.agg (qaA power))] (tl 2 x14 qaA))] [opI (.call [[2], [2]] [(tl 2 x2 qaA), (tl 2 x14 qaA)] (tl 2 x16 qaA)), .op .p], rgG [oo, oo, opI (.call [[2], [0,1]] [(tl 2 x16 qaA), (TV.agg (qaA next))] (TV.tup [(false, [(T.sl 2 (x18.1.map qaA))]), (false, [(T.int .i64 x18.2)])])), oo, oo, oo, oo], .pre [.keep [2,3,11,12,13,14,16,17,20,21,27,32,33,39,153,154,155] [11,12,17,20,32,193]], rgG [oo, oo, opI (.lit (([x18.1] : List (List qaB)).map qaD)), .appR (([x18.1] : List (List qaB)).map qaD) ((r193 ++ ([x18.1] : List (List qaB))).map qaD), oo], rg2, .pre [.rl 33 0 (r193 ++ ([x18.1] : List (List qaB))).length, .keep [2,3,11,12,13,14,16,17,20,21,27,32,33,153,154,155] [11,12,17,20,32,193]]] hn (aC h1 <| aC (qa1 h3) <| aC (qbS qaD h3) <| aC (qa1 h5) <| aC (qbS qaF h5) <| aC (qcF h7) <| aC (qa1 h9) <| aC (qbS qaF h9) <| aC (qdC h11) <| aC (qdG h13) <| aC (qd1 h15) <| aC (qgE h17) <| aC (qa6 h19) <| aC (by kernel_rfl : [(T.sl 2 (x18.1.map qaA))] = (([x18.1] : List (List qaB)).map qaD).flatten) <| aC (by simp : r193.length = (r193.map qaD).length) <| aC (qbJ _ _ _ (by simp) : ((([x18.1] : List (List qaB)).map qaD).drop 0).take 1 = ([x18.1] : List (List qaB)).map qaD) <| aC (qs5 _ _ _ : r193.map qaD ++ ([x18.1] : List (List qaB)).map qaD = (r193 ++ ([x18.1] : List (List qaB))).map qaD) <| aC ((qeF _ _).symm ▸ h20 : ((r193 ++ ([x18.1] : List (List qaB))).map qaD).length * 24 ≤ 140737488355328) <| aC ((qeF _ _).symm ▸ room (by decide) h20 : ((r193 ++ ([x18.1] : List (List qaB))).map qaD).length ≤ maxLen) <| aC r0 <| aC (by simp : ((r193 ++ ([x18.1] : List (List qaB))).map qaD).length = (r193 ++ ([x18.1] : List (List qaB))).length) <| aN) (ih _ _ h cx hn)
 ·rcases qaQ h with ⟨h2, h⟩ | ⟨h2, h⟩
  ·exact wkG [.go, rg1, bFa, rgG [oo, oo, oo, opI (.ia 0), oo], rg2, .pre [.rlB 17 0 0 r193.length, .keep [2,3,11,12,13,14,16,17,20,21] [11,12,17,20,193]]] hn (aC h1 <| aC (of_decide_eq_true h2 : (Int.tmod step (2 : Int)) = ((0 : Nat) : Int)) <| aC r0 <| aC (lq r193) <| aN) (ih _ _ h cx hn)
  ·rcases qaQ h with ⟨h3, h⟩ | ⟨h3, h⟩
   ·exact wkG [.go, rg1, bFa, rgG [oo, oo, oo, opI (.ia 1), oo], rg2, .pre [.rlB 17 1 0 r193.length, .keep [2,3,11,12,13,14,16,17,20,21] [11,12,17,20,193]]] hn (aC h1 <| aC (of_decide_eq_true h3 : (Int.tmod step (2 : Int)) = ((1 : Nat) : Int)) <| aC r0 <| aC (lq r193) <| aN) (ih _ _ h cx hn)
   ·cases h
theorem zi0 {K} (ih : qcX K) {cx} (hn : cx.n = 208) {base top pair power r193 p k goal monic parts step} {r} (h : qaE (K + 1) (.c32 base top pair power r193 p k goal monic parts step) = some r) : qcW cx (.c32 base top pair power r193 p k goal monic parts step) r := by
 rw [qaE] at h
 exact wkG [rg3, .pre [.snapC 17 0 (max 0 (0 + r193.length)) (r193.map qaD)], .pre [.keep [2,3,11,12,13,14,16,17,20,21] [11,12,17,20]]] hn (aC (qbJ _ _ _ (by simp) : ((r193.map qaD).drop 0).take r193.length = r193.map qaD) <| aC (rfl : (max 0 (0 + r193.length)) = (max 0 (0 + r193.length))) <| aN) (ih _ _ h cx hn)
theorem qb3 : ∀ K : Nat, qcX K
 | 0, c, r, h => by rw [qaE] at h; cases h
 | K + 1, .c0 .., r, h => fun cx hn => zmO (qb3 K) hn h
 | K + 1, .c1 .., r, h => fun cx hn => zmN (qb3 K) hn h
 | K + 1, .c2 .., r, h => fun cx hn => zmM (qb3 K) hn h
 | K + 1, .c3 .., r, h => fun cx hn => zmL (qb3 K) hn h
 | K + 1, .c4 .., r, h => fun cx hn => zmK (qb3 K) hn h
 | K + 1, .c5 .., r, h => fun cx hn => zmJ (qb3 K) hn h
 | K + 1, .c7 .., r, h => fun cx hn => zmI (qb3 K) hn h
 | K + 1, .c11 .., r, h => fun cx hn => zjE (qb3 K) hn h
 | K + 1, .c12 .., r, h => fun cx hn => zjD (qb3 K) hn h
 | K + 1, .c17 .., r, h => fun cx hn => zjC (qb3 K) hn h
 | K + 1, .c18 .., r, h => fun cx hn => zjB (qb3 K) hn h
 | K + 1, .c21 .., r, h => fun cx hn => zjA (qb3 K) hn h
 | K + 1, .c22 .., r, h => fun cx hn => zi9 (qb3 K) hn h
 | K + 1, .c23 .., r, h => fun cx hn => zi8 (qb3 K) hn h
 | K + 1, .c24 .., r, h => fun cx hn => zi7 (qb3 K) hn h
 | K + 1, .c25 .., r, h => fun cx hn => zi6 (qb3 K) hn h
 | K + 1, .c26 .., r, h => fun cx hn => zi5 (qb3 K) hn h
 | K + 1, .c27 .., r, h => fun cx hn => zi4 (qb3 K) hn h
 | K + 1, .c28 .., r, h => fun cx hn => zi3 (qb3 K) hn h
 | K + 1, .c29 .., r, h => fun cx hn => zi2 (qb3 K) hn h
 | K + 1, .c31 .., r, h => fun cx hn => zi1 (qb3 K) hn h
 | K + 1, .c32 .., r, h => fun cx hn => zi0 (qb3 K) hn h
theorem qcG {K : Nat} {f : (List qaB)} {list : (List (List Int))} {p : Int} {k : Int} {r : ((List (List qaB)) × Int)} (h : qjF K f list p k = some r) : qc5 prog 62 [(tl 2 f qaA), (tl 1 list qaF), (ti .u32 p), (ti .i64 k)] (TV.tup [(false, [(T.sl 1 (r.1.map qaD))]), (false, [(T.int .i64 r.2)])]) :=
 qa0 [[1], [0]] (by kernel_rfl) (by simp) fun cx hn => qb3 K (.c0 f list p k) r h cx hn
open Go.Proofs.Try (prog)
inductive qj7 where
 | c0 
def qiJ : Nat → qj7 → Option Bool
 | 0, _ => none
 | K + 1, .c0  =>
  (qiV K ([(1 : Int), (0 : Int), (1 : Int)] : List Int)).bind fun x1 =>
  (qjF K x1 ([([(2 : Int), (1 : Int)] : List Int), ([(3 : Int), (1 : Int)] : List Int)] : List (List Int)) (5 : Int) (2 : Int)).bind fun x3 =>
  bif (decide (x3.2 = (0 : Int))) then
   bif (decide ((x3.1.length : Int) = (2 : Int))) then
    (gi x3.1 (0 : Int)).bind fun x7 =>
    (qiV K ([(7 : Int), (1 : Int)] : List Int)).bind fun x9 =>
    (qq9 K x7 x9).bind fun x11 =>
    bif x11 then
     (gi x3.1 (1 : Int)).bind fun x14 =>
     (qiV K ([(-7 : Int), (1 : Int)] : List Int)).bind fun x16 =>
     (qq9 K x14 x16).bind fun x18 =>
     some x18
    else
     some false
   else
    some false
  else
   some false
def qi9 (K : Nat) : Option Bool := qiJ K .c0
noncomputable def q2W : Code := qbQ prog 43
noncomputable def q4I : qj7 → List Fr
 | .c0  => [.code q2W]
def q5D : qj7 → St
 | .c0  => St.init []
def qx2 (cx : Cx) (c : qj7) (r : Bool) : Prop := Wk prog cx (qc2 prog 43 [[0]] (TV.c (T.bool r))) (q4I c) .normal (q5D c)
abbrev qx3 (K : Nat) : Prop := ∀ c r, qiJ K c = some r → ∀ cx : Cx, cx.n = 35 → qx2 cx c r
theorem q5E {K} (_ : qx3 K) {cx} (hn : cx.n = 35)  {r} (h : qiJ (K + 1) .c0 = some r) : qx2 cx .c0 r := by
 rw [qiJ] at h
 obtain ⟨x1, h2, h⟩ := qaH h
 obtain ⟨x3, h4, h⟩ := qaH h
 rcases qaQ h with ⟨h5, h⟩ | ⟨h5, h⟩
 ·rcases qaQ h with ⟨h6, h⟩ | ⟨h6, h⟩
  ·obtain ⟨x7, h8, h⟩ := qaH h
   obtain ⟨x9, h10, h⟩ := qaH h
   obtain ⟨x11, h12, h⟩ := qaH h
   rcases qaQ h with ⟨h13, h⟩ | ⟨h13, h⟩
   ·obtain ⟨x14, h15, h⟩ := qaH h
    obtain ⟨x16, h17, h⟩ := qaH h
    obtain ⟨x18, h19, h⟩ := qaH h
    have h := oinj h; subst h
    exact wkR [rg1, rgG [opI (.lit (([(1 : Int), (0 : Int), (1 : Int)] : List Int).map qd4)), .snap 4 (max 0 (0 + 3)) (([(1 : Int), (0 : Int), (1 : Int)] : List Int).map qd4), opI (.call [[1]] [(TV.c (T.sl 1 (([(1 : Int), (0 : Int), (1 : Int)] : List Int).map qd4)))] (tl 2 x1 qaA)), opI (.lit (([(2 : Int), (1 : Int)] : List Int).map qaC)), opI (.lit (([(3 : Int), (1 : Int)] : List Int).map qaC)), .snap 6 (max 0 (0 + 2)) (([(2 : Int), (1 : Int)] : List Int).map qaC), .snap 7 (max 0 (0 + 2)) (([(3 : Int), (1 : Int)] : List Int).map qaC), opI (.lit (([([(2 : Int), (1 : Int)] : List Int), ([(3 : Int), (1 : Int)] : List Int)] : List (List Int)).map qaF)), .snap 8 (max 0 (0 + 2)) (([([(2 : Int), (1 : Int)] : List Int), ([(3 : Int), (1 : Int)] : List Int)] : List (List Int)).map qaF), opI (.call [[2], [1], [0], [0]] [(tl 2 x1 qaA), (TV.c (T.sl 1 (([([(2 : Int), (1 : Int)] : List Int), ([(3 : Int), (1 : Int)] : List Int)] : List (List Int)).map qaF))), (TV.c (T.int .u32 (5 : Int))), (TV.c (T.int .i64 (2 : Int)))] (TV.tup [(false, [(T.sl 1 (x3.1.map qaD))]), (false, [(T.int .i64 x3.2)])])), oo, oo, oo, oo, oo], .draw [.p, .p, .p, (.ga true .p), (.ga true (.ln (x3.1.length : Int))), (.ga true .p), (.pk true), .p, (.ga true .p), (.ga true (.ix (qaD x7))), (.ga true .p), (.ga true (.litT (([(7 : Int), (1 : Int)] : List Int).map qd4))), (.ga true (.call [[1]] [(TV.c (T.sl 1 (([(7 : Int), (1 : Int)] : List Int).map qd4)))] (tl 2 x9 qaA))), (.ga true (.call [[2], [2]] [(tl 2 x7 qaA), (tl 2 x9 qaA)] (TV.c (T.bool x11)))), (.pk true), .p, (.ga true .p), (.ga true (.ix (qaD x14))), (.ga true .p), (.ga true (.litT (([(-7 : Int), (1 : Int)] : List Int).map qd4))), (.ga true (.call [[1]] [(TV.c (T.sl 1 (([(-7 : Int), (1 : Int)] : List Int).map qd4)))] (tl 2 x16 qaA))), (.ga true (.call [[2], [2]] [(tl 2 x14 qaA), (tl 2 x16 qaA)] (TV.c (T.bool x18)))), (.pk true), .p] []] hn (aC (by kernel_rfl : [(T.int .i64 (1 : Int)), (T.int .i64 (0 : Int)), (T.int .i64 (1 : Int))] = (([(1 : Int), (0 : Int), (1 : Int)] : List Int).map qd4).flatten) <| aC (qbJ _ _ _ (by simp) : ((([(1 : Int), (0 : Int), (1 : Int)] : List Int).map qd4).drop 0).take 3 = ([(1 : Int), (0 : Int), (1 : Int)] : List Int).map qd4) <| aC (rfl : (max 0 (0 + 3)) = (max 0 (0 + 3))) <| aC (qeM h2) <| aC (by kernel_rfl : [(T.int .u32 (2 : Int)), (T.int .u32 (1 : Int))] = (([(2 : Int), (1 : Int)] : List Int).map qaC).flatten) <| aC (by kernel_rfl : [(T.int .u32 (3 : Int)), (T.int .u32 (1 : Int))] = (([(3 : Int), (1 : Int)] : List Int).map qaC).flatten) <| aC (qbJ _ _ _ (by simp) : ((([(2 : Int), (1 : Int)] : List Int).map qaC).drop 0).take 2 = ([(2 : Int), (1 : Int)] : List Int).map qaC) <| aC (rfl : (max 0 (0 + 2)) = (max 0 (0 + 2))) <| aC (qbJ _ _ _ (by simp) : ((([(3 : Int), (1 : Int)] : List Int).map qaC).drop 0).take 2 = ([(3 : Int), (1 : Int)] : List Int).map qaC) <| aC (rfl : (max 0 (0 + 2)) = (max 0 (0 + 2))) <| aC (by kernel_rfl : [(T.sl 1 (([(2 : Int), (1 : Int)] : List Int).map qaC)), (T.sl 1 (([(3 : Int), (1 : Int)] : List Int).map qaC))] = (([([(2 : Int), (1 : Int)] : List Int), ([(3 : Int), (1 : Int)] : List Int)] : List (List Int)).map qaF).flatten) <| aC (qbJ _ _ _ (by simp) : ((([([(2 : Int), (1 : Int)] : List Int), ([(3 : Int), (1 : Int)] : List Int)] : List (List Int)).map qaF).drop 0).take 2 = ([([(2 : Int), (1 : Int)] : List Int), ([(3 : Int), (1 : Int)] : List Int)] : List (List Int)).map qaF) <| aC (rfl : (max 0 (0 + 2)) = (max 0 (0 + 2))) <| aC (qcG h4) <| aC h5 <| aC h5 <| aC (qaX x3.1 qaD) <| aC h5 <| aC h5 <| aC h6 <| aC h6 <| aC (qa1 h8) <| aC (qbS qaD h8) <| aC h6 <| aC h6 <| aC (by kernel_rfl : [(T.int .i64 (7 : Int)), (T.int .i64 (1 : Int))] = (([(7 : Int), (1 : Int)] : List Int).map qd4).flatten) <| aC h6 <| aC (qeM h10) <| aC h6 <| aC (qjX h12) <| aC h6 <| aC h13 <| aC h13 <| aC (qa1 h15) <| aC (qbS qaD h15) <| aC h13 <| aC h13 <| aC (by kernel_rfl : [(T.int .i64 (-7 : Int)), (T.int .i64 (1 : Int))] = (([(-7 : Int), (1 : Int)] : List Int).map qd4).flatten) <| aC h13 <| aC (qeM h17) <| aC h13 <| aC (qjX h19) <| aC h13 <| aN)
   ·have h := oinj h; subst h
    exact wkR [rg1, rgG [opI (.lit (([(1 : Int), (0 : Int), (1 : Int)] : List Int).map qd4)), .snap 4 (max 0 (0 + 3)) (([(1 : Int), (0 : Int), (1 : Int)] : List Int).map qd4), opI (.call [[1]] [(TV.c (T.sl 1 (([(1 : Int), (0 : Int), (1 : Int)] : List Int).map qd4)))] (tl 2 x1 qaA)), opI (.lit (([(2 : Int), (1 : Int)] : List Int).map qaC)), opI (.lit (([(3 : Int), (1 : Int)] : List Int).map qaC)), .snap 6 (max 0 (0 + 2)) (([(2 : Int), (1 : Int)] : List Int).map qaC), .snap 7 (max 0 (0 + 2)) (([(3 : Int), (1 : Int)] : List Int).map qaC), opI (.lit (([([(2 : Int), (1 : Int)] : List Int), ([(3 : Int), (1 : Int)] : List Int)] : List (List Int)).map qaF)), .snap 8 (max 0 (0 + 2)) (([([(2 : Int), (1 : Int)] : List Int), ([(3 : Int), (1 : Int)] : List Int)] : List (List Int)).map qaF), opI (.call [[2], [1], [0], [0]] [(tl 2 x1 qaA), (TV.c (T.sl 1 (([([(2 : Int), (1 : Int)] : List Int), ([(3 : Int), (1 : Int)] : List Int)] : List (List Int)).map qaF))), (TV.c (T.int .u32 (5 : Int))), (TV.c (T.int .i64 (2 : Int)))] (TV.tup [(false, [(T.sl 1 (x3.1.map qaD))]), (false, [(T.int .i64 x3.2)])])), oo, oo, oo, oo, oo], .draw [.p, .p, .p, (.ga true .p), (.ga true (.ln (x3.1.length : Int))), (.ga true .p), (.pk true), .p, (.ga true .p), (.ga true (.ix (qaD x7))), (.ga true .p), (.ga true (.litT (([(7 : Int), (1 : Int)] : List Int).map qd4))), (.ga true (.call [[1]] [(TV.c (T.sl 1 (([(7 : Int), (1 : Int)] : List Int).map qd4)))] (tl 2 x9 qaA))), (.ga true (.call [[2], [2]] [(tl 2 x7 qaA), (tl 2 x9 qaA)] (TV.c (T.bool x11)))), (.pk true), .p, (.ga false .p), (.ga false .p), (.ga false .p), (.ga false .p), (.ga false .p), (.ga false .p), (.pk false), .p] []] hn (aC (by kernel_rfl : [(T.int .i64 (1 : Int)), (T.int .i64 (0 : Int)), (T.int .i64 (1 : Int))] = (([(1 : Int), (0 : Int), (1 : Int)] : List Int).map qd4).flatten) <| aC (qbJ _ _ _ (by simp) : ((([(1 : Int), (0 : Int), (1 : Int)] : List Int).map qd4).drop 0).take 3 = ([(1 : Int), (0 : Int), (1 : Int)] : List Int).map qd4) <| aC (rfl : (max 0 (0 + 3)) = (max 0 (0 + 3))) <| aC (qeM h2) <| aC (by kernel_rfl : [(T.int .u32 (2 : Int)), (T.int .u32 (1 : Int))] = (([(2 : Int), (1 : Int)] : List Int).map qaC).flatten) <| aC (by kernel_rfl : [(T.int .u32 (3 : Int)), (T.int .u32 (1 : Int))] = (([(3 : Int), (1 : Int)] : List Int).map qaC).flatten) <| aC (qbJ _ _ _ (by simp) : ((([(2 : Int), (1 : Int)] : List Int).map qaC).drop 0).take 2 = ([(2 : Int), (1 : Int)] : List Int).map qaC) <| aC (rfl : (max 0 (0 + 2)) = (max 0 (0 + 2))) <| aC (qbJ _ _ _ (by simp) : ((([(3 : Int), (1 : Int)] : List Int).map qaC).drop 0).take 2 = ([(3 : Int), (1 : Int)] : List Int).map qaC) <| aC (rfl : (max 0 (0 + 2)) = (max 0 (0 + 2))) <| aC (by kernel_rfl : [(T.sl 1 (([(2 : Int), (1 : Int)] : List Int).map qaC)), (T.sl 1 (([(3 : Int), (1 : Int)] : List Int).map qaC))] = (([([(2 : Int), (1 : Int)] : List Int), ([(3 : Int), (1 : Int)] : List Int)] : List (List Int)).map qaF).flatten) <| aC (qbJ _ _ _ (by simp) : ((([([(2 : Int), (1 : Int)] : List Int), ([(3 : Int), (1 : Int)] : List Int)] : List (List Int)).map qaF).drop 0).take 2 = ([([(2 : Int), (1 : Int)] : List Int), ([(3 : Int), (1 : Int)] : List Int)] : List (List Int)).map qaF) <| aC (rfl : (max 0 (0 + 2)) = (max 0 (0 + 2))) <| aC (qcG h4) <| aC h5 <| aC h5 <| aC (qaX x3.1 qaD) <| aC h5 <| aC h5 <| aC h6 <| aC h6 <| aC (qa1 h8) <| aC (qbS qaD h8) <| aC h6 <| aC h6 <| aC (by kernel_rfl : [(T.int .i64 (7 : Int)), (T.int .i64 (1 : Int))] = (([(7 : Int), (1 : Int)] : List Int).map qd4).flatten) <| aC h6 <| aC (qeM h10) <| aC h6 <| aC (qjX h12) <| aC h6 <| aC h13 <| aC h13 <| aC h13 <| aC h13 <| aC h13 <| aC h13 <| aC h13 <| aN)
  ·have h := oinj h; subst h
   exact wkR [rg1, rgG [opI (.lit (([(1 : Int), (0 : Int), (1 : Int)] : List Int).map qd4)), .snap 4 (max 0 (0 + 3)) (([(1 : Int), (0 : Int), (1 : Int)] : List Int).map qd4), opI (.call [[1]] [(TV.c (T.sl 1 (([(1 : Int), (0 : Int), (1 : Int)] : List Int).map qd4)))] (tl 2 x1 qaA)), opI (.lit (([(2 : Int), (1 : Int)] : List Int).map qaC)), opI (.lit (([(3 : Int), (1 : Int)] : List Int).map qaC)), .snap 6 (max 0 (0 + 2)) (([(2 : Int), (1 : Int)] : List Int).map qaC), .snap 7 (max 0 (0 + 2)) (([(3 : Int), (1 : Int)] : List Int).map qaC), opI (.lit (([([(2 : Int), (1 : Int)] : List Int), ([(3 : Int), (1 : Int)] : List Int)] : List (List Int)).map qaF)), .snap 8 (max 0 (0 + 2)) (([([(2 : Int), (1 : Int)] : List Int), ([(3 : Int), (1 : Int)] : List Int)] : List (List Int)).map qaF), opI (.call [[2], [1], [0], [0]] [(tl 2 x1 qaA), (TV.c (T.sl 1 (([([(2 : Int), (1 : Int)] : List Int), ([(3 : Int), (1 : Int)] : List Int)] : List (List Int)).map qaF))), (TV.c (T.int .u32 (5 : Int))), (TV.c (T.int .i64 (2 : Int)))] (TV.tup [(false, [(T.sl 1 (x3.1.map qaD))]), (false, [(T.int .i64 x3.2)])])), oo, oo, oo, oo, oo], .draw [.p, .p, .p, (.ga true .p), (.ga true (.ln (x3.1.length : Int))), (.ga true .p), (.pk true), .p, (.ga false .p), (.ga false .p), (.ga false .p), (.ga false .p), (.ga false .p), (.ga false .p), (.pk false), .p, .p, .p, .p, .p, .p, .p, .p, .p] []] hn (aC (by kernel_rfl : [(T.int .i64 (1 : Int)), (T.int .i64 (0 : Int)), (T.int .i64 (1 : Int))] = (([(1 : Int), (0 : Int), (1 : Int)] : List Int).map qd4).flatten) <| aC (qbJ _ _ _ (by simp) : ((([(1 : Int), (0 : Int), (1 : Int)] : List Int).map qd4).drop 0).take 3 = ([(1 : Int), (0 : Int), (1 : Int)] : List Int).map qd4) <| aC (rfl : (max 0 (0 + 3)) = (max 0 (0 + 3))) <| aC (qeM h2) <| aC (by kernel_rfl : [(T.int .u32 (2 : Int)), (T.int .u32 (1 : Int))] = (([(2 : Int), (1 : Int)] : List Int).map qaC).flatten) <| aC (by kernel_rfl : [(T.int .u32 (3 : Int)), (T.int .u32 (1 : Int))] = (([(3 : Int), (1 : Int)] : List Int).map qaC).flatten) <| aC (qbJ _ _ _ (by simp) : ((([(2 : Int), (1 : Int)] : List Int).map qaC).drop 0).take 2 = ([(2 : Int), (1 : Int)] : List Int).map qaC) <| aC (rfl : (max 0 (0 + 2)) = (max 0 (0 + 2))) <| aC (qbJ _ _ _ (by simp) : ((([(3 : Int), (1 : Int)] : List Int).map qaC).drop 0).take 2 = ([(3 : Int), (1 : Int)] : List Int).map qaC) <| aC (rfl : (max 0 (0 + 2)) = (max 0 (0 + 2))) <| aC (by kernel_rfl : [(T.sl 1 (([(2 : Int), (1 : Int)] : List Int).map qaC)), (T.sl 1 (([(3 : Int), (1 : Int)] : List Int).map qaC))] = (([([(2 : Int), (1 : Int)] : List Int), ([(3 : Int), (1 : Int)] : List Int)] : List (List Int)).map qaF).flatten) <| aC (qbJ _ _ _ (by simp) : ((([([(2 : Int), (1 : Int)] : List Int), ([(3 : Int), (1 : Int)] : List Int)] : List (List Int)).map qaF).drop 0).take 2 = ([([(2 : Int), (1 : Int)] : List Int), ([(3 : Int), (1 : Int)] : List Int)] : List (List Int)).map qaF) <| aC (rfl : (max 0 (0 + 2)) = (max 0 (0 + 2))) <| aC (qcG h4) <| aC h5 <| aC h5 <| aC (qaX x3.1 qaD) <| aC h5 <| aC h5 <| aC h6 <| aC h6 <| aC h6 <| aC h6 <| aC h6 <| aC h6 <| aC h6 <| aN)
 ·have h := oinj h; subst h
  exact wkR [rg1, rgG [opI (.lit (([(1 : Int), (0 : Int), (1 : Int)] : List Int).map qd4)), .snap 4 (max 0 (0 + 3)) (([(1 : Int), (0 : Int), (1 : Int)] : List Int).map qd4), opI (.call [[1]] [(TV.c (T.sl 1 (([(1 : Int), (0 : Int), (1 : Int)] : List Int).map qd4)))] (tl 2 x1 qaA)), opI (.lit (([(2 : Int), (1 : Int)] : List Int).map qaC)), opI (.lit (([(3 : Int), (1 : Int)] : List Int).map qaC)), .snap 6 (max 0 (0 + 2)) (([(2 : Int), (1 : Int)] : List Int).map qaC), .snap 7 (max 0 (0 + 2)) (([(3 : Int), (1 : Int)] : List Int).map qaC), opI (.lit (([([(2 : Int), (1 : Int)] : List Int), ([(3 : Int), (1 : Int)] : List Int)] : List (List Int)).map qaF)), .snap 8 (max 0 (0 + 2)) (([([(2 : Int), (1 : Int)] : List Int), ([(3 : Int), (1 : Int)] : List Int)] : List (List Int)).map qaF), opI (.call [[2], [1], [0], [0]] [(tl 2 x1 qaA), (TV.c (T.sl 1 (([([(2 : Int), (1 : Int)] : List Int), ([(3 : Int), (1 : Int)] : List Int)] : List (List Int)).map qaF))), (TV.c (T.int .u32 (5 : Int))), (TV.c (T.int .i64 (2 : Int)))] (TV.tup [(false, [(T.sl 1 (x3.1.map qaD))]), (false, [(T.int .i64 x3.2)])])), oo, oo, oo, oo, oo], .draw [.p, .p, .p, (.ga false .p), (.ga false .p), (.ga false .p), (.pk false), .p, .p, .p, .p, .p, .p, .p, .p, .p, .p, .p, .p, .p, .p, .p, .p, .p] []] hn (aC (by kernel_rfl : [(T.int .i64 (1 : Int)), (T.int .i64 (0 : Int)), (T.int .i64 (1 : Int))] = (([(1 : Int), (0 : Int), (1 : Int)] : List Int).map qd4).flatten) <| aC (qbJ _ _ _ (by simp) : ((([(1 : Int), (0 : Int), (1 : Int)] : List Int).map qd4).drop 0).take 3 = ([(1 : Int), (0 : Int), (1 : Int)] : List Int).map qd4) <| aC (rfl : (max 0 (0 + 3)) = (max 0 (0 + 3))) <| aC (qeM h2) <| aC (by kernel_rfl : [(T.int .u32 (2 : Int)), (T.int .u32 (1 : Int))] = (([(2 : Int), (1 : Int)] : List Int).map qaC).flatten) <| aC (by kernel_rfl : [(T.int .u32 (3 : Int)), (T.int .u32 (1 : Int))] = (([(3 : Int), (1 : Int)] : List Int).map qaC).flatten) <| aC (qbJ _ _ _ (by simp) : ((([(2 : Int), (1 : Int)] : List Int).map qaC).drop 0).take 2 = ([(2 : Int), (1 : Int)] : List Int).map qaC) <| aC (rfl : (max 0 (0 + 2)) = (max 0 (0 + 2))) <| aC (qbJ _ _ _ (by simp) : ((([(3 : Int), (1 : Int)] : List Int).map qaC).drop 0).take 2 = ([(3 : Int), (1 : Int)] : List Int).map qaC) <| aC (rfl : (max 0 (0 + 2)) = (max 0 (0 + 2))) <| aC (by kernel_rfl : [(T.sl 1 (([(2 : Int), (1 : Int)] : List Int).map qaC)), (T.sl 1 (([(3 : Int), (1 : Int)] : List Int).map qaC))] = (([([(2 : Int), (1 : Int)] : List Int), ([(3 : Int), (1 : Int)] : List Int)] : List (List Int)).map qaF).flatten) <| aC (qbJ _ _ _ (by simp) : ((([([(2 : Int), (1 : Int)] : List Int), ([(3 : Int), (1 : Int)] : List Int)] : List (List Int)).map qaF).drop 0).take 2 = ([([(2 : Int), (1 : Int)] : List Int), ([(3 : Int), (1 : Int)] : List Int)] : List (List Int)).map qaF) <| aC (rfl : (max 0 (0 + 2)) = (max 0 (0 + 2))) <| aC (qcG h4) <| aC h5 <| aC h5 <| aC h5 <| aC h5 <| aN)
theorem quZ : ∀ K : Nat, qx3 K
 | 0, c, r, h => by rw [qiJ] at h; cases h
 | K + 1, .c0, r, h => fun cx hn => q5E (quZ K) hn h
theorem qaW {K : Nat}  {r : Bool} (h : qi9 K  = some r) : qc5 prog 43 [] (TV.c (T.bool r)) :=
 qa0 [[0]] (by kernel_rfl) (by simp) fun cx hn => quZ K .c0 r h cx hn
theorem zu7 (K : Nat) : qi9 (K + 100) = some true := by kernel_rfl
open Go.Proofs.Try (prog)
inductive ql3 where
 | c0 (b : qaB) (p : Int)
 | c1 (most : qaB) (base : qaB) (power : qaB) (k : Int)
def qc6 : Nat → ql3 → Option (Int × Int)
 | 0, _ => none
 | K + 1, .c0 b p =>
  bif (decide (p < (2 : Int))) then
   some ((0 : Int), (1 : Int))
  else
   (qhA K b).bind fun x2 =>
   (q05 K x2 (1 : Int)).bind fun x4 =>
   (qiA K (wI6 p)).bind fun x6 =>
   qc6 K (.c1 x4 x6 x6 (1 : Int))
 | K + 1, .c1 most base power k =>
  (qg9 K power most).bind fun x1 =>
  bif (decide (x1 ≤ (0 : Int))) then
   (qf0 K power base).bind fun x4 =>
   qc6 K (.c1 most base x4 (wI6 (k + (1 : Int))))
  else
   some (k, (0 : Int))
def qgR (K : Nat) (b : qaB) (p : Int) : Option (Int × Int) := qc6 K (.c0 b p)
noncomputable def qpJ : Code := qbQ prog 52
noncomputable def q73 : ql3 → List Fr
 | .c0 .. => [.code qpJ]
 | .c1 .. => [.code (.loop (atC qpJ [1,1,1,1,1,1,0,0,0])), .blk 0, .code (atC qpJ [1,1,1,1,1,1,1])]
def zbA : ql3 → St
 | .c0 b p => St.init [(TV.agg (qaA b)), (ti .u32 p)]
 | .c1 most base power k => ⟨[(6, .c (C.ptr 6 0)), (7, .c (C.ptr 7 0)), (8, .c (C.ptr 8 0)), (9, vi .i64 k)], [(6, .var ((qaA most).map C.t)), (7, .var ((qaA base).map C.t)), (8, .var ((qaA power).map C.t))], []⟩
def qt0 (cx : Cx) (c : ql3) (r : (Int × Int)) : Prop := Wk prog cx (qc2 prog 52 [[0], [0]] (TV.tup [(false, [(T.int .i64 r.1)]), (false, [(T.int .i64 r.2)])])) (q73 c) .normal (zbA c)
abbrev qt1 (K : Nat) : Prop := ∀ c r, qc6 K c = some r → ∀ cx : Cx, cx.n = 29 → qt0 cx c r
theorem zbC {K} (ih : qt1 K) {cx} (hn : cx.n = 29) {b p} {r} (h : qc6 (K + 1) (.c0 b p) = some r) : qt0 cx (.c0 b p) r := by
 rw [qc6] at h
 rcases qaQ h with ⟨h1, h⟩ | ⟨h1, h⟩
 ·have h := oinj h; subst h
  exact wkR [rg3, rg2, bTr, rg2] hn (aC h1 <| aN)
 ·obtain ⟨x2, h3, h⟩ := qaH h
  obtain ⟨x4, h5, h⟩ := qaH h
  obtain ⟨x6, h7, h⟩ := qaH h
  exact wkG [rg3, rg2, bFa, rgG [oo, opI (.call [[0,1]] [(TV.agg (qaA b))] (TV.agg (qaA x2))), opI (.call [[0,1], [0]] [(TV.agg (qaA x2)), (TV.c (T.int .i64 (1 : Int)))] (TV.agg (qaA x4))), oo, oo], rgG [oo, oo, opI (.call [[0]] [(TV.c (T.int .i64 (wI6 p)))] (TV.agg (qaA x6))), oo, oo], rg3, rg1, .pre [.keep [6,7,8,9] [6,7,8]]] hn (aC h1 <| aC (qdW h3) <| aC (zc9 h5) <| aC (qd8 h7) <| aN) (ih _ _ h cx hn)
theorem zbB {K} (ih : qt1 K) {cx} (hn : cx.n = 29) {most base power k} {r} (h : qc6 (K + 1) (.c1 most base power k) = some r) : qt0 cx (.c1 most base power k) r := by
 rw [qc6] at h
 obtain ⟨x1, h2, h⟩ := qaH h
 rcases qaQ h with ⟨h3, h⟩ | ⟨h3, h⟩
 ·obtain ⟨x4, h5, h⟩ := qaH h
  exact wkG [.go, rgG [oo, oo, opI (.call [[0,1], [0,1]] [(TV.agg (qaA power)), (TV.agg (qaA most))] (ti .i64 x1)), oo], bTr, rgG [oo, oo, opI (.call [[0,1], [0,1]] [(TV.agg (qaA power)), (TV.agg (qaA base))] (TV.agg (qaA x4))), oo], rg3, .pre [.keep [6,7,8,9] [6,7,8]]] hn (aC (qdA h2) <| aC h3 <| aC (qd9 h5) <| aN) (ih _ _ h cx hn)
 ·have h := oinj h; subst h
  exact wkR [.go, rgG [oo, oo, opI (.call [[0,1], [0,1]] [(TV.agg (qaA power)), (TV.agg (qaA most))] (ti .i64 x1)), oo], bFa, rg3] hn (aC (qdA h2) <| aC h3 <| aN)
theorem qq4 : ∀ K : Nat, qt1 K
 | 0, c, r, h => by rw [qc6] at h; cases h
 | K + 1, .c0 .., r, h => fun cx hn => zbC (qq4 K) hn h
 | K + 1, .c1 .., r, h => fun cx hn => zbB (qq4 K) hn h
theorem qa7 {K : Nat} {b : qaB} {p : Int} {r : (Int × Int)} (h : qgR K b p = some r) : qc5 prog 52 [(TV.agg (qaA b)), (ti .u32 p)] (TV.tup [(false, [(T.int .i64 r.1)]), (false, [(T.int .i64 r.2)])]) :=
 qa0 [[0], [0]] (by kernel_rfl) (by simp) fun cx hn => qq4 K (.c0 b p) r h cx hn
open Go.Proofs.Try (prog)
theorem zsM {p : Int} (hp : 2 ≤ p) (n : Nat) : 2 ^ n ≤ p ^ n := zc6 (by decide) hp n
theorem zoR {m n : Nat} (h : m ≤ n) : (2 : Int) ^ m ≤ 2 ^ n := by
  have : (2 : Nat) ^ m ≤ 2 ^ n := Nat.pow_le_pow_right (by decide) h
  exact_mod_cast this
theorem zq4 (n : Nat) : (4294967296 : Int) ^ n = 2 ^ (32 * n) := by
  rw [show (4294967296 : Int) = 2 ^ 32 by decide, ← Int.pow_mul]
theorem ztT {m n : Nat} (h : m < n) : (4294967296 : Int) ^ m < 4294967296 ^ n := by
  have h1 := qq8 (show m + 1 ≤ n from h)
  have h2 := qe2 m
  rw [Int.pow_succ] at h1; omega
theorem qyS {p most : Int} (hp : 2 ≤ p ∧ p < 4294967296) (hm0 : 0 ≤ most) (hm : most < 2 ^ 321) : ∀ (m k : Nat), k + m = 330 → 1 ≤ k → (k = 1 ∨ p ^ (k - 1) ≤ most) →
    ∃ n : Nat, Ev (fun K => qc6 K (.c1 (mkI most) (mkI p) (mkI (p ^ k)) k)) ((n : Int), 0) ∧ 1 ≤ n ∧ n ≤ 330 ∧ most < p ^ n ∧ (n = 1 ∨ p ^ (n - 1) ≤ most)
  | m, k, hk, h1, h2 => by
    have hkk : k ≤ 322 := by
      apply Classical.byContradiction; intro hne
      have h3 : p ^ (k - 1) ≤ most := by omega
      have h4 := zsM hp.1 (k - 1)
      have h5 := zoR (show 321 ≤ k - 1 by omega)
      omega
    have hpk0 : 0 ≤ p ^ k := Int.pow_nonneg (by omega)
    have hpk : p ^ k < 4294967296 ^ (k + 1) := by
      have h1 : p ^ k ≤ 4294967296 ^ k := zc6 (by omega) (by omega) k
      have h2 := qe2 k
      rw [Int.pow_succ]; omega
    have l1 := qxF hpk0 hpk
    have l2 : (mkI most).Abs.length ≤ 11 := qxF hm0 (Int.lt_of_lt_of_le hm (by rw [zq4]; exact zoR (by decide)))
    have l3 : (mkI p).Abs.length ≤ 1 := qxF (by omega) (by omega)
    have hc := qfX (p ^ k) most
    have hcmp := qkA (qfZ (p ^ k)) (qfZ most) (by omega) (by omega)
    rw [qa2, qa2] at hcmp
    by_cases h : p ^ k ≤ most
    · match m, hk with
      | 0, hk => omega
      | m + 1, hk =>
        obtain ⟨n, g1, g2, g3, g4, g5⟩ := qyS hp hm0 hm m (k + 1) (by omega) (by omega) (.inr (by rw [Nat.add_sub_cancel]; exact h))
        refine ⟨n, ?_, g2, g3, g4, g5⟩
        refine qaJ ?_
        simp only [qc6]
        refine qaG hcmp (ev_t (by simp; omega) ?_)
        have hmul := qfQ (qfZ (p ^ k)) (qfZ p) (by omega)
        rw [qa2, qa2, ← Int.pow_succ] at hmul
        rw [qbR (by omega), show (k : Int) + 1 = ((k + 1 : Nat) : Int) by omega]
        exact qaG hmul g1
    · refine ⟨k, ?_, h1, by omega, by omega, h2⟩
      refine qaJ ?_
      simp only [qc6]
      exact qaG hcmp (ev_f (by simp; omega) (qaT _))
termination_by m => m
theorem qyT {b : qaB} {p : Int} (hb : Dig b.Abs) (hl : b.Abs.length ≤ 10) (hp : 2 ≤ p ∧ p < 4294967296) :
    ∃ n : Nat, Ev (fun K => qgR K b p) ((n : Int), 0) ∧ 1 ≤ n ∧ n ≤ 330 ∧ 2 * ((ival b).natAbs : Int) < p ^ n ∧ (n = 1 ∨ p ^ (n - 1) ≤ 2 * ((ival b).natAbs : Int)) := by
  have hv := qlD hb
  have hB : (4294967296 : Int) ^ b.Abs.length ≤ 4294967296 ^ 10 := qq8 hl
  have h10 : (4294967296 : Int) ^ 10 = 2 ^ 320 := zq4 10
  have h11 : (2 : Int) ^ 321 = 2 ^ 320 * 2 := Int.pow_succ 2 320
  have hva := qvC b hb
  obtain ⟨n, g1, g2, g3, g4, g5⟩ := qyS (most := 2 * ((ival b).natAbs : Int)) hp (by omega) (by omega) 329 1 rfl (Nat.le_refl _) (.inl rfl)
  refine ⟨n, ?_, g2, g3, g4, g5⟩
  refine qaJ ?_
  simp only [qgR, qc6]
  rw [qbR (x := p) (by omega)]
  have hl1 : (mkI ((ival b).natAbs : Int)).Abs.length ≤ 10 := qxF (by omega) (by omega)
  have hs := zl2 (qfZ ((ival b).natAbs : Int)) (n := 1) (by decide) (by omega)
  rw [qa2] at hs
  rw [show ((ival b).natAbs : Int) * 2 ^ 1 = 2 * ((ival b).natAbs : Int) by omega] at hs
  have ep : p ^ (1 : Nat) = p := by rw [Int.pow_succ, Int.pow_zero, Int.one_mul]
  rw [ep] at g1
  exact ev_f (by simp; omega) (qaG (qkB hb (by omega)) (qaG hs (qaG (qf9 (by omega)) g1)))
theorem zwE : Ev (fun K => qi9 K) true := ⟨100, fun K hK => by
  obtain ⟨k, rfl⟩ : ∃ k, K = k + 100 := ⟨K - 100, by omega⟩
  exact zu7 k⟩
open Go.Proofs.Try (prog)
open Go.Proofs.Try (prog)
open Go.Proofs.Try (prog)
def redL (m : Int) (l : List Int) : List Int := tz (l.map fun x => sym x m)
theorem zuH (m : Int) : sym 0 m = 0 := by
  unfold sym; rw [Int.zero_emod, if_neg (by omega)]
theorem zjX (m : Int) (l : List Int) : co (redL m l) = fun k => sym (co l k) m := by
  unfold redL
  rw [q0I]
  funext k
  simp only [co, List.getD_eq_getElem?_getD, List.getElem?_map]
  cases l[k]? <;> simp [zuH]
theorem zgZ (m : Int) (l : List Int) : Cong m (co (redL m l)) (co l) := fun k => by rw [zjX]; exact znD _ _
theorem q4L {m : Int} {l l' : List Int} (h : Cong m (co l) (co l')) : redL m l = redL m l' := by
  unfold redL
  refine q8W _ _ ?_
  have h1 := zjX m l
  have h2 := zjX m l'
  unfold redL at h1 h2
  rw [q0I] at h1 h2
  rw [h1, h2]
  funext k
  exact zoA (h k)
theorem zsI (m : Int) (l : List Int) : tz (redL m l) = redL m l := zn6 _
theorem qm9 (m : Int) (l : List Int) : (redL m l).length ≤ l.length := by
  have := qrA (l.map fun x => sym x m); rw [List.length_map] at this; exact this
theorem zpJ {m : Int} {n : Nat} {l : List Int} (h0 : m ≠ 0) (hm : (m.natAbs : Int) < 4294967296 ^ n) : Bd n (redL m l) := by
  intro x hx
  obtain ⟨y, _, rfl⟩ := List.mem_map.1 (q5Q hx)
  have := q61 (x := y) h0
  omega
theorem q2D {f : List qaB} {m : qaB} (hf : Ws f) (hm : Sm m) (h0 : ival m ≠ 0) (l : List Int) (hl : l = (pv f).map fun x => sym x (ival m)) (hs : f.length < 4398046511104) : ∀ (k i : Nat), i + k = f.length →
    Ev (fun K => qd0 K (.c1 m ((mkP l).take i ++ List.replicate (f.length - i) (⟨false, []⟩ : qaB)) f f.length i)) (mkP (redL (ival m) (pv f)), 0)
  | 0, i, hi => by
    have hll : f.length = (mkP l).length := by rw [qc1, hl, List.length_map, qf8]
    refine qaJ ?_
    simp only [qd0]
    refine ev_f (by simp; omega) ?_
    rw [qsX hll (by omega)]
    have hw : Wf (mkP l) := by
      intro a ha
      obtain ⟨x, hx, rfl⟩ := List.mem_map.1 ha
      rw [hl] at hx
      obtain ⟨y, _, rfl⟩ := List.mem_map.1 hx
      have := zgX hm (q61 (x := y) h0)
      exact ⟨this.1, by have := this.2; omega⟩
    have := qzB hw (by omega)
    rw [qiI, hl] at this
    exact qaG (by rw [hl]; exact this) (qaT _)
  | k + 1, i, hi => by
    have hll : f.length = (mkP l).length := by rw [qc1, hl, List.length_map, qf8]
    refine qaJ ?_
    simp only [qd0]
    have hif : i < f.length := by omega
    have hx : l[i]? = some (sym (ival f[i]) (ival m)) := by
      rw [hl]; simp [pv, List.getElem?_eq_getElem hif]
    refine ev_t (by simp; omega) (qa3 (qbN hif) (qaG (qn8 (hf _ (List.getElem_mem hif)) hm h0) (qa3 (qxV hll hif) ?_)))
    rw [Int.toNat_natCast, qsW hll (qsH hx), qbR (by omega), show (i : Int) + 1 = ((i + 1 : Nat) : Int) by omega]
    exact q2D hf hm h0 l hl hs k (i + 1) (by omega)
theorem qmE {f : List qaB} {m : qaB} (hf : Ws f) (hm : Sm m) (h0 : ival m ≠ 0) (hs : f.length < 4398046511104) : Ev (fun K => qb5 K f m) (mkP (redL (ival m) (pv f)), 0) := by
  refine qaJ ?_
  simp only [qb5, qd0]
  have hc := qfX (ival m) 0
  refine qaG (qn6 hm.1 (by have := hm.2; omega)) (ev_f (by simp; omega) (qeZ (by omega) ?_))
  have := q2D hf hm h0 _ rfl hs _ 0 (Nat.zero_add _)
  rw [Int.toNat_natCast]
  simpa using this
def qv4 (m : Int) (o : List Int) (fs : List (List Int)) : List Int := fs.foldl (fun o F => redL m (mulL o F)) o
theorem zoO (m : Int) : ∀ (fs : List (List Int)) (o : List Int), (∃ l, o = redL m l) → ∃ l, qv4 m o fs = redL m l
  | [], _, h => h
  | _ :: fs, _, _ => zoO m fs _ ⟨_, rfl⟩
theorem qv9 (F G : List Int) : (mulL F G).length = F.length + G.length := by simp [mulL]
theorem zsS (F G : List Int) : (tz (mulL F G)).length ≤ F.length + G.length := by
  have := qrA (mulL F G); rw [qv9] at this; exact this
theorem qz6 {m : qaB} (hm : Sm m) (h0 : ival m ≠ 0) {n : Nat} (hn : ((ival m).natAbs : Int) < 4294967296 ^ n) (hn2 : n ≤ 100000) (fs : List (List qaB)) (hfs : ∀ f ∈ fs, Ws f ∧ Bd 100000 (pv f) ∧ f.length ≤ 1000) (hl : fs.length ≤ 10000) :
    ∀ (k i : Nat) (O : List Int), i + k = fs.length → Bd n O → O.length ≤ 1 + 1000 * i → Ev (fun K => qbP K (.c1 m (mkP O) 0 fs fs.length i)) (mkP (qv4 (ival m) O ((fs.drop i).map pv)), 0)
  | 0, i, O, hi, hO, hOl => by
    refine qaJ ?_
    simp only [qbP]
    refine ev_f (by simp; omega) (qeW (qaT _) ?_)
    rw [List.drop_of_length_le (by omega)]; rfl
  | k + 1, i, O, hi, hO, hOl => by
    refine qaJ ?_
    simp only [qbP]
    have hif : i < fs.length := by omega
    obtain ⟨hw, hb, hfl⟩ := hfs _ (List.getElem_mem hif)
    have hOw : Ws (mkP O) := qm3 (by omega) hO
    have hmul := q5N hOw hw (p := n) (q := 100000) (by rw [qiI]; exact hO) hb (by omega) (by rw [qc1]; omega) (by omega)
    rw [qiI] at hmul
    have hbm : Bd (n + 100000 + 1) (tz (mulL O (pv fs[i]))) := by
      refine zf9 fun x hx => ?_
      obtain ⟨j, _, rfl⟩ := List.mem_map.1 hx
      exact zs0 hO (zd0 hb) (by omega) j
    have hml := zsS O (pv fs[i])
    rw [qf8] at hml
    have hred := qmE (f := mkP (tz (mulL O (pv fs[i])))) (qm3 (by omega) hbm) hm h0 (by rw [qc1]; omega)
    rw [qiI, q4L (l' := mulL O (pv fs[i])) (by rw [q0I]; exact Cong.refl _ _)] at hred
    refine ev_t (by simp; omega) (qa3 (qbN hif) (ev_t rfl (qaG hmul (qaG hred ?_))))
    refine qaJ ?_
    simp only [qbP]
    rw [qbR (by omega), show (i : Int) + 1 = ((i + 1 : Nat) : Int) by omega]
    have hl2 : (redL (ival m) (mulL O (pv fs[i]))).length ≤ O.length + fs[i].length := by
      have := qm9 (ival m) (mulL O (pv fs[i]))
      rw [qv9, qf8] at this; exact this
    have := qz6 hm h0 hn hn2 fs hfs hl k (i + 1) (redL (ival m) (mulL O (pv fs[i]))) (by omega) (zpJ h0 hn) (by omega)
    rw [List.drop_eq_getElem_cons hif]
    exact this
theorem zdH {m : qaB} (hm : Sm m) (h0 : ival m ≠ 0) {n : Nat} (hn : ((ival m).natAbs : Int) < 4294967296 ^ n) (hn2 : n ≤ 100000) (fs : List (List qaB)) (hfs : ∀ f ∈ fs, Ws f ∧ Bd 100000 (pv f) ∧ f.length ≤ 1000) (hl : fs.length ≤ 10000) :
    Ev (fun K => qeT K fs m) (mkP (qv4 (ival m) (redL (ival m) [1]) (fs.map pv)), 0) := by
  refine qaJ ?_
  simp only [qeT, qbP]
  have hof := qv3 [1] (by simp) (by decide)
  rw [show tz [1] = [1] from rfl] at hof
  have hb1 : Bd 1 [1] := fun x hx => by simp at hx; subst hx; decide
  have hred := qmE (f := mkP [1]) (qm3 (by decide) hb1) hm h0 (by decide)
  rw [qiI] at hred
  have h1 := qm9 (ival m) [1]
  have := qz6 hm h0 hn hn2 fs hfs hl _ 0 (redL (ival m) [1]) (Nat.zero_add _) (zpJ h0 hn) (by simpa using h1)
  rw [List.drop_zero] at this
  exact qaG hof (qaG hred this)
inductive Pr : Int → Prop where
  | p2 : Pr 2
  | p3 : Pr 3
  | p5 : Pr 5
  | p7 : Pr 7
  | p11 : Pr 11
  | p13 : Pr 13
theorem Pr.range {p : Int} (h : Pr p) : 2 ≤ p ∧ p ≤ 13 := by cases h <;> decide
theorem qtY {p : Int} (h : Pr p) : Ev (fun K => qhU K p) true := by
  have key : ∀ K, qhU (K + 200) p = some true := by
    intro K
    cases h
    · kernel_rfl
    · kernel_rfl
    · kernel_rfl
    · kernel_rfl
    · kernel_rfl
    · kernel_rfl
  exact ⟨200, fun K hK => by
    obtain ⟨k, rfl⟩ : ∃ k, K = k + 200 := ⟨K - 200, by omega⟩
    exact key k⟩
theorem qhZ {a p i : Int} (h : ∀ K, qb0 (K + 30) a p = some (i, 0)) : Ev (fun K => qb0 K a p) (i, 0) := ⟨30, fun K hK => by
  obtain ⟨k, rfl⟩ : ∃ k, K = k + 30 := ⟨K - 30, by omega⟩
  exact h k⟩
theorem inv_2 {a : Int} (h : 0 < a ∧ a < 2) : ∃ i, Ev (fun K => qb0 K a 2) (i, 0) ∧ 0 ≤ i ∧ i < 2 ∧ a * i % 2 = 1 := by
  have : a = 1 := by omega
  subst this
  exact ⟨1, qhZ fun K => by kernel_rfl, by decide⟩
theorem inv_3 {a : Int} (h : 0 < a ∧ a < 3) : ∃ i, Ev (fun K => qb0 K a 3) (i, 0) ∧ 0 ≤ i ∧ i < 3 ∧ a * i % 3 = 1 := by
  have : a = 1 ∨ a = 2 := by omega
  rcases this with rfl | rfl
  · exact ⟨1, qhZ fun K => by kernel_rfl, by decide⟩
  · exact ⟨2, qhZ fun K => by kernel_rfl, by decide⟩
theorem inv_5 {a : Int} (h : 0 < a ∧ a < 5) : ∃ i, Ev (fun K => qb0 K a 5) (i, 0) ∧ 0 ≤ i ∧ i < 5 ∧ a * i % 5 = 1 := by
  have : a = 1 ∨ a = 2 ∨ a = 3 ∨ a = 4 := by omega
  rcases this with rfl | rfl | rfl | rfl
  · exact ⟨1, qhZ fun K => by kernel_rfl, by decide⟩
  · exact ⟨3, qhZ fun K => by kernel_rfl, by decide⟩
  · exact ⟨2, qhZ fun K => by kernel_rfl, by decide⟩
  · exact ⟨4, qhZ fun K => by kernel_rfl, by decide⟩
theorem inv_7 {a : Int} (h : 0 < a ∧ a < 7) : ∃ i, Ev (fun K => qb0 K a 7) (i, 0) ∧ 0 ≤ i ∧ i < 7 ∧ a * i % 7 = 1 := by
  have : a = 1 ∨ a = 2 ∨ a = 3 ∨ a = 4 ∨ a = 5 ∨ a = 6 := by omega
  rcases this with rfl | rfl | rfl | rfl | rfl | rfl
  · exact ⟨1, qhZ fun K => by kernel_rfl, by decide⟩
  · exact ⟨4, qhZ fun K => by kernel_rfl, by decide⟩
  · exact ⟨5, qhZ fun K => by kernel_rfl, by decide⟩
  · exact ⟨2, qhZ fun K => by kernel_rfl, by decide⟩
  · exact ⟨3, qhZ fun K => by kernel_rfl, by decide⟩
  · exact ⟨6, qhZ fun K => by kernel_rfl, by decide⟩
theorem inv_11 {a : Int} (h : 0 < a ∧ a < 11) : ∃ i, Ev (fun K => qb0 K a 11) (i, 0) ∧ 0 ≤ i ∧ i < 11 ∧ a * i % 11 = 1 := by
  have : a = 1 ∨ a = 2 ∨ a = 3 ∨ a = 4 ∨ a = 5 ∨ a = 6 ∨ a = 7 ∨ a = 8 ∨ a = 9 ∨ a = 10 := by omega
  rcases this with rfl | rfl | rfl | rfl | rfl | rfl | rfl | rfl | rfl | rfl
  · exact ⟨1, qhZ fun K => by kernel_rfl, by decide⟩
  · exact ⟨6, qhZ fun K => by kernel_rfl, by decide⟩
  · exact ⟨4, qhZ fun K => by kernel_rfl, by decide⟩
  · exact ⟨3, qhZ fun K => by kernel_rfl, by decide⟩
  · exact ⟨9, qhZ fun K => by kernel_rfl, by decide⟩
  · exact ⟨2, qhZ fun K => by kernel_rfl, by decide⟩
  · exact ⟨8, qhZ fun K => by kernel_rfl, by decide⟩
  · exact ⟨7, qhZ fun K => by kernel_rfl, by decide⟩
  · exact ⟨5, qhZ fun K => by kernel_rfl, by decide⟩
  · exact ⟨10, qhZ fun K => by kernel_rfl, by decide⟩
theorem inv_13 {a : Int} (h : 0 < a ∧ a < 13) : ∃ i, Ev (fun K => qb0 K a 13) (i, 0) ∧ 0 ≤ i ∧ i < 13 ∧ a * i % 13 = 1 := by
  have : a = 1 ∨ a = 2 ∨ a = 3 ∨ a = 4 ∨ a = 5 ∨ a = 6 ∨ a = 7 ∨ a = 8 ∨ a = 9 ∨ a = 10 ∨ a = 11 ∨ a = 12 := by omega
  rcases this with rfl | rfl | rfl | rfl | rfl | rfl | rfl | rfl | rfl | rfl | rfl | rfl
  · exact ⟨1, qhZ fun K => by kernel_rfl, by decide⟩
  · exact ⟨7, qhZ fun K => by kernel_rfl, by decide⟩
  · exact ⟨9, qhZ fun K => by kernel_rfl, by decide⟩
  · exact ⟨10, qhZ fun K => by kernel_rfl, by decide⟩
  · exact ⟨8, qhZ fun K => by kernel_rfl, by decide⟩
  · exact ⟨11, qhZ fun K => by kernel_rfl, by decide⟩
  · exact ⟨2, qhZ fun K => by kernel_rfl, by decide⟩
  · exact ⟨5, qhZ fun K => by kernel_rfl, by decide⟩
  · exact ⟨3, qhZ fun K => by kernel_rfl, by decide⟩
  · exact ⟨4, qhZ fun K => by kernel_rfl, by decide⟩
  · exact ⟨6, qhZ fun K => by kernel_rfl, by decide⟩
  · exact ⟨12, qhZ fun K => by kernel_rfl, by decide⟩
theorem qgP {a p : Int} (hp : Pr p) (h : 0 < a ∧ a < p) : ∃ i, Ev (fun K => qb0 K a p) (i, 0) ∧ 0 ≤ i ∧ i < p ∧ a * i % p = 1 := by
  cases hp
  · exact inv_2 h
  · exact inv_3 h
  · exact inv_5 h
  · exact inv_7 h
  · exact inv_11 h
  · exact inv_13 h
theorem Pr.dvd {p a b : Int} (hp : Pr p) (h : p ∣ a * b) : p ∣ a ∨ p ∣ b := by
  have hr := hp.range
  have key : a % p = 0 ∨ b % p = 0 := by
    apply Classical.byContradiction; intro hn
    have ha := Int.emod_nonneg a (show p ≠ 0 by omega)
    have ha2 := Int.emod_lt_of_pos a (show 0 < p by omega)
    obtain ⟨i, _, _, _, hi⟩ := qgP hp (a := a % p) (by omega)
    -- b is i * a * b
    have h1 : p ∣ b * (a % p * i) := by
      obtain ⟨c, hc⟩ := h
      have h2 := Int.emod_add_mul_ediv a p
      refine ⟨i * c - b * i * (a / p), ?_⟩
      generalize a / p = q at *
      generalize a % p = r at *
      grind
    have h3 : p ∣ a % p * i - 1 := Int.dvd_of_emod_eq_zero (by rw [Int.emod_eq_emod_iff_emod_sub_eq_zero.1]; rw [hi, Int.emod_eq_of_lt (by omega) (by omega)])
    have h4 : p ∣ b := by
      have := Int.dvd_sub h1 (Int.dvd_mul_of_dvd_right (b := b) h3)
      rwa [Int.mul_sub, Int.mul_one, Int.sub_sub_self] at this
    exact hn (.inr (Int.emod_eq_zero_of_dvd h4))
  exact key.imp Int.dvd_of_emod_eq_zero Int.dvd_of_emod_eq_zero
theorem zm8 {p : Int} (h : 2 ≤ p ∧ p ≤ 13) : Ev (fun K => qlF K p) p := by
  refine qaJ ?_
  simp only [qlF, qkW]
  refine qeW (qaT _) ?_
  rw [qo9]; omega
theorem qf6 {x p : Int} (h : 2 ≤ p ∧ p ≤ 13) : 0 ≤ x % p ∧ x % p < p := ⟨Int.emod_nonneg _ (by omega), Int.emod_lt_of_pos _ (by omega)⟩
theorem q58 {a b p : Int} (h : 2 ≤ p ∧ p ≤ 13) (ha : 0 ≤ a ∧ a < 4294967296) (hb : 0 ≤ b ∧ b < 4294967296) : Ev (fun K => qw6 K a b p) ((a + b) % p) := by
  refine qaJ ?_
  simp only [qw6, qmN]
  refine qaG (zm8 h) (qeZ (by omega) (qeW (qaT _) ?_))
  have := qf6 (x := a + b) h
  have e : wU6 (wU6 a + wU6 b) = a + b := by simp only [qo9]; omega
  rw [e, Int.tmod_eq_emod_of_nonneg (by omega), q2K, Int.emod_eq_of_lt this.1 (by omega)]
theorem quI {a b p : Int} (h : 2 ≤ p ∧ p ≤ 13) (ha : 0 ≤ a ∧ a < 4294967296) (hb : 0 ≤ b ∧ b < 4294967296) : Ev (fun K => qiF K a b p) (a * b % p) := by
  refine qaJ ?_
  simp only [qiF, qmM]
  refine qaG (zm8 h) (qeZ (by omega) (qeW (qaT _) ?_))
  have := qf6 (x := a * b) h
  have hp := q64 ha hb
  have e : wU6 (wU6 a * wU6 b) = a * b := by
    rw [qo9 a, qo9 b, Int.emod_eq_of_lt ha.1 (by omega), Int.emod_eq_of_lt hb.1 (by omega), qo9]; omega
  rw [e, Int.tmod_eq_emod_of_nonneg (by omega), q2K, Int.emod_eq_of_lt this.1 (by omega)]
theorem q57 {a b p : Int} (h : 2 ≤ p ∧ p ≤ 13) (ha : 0 ≤ a ∧ a < 4294967296) (hb : 0 ≤ b ∧ b < 4294967296) : Ev (fun K => qw5 K a b p) ((a - b) % p) := by
  refine qaJ ?_
  simp only [qw5, qmL]
  refine qaG (zm8 h) (qeZ (by omega) (qeZ (by omega) (qeZ (by omega) (qeW (qaT _) ?_))))
  have h1 := qf6 (x := a) h
  have h2 := qf6 (x := b) h
  have h3 := qf6 (x := a - b) h
  have e1 : wU6 a = a := by rw [qo9]; omega
  have e2 : wU6 b = b := by rw [qo9]; omega
  rw [e1, e2, Int.tmod_eq_emod_of_nonneg ha.1, Int.tmod_eq_emod_of_nonneg hb.1]
  have e : wU6 (wU6 (a % p + p) - b % p) = a % p + p - b % p := by simp only [qo9]; omega
  rw [e, Int.tmod_eq_emod_of_nonneg (by omega), q2K]
  have e3 : (a % p + p - b % p) % p = (a - b) % p := by
    rw [show a % p + p - b % p = a % p - b % p + p by omega, Int.add_emod_right, ← Int.sub_emod]
  rw [e3, Int.emod_eq_of_lt h3.1 (by omega)]
theorem qg6 {a : qaB} {p : Int} (h : 2 ≤ p ∧ p ≤ 13) (ha : Sm a) : Ev (fun K => qdQ K a p) (ival a % p) := by
  refine qaJ ?_
  simp only [qdQ, qi0]
  have hs := ha.2
  rw [show max p 1 = p by omega]
  refine qaG (qw1 ha.1 (by omega) (by omega)) ?_
  simp only
  have hv := qbE ha.1
  have h1 := qf6 (x := val a.Abs) h
  unfold ival
  cases a.Neg
  · exact ev_f rfl (qaT _)
  · refine ev_t rfl ?_
    simp only [cond_true]
    have h2 := qf6 (x := -val a.Abs) h
    have h3 := Int.emod_add_mul_ediv (val a.Abs) p
    by_cases h0 : 0 < val a.Abs % p
    · refine ev_t (by simpa using h0) (qeW (qaT _) ?_)
      have h5 : -val a.Abs = (p - val a.Abs % p) + p * (-(val a.Abs / p) - 1) := by
        generalize val a.Abs / p = q at *
        generalize val a.Abs % p = r at *
        grind
      have h6 : -val a.Abs % p = p - val a.Abs % p := by
        have h7 := congrArg (· % p) h5
        simp only [Int.add_mul_emod_self_left] at h7
        rw [h7, Int.emod_eq_of_lt (by omega) (by omega)]
      rw [h6, q2K, Int.emod_eq_of_lt (by omega) (by omega)]
    · refine ev_f (by simpa using h0) (qeW (qaT _) ?_)
      have h4 : val a.Abs % p = 0 := by omega
      rw [h4, Int.emod_eq_zero_of_dvd (Int.dvd_neg.2 (Int.dvd_of_emod_eq_zero h4))]
theorem q4V {a p : Int} (h : 2 ≤ p ∧ p ≤ 13) (ha : 0 ≤ a ∧ a < 4294967296) : Ev (fun K => qoO K a p) (sym a p) := by
  refine qaJ ?_
  simp only [qoO, qgY]
  have e1 : wI6 p = p := qbR (by omega)
  have e2 : wI6 a = a := qbR (by omega)
  refine qaG (zm8 h) ?_
  rw [e1, e2, Int.tmod_eq_emod_of_nonneg ha.1]
  have h1 := qf6 (x := a) h
  rw [qbR (x := 2 * (a % p)) (by omega), qbR (x := a % p - p) (by omega)]
  unfold sym
  have e3 : (p.natAbs : Int) = p := by omega
  rw [e3]
  refine qeZ (by omega) ?_
  by_cases h2 : p < 2 * (a % p)
  · rw [if_pos h2]; exact ev_t (by simpa using h2) (qaT _)
  · rw [if_neg h2]; exact ev_f (by simpa using h2) (qaT _)
def modL (p : Int) (l : List Int) : List Int := tz (l.map (· % p))
def Cn (p : Int) (l : List Int) : Prop := (∀ x ∈ l, 0 ≤ x ∧ x < p) ∧ tz l = l
theorem qy9 (p : Int) (l : List Int) : co (modL p l) = fun k => co l k % p := by
  unfold modL
  rw [q0I]
  funext k
  simp only [co, List.getD_eq_getElem?_getD, List.getElem?_map]
  cases l[k]? <;> simp
theorem zoT (p : Int) (l : List Int) : Cong p (co (modL p l)) (co l) := fun k => by
  rw [qy9]
  have := Int.emod_add_mul_ediv (co l k) p
  refine ⟨-(co l k / p), ?_⟩
  show co l k % p - co l k = _
  rw [Int.mul_neg]; omega
theorem zrR {x y p : Int} (h : p ∣ x - y) : x % p = y % p := Int.emod_eq_emod_iff_emod_sub_eq_zero.2 (Int.emod_eq_zero_of_dvd h)
theorem zqS {p : Int} {l l' : List Int} (h : Cong p (co l) (co l')) : modL p l = modL p l' := by
  have h1 := qy9 p l
  have h2 := qy9 p l'
  unfold modL at *
  rw [q0I] at h1 h2
  refine q8W _ _ ?_
  rw [h1, h2]
  funext k
  exact zrR (h k)
theorem qm2 {p : Int} (hp : 0 < p) (l : List Int) : Cn p (modL p l) := ⟨fun x hx => by
  obtain ⟨y, _, rfl⟩ := List.mem_map.1 (q5Q hx)
  exact ⟨Int.emod_nonneg _ (by omega), Int.emod_lt_of_pos _ hp⟩, zn6 _⟩
theorem qkK (p : Int) (l : List Int) : (modL p l).length ≤ l.length := by
  have := qrA (l.map (· % p)); rw [List.length_map] at this; exact this
theorem q3U {p : Int} {l : List Int} (h : Cn p l) : modL p l = l := by
  have : l.map (· % p) = l := by
    conv => rhs; rw [← List.map_id l]
    exact List.map_congr_left fun x hx => Int.emod_eq_of_lt (h.1 x hx).1 (h.1 x hx).2
  unfold modL; rw [this, h.2]
theorem zwN {p : Int} {l l' : List Int} (h : Cn p l) (h' : Cn p l') (e : Cong p (co l) (co l')) : l = l' := by rw [← q3U h, ← q3U h', zqS e]
theorem ztP (p : Int) : Cn p [] := ⟨fun _ h => (nomatch h), rfl⟩
theorem qkG {p : Int} (hp : p ≤ 13) {l : List Int} (h : Cn p l) : Dig l := fun x hx => by have := h.1 x hx; omega
theorem q3J {f : List Int} {n : Nat} (hn : n ≤ f.length) : Ev (fun K => qcU K (.c2 f n)) (f.take n) := by
  refine qaJ ?_
  simp only [qcU]
  refine qeZ (by omega) ?_
  rw [Int.toNat_natCast]
  have : Ev (fun K => qfL K (f.take n)) (f.take n) := by
    refine qaJ ?_
    simp only [qfL, qc7]
    refine qeZ (by simp) (qeW (qaT _) ?_)
    rw [Int.toNat_natCast, List.take_length]
  exact qaG this (qaT _)
theorem q3K {f : List Int} (hl : f.length < 4398046511104) : ∀ {n : Nat}, n ≤ f.length → (∀ k, n ≤ k → co f k = 0) → Ev (fun K => qcU K (.c1 f n)) (tz f)
  | 0, hn, hz => by
    refine qaJ ?_
    simp only [qcU]
    have := q3J (f := f) (n := 0) (by omega)
    rw [qnX f, qzD (n := 0) (by simp) (fun k _ => hz k (by omega)) (fun h => absurd rfl h)]
    exact ev_f (by simp) this
  | n + 1, hn, hz => by
    refine qaJ ?_
    simp only [qcU]
    refine ev_t (by simp) ?_
    rw [qbR (by omega), show ((n + 1 : Nat) : Int) - 1 = (n : Int) by omega]
    refine qa3 (qbN (by omega)) ?_
    have hc : co f n = f[n]'(by omega) := qdP (by omega)
    by_cases h : f[n]'(by omega) = 0
    · refine ev_t (by simp [h]) (q3K hl (by omega) fun k hk => ?_)
      by_cases hkn : k = n
      · subst hkn; rw [hc]; exact h
      · exact hz k (by omega)
    · refine ev_f (by simp [h]) ?_
      have := q3J (f := f) (n := n + 1) hn
      rw [qnX f, qzD (n := n + 1) hn hz (fun _ => by rw [Nat.add_sub_cancel, hc]; exact h)]
      exact this
theorem qhV {f : List Int} (hl : f.length < 4398046511104) : Ev (fun K => qhW K f) (tz f) := by
  refine qaJ ?_
  simp only [qhW, qcU]
  exact q3K hl (Nat.le_refl _) (fun k hk => qdH hk)
theorem qzP {f : List Int} {p : Int} (hp : 2 ≤ p ∧ p ≤ 13) (hf : Dig f) (l : List Int) (hl : l = f.map (· % p)) (hs : f.length < 4398046511104) : ∀ (m i : Nat), i + m = f.length →
    Ev (fun K => qdV K (.c1 (l.take i ++ List.replicate (f.length - i) (0 : Int)) f p f.length i)) (tz l)
  | 0, i, hi => by
    have hll : f.length = l.length := by rw [hl]; simp
    refine qaJ ?_
    simp only [qdV]
    refine ev_f (by simp; omega) ?_
    rw [qsX hll (by omega)]
    exact qaG (qhV (by omega)) (qaT _)
  | m + 1, i, hi => by
    have hll : f.length = l.length := by rw [hl]; simp
    refine qaJ ?_
    simp only [qdV]
    have hif : i < f.length := by omega
    refine ev_t (by simp; omega) (qa3 (qbN hif) (qaG (qeW (q58 hp (qe0 hf hif) (by decide)) (by rw [Int.add_zero])) (qa3 (qxV hll hif) ?_)))
    rw [Int.toNat_natCast, qsW hll (by rw [hl]; simp [List.getElem?_eq_getElem hif]), qbR (by omega), show (i : Int) + 1 = ((i + 1 : Nat) : Int) by omega]
    exact qzP hp hf l hl hs m (i + 1) (by omega)
theorem qoU {f : List Int} {p : Int} (hp : 2 ≤ p ∧ p ≤ 13) (hf : Dig f) (hs : f.length < 4398046511104) : Ev (fun K => qeS K f p) (modL p f) := by
  refine qaJ ?_
  simp only [qeS, qdV]
  refine qeZ (by omega) ?_
  have := qzP hp hf _ rfl hs _ 0 (Nat.zero_add _)
  rw [Int.toNat_natCast]
  simp only [List.take_zero, List.nil_append, Nat.sub_zero] at this
  exact this
theorem qzN {f : List qaB} {p : Int} (hp : 2 ≤ p ∧ p ≤ 13) (hf : Ws f) (l : List Int) (hl : l = (pv f).map (· % p)) (hs : f.length < 4398046511104) : ∀ (m i : Nat), i + m = f.length →
    Ev (fun K => qdU K (.c1 (l.take i ++ List.replicate (f.length - i) (0 : Int)) p f f.length i)) (tz l)
  | 0, i, hi => by
    have hll : f.length = l.length := by rw [hl]; simp [qf8]
    refine qaJ ?_
    simp only [qdU]
    refine ev_f (by simp; omega) ?_
    rw [qsX hll (by omega)]
    exact qaG (qhV (by omega)) (qaT _)
  | m + 1, i, hi => by
    have hll : f.length = l.length := by rw [hl]; simp [qf8]
    refine qaJ ?_
    simp only [qdU]
    have hif : i < f.length := by omega
    refine ev_t (by simp; omega) (qa3 (qbN hif) (qaG (qg6 hp (hf _ (List.getElem_mem hif))) (qa3 (qxV hll hif) ?_)))
    rw [Int.toNat_natCast, qsW hll (by rw [hl]; simp [pv, List.getElem?_eq_getElem hif]), qbR (by omega), show (i : Int) + 1 = ((i + 1 : Nat) : Int) by omega]
    exact qzN hp hf l hl hs m (i + 1) (by omega)
theorem qzO {f : List qaB} {p : Int} (hp : 2 ≤ p ∧ p ≤ 13) (hf : Ws f) (hs : f.length < 4398046511104) : Ev (fun K => qhF K f p) (modL p (pv f)) := by
  refine qaJ ?_
  simp only [qhF, qdU]
  refine qeZ (by omega) ?_
  have := qzN hp hf _ rfl hs _ 0 (Nat.zero_add _)
  rw [Int.toNat_natCast]
  simp only [List.take_zero, List.nil_append, Nat.sub_zero] at this
  exact this
theorem q10 {f : List Int} {p c : Int} (hp : 2 ≤ p ∧ p ≤ 13) (hf : Dig f) (hc : 0 ≤ c ∧ c < 4294967296) (l : List Int) (hl : l = (f.map (· * c)).map (· % p)) (hs : f.length < 4398046511104) : ∀ (m i : Nat), i + m = f.length →
    Ev (fun K => qd7 K (.c1 (l.take i ++ List.replicate (f.length - i) (0 : Int)) c p f f.length i)) (tz l)
  | 0, i, hi => by
    have hll : f.length = l.length := by rw [hl]; simp
    refine qaJ ?_
    simp only [qd7]
    refine ev_f (by simp; omega) ?_
    rw [qsX hll (by omega)]
    exact qaG (qhV (by omega)) (qaT _)
  | m + 1, i, hi => by
    have hll : f.length = l.length := by rw [hl]; simp
    refine qaJ ?_
    simp only [qd7]
    have hif : i < f.length := by omega
    refine ev_t (by simp; omega) (qa3 (qbN hif) (qaG (quI hp (qe0 hf hif) hc) (qa3 (qxV hll hif) ?_)))
    rw [Int.toNat_natCast, qsW hll (by rw [hl]; simp [List.getElem?_eq_getElem hif]), qbR (by omega), show (i : Int) + 1 = ((i + 1 : Nat) : Int) by omega]
    exact q10 hp hf hc l hl hs m (i + 1) (by omega)
theorem qmC {f : List Int} {p c : Int} (hp : 2 ≤ p ∧ p ≤ 13) (hf : Dig f) (hc : 0 ≤ c ∧ c < 4294967296) (hs : f.length < 4398046511104) : Ev (fun K => qeC K f c p) (modL p (f.map (· * c))) := by
  refine qaJ ?_
  simp only [qeC, qd7]
  refine qeZ (by omega) ?_
  have := q10 hp hf hc _ rfl hs _ 0 (Nat.zero_add _)
  rw [Int.toNat_natCast]
  simp only [List.take_zero, List.nil_append, Nat.sub_zero] at this
  exact this
theorem qvY {f : List Int} {p : Int} (hp : 2 ≤ p ∧ p ≤ 13) (hf : Dig f) (l : List Int) (hl : l = f.map fun x => sym x p) (hs : f.length < 4398046511104) : ∀ (m i : Nat), i + m = f.length →
    Ev (fun K => qcZ K (.c1 ((mkP l).take i ++ List.replicate (f.length - i) (⟨false, []⟩ : qaB)) p f f.length i)) (mkP (redL p f))
  | 0, i, hi => by
    have hll : f.length = (mkP l).length := by rw [qc1, hl, List.length_map]
    refine qaJ ?_
    simp only [qcZ]
    refine ev_f (by simp; omega) ?_
    rw [qsX hll (by omega)]
    have hw : Wf (mkP l) := by
      refine zr6 (n := 1) (by decide) fun x hx => ?_
      rw [hl] at hx
      obtain ⟨y, _, rfl⟩ := List.mem_map.1 hx
      have := q61 (x := y) (m := p) (by omega)
      omega
    have := qzB hw (by omega)
    rw [qiI, hl] at this
    exact qaG (by rw [hl]; exact this) (qaT _)
  | m + 1, i, hi => by
    have hll : f.length = (mkP l).length := by rw [qc1, hl, List.length_map]
    refine qaJ ?_
    simp only [qcZ]
    have hif : i < f.length := by omega
    have hx : l[i]? = some (sym f[i] p) := by rw [hl]; simp [List.getElem?_eq_getElem hif]
    have hb := q61 (x := f[i]) (m := p) (by omega)
    refine ev_t (by simp; omega) (qa3 (qbN hif) (qaG (q4V hp (qe0 hf hif)) (qaG (qf9 (by omega)) (qa3 (qxV hll hif) ?_))))
    rw [Int.toNat_natCast, qsW hll (qsH hx), qbR (by omega), show (i : Int) + 1 = ((i + 1 : Nat) : Int) by omega]
    exact qvY hp hf l hl hs m (i + 1) (by omega)
theorem qpI {f : List Int} {p : Int} (hp : 2 ≤ p ∧ p ≤ 13) (hf : Dig f) (hs : f.length < 4398046511104) : Ev (fun K => qdJ K f p) (mkP (redL p f)) := by
  refine qaJ ?_
  simp only [qdJ, qcZ]
  refine qeZ (by omega) ?_
  have := qvY hp hf _ rfl hs _ 0 (Nat.zero_add _)
  rw [Int.toNat_natCast]
  simp only [List.take_zero, List.nil_append, Nat.sub_zero] at this
  exact this
theorem qzR {f : List Int} {p : Int} (hp : 2 ≤ p ∧ p ≤ 13) (hf : Dig f) (hs : f.length < 4398046511104) : Ev (fun K => qmQ K f p) (((modL p f).length : Int) - 1) := by
  refine qaJ ?_
  simp only [qmQ, qi2]
  have := qkK p f
  refine qaG (qoU hp hf hs) (qeW (qaT _) ?_)
  rw [qbR (by omega)]
theorem q9X {f : List Int} (i : Nat) : Ev (fun K => qzM K f i) (co f i) := by
  refine qaJ ?_
  simp only [qzM, qoR]
  by_cases h : i < f.length
  · refine ev_t (by simpa using h) (qa3 (qbN h) (qeW (qaT _) ?_))
    rw [qdP h]
  · refine ev_f (by simpa using h) (qeW (qaT _) ?_)
    rw [qdH (by omega)]
theorem zwG {f : List Int} (h : Dig f) (k : Nat) : 0 ≤ co f k ∧ co f k < 4294967296 := by
  by_cases hk : k < f.length
  · rw [qdP hk]; exact qe0 h hk
  · rw [qdH (by omega)]; decide
theorem q6C {f g : List Int} {p : Int} (hp : 2 ≤ p ∧ p ≤ 13) (hf : Dig f) (hg : Dig g) (n : Nat) (l : List Int) (hl : l = (subL n f g).map (· % p)) (hs : n < 4398046511104) : ∀ (m i : Nat), i + m = n →
    Ev (fun K => qe9 K (.c1 (l.take i ++ List.replicate (n - i) (0 : Int)) f g p n i)) (tz l)
  | 0, i, hi => by
    have hll : n = l.length := by rw [hl]; simp [subL]
    refine qaJ ?_
    simp only [qe9]
    refine ev_f (by simp; omega) ?_
    rw [qsX hll (by omega)]
    exact qaG (qhV (by omega)) (qaT _)
  | m + 1, i, hi => by
    have hll : n = l.length := by rw [hl]; simp [subL]
    refine qaJ ?_
    simp only [qe9]
    refine ev_t (by simp; omega) (qaG (q9X i) (qaG (q9X i) (qaG (q57 hp (zwG hf i) (zwG hg i)) (qa3 (qxV hll (by omega)) ?_))))
    rw [Int.toNat_natCast, qsW hll (by rw [hl]; simp [subL, List.getElem?_range (show i < n by omega)]), qbR (by omega), show (i : Int) + 1 = ((i + 1 : Nat) : Int) by omega]
    exact q6C hp hf hg n l hl hs m (i + 1) (by omega)
theorem q6D {f g : List Int} {p : Int} (hp : 2 ≤ p ∧ p ≤ 13) (hf : Dig f) (hg : Dig g) (hfl : f.length < 4398046511104) (hgl : g.length < 4398046511104) : Ev (fun K => qn3 K f g p) (modL p (subL (max f.length g.length) f g)) := by
  refine qaJ ?_
  simp only [qn3, qe9]
  rw [show max (f.length : Int) (g.length : Int) = ((max f.length g.length : Nat) : Int) by omega, Int.toNat_natCast]
  refine qeZ (by omega) ?_
  have := q6C hp hf hg (max f.length g.length) _ rfl (by omega) _ 0 (Nat.zero_add _)
  simp only [List.take_zero, List.nil_append, Nat.sub_zero] at this
  exact this
theorem qyI {f g : List Int} (hl : f.length = g.length) (hs : f.length < 4611686018427387904) : ∀ {n : Nat}, n ≤ f.length →
    ∃ r : Int, Ev (fun K => qcE K (.c1 f g ((n : Int) - 1))) r ∧ (r = 0 ↔ f.take n = g.take n)
  | 0, hn => ⟨0, by
    refine qaJ ?_
    simp only [qcE]
    exact ev_f (by simp) (qaT _), by simp⟩
  | n + 1, hn => by
    obtain ⟨r, hr, hi⟩ := qyI hl hs (n := n) (by omega)
    have htf : f.take (n + 1) = f.take n ++ [f[n]'(by omega)] := by rw [List.take_add_one, List.getElem?_eq_getElem (by omega)]; simp
    have htg : g.take (n + 1) = g.take n ++ [g[n]'(by omega)] := by rw [List.take_add_one, List.getElem?_eq_getElem (by omega)]; simp
    have hne : f[n]'(by omega) ≠ g[n]'(by omega) → f.take (n + 1) ≠ g.take (n + 1) := by
      intro h1 h2
      rw [htf, htg] at h2
      have := List.append_inj' h2 rfl
      simp at this; exact h1 this.2
    by_cases h1 : f[n]'(by omega) < g[n]'(by omega)
    · refine ⟨-1, ?_, by simp; exact hne (by omega)⟩
      refine qaJ ?_
      simp only [qcE]
      rw [show ((n + 1 : Nat) : Int) - 1 = (n : Int) by omega]
      exact ev_t (by simp) (qa3 (qbN (by omega)) (qa3 (qbN (by omega)) (ev_t (by simpa using h1) (qaT _))))
    · by_cases h2 : g[n]'(by omega) < f[n]'(by omega)
      · refine ⟨1, ?_, by simp; exact hne (by omega)⟩
        refine qaJ ?_
        simp only [qcE]
        rw [show ((n + 1 : Nat) : Int) - 1 = (n : Int) by omega]
        exact ev_t (by simp) (qa3 (qbN (by omega)) (qa3 (qbN (by omega)) (ev_f (by simpa using h1) (qa3 (qbN (by omega)) (qa3 (qbN (by omega)) (ev_t (by simpa using h2) (qaT _)))))))
      · refine ⟨r, ?_, ?_⟩
        · refine qaJ ?_
          simp only [qcE]
          rw [show ((n + 1 : Nat) : Int) - 1 = (n : Int) by omega]
          refine ev_t (by simp) (qa3 (qbN (by omega)) (qa3 (qbN (by omega)) (ev_f (by simpa using h1) (qa3 (qbN (by omega)) (qa3 (qbN (by omega)) (ev_f (by simpa using h2) ?_))))))
          rw [qbR (by omega)]; exact hr
        · rw [hi, htf, htg, show f[n]'(by omega) = g[n]'(by omega) by omega]
          exact ⟨fun h => by rw [h], fun h => (List.append_inj' h rfl).1⟩
theorem zhY {f g : List Int} {p : Int} (hp : 2 ≤ p ∧ p ≤ 13) (hf : Dig f) (hg : Dig g) (hfl : f.length < 4398046511104) (hgl : g.length < 4398046511104) : Ev (fun K => qrC K f g p) (decide (modL p f = modL p g)) := by
  have l1 := qkK p f
  have l2 := qkK p g
  suffices h : ∃ r : Int, Ev (fun K => qk1 K (modL p f) (modL p g)) r ∧ (r = 0 ↔ modL p f = modL p g) by
    obtain ⟨r, h1, h2⟩ := h
    refine qaJ ?_
    simp only [qrC, qk3]
    have : Ev (fun K => qsG K f g p) r := by
      refine qaJ ?_
      simp only [qsG, qh4]
      exact qaG (qoU hp hf hfl) (qaG (qoU hp hg hgl) (qaG h1 (qaT _)))
    refine qaG this (qeW (qaT _) ?_)
    rw [decide_eq_decide]; exact h2
  by_cases h : (modL p f).length = (modL p g).length
  · obtain ⟨r, hr, hi⟩ := qyI h (by omega) (Nat.le_refl _)
    refine ⟨r, ?_, ?_⟩
    · refine qaJ ?_
      simp only [qk1, qcE]
      refine ev_f (by simp [h]) ?_
      rw [qbR (by omega)]; exact hr
    · rw [hi, List.take_length, h, List.take_length]
  · have hne : modL p f ≠ modL p g := fun e => h (by rw [e])
    by_cases h3 : (modL p f).length < (modL p g).length
    · refine ⟨-1, ?_, by simp [hne]⟩
      refine qaJ ?_
      simp only [qk1, qcE]
      exact ev_t (by simp; omega) (ev_t (by simpa using h3) (qaT _))
    · refine ⟨1, ?_, by simp [hne]⟩
      refine qaJ ?_
      simp only [qk1, qcE]
      exact ev_t (by simp; omega) (ev_f (by simpa using h3) (qaT _))
def Rd (p : Int) (l : List Int) : Prop := ∀ x ∈ l, 0 ≤ x ∧ x < p
theorem zv0 {p x : Int} {l : List Int} (h : Rd p l) (i : Nat) (hx : 0 ≤ x ∧ x < p) : Rd p (l.set i x) := fun y hy => (List.mem_or_eq_of_mem_set hy).elim (h y) (fun e => e ▸ hx)
theorem rd_co {p : Int} (hp : 0 < p) {l : List Int} (h : Rd p l) (k : Nat) : 0 ≤ co l k ∧ co l k < p := by
  by_cases hk : k < l.length
  · rw [qdP hk]; exact h _ (List.getElem_mem hk)
  · rw [qdH (by omega)]; omega
theorem zqX {l : List Int} {i : Nat} (h : i < l.length) (x : Int) (j : Nat) : co (l.set i x) j = if j = i then x else co l j := by
  simp only [co, List.getD_eq_getElem?_getD, List.getElem?_set]
  by_cases e : j = i
  · subst e; simp [h]
  · rw [if_neg e, if_neg (fun h => e h.symm)]
theorem lm_set (q : List Int) (g : Nat → Int) : ∀ (k : Nat), k < q.length → ∀ (c : Int) (j : Nat), lm (q.set k c) g j = lm q g j + (c - co q k) * xpow k g j := by
  induction q with
  | nil => intro k h; simp at h
  | cons a q ih =>
    intro k hk c j
    cases k with
    | zero => simp only [List.set_cons_zero, lm, zp3, xpow]; simp; grind
    | succ k =>
      have := ih k (by simpa using hk) c
      simp only [List.set_cons_succ, lm, znS]
      cases j with
      | zero => simp [xm, xpow]
      | succ j =>
        simp only [xm, this, xpow, Nat.succ_le_succ_iff, Nat.add_sub_add_right]; omega
theorem q6G {f g : List Int} {p : Int} (hp : 2 ≤ p ∧ p ≤ 13) (hf : Dig f) (hg : Dig g) (hfl : f.length < 2147483648) (hgl : g.length < 2147483648) (L : Nat) (hL : L + 1 = f.length + g.length) {res : List Int} (i : Nat) (hi : i < f.length)
    (hk : Ev (fun K => qcR K (.c1 ((List.range L).map fun j => part f g (i + 1) 0 j % p) g p f f.length ((i + 1 : Nat) : Int))) res) : ∀ (m k : Nat), k + m = g.length →
      Ev (fun K => qcR K (.c2 ((List.range L).map fun j => part f g i k j % p) g p i f[i] f f.length i g g.length k)) res
  | 0, k, hkm => by
    refine qaJ ?_
    simp only [qcR]
    have : k = g.length := by omega
    subst this
    rw [qbR (x := (i : Int) + 1) (by omega), show (i : Int) + 1 = ((i + 1 : Nat) : Int) by omega]
    have e : ((List.range L).map fun j => part f g i g.length j % p) = (List.range L).map fun j => part f g (i + 1) 0 j % p := by
      refine List.map_congr_left fun j _ => ?_
      rw [zqO f g i hi, q81]
    rw [e]
    exact ev_f (by simp) hk
  | m + 1, k, hkm => by
    refine qaJ ?_
    simp only [qcR]
    have hkg : k < g.length := by omega
    have hik : i + k < L := by omega
    have hget : ((List.range L).map fun j => part f g i k j % p)[i + k]? = some (part f g i k (i + k) % p) := by simp [List.getElem?_range hik]
    have h1 := qf6 (x := part f g i k (i + k)) hp
    have h2 := qf6 (x := f[i] * g[k]) hp
    refine ev_t (by simp; omega) (qa3 (qbN hkg) ?_)
    rw [qbR (x := (i : Int) + k) (by omega), show (i : Int) + k = ((i + k : Nat) : Int) by omega]
    refine qa3 (qsV hget) (qaG (quI hp (qe0 hf hi) (qe0 hg hkg)) (qaG (q58 hp (by omega) (by omega)) (qa3 (qsV hget) ?_)))
    rw [Int.toNat_natCast, qbR (by omega), show (k : Int) + 1 = ((k + 1 : Nat) : Int) by omega]
    have hset : ((List.range L).map fun j => part f g i k j % p).set (i + k) ((part f g i k (i + k) % p + f[i] * g[k] % p) % p) = (List.range L).map fun j => part f g i (k + 1) j % p := by
      apply List.ext_getElem?
      intro j
      rw [List.getElem?_set]
      by_cases hj : i + k = j
      · subst hj
        rw [if_pos rfl, if_pos (by simp; exact hik)]
        rw [← Int.add_emod]
        simp [List.getElem?_range hik, q82, qdP hi, qdP hkg]
      · rw [if_neg hj]
        by_cases hjL : j < L
        · simp [List.getElem?_range hjL, q82, show ¬ j = i + k by omega]
        · rw [List.getElem?_eq_none (by simp; omega), List.getElem?_eq_none (by simp; omega)]
    rw [hset]
    exact q6G hp hf hg hfl hgl L hL i hi hk m (k + 1) (by omega)
theorem q6H {f g : List Int} {p : Int} (hp : 2 ≤ p ∧ p ≤ 13) (hf : Dig f) (hg : Dig g) (hfl : f.length < 2147483648) (hgl : g.length < 2147483648) (hf0 : 0 < f.length) (hg0 : 0 < g.length) (L : Nat) (hL : L + 1 = f.length + g.length) : ∀ (m i : Nat), i + m = f.length →
    Ev (fun K => qcR K (.c1 ((List.range L).map fun j => part f g i 0 j % p) g p f f.length i)) (modL p (mulL f g))
  | 0, i, hi => by
    refine qaJ ?_
    simp only [qcR]
    refine ev_f (by simp; omega) ?_
    have e : tz ((List.range L).map fun j => part f g i 0 j % p) = modL p (mulL f g) := by
      refine (q8W _ _ ?_).trans (zn6 _)
      have h1 := qy9 p (mulL f g)
      unfold modL at h1
      rw [h1, qs3]
      funext k
      by_cases h : k < L
      · rw [qdP (by simp; exact h)]
        simp [q81, List.take_of_length_le (show f.length ≤ i by omega)]
      · rw [qdH (by simp; omega)]
        rcases zsZ f g k (by omega) with h1 | h1 | h1
        · rw [h1, Int.zero_emod]
        · rw [h1] at hf0; simp at hf0
        · rw [h1] at hg0; simp at hg0
    rw [← e]
    exact qaG (qhV (by simp; omega)) (qaT _)
  | m + 1, i, hi => by
    refine qaJ ?_
    simp only [qcR]
    have hif : i < f.length := by omega
    refine ev_t (by simp; omega) (qa3 (qbN hif) ?_)
    exact q6G hp hf hg hfl hgl L hL i hif (q6H hp hf hg hfl hgl hf0 hg0 L hL m (i + 1) (by omega)) g.length 0 (Nat.zero_add _)
theorem qmO {f g : List Int} {p : Int} (hp : 2 ≤ p ∧ p ≤ 13) (hf : Dig f) (hg : Dig g) (hfl : f.length < 2147483648) (hgl : g.length < 2147483648) : Ev (fun K => qdO K f g p) (modL p (mulL f g)) := by
  refine qaJ ?_
  simp only [qdO, qcR]
  have hnil : (∀ k, lm f (co g) k = 0) → modL p (mulL f g) = [] := by
    intro h
    unfold modL
    rw [qwI]
    intro k
    have := qy9 p (mulL f g)
    unfold modL at this
    rw [← q0I, this, qs3]
    show lm f (co g) k % p = 0
    rw [h k]; exact Int.zero_emod p
  by_cases h1 : f = []
  · refine ev_t (by simp [h1]) (qeW (qaT _) ?_)
    rw [hnil fun k => by rw [h1]; rfl]
  · have p1 := List.length_pos_iff.2 h1
    refine ev_f (by simp [h1]) ?_
    by_cases h2 : g = []
    · refine ev_t (by simp [h2]) (qeW (qaT _) ?_)
      rw [hnil fun k => by rw [h2, show co [] = fun _ => 0 by funext k; simp, zc5]]
    · have p2 := List.length_pos_iff.2 h2
      refine ev_f (by simp [h2]) ?_
      rw [qbR (x := (f.length : Int) + (g.length : Int)) (by omega), qbR (by omega)]
      refine qeZ (by omega) ?_
      have := q6H hp hf hg hfl hgl p1 p2 (f.length + g.length - 1) (by omega) _ 0 (Nat.zero_add _)
      have e : ((List.range (f.length + g.length - 1)).map fun j => part f g 0 0 j % p) = List.replicate ((f.length : Int) + (g.length : Int) - 1).toNat (0 : Int) := by
        rw [show ((f.length : Int) + (g.length : Int) - 1).toNat = f.length + g.length - 1 by omega]
        apply List.ext_getElem?
        intro j
        rw [List.getElem?_replicate]
        by_cases hj : j < f.length + g.length - 1
        · simp [hj, q81, lm]
        · rw [List.getElem?_eq_none (by simp; omega), if_neg hj]
      rw [e] at this
      exact this
theorem zdY {p : Int} {l : List Int} (h : Cn p l) (hl : 0 < l.length) : 0 < co l (l.length - 1) ∧ co l (l.length - 1) < p := by
  have hlt : l.length - 1 < l.length := by omega
  rw [qdP hlt]
  have h1 := h.1 _ (List.getElem_mem hlt)
  have h2 := zpF l (l[l.length - 1]) (by rw [h.2, List.getLast?_eq_getElem?, List.getElem?_eq_getElem hlt])
  omega
theorem zjK {x p : Int} (h0 : 0 ≤ x) (h1 : x < p) (h : p ∣ x) : x = 0 := by
  rw [← Int.emod_eq_of_lt h0 h1]; exact Int.emod_eq_zero_of_dvd h
theorem qzK {g : List Int} {p : Int} (hp : 2 ≤ p ∧ p ≤ 13) (hg : Rd p g) {q : List Int} {inv c : Int} (hc : 0 ≤ c ∧ c < p) (k L : Nat) (hk : k + g.length ≤ L) (hL : L < 2147483648) {res : List Int × List Int} (r0 : List Int)
    (next : ∀ r : List Int, Rd p r → r.length = L → Cong p (co r) (fun j => co r0 j - c * xpow k (co g) j) → (∀ j, k + g.length ≤ j → co r j = co r0 j) → Ev (fun K => qbK K (.c1 r q g p inv ((k : Int) - 1))) res) :
    ∀ (m i : Nat) (r : List Int), i + m = g.length → Rd p r → r.length = L → Cong p (co r) (fun j => co r0 j - c * xpow k (co (g.take i)) j) → (∀ j, k + g.length ≤ j → co r j = co r0 j) →
      Ev (fun K => qbK K (.c2 r q g p inv k c g.length i)) res
  | 0, i, r, hi, hr, hrl, hv, hz => by
    refine qaJ ?_
    simp only [qbK]
    refine ev_f (by simp; omega) ?_
    rw [qbR (by omega)]
    rw [List.take_of_length_le (by omega)] at hv
    exact next r hr hrl hv hz
  | m + 1, i, r, hi, hr, hrl, hv, hz => by
    refine qaJ ?_
    simp only [qbK]
    have hig : i < g.length := by omega
    have hkr : k + i < r.length := by omega
    refine ev_t (by simp; omega) ?_
    rw [qbR (x := (k : Int) + i) (by omega), show (k : Int) + i = ((k + i : Nat) : Int) by omega, Int.toNat_natCast]
    have hx := hr _ (List.getElem_mem hkr)
    have hy := hg _ (List.getElem_mem hig)
    have h2 := qf6 (x := c * g[i]) hp
    refine qa3 (qbN hkr) (qa3 (qbN hig) (qaG (quI hp (by omega) (by omega)) (qaG (q57 hp (by omega) (by omega)) (qa3 (qbN hkr) ?_))))
    rw [qbR (by omega), show (i : Int) + 1 = ((i + 1 : Nat) : Int) by omega]
    refine qzK hp hg hc k L hk hL r0 next m (i + 1) _ (by omega) (zv0 hr _ (qf6 hp)) (by simpa using hrl) ?_ (fun j hj => by rw [zqX hkr, if_neg (by omega)]; exact hz j hj)
    intro j
    rw [zqX hkr]
    have hvj := hv j
    simp only at hvj ⊢
    by_cases hj : j = k + i
    · subst hj
      rw [if_pos rfl]
      have e1 : xpow k (co (g.take i)) (k + i) = 0 := by unfold xpow; rw [if_pos (by omega), zjW, if_neg (by omega)]
      have e2 : xpow k (co (g.take (i + 1))) (k + i) = g[i] := by unfold xpow; rw [if_pos (by omega), zjW, if_pos (by omega), Nat.add_sub_cancel_left, qdP hig]
      rw [e1, qdP hkr] at hvj
      rw [e2]
      obtain ⟨a, ha⟩ := hvj
      have d1 := Int.emod_add_mul_ediv (c * g[i]) p
      have d2 := Int.emod_add_mul_ediv (r[k + i] - c * g[i] % p) p
      refine ⟨a + c * g[i] / p - (r[k + i] - c * g[i] % p) / p, ?_⟩
      generalize (r[k + i] - c * g[i] % p) % p = x at *
      generalize (r[k + i] - c * g[i] % p) / p = y at *
      generalize c * g[i] % p = z at *
      generalize c * g[i] / p = w at *
      grind
    · rw [if_neg hj]
      have e : xpow k (co (g.take (i + 1))) j = xpow k (co (g.take i)) j := by
        unfold xpow
        by_cases h : k ≤ j
        · rw [if_pos h, if_pos h, zjW, zjW]
          by_cases h3 : j - k < i
          · rw [if_pos (by omega), if_pos h3]
          · rw [if_neg (by omega), if_neg h3]
        · rw [if_neg h, if_neg h]
      rw [e]; exact hvj
theorem qzL {f g : List Int} {p : Int} (hp : 2 ≤ p ∧ p ≤ 13) (hg : Cn p g) (hg0 : 0 < g.length) {inv : Int} (hinv : 0 ≤ inv ∧ inv < p) (hi1 : p ∣ co g (g.length - 1) * inv - 1) (L : Nat) (hL : L < 2147483648) (hgL : g.length ≤ L) :
    ∀ (k : Nat) (r q : List Int), k + g.length ≤ L + 1 → q.length + g.length = L + 1 → Rd p r → r.length = L → Rd p q → (∀ j, k + g.length ≤ j + 1 → co r j = 0) → (∀ j, j < k → co q j = 0) → Cong p (co f) (fun j => lm q (co g) j + co r j) →
      ∃ q' r', Ev (fun K => qbK K (.c1 r q g p inv ((k : Int) - 1))) (q', r') ∧ Cn p q' ∧ Cn p r' ∧ r'.length < g.length ∧ q'.length ≤ L ∧ Cong p (co f) (fun j => lm q' (co g) j + co r' j)
  | 0, r, q, hk, hql, hr, hrl, hq, hz, _, hv => by
    refine ⟨tz q, tz r, ?_, ⟨fun x hx => hq x (q5Q hx), zn6 _⟩, ⟨fun x hx => hr x (q5Q hx), zn6 _⟩, ?_, ?_, ?_⟩
    · refine qaJ ?_
      simp only [qbK]
      exact ev_f (by simp) (qaG (qhV (by omega)) (qaG (qhV (by omega)) (qaT _)))
    · apply Classical.byContradiction; intro hn
      have h1 := zpF r (co (tz r) ((tz r).length - 1)) (by rw [List.getLast?_eq_getElem?, List.getElem?_eq_getElem (by omega), qdP (by omega)])
      rw [q0I] at h1
      exact h1 (hz _ (by omega))
    · have := qrA q; omega
    · rw [q0I, zh4 (q0I q)]; exact hv
  | k + 1, r, q, hk, hql, hr, hrl, hq, hz, hqz, hv => by
    have hkr : k + g.length - 1 < r.length := by omega
    have hkq : k < q.length := by omega
    have hx := hr _ (List.getElem_mem hkr)
    have hc := qf6 (x := r[k + g.length - 1] * inv) hp
    -- what the row leaves
    have key : ∀ r1 : List Int, Rd p r1 → r1.length = L → Cong p (co r1) (fun j => co r j - (r[k + g.length - 1] * inv % p) * xpow k (co g) j) → (∀ j, k + g.length ≤ j → co r1 j = co r j) →
        ∃ q' r', Ev (fun K => qbK K (.c1 r1 (q.set k (r[k + g.length - 1] * inv % p)) g p inv ((k : Int) - 1))) (q', r') ∧ Cn p q' ∧ Cn p r' ∧ r'.length < g.length ∧ q'.length ≤ L ∧ Cong p (co f) (fun j => lm q' (co g) j + co r' j) := by
      intro r1 h1 h2 h3 h4
      refine qzL hp hg hg0 hinv hi1 L hL hgL k r1 _ (by omega) (by simpa using hql) h1 h2 (zv0 hq k hc) ?_ (fun j hj => by rw [zqX hkq, if_neg (by omega)]; exact hqz j (by omega)) ?_
      · intro j hj
        by_cases hj2 : k + g.length ≤ j
        · rw [h4 j hj2]; exact hz j (by omega)
        · have hje : j = k + g.length - 1 := by omega
          have h5 := h3 j
          simp only at h5
          have e1 : xpow k (co g) j = co g (g.length - 1) := by unfold xpow; rw [if_pos (by omega)]; congr 1; omega
          rw [e1, hje, qdP hkr] at h5
          have h6 := rd_co (by omega) h1 (k + g.length - 1)
          obtain ⟨a, ha⟩ := h5
          obtain ⟨b, hb⟩ := hi1
          have d1 := Int.emod_add_mul_ediv (r[k + g.length - 1] * inv) p
          have h7 : co r1 (k + g.length - 1) = p * (a + (r[k + g.length - 1] * inv / p) * co g (g.length - 1) - r[k + g.length - 1] * b) := by
            generalize co g (g.length - 1) = y at *
            generalize hxx : r[k + g.length - 1] = x at *
            generalize x * inv % p = z at *
            generalize x * inv / p = w at *
            grind
          rw [hje]
          have h8 : p ∣ co r1 (k + g.length - 1) := ⟨_, h7⟩
          exact zjK h6.1 h6.2 h8
      · intro j
        have h5 := h3 j
        have h9 := hv j
        simp only at h5 h9 ⊢
        rw [lm_set q (co g) k hkq, hqz k (by omega), Int.sub_zero]
        have := Int.dvd_sub h9 h5
        rwa [show co f j - (lm q (co g) j + co r j) - (co r1 j - (co r j - r[k + g.length - 1] * inv % p * xpow k (co g) j)) = co f j - (lm q (co g) j + r[k + g.length - 1] * inv % p * xpow k (co g) j + co r1 j) by omega] at this
    -- choose the row's result: it is what the loop computes
    have run : ∀ res, (∀ r1 : List Int, Rd p r1 → r1.length = L → Cong p (co r1) (fun j => co r j - (r[k + g.length - 1] * inv % p) * xpow k (co g) j) → (∀ j, k + g.length ≤ j → co r1 j = co r j) →
        Ev (fun K => qbK K (.c1 r1 (q.set k (r[k + g.length - 1] * inv % p)) g p inv ((k : Int) - 1))) res) → Ev (fun K => qbK K (.c1 r q g p inv (((k + 1 : Nat) : Int) - 1))) res := by
      intro res h
      refine qaJ ?_
      simp only [qbK]
      rw [show ((k + 1 : Nat) : Int) - 1 = (k : Int) by omega]
      refine ev_t (by simp) ?_
      rw [qbR (x := (k : Int) + g.length) (by omega), qbR (by omega), show (k : Int) + (g.length : Int) - 1 = ((k + g.length - 1 : Nat) : Int) by omega, Int.toNat_natCast]
      refine qa3 (qbN hkr) (qaG (quI hp (by omega) (by omega)) (qa3 (qbN hkq) ?_))
      exact qzK hp hg.1 hc k L (by omega) hL r h g.length 0 r (Nat.zero_add _) hr hrl (by
        have : (fun j => co r j - r[k + g.length - 1] * inv % p * xpow k (co (g.take 0)) j) = co r := by funext j; simp [xpow]
        rw [this]; exact Cong.refl _ _) (fun _ _ => rfl)
    -- the row's result is unique: canonical entries
    have uniq : ∀ r1 r2 : List Int, Rd p r1 → Rd p r2 → r1.length = L → r2.length = L → Cong p (co r1) (co r2) → r1 = r2 := by
      intro r1 r2 h1 h2 l1 l2 h
      apply List.ext_getElem (by omega)
      intro j hj1 hj2
      have a1 := h1 _ (List.getElem_mem hj1)
      have a2 := h2 _ (List.getElem_mem hj2)
      have h3 := h j
      rw [qdP hj1, qdP hj2] at h3
      obtain ⟨c, hc⟩ := h3
      have : c = 0 := by
        apply Classical.byContradiction; intro hne
        rcases Int.lt_or_gt_of_ne hne with hh | hh
        · have := Int.mul_le_mul_of_nonneg_left (show c ≤ -1 by omega) (show 0 ≤ p by omega); omega
        · have := Int.mul_le_mul_of_nonneg_left (show 1 ≤ c by omega) (show 0 ≤ p by omega); omega
      rw [this] at hc; omega
    -- the row's result, as a list
    have hrow : ∃ rr : List Int, Rd p rr ∧ rr.length = L ∧ Cong p (co rr) (fun j => co r j - (r[k + g.length - 1] * inv % p) * xpow k (co g) j) ∧ (∀ j, k + g.length ≤ j → co rr j = co r j) := by
      refine ⟨(List.range L).map fun j => (co r j - (r[k + g.length - 1] * inv % p) * xpow k (co g) j) % p, ?_, by simp, ?_, ?_⟩
      · intro x hx
        obtain ⟨j, _, rfl⟩ := List.mem_map.1 hx
        exact qf6 hp
      · intro j
        by_cases hj : j < L
        · rw [qdP (by simp; exact hj)]
          simp only [List.getElem_map, List.getElem_range]
          have := Int.emod_add_mul_ediv (co r j - r[k + g.length - 1] * inv % p * xpow k (co g) j) p
          exact ⟨-((co r j - r[k + g.length - 1] * inv % p * xpow k (co g) j) / p), by rw [Int.mul_neg]; omega⟩
        · have : xpow k (co g) j = 0 := by unfold xpow; rw [if_pos (by omega), qdH (by omega)]
          simp only [this, Int.mul_zero, Int.sub_zero]
          rw [qdH (by simp; omega), qdH (l := r) (by omega)]; exact Int.dvd_zero p
      · intro j hj
        have hx0 : xpow k (co g) j = 0 := by unfold xpow; rw [if_pos (by omega), qdH (by omega)]
        by_cases hjL : j < L
        · rw [qdP (by simp; exact hjL)]
          simp only [List.getElem_map, List.getElem_range, hx0, Int.mul_zero, Int.sub_zero]
          have := rd_co (by omega) hr j
          exact Int.emod_eq_of_lt this.1 this.2
        · rw [qdH (by simp; omega), qdH (l := r) (by omega)]
    obtain ⟨rr, a1, a2, a3, a4⟩ := hrow
    obtain ⟨q', r', e1, e2⟩ := key rr a1 a2 a3 a4
    refine ⟨q', r', run _ fun r1 h1 h2 h3 _ => ?_, e2⟩
    rw [uniq r1 rr h1 a1 h2 a2 (h3.trans a3.symm)]
    exact e1
theorem qg7 {f g : List Int} {p : Int} (hpr : Pr p) (hf : Cn p f) (hg : Cn p g) (hg0 : 0 < g.length) (hfl : f.length < 2147483648) (hgl : g.length < 2147483648) :
    ∃ q r, Ev (fun K => qc3 K f g p) (q, r) ∧ Cn p q ∧ Cn p r ∧ r.length < g.length ∧ q.length ≤ f.length ∧ Cong p (co f) (fun j => lm q (co g) j + co r j) := by
  have hp := hpr.range
  have hcp : qeV (List.replicate f.length (0 : Int)) 0 f.length f = f := by
    unfold qeV
    rw [if_pos (by simp), List.take_of_length_le (by omega)]
    unfold qbW
    simp
  by_cases h : f.length < g.length
  · refine ⟨[], f, ?_, ztP p, hf, h, Nat.zero_le _, ?_⟩
    · refine qaJ ?_
      simp only [qc3, qbK]
      have := qhV (f := f) (by omega)
      rw [hf.2] at this
      rw [Int.toNat_natCast, hcp]
      exact qeZ (by omega) (qeZ (by simp) (ev_t (by simpa using h) (qaG this (qaT _))))
    · have : (fun j => lm [] (co g) j + co f j) = co f := by funext j; simp [lm]
      rw [this]; exact Cong.refl _ _
  · have hlast := zdY hg hg0
    obtain ⟨inv, i1, i2, i3, i4⟩ := qgP hpr hlast
    have hi1 : p ∣ co g (g.length - 1) * inv - 1 := Int.dvd_of_emod_eq_zero (by
      rw [Int.emod_eq_emod_iff_emod_sub_eq_zero.1]
      rw [i4, Int.emod_eq_of_lt (by omega) (by omega)])
    obtain ⟨q, r, e1, e2, e3, e4, e5, e6⟩ := qzL (f := f) hp hg hg0 ⟨i2, i3⟩ hi1 f.length hfl (by omega) (f.length - g.length + 1) f (List.replicate (f.length - g.length + 1) 0) (by omega) (by simp; omega) hf.1 rfl
      (fun x hx => by rw [(List.mem_replicate.1 hx).2]; omega) (fun j hj => qdH (by omega)) (fun j _ => by
        simp only [co, List.getD_eq_getElem?_getD, List.getElem?_replicate]; split <;> rfl) (by
        have hz : ∀ (n : Nat) (G : Nat → Int), lm (List.replicate n 0) G = fun _ => 0 := by
          intro n G
          induction n with
          | zero => rfl
          | succ n ih => funext j; simp only [List.replicate_succ, lm, ih]; cases j <;> simp [xm]
        have : (fun j => lm (List.replicate (f.length - g.length + 1) 0) (co g) j + co f j) = co f := by funext j; rw [hz]; simp
        rw [this]; exact Cong.refl _ _)
    refine ⟨q, r, ?_, e2, e3, e4, e5, e6⟩
    refine qaJ ?_
    simp only [qc3, qbK]
    rw [Int.toNat_natCast, hcp]
    have hgl1 : gi g (wI6 ((g.length : Int) - 1)) = some (co g (g.length - 1)) := by
      rw [qbR (by omega), show (g.length : Int) - 1 = ((g.length - 1 : Nat) : Int) by omega, qbN (by omega), qdP (by omega)]
    rw [qbR (x := (f.length : Int) - (g.length : Int)) (by omega), qbR (x := (f.length : Int) - (g.length : Int) + 1) (by omega), show (f.length : Int) - (g.length : Int) + 1 = ((f.length - g.length + 1 : Nat) : Int) by omega, Int.toNat_natCast]
    refine qeZ (by omega) (qeZ (by simp) (ev_f (by simp; omega) (qa3 hgl1 (qaG i1 (qeZ (by omega) ?_)))))
    rw [qbR (by simp; omega)]
    first
      | exact e1
      | (simp only [List.length_replicate]; exact e1)
def pre (f : Nat → Int) (k : Nat) : List Int := (List.range (k + 1)).map f
theorem q6W {f : Nat → Int} {k j : Nat} (h : j ≤ k) : co (pre f k) j = f j := by
  rw [qdP (by simp [pre]; omega)]; simp [pre]
def fm (f g : Nat → Int) : Nat → Int := fun k => lm (pre f k) g k
theorem zrM {F F' : List Int} {k : Nat} (h : ∀ j, j ≤ k → co F j = co F' j) (g : Nat → Int) : lm F g k = lm F' g k := by
  rw [zlY F g (co (pre g k)) k (fun j hj => (q6W hj).symm), zlY F' g (co (pre g k)) k (fun j hj => (q6W hj).symm), q03 F, q03 F']
  exact zlY _ _ _ k h
theorem zu4 {F : List Int} {f : Nat → Int} {k : Nat} (h : ∀ j, j ≤ k → co F j = f j) (g : Nat → Int) : fm f g k = lm F g k :=
  zrM (fun j hj => by rw [q6W hj, h j hj]) g
theorem ztG (l : List Int) (g : Nat → Int) : fm (co l) g = lm l g := funext fun _ => zu4 (fun _ _ => rfl) g
theorem zp0 (f g : Nat → Int) : fm f g = fm g f := by
  funext k
  show lm (pre f k) g k = lm (pre g k) f k
  rw [zlY (pre f k) g (co (pre g k)) k (fun j hj => (q6W hj).symm), q03]
  exact zlY _ _ _ k fun j hj => q6W hj
theorem zu5 (f g h : Nat → Int) : fm (fm f g) h = fm f (fm g h) := by
  funext k
  have e1 : fm (fm f g) h k = lm (mulL (pre f k) (pre g k)) h k := zu4 (fun j hj => by
    rw [qs3, zu4 (F := pre f k) (fun i hi => q6W (by omega))]
    exact zlY _ _ _ j fun i hi => q6W (by omega)) h
  have e2 : fm f (fm g h) k = lm (pre f k) (lm (pre g k) h) k :=
    zlY _ _ _ k fun j hj => zu4 (fun i hi => q6W (by omega)) h
  rw [e1, e2, zlY _ h (co (pre h k)) k (fun j hj => (q6W hj).symm), q03 (mulL _ _), qs3, lm_lm, q03 (pre h k)]
  refine zlY _ _ _ k fun j hj => ?_
  exact zlY _ _ _ j fun i hi => q6W (by omega)
theorem fm_add (f g h : Nat → Int) : fm f (fun k => g k + h k) = fun k => fm f g k + fm f h k := by
  funext k
  show lm (pre f k) _ k = _
  rw [zs1]; rfl
theorem znT (c : Int) : (fun k => c * pone k) = co [c] := by
  funext k; cases k <;> simp [pone]
theorem zu3 (c : Int) (f : Nat → Int) : fm (fun k => c * pone k) f = fun k => c * f k := by
  rw [znT, ztG]; funext k; cases k <;> simp [lm, xm]
theorem Cong.fm {m : Int} {f f' g g' : Nat → Int} (h : Cong m f f') (h' : Cong m g g') : Cong m (X.fm f g) (X.fm f' g') := by
  refine Cong.trans (g := X.fm f g') (fun k => ?_) (fun k => ?_)
  · exact Cong.lm_left (pre f k) h' k
  · rw [zp0 f, zp0 f']
    exact Cong.lm_left (pre g' k) h k
def sgs (m : Int) : Setoid (Nat → Int) := ⟨Cong m, ⟨Cong.refl m, Cong.symm, Cong.trans⟩⟩
def QS (m : Int) : Type := Quotient (sgs m)
def mq (m : Int) (f : Nat → Int) : QS m := Quotient.mk (sgs m) f
theorem zeS {m : Int} {f g : Nat → Int} (h : Cong m f g) : mq m f = mq m g := Quotient.sound h
theorem zoS {m : Int} {f g : Nat → Int} : mq m f = mq m g ↔ Cong m f g := ⟨fun h => Quotient.exact h, zeS⟩
theorem qs9 {m : Int} {P : QS m → Prop} (h : ∀ f, P (mq m f)) (a : QS m) : P a := Quotient.ind h a
def qadd {m : Int} (a b : QS m) : QS m := Quotient.liftOn₂ (s₁ := sgs m) (s₂ := sgs m) a b (fun f g => mq m (fun k => f k + g k)) (fun f g f' g' h1 h2 => zeS fun k => by
  have := Int.dvd_add (h1 k) (h2 k); rwa [show f k - f' k + (g k - g' k) = f k + g k - (f' k + g' k) by omega] at this)
def qmul {m : Int} (a b : QS m) : QS m := Quotient.liftOn₂ (s₁ := sgs m) (s₂ := sgs m) a b (fun f g => mq m (fm f g)) (fun _ _ _ _ h1 h2 => zeS (Cong.fm h1 h2))
def qneg {m : Int} (a : QS m) : QS m := Quotient.liftOn (s := sgs m) a (fun f => mq m (fun k => -f k)) (fun f f' h => zeS fun k => by
  have := Int.dvd_neg.2 (h k); rwa [show -(f k - f' k) = -f k - -f' k by omega] at this)
def qint (m : Int) (c : Int) : QS m := mq m (fun k => c * pone k)
def qpow {m : Int} (a : QS m) : Nat → QS m
  | 0 => qint m 1
  | n + 1 => qmul (qpow a n) a
theorem qyE {m : Int} (c : Int) (f : Nat → Int) : qmul (qint m c) (mq m f) = mq m (fun k => c * f k) := by
  show mq m (fm _ f) = _; rw [zu3]
theorem zrG {m : Int} (a : QS m) : qadd a (qint m ((0 : Nat) : Int)) = a :=
  qs9 (P := fun a => qadd a (qint m ((0 : Nat) : Int)) = a) (fun f => by
    show mq m (fun k => f k + ((0 : Nat) : Int) * pone k) = mq m f
    congr 1; funext k; simp) a
theorem zrH {m : Int} (a b : QS m) : qadd a b = qadd b a :=
  qs9 (P := fun a => qadd a b = qadd b a) (fun f => qs9 (P := fun b => qadd (mq m f) b = qadd b (mq m f)) (fun g => by
    show mq m (fun k => f k + g k) = mq m (fun k => g k + f k)
    congr 1; funext k; exact Int.add_comm _ _) b) a
theorem zpL {m : Int} (a b c : QS m) : qadd (qadd a b) c = qadd a (qadd b c) :=
  qs9 (P := fun a => qadd (qadd a b) c = qadd a (qadd b c)) (fun f => qs9 (P := fun b => qadd (qadd (mq m f) b) c = qadd (mq m f) (qadd b c)) (fun g => qs9 (P := fun c => qadd (qadd (mq m f) (mq m g)) c = qadd (mq m f) (qadd (mq m g) c)) (fun h => by
    show mq m (fun k => f k + g k + h k) = mq m (fun k => f k + (g k + h k))
    congr 1; funext k; exact Int.add_assoc _ _ _) c) b) a
theorem qwJ {m : Int} (a b : QS m) : qmul a b = qmul b a :=
  qs9 (P := fun a => qmul a b = qmul b a) (fun f => qs9 (P := fun b => qmul (mq m f) b = qmul b (mq m f)) (fun g => by
    show mq m (fm f g) = mq m (fm g f)
    rw [zp0]) b) a
theorem zpK {m : Int} (a b c : QS m) : qmul (qmul a b) c = qmul a (qmul b c) :=
  qs9 (P := fun a => qmul (qmul a b) c = qmul a (qmul b c)) (fun f => qs9 (P := fun b => qmul (qmul (mq m f) b) c = qmul (mq m f) (qmul b c)) (fun g => qs9 (P := fun c => qmul (qmul (mq m f) (mq m g)) c = qmul (mq m f) (qmul (mq m g) c)) (fun h => by
    show mq m (fm (fm f g) h) = mq m (fm f (fm g h))
    rw [zu5]) c) b) a
theorem zoN {m : Int} (a b c : QS m) : qmul a (qadd b c) = qadd (qmul a b) (qmul a c) :=
  qs9 (P := fun a => qmul a (qadd b c) = qadd (qmul a b) (qmul a c)) (fun f => qs9 (P := fun b => qmul (mq m f) (qadd b c) = qadd (qmul (mq m f) b) (qmul (mq m f) c)) (fun g => qs9 (P := fun c => qmul (mq m f) (qadd (mq m g) c) = qadd (qmul (mq m f) (mq m g)) (qmul (mq m f) c)) (fun h => by
    show mq m (fm f (fun k => g k + h k)) = mq m (fun k => fm f g k + fm f h k)
    rw [fm_add]) c) b) a
theorem zoL {m : Int} (a : QS m) : qmul (qint m ((1 : Nat) : Int)) a = a :=
  qs9 (P := fun a => qmul (qint m ((1 : Nat) : Int)) a = a) (fun f => by
    rw [qyE]; congr 1; funext k; simp) a
theorem zmW {m : Int} (a : QS m) : qmul (qint m ((0 : Nat) : Int)) a = qint m ((0 : Nat) : Int) :=
  qs9 (P := fun a => qmul (qint m ((0 : Nat) : Int)) a = qint m ((0 : Nat) : Int)) (fun f => by
    rw [qyE]; show mq m (fun k => ((0 : Nat) : Int) * f k) = mq m (fun k => ((0 : Nat) : Int) * pone k)
    congr 1; funext k; simp) a
theorem zsK {m : Int} (a : QS m) : qadd (qneg a) a = qint m ((0 : Nat) : Int) :=
  qs9 (P := fun a => qadd (qneg a) a = qint m ((0 : Nat) : Int)) (fun f => by
    show mq m (fun k => -f k + f k) = mq m (fun k => ((0 : Nat) : Int) * pone k)
    congr 1; funext k; simp; omega) a
theorem zoM {m : Int} (i : Int) : qint m (-i) = qneg (qint m i) := by
  show mq m (fun k => -i * pone k) = mq m (fun k => -(i * pone k))
  congr 1; funext k; exact Int.neg_mul _ _
theorem zrF {m : Int} (i : Int) (a : QS m) : qmul (qint m (-i)) a = qneg (qmul (qint m i) a) :=
  qs9 (P := fun a => qmul (qint m (-i)) a = qneg (qmul (qint m i) a)) (fun f => by
    rw [qyE, qyE]
    show mq m (fun k => -i * f k) = mq m (fun k => -(i * f k))
    congr 1; funext k; exact Int.neg_mul _ _) a
theorem q_succ {m : Int} (n : Nat) : qint m ((n + 1 : Nat) : Int) = qadd (qint m (n : Int)) (qint m ((1 : Nat) : Int)) := by
  show mq m (fun k => ((n + 1 : Nat) : Int) * pone k) = mq m (fun k => (n : Int) * pone k + ((1 : Nat) : Int) * pone k)
  congr 1; funext k; rw [Int.natCast_add, Int.add_mul]
instance (m : Int) : Lean.Grind.CommRing (QS m) where
  add := qadd
  mul := qmul
  neg := qneg
  sub a b := qadd a (qneg b)
  natCast := ⟨fun n => qint m n⟩
  ofNat n := ⟨qint m n⟩
  nsmul := ⟨fun n a => qmul (qint m n) a⟩
  npow := ⟨fun a n => qpow a n⟩
  intCast := ⟨fun n => qint m n⟩
  zsmul := ⟨fun n a => qmul (qint m n) a⟩
  add_zero := zrG
  add_comm := zrH
  add_assoc := zpL
  mul_assoc := zpK
  mul_comm := qwJ
  mul_one a := (qwJ a _).trans (zoL a)
  one_mul := zoL
  left_distrib := zoN
  right_distrib a b c := (qwJ _ c).trans ((zoN c a b).trans (by rw [qwJ c a, qwJ c b]; rfl))
  zero_mul := zmW
  mul_zero a := (qwJ a _).trans (zmW a)
  pow_zero a := rfl
  pow_succ a n := rfl
  ofNat_succ n := q_succ n
  ofNat_eq_natCast n := rfl
  nsmul_eq_natCast_mul n a := rfl
  neg_add_cancel := zsK
  sub_eq_add_neg a b := rfl
  neg_zsmul := zrF
  zsmul_natCast_eq_nsmul n a := rfl
  intCast_ofNat n := rfl
  intCast_neg := zoM
def pq (m : Int) (l : List Int) : QS m := mq m (co l)
theorem pq_lm (m : Int) (l : List Int) (g : Nat → Int) : mq m (lm l g) = pq m l * mq m g := by rw [← ztG]; rfl
theorem qgN (m : Int) (F G : List Int) : pq m (mulL F G) = pq m F * pq m G := by
  unfold pq; rw [qs3]; exact pq_lm m F _
def pl (F G : List Int) : List Int := addL (max F.length G.length) F G
def mi (F G : List Int) : List Int := subL (max F.length G.length) F G
theorem zoQ (m : Int) (F G : List Int) : pq m (pl F G) = pq m F + pq m G := by
  unfold pq pl; rw [znU (by omega) (by omega)]; rfl
theorem zpO (m : Int) (F G : List Int) : pq m (mi F G) = pq m F - pq m G := by
  unfold pq mi; rw [zxQ (by omega) (by omega)]; rfl
theorem q5U (m : Int) : pq m [1] = 1 := by
  unfold pq; rw [← znT]; rfl
theorem q4N (m c : Int) : pq m [c] = qint m c := by
  unfold pq; rw [← znT]; rfl
theorem q5V (m : Int) : pq m [] = 0 := congrArg (mq m) (by funext k; show co [] k = ((0 : Nat) : Int) * pone k; simp)
theorem pq_tz (m : Int) (l : List Int) : pq m (tz l) = pq m l := by unfold pq; rw [q0I]
theorem zsN (m : Int) : mq m pone = 1 := congrArg (mq m) (by funext k; show pone k = ((1 : Nat) : Int) * pone k; simp)
theorem qzF {m : Int} {F G : List Int} : pq m F = pq m G ↔ Cong m (co F) (co G) := zoS
theorem zsX : ∀ (w g : List Int), 0 < w.length → 0 < g.length → lm w (co g) (w.length - 1 + (g.length - 1)) = co w (w.length - 1) * co g (g.length - 1)
  | [a], g, _, hg => by
    simp only [lm, List.length_cons, List.length_nil, Nat.zero_add, Nat.sub_self, zp3]
    cases h : g.length - 1 <;> simp [xm]
  | a :: b :: w, g, _, hg => by
    have ih := zsX (b :: w) g (by simp) hg
    have e : (a :: b :: w).length - 1 + (g.length - 1) = ((b :: w).length - 1 + (g.length - 1)) + 1 := by simp; omega
    rw [e]
    simp only [lm, xm] at ih ⊢
    rw [qdH (l := g) (by simp; omega), Int.mul_zero, Int.zero_add]
    rw [ih]
    have : (a :: b :: w).length - 1 = ((b :: w).length - 1) + 1 := by simp
    rw [this, znS]
theorem zd5 (m : Int) (F G : List Int) : pq m F * pq m G = mq m (lm F (co G)) := (pq_lm m F (co G)).symm
theorem zp2 {p : Int} (hp : Pr p) {w g : List Int} (hw : Cn p w) (hg : Cn p g) (hw0 : 0 < w.length) (hg0 : 0 < g.length) : ¬ p ∣ lm w (co g) (w.length - 1 + (g.length - 1)) := by
  rw [zsX w g hw0 hg0]
  intro h
  have h1 := zdY hw hw0
  have h2 := zdY hg hg0
  rcases hp.dvd h with h | h
  · have := zjK (by omega) h1.2 h; omega
  · have := zjK (by omega) h2.2 h; omega
theorem qpC (p : Int) (l : List Int) : pq p (modL p l) = pq p l := qzF.2 (zoT p l)
theorem zv1 {p : Int} (hp : Pr p) : 0 < p := by have := hp.range; omega
theorem zpQ {p : Int} (hp : Pr p) {b : List Int} (hb : Cn p b) (hl : 2 ≤ b.length) (x : List Int) : pq p x * pq p b ≠ 1 := by
  intro h
  have hr := hp.range
  rw [← qpC p x, ← zsN, zd5] at h
  have h := zoS.1 h
  have hx := qm2 (zv1 hp) x
  by_cases hn : (modL p x).length = 0
  · have := h 0
    rw [List.eq_nil_of_length_eq_zero hn] at this
    simp only [lm, pone, if_true] at this
    have := Int.dvd_neg.2 this
    simp at this
    have := Int.le_of_dvd (by decide) this; omega
  · have h1 := h ((modL p x).length - 1 + (b.length - 1))
    have h2 := zp2 hp hx hb (by omega) (by omega)
    rw [show pone ((modL p x).length - 1 + (b.length - 1)) = 0 by unfold pone; rw [if_neg (by omega)], Int.sub_zero] at h1
    exact h2 h1
theorem zuP {p : Int} (hp : Pr p) {g t t' : List Int} (hg : Cn p g) (ht : Cn p t) (ht' : Cn p t') (hl : t.length < g.length) (hl' : t'.length < g.length) (w : List Int) (h : pq p t - pq p t' = pq p w * pq p g) : t = t' := by
  rw [← qpC p w] at h
  have hw := qm2 (zv1 hp) w
  have h : mq p (fun k => co t k - co t' k) = mq p (lm (modL p w) (co g)) := by rw [← zd5]; exact h
  have h := zoS.1 h
  by_cases hn : (modL p w).length = 0
  · refine zwN ht ht' fun k => ?_
    have := h k
    rw [List.eq_nil_of_length_eq_zero hn] at this
    simpa [lm] using this
  · exfalso
    have h1 := h ((modL p w).length - 1 + (g.length - 1))
    have h2 := zp2 hp hw hg (by omega) (by omega)
    simp only at h1
    rw [qdH (l := t) (by omega), qdH (l := t') (by omega)] at h1
    have := Int.dvd_neg.2 h1
    simp at this
    exact h2 this
def Cop (p : Int) (a b : List Int) : Prop := ∃ u v : List Int, pq p u * pq p a + pq p v * pq p b = 1
theorem Cop.symm {p : Int} {a b : List Int} (h : Cop p a b) : Cop p b a := by
  obtain ⟨u, v, h⟩ := h
  exact ⟨v, u, by grind⟩
theorem Cop.mul {p : Int} {a b c : List Int} (h1 : Cop p a b) (h2 : Cop p a c) : Cop p a (mulL b c) := by
  obtain ⟨u, v, h1⟩ := h1
  obtain ⟨u', v', h2⟩ := h2
  refine ⟨pl (pl (mulL (mulL u u') a) (mulL (mulL u v') c)) (mulL (mulL v b) u'), mulL v v', ?_⟩
  simp only [zoQ, qgN]
  grind
theorem Cop.one {p : Int} (a : List Int) : Cop p a [1] := ⟨[], [1], by rw [q5U, q5V]; grind⟩
theorem Cop.congr {p : Int} {a b b' : List Int} (h : Cop p a b) (e : pq p b = pq p b') : Cop p a b' := by
  obtain ⟨u, v, h⟩ := h
  exact ⟨u, v, by rw [← e]; exact h⟩
theorem qqA {f : List Int} {p c : Int} : pq p (modL p (f.map (· * c))) = qint p c * pq p f := by
  rw [qpC]
  show mq p _ = _
  have : co (f.map (· * c)) = fun k => c * co f k := by
    funext k
    simp only [co, List.getD_eq_getElem?_getD, List.getElem?_map]
    cases f[k]? <;> simp [Int.mul_comm]
  rw [this]
  exact (qyE c (co f)).symm
theorem zgC {m a : Int} (h : m ∣ a - 1) : qint m a = 1 := by
  rw [← zsN]
  refine zeS fun k => ?_
  obtain ⟨c, hc⟩ := h
  exact ⟨c * pone k, by rw [← Int.mul_assoc, ← hc, Int.sub_mul, Int.one_mul]⟩
theorem zg0 {m : Int} (a b : Int) : qint m (a * b) = qint m a * qint m b := by
  show _ = qmul (qint m a) (mq m _)
  rw [qyE]
  show mq m _ = mq m _
  congr 1; funext k; exact Int.mul_assoc _ _ _
theorem zjL {x p : Int} (hp : 2 ≤ p) (h : x % p = 1) : p ∣ x - 1 := Int.dvd_of_emod_eq_zero (by
  rw [Int.emod_eq_emod_iff_emod_sub_eq_zero.1]
  rw [h, Int.emod_eq_of_lt (by omega) (by omega)])
theorem zuU {p : Int} (hp : Pr p) {f : List Int} (hf : Cn p f) (hfl : f.length < 2147483648) :
    ∃ d i, Ev (fun K => qj1 K f p) d ∧ Cn p d ∧ d.length = f.length ∧ (0 < f.length → co d (d.length - 1) = 1) ∧ pq p d = qint p i * pq p f ∧ (∃ l, pq p f = qint p l * pq p d) := by
  have hr := hp.range
  by_cases h0 : f.length = 0
  · have hn := List.eq_nil_of_length_eq_zero h0
    subst hn
    refine ⟨[], 1, ?_, ztP p, rfl, fun h => absurd h (by simp), ?_, 1, ?_⟩
    · refine qaJ ?_
      simp only [qj1, qg1]
      exact ev_t (by simp) (qaT _)
    · rw [q5V]; grind
    · rw [q5V]; grind
  · have hl := zdY hf (by omega)
    obtain ⟨i, i1, i2, i3, i4⟩ := qgP hp hl
    have hd : p ∣ co f (f.length - 1) * i - 1 := zjL (by omega) i4
    have hone : qint p (co f (f.length - 1)) * qint p i = 1 := by rw [← zg0]; exact zgC hd
    have hpq := qqA (f := f) (p := p) (c := i)
    have htop : co (modL p (f.map (· * i))) (f.length - 1) = 1 := by
      rw [qy9]
      show co (f.map (· * i)) (f.length - 1) % p = 1
      rw [qdP (by simp; omega)]
      simp only [List.getElem_map]
      rw [← qdP (l := f) (by omega)]; exact i4
    have hlen : (modL p (f.map (· * i))).length = f.length := by
      have h1 := qkK p (f.map (· * i))
      rw [List.length_map] at h1
      have h2 : ¬ (modL p (f.map (· * i))).length < f.length := fun h => by
        rw [qdH (by omega)] at htop
        exact absurd htop (by decide)
      omega
    refine ⟨modL p (f.map (· * i)), i, ?_, qm2 (by omega) _, hlen, fun _ => by rw [hlen]; exact htop, hpq, co f (f.length - 1), ?_⟩
    · refine qaJ ?_
      simp only [qj1, qg1]
      have hg : gi f (wI6 ((f.length : Int) - 1)) = some (co f (f.length - 1)) := by
        rw [qbR (by omega), show (f.length : Int) - 1 = ((f.length - 1 : Nat) : Int) by omega, qbN (by omega), qdP (by omega)]
      exact ev_f (by simp only [decide_eq_false_iff_not]; omega) (qa3 hg (qaG i1 (qaG (qmC hr (qkG (by omega) hf) (by omega) (by omega)) (qaT _))))
    · rw [hpq]; grind
structure zt5 (p : Int) (d f g : List Int) : Prop where
  cn : Cn p d
  left : ∃ q, pq p f = pq p q * pq p d
  right : ∃ q, pq p g = pq p q * pq p d
  bez : ∃ u v, pq p d = pq p u * pq p f + pq p v * pq p g
  lead : 0 < f.length ∨ 0 < g.length → 0 < d.length ∧ co d (d.length - 1) = 1
  small : d.length ≤ max f.length g.length
theorem zu2 {p : Int} (hp : Pr p) : ∀ (n : Nat) (f g : List Int), g.length ≤ n → Cn p f → Cn p g → f.length < 2147483648 → g.length < 2147483648 → ∃ d, Ev (fun K => qe8 K (.c1 f g p)) d ∧ zt5 p d f g := by
  intro n
  induction n with
  | zero =>
    intro f g hn hf hg hfl hgl
    have hz : g = [] := List.eq_nil_of_length_eq_zero (by omega)
    subst hz
    obtain ⟨d, i, e1, e2, e3, e4, e5, l, e6⟩ := zuU hp hf hfl
    refine ⟨d, ?_, e2, ⟨[l], by rw [q4N]; exact e6⟩, ⟨[], by rw [q5V]; grind⟩, ⟨[i], [], by rw [q4N, q5V, e5]; grind⟩, fun h => ?_, by omega⟩
    · refine qaJ ?_
      simp only [qe8]
      exact ev_f (by simp) (qaG e1 (qaT _))
    · have h : 0 < f.length := by simpa using h
      exact ⟨by omega, e4 h⟩
  | succ n ih =>
    intro f g hn hf hg hfl hgl
    by_cases h0 : g.length = 0
    · exact ih f g (by omega) hf hg hfl hgl
    · obtain ⟨q, r, d1, d2, d3, d4, d5, d6⟩ := qg7 hp hf hg (by omega) hfl hgl
      obtain ⟨d, e1, e2⟩ := ih g r (by omega) hg d3 hgl (by omega)
      have hq : pq p f = pq p q * pq p g + pq p r := by
        rw [zd5]
        exact zeS d6
      refine ⟨d, ?_, e2.cn, ?_, e2.left, ?_, fun _ => e2.lead (.inl (by omega)), by have := e2.small; omega⟩
      · refine qaJ ?_
        simp only [qe8]
        exact ev_t (by simp; omega) (qaG d1 e1)
      · obtain ⟨a, ha⟩ := e2.left
        obtain ⟨b, hb⟩ := e2.right
        exact ⟨pl (mulL q a) b, by rw [zoQ, qgN, hq, hb]; grind⟩
      · obtain ⟨u, v, huv⟩ := e2.bez
        exact ⟨v, mi u (mulL v q), by rw [zpO, qgN]; grind⟩
theorem zwD {p : Int} (hp : Pr p) {f g : List Int} (hf : Cn p f) (hg : Cn p g) (hfl : f.length < 2147483648) (hgl : g.length < 2147483648) : ∃ d, Ev (fun K => qw9 K f g p) d ∧ zt5 p d f g := by
  obtain ⟨d, h1, h2⟩ := zu2 hp _ f g (Nat.le_refl _) hf hg hfl hgl
  refine ⟨d, ?_, h2⟩
  refine qaJ ?_
  simp only [qw9, qe8]
  exact h1
theorem qwS {p : Int} (hp : Pr p) {f : List Int} (hf : Cn p f) (hfl : f.length < 2147483648) : Ev (fun K => qeS K f p) f := by
  have hr := hp.range
  have := qoU hr (qkG hr.2 hf) (by omega)
  rw [q3U hf] at this
  exact this
theorem Gcd_ev {p : Int} (hp : Pr p) {f g : List Int} (hf : Cn p f) (hg : Cn p g) (hfl : f.length < 2147483648) (hgl : g.length < 2147483648) : ∃ d, Ev (fun K => qtV K f g p) (d, 0) ∧ zt5 p d f g := by
  obtain ⟨d, h1, h2⟩ := zwD hp hf hg hfl hgl
  refine ⟨d, ?_, h2⟩
  refine qaJ ?_
  simp only [qtV, qmP]
  exact qaG (qtY hp) (ev_f rfl (qaG (qwS hp hf hfl) (qaG (qwS hp hg hgl) (qaG h1 (qaT _)))))
theorem zpA {p : Int} (hp : Pr p) {f g : List Int} (hf : Cn p f) (hg : Cn p g) (hg0 : 0 < g.length) (hfl : f.length < 2147483648) (hgl : g.length < 2147483648) :
    ∃ q r, Ev (fun K => qdR K f g p) (q, r, 0) ∧ Cn p r ∧ r.length < g.length ∧ pq p f = pq p q * pq p g + pq p r := by
  obtain ⟨q, r, d1, d2, d3, d4, d5, d6⟩ := qg7 hp hf hg hg0 hfl hgl
  refine ⟨q, r, ?_, d3, d4, ?_⟩
  · refine qaJ ?_
    simp only [qdR, qi1]
    exact qaG (qtY hp) (ev_f rfl (qaG (qwS hp hf hfl) (qaG (qwS hp hg hgl) (ev_f (by simp only [decide_eq_false_iff_not]; omega) (qaG d1 (qaT _))))))
  · rw [zd5]
    exact zeS d6
theorem ztD {p : Int} (hp : Pr p) {d f g : List Int} (h : zt5 p d f g) (hc : Cop p f g) : d = [1] := by
  obtain ⟨u, v, huv⟩ := hc
  obtain ⟨a, ha⟩ := h.left
  obtain ⟨b, hb⟩ := h.right
  have hone : pq p (pl (mulL u a) (mulL v b)) * pq p d = 1 := by rw [zoQ, qgN, qgN]; grind
  have hle : ¬ 2 ≤ d.length := fun hl => zpQ hp h.cn hl _ hone
  have hne : 0 < f.length ∨ 0 < g.length := by
    apply Classical.byContradiction; intro hn
    have h1 : f = [] := List.eq_nil_of_length_eq_zero (by omega)
    have h2 : g = [] := List.eq_nil_of_length_eq_zero (by omega)
    subst h1; subst h2
    rw [q5V] at huv
    have h3 : pq p [] * pq p [0, 1] = 1 := by rw [q5V]; grind
    have hr := hp.range
    exact zpQ hp (b := [0, 1]) ⟨fun x hx => by simp at hx; omega, rfl⟩ (by simp) _ h3
  obtain ⟨l1, l2⟩ := h.lead hne
  obtain ⟨x, hx⟩ := List.length_eq_one_iff.1 (show d.length = 1 by omega)
  subst hx
  simp at l2; rw [l2]
theorem zrU {p : Int} {d f g : List Int} (h : zt5 p d f g) (hl : d.length ≤ 1) (hne : 0 < f.length ∨ 0 < g.length) : Cop p f g := by
  obtain ⟨l1, l2⟩ := h.lead hne
  obtain ⟨u, v, huv⟩ := h.bez
  have hd : d = [1] := by
    obtain ⟨x, hx⟩ := List.length_eq_one_iff.1 (show d.length = 1 by omega)
    subst hx
    simp at l2; rw [l2]
  rw [hd, q5U] at huv
  exact ⟨u, v, huv.symm⟩
theorem zpU {p : Int} (hp : Pr p) {f g a u : List Int} (hg : Cn p g) (hg0 : 0 < g.length) (hgl : g.length < 1000000) (ha : Cn p a) (ha1 : a.length = 1) (hu : Cn p u) (hul : u.length < 1000000) {w : List Int} (h : pq p u * pq p f = pq p a + pq p w * pq p g) :
    ∃ s, Ev (fun K => (gi a (0 : Int)).bind fun x2 => (qb0 K x2 p).bind fun x4 => (qeC K u x4.1 p).bind fun x6 => (qc3 K x6 g p).bind fun x8 => some x8.2) s ∧ Cn p s ∧ s.length < g.length ∧ ∃ w, pq p s * pq p f = 1 + pq p w * pq p g := by
  have hr := hp.range
  obtain ⟨x, hx⟩ := List.length_eq_one_iff.1 ha1
  subst hx
  have hl := zdY ha (by simp)
  simp only [List.length_cons, List.length_nil, Nat.zero_add, Nat.sub_self, zp3] at hl
  obtain ⟨i, i1, i2, i3, i4⟩ := qgP hp hl
  have hone : qint p x * qint p i = 1 := by rw [← zg0]; exact zgC (zjL (by omega) i4)
  have hsc := qqA (f := u) (p := p) (c := i)
  have hsl := qkK p (u.map (· * i))
  rw [List.length_map] at hsl
  obtain ⟨q, r, d1, d2, d3, d4, _, d6⟩ := qg7 hp (qm2 (by omega) (u.map (· * i))) hg hg0 (by omega) (by omega)
  refine ⟨r, ?_, d3, d4, ?_⟩
  · exact qa3 (show gi [x] (0 : Int) = some x from rfl) (qaG i1 (qaG (qmC hr (qkG hr.2 hu) (by omega) (by omega)) (qaG d1 (qaT _))))
  · have hq : pq p (modL p (u.map (· * i))) = pq p q * pq p g + pq p r := by rw [zd5]; exact zeS d6
    rw [hsc] at hq
    rw [q4N] at h
    refine ⟨mi (mulL [i] w) (mulL q f), ?_⟩
    rw [zpO, qgN, qgN, q4N]
    grind
structure InvS (p : Int) (N : Nat) (f g a b u v : List Int) : Prop where
  ca : Cn p a
  cb : Cn p b
  cu : Cn p u
  cv : Cn p v
  lab : a.length < b.length
  lb : b.length ≤ N
  b2 : 2 ≤ b.length
  lu : u.length + b.length ≤ N + 2
  lv : v.length + b.length ≤ N + 2
  ua : ∃ w, pq p u * pq p f = pq p a + pq p w * pq p g
  vb : ∃ w, pq p v * pq p f = pq p b + pq p w * pq p g
  bez : ∃ x y, pq p x * pq p b + pq p y * pq p a = 1
theorem zrK {p : Int} {q u : List Int} {n : Nat} (h : q.length + u.length ≤ n + 1) : (modL p (mulL q u)).length ≤ n := by
  apply Classical.byContradiction; intro hn
  have h1 := zpF ((mulL q u).map (· % p)) (co (modL p (mulL q u)) ((modL p (mulL q u)).length - 1)) (by
    show (modL p (mulL q u)).getLast? = _
    rw [List.getLast?_eq_getElem?, List.getElem?_eq_getElem (by omega), qdP (by omega)])
  apply h1
  rw [qy9, qs3]
  show lm q (co u) _ % p = 0
  rcases zsZ q u ((modL p (mulL q u)).length - 1) (by omega) with h2 | h2 | h2
  · rw [h2]; exact Int.zero_emod p
  · rw [h2]; exact Int.zero_emod p
  · rw [h2, show co [] = fun _ => 0 by funext k; simp, zc5]; exact Int.zero_emod p
theorem znM {p : Int} (hp : Pr p) {N : Nat} (hN : N < 100000) {f g a b u v : List Int} (h : InvS p N f g a b u v) (ha : 1 < a.length) :
    ∃ q r, Ev (fun K => qc3 K b a p) (q, r) ∧ Ev (fun K => qdO K q u p) (modL p (mulL q u)) ∧ Ev (fun K => qn3 K v (modL p (mulL q u)) p) (modL p (mi v (modL p (mulL q u)))) ∧ InvS p N f g r a (modL p (mi v (modL p (mulL q u)))) u ∧ r.length < a.length := by
  have hr := hp.range
  have l1 := h.lb
  have l2 := h.lab
  have l3 := h.lu
  have l4 := h.lv
  obtain ⟨q, r, d1, d2, d3, d4, d5, d6⟩ := qg7 hp h.cb h.ca (by omega) (by omega) (by omega)
  have hq : pq p b = pq p q * pq p a + pq p r := by rw [zd5]; exact zeS d6
  -- the quotient's length
  have hql : q.length + a.length ≤ b.length + 1 := by
    apply Classical.byContradiction; intro hn
    have h2 := zp2 hp d2 h.ca (by omega) (by omega)
    have h3 := d6 (q.length - 1 + (a.length - 1))
    simp only at h3
    rw [qdH (l := b) (by omega), qdH (l := r) (by omega)] at h3
    have := Int.dvd_neg.2 h3
    simp at this
    exact h2 this
  have hm := zrK (p := p) (q := q) (u := u) (n := N + 2 - a.length) (by omega)
  have hs := qkK p (mi v (modL p (mulL q u)))
  have hml : (mi v (modL p (mulL q u))).length ≤ N + 2 := by simp [mi, subL]; omega
  refine ⟨q, r, d1, qmO hr (qkG hr.2 d2) (qkG hr.2 h.cu) (by omega) (by omega), ?_, ?_, d4⟩
  · exact q6D hr (qkG hr.2 h.cv) (qkG hr.2 (qm2 (by omega) _)) (by omega) (by omega)
  · refine ⟨d3, h.ca, qm2 (by omega) _, h.cu, d4, by omega, by omega, ?_, by omega, ?_, h.ua, ?_⟩
    · -- the new cofactor's length
      have hv2 : v.length + a.length ≤ N + 2 := by omega
      have : (mi v (modL p (mulL q u))).length ≤ N + 2 - a.length := by simp [mi, subL]; omega
      omega
    · obtain ⟨w1, e1⟩ := h.ua
      obtain ⟨w2, e2⟩ := h.vb
      refine ⟨mi w2 (mulL q w1), ?_⟩
      rw [qpC, zpO, qpC, qgN, zpO, qgN]
      grind
    · obtain ⟨x, y, e⟩ := h.bez
      refine ⟨pl (mulL x q) y, x, ?_⟩
      rw [zoQ, qgN]
      grind
theorem zs5 {p : Int} (hp : Pr p) {N : Nat} {f g a b u v : List Int} (h : InvS p N f g a b u v) (ha : a.length ≤ 1) : a.length = 1 := by
  apply Classical.byContradiction; intro hn
  have ha0 : a = [] := List.eq_nil_of_length_eq_zero (by omega)
  obtain ⟨x, y, e⟩ := h.bez
  subst ha0
  rw [q5V] at e
  exact zpQ hp h.cb h.b2 x (by grind)
theorem zpV {p : Int} (hp : Pr p) {N : Nat} (hN : N < 100000) {f g a b u v : List Int} (hg : Cn p g) (hg0 : 0 < g.length) (hgl : g.length < 1000000) (h : InvS p N f g a b u v) (ha : a.length ≤ 1) :
    ∃ s, Ev (fun K => (gi a (0 : Int)).bind fun x2 => (qb0 K x2 p).bind fun x4 => (qeC K u x4.1 p).bind fun x6 => (qc3 K x6 g p).bind fun x8 => some x8.2) s ∧ Cn p s ∧ s.length < g.length ∧ ∃ w, pq p s * pq p f = 1 + pq p w * pq p g := by
  obtain ⟨w, e⟩ := h.ua
  have := h.lu
  exact zpU hp hg hg0 hgl h.ca (zs5 hp h ha) h.cu (by omega) e
theorem zrN {p : Int} (hp : Pr p) {N : Nat} (hN : N < 100000) {f g : List Int} (hg : Cn p g) (hg0 : 0 < g.length) (hgl : g.length < 1000000) : ∀ (n : Nat) (a b u v : List Int), a.length ≤ n → InvS p N f g a b u v →
    ∃ s, Ev (fun K => qbD K (.c3 g p a b u v)) s ∧ Cn p s ∧ s.length < g.length ∧ ∃ w, pq p s * pq p f = 1 + pq p w * pq p g := by
  intro n
  induction n with
  | zero =>
    intro a b u v ha h
    exfalso
    have := zs5 hp h (by omega); omega
  | succ n ih =>
    intro a b u v ha h
    by_cases h1 : 1 < a.length
    · obtain ⟨q, r, e1, e2, e3, e4, e5⟩ := znM hp hN h h1
      obtain ⟨s, s1, s2⟩ := ih r a _ u (by omega) e4
      refine ⟨s, ?_, s2⟩
      refine qaJ ?_
      simp only [qbD]
      exact ev_t (by simp; omega) (qaG e1 (qaG e2 (qaG e3 s1)))
    · obtain ⟨s, s1, s2⟩ := zpV hp hN hg hg0 hgl h (by omega)
      refine ⟨s, ?_, s2⟩
      refine qaJ ?_
      simp only [qbD]
      exact ev_f (by simp; omega) s1
theorem zrO {p : Int} (hp : Pr p) {N : Nat} (hN : N < 100000) {f g : List Int} (hg : Cn p g) (hg0 : 0 < g.length) (hgl : g.length < 1000000) (a b u v : List Int) (z : Nat) (h : InvS p N f g a b u v) :
    ∃ s, Ev (fun K => qbD K (.c2 v z g p a b u)) s ∧ Cn p s ∧ s.length < g.length ∧ ∃ w, pq p s * pq p f = 1 + pq p w * pq p g := by
  by_cases h1 : 1 < a.length
  · obtain ⟨q, r, e1, e2, e3, e4, e5⟩ := znM hp hN h h1
    obtain ⟨s, s1, s2⟩ := zrN hp hN hg hg0 hgl _ r a _ u (Nat.le_refl _) e4
    refine ⟨s, ?_, s2⟩
    refine qaJ ?_
    simp only [qbD]
    exact ev_t (by simp; omega) (qaG e1 (qaG e2 (qaG e3 s1)))
  · obtain ⟨s, s1, s2⟩ := zpV hp hN hg hg0 hgl h (by omega)
    refine ⟨s, ?_, s2⟩
    refine qaJ ?_
    simp only [qbD]
    exact ev_f (by simp; omega) s1
theorem zrP {p : Int} (hp : Pr p) {f g : List Int} (hf : Cn p f) (hg : Cn p g) (hg2 : 2 ≤ g.length) (hfl : f.length < 100000) (hgl : g.length < 100000) (hc : Cop p f g) :
    ∃ s, Ev (fun K => qr6 K f g p) s ∧ Cn p s ∧ s.length < g.length ∧ ∃ w, pq p s * pq p f = 1 + pq p w * pq p g := by
  have hr := hp.range
  obtain ⟨q, r, d1, d2, d3, d4, d5, d6⟩ := qg7 hp hf hg (by omega) (by omega) (by omega)
  have hq : pq p f = pq p q * pq p g + pq p r := by rw [zd5]; exact zeS d6
  have hone : Cn p [1] := ⟨fun x hx => by simp at hx; omega, rfl⟩
  have h : InvS p g.length f g r g [1] [] := by
    refine ⟨d3, hg, hone, ztP p, d4, Nat.le_refl _, hg2, by simp; omega, by simp, ⟨q, ?_⟩, ⟨[-1], ?_⟩, ?_⟩
    · rw [q5U]; grind
    · rw [q5V, q4N]
      have : qint p (-1) = -1 := zoM 1
      rw [this]; grind
    · obtain ⟨u, v, e⟩ := hc
      exact ⟨pl (mulL u q) v, u, by rw [zoQ, qgN]; grind⟩
  suffices hs : ∃ s, Ev (fun K => qbD K (.c1 [1] g p r g)) s ∧ Cn p s ∧ s.length < g.length ∧ ∃ w, pq p s * pq p f = 1 + pq p w * pq p g by
    obtain ⟨s, s1, s2⟩ := hs
    refine ⟨s, ?_, s2⟩
    refine qaJ ?_
    simp only [qr6, qbD]
    exact qaG d1 s1
  by_cases h1 : 1 < r.length
  · obtain ⟨q, r', e1, e2, e3, e4, e5⟩ := znM hp hgl h h1
    obtain ⟨s, s1, s2⟩ := zrO hp hgl hg (by omega) (by omega) r' r _ [1] (max 0 (0 + [(1 : Int)].length)) e4
    refine ⟨s, ?_, s2⟩
    refine qaJ ?_
    simp only [qbD]
    exact ev_t (by simp; omega) (qaG e1 (qaG e2 (qaG e3 s1)))
  · obtain ⟨s, s1, s2⟩ := zpV hp hgl hg (by omega) (by omega) h (by omega)
    refine ⟨s, ?_, s2⟩
    refine qaJ ?_
    simp only [qbD]
    exact ev_f (by simp; omega) s1
theorem zxX {p : Int} (hp : Pr p) {f g : List Int} (hf : Cn p f) (hg : Cn p g) (hg2 : 2 ≤ g.length) (hfl : f.length < 100000) (hgl : g.length < 100000) (hc : Cop p f g) :
    ∃ u v, Ev (fun K => qlG K f g p) ([1], u, v, 0) ∧ Cn p u ∧ u.length < g.length ∧ ∃ w, pq p u * pq p f = 1 + pq p w * pq p g := by
  have hr := hp.range
  obtain ⟨d, e1, e2⟩ := zwD hp hf hg (by omega) (by omega)
  have hd := ztD hp e2 hc
  subst hd
  have hone : Cn p [1] := ⟨fun x hx => by simp at hx; omega, rfl⟩
  -- division by 1
  have by1 : ∀ h : List Int, Cn p h → h.length < 100000 → ∃ r, Ev (fun K => qc3 K h [1] p) (h, r) := by
    intro h hh hl
    obtain ⟨q, r, d1, d2, d3, d4, d5, d6⟩ := qg7 hp hh hone (by simp) (by omega) (by simp)
    have hr0 : r = [] := List.eq_nil_of_length_eq_zero (by simpa using d4)
    have hq : pq p h = pq p q * pq p [1] + pq p r := by rw [zd5]; exact zeS d6
    rw [hr0, q5V, q5U] at hq
    have : h = q := zwN hh d2 (qzF.1 (by grind))
    exact ⟨r, by rw [this]; rw [this] at d1; exact d1⟩
  obtain ⟨r1, o1⟩ := by1 g hg hgl
  obtain ⟨r2, o2⟩ := by1 f hf hfl
  obtain ⟨u, i1, i2, i3, i4⟩ := zrP hp hf hg hg2 hfl hgl hc
  have m1 := qmO hr (qkG hr.2 i2) (qkG hr.2 hf) (by omega) (by omega)
  have ml := qkK p (mulL u f)
  rw [qv9] at ml
  have s1 := q6D hr (qkG hr.2 hone) (qkG hr.2 (qm2 (by omega) (mulL u f))) (by simp) (by omega)
  have sl := qkK p (subL (max [(1 : Int)].length (modL p (mulL u f)).length) [1] (modL p (mulL u f)))
  have sl2 : (subL (max [(1 : Int)].length (modL p (mulL u f)).length) [1] (modL p (mulL u f))).length ≤ 1 + u.length + f.length := by simp [subL]; omega
  obtain ⟨q, r, d1, d2⟩ := qg7 hp (qm2 (by omega) (subL (max [(1 : Int)].length (modL p (mulL u f)).length) [1] (modL p (mulL u f)))) hg (by omega) (by omega) (by omega)
  refine ⟨u, q, ?_, i2, i3, i4⟩
  refine qaJ ?_
  simp only [qlG, qk2]
  refine qaG (qtY hp) (ev_f rfl (qaG (qwS hp hf (by omega)) (qaG (qwS hp hg (by omega)) (qaG e1 (ev_f (by simp only [decide_eq_false_iff_not]; omega) ?_)))))
  exact qaG o1 (ev_f (by simp only [decide_eq_false_iff_not]; omega) (qaG o2 (qaG i1 (qaG m1 (qaG s1 (qaG d1 (qaT _)))))))
open Go.Proofs.Try (prog)
inductive qhK where
 | c0 (l : (List (List Int))) (p : Int)
 | c1 (l : (List (List Int))) (p : Int) (t11 : (List (List Int))) (t12 : Int) (t13 : Int)
 | c2 (l : (List (List Int))) (p : Int) (f : (List Int)) (t11 : (List (List Int))) (t12 : Int) (t13 : Int) (t20 : (List (List Int))) (t21 : Int) (t22 : Int)
def qa4 : Nat → qhK → Option Bool
 | 0, _ => none
 | K + 1, .c0 l p =>
  qa4 K (.c1 l p l (l.length : Int) (0 : Int))
 | K + 1, .c1 l p t11 t12 t13 =>
  bif (decide (t13 < t12)) then
   (gi t11 t13).bind fun x2 =>
   gd (0 ≤ t13 ∧ 0 ≤ t13.toNat ∧ t13.toNat ≤ l.length) <|
   qa4 K (.c2 l p x2 t11 t12 t13 (l.take t13.toNat) ((l.take t13.toNat).length : Int) (0 : Int))
  else
   some true
 | K + 1, .c2 l p f t11 t12 t13 t20 t21 t22 =>
  bif (decide (t22 < t21)) then
   (gi t20 t22).bind fun x2 =>
   (qtV K f x2 p).bind fun x4 =>
   (qmQ K x4.1 p).bind fun x6 =>
   bif (!decide (x6 = (0 : Int))) then
    some false
   else
    qa4 K (.c2 l p f t11 t12 t13 t20 t21 (wI6 (t22 + (1 : Int))))
  else
   qa4 K (.c1 l p t11 t12 (wI6 (t13 + (1 : Int))))
def qgJ (K : Nat) (l : (List (List Int))) (p : Int) : Option Bool := qa4 K (.c0 l p)
noncomputable def qd5 : Code := qbQ prog 63
noncomputable def qy7 : qhK → List Fr
 | .c0 .. => [.code qd5]
 | .c1 .. => [.code (.loop (atC qd5 [1,0,1,0,0])), .blk 0, .code (atC qd5 [1,1])]
 | .c2 .. => [.code (.loop (atC qd5 [1,0,1,0,0,1,1,0,0,1,1,0,0])), .blk 2, .blk 1, .code (atC qd5 [1,0,1,0,0,1,1,1]), .lp (atC qd5 [1,0,1,0,0]), .blk 0, .code (atC qd5 [1,1])]
def q0D : qhK → St
 | .c0 l p => St.init [(tl 1 l qaF), (ti .u32 p)]
 | .c1 l p t11 t12 t13 => ⟨[(0, vl 1 l qaF), (1, vi .u32 p), (11, vl 1 t11 qaF), (12, vi .i64 t12), (13, vi .i64 t13)], [], []⟩
 | .c2 l p f t11 t12 t13 t20 t21 t22 => ⟨[(0, vl 1 l qaF), (1, vi .u32 p), (6, vl 1 f qaC), (11, vl 1 t11 qaF), (12, vi .i64 t12), (13, vi .i64 t13), (20, vl 1 t20 qaF), (21, vi .i64 t21), (22, vi .i64 t22)], [], []⟩
def qiN (cx : Cx) (c : qhK) (r : Bool) : Prop := Wk prog cx (qc2 prog 63 [[0]] (TV.c (T.bool r))) (qy7 c) .normal (q0D c)
abbrev qiO (K : Nat) : Prop := ∀ c r, qa4 K c = some r → ∀ cx : Cx, cx.n = 39 → qiN cx c r
theorem q0G {K} (ih : qiO K) {cx} (hn : cx.n = 39) {l p} {r} (h : qa4 (K + 1) (.c0 l p) = some r) : qiN cx (.c0 l p) r := by
 rw [qa4] at h
 exact wkG [rg1, rgG [oo, opI (.ln (l.length : Int)), oo], .pre [.keep [0,1,11,12,13] []]] hn (aC (qaX l qaF) <| aN) (ih _ _ h cx hn)
theorem q0F {K} (ih : qiO K) {cx} (hn : cx.n = 39) {l p t11 t12 t13} {r} (h : qa4 (K + 1) (.c1 l p t11 t12 t13) = some r) : qiN cx (.c1 l p t11 t12 t13) r := by
 rw [qa4] at h
 rcases qaQ h with ⟨h1, h⟩ | ⟨h1, h⟩
 ·obtain ⟨x2, h3, h⟩ := qaH h
  obtain ⟨h4, h⟩ := qbI h
  exact wkG [.go, rg1, bTr, rgG [oo, opI (.ix (qaF x2)), oo, oo, oo], rgG [oo, oo, opI (.slT 0 t13.toNat ((l.take t13.toNat).map qaF)), opI (.ln ((l.take t13.toNat).length : Int)), oo], .pre [.keep [0,1,6,11,12,13,20,21,22] []]] hn (aC h1 <| aC (qa1 h3) <| aC (qbS qaF h3) <| aC r0 <| aC (⟨h4.1, rfl⟩ : 0 ≤ t13 ∧ t13.toNat = t13.toNat) <| aC h4.2.1 <| aC (ze8 _ h4.2.2 : t13.toNat ≤ (l.map qaF).length) <| aC (q27 _ _ _ : ((l.map qaF).take t13.toNat).drop 0 = (l.take t13.toNat).map qaF) <| aC (qaX (l.take t13.toNat) qaF) <| aN) (ih _ _ h cx hn)
 ·have h := oinj h; subst h
  exact wkR [.go, rg1, bFa, rg1] hn (aC h1 <| aN)
theorem q0E {K} (ih : qiO K) {cx} (hn : cx.n = 39) {l p f t11 t12 t13 t20 t21 t22} {r} (h : qa4 (K + 1) (.c2 l p f t11 t12 t13 t20 t21 t22) = some r) : qiN cx (.c2 l p f t11 t12 t13 t20 t21 t22) r := by
 rw [qa4] at h
 rcases qaQ h with ⟨h1, h⟩ | ⟨h1, h⟩
 ·obtain ⟨x2, h3, h⟩ := qaH h
  obtain ⟨x4, h5, h⟩ := qaH h
  obtain ⟨x6, h7, h⟩ := qaH h
  rcases qaQ h with ⟨h8, h⟩ | ⟨h8, h⟩
  ·have h := oinj h; subst h
   exact wkR [.go, rg1, bTr, rgG [opI (.ix (qaF x2)), oo, oo], rgG [oo, oo, oo, opI (.call [[1], [1], [0]] [(tl 1 f qaC), (tl 1 x2 qaC), (ti .u32 p)] (TV.tup [(false, [(T.sl 1 (x4.1.map qaC))]), (false, [(T.int .i64 x4.2)])])), oo, oo, oo, oo, oo], rgG [oo, oo, opI (.call [[1], [0]] [(tl 1 x4.1 qaC), (ti .u32 p)] (ti .i64 x6)), oo], bTr, rg1] hn (aC h1 <| aC (qa1 h3) <| aC (qbS qaF h3) <| aC (qoW h5) <| aC (qkJ h7) <| aC h8 <| aN)
  ·exact wkG [.go, rg1, bTr, rgG [opI (.ix (qaF x2)), oo, oo], rgG [oo, oo, oo, opI (.call [[1], [1], [0]] [(tl 1 f qaC), (tl 1 x2 qaC), (ti .u32 p)] (TV.tup [(false, [(T.sl 1 (x4.1.map qaC))]), (false, [(T.int .i64 x4.2)])])), oo, oo, oo, oo, oo], rgG [oo, oo, opI (.call [[1], [0]] [(tl 1 x4.1 qaC), (ti .u32 p)] (ti .i64 x6)), oo], bFa, rg2, .pre [.keep [0,1,6,11,12,13,20,21,22] []]] hn (aC h1 <| aC (qa1 h3) <| aC (qbS qaF h3) <| aC (qoW h5) <| aC (qkJ h7) <| aC h8 <| aN) (ih _ _ h cx hn)
 ·exact wkG [.go, rg1, bFa, rg2, .pre [.keep [0,1,11,12,13] []]] hn (aC h1 <| aN) (ih _ _ h cx hn)
theorem qhJ : ∀ K : Nat, qiO K
 | 0, c, r, h => by rw [qa4] at h; cases h
 | K + 1, .c0 .., r, h => fun cx hn => q0G (qhJ K) hn h
 | K + 1, .c1 .., r, h => fun cx hn => q0F (qhJ K) hn h
 | K + 1, .c2 .., r, h => fun cx hn => q0E (qhJ K) hn h
theorem qbO {K : Nat} {l : (List (List Int))} {p : Int} {r : Bool} (h : qgJ K l p = some r) : qc5 prog 63 [(tl 1 l qaF), (ti .u32 p)] (TV.c (T.bool r)) :=
 qa0 [[0]] (by kernel_rfl) (by simp) fun cx hn => qhJ K (.c0 l p) r h cx hn
def prL (ls : List (List Int)) : List Int := ls.foldr mulL [1]
theorem zb6 : prL [] = [1] := rfl
theorem q4M (a : List Int) (ls : List (List Int)) : prL (a :: ls) = mulL a (prL ls) := rfl
theorem qwK (m : Int) (a b : List (List Int)) : pq m (prL (a ++ b)) = pq m (prL a) * pq m (prL b) := by
  induction a with
  | nil => rw [List.nil_append, zb6, q5U]; grind
  | cons x a ih => rw [List.cons_append, q4M, q4M, qgN, qgN, ih]; grind
theorem zg2 (m : Int) (a : List Int) : pq m (prL [a]) = pq m a := by rw [q4M, zb6, qgN, q5U]; grind
def oth (H : List (List Int)) (i : Nat) : List Int := prL (H.eraseIdx i)
theorem zoP (m : Int) {H : List (List Int)} {i : Nat} (h : i < H.length) : pq m (prL H) = pq m H[i] * pq m (oth H i) := by
  have e : H = H.take i ++ [H[i]] ++ H.drop (i + 1) := by rw [List.append_assoc]; simp
  have e2 : H.eraseIdx i = H.take i ++ H.drop (i + 1) := List.eraseIdx_eq_take_drop_succ H i
  unfold oth
  rw [e2]
  conv => lhs; rw [e]
  rw [qwK, qwK, qwK, zg2]; grind
theorem zm0 {H : List (List Int)} {i k : Nat} (h : k < H.length) : (H.take (k + 1)).eraseIdx i = if i = k then (H.take k).eraseIdx i else (H.take k).eraseIdx i ++ [H[k]] := by
  have e : H.take (k + 1) = H.take k ++ [H[k]] := by rw [List.take_add_one, List.getElem?_eq_getElem h]; rfl
  have hl : (H.take k).length = k := by rw [List.length_take]; omega
  rw [e]
  by_cases h1 : i < k
  · rw [List.eraseIdx_append_of_lt_length (by omega), if_neg (by omega)]
  · rw [List.eraseIdx_append_of_length_le (by omega), hl, List.eraseIdx_of_length_le (l := H.take k) (by omega)]
    by_cases h2 : i = k
    · rw [if_pos h2, h2, Nat.sub_self]; simp
    · rw [if_neg h2, List.eraseIdx_of_length_le (by simp; omega)]
structure Hs (p : Int) (H : List (List Int)) : Prop where
  pr : Pr p
  few : H.length ≤ 4
  cn : ∀ h ∈ H, Cn p h ∧ 2 ≤ h.length ∧ h.length ≤ 4
theorem Hs.at {p : Int} {H : List (List Int)} (h : Hs p H) {i : Nat} (hi : i < H.length) : Cn p H[i] ∧ 2 ≤ H[i].length ∧ H[i].length ≤ 4 := h.cn _ (List.getElem_mem hi)
theorem ztE {p : Int} (hp : Pr p) {f g : List Int} (hf : Cn p f) (hg : Cn p g) (hf2 : 2 ≤ f.length) (hfl : f.length ≤ 4) (hgl : g.length ≤ 4) :
    ∃ d, Ev (fun K => qtV K f g p) (d, 0) ∧ Cn p d ∧ d.length ≤ 4 ∧ (Cop p f g ∧ d.length = 1 ∨ ¬ Cop p f g ∧ 1 < d.length) := by
  obtain ⟨d, e1, e2⟩ := Gcd_ev hp hf hg (by omega) (by omega)
  have hs := e2.small
  refine ⟨d, e1, e2.cn, by omega, ?_⟩
  by_cases hc : Cop p f g
  · refine .inl ⟨hc, ?_⟩
    rw [ztD hp e2 hc]; rfl
  · refine .inr ⟨hc, ?_⟩
    apply Classical.byContradiction; intro hn
    exact hc (zrU e2 (by omega) (.inl (by omega)))
def Pw (p : Int) (H : List (List Int)) (i : Nat) : Prop := ∀ a b, (ha : a < H.length) → (hb : b < a) → i ≤ a → Cop p H[a] (H[b]'(by omega))
theorem zqZ {p : Int} {H : List (List Int)} (h : Hs p H) (i : Nat) (hi : i < H.length) {A : Prop} (next : ∃ e, Ev (fun K => qbM K (.c2 H p H H.length ((i + 1 : Nat) : Int))) e ∧ (e = 0 ∧ A ∨ e = 5 ∧ ¬ A)) :
    ∀ (m j : Nat), j + m = i → ∃ e, Ev (fun K => qbM K (.c3 H p H[i] H H.length i (H.take i) i j)) e ∧ (e = 0 ∧ (A ∧ ∀ b, (hb : b < i) → j ≤ b → Cop p H[i] (H[b]'(by omega))) ∨ e = 5 ∧ ¬ (A ∧ ∀ b, (hb : b < i) → j ≤ b → Cop p H[i] (H[b]'(by omega))))
  | 0, j, hj => by
    have hf := h.few
    obtain ⟨e, e1, e2⟩ := next
    refine ⟨e, ?_, ?_⟩
    · refine qaJ ?_
      simp only [qbM]
      rw [qbR (x := (i : Int) + 1) (by omega), show (i : Int) + 1 = ((i + 1 : Nat) : Int) by omega]
      exact ev_f (by simp; omega) e1
    · have : (∀ b, (hb : b < i) → j ≤ b → Cop p H[i] (H[b]'(by omega))) := fun b hb hjb => by omega
      rcases e2 with ⟨h1, h2⟩ | ⟨h1, h2⟩
      · exact .inl ⟨h1, h2, this⟩
      · exact .inr ⟨h1, fun h3 => h2 h3.1⟩
  | m + 1, j, hj => by
    have hf := h.few
    obtain ⟨c1, c2, c3⟩ := h.at hi
    obtain ⟨b1, b2, b3⟩ := h.at (show j < H.length by omega)
    obtain ⟨d, g1, g2, g3, g4⟩ := ztE h.pr c1 b1 c2 c3 b3
    have hget : gi (H.take i) (j : Int) = some (H[j]'(by omega)) := qsV (by rw [List.getElem?_take, if_pos (by omega), List.getElem?_eq_getElem (by omega)])
    rcases g4 with ⟨k1, k2⟩ | ⟨k1, k2⟩
    · obtain ⟨e, e1, e2⟩ := zqZ h i hi next m (j + 1) (by omega)
      refine ⟨e, ?_, ?_⟩
      · refine qaJ ?_
        simp only [qbM]
        rw [qbR (x := (j : Int) + 1) (by omega), show (j : Int) + 1 = ((j + 1 : Nat) : Int) by omega]
        exact ev_t (by simp; omega) (qa3 hget (qaG g1 (ev_f (by simp; omega) e1)))
      · have step : (∀ b, (hb : b < i) → j ≤ b → Cop p H[i] (H[b]'(by omega))) ↔ (∀ b, (hb : b < i) → j + 1 ≤ b → Cop p H[i] (H[b]'(by omega))) := by
          constructor
          · intro h1 b hb hjb; exact h1 b hb (by omega)
          · intro h1 b hb hjb
            by_cases hbj : b = j
            · subst hbj; exact k1
            · exact h1 b hb (by omega)
        rw [step]; exact e2
    · refine ⟨5, ?_, .inr ⟨rfl, fun h1 => k1 (h1.2 j (by omega) (Nat.le_refl _))⟩⟩
      refine qaJ ?_
      simp only [qbM]
      exact ev_t (by simp; omega) (qa3 hget (qaG g1 (ev_t (by simp; omega) (qaT _))))
theorem zq0 {p : Int} {H : List (List Int)} (h : Hs p H) : ∀ (m i : Nat), i + m = H.length → ∃ e, Ev (fun K => qbM K (.c2 H p H H.length i)) e ∧ (e = 0 ∧ Pw p H i ∨ e = 5 ∧ ¬ Pw p H i)
  | 0, i, hi => by
    refine ⟨0, ?_, .inl ⟨rfl, fun a b ha hb hia => by omega⟩⟩
    refine qaJ ?_
    simp only [qbM]
    exact ev_f (by simp; omega) (qaT _)
  | m + 1, i, hi => by
    have hf := h.few
    obtain ⟨e, e1, e2⟩ := zqZ h i (by omega) (zq0 h m (i + 1) (by omega)) i 0 (by omega)
    refine ⟨e, ?_, ?_⟩
    · refine qaJ ?_
      simp only [qbM]
      refine ev_t (by simp; omega) (qa3 (qbN (by omega)) (qeZ (by omega) ?_))
      rw [Int.toNat_natCast, show (H.take i).length = i by rw [List.length_take]; omega]
      exact e1
    · have step : Pw p H i ↔ (Pw p H (i + 1) ∧ ∀ b, (hb : b < i) → 0 ≤ b → Cop p (H[i]'(by omega)) (H[b]'(by omega))) := by
        constructor
        · intro h1; exact ⟨fun a b ha hb hia => h1 a b ha hb (by omega), fun b hb _ => h1 i b (by omega) hb (Nat.le_refl _)⟩
        · intro h1 a b ha hb hia
          by_cases hai : a = i
          · subst hai; exact h1.2 b hb (Nat.zero_le _)
          · exact h1.1 a b ha hb (by omega)
      rw [step]; exact e2
theorem zq1 {p : Int} {H : List (List Int)} (h : Hs p H) : ∀ (m i : Nat), i + m = H.length → ∃ e, Ev (fun K => qbM K (.c1 H p H H.length i)) e ∧ (e = 0 ∧ Pw p H 0 ∨ e = 5 ∧ ¬ Pw p H 0)
  | 0, i, hi => by
    obtain ⟨e, e1, e2⟩ := zq0 h _ 0 (Nat.zero_add _)
    refine ⟨e, ?_, e2⟩
    refine qaJ ?_
    simp only [qbM]
    exact ev_f (by simp; omega) e1
  | m + 1, i, hi => by
    have hr := h.pr.range
    have hf := h.few
    obtain ⟨c1, c2, c3⟩ := h.at (show i < H.length by omega)
    obtain ⟨e, e1, e2⟩ := zq1 h m (i + 1) (by omega)
    refine ⟨e, ?_, e2⟩
    refine qaJ ?_
    simp only [qbM]
    have hd := qzR hr (qkG hr.2 c1) (by omega)
    rw [q3U c1] at hd
    rw [qbR (by omega), show (i : Int) + 1 = ((i + 1 : Nat) : Int) by omega]
    exact ev_t (by simp; omega) (qa3 (qbN (by omega)) (qaG hd (ev_f (by simp; omega) e1)))
theorem znW {p : Int} {H : List (List Int)} (h : Hs p H) : ∃ e, Ev (fun K => qyR K H p) e ∧ (e = 0 ∧ Pw p H 0 ∨ e = 5 ∧ ¬ Pw p H 0) := by
  obtain ⟨e, e1, e2⟩ := zq1 h _ 0 (Nat.zero_add _)
  refine ⟨e, ?_, e2⟩
  refine qaJ ?_
  simp only [qyR, qbM]
  exact e1
theorem zm2 {p : Int} {H : List (List Int)} (h : Hs p H) (i : Nat) (hi : i < H.length) {A : Prop} (next : ∃ e, Ev (fun K => qa4 K (.c1 H p H H.length ((i + 1 : Nat) : Int))) e ∧ (e = true ∧ A ∨ e = false ∧ ¬ A)) :
    ∀ (m j : Nat), j + m = i → ∃ e, Ev (fun K => qa4 K (.c2 H p H[i] H H.length i (H.take i) i j)) e ∧ (e = true ∧ (A ∧ ∀ b, (hb : b < i) → j ≤ b → Cop p H[i] (H[b]'(by omega))) ∨ e = false ∧ ¬ (A ∧ ∀ b, (hb : b < i) → j ≤ b → Cop p H[i] (H[b]'(by omega))))
  | 0, j, hj => by
    have hf := h.few
    obtain ⟨e, e1, e2⟩ := next
    refine ⟨e, ?_, ?_⟩
    · refine qaJ ?_
      simp only [qa4]
      rw [qbR (x := (i : Int) + 1) (by omega), show (i : Int) + 1 = ((i + 1 : Nat) : Int) by omega]
      exact ev_f (by simp; omega) e1
    · have : (∀ b, (hb : b < i) → j ≤ b → Cop p H[i] (H[b]'(by omega))) := fun b hb hjb => by omega
      rcases e2 with ⟨h1, h2⟩ | ⟨h1, h2⟩
      · exact .inl ⟨h1, h2, this⟩
      · exact .inr ⟨h1, fun h3 => h2 h3.1⟩
  | m + 1, j, hj => by
    have hf := h.few
    have hr := h.pr.range
    have deg : ∀ d : List Int, Cn p d → d.length ≤ 4 → Ev (fun K => qmQ K d p) ((d.length : Int) - 1) := fun d hd hl => by
      have := qzR hr (qkG hr.2 hd) (by omega)
      rwa [q3U hd] at this
    obtain ⟨c1, c2, c3⟩ := h.at hi
    obtain ⟨b1, b2, b3⟩ := h.at (show j < H.length by omega)
    obtain ⟨d, g1, g2, g3, g4⟩ := ztE h.pr c1 b1 c2 c3 b3
    have hget : gi (H.take i) (j : Int) = some (H[j]'(by omega)) := qsV (by rw [List.getElem?_take, if_pos (by omega), List.getElem?_eq_getElem (by omega)])
    rcases g4 with ⟨k1, k2⟩ | ⟨k1, k2⟩
    · obtain ⟨e, e1, e2⟩ := zm2 h i hi next m (j + 1) (by omega)
      refine ⟨e, ?_, ?_⟩
      · refine qaJ ?_
        simp only [qa4]
        rw [qbR (x := (j : Int) + 1) (by omega), show (j : Int) + 1 = ((j + 1 : Nat) : Int) by omega]
        exact ev_t (by simp; omega) (qa3 hget (qaG g1 (qaG (deg d g2 g3) (ev_f (by simp; omega) e1))))
      · have step : (∀ b, (hb : b < i) → j ≤ b → Cop p H[i] (H[b]'(by omega))) ↔ (∀ b, (hb : b < i) → j + 1 ≤ b → Cop p H[i] (H[b]'(by omega))) := by
          constructor
          · intro h1 b hb hjb; exact h1 b hb (by omega)
          · intro h1 b hb hjb
            by_cases hbj : b = j
            · subst hbj; exact k1
            · exact h1 b hb (by omega)
        rw [step]; exact e2
    · refine ⟨false, ?_, .inr ⟨rfl, fun h1 => k1 (h1.2 j (by omega) (Nat.le_refl _))⟩⟩
      refine qaJ ?_
      simp only [qa4]
      exact ev_t (by simp; omega) (qa3 hget (qaG g1 (qaG (deg d g2 g3) (ev_t (by simp; omega) (qaT _)))))
theorem zm3 {p : Int} {H : List (List Int)} (h : Hs p H) : ∀ (m i : Nat), i + m = H.length → ∃ e, Ev (fun K => qa4 K (.c1 H p H H.length i)) e ∧ (e = true ∧ Pw p H i ∨ e = false ∧ ¬ Pw p H i)
  | 0, i, hi => by
    refine ⟨true, ?_, .inl ⟨rfl, fun a b ha hb hia => by omega⟩⟩
    refine qaJ ?_
    simp only [qa4]
    exact ev_f (by simp; omega) (qaT _)
  | m + 1, i, hi => by
    have hf := h.few
    obtain ⟨e, e1, e2⟩ := zm2 h i (by omega) (zm3 h m (i + 1) (by omega)) i 0 (by omega)
    refine ⟨e, ?_, ?_⟩
    · refine qaJ ?_
      simp only [qa4]
      refine ev_t (by simp; omega) (qa3 (qbN (by omega)) (qeZ (by omega) ?_))
      rw [Int.toNat_natCast, show (H.take i).length = i by rw [List.length_take]; omega]
      exact e1
    · have step : Pw p H i ↔ (Pw p H (i + 1) ∧ ∀ b, (hb : b < i) → 0 ≤ b → Cop p (H[i]'(by omega)) (H[b]'(by omega))) := by
        constructor
        · intro h1; exact ⟨fun a b ha hb hia => h1 a b ha hb (by omega), fun b hb _ => h1 i b (by omega) hb (Nat.le_refl _)⟩
        · intro h1 a b ha hb hia
          by_cases hai : a = i
          · subst hai; exact h1.2 b hb (Nat.zero_le _)
          · exact h1.1 a b ha hb (by omega)
      rw [step]; exact e2
theorem zrT {p : Int} {H : List (List Int)} (h : Hs p H) : ∃ e, Ev (fun K => qgJ K H p) e ∧ (e = true ∧ Pw p H 0 ∨ e = false ∧ ¬ Pw p H 0) := by
  obtain ⟨e, e1, e2⟩ := zm3 h _ 0 (Nat.zero_add _)
  refine ⟨e, ?_, e2⟩
  refine qaJ ?_
  simp only [qgJ, qa4]
  exact e1
structure Gs (p : Int) (H : List (List Int)) (i : Nat) (h s : List Int) : Prop where
  cn : Cn p s
  short : s.length < h.length
  inv : ∃ w, pq p s * pq p (oth H i) = 1 + pq p w * pq p h
theorem pw_cop {p : Int} {H : List (List Int)} (hw : Pw p H 0) {a b : Nat} (ha : a < H.length) (hb : b < H.length) (hab : a ≠ b) : Cop p H[a] H[b] := by
  by_cases h : b < a
  · exact hw a b ha h (Nat.zero_le _)
  · exact (hw b a hb (by omega) (Nat.zero_le _)).symm
theorem ztL {p : Int} {a : List Int} : ∀ ls : List (List Int), (∀ x ∈ ls, Cop p a x) → Cop p a (prL ls)
  | [], _ => Cop.one a
  | x :: ls, h => (h x (List.mem_cons_self ..)).mul (ztL ls fun y hy => h y (List.mem_cons_of_mem _ hy))
theorem zxP {p : Int} {H : List (List Int)} (hw : Pw p H 0) {i : Nat} (hi : i < H.length) : Cop p H[i] (oth H i) := by
  refine ztL _ fun x hx => ?_
  obtain ⟨j, hj, hne, rfl⟩ := List.mem_eraseIdx_iff_getElem.1 hx
  exact pw_cop hw hi (by omega) (fun e => by omega)
theorem znR {p : Int} {H : List (List Int)} (h : Hs p H) (hw : Pw p H 0) {i : Nat} (hi : i < H.length) {o : List Int} (ho : Cn p o) (hol : o.length ≤ 1000) (hoq : pq p o = pq p (oth H i)) :
    ∃ s, Gs p H i H[i] s ∧ ∀ {α : Type} (F : Nat → List Int → Option α) (res : α), Ev (fun K => F K s) res →
      Ev (fun K => (qlG K o H[i] p).bind fun x2 => (gi x2.1 (0 : Int)).bind fun x4 => (qb0 K x4 p).bind fun x6 => (qeC K x2.2.1 x6.1 p).bind fun x8 => (qdR K x8 H[i] p).bind fun x10 => F K x10.2.1) res := by
  have hr := h.pr.range
  obtain ⟨c1, c2, c3⟩ := h.at hi
  obtain ⟨u, v, x1, x2, x3, w, x4⟩ := zxX h.pr ho c1 c2 (by omega) (by omega) ((zxP hw hi).congr hoq.symm).symm
  obtain ⟨j, j1, j2, j3, j4⟩ := qgP h.pr (a := 1) (by omega)
  have hj : j = 1 := by rw [Int.one_mul, Int.emod_eq_of_lt j2 j3] at j4; exact j4
  subst hj
  have hsc := qqA (f := u) (p := p) (c := 1)
  have hsl := qkK p (u.map (· * 1))
  rw [List.length_map] at hsl
  obtain ⟨q, r, d1, d2, d3, d4⟩ := zpA h.pr (qm2 (by omega) (u.map (· * 1))) c1 (by omega) (by omega) (by omega)
  refine ⟨r, ⟨d2, d3, mi w (mulL q (oth H i)), ?_⟩, fun F res hF => ?_⟩
  · have h1 : qint p 1 = 1 := zgC ⟨0, by omega⟩
    rw [hsc, h1] at d4
    rw [hoq] at x4
    rw [zpO, qgN]
    grind
  · exact qaG x1 (qa3 (show gi [1] (0 : Int) = some 1 from rfl) (qaG j1 (qaG (qmC hr (qkG hr.2 x2) (by decide) (by simp only; omega)) (qaG d1 hF))))
def Ps (p : Int) (H : List (List Int)) (res : List (List Int)) : Prop := res.length = H.length ∧ ∀ i, (hi : i < H.length) → ∃ s, res[i]? = some s ∧ Gs p H i H[i] s
structure Os (p : Int) (H : List (List Int)) (i k : Nat) (o : List Int) : Prop where
  cn : Cn p o
  len : o.length ≤ 1 + 4 * k
  eq : pq p o = pq p (prL ((H.take k).eraseIdx i))
theorem zv2 {p : Int} (hp : Pr p) (H : List (List Int)) (i : Nat) : Os p H i 0 [1] := by
  have := hp.range
  exact ⟨⟨fun x hx => by simp at hx; omega, rfl⟩, by simp, by simp [zb6]⟩
theorem znG {p : Int} {H : List (List Int)} {i : Nat} {o : List Int} (h : Os p H i i o) (hi : i < H.length) : Os p H i (i + 1) o := ⟨h.cn, by have := h.len; omega, by rw [zm0 hi, if_pos rfl]; exact h.eq⟩
theorem zqP {p : Int} {H : List (List Int)} (hh : Hs p H) {i k : Nat} {o : List Int} (h : Os p H i k o) (hk : k < H.length) (hne : ¬ i = k) :
    Ev (fun K => qdO K o H[k] p) (modL p (mulL o H[k])) ∧ Os p H i (k + 1) (modL p (mulL o H[k])) := by
  have hr := hh.pr.range
  obtain ⟨c1, c2, c3⟩ := hh.at hk
  have hl := h.len
  have hf := hh.few
  refine ⟨qmO hr (qkG hr.2 h.cn) (qkG hr.2 c1) (by omega) (by omega), qm2 (by omega) _, ?_, ?_⟩
  · have := qkK p (mulL o H[k]); rw [qv9] at this; omega
  · rw [qpC, qgN, zm0 hk, if_neg hne, qwK, zg2, h.eq]
theorem zwJ {p : Int} {H : List (List Int)} (h : Hs p H) (hw : Pw p H 0) {i : Nat} (hi : i < H.length) (fin : ∀ s, Gs p H i H[i] s → ∃ res, Ev (fun K => qaI K (.c5 [s] H p H H.length ((i + 1 : Nat) : Int))) res ∧ Ps p H res) :
    ∀ (m k : Nat) (o : List Int), k + m = H.length → Os p H i k o → ∃ res, Ev (fun K => qaI K (.c6 H p i H[i] o H H.length i H H.length k)) res ∧ Ps p H res
  | 0, k, o, hk, ho => by
    have hf := h.few
    have hl := ho.len
    have heq := ho.eq
    rw [List.take_of_length_le (by omega)] at heq
    obtain ⟨s, g1, g2⟩ := znR h hw hi ho.cn (by omega) heq
    obtain ⟨res, e1, e2⟩ := fin s g1
    refine ⟨res, ?_, e2⟩
    refine qaJ ?_
    simp only [qaI]
    rw [qbR (x := (i : Int) + 1) (by omega), show (i : Int) + 1 = ((i + 1 : Nat) : Int) by omega]
    exact ev_f (by simp; omega) (g2 (fun K s => qaI K (.c5 [s] H p H H.length ((i + 1 : Nat) : Int))) res e1)
  | m + 1, k, o, hk, ho => by
    have hf := h.few
    have hkl : k < H.length := by omega
    have next : ∀ o', Os p H i (k + 1) o' → ∃ res, Ev (fun K => qaI K (.c3 H p i H[i] o' H H.length i H H.length k)) res ∧ Ps p H res := by
      intro o' h'
      obtain ⟨res, e1, e2⟩ := zwJ h hw hi fin m (k + 1) o' (by omega) h'
      refine ⟨res, ?_, e2⟩
      refine qaJ ?_
      simp only [qaI]
      rw [qbR (by omega), show (k : Int) + 1 = ((k + 1 : Nat) : Int) by omega]
      exact e1
    by_cases hik : i = k
    · subst hik
      obtain ⟨res, e1, e2⟩ := next o (znG ho hkl)
      refine ⟨res, ?_, e2⟩
      refine qaJ ?_
      simp only [qaI]
      exact ev_t (by simp; omega) (qa3 (qbN hkl) (ev_f (by simp) e1))
    · obtain ⟨m1, m2⟩ := zqP h ho hkl hik
      obtain ⟨res, e1, e2⟩ := next _ m2
      refine ⟨res, ?_, e2⟩
      refine qaJ ?_
      simp only [qaI]
      exact ev_t (by simp; omega) (qa3 (qbN hkl) (ev_t (by simp; omega) (qaG m1 e1)))
theorem zwL {p : Int} {H : List (List Int)} (h : Hs p H) (hw : Pw p H 0) {i : Nat} (hi : i < H.length) (fin : ∀ s, Gs p H i H[i] s → ∃ res, Ev (fun K => qaI K (.c5 [s] H p H H.length ((i + 1 : Nat) : Int))) res ∧ Ps p H res) :
    ∀ (m k : Nat), k + m = H.length → Os p H i k [1] → ∃ res, Ev (fun K => qaI K (.c2 [1] H p i H[i] H H.length i H H.length k)) res ∧ Ps p H res
  | 0, k, hk, ho => by
    have hf := h.few
    have heq := ho.eq
    rw [List.take_of_length_le (by omega)] at heq
    obtain ⟨s, g1, g2⟩ := znR h hw hi ho.cn (by simp) heq
    obtain ⟨res, e1, e2⟩ := fin s g1
    refine ⟨res, ?_, e2⟩
    refine qaJ ?_
    simp only [qaI]
    rw [qbR (x := (i : Int) + 1) (by omega), show (i : Int) + 1 = ((i + 1 : Nat) : Int) by omega]
    exact ev_f (by simp; omega) (g2 (fun K s => qaI K (.c5 [s] H p H H.length ((i + 1 : Nat) : Int))) res e1)
  | m + 1, k, hk, ho => by
    have hf := h.few
    have hkl : k < H.length := by omega
    by_cases hik : i = k
    · subst hik
      obtain ⟨res, e1, e2⟩ := zwL h hw hi fin m (i + 1) (by omega) (znG ho hkl)
      refine ⟨res, ?_, e2⟩
      refine qaJ ?_
      simp only [qaI]
      refine ev_t (by simp; omega) (qa3 (qbN hkl) (ev_f (by simp) ?_))
      refine qaJ ?_
      simp only [qaI]
      rw [qbR (by omega), show (i : Int) + 1 = ((i + 1 : Nat) : Int) by omega]
      exact e1
    · obtain ⟨m1, m2⟩ := zqP h ho hkl hik
      obtain ⟨res, e1, e2⟩ := zwJ h hw hi fin m (k + 1) _ (by omega) m2
      refine ⟨res, ?_, e2⟩
      refine qaJ ?_
      simp only [qaI]
      refine ev_t (by simp; omega) (qa3 (qbN hkl) (ev_t (by simp; omega) (qaG m1 ?_)))
      refine qaJ ?_
      simp only [qaI]
      rw [qbR (by omega), show (k : Int) + 1 = ((k + 1 : Nat) : Int) by omega]
      exact e1
theorem ztM {p : Int} {H : List (List Int)} (h : Hs p H) (hw : Pw p H 0) {i : Nat} (hi : i < H.length) {S : List (List Int)} (hS : S.length ≤ 10) (fin : ∀ s, Gs p H i H[i] s → ∃ res, Ev (fun K => qaI K (.c5 (S ++ [s]) H p H H.length ((i + 1 : Nat) : Int))) res ∧ Ps p H res) :
    ∀ (m k : Nat) (o : List Int), k + m = H.length → Os p H i k o → ∃ res, Ev (fun K => qaI K (.c10 S H p i H[i] o H H.length i H H.length k)) res ∧ Ps p H res
  | 0, k, o, hk, ho => by
    have hf := h.few
    have hl := ho.len
    have heq := ho.eq
    rw [List.take_of_length_le (by omega)] at heq
    obtain ⟨s, g1, g2⟩ := znR h hw hi ho.cn (by omega) heq
    obtain ⟨res, e1, e2⟩ := fin s g1
    refine ⟨res, ?_, e2⟩
    refine qaJ ?_
    simp only [qaI]
    rw [qbR (x := (i : Int) + 1) (by omega), show (i : Int) + 1 = ((i + 1 : Nat) : Int) by omega]
    exact ev_f (by simp; omega) (g2 (fun K s => gd ((S ++ [s]).length * 24 ≤ 140737488355328) <| qaI K (.c5 (S ++ [s]) H p H H.length ((i + 1 : Nat) : Int))) res (qeZ (by simp; omega) e1))
  | m + 1, k, o, hk, ho => by
    have hf := h.few
    have hkl : k < H.length := by omega
    have next : ∀ o', Os p H i (k + 1) o' → ∃ res, Ev (fun K => qaI K (.c8 S H p i H[i] o' H H.length i H H.length k)) res ∧ Ps p H res := by
      intro o' h'
      obtain ⟨res, e1, e2⟩ := ztM h hw hi hS fin m (k + 1) o' (by omega) h'
      refine ⟨res, ?_, e2⟩
      refine qaJ ?_
      simp only [qaI]
      rw [qbR (by omega), show (k : Int) + 1 = ((k + 1 : Nat) : Int) by omega]
      exact e1
    by_cases hik : i = k
    · subst hik
      obtain ⟨res, e1, e2⟩ := next o (znG ho hkl)
      refine ⟨res, ?_, e2⟩
      refine qaJ ?_
      simp only [qaI]
      exact ev_t (by simp; omega) (qa3 (qbN hkl) (ev_f (by simp) e1))
    · obtain ⟨m1, m2⟩ := zqP h ho hkl hik
      obtain ⟨res, e1, e2⟩ := next _ m2
      refine ⟨res, ?_, e2⟩
      refine qaJ ?_
      simp only [qaI]
      exact ev_t (by simp; omega) (qa3 (qbN hkl) (ev_t (by simp; omega) (qaG m1 e1)))
theorem zwI {p : Int} {H : List (List Int)} (h : Hs p H) (hw : Pw p H 0) {i : Nat} (hi : i < H.length) {S : List (List Int)} (hS : S.length ≤ 10) (fin : ∀ s, Gs p H i H[i] s → ∃ res, Ev (fun K => qaI K (.c5 (S ++ [s]) H p H H.length ((i + 1 : Nat) : Int))) res ∧ Ps p H res) :
    ∀ (m k : Nat), k + m = H.length → Os p H i k [1] → ∃ res, Ev (fun K => qaI K (.c7 [1] S H p i H[i] H H.length i H H.length k)) res ∧ Ps p H res
  | 0, k, hk, ho => by
    have hf := h.few
    have heq := ho.eq
    rw [List.take_of_length_le (by omega)] at heq
    obtain ⟨s, g1, g2⟩ := znR h hw hi ho.cn (by simp) heq
    obtain ⟨res, e1, e2⟩ := fin s g1
    refine ⟨res, ?_, e2⟩
    refine qaJ ?_
    simp only [qaI]
    rw [qbR (x := (i : Int) + 1) (by omega), show (i : Int) + 1 = ((i + 1 : Nat) : Int) by omega]
    exact ev_f (by simp; omega) (g2 (fun K s => gd ((S ++ [s]).length * 24 ≤ 140737488355328) <| qaI K (.c5 (S ++ [s]) H p H H.length ((i + 1 : Nat) : Int))) res (qeZ (by simp; omega) e1))
  | m + 1, k, hk, ho => by
    have hf := h.few
    have hkl : k < H.length := by omega
    by_cases hik : i = k
    · subst hik
      obtain ⟨res, e1, e2⟩ := zwI h hw hi hS fin m (i + 1) (by omega) (znG ho hkl)
      refine ⟨res, ?_, e2⟩
      refine qaJ ?_
      simp only [qaI]
      refine ev_t (by simp; omega) (qa3 (qbN hkl) (ev_f (by simp) ?_))
      refine qaJ ?_
      simp only [qaI]
      rw [qbR (by omega), show (i : Int) + 1 = ((i + 1 : Nat) : Int) by omega]
      exact e1
    · obtain ⟨m1, m2⟩ := zqP h ho hkl hik
      obtain ⟨res, e1, e2⟩ := ztM h hw hi hS fin m (k + 1) _ (by omega) m2
      refine ⟨res, ?_, e2⟩
      refine qaJ ?_
      simp only [qaI]
      refine ev_t (by simp; omega) (qa3 (qbN hkl) (ev_t (by simp; omega) (qaG m1 ?_)))
      refine qaJ ?_
      simp only [qaI]
      rw [qbR (by omega), show (k : Int) + 1 = ((k + 1 : Nat) : Int) by omega]
      exact e1
theorem zwK {p : Int} {H : List (List Int)} (h : Hs p H) (hw : Pw p H 0) : ∀ (m i : Nat) (S : List (List Int)), i + m = H.length → S.length = i → (∀ j, (hj : j < H.length) → j < i → ∃ s, S[j]? = some s ∧ Gs p H j H[j] s) →
    ∃ res, Ev (fun K => qaI K (.c5 S H p H H.length i)) res ∧ Ps p H res
  | 0, i, S, hi, hS, hg => by
    refine ⟨S, ?_, by omega, fun j hj => hg j hj (by omega)⟩
    refine qaJ ?_
    simp only [qaI]
    exact ev_f (by simp; omega) (qaT _)
  | m + 1, i, S, hi, hS, hg => by
    have hf := h.few
    have hil : i < H.length := by omega
    obtain ⟨res, e1, e2⟩ := zwI h hw hil (S := S) (by omega) (fun s hs => zwK h hw m (i + 1) (S ++ [s]) (by omega) (by simp; omega) (fun j hj hji => by
      by_cases hje : j = i
      · subst hje
        exact ⟨s, by rw [List.getElem?_append_right (by omega), hS, Nat.sub_self]; rfl, hs⟩
      · obtain ⟨t, t1, t2⟩ := hg j hj (by omega)
        exact ⟨t, by rw [List.getElem?_append_left (by omega)]; exact t1, t2⟩)) _ 0 (Nat.zero_add _) (zv2 h.pr H i)
    refine ⟨res, ?_, e2⟩
    refine qaJ ?_
    simp only [qaI]
    exact ev_t (by simp; omega) (qa3 (qbN hil) e1)
theorem zo4 {p : Int} {H : List (List Int)} (h : Hs p H) (hw : Pw p H 0) : ∃ res, Ev (fun K => qqI K H p) res ∧ Ps p H res := by
  have hf := h.few
  suffices hs : ∃ res, Ev (fun K => qaI K (.c1 H p H H.length 0)) res ∧ Ps p H res by
    obtain ⟨res, e1, e2⟩ := hs
    refine ⟨res, ?_, e2⟩
    refine qaJ ?_
    simp only [qqI, qaI]
    exact e1
  by_cases h0 : H.length = 0
  · refine ⟨[], ?_, by simp [h0], fun i hi => absurd hi (by omega)⟩
    refine qaJ ?_
    simp only [qaI]
    exact ev_f (by rw [h0]; rfl) (qaT _)
  · have hil : 0 < H.length := by omega
    obtain ⟨res, e1, e2⟩ := zwL h hw hil (fun s hs => zwK h hw (H.length - 1) 1 [s] (by omega) rfl (fun j hj hji => by
      have : j = 0 := by omega
      subst this
      exact ⟨s, rfl, hs⟩)) _ 0 (Nat.zero_add _) (zv2 h.pr H 0)
    refine ⟨res, ?_, e2⟩
    refine qaJ ?_
    simp only [qaI]
    exact ev_t (by simp; omega) (qa3 (ztC (by decide) (by simpa using hil)) e1)
structure Fs (p : Int) (G H : List (List Int)) : Prop where
  hs : Hs p H
  len : G.length = H.length
  at_ : ∀ i, (hi : i < G.length) → (hj : i < H.length) → G[i].length = H[i].length ∧ co G[i] (G[i].length - 1) = 1 ∧ H[i] = modL p G[i] ∧ ∀ x ∈ G[i], x.natAbs ≤ 128
theorem zqU {P : Int} {A B : List Int} (h : Cong P (co A) (co B)) : ∃ E : List Int, (∀ k, co A k - co B k = P * co E k) ∧ E.length = max A.length B.length := by
  refine ⟨(List.range (max A.length B.length)).map fun k => (co A k - co B k) / P, fun k => ?_, by simp⟩
  by_cases hk : k < max A.length B.length
  · rw [qdP (l := (List.range _).map _) (by simp; omega)]
    simp only [List.getElem_map, List.getElem_range]
    exact (Int.mul_ediv_cancel' (h k)).symm
  · rw [qdH (l := (List.range _).map _) (by simp; omega), qdH (l := A) (by omega), qdH (l := B) (by omega)]; simp
theorem zsL {P : Int} {A B E : List Int} : pq 0 A - pq 0 B = qint 0 P * pq 0 E ↔ ∀ k, co A k - co B k = P * co E k := by
  have e : qint 0 P * pq 0 E = mq 0 (fun k => P * co E k) := qyE P (co E)
  rw [e, show pq 0 A - pq 0 B = mq 0 (fun k => co A k - co B k) from rfl, zoS]
  constructor
  · intro h k
    have := Int.zero_dvd.1 (h k)
    simp only at this
    omega
  · intro h k
    show 0 ∣ co A k - co B k - P * co E k
    rw [h k, Int.sub_self]; exact Int.dvd_zero 0
theorem zpN {m : Int} {f : List Int → List Int} (hf : ∀ l, pq m (f l) = pq m l) (ls : List (List Int)) : pq m (prL (ls.map f)) = pq m (prL ls) := by
  induction ls with
  | nil => rfl
  | cons a ls ih => rw [List.map_cons, q4M, q4M, qgN, qgN, hf, ih]
theorem zsO {m : Int} {f : List Int → List Int} (hf : ∀ l, pq m (f l) = pq m l) (ls : List (List Int)) (i : Nat) : pq m (oth (ls.map f) i) = pq m (oth ls i) := by
  unfold oth
  rw [show (ls.map f).eraseIdx i = (ls.eraseIdx i).map f by rw [List.eraseIdx_eq_take_drop_succ, List.eraseIdx_eq_take_drop_succ, List.map_append, List.map_take, List.map_drop]]
  exact zpN hf _
theorem q65 (m : Int) (l : List Int) : pq m (redL m l) = pq m l := qzF.2 (zgZ m l)
theorem pq_dvd {m n : Int} (h : n ∣ m) {A B : List Int} (e : pq m A = pq m B) : pq n A = pq n B := qzF.2 fun k => Int.dvd_trans h (qzF.1 e k)
theorem Fs.list {p : Int} {G H : List (List Int)} (h : Fs p G H) : H = G.map (modL p) := by
  apply List.ext_getElem (by simp [h.len])
  intro i h1 h2
  have hi : i < G.length := by rw [h.len]; exact h1
  rw [(h.at_ i hi h1).2.2.1]; simp
theorem zuX {p P : Int} {G H S : List (List Int)} (h : Fs p G H) (hS : Ps p H S) (hpP : p ∣ P) (hP2 : 2 ≤ P) {i : Nat} (hi : i < G.length) (hj : i < H.length) {s C : List Int} (hs : S[i]? = some s)
    (hC : ∀ D : List Int, (∀ k, co (prL G) k - co (prL (G.map (redL P))) k = P * co D k) → pq p C = pq p D) {q r : List Int} (hr : Cn p r) (hrl : r.length < H[i].length) (hd : pq p C * pq p s = pq p q * pq p H[i] + pq p r) :
    Cong (P * p) (co (pl (redL P G[i]) ((redL p r).map (P * ·)))) (co G[i]) := by
  have hp := h.hs.pr
  have hr2 := hp.range
  obtain ⟨g1, g2, g3, g4⟩ := h.at_ i hi hj
  obtain ⟨c1, c2, c3⟩ := h.hs.at hj
  -- the difference of this factor
  obtain ⟨δ, d1, d2⟩ := zqU (P := P) (A := G[i]) (B := redL P G[i]) ((zgZ P G[i]).symm)
  obtain ⟨E, e1, _⟩ := zqU (P := P) (A := oth G i) (B := oth (G.map (redL P)) i) (qzF.1 (zsO (m := P) (f := redL P) (q65 P) G i).symm)
  have dq := zsL.2 d1
  have eq := zsL.2 e1
  have hG := zoP 0 hi
  have hN := zoP 0 (H := G.map (redL P)) (i := i) (by simp; exact hi)
  rw [List.getElem_map] at hN
  have hD : ∀ k, co (prL G) k - co (prL (G.map (redL P))) k = P * co (pl (mulL δ (oth G i)) (mulL (redL P G[i]) E)) k := by
    rw [← zsL, hG, hN, zoQ, qgN, qgN]
    grind
  have hCD := hC _ hD
  rw [zoQ, qgN, qgN] at hCD
  -- modulo p
  have eA : pq p (oth G i) = pq p (oth H i) := by rw [h.list]; exact (zsO (fun l => qpC p l) G i).symm
  have eN : pq p (redL P G[i]) = pq p H[i] := by rw [g3, qpC]; exact pq_dvd hpP (q65 P G[i])
  rw [eA, eN] at hCD
  obtain ⟨s', s1, s2⟩ := hS.2 i hj
  rw [hs] at s1
  have s1 := Option.some.inj s1
  subst s1
  obtain ⟨w, hw⟩ := s2.inv
  -- the remainder is δ
  have hlen : (modL p δ).length < H[i].length := by
    have hz : co δ (G[i].length - 1) = 0 := by
      have h1 := d1 (G[i].length - 1)
      have h3 : co (redL P G[i]) (G[i].length - 1) = 1 := by
        rw [zjX]
        show sym (co G[i] (G[i].length - 1)) P = 1
        rw [g2]; exact zn9 (by omega) (by omega)
      rw [g2, h3, Int.sub_self] at h1
      exact (Int.mul_eq_zero.1 h1.symm).resolve_left (show P ≠ 0 by omega)
    have h4 := qm9 P G[i]
    have h5 : (modL p δ).length ≤ H[i].length - 1 := by
      apply Classical.byContradiction; intro hn
      have h6 := qkK p δ
      have h7 : (modL p δ).length = H[i].length := by omega
      have h8 := zdY (qm2 (p := p) (by omega) δ) (by omega)
      rw [h7, qy9] at h8
      rw [g1] at hz
      simp only [hz, Int.zero_emod] at h8
      omega
    omega
  have hrd : r = modL p δ := by
    refine zuP hp c1 hr (qm2 (by omega) δ) hrl hlen (pl (mi (mulL δ w) q) (mulL E s)) ?_
    rw [qpC, zoQ, zpO, qgN, qgN]
    grind
  -- the sum
  intro k
  have h9 : co (pl (redL P G[i]) ((redL p r).map (P * ·))) k = co (redL P G[i]) k + P * sym (co r k) p := by
    unfold pl
    rw [znU (by omega) (by omega)]
    simp only
    congr 1
    have : ∀ l : List Int, co (l.map (P * ·)) k = P * co l k := by
      intro l
      simp only [co, List.getD_eq_getElem?_getD, List.getElem?_map]
      cases l[k]? <;> simp
    rw [this, zjX]
  rw [h9]
  have h10 : p ∣ sym (co r k) p - co δ k := by
    have a1 := znD (co r k) p
    have a2 := zoT p δ k
    rw [← hrd] at a2
    have := Int.dvd_add a1 a2
    rwa [show sym (co r k) p - co r k + (co r k - co δ k) = sym (co r k) p - co δ k by omega] at this
  obtain ⟨z, hz⟩ := h10
  have h11 := d1 k
  refine ⟨z, ?_⟩
  rw [Int.mul_assoc, ← hz, Int.mul_sub]
  omega
structure Lc (p P top : Int) (G H S : List (List Int)) (GO : List Int) : Prop where
  fs : Fs p G H
  ps : Ps p H S
  P2 : 2 ≤ P
  pP : p ∣ P
  Pt : P * p ∣ top
  t0 : 0 < top
  tl : top ≤ 4096
  go : Cong top (co GO) (co (prL G))
  gb : Bd 1 GO
  gl : GO.length ≤ 1000
def now (P : Int) (G : List (List Int)) : List (List qaB) := G.map fun g => mkP (redL P g)
theorem qy3 {P : Int} {G : List (List Int)} {i : Nat} (hi : i < G.length) : (now P G)[i]? = some (mkP (redL P G[i])) := by simp [now, List.getElem?_eq_getElem hi]
theorem qvG (P : Int) (G : List (List Int)) : (now P G).length = G.length := by simp [now]
theorem zj2 {P : Int} (h : 0 < P ∧ P ≤ 53248) (l : List Int) : Bd 1 (redL P l) := zpJ (by omega) (by omega)
theorem Lc.few {p P top : Int} {G H S : List (List Int)} {GO : List Int} (h : Lc p P top G H S GO) : G.length ≤ 4 := by rw [h.fs.len]; exact h.fs.hs.few
theorem Lc.Ple {p P top : Int} {G H S : List (List Int)} {GO : List Int} (h : Lc p P top G H S GO) : P * p ≤ 4096 ∧ P ≤ 4096 ∧ P ∣ top := by
  have h1 := Int.le_of_dvd h.t0 h.Pt
  have h2 := h.tl
  have h3 := h.fs.hs.pr.range
  have h4 := h.P2
  have h5 := Int.mul_le_mul_of_nonneg_left (show 1 ≤ p by omega) (show 0 ≤ P by omega)
  exact ⟨by omega, by omega, Int.dvd_trans (Int.dvd_mul_right P p) h.Pt⟩
theorem Lc.g {p P top : Int} {G H S : List (List Int)} {GO : List Int} (h : Lc p P top G H S GO) {i : Nat} (hi : i < G.length) : G[i].length ≤ 4 := by
  obtain ⟨g1, _⟩ := h.fs.at_ i hi (by rw [← h.fs.len]; exact hi)
  have := (h.fs.hs.at (show i < H.length by rw [← h.fs.len]; exact hi)).2.2
  omega
def qfE (top P : Int) (G : List (List Int)) (GO : List Int) : List Int := redL top (subL (max GO.length (qv4 top (redL top [1]) (G.map (redL P))).length) GO (qv4 top (redL top [1]) (G.map (redL P))))
theorem zqN (m : Int) : ∀ (fs : List (List Int)) (o : List Int), pq m (qv4 m o fs) = pq m o * pq m (prL fs)
  | [], o => by rw [zb6, q5U]; show pq m o = _; grind
  | f :: fs, o => by
    show pq m (qv4 m (redL m (mulL o f)) fs) = _
    rw [zqN m fs, q65, qgN, q4M, qgN]; grind
theorem zb5 (m : Int) (l : List Int) : redL m (tz l) = redL m l := q4L (by rw [q0I]; exact Cong.refl _ _)
theorem zg1 (m : Int) : ∀ (fs : List (List Int)) (o : List Int) (N : Nat), (∀ f ∈ fs, f.length ≤ 4) → o.length ≤ N → (qv4 m o fs).length ≤ N + 4 * fs.length
  | [], o, N, _, h => by show o.length ≤ _; simp; exact h
  | f :: fs, o, N, hf, h => by
    have h1 := qm9 m (mulL o f)
    rw [qv9] at h1
    have h2 := hf f (List.mem_cons_self ..)
    have := zg1 m fs (redL m (mulL o f)) (N + 4) (fun g hg => hf g (List.mem_cons_of_mem _ hg)) (by omega)
    show (qv4 m (redL m (mulL o f)) fs).length ≤ _
    rw [List.length_cons]; omega
theorem zpI {p P top : Int} {G H S : List (List Int)} {GO : List Int} (h : Lc p P top G H S GO) {α : Type} (F : Nat → List qaB → Option α) (res : α) (hF : Ev (fun K => F K (mkP (qfE top P G GO))) res) :
    Ev (fun K => (qeT K (now P G) (mkI top)).bind fun x4 => (qjA K (mkP GO) x4.1).bind fun x6 => (qb5 K x6 (mkI top)).bind fun x8 => F K x8.1) res := by
  have t0 := h.t0
  have tl := h.tl
  obtain ⟨_, hP, _⟩ := h.Ple
  have hP2 := h.P2
  have st : Sm (mkI top) := q1P (n := 1) (by omega) (by omega) (by omega)
  have hfew := h.few
  have hpv : (now P G).map pv = G.map (redL P) := by
    simp only [now, List.map_map]
    exact List.map_congr_left fun g _ => qiI _
  have hpr := zdH st (by rw [qa2]; omega) (n := 1) (by rw [qa2]; omega) (by omega) (now P G) (fun f hf => by
    obtain ⟨g, hg, rfl⟩ := List.mem_map.1 hf
    obtain ⟨i, hi, rfl⟩ := List.getElem_of_mem hg
    have h1 := h.g hi
    have h2 := qm9 P G[i]
    have hb := zj2 (P := P) (by omega) G[i]
    refine ⟨qm3 (n := 1) (by omega) hb, ?_, by rw [qc1]; omega⟩
    rw [qiI]; exact ztZ (by omega) hb) (by rw [qvG]; omega)
  rw [qa2, hpv] at hpr
  obtain ⟨l, el⟩ := zoO top (G.map (redL P)) (redL top [1]) ⟨_, rfl⟩
  have hpb : Bd 1 (qv4 top (redL top [1]) (G.map (redL P))) := by rw [el]; exact zj2 (by omega) l
  have hpl := zg1 top (G.map (redL P)) (redL top [1]) 1 (fun f hf => by
    obtain ⟨g, hg, rfl⟩ := List.mem_map.1 hf
    obtain ⟨i, hi, rfl⟩ := List.getElem_of_mem hg
    have h1 := h.g hi
    have h2 := qm9 P G[i]
    omega) (qm9 top [1])
  rw [List.length_map] at hpl
  have gl := h.gl
  have hsub := q5I (f := mkP GO) (g := mkP (qv4 top (redL top [1]) (G.map (redL P)))) (qm3 (n := 1) (by omega) h.gb) (qm3 (n := 1) (by omega) hpb) (by rw [qc1]; omega) (by rw [qc1]; omega)
  rw [qiI, qiI, qc1, qc1] at hsub
  have hsb : Bd 2 (tz (subL (max GO.length (qv4 top (redL top [1]) (G.map (redL P))).length) GO (qv4 top (redL top [1]) (G.map (redL P))))) := by
    refine zf9 fun x hx => ?_
    obtain ⟨k, _, rfl⟩ := List.mem_map.1 hx
    have h1 := zd0 h.gb k
    have h2 := zd0 hpb k
    have e : (4294967296 : Int) ^ 2 = 18446744073709551616 := by decide
    omega
  have hsl : (tz (subL (max GO.length (qv4 top (redL top [1]) (G.map (redL P))).length) GO (qv4 top (redL top [1]) (G.map (redL P))))).length ≤ 2000 := by
    have := qrA (subL (max GO.length (qv4 top (redL top [1]) (G.map (redL P))).length) GO (qv4 top (redL top [1]) (G.map (redL P))))
    simp only [subL, List.length_map, List.length_range] at this
    simp only [subL]
    omega
  have hred := qmE (f := mkP (tz (subL (max GO.length (qv4 top (redL top [1]) (G.map (redL P))).length) GO (qv4 top (redL top [1]) (G.map (redL P)))))) (qm3 (n := 2) (by omega) hsb) st (by rw [qa2]; omega) (by rw [qc1]; omega)
  rw [qa2, qiI, zb5] at hred
  exact qaG hpr (qaG hsub (qaG hred hF))
theorem q8Y {p P top : Int} {G H S : List (List Int)} {GO : List Int} (h : Lc p P top G H S GO) : (qfE top P G GO).length ≤ 1100 := by
  have hfew := h.few
  have hpl := zg1 top (G.map (redL P)) (redL top [1]) 1 (fun f hf => by
    obtain ⟨g, hg, rfl⟩ := List.mem_map.1 hf
    obtain ⟨i, hi, rfl⟩ := List.getElem_of_mem hg
    have h1 := h.g hi
    have h2 := qm9 P G[i]
    omega) (qm9 top [1])
  rw [List.length_map] at hpl
  have gl := h.gl
  have := qm9 top (subL (max GO.length (qv4 top (redL top [1]) (G.map (redL P))).length) GO (qv4 top (redL top [1]) (G.map (redL P))))
  simp only [subL, List.length_map, List.length_range] at this
  unfold qfE
  simp only [subL]
  omega
theorem zqM {p P top : Int} {G H S : List (List Int)} {GO : List Int} (h : Lc p P top G H S GO) (k : Nat) : top ∣ co (qfE top P G GO) k - (co (prL G) k - co (prL (G.map (redL P))) k) := by
  have hq : pq top (qfE top P G GO) = pq top (prL G) - pq top (prL (G.map (redL P))) := by
    unfold qfE
    rw [q65]
    have e : pq top (subL (max GO.length (qv4 top (redL top [1]) (G.map (redL P))).length) GO (qv4 top (redL top [1]) (G.map (redL P)))) = pq top GO - pq top (qv4 top (redL top [1]) (G.map (redL P))) := zpO top _ _
    rw [e, zqN, q65, q5U, qzF.2 h.go]
    grind
  exact zoS.1 (show mq top (co (qfE top P G GO)) = mq top (fun k => co (prL G) k - co (prL (G.map (redL P))) k) from hq) k
def qgC (p P : Int) (R : List Int) : List Int := R.map fun c => c / P % p
theorem zbK {p P top : Int} {G H S : List (List Int)} {GO : List Int} (h : Lc p P top G H S GO) (D : List Int) (hD : ∀ k, co (prL G) k - co (prL (G.map (redL P))) k = P * co D k) : pq p (qgC p P (qfE top P G GO)) = pq p D := by
  refine qzF.2 fun k => ?_
  have hr := h.fs.hs.pr.range
  have hP2 := h.P2
  have hk := zqM h k
  rw [hD k] at hk
  have hco : co (qgC p P (qfE top P G GO)) k = co (qfE top P G GO) k / P % p := by
    unfold qgC
    simp only [co, List.getD_eq_getElem?_getD, List.getElem?_map]
    cases (qfE top P G GO)[k]? <;> simp
  rw [hco]
  obtain ⟨z, hz⟩ := hk
  obtain ⟨y, hy⟩ := h.Pt
  have e : co (qfE top P G GO) k = P * (co D k + p * y * z) := by
    have h1 : top * z = P * p * y * z := congrArg (· * z) hy
    have : P * (co D k + p * y * z) = P * co D k + P * p * y * z := by grind
    omega
  rw [e, Int.mul_ediv_cancel_left _ (by omega), Int.mul_assoc, Int.add_mul_emod_self_left]
  have := Int.emod_add_mul_ediv (co D k) p
  exact ⟨-(co D k / p), by rw [Int.mul_neg]; omega⟩
theorem zuO {p P top : Int} {G H S : List (List Int)} {GO : List Int} (h : Lc p P top G H S GO) (k : Nat) : P ∣ co (qfE top P G GO) k := by
  have hk := zqM h k
  have hPt := h.Ple.2.2
  have h1 : Cong P (co (prL G)) (co (prL (G.map (redL P)))) := qzF.1 (zpN (m := P) (f := redL P) (q65 P) G).symm
  have h2 := Int.dvd_trans hPt hk
  have h3 := Int.dvd_add h2 (h1 k)
  rwa [show co (qfE top P G GO) k - (co (prL G) k - co (prL (G.map (redL P))) k) + (co (prL G) k - co (prL (G.map (redL P))) k) = co (qfE top P G GO) k by omega] at h3
theorem zgF {p P top : Int} {G H S : List (List Int)} {GO : List Int} (h : Lc p P top G H S GO) {i : Nat} (hi : i < (qfE top P G GO).length) {α : Type} (F : Nat → Int → Option α) (res : α)
    (hF : Ev (fun K => F K ((qfE top P G GO)[i] / P % p)) res) :
    Ev (fun K => (gi (mkP (qfE top P G GO)) (i : Int)).bind fun x2 => (qeU K x2 (mkI P)).bind fun x4 => (qdQ K x4.1 p).bind fun x6 => F K x6) res := by
  have hr := h.fs.hs.pr.range
  have hP2 := h.P2
  obtain ⟨_, hP, _⟩ := h.Ple
  have t0 := h.t0
  have tl := h.tl
  have hb : Bd 1 (qfE top P G GO) := zj2 (by omega) _
  have hx := hb _ (List.getElem_mem hi)
  have sx : Sm (mkI (qfE top P G GO)[i]) := q1P (n := 1) (by omega) hx.1 hx.2
  have sP : Sm (mkI P) := q1P (n := 1) (by omega) (by omega) (by omega)
  have hd := zuO h i
  rw [qdP hi] at hd
  have he := qt4 sx sP (by rw [qa2]; omega) (by rw [qa2, qa2]; exact hd)
  rw [qa2, qa2] at he
  have sq : Sm (mkI ((qfE top P G GO)[i] / P)) := zgX sx (by
    rw [qa2]
    obtain ⟨c, hc⟩ := hd
    rw [hc, Int.mul_ediv_cancel_left _ (by omega), Int.natAbs_mul]
    exact Nat.le_mul_of_pos_left _ (by omega))
  have hm := qg6 hr sq
  rw [qa2] at hm
  exact qa3 (qsV (qsH (List.getElem?_eq_getElem hi))) (qaG he (qaG hm hF))
theorem quX {p P top : Int} {G H S : List (List Int)} {GO : List Int} (h : Lc p P top G H S GO) {i : Nat} (hi : i < G.length) {C : List Int} (hCd : Dig C) (hCl : C.length ≤ 2000)
    (hC : ∀ D : List Int, (∀ k, co (prL G) k - co (prL (G.map (redL P))) k = P * co D k) → pq p C = pq p D) {α : Type} (F : Nat → List qaB → Option α) (res : α) (hF : Ev (fun K => F K (mkP (redL (P * p) G[i]))) res) :
    Ev (fun K => (gi (now P G) (i : Int)).bind fun x2 => (gi S (i : Int)).bind fun x4 => (qdO K C x4 p).bind fun x6 => (gi H (i : Int)).bind fun x8 => (qdR K x6 x8 p).bind fun x10 => (qdJ K x10.2.1 p).bind fun x12 =>
      (qeK K x12 (mkI P)).bind fun x14 => (qiD K x2 x14).bind fun x16 => (qb5 K x16 (mkI (P * p))).bind fun x18 => F K x18.1) res := by
  have hp := h.fs.hs.pr
  have hr := hp.range
  have hP2 := h.P2
  obtain ⟨hPp, hP, _⟩ := h.Ple
  have hj : i < H.length := by rw [← h.fs.len]; exact hi
  obtain ⟨c1, c2, c3⟩ := h.fs.hs.at hj
  obtain ⟨s, s1, s2⟩ := h.ps.2 i hj
  have ssh := s2.short
  have m1 := qmO hr hCd (qkG hr.2 s2.cn) (by omega) (by omega)
  have ml := qkK p (mulL C s)
  rw [qv9] at ml
  obtain ⟨q, r, d1, d2, d3, d4⟩ := zpA hp (qm2 (by omega) (mulL C s)) c1 (by omega) (by omega) (by omega)
  rw [qpC, qgN] at d4
  have key := zuX h.fs h.ps h.pP hP2 hi hj s1 hC d2 d3 d4
  have sy := qpI hr (qkG hr.2 d2) (by omega)
  have sl := qm9 p r
  have rb : ∀ x ∈ redL p r, x.natAbs ≤ 13 := fun x hx => by
    obtain ⟨y, _, rfl⟩ := List.mem_map.1 (q5Q hx)
    have := q61 (x := y) (m := p) (by omega); omega
  have sP : Sm (mkI P) := q1P (n := 1) (by omega) (by omega) (by omega)
  have hcb : Bd 1 ((redL p r).map (P * ·)) := by
    intro x hx
    obtain ⟨y, hy, rfl⟩ := List.mem_map.1 hx
    have h1 := rb y hy
    have h2 : (P * y).natAbs ≤ 4096 * 13 := by rw [Int.natAbs_mul]; exact Nat.mul_le_mul (by omega) h1
    omega
  have hsc := qvD (f := mkP (redL p r)) (c := mkI P) (q8I (qm3 (n := 1) (by omega) (fun x hx => by have := rb x hx; omega))) ⟨sP.1, by have := sP.2; omega⟩ (by rw [qc1]; omega) (by
    rw [qiI, qa2]
    exact q8I (qm3 (n := 1) (by omega) hcb))
  rw [qiI, qa2] at hsc
  have gl := h.g hi
  have nl := qm9 P G[i]
  have nb := zj2 (P := P) (by omega) G[i]
  have tl2 := qrA ((redL p r).map (P * ·))
  rw [List.length_map] at tl2
  have had := zkH (f := mkP (redL P G[i])) (g := mkP (tz ((redL p r).map (P * ·)))) (qm3 (n := 1) (by omega) nb) (qm3 (n := 1) (by omega) (zf9 hcb)) (by rw [qc1]; omega) (by rw [qc1]; omega)
  rw [qiI, qiI, qc1, qc1] at had
  have hab : Bd 2 (tz (addL (max (redL P G[i]).length (tz ((redL p r).map (P * ·))).length) (redL P G[i]) (tz ((redL p r).map (P * ·))))) := by
    refine zf9 fun x hx => ?_
    obtain ⟨k, _, rfl⟩ := List.mem_map.1 hx
    have h1 := zd0 nb k
    have h2 := zd0 (zf9 hcb) k
    have e : (4294967296 : Int) ^ 2 = 18446744073709551616 := by decide
    omega
  have hal := qrA (addL (max (redL P G[i]).length (tz ((redL p r).map (P * ·))).length) (redL P G[i]) (tz ((redL p r).map (P * ·))))
  have hal2 : (addL (max (redL P G[i]).length (tz ((redL p r).map (P * ·))).length) (redL P G[i]) (tz ((redL p r).map (P * ·)))).length ≤ 100 := by
    simp only [addL, List.length_map, List.length_range]; omega
  have hPp0 : 0 < P * p := Int.mul_pos (by omega) (by omega)
  have sn : Sm (mkI (P * p)) := q1P (n := 1) (by omega) (by omega) (by omega)
  have hre := qmE (qm3 (n := 2) (by omega) hab) sn (by rw [qa2]; omega) (by rw [qc1]; omega)
  rw [qa2, qiI, zb5, q4L (l := addL _ _ _) (l' := G[i]) (by
    rw [znU (by omega) (by omega), q0I]
    have : (fun k => co (redL P G[i]) k + co ((redL p r).map (P * ·)) k) = co (pl (redL P G[i]) ((redL p r).map (P * ·))) := by
      unfold pl; rw [znU (by omega) (by omega)]
    rw [this]; exact key)] at hre
  exact qa3 (qsV (qy3 hi)) (qa3 (qsV s1) (qaG m1 (qa3 (qbN hj) (qaG d1 (qaG sy (qaG hsc (qaG had (qaG hre hF))))))))
section
variable {p P top : Int} {G H S : List (List Int)} {GO : List Int} {res : List (List qaB) × Int} {k step : Int} {pair : List (List qaB)}
theorem digA (h : Lc p P top G H S GO) (hk : Ev (fun K => qaE K (.c17 (mkI p) (mkI top) pair (mkI P) (mkI (P * p)) (qgC p P (qfE top P G GO)) p k (mkP GO) H S step (now P G) G.length 0)) res) :
    ∀ (m i : Nat), i + m = (qfE top P G GO).length → Ev (fun K => qaE K (.c11 (mkI p) (mkI top) pair (mkI P) ((qgC p P (qfE top P G GO)).take i) p k (mkP GO) H S step (now P G) (mkP (qfE top P G GO)) (qfE top P G GO).length i)) res
  | 0, i, hi => by
    have hpp := h.fs.hs.pr.range
    have hP2 := h.P2
    obtain ⟨hPp, hP, _⟩ := h.Ple
    have hm := qfQ (qfZ P) (qfZ p) (by
      have := qjD (z := P) (n := 1) (by omega) (by omega)
      have := qjD (z := p) (n := 1) (by omega) (by omega)
      omega)
    rw [qa2, qa2] at hm
    refine qaJ ?_
    simp only [qaE]
    rw [List.take_of_length_le (by unfold qgC; rw [List.length_map]; omega), qvG]
    exact ev_f (by simp; omega) (qaG hm hk)
  | m + 1, i, hi => by
    have hrl := q8Y h
    have hi' : i < (qfE top P G GO).length := by omega
    refine qaJ ?_
    simp only [qaE]
    refine ev_t (by simp; omega) (zgF h hi' (fun K x6 => gd ((((qgC p P (qfE top P G GO)).take i) ++ ([x6] : List Int)).length * 4 ≤ 140737488355328) <|
      qaE K (.c11 (mkI p) (mkI top) pair (mkI P) (((qgC p P (qfE top P G GO)).take i) ++ ([x6] : List Int)) p k (mkP GO) H S step (now P G) (mkP (qfE top P G GO)) (qfE top P G GO).length (wI6 ((i : Int) + 1)))) res ?_)
    have e : (qgC p P (qfE top P G GO)).take i ++ [(qfE top P G GO)[i] / P % p] = (qgC p P (qfE top P G GO)).take (i + 1) := by
      rw [List.take_add_one]
      unfold qgC
      simp [List.getElem?_eq_getElem hi']
    refine qeZ (by rw [e]; simp only [List.length_take]; omega) ?_
    rw [e, qbR (by omega), show (i : Int) + 1 = ((i + 1 : Nat) : Int) by omega]
    exact digA h hk m (i + 1) (by omega)
theorem facA (h : Lc p P top G H S GO) {C : List Int} (hCd : Dig C) (hCl : C.length ≤ 2000)
    (hC : ∀ D : List Int, (∀ k, co (prL G) k - co (prL (G.map (redL P))) k = P * co D k) → pq p C = pq p D)
    (hend : Ev (fun K => bif (decide ((Int.tmod step (2 : Int)) = 0)) then qaE K (.c22 (mkI p) (mkI top) (mkI (P * p)) (now (P * p) G) p k (mkP GO) H S step) else bif (decide ((Int.tmod step (2 : Int)) = 1)) then qaE K (.c23 (mkI p) (mkI top) pair (mkI (P * p)) (now (P * p) G) p k (mkP GO) H S step) else none) res) :
    ∀ (m i : Nat), i + m = G.length → Ev (fun K => qaE K (.c21 (mkI p) (mkI top) pair (mkI P) (mkI (P * p)) ((now (P * p) G).take i) p k (mkP GO) H S step C (now P G) G.length i)) res
  | 0, i, hi => by
    refine qaJ ?_
    simp only [qaE]
    rw [List.take_of_length_le (by rw [qvG]; omega)]
    exact ev_f (by simp; omega) hend
  | m + 1, i, hi => by
    have hfew := h.few
    have hi' : i < G.length := by omega
    refine qaJ ?_
    simp only [qaE]
    refine ev_t (by simp; omega) (quX h hi' hCd hCl hC (fun K x18 => gd ((((now (P * p) G).take i) ++ ([x18] : List (List qaB))).length * 24 ≤ 140737488355328) <|
      qaE K (.c21 (mkI p) (mkI top) pair (mkI P) (mkI (P * p)) (((now (P * p) G).take i) ++ ([x18] : List (List qaB))) p k (mkP GO) H S step C (now P G) G.length (wI6 ((i : Int) + 1)))) res ?_)
    have e : (now (P * p) G).take i ++ [mkP (redL (P * p) G[i])] = (now (P * p) G).take (i + 1) := by
      rw [List.take_add_one, qy3 hi']; rfl
    refine qeZ (by rw [e]; simp only [List.length_take]; omega) ?_
    rw [e, qbR (by omega), show (i : Int) + 1 = ((i + 1 : Nat) : Int) by omega]
    exact facA h hCd hCl hC hend m (i + 1) (by omega)
theorem faeA (h : Lc p P top G H S GO)
    (hC : ∀ D : List Int, (∀ k, co (prL G) k - co (prL (G.map (redL P))) k = P * co D k) → pq p [] = pq p D)
    (hend : Ev (fun K => bif (decide ((Int.tmod step (2 : Int)) = 0)) then qaE K (.c22 (mkI p) (mkI top) (mkI (P * p)) (now (P * p) G) p k (mkP GO) H S step) else bif (decide ((Int.tmod step (2 : Int)) = 1)) then qaE K (.c23 (mkI p) (mkI top) pair (mkI (P * p)) (now (P * p) G) p k (mkP GO) H S step) else none) res) :
    ∀ (m i : Nat), i + m = G.length → Ev (fun K => qaE K (.c18 (mkI p) (mkI top) pair (mkI P) (mkI (P * p)) ((now (P * p) G).take i) p k (mkP GO) H S step (now P G) G.length i)) res
  | 0, i, hi => by
    refine qaJ ?_
    simp only [qaE]
    rw [List.take_of_length_le (by rw [qvG]; omega)]
    exact ev_f (by simp; omega) hend
  | m + 1, i, hi => by
    have hfew := h.few
    have hi' : i < G.length := by omega
    refine qaJ ?_
    simp only [qaE]
    refine ev_t (by simp; omega) (quX h hi' qxZ (by simp) hC (fun K x18 => gd ((((now (P * p) G).take i) ++ ([x18] : List (List qaB))).length * 24 ≤ 140737488355328) <|
      qaE K (.c18 (mkI p) (mkI top) pair (mkI P) (mkI (P * p)) (((now (P * p) G).take i) ++ ([x18] : List (List qaB))) p k (mkP GO) H S step (now P G) G.length (wI6 ((i : Int) + 1)))) res ?_)
    have e : (now (P * p) G).take i ++ [mkP (redL (P * p) G[i])] = (now (P * p) G).take (i + 1) := by
      rw [List.take_add_one, qy3 hi']; rfl
    refine qeZ (by rw [e]; simp only [List.length_take]; omega) ?_
    rw [e, qbR (by omega), show (i : Int) + 1 = ((i + 1 : Nat) : Int) by omega]
    exact faeA h hC hend m (i + 1) (by omega)
theorem stepA (h : Lc p P top G H S GO) (hG : 0 < G.length) (hend : Ev (fun K => bif (decide ((Int.tmod step (2 : Int)) = 0)) then qaE K (.c22 (mkI p) (mkI top) (mkI (P * p)) (now (P * p) G) p k (mkP GO) H S step) else bif (decide ((Int.tmod step (2 : Int)) = 1)) then qaE K (.c23 (mkI p) (mkI top) pair (mkI (P * p)) (now (P * p) G) p k (mkP GO) H S step) else none) res) :
    Ev (fun K => qaE K (.c7 (mkI p) (mkI top) pair (mkI P) p k (mkP GO) H S step (now P G) (mkP (qfE top P G GO)) (mkP (qfE top P G GO)).length 0)) res := by
  have hpp := h.fs.hs.pr.range
  have hP2 := h.P2
  obtain ⟨hPp, hP, _⟩ := h.Ple
  have hfew := h.few
  have hrl := q8Y h
  have hm := qfQ (qfZ P) (qfZ p) (by
    have := qjD (z := P) (n := 1) (by omega) (by omega)
    have := qjD (z := p) (n := 1) (by omega) (by omega)
    omega)
  rw [qa2, qa2] at hm
  rw [qc1]
  have e1 : [mkP (redL (P * p) G[0])] = (now (P * p) G).take 1 := by
    rw [List.take_add_one, qy3 hG]; rfl
  by_cases h0 : (qfE top P G GO).length = 0
  · have hn : qfE top P G GO = [] := List.eq_nil_of_length_eq_zero h0
    have hC : ∀ D : List Int, (∀ k, co (prL G) k - co (prL (G.map (redL P))) k = P * co D k) → pq p [] = pq p D := fun D hD => by
      have := zbK h D hD
      rw [hn] at this; exact this
    refine qaJ ?_
    simp only [qaE]
    refine ev_f (by rw [h0]; rfl) (qaG hm ?_)
    rw [qvG]
    refine qaJ ?_
    simp only [qaE]
    refine ev_t (by simp only [decide_eq_true_eq]; omega) (quX (i := 0) h hG qxZ (by simp) hC (fun K x18 => qaE K (.c18 (mkI p) (mkI top) pair (mkI P) (mkI (P * p)) ([x18] : List (List qaB)) p k (mkP GO) H S step (now P G) G.length (wI6 ((0 : Int) + 1)))) res ?_)
    rw [e1]
    exact faeA h hC hend (G.length - 1) 1 (by omega)
  · have hcd : Dig (qgC p P (qfE top P G GO)) := fun x hx => by
      obtain ⟨c, _, rfl⟩ := List.mem_map.1 hx
      have := qf6 (x := c / P) hpp
      omega
    have hcl : (qgC p P (qfE top P G GO)).length ≤ 2000 := by unfold qgC; rw [List.length_map]; omega
    have hC := zbK h
    refine qaJ ?_
    simp only [qaE]
    refine ev_t (by simp only [decide_eq_true_eq]; omega) (zgF (i := 0) h (by omega) (fun K x6 => qaE K (.c11 (mkI p) (mkI top) pair (mkI P) ([x6] : List Int) p k (mkP GO) H S step (now P G) (mkP (qfE top P G GO)) (qfE top P G GO).length (wI6 ((0 : Int) + 1)))) res ?_)
    have e2 : [(qfE top P G GO)[0]'(by omega) / P % p] = (qgC p P (qfE top P G GO)).take 1 := by
      rw [List.take_add_one]
      unfold qgC
      simp [List.getElem?_eq_getElem (show 0 < (qfE top P G GO).length by omega)]
    rw [e2]
    refine digA h ?_ ((qfE top P G GO).length - 1) 1 (by omega)
    refine qaJ ?_
    simp only [qaE]
    refine ev_t (by simp only [decide_eq_true_eq]; omega) (quX (i := 0) h hG hcd hcl hC (fun K x18 => qaE K (.c21 (mkI p) (mkI top) pair (mkI P) (mkI (P * p)) ([x18] : List (List qaB)) p k (mkP GO) H S step (qgC p P (qfE top P G GO)) (now P G) G.length (wI6 ((0 : Int) + 1)))) res ?_)
    rw [e1]
    exact facA h hcd hcl hC hend (G.length - 1) 1 (by omega)
end
section
variable {p P top : Int} {G H S : List (List Int)} {GO : List Int} {res : List (List qaB) × Int} {k step : Int} {pair : qeN}
theorem digB (h : Lc p P top G H S GO) (hk : Ev (fun K => qaE K (.c28 (mkI p) (mkI top) pair (mkI P) (mkI (P * p)) (qgC p P (qfE top P G GO)) p k (mkP GO) H S step (now P G) G.length 0)) res) :
    ∀ (m i : Nat), i + m = (qfE top P G GO).length → Ev (fun K => qaE K (.c26 (mkI p) (mkI top) pair (mkI P) ((qgC p P (qfE top P G GO)).take i) p k (mkP GO) H S step (now P G) (mkP (qfE top P G GO)) (qfE top P G GO).length i)) res
  | 0, i, hi => by
    have hpp := h.fs.hs.pr.range
    have hP2 := h.P2
    obtain ⟨hPp, hP, _⟩ := h.Ple
    have hm := qfQ (qfZ P) (qfZ p) (by
      have := qjD (z := P) (n := 1) (by omega) (by omega)
      have := qjD (z := p) (n := 1) (by omega) (by omega)
      omega)
    rw [qa2, qa2] at hm
    refine qaJ ?_
    simp only [qaE]
    rw [List.take_of_length_le (by unfold qgC; rw [List.length_map]; omega), qvG]
    exact ev_f (by simp; omega) (qaG hm hk)
  | m + 1, i, hi => by
    have hrl := q8Y h
    have hi' : i < (qfE top P G GO).length := by omega
    refine qaJ ?_
    simp only [qaE]
    refine ev_t (by simp; omega) (zgF h hi' (fun K x6 => gd ((((qgC p P (qfE top P G GO)).take i) ++ ([x6] : List Int)).length * 4 ≤ 140737488355328) <|
      qaE K (.c26 (mkI p) (mkI top) pair (mkI P) (((qgC p P (qfE top P G GO)).take i) ++ ([x6] : List Int)) p k (mkP GO) H S step (now P G) (mkP (qfE top P G GO)) (qfE top P G GO).length (wI6 ((i : Int) + 1)))) res ?_)
    have e : (qgC p P (qfE top P G GO)).take i ++ [(qfE top P G GO)[i] / P % p] = (qgC p P (qfE top P G GO)).take (i + 1) := by
      rw [List.take_add_one]
      unfold qgC
      simp [List.getElem?_eq_getElem hi']
    refine qeZ (by rw [e]; simp only [List.length_take]; omega) ?_
    rw [e, qbR (by omega), show (i : Int) + 1 = ((i + 1 : Nat) : Int) by omega]
    exact digB h hk m (i + 1) (by omega)
theorem facB (h : Lc p P top G H S GO) {C : List Int} (hCd : Dig C) (hCl : C.length ≤ 2000)
    (hC : ∀ D : List Int, (∀ k, co (prL G) k - co (prL (G.map (redL P))) k = P * co D k) → pq p C = pq p D)
    (hend : Ev (fun K => bif (decide ((Int.tmod step (2 : Int)) = 0)) then qaE K (.c32 (mkI p) (mkI top) pair.e1 (mkI (P * p)) (now (P * p) G) p k (mkP GO) H S step) else bif (decide ((Int.tmod step (2 : Int)) = 1)) then qaE K (.c23 (mkI p) (mkI top) pair.e0 (mkI (P * p)) (now (P * p) G) p k (mkP GO) H S step) else none) res) :
    ∀ (m i : Nat), i + m = G.length → Ev (fun K => qaE K (.c31 (mkI p) (mkI top) pair (mkI P) (mkI (P * p)) ((now (P * p) G).take i) p k (mkP GO) H S step C (now P G) G.length i)) res
  | 0, i, hi => by
    refine qaJ ?_
    simp only [qaE]
    rw [List.take_of_length_le (by rw [qvG]; omega)]
    exact ev_f (by simp; omega) hend
  | m + 1, i, hi => by
    have hfew := h.few
    have hi' : i < G.length := by omega
    refine qaJ ?_
    simp only [qaE]
    refine ev_t (by simp; omega) (quX h hi' hCd hCl hC (fun K x18 => gd ((((now (P * p) G).take i) ++ ([x18] : List (List qaB))).length * 24 ≤ 140737488355328) <|
      qaE K (.c31 (mkI p) (mkI top) pair (mkI P) (mkI (P * p)) (((now (P * p) G).take i) ++ ([x18] : List (List qaB))) p k (mkP GO) H S step C (now P G) G.length (wI6 ((i : Int) + 1)))) res ?_)
    have e : (now (P * p) G).take i ++ [mkP (redL (P * p) G[i])] = (now (P * p) G).take (i + 1) := by
      rw [List.take_add_one, qy3 hi']; rfl
    refine qeZ (by rw [e]; simp only [List.length_take]; omega) ?_
    rw [e, qbR (by omega), show (i : Int) + 1 = ((i + 1 : Nat) : Int) by omega]
    exact facB h hCd hCl hC hend m (i + 1) (by omega)
theorem faeB (h : Lc p P top G H S GO)
    (hC : ∀ D : List Int, (∀ k, co (prL G) k - co (prL (G.map (redL P))) k = P * co D k) → pq p [] = pq p D)
    (hend : Ev (fun K => bif (decide ((Int.tmod step (2 : Int)) = 0)) then qaE K (.c32 (mkI p) (mkI top) pair.e1 (mkI (P * p)) (now (P * p) G) p k (mkP GO) H S step) else bif (decide ((Int.tmod step (2 : Int)) = 1)) then qaE K (.c23 (mkI p) (mkI top) pair.e0 (mkI (P * p)) (now (P * p) G) p k (mkP GO) H S step) else none) res) :
    ∀ (m i : Nat), i + m = G.length → Ev (fun K => qaE K (.c29 (mkI p) (mkI top) pair (mkI P) (mkI (P * p)) ((now (P * p) G).take i) p k (mkP GO) H S step (now P G) G.length i)) res
  | 0, i, hi => by
    refine qaJ ?_
    simp only [qaE]
    rw [List.take_of_length_le (by rw [qvG]; omega)]
    exact ev_f (by simp; omega) hend
  | m + 1, i, hi => by
    have hfew := h.few
    have hi' : i < G.length := by omega
    refine qaJ ?_
    simp only [qaE]
    refine ev_t (by simp; omega) (quX h hi' qxZ (by simp) hC (fun K x18 => gd ((((now (P * p) G).take i) ++ ([x18] : List (List qaB))).length * 24 ≤ 140737488355328) <|
      qaE K (.c29 (mkI p) (mkI top) pair (mkI P) (mkI (P * p)) (((now (P * p) G).take i) ++ ([x18] : List (List qaB))) p k (mkP GO) H S step (now P G) G.length (wI6 ((i : Int) + 1)))) res ?_)
    have e : (now (P * p) G).take i ++ [mkP (redL (P * p) G[i])] = (now (P * p) G).take (i + 1) := by
      rw [List.take_add_one, qy3 hi']; rfl
    refine qeZ (by rw [e]; simp only [List.length_take]; omega) ?_
    rw [e, qbR (by omega), show (i : Int) + 1 = ((i + 1 : Nat) : Int) by omega]
    exact faeB h hC hend m (i + 1) (by omega)
theorem stepB (h : Lc p P top G H S GO) (hG : 0 < G.length) (hend : Ev (fun K => bif (decide ((Int.tmod step (2 : Int)) = 0)) then qaE K (.c32 (mkI p) (mkI top) pair.e1 (mkI (P * p)) (now (P * p) G) p k (mkP GO) H S step) else bif (decide ((Int.tmod step (2 : Int)) = 1)) then qaE K (.c23 (mkI p) (mkI top) pair.e0 (mkI (P * p)) (now (P * p) G) p k (mkP GO) H S step) else none) res) :
    Ev (fun K => qaE K (.c25 (mkI p) (mkI top) pair (mkI P) p k (mkP GO) H S step (now P G) (mkP (qfE top P G GO)) (mkP (qfE top P G GO)).length 0)) res := by
  have hpp := h.fs.hs.pr.range
  have hP2 := h.P2
  obtain ⟨hPp, hP, _⟩ := h.Ple
  have hfew := h.few
  have hrl := q8Y h
  have hm := qfQ (qfZ P) (qfZ p) (by
    have := qjD (z := P) (n := 1) (by omega) (by omega)
    have := qjD (z := p) (n := 1) (by omega) (by omega)
    omega)
  rw [qa2, qa2] at hm
  rw [qc1]
  have e1 : [mkP (redL (P * p) G[0])] = (now (P * p) G).take 1 := by
    rw [List.take_add_one, qy3 hG]; rfl
  by_cases h0 : (qfE top P G GO).length = 0
  · have hn : qfE top P G GO = [] := List.eq_nil_of_length_eq_zero h0
    have hC : ∀ D : List Int, (∀ k, co (prL G) k - co (prL (G.map (redL P))) k = P * co D k) → pq p [] = pq p D := fun D hD => by
      have := zbK h D hD
      rw [hn] at this; exact this
    refine qaJ ?_
    simp only [qaE]
    refine ev_f (by rw [h0]; rfl) (qaG hm ?_)
    rw [qvG]
    refine qaJ ?_
    simp only [qaE]
    refine ev_t (by simp only [decide_eq_true_eq]; omega) (quX (i := 0) h hG qxZ (by simp) hC (fun K x18 => qaE K (.c29 (mkI p) (mkI top) pair (mkI P) (mkI (P * p)) ([x18] : List (List qaB)) p k (mkP GO) H S step (now P G) G.length (wI6 ((0 : Int) + 1)))) res ?_)
    rw [e1]
    exact faeB h hC hend (G.length - 1) 1 (by omega)
  · have hcd : Dig (qgC p P (qfE top P G GO)) := fun x hx => by
      obtain ⟨c, _, rfl⟩ := List.mem_map.1 hx
      have := qf6 (x := c / P) hpp
      omega
    have hcl : (qgC p P (qfE top P G GO)).length ≤ 2000 := by unfold qgC; rw [List.length_map]; omega
    have hC := zbK h
    refine qaJ ?_
    simp only [qaE]
    refine ev_t (by simp only [decide_eq_true_eq]; omega) (zgF (i := 0) h (by omega) (fun K x6 => qaE K (.c26 (mkI p) (mkI top) pair (mkI P) ([x6] : List Int) p k (mkP GO) H S step (now P G) (mkP (qfE top P G GO)) (qfE top P G GO).length (wI6 ((0 : Int) + 1)))) res ?_)
    have e2 : [(qfE top P G GO)[0]'(by omega) / P % p] = (qgC p P (qfE top P G GO)).take 1 := by
      rw [List.take_add_one]
      unfold qgC
      simp [List.getElem?_eq_getElem (show 0 < (qfE top P G GO).length by omega)]
    rw [e2]
    refine digB h ?_ ((qfE top P G GO).length - 1) 1 (by omega)
    refine qaJ ?_
    simp only [qaE]
    refine ev_t (by simp only [decide_eq_true_eq]; omega) (quX (i := 0) h hG hcd hcl hC (fun K x18 => qaE K (.c31 (mkI p) (mkI top) pair (mkI P) (mkI (P * p)) ([x18] : List (List qaB)) p k (mkP GO) H S step (qgC p P (qfE top P G GO)) (now P G) G.length (wI6 ((0 : Int) + 1)))) res ?_)
    rw [e1]
    exact facB h hcd hcl hC hend (G.length - 1) 1 (by omega)
end
structure Eu (a B r s u v : Int) (n : Nat) (D : Int) : Prop where
  ru : B ∣ r - u * a
  sv : B ∣ s - v * a
  dv : ∀ d : Int, d ∣ r → d ∣ s → d ∣ a ∧ d ∣ B
  le : s.natAbs ≤ r.natAbs
  small : r.natAbs ≤ 4096
  prod : r.natAbs * s.natAbs < 2 ^ n
  bu : u.natAbs ≤ D
  bv : v.natAbs ≤ D
  bd : D * 5000 ^ n < 4294967296 ^ 100
theorem qjK {z : Int} {n : Nat} (hn : n ≤ 1000) (h : (z.natAbs : Int) < 4294967296 ^ n) : Sm (mkI z) := q1P (n := n) (by omega) (by omega) (by omega)
theorem eu_D {a B r s u v : Int} {n : Nat} {D : Int} (h : Eu a B r s u v n D) : D < 4294967296 ^ 100 := by
  have h1 := h.bd
  have h0 : 0 ≤ D := by have := h.bu; omega
  have h2 : (1 : Int) ≤ 5000 ^ n := by
    have : (0 : Int) < 5000 ^ n := Int.pow_pos (by decide)
    omega
  have := Int.mul_le_mul_of_nonneg_left h2 h0
  omega
theorem zqA {a b : qaB} {B : Int} (hB : 0 < B ∧ B ≤ 4096) (ha : Sm a) (hal : a.Abs.length ≤ 100) (hb : Sm b) (hbv : ival b = B) {u : Int} (hu : (u.natAbs : Int) < 4294967296 ^ 100) (hd : B ∣ u * ival a - 1) :
    ∃ x y : Int, Ev (fun K => (qhA K b).bind fun x9 => (qeU K x9 (mkI 1)).bind fun x11 => (qf4 K (mkI u) x11.1).bind fun x13 => (qf0 K x13.1 a).bind fun x15 => (qgQ K (mkI 1) x15).bind fun x17 => (qeU K x17 b).bind fun x19 => some ((mkI 1 : qaB), x13.1, x19.1)) (mkI 1, mkI x, mkI y) ∧ B ∣ x * ival a - 1 ∧ x.natAbs ≤ 4096 := by
  have s1 : Sm (mkI 1) := qjK (n := 1) (by omega) (by decide)
  have sB : Sm (mkI B) := qjK (n := 1) (by omega) (by omega)
  have su : Sm (mkI u) := qjK (n := 100) (by omega) hu
  have hab := qkB hb.1 (by have := hb.2; omega)
  rw [hbv, show (B.natAbs : Int) = B by omega] at hab
  have e1 := qt4 sB s1 (by rw [qa2]; decide) (by rw [qa2]; exact Int.one_dvd _)
  rw [qa2, qa2, Int.ediv_one] at e1
  have sy := qn8 su sB (by rw [qa2]; omega)
  rw [qa2, qa2] at sy
  have hx := q61 (x := u) (m := B) (by omega)
  have sx : Sm (mkI (sym u B)) := qjK (n := 1) (by omega) (by omega)
  have hxd : B ∣ sym u B * ival a - 1 := by
    have h1 := Int.dvd_mul_of_dvd_left (c := ival a) (znD u B)
    have h2 := Int.dvd_add h1 hd
    rwa [show (sym u B - u) * ival a + (u * ival a - 1) = sym u B * ival a - 1 by grind] at h2
  have hal2 := zpG ha.1
  have hal3 := qq8 hal
  have hxa : ((sym u B * ival a).natAbs : Int) < 4294967296 ^ 101 := by
    rw [Int.natAbs_mul, Int.natCast_mul, Int.pow_succ, Int.mul_comm (4294967296 ^ 100)]
    have h1 := Int.mul_le_mul (show ((sym u B).natAbs : Int) ≤ 4096 by omega) (show ((ival a).natAbs : Int) ≤ 4294967296 ^ 100 by omega) (by omega) (by decide)
    have := qe2 100
    omega
  have sxa : Sm (mkI (sym u B * ival a)) := qjK (n := 101) (by omega) hxa
  have hm := qfQ sx.1 ha.1 (by have := sx.2; omega)
  rw [qa2] at hm
  have hs := qmS s1 sxa
  rw [qa2, qa2] at hs
  have sd : Sm (mkI (1 - sym u B * ival a)) := qjK (n := 102) (by omega) (by
    have := qe2 101
    rw [Int.pow_succ _ 101]; omega)
  have hdd : B ∣ 1 - sym u B * ival a := by
    have := Int.dvd_neg.2 hxd; rwa [Int.neg_sub] at this
  have e2 := qt4 sd hb (by rw [hbv]; omega) (by rw [hbv, qa2]; exact hdd)
  rw [qa2, hbv] at e2
  exact ⟨sym u B, (1 - sym u B * ival a) / B, qaG hab (qaG e1 (qaG sy (qaG hm (qaG hs (qaG e2 (qaT _)))))), hxd, by omega⟩
theorem zr4 {a b g x y : qaB} {B : Int} (hB : 0 < B ∧ B ≤ 4096) (ha : Sm a) (hal : a.Abs.length ≤ 100) (hb : Sm b) (hbv : ival b = B) (hco : ∃ Z W, ival a * Z + B * W = 1) : ∀ (n : Nat) (r s u v D : Int), n ≤ 40 → Eu (ival a) B r s u v n D →
    ∃ x' y' : Int, Ev (fun K => qdE K (.c1 a b g x y (mkI r) (mkI s) (mkI u) (mkI v))) (mkI 1, mkI x', mkI y') ∧ B ∣ x' * ival a - 1 ∧ x'.natAbs ≤ 4096 := by
  intro n
  induction n with
  | zero =>
    intro r s u v D hn h
    exact fin r s u v 0 D h (by
      have := h.prod
      have h0 := h.le
      apply Classical.byContradiction; intro hne
      have := Nat.mul_le_mul (show 1 ≤ r.natAbs by omega) (show 1 ≤ s.natAbs by omega)
      omega)
  | succ n ih =>
    intro r s u v D hn h
    by_cases hs : s = 0
    · exact fin r s u v (n + 1) D h hs
    · have hsm := h.small
      have hle := h.le
      have hbu := h.bu
      have hbv' := h.bv
      have hD := eu_D h
      have sr : Sm (mkI r) := qjK (n := 1) (by omega) (by omega)
      have ss : Sm (mkI s) := qjK (n := 1) (by omega) (by omega)
      have su : Sm (mkI u) := qjK (n := 100) (by omega) (by omega)
      have sv : Sm (mkI v) := qjK (n := 100) (by omega) (by omega)
      have hz := qgA ss.1 (by have := ss.2; omega)
      rw [qa2] at hz
      have hq := qn9 sr ss (by rw [qa2]; exact hs)
      rw [qa2, qa2] at hq
      have hqa := q60 r s
      have hta := Int.natAbs_tmod r s
      have hma := Int.mul_tdiv_add_tmod r s
      have htl : (r.tmod s).natAbs < s.natAbs := by rw [hta]; exact Nat.mod_lt _ (by omega)
      have ht2 : 2 * (r.tmod s).natAbs < r.natAbs := by
        rw [hta]
        have h1 := Nat.mod_add_div r.natAbs s.natAbs
        have h2 : 1 ≤ r.natAbs / s.natAbs := (Nat.le_div_iff_mul_le (by omega)).2 (by omega)
        have h3 := Nat.mul_le_mul_left s.natAbs h2
        have h4 := Nat.mod_lt r.natAbs (show 0 < s.natAbs by omega)
        omega
      have sq : Sm (mkI (r.tdiv s)) := qjK (n := 1) (by omega) (by omega)
      have hm := qfQ sq.1 sv.1 (by have := sq.2; have := sv.2; omega)
      rw [qa2, qa2] at hm
      have hqv : ((r.tdiv s * v).natAbs : Int) ≤ 4096 * D := by
        rw [Int.natAbs_mul, Int.natCast_mul]
        exact Int.mul_le_mul (by omega) (by omega) (by omega) (by decide)
      have hb101 := qe2 100
      have sqv : Sm (mkI (r.tdiv s * v)) := qjK (n := 101) (by omega) (by rw [Int.pow_succ]; omega)
      have hsub := qmS su sqv
      rw [qa2, qa2] at hsub
      -- the next state
      have hnext : Eu (ival a) B s (r.tmod s) v (u - r.tdiv s * v) n (D * 5000) := by
        refine ⟨h.sv, ?_, ?_, by omega, by omega, ?_, by omega, by omega, ?_⟩
        · have h1 := Int.dvd_sub h.ru (Int.dvd_mul_of_dvd_right (b := r.tdiv s) h.sv)
          rwa [show r - u * ival a - r.tdiv s * (s - v * ival a) = r.tmod s - (u - r.tdiv s * v) * ival a by
            generalize r.tdiv s = q at *
            generalize r.tmod s = t at *
            grind] at h1
        · intro d h1 h2
          have h3 : d ∣ r := by rw [← hma]; exact Int.dvd_add (Int.dvd_mul_of_dvd_left h1) h2
          exact h.dv d h3 h1
        · have h1 := h.prod
          have h2 : 2 * (s.natAbs * (r.tmod s).natAbs) ≤ r.natAbs * s.natAbs := by
            have := Nat.mul_le_mul_left s.natAbs (show 2 * (r.tmod s).natAbs ≤ r.natAbs by omega)
            rw [Nat.mul_comm r.natAbs]
            have e : 2 * (s.natAbs * (r.tmod s).natAbs) = s.natAbs * (2 * (r.tmod s).natAbs) := by rw [Nat.mul_left_comm]
            omega
          rw [Nat.pow_succ] at h1
          omega
        · have := h.bd
          rw [Int.pow_succ, ← Int.mul_assoc] at this
          rw [Int.mul_assoc, Int.mul_comm 5000, ← Int.mul_assoc]; exact this
      obtain ⟨x', y', e1, e2⟩ := ih s (r.tmod s) v (u - r.tdiv s * v) (D * 5000) (by omega) hnext
      refine ⟨x', y', ?_, e2⟩
      refine qaJ ?_
      simp only [qdE]
      exact qaG hz (ev_t (by simpa using hs) (qaG hq (qaG hm (qaG hsub e1))))
where
  fin (r s u v : Int) (n : Nat) (D : Int) (h : Eu (ival a) B r s u v n D) (hs : s = 0) : ∃ x' y' : Int, Ev (fun K => qdE K (.c1 a b g x y (mkI r) (mkI s) (mkI u) (mkI v))) (mkI 1, mkI x', mkI y') ∧ B ∣ x' * ival a - 1 ∧ x'.natAbs ≤ 4096 := by
    subst hs
    have hsm := h.small
    have hbu := h.bu
    have hD := eu_D h
    have sr : Sm (mkI r) := qjK (n := 1) (by omega) (by omega)
    have su : Sm (mkI u) := qjK (n := 100) (by omega) (by omega)
    have s0 : Sm (mkI 0) := qjK (n := 1) (by omega) (by decide)
    have hz := qgA s0.1 (by have := s0.2; omega)
    rw [qa2] at hz
    obtain ⟨d1, d2⟩ := h.dv r (Int.dvd_refl r) (Int.dvd_zero r)
    have hr1 : r ∣ 1 := by
      obtain ⟨Z, W, e⟩ := hco
      rw [← e]; exact Int.dvd_add (Int.dvd_mul_of_dvd_left d1) (Int.dvd_mul_of_dvd_left d2)
    have hra : r.natAbs = 1 := Nat.dvd_one.1 (Int.natAbs_dvd_natAbs.2 hr1)
    have hab := qkB sr.1 (by have := sr.2; omega)
    rw [qa2, show (r.natAbs : Int) = 1 by omega] at hab
    have hru := h.ru
    by_cases hneg : r < 0
    · have hr : r = -1 := by omega
      have hn : (mkI r).Neg = true := by rw [zpR hneg]
      have hng := zl6 su.1 (by have := su.2; omega)
      rw [qa2] at hng
      obtain ⟨x', y', e1, e2, e3⟩ := zqA hB ha hal hb hbv (u := -u) (by omega) (by
        have := hru; rw [hr] at this
        rwa [show -u * ival a - 1 = -1 - u * ival a by rw [Int.neg_mul]; omega])
      refine ⟨x', y', ?_, e2, e3⟩
      refine qaJ ?_
      simp only [qdE]
      exact qaG hz (ev_f rfl (qaG hab (ev_t hn (qaG hng e1))))
    · have hr : r = 1 := by omega
      have hn : (mkI r).Neg = false := by rw [q3W (by omega)]
      obtain ⟨x', y', e1, e2, e3⟩ := zqA hB ha hal hb hbv (u := u) (by omega) (by
        have := Int.dvd_neg.2 hru; rw [hr, Int.neg_sub] at this; exact this)
      refine ⟨x', y', ?_, e2, e3⟩
      refine qaJ ?_
      simp only [qdE]
      exact qaG hz (ev_f rfl (qaG hab (ev_f hn e1)))
theorem zf4 {a : qaB} {B : Int} (hB : 0 < B ∧ B ≤ 4096) (ha : Sm a) (hal : a.Abs.length ≤ 10) (hco : ∃ Z W, ival a * Z + B * W = 1) :
    ∃ x y : Int, Ev (fun K => qo3 K a (mkI B)) (mkI 1, mkI x, mkI y) ∧ B ∣ x * ival a - 1 ∧ x.natAbs ≤ 4096 := by
  have sB : Sm (mkI B) := qjK (n := 1) (by omega) (by omega)
  have sa : Sm (mkI (ival a)) := zsB ha
  have hzB := qgA sB.1 (by have := sB.2; omega)
  rw [qa2] at hzB
  have hq := qn9 sa sB (by rw [qa2]; omega)
  rw [qa2, qa2] at hq
  have hma := Int.mul_tdiv_add_tmod (ival a) B
  have htl : ((ival a).tmod B).natAbs < B.natAbs := by rw [Int.natAbs_tmod]; exact Nat.mod_lt _ (by omega)
  have hnext : Eu (ival a) B B ((ival a).tmod B) 0 1 24 1 := by
    refine ⟨by rw [Int.zero_mul, Int.sub_zero]; exact Int.dvd_refl B, ?_, ?_, by omega, by omega, ?_, by decide, by decide, ?_⟩
    · refine ⟨-((ival a).tdiv B), ?_⟩
      rw [Int.one_mul, Int.mul_neg]; omega
    · intro d h1 h2
      exact ⟨by rw [← hma]; exact Int.dvd_add (Int.dvd_mul_of_dvd_left h1) h2, h1⟩
    · have := Nat.mul_le_mul (show B.natAbs ≤ 4096 by omega) (show ((ival a).tmod B).natAbs ≤ 4095 by omega)
      have e : (2 : Nat) ^ 24 = 16777216 := by decide
      omega
    · have h1 : (5000 : Int) ^ 24 ≤ 4294967296 ^ 24 := zc6 (by decide) (by decide) 24
      have h2 := ztT (show 24 < 100 by decide)
      omega
  have sq : Sm (mkI ((ival a).tdiv B)) := zgX ha (q60 _ _)
  have s0 : Sm (mkI 0) := qjK (n := 1) (by omega) (by decide)
  have s1 : Sm (mkI 1) := qjK (n := 1) (by omega) (by decide)
  have hm := qfQ sq.1 s0.1 (by have := sq.2; have := s0.2; omega)
  rw [qa2, qa2, Int.mul_zero] at hm
  have hsub := qmS s1 s0
  rw [qa2, qa2, Int.sub_zero] at hsub
  obtain ⟨x', y', e1, e2⟩ := zr4 (g := mkI 0) (x := mkI 0) (y := mkI 0) hB ha (by omega) sB (qa2 B) hco 24 B ((ival a).tmod B) 0 1 1 (by decide) hnext
  refine ⟨x', y', ?_, e2⟩
  refine qaJ ?_
  simp only [qo3, qdE]
  have hna := qoY ha.1 (by have := ha.2; omega)
  have hnb := qoY sB.1 (by have := sB.2; omega)
  rw [qa2] at hnb
  refine qaG hzB (ev_f (by simp; omega) (qaG hna (qaG hnb (qaG (qf9 (by decide)) ?_))))
  rw [← zh2]
  refine qaJ ?_
  simp only [qdE]
  exact qaG hzB (ev_t (by simp; omega) (qaG hq (qaG hm (qaG hsub e1))))
end Go.Am.X
