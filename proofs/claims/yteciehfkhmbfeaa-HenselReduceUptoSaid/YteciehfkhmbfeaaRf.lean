/- HenselReduce: the statement of the second form, for every input of at most so many values. -/
import Derived.Test.YteciehfkhmbfeaaRb
import Derived.Test.YteciehfkhmbfeaaRd
import Derived.Test.YteciehfkhmbfeaaRe
import Derived.Test.YteciehfkhmbfeaaRc
import Derived.OpenShut
import Derived.Deep.Slices
import Derived.Test.YteciehfkhmbfeaaRa
import Derived.WalkKit
import Derived.ProofKit
import Derived.JoinedCond
import Derived.Test.YteciehfkhmbfeaaRows
namespace Go.Am.X
open Go.Proofs.Try (prog)
inductive qe9 where
  | c0 (f : (List qaB)) (g : (List qaB)) (m : qaB)
def qdM : Nat → qe9 → Option Bool
  | 0, _ => none
  | K + 1, .c0 f g m =>
    (qjT K ).bind fun x1 =>
    bif (!x1) then
      some false
    else
      (qjU K f (10 : Int)).bind fun x4 =>
      bif (!x4) then
        some true
      else
        (qjU K g (10 : Int)).bind fun x7 =>
        bif (!x7) then
          some true
        else
          bif (decide ((10 : Int) < (m.Abs.length : Int))) then
            some true
          else
            (qbO K f m).bind fun x11 =>
            (qdS K ([f, g, f] : List (List qaB)) m).bind fun x13 =>
            (qdS K [] m).bind fun x15 =>
            (qiJ K m).bind fun x17 =>
            bif (decide (x17 = (0 : Int))) then
              bif (decide (x11.2 = (2 : Int))) then
                bif (decide (x13.2 = (2 : Int))) then
                  some (decide ((wI6 ((wI6 ((x11.1.length : Int) + (x13.1.length : Int))) + (x15.1.length : Int))) = (0 : Int)))
                else
                  some false
              else
                some false
            else
              bif (!decide (x11.2 = (0 : Int))) then
                some false
              else
                bif (!decide (x13.2 = (0 : Int))) then
                  some false
                else
                  (qeS K x11.1 m).bind fun x22 =>
                  bif (!x22) then
                    some false
                  else
                    (qeS K x13.1 m).bind fun x25 =>
                    bif (!x25) then
                      some false
                    else
                      (qeS K x15.1 m).bind fun x28 =>
                      bif (!x28) then
                        some false
                      else
                        (qe3 K x11.1 f m).bind fun x31 =>
                        bif x31 then
                          (qq4 K g f).bind fun x34 =>
                          (qq4 K f x34).bind fun x36 =>
                          (qe3 K x13.1 x36 m).bind fun x38 =>
                          bif x38 then
                            (qo3 K ([(1 : Int)] : List Int)).bind fun x41 =>
                            (qe3 K x15.1 x41 m).bind fun x43 =>
                            some x43
                          else
                            some false
                        else
                          some false
def qh4 (K : Nat) (f : (List qaB)) (g : (List qaB)) (m : qaB) : Option Bool := qdM K (.c0 f g m)
noncomputable def qrR : Code := qbN prog 9
noncomputable def qsP : qe9 → List Fr
  | .c0 .. => [.code qrR]
def qtB : qe9 → St
  | .c0 f g m => St.init [(tl 2 f qaA), (tl 2 g qaA), (TV.agg (qaA m))]
def qlW (cx : Cx) (c : qe9) (r : Bool) : Prop := Wk prog cx (qcT prog 9 [[0]] (TV.c (T.bool r))) (qsP c) .normal (qtB c)
abbrev qlX (K : Nat) : Prop := ∀ c r, qdM K c = some r → ∀ cx : Cx, cx.n = 114 → qlW cx c r
theorem qtC {K} (_ : qlX K) {cx} (hn : cx.n = 114) {f g m} {r} (h : qdM (K + 1) (.c0 f g m) = some r) : qlW cx (.c0 f g m) r := by
  rw [qdM] at h
  obtain ⟨x1, h2, h⟩ := qaH h
  rcases qaK h with ⟨h3, h⟩ | ⟨h3, h⟩
  · skip
    have h := Option.some.inj h; subst h
    exact qaN (fuel := 72) [rgG [oo, oo], rgG [opI (.call [] [] (TV.c (T.bool x1))), oo], .br true, rgG [oo]] _ hn (by kernel_rfl) (aC (qa1 h2) <| aC h3 <| aN)
  · skip
    obtain ⟨x4, h5, h⟩ := qaH h
    rcases qaK h with ⟨h6, h⟩ | ⟨h6, h⟩
    · skip
      have h := Option.some.inj h; subst h
      exact qaN (fuel := 90) [rgG [oo, oo], rgG [opI (.call [] [] (TV.c (T.bool x1))), oo], .br false, rgG [oo, opI (.call [[2], [0]] [(tl 2 f qaA), (TV.c (T.int .i64 (10 : Int)))] (TV.c (T.bool x4))), oo, oo, .sb 18 true, oo, oo, oo, oo, oo, oo, oo, oo, oo, oo], .br true, rgG [oo]] _ hn (by kernel_rfl) (aC (qa1 h2) <| aC h3 <| aC (qaX h5) <| aC h6 <| aC rt <| aN)
    · skip
      obtain ⟨x7, h8, h⟩ := qaH h
      rcases qaK h with ⟨h9, h⟩ | ⟨h9, h⟩
      · skip
        have h := Option.some.inj h; subst h
        exact qaN (fuel := 90) [rgG [oo, oo], rgG [opI (.call [] [] (TV.c (T.bool x1))), oo], .br false, rgG [oo, opI (.call [[2], [0]] [(tl 2 f qaA), (TV.c (T.int .i64 (10 : Int)))] (TV.c (T.bool x4))), oo, oo, .sb 18 false, oo, opI (.call [[2], [0]] [(tl 2 g qaA), (TV.c (T.int .i64 (10 : Int)))] (TV.c (T.bool x7))), oo, oo, oo, .sb 23 true, oo, oo, oo, oo, oo], .br true, rgG [oo]] _ hn (by kernel_rfl) (aC (qa1 h2) <| aC h3 <| aC (qaX h5) <| aC h6 <| aC (qaX h8) <| aC h9 <| aC rt <| aN)
      · skip
        rcases qaK h with ⟨h10, h⟩ | ⟨h10, h⟩
        · skip
          have h := Option.some.inj h; subst h
          exact qaN (fuel := 90) [rgG [oo, oo], rgG [opI (.call [] [] (TV.c (T.bool x1))), oo], .br false, rgG [oo, opI (.call [[2], [0]] [(tl 2 f qaA), (TV.c (T.int .i64 (10 : Int)))] (TV.c (T.bool x4))), oo, oo, .sb 18 false, oo, opI (.call [[2], [0]] [(tl 2 g qaA), (TV.c (T.int .i64 (10 : Int)))] (TV.c (T.bool x7))), oo, oo, oo, .sb 23 false, oo, oo, opI (.ln (m.Abs.length : Int)), oo, oo], .br true, rgG [oo]] _ hn (by kernel_rfl) (aC (qa1 h2) <| aC h3 <| aC (qaX h5) <| aC h6 <| aC (qaX h8) <| aC h9 <| aC (qaT m.Abs qaC) <| aC h10 <| aN)
        · skip
          obtain ⟨x11, h12, h⟩ := qaH h
          obtain ⟨x13, h14, h⟩ := qaH h
          obtain ⟨x15, h16, h⟩ := qaH h
          obtain ⟨x17, h18, h⟩ := qaH h
          rcases qaK h with ⟨h19, h⟩ | ⟨h19, h⟩
          · skip
            rcases qaK h with ⟨h20, h⟩ | ⟨h20, h⟩
            · skip
              rcases qaK h with ⟨h21, h⟩ | ⟨h21, h⟩
              · skip
                have h := Option.some.inj h; subst h
                exact qaN (fuel := 132) [rgG [oo, oo], rgG [opI (.call [] [] (TV.c (T.bool x1))), oo], .br false, rgG [oo, opI (.call [[2], [0]] [(tl 2 f qaA), (TV.c (T.int .i64 (10 : Int)))] (TV.c (T.bool x4))), oo, oo, .sb 18 false, oo, opI (.call [[2], [0]] [(tl 2 g qaA), (TV.c (T.int .i64 (10 : Int)))] (TV.c (T.bool x7))), oo, oo, oo, .sb 23 false, oo, oo, opI (.ln (m.Abs.length : Int)), oo, oo], .br false, rgG [oo, oo, opI (.call [[2], [0,1]] [(tl 2 f qaA), (TV.agg (qaA m))] (TV.tup [(false, [(T.sl 2 (x11.1.map qaA))]), (false, [(T.int .i64 x11.2)])])), oo, oo, oo, oo, oo], rgG [oo, oo, oo, opI (.lit (([f, g, f] : List (List qaB)).map qaD)), oo, .snap 39 (max 0 (0 + 3)) (([f, g, f] : List (List qaB)).map qaD), opI (.call [[1], [0,1]] [(TV.c (T.sl 1 (([f, g, f] : List (List qaB)).map qaD))), (TV.agg (qaA m))] (TV.tup [(false, [(T.sl 2 (x13.1.map qaA))]), (false, [(T.int .i64 x13.2)])])), oo, oo, oo, oo, oo], rgG [oo, opI (.call [[1], [0,1]] [(TV.c (T.sl 1 ([].map qaD))), (TV.agg (qaA m))] (TV.tup [(false, [(T.sl 2 (x15.1.map qaA))]), (false, [(T.int .i64 x15.2)])])), oo, oo, oo, oo, oo], rgG [oo, opI (.call [[0,1]] [(TV.agg (qaA m))] (ti .i64 x17)), oo], .br true, rgG [oo, oo, oo, .sb 54 true, oo, oo, oo, oo, .sb 58 true, oo, opI (.ln (x11.1.length : Int)), oo, opI (.ln (x13.1.length : Int)), oo, oo, opI (.ln (x15.1.length : Int)), oo, oo, oo, oo]] _ hn (by kernel_rfl) (aC (qa1 h2) <| aC h3 <| aC (qaX h5) <| aC h6 <| aC (qaX h8) <| aC h9 <| aC (qaT m.Abs qaC) <| aC h10 <| aC (qaV h12) <| aC (by kernel_rfl : [(T.sl 2 (f.map qaA)), (T.sl 2 (g.map qaA)), (T.sl 2 (f.map qaA))] = (([f, g, f] : List (List qaB)).map qaD).flatten) <| aC (qbI _ _ _ (by simp) : ((([f, g, f] : List (List qaB)).map qaD).drop 0).take 3 = ([f, g, f] : List (List qaB)).map qaD) <| aC (rfl : (max 0 (0 + 3)) = (max 0 (0 + 3))) <| aC (qaZ h14) <| aC (qaZ h16) <| aC (qbC h18) <| aC h19 <| aC h20 <| aC h21 <| aC (qaT x11.1 qaA) <| aC (qaT x13.1 qaA) <| aC (qaT x15.1 qaA) <| aN)
              · skip
                have h := Option.some.inj h; subst h
                exact qaN (fuel := 132) [rgG [oo, oo], rgG [opI (.call [] [] (TV.c (T.bool x1))), oo], .br false, rgG [oo, opI (.call [[2], [0]] [(tl 2 f qaA), (TV.c (T.int .i64 (10 : Int)))] (TV.c (T.bool x4))), oo, oo, .sb 18 false, oo, opI (.call [[2], [0]] [(tl 2 g qaA), (TV.c (T.int .i64 (10 : Int)))] (TV.c (T.bool x7))), oo, oo, oo, .sb 23 false, oo, oo, opI (.ln (m.Abs.length : Int)), oo, oo], .br false, rgG [oo, oo, opI (.call [[2], [0,1]] [(tl 2 f qaA), (TV.agg (qaA m))] (TV.tup [(false, [(T.sl 2 (x11.1.map qaA))]), (false, [(T.int .i64 x11.2)])])), oo, oo, oo, oo, oo], rgG [oo, oo, oo, opI (.lit (([f, g, f] : List (List qaB)).map qaD)), oo, .snap 39 (max 0 (0 + 3)) (([f, g, f] : List (List qaB)).map qaD), opI (.call [[1], [0,1]] [(TV.c (T.sl 1 (([f, g, f] : List (List qaB)).map qaD))), (TV.agg (qaA m))] (TV.tup [(false, [(T.sl 2 (x13.1.map qaA))]), (false, [(T.int .i64 x13.2)])])), oo, oo, oo, oo, oo], rgG [oo, opI (.call [[1], [0,1]] [(TV.c (T.sl 1 ([].map qaD))), (TV.agg (qaA m))] (TV.tup [(false, [(T.sl 2 (x15.1.map qaA))]), (false, [(T.int .i64 x15.2)])])), oo, oo, oo, oo, oo], rgG [oo, opI (.call [[0,1]] [(TV.agg (qaA m))] (ti .i64 x17)), oo], .br true, rgG [oo, oo, oo, .sb 54 true, oo, oo, oo, oo, .sb 58 false, oo, oo, oo, oo, oo, oo, oo, oo, oo, oo, oo]] _ hn (by kernel_rfl) (aC (qa1 h2) <| aC h3 <| aC (qaX h5) <| aC h6 <| aC (qaX h8) <| aC h9 <| aC (qaT m.Abs qaC) <| aC h10 <| aC (qaV h12) <| aC (by kernel_rfl : [(T.sl 2 (f.map qaA)), (T.sl 2 (g.map qaA)), (T.sl 2 (f.map qaA))] = (([f, g, f] : List (List qaB)).map qaD).flatten) <| aC (qbI _ _ _ (by simp) : ((([f, g, f] : List (List qaB)).map qaD).drop 0).take 3 = ([f, g, f] : List (List qaB)).map qaD) <| aC (rfl : (max 0 (0 + 3)) = (max 0 (0 + 3))) <| aC (qaZ h14) <| aC (qaZ h16) <| aC (qbC h18) <| aC h19 <| aC h20 <| aC h21 <| aN)
            · skip
              have h := Option.some.inj h; subst h
              exact qaN (fuel := 132) [rgG [oo, oo], rgG [opI (.call [] [] (TV.c (T.bool x1))), oo], .br false, rgG [oo, opI (.call [[2], [0]] [(tl 2 f qaA), (TV.c (T.int .i64 (10 : Int)))] (TV.c (T.bool x4))), oo, oo, .sb 18 false, oo, opI (.call [[2], [0]] [(tl 2 g qaA), (TV.c (T.int .i64 (10 : Int)))] (TV.c (T.bool x7))), oo, oo, oo, .sb 23 false, oo, oo, opI (.ln (m.Abs.length : Int)), oo, oo], .br false, rgG [oo, oo, opI (.call [[2], [0,1]] [(tl 2 f qaA), (TV.agg (qaA m))] (TV.tup [(false, [(T.sl 2 (x11.1.map qaA))]), (false, [(T.int .i64 x11.2)])])), oo, oo, oo, oo, oo], rgG [oo, oo, oo, opI (.lit (([f, g, f] : List (List qaB)).map qaD)), oo, .snap 39 (max 0 (0 + 3)) (([f, g, f] : List (List qaB)).map qaD), opI (.call [[1], [0,1]] [(TV.c (T.sl 1 (([f, g, f] : List (List qaB)).map qaD))), (TV.agg (qaA m))] (TV.tup [(false, [(T.sl 2 (x13.1.map qaA))]), (false, [(T.int .i64 x13.2)])])), oo, oo, oo, oo, oo], rgG [oo, opI (.call [[1], [0,1]] [(TV.c (T.sl 1 ([].map qaD))), (TV.agg (qaA m))] (TV.tup [(false, [(T.sl 2 (x15.1.map qaA))]), (false, [(T.int .i64 x15.2)])])), oo, oo, oo, oo, oo], rgG [oo, opI (.call [[0,1]] [(TV.agg (qaA m))] (ti .i64 x17)), oo], .br true, rgG [oo, oo, oo, .sb 54 false, oo, oo, oo, oo, oo, oo, oo, oo, oo, oo, oo, oo, oo, oo, oo]] _ hn (by kernel_rfl) (aC (qa1 h2) <| aC h3 <| aC (qaX h5) <| aC h6 <| aC (qaX h8) <| aC h9 <| aC (qaT m.Abs qaC) <| aC h10 <| aC (qaV h12) <| aC (by kernel_rfl : [(T.sl 2 (f.map qaA)), (T.sl 2 (g.map qaA)), (T.sl 2 (f.map qaA))] = (([f, g, f] : List (List qaB)).map qaD).flatten) <| aC (qbI _ _ _ (by simp) : ((([f, g, f] : List (List qaB)).map qaD).drop 0).take 3 = ([f, g, f] : List (List qaB)).map qaD) <| aC (rfl : (max 0 (0 + 3)) = (max 0 (0 + 3))) <| aC (qaZ h14) <| aC (qaZ h16) <| aC (qbC h18) <| aC h19 <| aC h20 <| aN)
          · skip
            rcases qaK h with ⟨h20, h⟩ | ⟨h20, h⟩
            · skip
              have h := Option.some.inj h; subst h
              exact qaN (fuel := 150) [rgG [oo, oo], rgG [opI (.call [] [] (TV.c (T.bool x1))), oo], .br false, rgG [oo, opI (.call [[2], [0]] [(tl 2 f qaA), (TV.c (T.int .i64 (10 : Int)))] (TV.c (T.bool x4))), oo, oo, .sb 18 false, oo, opI (.call [[2], [0]] [(tl 2 g qaA), (TV.c (T.int .i64 (10 : Int)))] (TV.c (T.bool x7))), oo, oo, oo, .sb 23 false, oo, oo, opI (.ln (m.Abs.length : Int)), oo, oo], .br false, rgG [oo, oo, opI (.call [[2], [0,1]] [(tl 2 f qaA), (TV.agg (qaA m))] (TV.tup [(false, [(T.sl 2 (x11.1.map qaA))]), (false, [(T.int .i64 x11.2)])])), oo, oo, oo, oo, oo], rgG [oo, oo, oo, opI (.lit (([f, g, f] : List (List qaB)).map qaD)), oo, .snap 39 (max 0 (0 + 3)) (([f, g, f] : List (List qaB)).map qaD), opI (.call [[1], [0,1]] [(TV.c (T.sl 1 (([f, g, f] : List (List qaB)).map qaD))), (TV.agg (qaA m))] (TV.tup [(false, [(T.sl 2 (x13.1.map qaA))]), (false, [(T.int .i64 x13.2)])])), oo, oo, oo, oo, oo], rgG [oo, opI (.call [[1], [0,1]] [(TV.c (T.sl 1 ([].map qaD))), (TV.agg (qaA m))] (TV.tup [(false, [(T.sl 2 (x15.1.map qaA))]), (false, [(T.int .i64 x15.2)])])), oo, oo, oo, oo, oo], rgG [oo, opI (.call [[0,1]] [(TV.agg (qaA m))] (ti .i64 x17)), oo], .br false, rgG [oo, oo, oo, .sb 71 true, oo, oo, oo, oo, oo, oo, oo, oo, oo, oo, oo, oo, oo, oo, oo, oo, oo, oo, oo, oo, oo], .br true, rgG [oo]] _ hn (by kernel_rfl) (aC (qa1 h2) <| aC h3 <| aC (qaX h5) <| aC h6 <| aC (qaX h8) <| aC h9 <| aC (qaT m.Abs qaC) <| aC h10 <| aC (qaV h12) <| aC (by kernel_rfl : [(T.sl 2 (f.map qaA)), (T.sl 2 (g.map qaA)), (T.sl 2 (f.map qaA))] = (([f, g, f] : List (List qaB)).map qaD).flatten) <| aC (qbI _ _ _ (by simp) : ((([f, g, f] : List (List qaB)).map qaD).drop 0).take 3 = ([f, g, f] : List (List qaB)).map qaD) <| aC (rfl : (max 0 (0 + 3)) = (max 0 (0 + 3))) <| aC (qaZ h14) <| aC (qaZ h16) <| aC (qbC h18) <| aC h19 <| aC h20 <| aC rt <| aN)
            · skip
              rcases qaK h with ⟨h21, h⟩ | ⟨h21, h⟩
              · skip
                have h := Option.some.inj h; subst h
                exact qaN (fuel := 150) [rgG [oo, oo], rgG [opI (.call [] [] (TV.c (T.bool x1))), oo], .br false, rgG [oo, opI (.call [[2], [0]] [(tl 2 f qaA), (TV.c (T.int .i64 (10 : Int)))] (TV.c (T.bool x4))), oo, oo, .sb 18 false, oo, opI (.call [[2], [0]] [(tl 2 g qaA), (TV.c (T.int .i64 (10 : Int)))] (TV.c (T.bool x7))), oo, oo, oo, .sb 23 false, oo, oo, opI (.ln (m.Abs.length : Int)), oo, oo], .br false, rgG [oo, oo, opI (.call [[2], [0,1]] [(tl 2 f qaA), (TV.agg (qaA m))] (TV.tup [(false, [(T.sl 2 (x11.1.map qaA))]), (false, [(T.int .i64 x11.2)])])), oo, oo, oo, oo, oo], rgG [oo, oo, oo, opI (.lit (([f, g, f] : List (List qaB)).map qaD)), oo, .snap 39 (max 0 (0 + 3)) (([f, g, f] : List (List qaB)).map qaD), opI (.call [[1], [0,1]] [(TV.c (T.sl 1 (([f, g, f] : List (List qaB)).map qaD))), (TV.agg (qaA m))] (TV.tup [(false, [(T.sl 2 (x13.1.map qaA))]), (false, [(T.int .i64 x13.2)])])), oo, oo, oo, oo, oo], rgG [oo, opI (.call [[1], [0,1]] [(TV.c (T.sl 1 ([].map qaD))), (TV.agg (qaA m))] (TV.tup [(false, [(T.sl 2 (x15.1.map qaA))]), (false, [(T.int .i64 x15.2)])])), oo, oo, oo, oo, oo], rgG [oo, opI (.call [[0,1]] [(TV.agg (qaA m))] (ti .i64 x17)), oo], .br false, rgG [oo, oo, oo, .sb 71 false, oo, oo, oo, oo, .sb 75 true, oo, oo, oo, oo, oo, oo, oo, oo, oo, oo, oo, oo, oo, oo, oo, oo, oo], .br true, rgG [oo]] _ hn (by kernel_rfl) (aC (qa1 h2) <| aC h3 <| aC (qaX h5) <| aC h6 <| aC (qaX h8) <| aC h9 <| aC (qaT m.Abs qaC) <| aC h10 <| aC (qaV h12) <| aC (by kernel_rfl : [(T.sl 2 (f.map qaA)), (T.sl 2 (g.map qaA)), (T.sl 2 (f.map qaA))] = (([f, g, f] : List (List qaB)).map qaD).flatten) <| aC (qbI _ _ _ (by simp) : ((([f, g, f] : List (List qaB)).map qaD).drop 0).take 3 = ([f, g, f] : List (List qaB)).map qaD) <| aC (rfl : (max 0 (0 + 3)) = (max 0 (0 + 3))) <| aC (qaZ h14) <| aC (qaZ h16) <| aC (qbC h18) <| aC h19 <| aC h20 <| aC h21 <| aC rt <| aN)
              · skip
                obtain ⟨x22, h23, h⟩ := qaH h
                rcases qaK h with ⟨h24, h⟩ | ⟨h24, h⟩
                · skip
                  have h := Option.some.inj h; subst h
                  exact qaN (fuel := 150) [rgG [oo, oo], rgG [opI (.call [] [] (TV.c (T.bool x1))), oo], .br false, rgG [oo, opI (.call [[2], [0]] [(tl 2 f qaA), (TV.c (T.int .i64 (10 : Int)))] (TV.c (T.bool x4))), oo, oo, .sb 18 false, oo, opI (.call [[2], [0]] [(tl 2 g qaA), (TV.c (T.int .i64 (10 : Int)))] (TV.c (T.bool x7))), oo, oo, oo, .sb 23 false, oo, oo, opI (.ln (m.Abs.length : Int)), oo, oo], .br false, rgG [oo, oo, opI (.call [[2], [0,1]] [(tl 2 f qaA), (TV.agg (qaA m))] (TV.tup [(false, [(T.sl 2 (x11.1.map qaA))]), (false, [(T.int .i64 x11.2)])])), oo, oo, oo, oo, oo], rgG [oo, oo, oo, opI (.lit (([f, g, f] : List (List qaB)).map qaD)), oo, .snap 39 (max 0 (0 + 3)) (([f, g, f] : List (List qaB)).map qaD), opI (.call [[1], [0,1]] [(TV.c (T.sl 1 (([f, g, f] : List (List qaB)).map qaD))), (TV.agg (qaA m))] (TV.tup [(false, [(T.sl 2 (x13.1.map qaA))]), (false, [(T.int .i64 x13.2)])])), oo, oo, oo, oo, oo], rgG [oo, opI (.call [[1], [0,1]] [(TV.c (T.sl 1 ([].map qaD))), (TV.agg (qaA m))] (TV.tup [(false, [(T.sl 2 (x15.1.map qaA))]), (false, [(T.int .i64 x15.2)])])), oo, oo, oo, oo, oo], rgG [oo, opI (.call [[0,1]] [(TV.agg (qaA m))] (ti .i64 x17)), oo], .br false, rgG [oo, oo, oo, .sb 71 false, oo, oo, oo, oo, .sb 75 false, oo, oo, opI (.call [[2], [0,1]] [(tl 2 x11.1 qaA), (TV.agg (qaA m))] (TV.c (T.bool x22))), oo, oo, oo, .sb 81 true, oo, oo, oo, oo, oo, oo, oo, oo, oo, oo, oo], .br true, rgG [oo]] _ hn (by kernel_rfl) (aC (qa1 h2) <| aC h3 <| aC (qaX h5) <| aC h6 <| aC (qaX h8) <| aC h9 <| aC (qaT m.Abs qaC) <| aC h10 <| aC (qaV h12) <| aC (by kernel_rfl : [(T.sl 2 (f.map qaA)), (T.sl 2 (g.map qaA)), (T.sl 2 (f.map qaA))] = (([f, g, f] : List (List qaB)).map qaD).flatten) <| aC (qbI _ _ _ (by simp) : ((([f, g, f] : List (List qaB)).map qaD).drop 0).take 3 = ([f, g, f] : List (List qaB)).map qaD) <| aC (rfl : (max 0 (0 + 3)) = (max 0 (0 + 3))) <| aC (qaZ h14) <| aC (qaZ h16) <| aC (qbC h18) <| aC h19 <| aC h20 <| aC h21 <| aC (qa9 h23) <| aC h24 <| aC rt <| aN)
                · skip
                  obtain ⟨x25, h26, h⟩ := qaH h
                  rcases qaK h with ⟨h27, h⟩ | ⟨h27, h⟩
                  · skip
                    have h := Option.some.inj h; subst h
                    exact qaN (fuel := 150) [rgG [oo, oo], rgG [opI (.call [] [] (TV.c (T.bool x1))), oo], .br false, rgG [oo, opI (.call [[2], [0]] [(tl 2 f qaA), (TV.c (T.int .i64 (10 : Int)))] (TV.c (T.bool x4))), oo, oo, .sb 18 false, oo, opI (.call [[2], [0]] [(tl 2 g qaA), (TV.c (T.int .i64 (10 : Int)))] (TV.c (T.bool x7))), oo, oo, oo, .sb 23 false, oo, oo, opI (.ln (m.Abs.length : Int)), oo, oo], .br false, rgG [oo, oo, opI (.call [[2], [0,1]] [(tl 2 f qaA), (TV.agg (qaA m))] (TV.tup [(false, [(T.sl 2 (x11.1.map qaA))]), (false, [(T.int .i64 x11.2)])])), oo, oo, oo, oo, oo], rgG [oo, oo, oo, opI (.lit (([f, g, f] : List (List qaB)).map qaD)), oo, .snap 39 (max 0 (0 + 3)) (([f, g, f] : List (List qaB)).map qaD), opI (.call [[1], [0,1]] [(TV.c (T.sl 1 (([f, g, f] : List (List qaB)).map qaD))), (TV.agg (qaA m))] (TV.tup [(false, [(T.sl 2 (x13.1.map qaA))]), (false, [(T.int .i64 x13.2)])])), oo, oo, oo, oo, oo], rgG [oo, opI (.call [[1], [0,1]] [(TV.c (T.sl 1 ([].map qaD))), (TV.agg (qaA m))] (TV.tup [(false, [(T.sl 2 (x15.1.map qaA))]), (false, [(T.int .i64 x15.2)])])), oo, oo, oo, oo, oo], rgG [oo, opI (.call [[0,1]] [(TV.agg (qaA m))] (ti .i64 x17)), oo], .br false, rgG [oo, oo, oo, .sb 71 false, oo, oo, oo, oo, .sb 75 false, oo, oo, opI (.call [[2], [0,1]] [(tl 2 x11.1 qaA), (TV.agg (qaA m))] (TV.c (T.bool x22))), oo, oo, oo, .sb 81 false, oo, oo, opI (.call [[2], [0,1]] [(tl 2 x13.1 qaA), (TV.agg (qaA m))] (TV.c (T.bool x25))), oo, oo, oo, .sb 87 true, oo, oo, oo, oo, oo], .br true, rgG [oo]] _ hn (by kernel_rfl) (aC (qa1 h2) <| aC h3 <| aC (qaX h5) <| aC h6 <| aC (qaX h8) <| aC h9 <| aC (qaT m.Abs qaC) <| aC h10 <| aC (qaV h12) <| aC (by kernel_rfl : [(T.sl 2 (f.map qaA)), (T.sl 2 (g.map qaA)), (T.sl 2 (f.map qaA))] = (([f, g, f] : List (List qaB)).map qaD).flatten) <| aC (qbI _ _ _ (by simp) : ((([f, g, f] : List (List qaB)).map qaD).drop 0).take 3 = ([f, g, f] : List (List qaB)).map qaD) <| aC (rfl : (max 0 (0 + 3)) = (max 0 (0 + 3))) <| aC (qaZ h14) <| aC (qaZ h16) <| aC (qbC h18) <| aC h19 <| aC h20 <| aC h21 <| aC (qa9 h23) <| aC h24 <| aC (qa9 h26) <| aC h27 <| aC rt <| aN)
                  · skip
                    obtain ⟨x28, h29, h⟩ := qaH h
                    rcases qaK h with ⟨h30, h⟩ | ⟨h30, h⟩
                    · skip
                      have h := Option.some.inj h; subst h
                      exact qaN (fuel := 150) [rgG [oo, oo], rgG [opI (.call [] [] (TV.c (T.bool x1))), oo], .br false, rgG [oo, opI (.call [[2], [0]] [(tl 2 f qaA), (TV.c (T.int .i64 (10 : Int)))] (TV.c (T.bool x4))), oo, oo, .sb 18 false, oo, opI (.call [[2], [0]] [(tl 2 g qaA), (TV.c (T.int .i64 (10 : Int)))] (TV.c (T.bool x7))), oo, oo, oo, .sb 23 false, oo, oo, opI (.ln (m.Abs.length : Int)), oo, oo], .br false, rgG [oo, oo, opI (.call [[2], [0,1]] [(tl 2 f qaA), (TV.agg (qaA m))] (TV.tup [(false, [(T.sl 2 (x11.1.map qaA))]), (false, [(T.int .i64 x11.2)])])), oo, oo, oo, oo, oo], rgG [oo, oo, oo, opI (.lit (([f, g, f] : List (List qaB)).map qaD)), oo, .snap 39 (max 0 (0 + 3)) (([f, g, f] : List (List qaB)).map qaD), opI (.call [[1], [0,1]] [(TV.c (T.sl 1 (([f, g, f] : List (List qaB)).map qaD))), (TV.agg (qaA m))] (TV.tup [(false, [(T.sl 2 (x13.1.map qaA))]), (false, [(T.int .i64 x13.2)])])), oo, oo, oo, oo, oo], rgG [oo, opI (.call [[1], [0,1]] [(TV.c (T.sl 1 ([].map qaD))), (TV.agg (qaA m))] (TV.tup [(false, [(T.sl 2 (x15.1.map qaA))]), (false, [(T.int .i64 x15.2)])])), oo, oo, oo, oo, oo], rgG [oo, opI (.call [[0,1]] [(TV.agg (qaA m))] (ti .i64 x17)), oo], .br false, rgG [oo, oo, oo, .sb 71 false, oo, oo, oo, oo, .sb 75 false, oo, oo, opI (.call [[2], [0,1]] [(tl 2 x11.1 qaA), (TV.agg (qaA m))] (TV.c (T.bool x22))), oo, oo, oo, .sb 81 false, oo, oo, opI (.call [[2], [0,1]] [(tl 2 x13.1 qaA), (TV.agg (qaA m))] (TV.c (T.bool x25))), oo, oo, oo, .sb 87 false, oo, oo, opI (.call [[2], [0,1]] [(tl 2 x15.1 qaA), (TV.agg (qaA m))] (TV.c (T.bool x28))), oo, oo], .br true, rgG [oo]] _ hn (by kernel_rfl) (aC (qa1 h2) <| aC h3 <| aC (qaX h5) <| aC h6 <| aC (qaX h8) <| aC h9 <| aC (qaT m.Abs qaC) <| aC h10 <| aC (qaV h12) <| aC (by kernel_rfl : [(T.sl 2 (f.map qaA)), (T.sl 2 (g.map qaA)), (T.sl 2 (f.map qaA))] = (([f, g, f] : List (List qaB)).map qaD).flatten) <| aC (qbI _ _ _ (by simp) : ((([f, g, f] : List (List qaB)).map qaD).drop 0).take 3 = ([f, g, f] : List (List qaB)).map qaD) <| aC (rfl : (max 0 (0 + 3)) = (max 0 (0 + 3))) <| aC (qaZ h14) <| aC (qaZ h16) <| aC (qbC h18) <| aC h19 <| aC h20 <| aC h21 <| aC (qa9 h23) <| aC h24 <| aC (qa9 h26) <| aC h27 <| aC (qa9 h29) <| aC h30 <| aN)
                    · skip
                      obtain ⟨x31, h32, h⟩ := qaH h
                      rcases qaK h with ⟨h33, h⟩ | ⟨h33, h⟩
                      · skip
                        obtain ⟨x34, h35, h⟩ := qaH h
                        obtain ⟨x36, h37, h⟩ := qaH h
                        obtain ⟨x38, h39, h⟩ := qaH h
                        rcases qaK h with ⟨h40, h⟩ | ⟨h40, h⟩
                        · skip
                          obtain ⟨x41, h42, h⟩ := qaH h
                          obtain ⟨x43, h44, h⟩ := qaH h
                          have h := Option.some.inj h; subst h
                          exact qaN (fuel := 150) [rgG [oo, oo], rgG [opI (.call [] [] (TV.c (T.bool x1))), oo], .br false, rgG [oo, opI (.call [[2], [0]] [(tl 2 f qaA), (TV.c (T.int .i64 (10 : Int)))] (TV.c (T.bool x4))), oo, oo, .sb 18 false, oo, opI (.call [[2], [0]] [(tl 2 g qaA), (TV.c (T.int .i64 (10 : Int)))] (TV.c (T.bool x7))), oo, oo, oo, .sb 23 false, oo, oo, opI (.ln (m.Abs.length : Int)), oo, oo], .br false, rgG [oo, oo, opI (.call [[2], [0,1]] [(tl 2 f qaA), (TV.agg (qaA m))] (TV.tup [(false, [(T.sl 2 (x11.1.map qaA))]), (false, [(T.int .i64 x11.2)])])), oo, oo, oo, oo, oo], rgG [oo, oo, oo, opI (.lit (([f, g, f] : List (List qaB)).map qaD)), oo, .snap 39 (max 0 (0 + 3)) (([f, g, f] : List (List qaB)).map qaD), opI (.call [[1], [0,1]] [(TV.c (T.sl 1 (([f, g, f] : List (List qaB)).map qaD))), (TV.agg (qaA m))] (TV.tup [(false, [(T.sl 2 (x13.1.map qaA))]), (false, [(T.int .i64 x13.2)])])), oo, oo, oo, oo, oo], rgG [oo, opI (.call [[1], [0,1]] [(TV.c (T.sl 1 ([].map qaD))), (TV.agg (qaA m))] (TV.tup [(false, [(T.sl 2 (x15.1.map qaA))]), (false, [(T.int .i64 x15.2)])])), oo, oo, oo, oo, oo], rgG [oo, opI (.call [[0,1]] [(TV.agg (qaA m))] (ti .i64 x17)), oo], .br false, rgG [oo, oo, oo, .sb 71 false, oo, oo, oo, oo, .sb 75 false, oo, oo, opI (.call [[2], [0,1]] [(tl 2 x11.1 qaA), (TV.agg (qaA m))] (TV.c (T.bool x22))), oo, oo, oo, .sb 81 false, oo, oo, opI (.call [[2], [0,1]] [(tl 2 x13.1 qaA), (TV.agg (qaA m))] (TV.c (T.bool x25))), oo, oo, oo, .sb 87 false, oo, oo, opI (.call [[2], [0,1]] [(tl 2 x15.1 qaA), (TV.agg (qaA m))] (TV.c (T.bool x28))), oo, oo], .br false, .draw [.p, .p, .p, (.call [[2], [2], [0,1]] [(tl 2 x11.1 qaA), (tl 2 f qaA), (TV.agg (qaA m))] (TV.c (T.bool x31))), .p, (.ga true .p), (.ga true .p), (.ga true .p), (.ga true .p), (.ga true (.call [[2], [2]] [(tl 2 g qaA), (tl 2 f qaA)] (tl 2 x34 qaA))), (.ga true (.call [[2], [2]] [(tl 2 f qaA), (tl 2 x34 qaA)] (tl 2 x36 qaA))), (.ga true .p), (.ga true (.call [[2], [2], [0,1]] [(tl 2 x13.1 qaA), (tl 2 x36 qaA), (TV.agg (qaA m))] (TV.c (T.bool x38)))), (.pk true), .p, (.ga true .p), (.ga true (.litT (([(1 : Int)] : List Int).map qeT))), (.ga true (.call [[1]] [(TV.c (T.sl 1 (([(1 : Int)] : List Int).map qeT)))] (tl 2 x41 qaA))), (.ga true .p), (.ga true (.call [[2], [2], [0,1]] [(tl 2 x15.1 qaA), (tl 2 x41 qaA), (TV.agg (qaA m))] (TV.c (T.bool x43)))), (.pk true), .p] []] _ hn (by kernel_rfl) (aC (qa1 h2) <| aC h3 <| aC (qaX h5) <| aC h6 <| aC (qaX h8) <| aC h9 <| aC (qaT m.Abs qaC) <| aC h10 <| aC (qaV h12) <| aC (by kernel_rfl : [(T.sl 2 (f.map qaA)), (T.sl 2 (g.map qaA)), (T.sl 2 (f.map qaA))] = (([f, g, f] : List (List qaB)).map qaD).flatten) <| aC (qbI _ _ _ (by simp) : ((([f, g, f] : List (List qaB)).map qaD).drop 0).take 3 = ([f, g, f] : List (List qaB)).map qaD) <| aC (rfl : (max 0 (0 + 3)) = (max 0 (0 + 3))) <| aC (qaZ h14) <| aC (qaZ h16) <| aC (qbC h18) <| aC h19 <| aC h20 <| aC h21 <| aC (qa9 h23) <| aC h24 <| aC (qa9 h26) <| aC h27 <| aC (qa9 h29) <| aC h30 <| aC (qdL h32) <| aC h33 <| aC h33 <| aC h33 <| aC h33 <| aC h33 <| aC (qi4 h35) <| aC h33 <| aC (qi4 h37) <| aC h33 <| aC h33 <| aC (qdL h39) <| aC h33 <| aC h40 <| aC h40 <| aC (by kernel_rfl : [(T.int .i64 (1 : Int))] = (([(1 : Int)] : List Int).map qeT).flatten) <| aC h40 <| aC (qfF h42) <| aC h40 <| aC h40 <| aC (qdL h44) <| aC h40 <| aN)
                        · skip
                          have h := Option.some.inj h; subst h
                          exact qaN (fuel := 150) [rgG [oo, oo], rgG [opI (.call [] [] (TV.c (T.bool x1))), oo], .br false, rgG [oo, opI (.call [[2], [0]] [(tl 2 f qaA), (TV.c (T.int .i64 (10 : Int)))] (TV.c (T.bool x4))), oo, oo, .sb 18 false, oo, opI (.call [[2], [0]] [(tl 2 g qaA), (TV.c (T.int .i64 (10 : Int)))] (TV.c (T.bool x7))), oo, oo, oo, .sb 23 false, oo, oo, opI (.ln (m.Abs.length : Int)), oo, oo], .br false, rgG [oo, oo, opI (.call [[2], [0,1]] [(tl 2 f qaA), (TV.agg (qaA m))] (TV.tup [(false, [(T.sl 2 (x11.1.map qaA))]), (false, [(T.int .i64 x11.2)])])), oo, oo, oo, oo, oo], rgG [oo, oo, oo, opI (.lit (([f, g, f] : List (List qaB)).map qaD)), oo, .snap 39 (max 0 (0 + 3)) (([f, g, f] : List (List qaB)).map qaD), opI (.call [[1], [0,1]] [(TV.c (T.sl 1 (([f, g, f] : List (List qaB)).map qaD))), (TV.agg (qaA m))] (TV.tup [(false, [(T.sl 2 (x13.1.map qaA))]), (false, [(T.int .i64 x13.2)])])), oo, oo, oo, oo, oo], rgG [oo, opI (.call [[1], [0,1]] [(TV.c (T.sl 1 ([].map qaD))), (TV.agg (qaA m))] (TV.tup [(false, [(T.sl 2 (x15.1.map qaA))]), (false, [(T.int .i64 x15.2)])])), oo, oo, oo, oo, oo], rgG [oo, opI (.call [[0,1]] [(TV.agg (qaA m))] (ti .i64 x17)), oo], .br false, rgG [oo, oo, oo, .sb 71 false, oo, oo, oo, oo, .sb 75 false, oo, oo, opI (.call [[2], [0,1]] [(tl 2 x11.1 qaA), (TV.agg (qaA m))] (TV.c (T.bool x22))), oo, oo, oo, .sb 81 false, oo, oo, opI (.call [[2], [0,1]] [(tl 2 x13.1 qaA), (TV.agg (qaA m))] (TV.c (T.bool x25))), oo, oo, oo, .sb 87 false, oo, oo, opI (.call [[2], [0,1]] [(tl 2 x15.1 qaA), (TV.agg (qaA m))] (TV.c (T.bool x28))), oo, oo], .br false, .draw [.p, .p, .p, (.call [[2], [2], [0,1]] [(tl 2 x11.1 qaA), (tl 2 f qaA), (TV.agg (qaA m))] (TV.c (T.bool x31))), .p, (.ga true .p), (.ga true .p), (.ga true .p), (.ga true .p), (.ga true (.call [[2], [2]] [(tl 2 g qaA), (tl 2 f qaA)] (tl 2 x34 qaA))), (.ga true (.call [[2], [2]] [(tl 2 f qaA), (tl 2 x34 qaA)] (tl 2 x36 qaA))), (.ga true .p), (.ga true (.call [[2], [2], [0,1]] [(tl 2 x13.1 qaA), (tl 2 x36 qaA), (TV.agg (qaA m))] (TV.c (T.bool x38)))), (.pk true), .p, (.ga false .p), (.ga false .p), (.ga false .p), (.ga false .p), (.ga false .p), (.pk false), .p] []] _ hn (by kernel_rfl) (aC (qa1 h2) <| aC h3 <| aC (qaX h5) <| aC h6 <| aC (qaX h8) <| aC h9 <| aC (qaT m.Abs qaC) <| aC h10 <| aC (qaV h12) <| aC (by kernel_rfl : [(T.sl 2 (f.map qaA)), (T.sl 2 (g.map qaA)), (T.sl 2 (f.map qaA))] = (([f, g, f] : List (List qaB)).map qaD).flatten) <| aC (qbI _ _ _ (by simp) : ((([f, g, f] : List (List qaB)).map qaD).drop 0).take 3 = ([f, g, f] : List (List qaB)).map qaD) <| aC (rfl : (max 0 (0 + 3)) = (max 0 (0 + 3))) <| aC (qaZ h14) <| aC (qaZ h16) <| aC (qbC h18) <| aC h19 <| aC h20 <| aC h21 <| aC (qa9 h23) <| aC h24 <| aC (qa9 h26) <| aC h27 <| aC (qa9 h29) <| aC h30 <| aC (qdL h32) <| aC h33 <| aC h33 <| aC h33 <| aC h33 <| aC h33 <| aC (qi4 h35) <| aC h33 <| aC (qi4 h37) <| aC h33 <| aC h33 <| aC (qdL h39) <| aC h33 <| aC h40 <| aC h40 <| aC h40 <| aC h40 <| aC h40 <| aC h40 <| aN)
                      · skip
                        have h := Option.some.inj h; subst h
                        exact qaN (fuel := 150) [rgG [oo, oo], rgG [opI (.call [] [] (TV.c (T.bool x1))), oo], .br false, rgG [oo, opI (.call [[2], [0]] [(tl 2 f qaA), (TV.c (T.int .i64 (10 : Int)))] (TV.c (T.bool x4))), oo, oo, .sb 18 false, oo, opI (.call [[2], [0]] [(tl 2 g qaA), (TV.c (T.int .i64 (10 : Int)))] (TV.c (T.bool x7))), oo, oo, oo, .sb 23 false, oo, oo, opI (.ln (m.Abs.length : Int)), oo, oo], .br false, rgG [oo, oo, opI (.call [[2], [0,1]] [(tl 2 f qaA), (TV.agg (qaA m))] (TV.tup [(false, [(T.sl 2 (x11.1.map qaA))]), (false, [(T.int .i64 x11.2)])])), oo, oo, oo, oo, oo], rgG [oo, oo, oo, opI (.lit (([f, g, f] : List (List qaB)).map qaD)), oo, .snap 39 (max 0 (0 + 3)) (([f, g, f] : List (List qaB)).map qaD), opI (.call [[1], [0,1]] [(TV.c (T.sl 1 (([f, g, f] : List (List qaB)).map qaD))), (TV.agg (qaA m))] (TV.tup [(false, [(T.sl 2 (x13.1.map qaA))]), (false, [(T.int .i64 x13.2)])])), oo, oo, oo, oo, oo], rgG [oo, opI (.call [[1], [0,1]] [(TV.c (T.sl 1 ([].map qaD))), (TV.agg (qaA m))] (TV.tup [(false, [(T.sl 2 (x15.1.map qaA))]), (false, [(T.int .i64 x15.2)])])), oo, oo, oo, oo, oo], rgG [oo, opI (.call [[0,1]] [(TV.agg (qaA m))] (ti .i64 x17)), oo], .br false, rgG [oo, oo, oo, .sb 71 false, oo, oo, oo, oo, .sb 75 false, oo, oo, opI (.call [[2], [0,1]] [(tl 2 x11.1 qaA), (TV.agg (qaA m))] (TV.c (T.bool x22))), oo, oo, oo, .sb 81 false, oo, oo, opI (.call [[2], [0,1]] [(tl 2 x13.1 qaA), (TV.agg (qaA m))] (TV.c (T.bool x25))), oo, oo, oo, .sb 87 false, oo, oo, opI (.call [[2], [0,1]] [(tl 2 x15.1 qaA), (TV.agg (qaA m))] (TV.c (T.bool x28))), oo, oo], .br false, .draw [.p, .p, .p, (.call [[2], [2], [0,1]] [(tl 2 x11.1 qaA), (tl 2 f qaA), (TV.agg (qaA m))] (TV.c (T.bool x31))), .p, (.ga false .p), (.ga false .p), (.ga false .p), (.ga false .p), (.ga false .p), (.ga false .p), (.ga false .p), (.ga false .p), (.pk false), .p, .p, .p, .p, .p, .p, .p, .p] []] _ hn (by kernel_rfl) (aC (qa1 h2) <| aC h3 <| aC (qaX h5) <| aC h6 <| aC (qaX h8) <| aC h9 <| aC (qaT m.Abs qaC) <| aC h10 <| aC (qaV h12) <| aC (by kernel_rfl : [(T.sl 2 (f.map qaA)), (T.sl 2 (g.map qaA)), (T.sl 2 (f.map qaA))] = (([f, g, f] : List (List qaB)).map qaD).flatten) <| aC (qbI _ _ _ (by simp) : ((([f, g, f] : List (List qaB)).map qaD).drop 0).take 3 = ([f, g, f] : List (List qaB)).map qaD) <| aC (rfl : (max 0 (0 + 3)) = (max 0 (0 + 3))) <| aC (qaZ h14) <| aC (qaZ h16) <| aC (qbC h18) <| aC h19 <| aC h20 <| aC h21 <| aC (qa9 h23) <| aC h24 <| aC (qa9 h26) <| aC h27 <| aC (qa9 h29) <| aC h30 <| aC (qdL h32) <| aC h33 <| aC h33 <| aC h33 <| aC h33 <| aC h33 <| aC h33 <| aC h33 <| aC h33 <| aC h33 <| aN)
theorem qjZ : ∀ K : Nat, qlX K
  | 0, c, r, h => by rw [qdM] at h; cases h
  | K + 1, .c0 .., r, h => fun cx hn => qtC (qjZ K) hn h
theorem qqV {K : Nat} {f : (List qaB)} {g : (List qaB)} {m : qaB} {r : Bool} (h : qh4 K f g m = some r) : qcX prog 9 [(tl 2 f qaA), (tl 2 g qaA), (TV.agg (qaA m))] (TV.c (T.bool r)) :=
  qa2 [[0]] (by kernel_rfl) (by simp) fun cx hn => qjZ K (.c0 f g m) r h cx hn
end Go.Am.X
namespace Go.Am.X
def redL (m : Int) (l : List Int) : List Int := tz (l.map fun x => sym x m)
theorem sym_zero (m : Int) : sym 0 m = 0 := by
  unfold sym; rw [Int.zero_emod, if_neg (by omega)]
theorem co_redL (m : Int) (l : List Int) : co (redL m l) = fun k => sym (co l k) m := by
  unfold redL
  rw [co_tz]
  funext k
  simp only [co, List.getD_eq_getElem?_getD, List.getElem?_map]
  cases l[k]? <;> simp [sym_zero]
theorem qt4 (m : Int) (l : List Int) : Cong m (co (redL m l)) (co l) := fun k => by rw [co_redL]; exact sym_dvd _ _
theorem redL_ext {m : Int} {l l' : List Int} (h : Cong m (co l) (co l')) : redL m l = redL m l' := by
  unfold redL
  refine tz_ext _ _ ?_
  have h1 := co_redL m l
  have h2 := co_redL m l'
  unfold redL at h1 h2
  rw [co_tz] at h1 h2
  rw [h1, h2]
  funext k
  exact sym_congr (h k)
theorem redL_redL (m : Int) (l : List Int) : redL m (redL m l) = redL m l := redL_ext (qt4 m l)
theorem redL_tz (m : Int) (l : List Int) : tz (redL m l) = redL m l := tz_tz _
theorem qtL (m : Int) (l : List Int) : (redL m l).length ≤ l.length := by
  have := tz_len (l.map fun x => sym x m); rw [List.length_map] at this; exact this
theorem redL_mem {m x : Int} {l : List Int} (h : x ∈ redL m l) : sym x m = x := by
  obtain ⟨y, _, rfl⟩ := List.mem_map.1 (tz_mem h)
  exact sym_sym _ _
theorem redL_bd {m : Int} {n : Nat} {l : List Int} (h0 : m ≠ 0) (hm : (m.natAbs : Int) < 4294967296 ^ n) : Bd n (redL m l) := by
  intro x hx
  obtain ⟨y, _, rfl⟩ := List.mem_map.1 (tz_mem hx)
  have := sym_abs (x := y) h0
  omega
theorem hensel_Reduce_v1 {f : List qaB} {m : qaB} (hf : Ws f) (hm : Sm m) (h0 : ival m ≠ 0) (l : List Int) (hl : l = (pv f).map fun x => sym x (ival m)) (hs : f.length < 4398046511104) : ∀ (k i : Nat), i + k = f.length →
    Ev (fun K => qdE K (.c1 m ((mkP l).take i ++ List.replicate (f.length - i) (⟨false, []⟩ : qaB)) f f.length i)) (mkP (redL (ival m) (pv f)), 0)
  | 0, i, hi => by
    have hll : f.length = (mkP l).length := by rw [qhB, hl, List.length_map, qfC]
    refine qaS ?_
    simp only [qdE]
    refine ev_f (by simp; omega) ?_
    rw [fill_end hll (by omega)]
    have hw : Wf (mkP l) := by
      intro a ha
      obtain ⟨x, hx, rfl⟩ := List.mem_map.1 ha
      rw [hl] at hx
      obtain ⟨y, _, rfl⟩ := List.mem_map.1 hx
      have := sm_le hm (sym_abs (x := y) h0)
      exact ⟨this.1, by have := this.2; omega⟩
    have := unipoly_Normal_ev hw (by omega)
    rw [qpG, hl] at this
    exact qaP (by rw [hl]; exact this) (qa3 _)
  | k + 1, i, hi => by
    have hll : f.length = (mkP l).length := by rw [qhB, hl, List.length_map, qfC]
    refine qaS ?_
    simp only [qdE]
    have hif : i < f.length := by omega
    have hx : l[i]? = some (sym (ival f[i]) (ival m)) := by
      rw [hl]; simp [pv, List.getElem?_eq_getElem hif]
    refine ev_t (by simp; omega) (qb6 (qc0 hif) (qaP (qsM (hf _ (List.getElem_mem hif)) hm h0) (qb6 (fill_gi hll hif) ?_)))
    rw [Int.toNat_natCast, fill_set hll (mkP_get hx), qdN (by omega), show (i : Int) + 1 = ((i + 1 : Nat) : Int) by omega]
    exact hensel_Reduce_v1 hf hm h0 l hl hs k (i + 1) (by omega)
theorem qs9 {f : List qaB} {m : qaB} (hf : Ws f) (hm : Sm m) (h0 : ival m ≠ 0) (hs : f.length < 4398046511104) : Ev (fun K => qbO K f m) (mkP (redL (ival m) (pv f)), 0) := by
  refine qaS ?_
  simp only [qbO, qdE]
  have hc := qfB (ival m) 0
  refine qaP (qjK hm.1 (by have := hm.2; omega)) (ev_f (by simp; omega) (qjP (by omega) ?_))
  have := hensel_Reduce_v1 hf hm h0 _ rfl hs _ 0 (Nat.zero_add _)
  rw [Int.toNat_natCast]
  simpa using this
theorem qvV {f : List qaB} {m : qaB} (hm : Sm m) (h0 : ival m = 0) : Ev (fun K => qbO K f m) ([], 2) := by
  refine qaS ?_
  simp only [qbO, qdE]
  have hc := qfB (ival m) 0
  exact qaP (qjK hm.1 (by have := hm.2; omega)) (ev_t (by simp; omega) (qa3 _))
def prodL (m : Int) (o : List Int) (fs : List (List Int)) : List Int := fs.foldl (fun o F => redL m (mulL o F)) o
theorem prodL_red (m : Int) : ∀ (fs : List (List Int)) (o : List Int), (∃ l, o = redL m l) → ∃ l, prodL m o fs = redL m l
  | [], _, h => h
  | _ :: fs, _, _ => prodL_red m fs _ ⟨_, rfl⟩
theorem mulL_len (F G : List Int) : (mulL F G).length = F.length + G.length := by simp [mulL]
theorem mul_len (F G : List Int) : (tz (mulL F G)).length ≤ F.length + G.length := by
  have := tz_len (mulL F G); rw [mulL_len] at this; exact this
theorem hensel_Product_v1 {m : qaB} (hm : Sm m) (h0 : ival m ≠ 0) {n : Nat} (hn : ((ival m).natAbs : Int) < 4294967296 ^ n) (hn2 : n ≤ 100000) (fs : List (List qaB)) (hfs : ∀ f ∈ fs, Ws f ∧ Bd 100000 (pv f) ∧ f.length ≤ 1000) (hl : fs.length ≤ 10000) :
    ∀ (k i : Nat) (O : List Int), i + k = fs.length → Bd n O → O.length ≤ 1 + 1000 * i → Ev (fun K => qbG K (.c1 m (mkP O) 0 fs fs.length i)) (mkP (prodL (ival m) O ((fs.drop i).map pv)), 0)
  | 0, i, O, hi, hO, hOl => by
    refine qaS ?_
    simp only [qbG]
    refine ev_f (by simp; omega) (qe5 (qa3 _) ?_)
    rw [List.drop_of_length_le (by omega)]; rfl
  | k + 1, i, O, hi, hO, hOl => by
    refine qaS ?_
    simp only [qbG]
    have hif : i < fs.length := by omega
    obtain ⟨hw, hb, hfl⟩ := hfs _ (List.getElem_mem hif)
    have hOw : Ws (mkP O) := ws_mkP (by omega) hO
    have hmul := unipoly_Mul_ev hOw hw (p := n) (q := 100000) (by rw [qpG]; exact hO) hb (by omega) (by rw [qhB]; omega) (by omega)
    rw [qpG] at hmul
    have hbm : Bd (n + 100000 + 1) (tz (mulL O (pv fs[i]))) := by
      refine bd_tz fun x hx => ?_
      obtain ⟨j, _, rfl⟩ := List.mem_map.1 hx
      exact lm_bd hO (bd_co hb) (by omega) j
    have hml := mul_len O (pv fs[i])
    rw [qfC] at hml
    have hred := qs9 (f := mkP (tz (mulL O (pv fs[i])))) (ws_mkP (by omega) hbm) hm h0 (by rw [qhB]; omega)
    rw [qpG, redL_ext (l' := mulL O (pv fs[i])) (by rw [co_tz]; exact Cong.refl _ _)] at hred
    refine ev_t (by simp; omega) (qb6 (qc0 hif) (ev_t rfl (qaP hmul (qaP hred ?_))))
    refine qaS ?_
    simp only [qbG]
    rw [qdN (by omega), show (i : Int) + 1 = ((i + 1 : Nat) : Int) by omega]
    have hl2 : (redL (ival m) (mulL O (pv fs[i]))).length ≤ O.length + fs[i].length := by
      have := qtL (ival m) (mulL O (pv fs[i]))
      rw [mulL_len, qfC] at this; exact this
    have := hensel_Product_v1 hm h0 hn hn2 fs hfs hl k (i + 1) (redL (ival m) (mulL O (pv fs[i]))) (by omega) (redL_bd h0 hn) (by omega)
    rw [List.drop_eq_getElem_cons hif]
    exact this
theorem hensel_Product_ev {m : qaB} (hm : Sm m) (h0 : ival m ≠ 0) {n : Nat} (hn : ((ival m).natAbs : Int) < 4294967296 ^ n) (hn2 : n ≤ 100000) (fs : List (List qaB)) (hfs : ∀ f ∈ fs, Ws f ∧ Bd 100000 (pv f) ∧ f.length ≤ 1000) (hl : fs.length ≤ 10000) :
    Ev (fun K => qdS K fs m) (mkP (prodL (ival m) (redL (ival m) [1]) (fs.map pv)), 0) := by
  refine qaS ?_
  simp only [qdS, qbG]
  have hof := unipoly_Of_ev [1] (by simp) (by decide)
  rw [show tz [1] = [1] from rfl] at hof
  have hb1 : Bd 1 [1] := fun x hx => by simp at hx; subst hx; decide
  have hred := qs9 (f := mkP [1]) (ws_mkP (by decide) hb1) hm h0 (by decide)
  rw [qpG] at hred
  have h1 := qtL (ival m) [1]
  have := hensel_Product_v1 hm h0 hn hn2 fs hfs hl _ 0 (redL (ival m) [1]) (Nat.zero_add _) (redL_bd h0 hn) (by simpa using h1)
  rw [List.drop_zero] at this
  exact qaP hof (qaP hred this)
theorem qqY {m : qaB} (fs : List (List qaB)) (hl : fs.length < 4611686018427387904) : ∀ (k i : Nat), i + k = fs.length → Ev (fun K => qbG K (.c1 m [] 2 fs fs.length i)) ([], 2)
  | 0, i, hi => by
    refine qaS ?_
    simp only [qbG]
    exact ev_f (by simp; omega) (qa3 _)
  | k + 1, i, hi => by
    refine qaS ?_
    simp only [qbG]
    refine ev_t (by simp; omega) (qb6 (qc0 (by omega)) (ev_f rfl ?_))
    refine qaS ?_
    simp only [qbG]
    rw [qdN (by omega), show (i : Int) + 1 = ((i + 1 : Nat) : Int) by omega]
    exact qqY fs hl k (i + 1) (by omega)
theorem qu4 {m : qaB} (hm : Sm m) (h0 : ival m = 0) (fs : List (List qaB)) (hl : fs.length < 4611686018427387904) : Ev (fun K => qdS K fs m) ([], 2) := by
  refine qaS ?_
  simp only [qdS, qbG]
  exact qaP (unipoly_Of_ev [1] (by simp) (by decide)) (qaP (qvV hm h0) (qqY fs hl _ 0 (Nat.zero_add _)))
theorem reduced_v1 {m : qaB} (hm : Sm m) (h0 : ival m ≠ 0) (l : List Int) (hw : Ws (mkP l)) (hl : l.length < 4398046511104) (ht : tz l = l) (hs : ∀ x ∈ l, sym x (ival m) = x) : ∀ (k i : Nat), i + k = l.length →
    Ev (fun K => qbU K (.c1 m (mkP l) (mkP l) l.length i)) true
  | 0, i, hi => by
    refine qaS ?_
    simp only [qbU]
    have := unipoly_Degree_ev (ws_wf hw) (by rw [qhB]; omega)
    rw [qpG, ht] at this
    refine ev_f (by simp; omega) (qaP this (qe5 (qa3 _) ?_))
    rw [qdN (by omega), qhB]
    simp
  | k + 1, i, hi => by
    refine qaS ?_
    simp only [qbU]
    have hil : i < (mkP l).length := by rw [qhB]; omega
    have hil' : i < l.length := by omega
    have hx : (mkP l)[i]? = some (mkI l[i]) := mkP_get (List.getElem?_eq_getElem hil')
    have sx : Sm (mkI l[i]) := hw _ (List.mem_of_getElem? hx)
    have hsy := qsM sx hm h0
    rw [qd5, hs _ (List.getElem_mem hil')] at hsy
    have hsa := integer_Same_ev sx.1 sx.1 (by have := sx.2; omega) (by have := sx.2; omega)
    refine ev_t (by simp; omega) (qb6 (gi_get hx) (qaP hsy (qaP hsa (ev_f (by simp) ?_))))
    rw [qdN (by omega), show (i : Int) + 1 = ((i + 1 : Nat) : Int) by omega]
    exact reduced_v1 hm h0 l hw hl ht hs k (i + 1) (by omega)
theorem reduced_ev {m : qaB} (hm : Sm m) (h0 : ival m ≠ 0) (l : List Int) (hl : l.length < 4398046511104) : Ev (fun K => qeS K (mkP (redL (ival m) l)) m) true := by
  refine qaS ?_
  simp only [qeS, qbU]
  have := qtL (ival m) l
  have h := reduced_v1 hm h0 (redL (ival m) l) (fun a ha => by
    obtain ⟨x, hx, rfl⟩ := List.mem_map.1 ha
    obtain ⟨y, _, rfl⟩ := List.mem_map.1 (tz_mem hx)
    exact sm_le hm (sym_abs h0)) (by omega) (redL_tz _ _) (fun x hx => redL_mem hx) _ 0 (Nat.zero_add _)
  rw [qhB]
  exact h
theorem congruent_v1 {m : qaB} (hm : Sm m) (l : List Int) (hw : Ws (mkP l)) (hl : l.length < 4398046511104) (hd : ∀ x ∈ l, ival m ∣ x) : ∀ (k i : Nat), i + k = l.length →
    Ev (fun K => qbM K (.c1 m (mkP l) l.length i)) true
  | 0, i, hi => by
    refine qaS ?_
    simp only [qbM]
    exact ev_f (by simp; omega) (qa3 _)
  | k + 1, i, hi => by
    refine qaS ?_
    simp only [qbM]
    have hil' : i < l.length := by omega
    have hx : (mkP l)[i]? = some (mkI l[i]) := mkP_get (List.getElem?_eq_getElem hil')
    have sx : Sm (mkI l[i]) := hw _ (List.mem_of_getElem? hx)
    have hdv := division_Divides_ev hm sx
    rw [qd5] at hdv
    refine ev_t (by simp; omega) (qb6 (gi_get hx) (qaP hdv (ev_f (by simp [hd _ (List.getElem_mem hil')]) ?_)))
    rw [qdN (by omega), show (i : Int) + 1 = ((i + 1 : Nat) : Int) by omega]
    exact congruent_v1 hm l hw hl hd k (i + 1) (by omega)
theorem congruent_ev {m : qaB} (hm : Sm m) {f g : List qaB} {n : Nat} (hn : n ≤ 1000000) (hf : Ws f) (hg : Ws g) (bf : Bd n (pv f)) (bg : Bd n (pv g)) (hfl : f.length < 1000000000) (hgl : g.length < 1000000000) (h : Cong (ival m) (co (pv f)) (co (pv g))) :
    Ev (fun K => qe3 K f g m) true := by
  refine qaS ?_
  simp only [qe3, qbM]
  have hb : Bd (n + 1) (tz (subL (max f.length g.length) (pv f) (pv g))) := by
    refine bd_tz fun x hx => ?_
    obtain ⟨k, _, rfl⟩ := List.mem_map.1 hx
    have h1 := bd_co bf k
    have h2 := bd_co bg k
    rw [Int.pow_succ]; omega
  have hl : (tz (subL (max f.length g.length) (pv f) (pv g))).length ≤ max f.length g.length := by
    have := tz_len (subL (max f.length g.length) (pv f) (pv g))
    simpa [subL] using this
  refine qaP (unipoly_Sub_ev hf hg (by omega) (by omega)) ?_
  rw [qhB]
  refine congruent_v1 hm _ (ws_mkP (by omega) hb) (by omega) (fun x hx => ?_) _ 0 (Nat.zero_add _)
  obtain ⟨k, _, rfl⟩ := List.mem_map.1 (tz_mem hx)
  exact h k
end Go.Am.X
namespace Go.Am.X
theorem bd_mulL {p q : Nat} {F G : List Int} (hF : Bd p F) (hG : Bd q G) (hl : F.length < 4294967296) : Bd (p + q + 1) (tz (mulL F G)) := by
  refine bd_tz fun x hx => ?_
  obtain ⟨j, _, rfl⟩ := List.mem_map.1 hx
  exact lm_bd hF (bd_co hG) hl j
theorem HenselReduce_ev {f g : List qaB} {m : qaB} (hf : ∀ a ∈ f, Dig a.Abs) (hg : ∀ a ∈ g, Dig a.Abs) (hm : Dig m.Abs) :
    Ev (fun K => qh4 K f g m) true := by
  refine qaS ?_
  simp only [qh4, qdM]
  refine qaP fit_ev (ev_f rfl (qaP (qtK f 10 (by omega)) ?_))
  by_cases h1 : f.length ≤ 10 ∧ ∀ a ∈ f, a.Abs.length ≤ 10
  · refine ev_f (by rw [decide_eq_true h1]; rfl) (qaP (qtK g 10 (by omega)) ?_)
    by_cases h2 : g.length ≤ 10 ∧ ∀ a ∈ g, a.Abs.length ≤ 10
    · refine ev_f (by rw [decide_eq_true h2]; rfl) ?_
      by_cases h3 : 10 < m.Abs.length
      · exact ev_t (by simp; omega) (qa3 _)
      · refine ev_f (by simp; omega) ?_
        have wf : Ws f := fun a ha => ⟨hf a ha, by have := h1.2 a ha; omega⟩
        have wg : Ws g := fun a ha => ⟨hg a ha, by have := h2.2 a ha; omega⟩
        have sm : Sm m := ⟨hm, by omega⟩
        have bf : Bd 10 (pv f) := bd_of_len fun a ha => ⟨hf a ha, h1.2 a ha⟩
        have bg : Bd 10 (pv g) := bd_of_len fun a ha => ⟨hg a ha, h2.2 a ha⟩
        have hsg := qjK hm (by omega)
        have hc := qfB (ival m) 0
        by_cases h0 : ival m = 0
        · refine qaP (qvV sm h0) (qaP (qu4 sm h0 _ (by simp)) (qaP (qu4 sm h0 _ (by simp)) (qaP hsg ?_)))
          exact ev_t (by simp; omega) (ev_t rfl (ev_t rfl (qa3 _)))
        · have hmn : ((ival m).natAbs : Int) < 4294967296 ^ 10 := by
            have g1 := sm_lt hm
            have g2 := qrV (show m.Abs.length ≤ 10 by omega)
            omega
          have hfs : ∀ F ∈ [f, g, f], Ws F ∧ Bd 100000 (pv F) ∧ F.length ≤ 1000 := by
            intro F hF
            simp only [List.mem_cons, List.not_mem_nil, or_false] at hF
            rcases hF with rfl | rfl | rfl
            · exact ⟨wf, bd_mono (by omega) bf, by omega⟩
            · exact ⟨wg, bd_mono (by omega) bg, by omega⟩
            · exact ⟨wf, bd_mono (by omega) bf, by omega⟩
          refine qaP (qs9 wf sm h0 (by omega)) (qaP (hensel_Product_ev sm h0 hmn (by omega) [f, g, f] hfs (by simp)) (qaP (hensel_Product_ev sm h0 hmn (by omega) [] (fun _ h => by cases h) (by simp)) (qaP hsg ?_)))
          refine ev_f (by simp; omega) (ev_f rfl (ev_f rfl ?_))
          -- the three are reduced
          have e0 : prodL (ival m) (redL (ival m) [1]) (([] : List (List qaB)).map pv) = redL (ival m) [1] := rfl
          obtain ⟨l, el⟩ := prodL_red (ival m) ([f, g, f].map pv) (redL (ival m) [1]) ⟨_, rfl⟩
          have lenf : (pv f).length = f.length := qfC f
          have leng : (pv g).length = g.length := qfC g
          -- the product
          have c1 : Cong (ival m) (co (redL (ival m) (mulL (redL (ival m) [1]) (pv f)))) (co (pv f)) := by
            refine (qt4 _ _).trans ?_
            rw [qtD]
            have h5 : lm [1] (co (pv f)) = co (pv f) := by
              funext k; cases k <;> simp [lm, xm]
            have h6 := Cong.mul (qt4 (ival m) [1]) (Cong.refl (ival m) (co (pv f)))
            rw [h5] at h6
            exact h6
          have c2 : Cong (ival m) (co (redL (ival m) (mulL (redL (ival m) (mulL (redL (ival m) [1]) (pv f))) (pv g)))) (co (mulL (pv f) (pv g))) := by
            refine (qt4 _ _).trans ?_
            rw [qtD, qtD]
            exact Cong.mul c1 (Cong.refl _ _)
          have c3 : Cong (ival m) (co (prodL (ival m) (redL (ival m) [1]) ([f, g, f].map pv))) (co (tz (mulL (pv f) (tz (mulL (pv g) (pv f)))))) := by
            have e1 : co (tz (mulL (pv f) (tz (mulL (pv g) (pv f))))) = lm (mulL (pv f) (pv g)) (co (pv f)) := by
              rw [co_tz, qtD, co_tz, qtD, lm_comm (mulL (pv f) (pv g)), qtD, lm_comm (pv g)]
            rw [e1]
            show Cong (ival m) (co (redL (ival m) (mulL (redL (ival m) (mulL (redL (ival m) (mulL (redL (ival m) [1]) (pv f))) (pv g))) (pv f)))) _
            refine (qt4 _ _).trans ?_
            rw [qtD]
            exact Cong.mul c2 (Cong.refl _ _)
          have plen : (prodL (ival m) (redL (ival m) [1]) ([f, g, f].map pv)).length ≤ 100 := by
            have l0 := qtL (ival m) [1]
            have l1 := qtL (ival m) (mulL (redL (ival m) [1]) (pv f))
            have l2 := qtL (ival m) (mulL (redL (ival m) (mulL (redL (ival m) [1]) (pv f))) (pv g))
            have l3 := qtL (ival m) (mulL (redL (ival m) (mulL (redL (ival m) (mulL (redL (ival m) [1]) (pv f))) (pv g))) (pv f))
            rw [mulL_len] at l1 l2 l3
            simp only [List.length_cons, List.length_nil] at l0
            show (redL (ival m) (mulL (redL (ival m) (mulL (redL (ival m) (mulL (redL (ival m) [1]) (pv f))) (pv g))) (pv f))).length ≤ 100
            omega
          have pbd : Bd 40 (prodL (ival m) (redL (ival m) [1]) ([f, g, f].map pv)) := by
            show Bd 40 (redL (ival m) _)
            exact bd_mono (by omega) (redL_bd h0 hmn)
          have rbd : ∀ x : List Int, Bd 40 (redL (ival m) x) := fun x => bd_mono (by omega) (redL_bd h0 hmn)
          have red2 : Ev (fun K => qeS K (mkP (prodL (ival m) (redL (ival m) [1]) ([f, g, f].map pv))) m) true := by
            rw [el]
            have : (redL (ival m) l).length ≤ 100 := by rw [← el]; exact plen
            have h7 := reduced_ev sm h0 (redL (ival m) l) (by omega)
            rw [redL_redL] at h7
            exact h7
          refine qaP (reduced_ev sm h0 (pv f) (by omega)) (ev_f rfl (qaP red2 (ev_f rfl (qaP (reduced_ev sm h0 [1] (by decide)) (ev_f rfl ?_)))))
          -- and congruent
          have lr := qtL (ival m) (pv f)
          have b40f : Bd 40 (pv f) := bd_mono (by omega) bf
          have con1 := congruent_ev sm (f := mkP (redL (ival m) (pv f))) (g := f) (n := 40) (by omega) (ws_mkP (by omega) (rbd _)) wf (by rw [qpG]; exact rbd _) b40f (by rw [qhB]; omega) (by omega) (by rw [qpG]; exact qt4 _ _)
          have hgf := unipoly_Mul_ev wg wf (p := 10) (q := 10) bg bf (by omega) (by omega) (by omega)
          have bgf : Bd 21 (tz (mulL (pv g) (pv f))) := bd_mono (m := 10 + 10 + 1) (by omega) (bd_mulL (p := 10) (q := 10) bg bf (by omega))
          have lgf := mul_len (pv g) (pv f)
          have hfgf := unipoly_Mul_ev wf (ws_mkP (n := 21) (by omega) bgf) (p := 10) (q := 21) bf (by rw [qpG]; exact bgf) (by omega) (by omega) (by rw [qhB]; omega)
          rw [qpG] at hfgf
          have bfgf : Bd 32 (tz (mulL (pv f) (tz (mulL (pv g) (pv f))))) := bd_mono (m := 10 + 21 + 1) (by omega) (bd_mulL (p := 10) (q := 21) bf bgf (by omega))
          have lfgf := mul_len (pv f) (tz (mulL (pv g) (pv f)))
          have con2 := congruent_ev sm (f := mkP (prodL (ival m) (redL (ival m) [1]) ([f, g, f].map pv))) (g := mkP (tz (mulL (pv f) (tz (mulL (pv g) (pv f)))))) (n := 40) (by omega) (ws_mkP (by omega) pbd) (ws_mkP (n := 32) (by omega) bfgf)
            (by rw [qpG]; exact pbd) (by rw [qpG]; exact bd_mono (by omega) bfgf) (by rw [qhB]; omega) (by rw [qhB]; omega) (by rw [qpG, qpG]; exact c3)
          have hb1 : Bd 1 [1] := fun x hx => by simp at hx; subst hx; decide
          have l0 := qtL (ival m) [1]
          have con3 := congruent_ev sm (f := mkP (redL (ival m) [1])) (g := mkP [1]) (n := 40) (by omega) (ws_mkP (by omega) (rbd _)) (ws_mkP (n := 1) (by omega) hb1) (by rw [qpG]; exact rbd _) (by rw [qpG]; exact bd_mono (by omega) hb1)
            (by rw [qhB]; simp at l0; omega) (by simp [mkP]) (by rw [qpG, qpG]; exact qt4 _ _)
          have hof := unipoly_Of_ev [1] (by simp) (by decide)
          rw [show tz [1] = [1] from rfl] at hof
          exact qaP con1 (ev_t rfl (qaP hgf (qaP hfgf (qaP con2 (ev_t rfl (qaP hof (qaP con3 (qa3 _))))))))
    · exact ev_t (by rw [decide_eq_false h2]; rfl) (qa3 _)
  · exact ev_t (by rw [decide_eq_false h1]; rfl) (qa3 _)
end Go.Am.X
namespace Go.Am
def tilesT (P : Program) : Nat → List Field → Bool
  | _, [] => true
  | off, f :: fs => f.offset == off && tilesT P (off + P.cellsOf f.type) fs
def tileEnd (P : Program) : Nat → List Field → Nat
  | off, [] => off
  | off, f :: fs => tileEnd P (off + P.cellsOf f.type) fs
def qt5 (P : Program) : Nat → TypeId → Bool
  | 0, _ => false
  | n + 1, t => match P.underlying t with
    | some .bool => true
    | some (.int _) => true
    | some (.slice e) => decide (0 < P.cellsOf e) && qt5 P n e
    | some (.struct fs) => tilesT P 0 fs.toList && (tileEnd P 0 fs.toList == P.cellsOf t) && fs.toList.all fun f => qt5 P n f.type
    | some (.array m e) => (m * P.cellsOf e == P.cellsOf t) && qt5 P n e
    | _ => false
def WtL (W : TypeId → List T → Prop) : List TypeId → List T → Prop
  | [], ts => ts = []
  | t :: r, ts => ∃ a b, ts = a ++ b ∧ W t a ∧ WtL W r b
def Wt (P : Program) : Nat → TypeId → List T → Prop
  | 0, _, _ => False
  | n + 1, t, ts => match P.underlying t with
    | some .bool => ∃ b, ts = [.bool b]
    | some (.int k) => ∃ m, ts = [.int k m] ∧ (Lit.int k m).wf = true
    | some (.slice e) => ∃ es, ts = [.sl (P.cellsOf e) es] ∧ es.length ≤ maxLen ∧ ∀ x ∈ es, Wt P n e x
    | some (.struct fs) => WtL (Wt P n) (fs.toList.map (·.type)) ts
    | some (.array m e) => WtL (Wt P n) (List.replicate m e) ts
    | _ => False
def RepL (w : World) (I : Nat → Nat → Prop) : List Value → List T → Prop
  | [], [] => True
  | v :: vs, t :: ts => Rep w I v t ∧ RepL w I vs ts
  | _, _ => False
theorem RepL.append {w : World} {I : Nat → Nat → Prop} : ∀ {a b : List Value} {x y : List T}, RepL w I a x → RepL w I b y → RepL w I (a ++ b) (x ++ y)
  | [], _, [], _, _, h => h
  | _ :: _, _, _ :: _, _, h, h' => ⟨h.1, h.2.append h'⟩
  | [], _, _ :: _, _, h, _ => h.elim
  | _ :: _, _, [], _, h, _ => h.elim
theorem RepL.length {w : World} {I : Nat → Nat → Prop} : ∀ {a : List Value} {x : List T}, RepL w I a x → a.length = x.length
  | [], [], _ => rfl
  | _ :: _, _ :: _, h => by simp [h.2.length]
  | [], _ :: _, h => h.elim
  | _ :: _, [], h => h.elim
theorem RepL.get {w : World} {I : Nat → Nat → Prop} : ∀ {a : List Value} {x : List T} {k : Nat} {v : Value} {t : T}, RepL w I a x → a[k]? = some v → x[k]? = some t → Rep w I v t
  | _ :: _, _ :: _, 0, _, _, h, h1, h2 => by simp at h1 h2; subst h1; subst h2; exact h.1
  | _ :: _, _ :: _, k + 1, _, _, h, h1, h2 => h.2.get (k := k) (by simpa using h1) (by simpa using h2)
  | [], [], _, _, _, _, h1, _ => by simp at h1
  | [], _ :: _, _, _, _, h, _, _ => h.elim
  | _ :: _, [], _, _, _, h, _, _ => h.elim
theorem RepL.crs {w : World} {I : Nat → Nat → Prop} {L : Loc} {H : List (Nat × Blk)} : ∀ {a : List Value} {x : List T}, RepL w I a x → CRs w L H I a (x.map .t)
  | [], [], _ => trivial
  | _ :: _, _ :: _, h => ⟨⟨h.1.one, h.1⟩, h.2.crs⟩
  | [], _ :: _, h => h.elim
  | _ :: _, [], h => h.elim
section
variable {H : Type} {enc : TypeId × Value → H} {P : Program} {w : World} {base : Nat} {held : Bool}
theorem tile {n : Nat} {I : Nat → Nat → Prop} (cs : List Value) : ∀ (fs : List Field) (off : Nat), tilesT P off fs = true → cs.length = tileEnd P off fs →
    (∀ f ∈ fs, ∃ ts, Wt P n f.type ts ∧ RepL w I ((cs.drop f.offset).take (P.cellsOf f.type)) ts) → ∃ ts, WtL (Wt P n) (fs.map (·.type)) ts ∧ RepL w I (cs.drop off) ts
  | [], off, _, hl, _ => ⟨[], rfl, by rw [List.drop_of_length_le (by simp only [tileEnd] at hl; omega)]; trivial⟩
  | f :: fs, off, ht, hl, h => by
    simp only [tilesT, Bool.and_eq_true, beq_iff_eq] at ht
    obtain ⟨a, h1, h2⟩ := h f (List.mem_cons_self ..)
    obtain ⟨b, h3, h4⟩ := tile cs fs (off + P.cellsOf f.type) ht.2 hl (fun g hg => h g (List.mem_cons_of_mem _ hg))
    refine ⟨a ++ b, ⟨a, b, rfl, h1, h3⟩, ?_⟩
    have e : cs.drop off = (cs.drop off).take (P.cellsOf f.type) ++ cs.drop (off + P.cellsOf f.type) := by rw [← List.drop_drop, List.take_append_drop]
    rw [e]
    rw [ht.1] at h2
    exact h2.append h4
theorem tileA {n c : Nat} {e : TypeId} {I : Nat → Nat → Prop} (cs : List Value) : ∀ (m i : Nat), cs.length = (i + m) * c →
    (∀ j, j < i + m → ∃ ts, Wt P n e ts ∧ RepL w I ((cs.drop (j * c)).take c) ts) → ∃ ts, WtL (Wt P n) (List.replicate m e) ts ∧ RepL w I (cs.drop (i * c)) ts
  | 0, i, hl, _ => ⟨[], rfl, by rw [List.drop_of_length_le (by rw [hl]; simp)]; trivial⟩
  | m + 1, i, hl, h => by
    obtain ⟨a, h1, h2⟩ := h i (by omega)
    obtain ⟨b, h3, h4⟩ := tileA cs m (i + 1) (by rw [hl]; congr 1; omega) (fun j hj => h j (by omega))
    refine ⟨a ++ b, ⟨a, b, rfl, h1, h3⟩, ?_⟩
    have e : cs.drop (i * c) = (cs.drop (i * c)).take c ++ cs.drop ((i + 1) * c) := by rw [Nat.add_mul, Nat.one_mul, ← List.drop_drop, List.take_append_drop]
    rw [e]
    exact h2.append h4
theorem cell_some {a : Addr} {v : Value} (h : w.cell? a = some v) : a.spot = none ∧ a.block < w.heap.size := by
  unfold World.cell? at h
  split at h
  · rename_i hg
    split at h
    · cases h
    · rename_i hs
      exact ⟨by simpa using hs, (Array.getElem?_eq_some_iff.1 hg).1⟩
  · cases h
theorem open_plain : ∀ (n : Nat) (t : TypeId) (fuel : Nat) (cs : List Value) (x : DataW H × List MemPlace), qt5 P n t = true → DataW.trod enc P w 0 (fun _ => true) held fuel t cs = some x →
    ∃ ts, Wt P n t ts ∧ RepL w (fun b _ => b < w.heap.size) cs ts
  | 0, _, _, _, _, hp, _ => by cases hp
  | n + 1, t, fuel, cs, x, hp, h => by
    unfold qt5 at hp
    unfold Wt
    split at hp
    · rename_i hu
      obtain ⟨b, rfl, rfl⟩ := DataW.trod_bool hu h
      exact ⟨_, ⟨b, rfl⟩, .bool b, trivial⟩
    · rename_i k hu
      obtain ⟨m, rfl, rfl, hw⟩ := DataW.trod_int hu h
      exact ⟨_, ⟨m, rfl, hw⟩, .int k m, trivial⟩
    · rename_i e hu
      simp only [Bool.and_eq_true, decide_eq_true_eq] at hp
      rcases Deep.open_slice hu h with ⟨rfl, _⟩ | ⟨a, len, cap, m, n', D, Pl, rfl, _, hlc, hcm, hm, _, hel⟩
      · exact ⟨_, ⟨[], rfl, Nat.zero_le _, by simp⟩, .nil _, trivial⟩
      · simp only [if_true] at hm
        subst hm
        by_cases hc : m = 0
        · subst hc
          have : len = 0 := by omega
          subst this
          exact ⟨_, ⟨[], rfl, Nat.zero_le _, by simp⟩, .emp a _, trivial⟩
        · obtain ⟨cs0, h0, _⟩ := hel 0 (by omega)
          obtain ⟨_, hl0, hg0⟩ := World.cells?_some h0
          have hsp : a.spot = none := by
            have hz := hg0 0 hp.1
            rw [List.getElem?_eq_getElem (by omega), Nat.zero_mul] at hz
            simp only [Addr.add, if_true] at hz
            exact (cell_some hz).1
          obtain ⟨b, off, sp⟩ := a
          simp only at hsp
          subst hsp
          obtain ⟨f, hf⟩ := Deep.choose_lt (α := List Value × List T) (n := len) (p := fun i y => w.cells? 0 ((⟨b, off, none⟩ : Addr).add (i * P.cellsOf e)) (P.cellsOf e) = some y.1 ∧ Wt P n e y.2 ∧ RepL w (fun b _ => b < w.heap.size) y.1 y.2) (fun i hi => by
            obtain ⟨cs', h1, h2⟩ := hel i (by omega)
            obtain ⟨ts, h3, h4⟩ := open_plain n e n' cs' _ hp.2 h2
            exact ⟨(cs', ts), h1, h3, h4⟩)
          have hlen : ∀ i, i < len → (f i).1.length = P.cellsOf e ∧ (f i).2.length = P.cellsOf e := fun i hi => by
            obtain ⟨g1, _, g3⟩ := hf i hi
            have := (World.cells?_some g1).2.1
            exact ⟨this, by rw [← g3.length, this]⟩
          have hcell : ∀ i k, i < len → k < P.cellsOf e → w.cell? ⟨b, off + i * P.cellsOf e + k, none⟩ = some ((f i).1.getD k undef) := fun i k hi hk => by
            obtain ⟨g1, _, _⟩ := hf i hi
            have := (World.cells?_some g1).2.2 k hk
            rw [qqU, qqU] at this
            rw [this, List.getD, List.getElem?_eq_getElem (by rw [(hlen i hi).1]; exact hk)]
            rfl
          refine ⟨_, ⟨(List.range len).map fun i => (f i).2, rfl, by simp; omega, ?_⟩, ?_, trivial⟩
          · intro y hy
            obtain ⟨i, hi, rfl⟩ := List.mem_map.1 hy
            exact (hf i (List.mem_range.1 hi)).2.1
          · refine .sl b off len m _ _ (fun i k => (f i).1.getD k undef) (fun i k => (f i).2.getD k (.bool false)) (by simp) hlc ?_ ?_ ?_ hcell ?_
            · intro y hy
              obtain ⟨i, hi, rfl⟩ := List.mem_map.1 hy
              exact (hlen i (List.mem_range.1 hi)).2
            · intro i k y hy hk
              rw [List.getElem?_map] at hy
              obtain ⟨j, hj, rfl⟩ := Option.map_eq_some_iff.1 hy
              obtain ⟨hj1, hj2⟩ := List.getElem?_eq_some_iff.1 hj
              simp only [List.length_range] at hj1
              simp only [List.getElem_range] at hj2
              subst hj2
              rw [List.getD, List.getElem?_eq_getElem (by rw [(hlen i hj1).2]; exact hk)]
              rfl
            · intro i k hi hk
              exact (cell_some (hcell i k hi hk)).2
            · intro i k hi hk
              refine (hf i hi).2.2.get (k := k) ?_ ?_
              · rw [List.getD, List.getElem?_eq_getElem (by rw [(hlen i hi).1]; exact hk)]; rfl
              · rw [List.getD, List.getElem?_eq_getElem (by rw [(hlen i hi).2]; exact hk)]; rfl
    · rename_i fs hu
      simp only [Bool.and_eq_true, beq_iff_eq, List.all_eq_true] at hp
      obtain ⟨xs, n', _, _, hl, hxl, hx⟩ := DataW.trod_struct hu h
      have := tile (w := w) (n := n) (I := fun b _ => b < w.heap.size) cs fs.toList 0 hp.1.1 (by rw [hl, hp.1.2]) (fun f hf => by
        obtain ⟨i, hi, hif⟩ := List.getElem_of_mem hf
        have h1 := hx i f (by rw [← Array.getElem?_toList, List.getElem?_eq_getElem hi, hif])
        rw [List.getElem?_eq_getElem (by rw [hxl]; simpa using hi)] at h1
        exact open_plain n f.type n' _ _ (hp.2 f hf) h1)
      rw [List.drop_zero] at this
      exact this
    · rename_i m e hu
      simp only [Bool.and_eq_true, beq_iff_eq] at hp
      obtain ⟨xs, n', _, _, hl, hxl, hx⟩ := DataW.trod_array hu h
      have := tileA (w := w) (n := n) (e := e) (c := P.cellsOf e) (I := fun b _ => b < w.heap.size) cs m 0 (by rw [hl, Nat.zero_add, hp.1]) (fun j hj => by
        have h1 := hx j (by omega)
        rw [List.getElem?_eq_getElem (by omega)] at h1
        exact open_plain n e n' _ _ hp.2 h1)
      rw [Nat.zero_mul, List.drop_zero] at this
      exact this
    · cases hp
def oneOf : List T → TV
  | [x] => .c x
  | ts => .agg ts
def tvOf (P : Program) (t : TypeId) (ts : List T) : TV := match P.underlying t with
  | some (.struct _) | some (.array _ _) => .agg ts
  | _ => oneOf ts
theorem open_arg {n : Nat} {t : TypeId} {v : Value} {d : DataW H} {ps : List MemPlace} {r : Reach} (hp : qt5 P n t = true) (hv : Value.okWide P w r base t v)
    (h : DataW.Trod enc P w 0 (fun _ => true) held t v d ps) : ∃ ts, Wt P n t ts ∧ TVR w (fun b _ => b < w.heap.size) v (tvOf P t ts) := by
  obtain ⟨fuel, h⟩ := h
  obtain ⟨ts, h1, h2⟩ := open_plain n t fuel _ _ hp h
  refine ⟨ts, h1, ?_⟩
  have agg : (∃ cs : Array Value, v = .agg cs) → TVR w (fun b _ => b < w.heap.size) v (.agg ts) := by
    rintro ⟨cs, rfl⟩
    exact ⟨cs, rfl, h2.crs⟩
  have one : (∀ cs : Array Value, v ≠ .agg cs) → TVR w (fun b _ => b < w.heap.size) v (oneOf ts) := by
    intro hne
    clear agg h1
    have hc : v.cells.toList = [v] := by
      cases v <;> first | rfl | exact absurd rfl (hne _)
    rw [hc] at h2
    match ts, h2 with
    | [x], h2 => exact h2.1
    | [], h2 => exact h2.elim
    | _ :: _ :: _, h2 => exact h2.2.elim
  unfold qt5 at hp
  unfold tvOf
  unfold Value.okWide at hv
  cases n with
  | zero => cases hp
  | succ n =>
    simp only at hp
    split at hp
    · rename_i hu
      simp only [hu] at hv ⊢
      refine one fun cs e => ?_
      subst e
      simp [Cell.okWide, Cell.ok, hu] at hv
    · rename_i k hu
      simp only [hu] at hv ⊢
      refine one fun cs e => ?_
      subst e
      simp [Cell.okWide, Cell.ok, hu] at hv
    · rename_i k hu
      simp only [hu] at hv ⊢
      refine one fun cs e => ?_
      subst e
      simp [Cell.okWide, Cell.ok, hu] at hv
    · rename_i k hu
      simp only [hu] at hv ⊢
      obtain ⟨cs, rfl, _⟩ := hv
      exact agg ⟨cs, rfl⟩
    · rename_i m k hu
      simp only [hu] at hv ⊢
      obtain ⟨cs, rfl, _⟩ := hv
      exact agg ⟨cs, rfl⟩
    · cases hp
end
end Go.Am
namespace Go.Am
open Go.RowKit (Below)
section
variable {H : Type} {enc : TypeId × Value → H} {P : Program} {W : World} {r : Reach} {base n : Nat} {held : Bool} {t0 t1 t2 : TypeId} {v0 v1 v2 : Value} {d0 d1 d2 : DataW H} {p0 p1 p2 : List MemPlace}
theorem open2 (n0 : qt5 P n t0 = true) (n1 : qt5 P n t1 = true) (h : ∀ (j : Nat) t v, #[t0, t1][j]? = some t → #[v0, v1][j]? = some v → Value.okWide P W r base t v)
    (h0 : DataW.Trod enc P W 0 (fun _ => true) held t0 v0 d0 p0) (h1 : DataW.Trod enc P W 0 (fun _ => true) held t1 v1 d1 p1) :
    (∃ ts, Wt P n t0 ts ∧ TVR W (fun b _ => b < W.heap.size) v0 (tvOf P t0 ts)) ∧ (∃ ts, Wt P n t1 ts ∧ TVR W (fun b _ => b < W.heap.size) v1 (tvOf P t1 ts)) :=
  ⟨open_arg n0 (h 0 t0 v0 rfl rfl) h0, open_arg n1 (h 1 t1 v1 rfl rfl) h1⟩
theorem open3 (n0 : qt5 P n t0 = true) (n1 : qt5 P n t1 = true) (n2 : qt5 P n t2 = true) (h : ∀ (j : Nat) t v, #[t0, t1, t2][j]? = some t → #[v0, v1, v2][j]? = some v → Value.okWide P W r base t v)
    (h0 : DataW.Trod enc P W 0 (fun _ => true) held t0 v0 d0 p0) (h1 : DataW.Trod enc P W 0 (fun _ => true) held t1 v1 d1 p1) (h2 : DataW.Trod enc P W 0 (fun _ => true) held t2 v2 d2 p2) :
    (∃ ts, Wt P n t0 ts ∧ TVR W (fun b _ => b < W.heap.size) v0 (tvOf P t0 ts)) ∧ (∃ ts, Wt P n t1 ts ∧ TVR W (fun b _ => b < W.heap.size) v1 (tvOf P t1 ts)) ∧ (∃ ts, Wt P n t2 ts ∧ TVR W (fun b _ => b < W.heap.size) v2 (tvOf P t2 ts)) :=
  ⟨open_arg n0 (h 0 t0 v0 rfl rfl) h0, open_arg n1 (h 1 t1 v1 rfl rfl) h1, open_arg n2 (h 2 t2 v2 rfl rfl) h2⟩
end
theorem calls_true {P : Program} {f : FuncId} {args : List TV} {W : World} {vs : List Value} (h : qcX P f args (.c (.bool true))) (hv : TVRs W (fun b _ => b < W.heap.size) vs args) :
    Calls P f vs.toArray W fun e w' => e = .returned (.bool true) ∧ Below W.heap.size W w' := by
  refine (h _ W vs (fun _ _ h => h) hv).mono fun e w' ⟨v, he, hB, I', _, _, _, hr⟩ => ⟨?_, hB⟩
  have : Rep w' I' v (.bool true) := hr
  cases this
  exact he
theorem wt_list {α : Type} {P : Program} {n : Nat} {e : TypeId} {ce : α → List T} {good : α → Prop} (h : ∀ ts, Wt P n e ts → ∃ a, ts = ce a ∧ good a) :
    ∀ es : List (List T), (∀ x ∈ es, Wt P n e x) → ∃ l : List α, es = l.map ce ∧ ∀ a ∈ l, good a
  | [], _ => ⟨[], rfl, fun _ h => by cases h⟩
  | x :: es, hx => by
    obtain ⟨a, rfl, ga⟩ := h x (hx x (List.mem_cons_self ..))
    obtain ⟨l, rfl, gl⟩ := wt_list h es fun y hy => hx y (List.mem_cons_of_mem _ hy)
    exact ⟨a :: l, rfl, fun b hb => (List.mem_cons.1 hb).elim (fun e => e ▸ ga) (gl b)⟩
end Go.Am
namespace Go.Am.X
open Go.Proofs
theorem wt_u32 {n : Nat} {t : TypeId} (ht : Try.prog.underlying t = some (.int .u32)) {ts : List T} (h : Wt Try.prog n t ts) : ∃ x, ts = qaC x ∧ 0 ≤ x ∧ x < 4294967296 := by
  cases n with
  | zero => exact h.elim
  | succ n =>
    simp only [Wt, ht] at h
    obtain ⟨m, rfl, hw⟩ := h
    have hx : 0 ≤ m ∧ m ≤ 4294967295 := by simpa [Lit.wf, IntKind.min, IntKind.max, IntKind.signed, IntKind.bits] using hw
    exact ⟨m, rfl, by omega⟩
theorem cells101 : Try.prog.cellsOf 101 = 1 := by kernel_rfl
theorem wt_nat {n : Nat} {ts : List T} (h : Wt Try.prog n 43 ts) : ∃ l, ts = qaG l ∧ Dig l ∧ l.length ≤ maxLen := by
  cases n with
  | zero => exact h.elim
  | succ n =>
    simp only [Wt, Try.underlying43] at h
    obtain ⟨es, rfl, hl, hx⟩ := h
    obtain ⟨l, rfl, hg⟩ := wt_list (ce := qaC) (good := fun x => 0 ≤ x ∧ x < 4294967296) (fun ts h => wt_u32 Try.underlying101 h) es hx
    exact ⟨l, by rw [cells101]; rfl, hg, by simpa using hl⟩
theorem wt_bool {n : Nat} {ts : List T} (h : Wt Try.prog n 4 ts) : ∃ b, ts = ce_bool b := by
  cases n with
  | zero => exact h.elim
  | succ n =>
    simp only [Wt, Try.underlying4] at h
    obtain ⟨b, rfl⟩ := h
    exact ⟨b, rfl⟩
theorem wt_Int {n : Nat} {ts : List T} (h : Wt Try.prog n 45 ts) : ∃ a : qaB, ts = qaA a ∧ Dig a.Abs ∧ a.Abs.length ≤ maxLen := by
  cases n with
  | zero => exact h.elim
  | succ n =>
    simp only [Wt, Try.underlying45] at h
    obtain ⟨a, b, rfl, h1, c, d, rfl, h2, rfl⟩ := h
    obtain ⟨s, rfl⟩ := wt_bool h1
    obtain ⟨l, rfl, h3, h4⟩ := wt_nat h2
    exact ⟨⟨s, l⟩, rfl, h3, h4⟩
theorem cells45 : Try.prog.cellsOf 45 = 2 := by kernel_rfl
theorem wt_Poly {n : Nat} {ts : List T} (h : Wt Try.prog n 90 ts) : ∃ f : List qaB, ts = qaD f ∧ (∀ a ∈ f, Dig a.Abs ∧ a.Abs.length ≤ maxLen) ∧ f.length ≤ maxLen := by
  cases n with
  | zero => exact h.elim
  | succ n =>
    simp only [Wt, Try.underlying90] at h
    obtain ⟨es, rfl, hl, hx⟩ := h
    obtain ⟨l, rfl, hg⟩ := wt_list (ce := qaA) (good := fun a => Dig a.Abs ∧ a.Abs.length ≤ maxLen) (fun ts h => wt_Int h) es hx
    exact ⟨l, by rw [cells45]; rfl, hg, by simpa using hl⟩
theorem own : ownKnob Try.prog.godebug = none := by kernel_rfl
theorem laidOut : laidOutB Try.prog = true := by kernel_rfl
theorem tv45 (b : qaB) : tvOf Try.prog 45 (qaA b) = .agg (qaA b) := by simp only [tvOf, Try.underlying45]
theorem tv101 (x : Int) : tvOf Try.prog 101 (qaC x) = .c (.int .u32 x) := by simp only [tvOf, Try.underlying101, oneOf, qaC]
theorem tv90 (f : List qaB) : tvOf Try.prog 90 (qaD f) = .c (.sl 2 (f.map qaA)) := by simp only [tvOf, Try.underlying90, oneOf, qaD]
end Go.Am.X
namespace Go.Proofs.Yteciehfkhmbfeaa.henselReduce
open Go.ChangeShapes Go.WideShapes Go.ChangeAt Go.RowKit Go.Am Go.Am.X
set_option maxRecDepth 100000 in
theorem contract (H : Type) (enc : TypeId × Value → H) (W : World) (base : Nat) (args : Array Value) (ds gs : List (DataW H)) (before : List MemPlace)
    (hval : ∀ (j : Nat) t v, Try.f9.params[j]? = some t → args[j]? = some v → Value.okWide Try.prog W .any base t v)
    (hW : DataW.Whole enc Try.prog Try.f9.params.toList Rows.henselReduceSpec.vars false W args.toList ds gs before) :
    Calls Try.prog 9 args W fun e W' => ∃ v, e = .returned v ∧ Rows.henselReduceSpec.post enc Try.prog Try.f9 false true false false W args v W' := by
  have hW' := hW
  obtain ⟨p, q, hA0, hV, rfl, hfz, hnd⟩ := hW
  have hA : DataW.TrodAll enc Try.prog W 0 (fun _ => true) true Try.f9.params.toList args.toList ds p := hA0
  rw [Try.params9] at hA hval
  obtain ⟨v0, vs0, d0, ds0, p0, q0, hargs, rfl, rfl, h0, r0⟩ := trodAll_cons hA
  obtain ⟨v1, vs1, d1, ds1, p1, q1, rfl, rfl, rfl, h1, r1⟩ := trodAll_cons r0
  obtain ⟨v2, vs2, d2, ds2, p2, q2, rfl, rfl, rfl, h2, r2⟩ := trodAll_cons r1
  obtain ⟨rfl, rfl, rfl⟩ := trodAll_nil r2
  obtain rfl : args = #[v0, v1, v2] := by cases args; simp_all
  obtain ⟨rfl, rfl⟩ := trodVars_none hV
  obtain ⟨n, n0, n1, n2⟩ : ∃ n, qt5 Try.prog n 90 = true ∧ qt5 Try.prog n 90 = true ∧ qt5 Try.prog n 45 = true := ⟨5, by kernel_rfl, by kernel_rfl, by kernel_rfl⟩
  obtain ⟨⟨ts0, w0, g0⟩, ⟨ts1, w1, g1⟩, ⟨ts2, w2, g2⟩⟩ := open3 n0 n1 n2 @hval h0 h1 h2
  obtain ⟨f, rfl, hf, _⟩ := wt_Poly w0
  obtain ⟨g, rfl, hg, _⟩ := wt_Poly w1
  obtain ⟨m, rfl, hm, _⟩ := wt_Int w2
  rw [tv90] at g0 g1
  rw [tv45] at g2
  obtain ⟨K, hK⟩ := HenselReduce_ev (fun a ha => (hf a ha).1) (fun a ha => (hg a ha).1) hm
  have hh := qqV (hK K (Nat.le_refl _))
  have hlt := hW'.lt
  simp only [List.append_nil] at hW' hlt
  refine (calls_true (vs := [v0, v1, v2]) hh ⟨g0, g1, g2, trivial⟩).mono fun e W' ⟨he, hB⟩ => ?_
  subst he
  refine ⟨_, rfl, _, _, _, [], p0 ++ (p1 ++ p2), [], hW', trodAll_cons_mk (shut_bool Try.underlying4 _) trodAll_mk0, ?_, rfl, hB.frame _, fun h => by cases h⟩
  rw [Try.params9]
  have := trodAll_cons_mk (Below.trod laidOut (by kernel_rfl) (of_decide_eq_true (by kernel_rfl)) h0 hB (fun x hx => hlt x (List.mem_append_left _ hx)))
    (trodAll_cons_mk (Below.trod laidOut (by kernel_rfl) (of_decide_eq_true (by kernel_rfl)) h1 hB (fun x hx => hlt x (List.mem_append_right _ (List.mem_append_left _ hx))))
      (trodAll_cons_mk (Below.trod laidOut (by kernel_rfl) (of_decide_eq_true (by kernel_rfl)) h2 hB (fun x hx => hlt x (List.mem_append_right _ (List.mem_append_right _ hx)))) trodAll_mk0))
  rw [List.append_nil] at this
  exact this
set_option maxRecDepth 100000 in
theorem lifted (os : Os) (started : os.Started) (H : Type) (enc : TypeId × Value → H) (F : Stop.Interp) :
    ReturnsInHanded {} Try.checked os 9 .any ((Rows.OpenSpec.upto Rows.henselReduceSpec).pre6 enc Try.prog Try.f9 Rows.henselReduceUptoRow.domain false) (((Rows.OpenSpec.upto Rows.henselReduceSpec).at F).post enc Try.prog Try.f9 false true false false) := by
  refine returnsInHanded_of_cond (C := Try.checked) (s := Rows.OpenSpec.upto Rows.henselReduceSpec) (k := Rows.uptoSmall) rfl own started (by kernel_rfl) Try.func9
    (OpenSpec.witness (enc := enc) (C := Try.checked) (s := Rows.OpenSpec.upto Rows.henselReduceSpec) (k := Rows.uptoSmall) rfl false ⟨#[], #[.slice none 0 0, .slice none 0 0, .agg #[.bool false, .slice none 0 0]], []⟩ 8 (by kernel_rfl) (by kernel_rfl) (by kernel_rfl)
      (x := ([.nil, .nil, .agg [.lit (.bool false), .nil]], [], [])) (by kernel_rfl) rfl (by kernel_rfl)) ?_
  intro W base args ds gs before hval hW _ hk _
  exact contract H enc W base args ds gs before hval hW
theorem over : Rows.henselReduceUptoRow.holds Try.pinned (Rows.OpenSpec.upto Rows.henselReduceSpec) :=
  OpenClaim.holds_of_cond 9 Try.f9 rfl rfl rfl rfl rfl rfl rfl ⟨rfl, rfl, rfl, rfl, rfl⟩ rfl rfl rfl rfl rfl (by kernel_rfl) Try.func9 (by kernel_rfl)
    (of_decide_eq_true (by kernel_rfl)) (by unfold Func.isWrapper; first | (rw [if_pos (by decide +kernel)]; kernel_rfl) | (rw [if_neg (by decide +kernel)]; exact ⟨rfl, rfl⟩))
    (fun os started H enc _ F => lifted os started H enc F)
theorem proved : Rows.HenselReduceUptoSaid :=
  over
end Go.Proofs.Yteciehfkhmbfeaa.henselReduce
