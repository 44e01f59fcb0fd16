/- Part 4 of the proof: Fn_unipoly_combine__unipoly_Poly_integer_Int__integer_Add .. Fn_modpoly_Symmetric. -/
import Derived.Test.YteciehfkhmbfeaaTb
import Derived.Test.YteciehfkhmbfeaaTc
namespace Go.Am.X
open Go.Proofs.Try (prog)
inductive qb9 where
 | c0 (a : (List qaB)) (b : (List qaB))
 | c1 (zero : qaB) (r17 : (List qaB)) (a : (List qaB)) (b : (List qaB)) (t19 : Int) (t20 : Int)
 | c2 (zero : qaB) (r17 : (List qaB)) (a : (List qaB)) (b : (List qaB)) (t19 : Int) (t20 : Int)
def qaL : Nat → qb9 → Option (List qaB)
 | 0, _ => none
 | K + 1, .c0 a b =>
  gd (0 ≤ (max (a.length : Int) (b.length : Int)) ∧ (max (a.length : Int) (b.length : Int)) ≤ (max (a.length : Int) (b.length : Int)) ∧ (32 : Int) * (max (a.length : Int) (b.length : Int)) ≤ 140737488355328) <|
  qaL K (.c1 (qaB.mk false []) (List.replicate (max (a.length : Int) (b.length : Int)).toNat ((qaB.mk false []) : qaB)) a b (((max (a.length : Int) (b.length : Int)).toNat : Nat) : Int) (0 : Int))
 | K + 1, .c1 zero r17 a b t19 t20 =>
  bif (decide (t20 < t19)) then
   bif (decide (t20 < (a.length : Int))) then
    (gi a t20).bind fun x3 =>
    bif (decide (t20 < (b.length : Int))) then
     (gi b t20).bind fun x6 =>
     (qiH K x3 x6).bind fun x8 =>
     (gi r17 t20).bind fun _ =>
     qaL K (.c2 zero (r17.set (t20.toNat) x8) a b t19 t20)
    else
     (qiH K x3 zero).bind fun x6 =>
     (gi r17 t20).bind fun _ =>
     qaL K (.c2 zero (r17.set (t20.toNat) x6) a b t19 t20)
   else
    bif (decide (t20 < (b.length : Int))) then
     (gi b t20).bind fun x4 =>
     (qiH K zero x4).bind fun x6 =>
     (gi r17 t20).bind fun _ =>
     qaL K (.c2 zero (r17.set (t20.toNat) x6) a b t19 t20)
    else
     (qiH K zero zero).bind fun x4 =>
     (gi r17 t20).bind fun _ =>
     qaL K (.c2 zero (r17.set (t20.toNat) x4) a b t19 t20)
  else
   some r17
 | K + 1, .c2 zero r17 a b t19 t20 =>
  qaL K (.c1 zero r17 a b t19 (wI6 (t20 + (1 : Int))))
def qcN (K : Nat) (a : (List qaB)) (b : (List qaB)) : Option (List qaB) := qaL K (.c0 a b)
noncomputable def qbC : Code := qbQ prog 145
noncomputable def qhE : qb9 → List Fr
 | .c0 .. => [.code qbC]
 | .c1 .. => [.code (.loop (atC qbC [1,1,1,0,1,0,0])), .blk 0, .code (atC qbC [1,1,1,1])]
 | .c2 .. => [.code (atC qbC [1,1,1,0,1,0,0,1,1,1]), .lp (atC qbC [1,1,1,0,1,0,0]), .blk 0, .code (atC qbC [1,1,1,1])]
def qhP : qb9 → St
 | .c0 a b => St.init [(tl 2 a qaA), (tl 2 b qaA), (TV.c (T.fn 54))]
 | .c1 zero r17 a b t19 t20 => ⟨[(0, vl 2 a qaA), (1, vl 2 b qaA), (2, .c (C.t (T.fn 54))), (7, .c (C.row 17 0 r17.length)), (8, .c (C.ptr 8 0)), (19, vi .i64 t19), (20, vi .i64 t20)], [(8, .var ((qaA zero).map C.t)), (17, .row 45 2 (r17.map qaA) 0)], []⟩
 | .c2 zero r17 a b t19 t20 => ⟨[(0, vl 2 a qaA), (1, vl 2 b qaA), (2, .c (C.t (T.fn 54))), (7, .c (C.row 17 0 r17.length)), (8, .c (C.ptr 8 0)), (19, vi .i64 t19), (20, vi .i64 t20)], [(8, .var ((qaA zero).map C.t)), (17, .row 45 2 (r17.map qaA) 0)], []⟩
def qcK (cx : Cx) (c : qb9) (r : (List qaB)) : Prop := Wk prog cx (qc2 prog 145 [[2]] (tl 2 r qaA)) (qhE c) .normal (qhP c)
abbrev qcL (K : Nat) : Prop := ∀ c r, qaL K c = some r → ∀ cx : Cx, cx.n = 50 → qcK cx c r
theorem qhS {K} (ih : qcL K) {cx} (hn : cx.n = 50) {a b} {r} (h : qaL (K + 1) (.c0 a b) = some r) : qcK cx (.c0 a b) r := by
 rw [qaL] at h
 obtain ⟨h1, h⟩ := qbI h
 exact wkG [rg1, rgG [oo, opI (.ln (a.length : Int)), oo, opI (.ln (b.length : Int)), oo, opI (.mk (qaA (qaB.mk false [])) ((List.replicate (max (a.length : Int) (b.length : Int)).toNat ((qaB.mk false []) : qaB)).map qaA)), oo], rg1, rg3, .pre [.tellB 8 [0,1], .rl 7 0 (List.replicate (max (a.length : Int) (b.length : Int)).toNat ((qaB.mk false []) : qaB)).length, .keep [0,1,2,7,8,19,20] [8,17]]] hn (aC (qaX a qaA) <| aC (qaX b qaA) <| aC h1.1 <| aC h1.2.1 <| aC h1.2.2 <| aC (qgM _ _ _ : List.replicate (max (a.length : Int) (b.length : Int)).toNat (qaA (qaB.mk false [])) = (List.replicate (max (a.length : Int) (b.length : Int)).toNat ((qaB.mk false []) : qaB)).map qaA) <| aC r0 <| aC (by simp : (max (a.length : Int) (b.length : Int)).toNat = (List.replicate (max (a.length : Int) (b.length : Int)).toNat ((qaB.mk false []) : qaB)).length) <| aN) (ih _ _ h cx hn)
theorem qhR {K} (ih : qcL K) {cx} (hn : cx.n = 50) {zero r17 a b t19 t20} {r} (h : qaL (K + 1) (.c1 zero r17 a b t19 t20) = some r) : qcK cx (.c1 zero r17 a b t19 t20) r := by
 rw [qaL] at h
 rcases qaQ h with ⟨h1, h⟩ | ⟨h1, h⟩
 ·rcases qaQ h with ⟨h2, h⟩ | ⟨h2, h⟩
  ·obtain ⟨x3, h4, h⟩ := qaH h
   rcases qaQ h with ⟨h5, h⟩ | ⟨h5, h⟩
   ·obtain ⟨x6, h7, h⟩ := qaH h
    obtain ⟨x8, h9, h⟩ := qaH h
    obtain ⟨x10, h11, h⟩ := qaH h
    exact wkG [.go, rg1, bTr, rg2, .draw [.p, .p, .p, .p, .p] [.op .p], rgG [oo, oo, opI (.ln (a.length : Int)), oo], bTr, rgG [oo, oo, opI (.ix (qaA x3)), oo, oo], rgG [oo, oo, opI (.ln (b.length : Int)), oo], bTr, rgG [oo, oo, opI (.ix (qaA x6)), oo, oo], rgG [oo, oo, oo, oo, oo, opI (.call [[0,1], [0,1]] [(TV.agg (qaA x3)), (TV.agg (qaA x6))] (TV.agg (qaA x8))), .op .ir, opI (.st (qaA x10) ((r17.set (t20.toNat) x8).map qaA))], .pre [.rl 7 0 (r17.set (t20.toNat) x8).length, .keep [0,1,2,7,8,19,20] [8,17]]] hn (aC h1 <| aC (qaX a qaA) <| aC h2 <| aC (qa1 h4) <| aC (qbS qaA h4) <| aC (qaX b qaA) <| aC h5 <| aC (qa1 h7) <| aC (qbS qaA h7) <| aC (qfA h9) <| aC (qa1 h11) <| aC (qcB h11 (by simp) : t20 < ((r17.length : Nat) : Int)) <| aC (qcA qaA h11 : (r17.map qaA)[(0 + t20.toNat)]? = some (qaA x10)) <| aC (qc4 _ _ x8 _ : (r17.map qaA).set (0 + t20.toNat) (qbW (qaA x10) 0 [(T.bool x8.Neg), (T.sl 1 (x8.Abs.map qaC))]) = (r17.set (t20.toNat) x8).map qaA) <| aC (Nat.zero_le _ : 0 ≤ (0 + t20.toNat)) <| aC r0 <| aC (by simp : r17.length = (r17.set (t20.toNat) x8).length) <| aN) (ih _ _ h cx hn)
   ·obtain ⟨x6, h7, h⟩ := qaH h
    obtain ⟨x8, h9, h⟩ := qaH h
    exact wkG [.go, rg1, bTr, rg2, .draw [.p, .p, .p, .p, .p] [.op .p], rgG [oo, oo, opI (.ln (a.length : Int)), oo], bTr, rgG [oo, oo, opI (.ix (qaA x3)), oo, oo], rgG [oo, oo, opI (.ln (b.length : Int)), oo], bFa, rgG [oo, oo, oo, oo, oo, opI (.call [[0,1], [0,1]] [(TV.agg (qaA x3)), (TV.agg (qaA zero))] (TV.agg (qaA x6))), .op .ir, opI (.st (qaA x8) ((r17.set (t20.toNat) x6).map qaA))], .pre [.rl 7 0 (r17.set (t20.toNat) x6).length, .keep [0,1,2,7,8,19,20] [8,17]]] hn (aC h1 <| aC (qaX a qaA) <| aC h2 <| aC (qa1 h4) <| aC (qbS qaA h4) <| aC (qaX b qaA) <| aC h5 <| aC (qfA h7) <| aC (qa1 h9) <| aC (qcB h9 (by simp) : t20 < ((r17.length : Nat) : Int)) <| aC (qcA qaA h9 : (r17.map qaA)[(0 + t20.toNat)]? = some (qaA x8)) <| aC (qc4 _ _ x6 _ : (r17.map qaA).set (0 + t20.toNat) (qbW (qaA x8) 0 [(T.bool x6.Neg), (T.sl 1 (x6.Abs.map qaC))]) = (r17.set (t20.toNat) x6).map qaA) <| aC (Nat.zero_le _ : 0 ≤ (0 + t20.toNat)) <| aC r0 <| aC (by simp : r17.length = (r17.set (t20.toNat) x6).length) <| aN) (ih _ _ h cx hn)
  ·rcases qaQ h with ⟨h3, h⟩ | ⟨h3, h⟩
   ·obtain ⟨x4, h5, h⟩ := qaH h
    obtain ⟨x6, h7, h⟩ := qaH h
    obtain ⟨x8, h9, h⟩ := qaH h
    exact wkG [.go, rg1, bTr, rg2, .draw [.p, .p, .p, .p, .p] [.op .p], rgG [oo, oo, opI (.ln (a.length : Int)), oo], bFa, rgG [oo, oo, opI (.ln (b.length : Int)), oo], bTr, rgG [oo, oo, opI (.ix (qaA x4)), oo, oo], rgG [oo, oo, oo, oo, oo, opI (.call [[0,1], [0,1]] [(TV.agg (qaA zero)), (TV.agg (qaA x4))] (TV.agg (qaA x6))), .op .ir, opI (.st (qaA x8) ((r17.set (t20.toNat) x6).map qaA))], .pre [.rl 7 0 (r17.set (t20.toNat) x6).length, .keep [0,1,2,7,8,19,20] [8,17]]] hn (aC h1 <| aC (qaX a qaA) <| aC h2 <| aC (qaX b qaA) <| aC h3 <| aC (qa1 h5) <| aC (qbS qaA h5) <| aC (qfA h7) <| aC (qa1 h9) <| aC (qcB h9 (by simp) : t20 < ((r17.length : Nat) : Int)) <| aC (qcA qaA h9 : (r17.map qaA)[(0 + t20.toNat)]? = some (qaA x8)) <| aC (qc4 _ _ x6 _ : (r17.map qaA).set (0 + t20.toNat) (qbW (qaA x8) 0 [(T.bool x6.Neg), (T.sl 1 (x6.Abs.map qaC))]) = (r17.set (t20.toNat) x6).map qaA) <| aC (Nat.zero_le _ : 0 ≤ (0 + t20.toNat)) <| aC r0 <| aC (by simp : r17.length = (r17.set (t20.toNat) x6).length) <| aN) (ih _ _ h cx hn)
   ·obtain ⟨x4, h5, h⟩ := qaH h
    obtain ⟨x6, h7, h⟩ := qaH h
    exact wkG [.go, rg1, bTr, rg2, .draw [.p, .p, .p, .p, .p] [.op .p], rgG [oo, oo, opI (.ln (a.length : Int)), oo], bFa, rgG [oo, oo, opI (.ln (b.length : Int)), oo], bFa, rgG [oo, oo, oo, oo, oo, opI (.call [[0,1], [0,1]] [(TV.agg (qaA zero)), (TV.agg (qaA zero))] (TV.agg (qaA x4))), .op .ir, opI (.st (qaA x6) ((r17.set (t20.toNat) x4).map qaA))], .pre [.rl 7 0 (r17.set (t20.toNat) x4).length, .keep [0,1,2,7,8,19,20] [8,17]]] hn (aC h1 <| aC (qaX a qaA) <| aC h2 <| aC (qaX b qaA) <| aC h3 <| aC (qfA h5) <| aC (qa1 h7) <| aC (qcB h7 (by simp) : t20 < ((r17.length : Nat) : Int)) <| aC (qcA qaA h7 : (r17.map qaA)[(0 + t20.toNat)]? = some (qaA x6)) <| aC (qc4 _ _ x4 _ : (r17.map qaA).set (0 + t20.toNat) (qbW (qaA x6) 0 [(T.bool x4.Neg), (T.sl 1 (x4.Abs.map qaC))]) = (r17.set (t20.toNat) x4).map qaA) <| aC (Nat.zero_le _ : 0 ≤ (0 + t20.toNat)) <| aC r0 <| aC (by simp : r17.length = (r17.set (t20.toNat) x4).length) <| aN) (ih _ _ h cx hn)
 ·have h := oinj h; subst h
  exact wkR [.go, rg1, bFa, rgG [oo, oo, .snap 6 (max 0 (0 + r17.length)) (r17.map qaA)]] hn (aC h1 <| aC (qbJ _ _ _ (by simp) : ((r17.map qaA).drop 0).take r17.length = r17.map qaA) <| aC (rfl : (max 0 (0 + r17.length)) = (max 0 (0 + r17.length))) <| aN)
theorem qhQ {K} (ih : qcL K) {cx} (hn : cx.n = 50) {zero r17 a b t19 t20} {r} (h : qaL (K + 1) (.c2 zero r17 a b t19 t20) = some r) : qcK cx (.c2 zero r17 a b t19 t20) r := by
 rw [qaL] at h
 exact wkG [rg2, .pre [.rl 7 0 r17.length, .keep [0,1,2,7,8,19,20] [8,17]]] hn (aC r0 <| aC (lq r17) <| aN) (ih _ _ h cx hn)
theorem qb8 : ∀ K : Nat, qcL K
 | 0, c, r, h => by rw [qaL] at h; cases h
 | K + 1, .c0 .., r, h => fun cx hn => qhS (qb8 K) hn h
 | K + 1, .c1 .., r, h => fun cx hn => qhR (qb8 K) hn h
 | K + 1, .c2 .., r, h => fun cx hn => qhQ (qb8 K) hn h
theorem qg4 {K : Nat} {a : (List qaB)} {b : (List qaB)} {r : (List qaB)} (h : qcN K a b = some r) : qc5 prog 145 [(tl 2 a qaA), (tl 2 b qaA), (TV.c (T.fn 54))] (tl 2 r qaA) :=
 qa0 [[2]] (by kernel_rfl) (by simp) fun cx hn => qb8 K (.c0 a b) r h cx hn
open Go.Proofs.Try (prog)
inductive qrK where
 | c0 (f : (List qaB)) (g : (List qaB))
def qmJ : Nat → qrK → Option (List qaB)
 | 0, _ => none
 | K + 1, .c0 f g =>
  (qcN K f g).bind fun x1 =>
  (qeH K x1).bind fun x3 =>
  some x3
def qiD (K : Nat) (f : (List qaB)) (g : (List qaB)) : Option (List qaB) := qmJ K (.c0 f g)
noncomputable def zeQ : Code := qbQ prog 120
noncomputable def zgU : qrK → List Fr
 | .c0 .. => [.code zeQ]
def zkG : qrK → St
 | .c0 f g => St.init [(tl 2 f qaA), (tl 2 g qaA)]
def q8U (cx : Cx) (c : qrK) (r : (List qaB)) : Prop := Wk prog cx (qc2 prog 120 [[2]] (tl 2 r qaA)) (zgU c) .normal (zkG c)
abbrev q8V (K : Nat) : Prop := ∀ c r, qmJ K c = some r → ∀ cx : Cx, cx.n = 9 → q8U cx c r
theorem zkI {K} (_ : q8V K) {cx} (hn : cx.n = 9) {f g} {r} (h : qmJ (K + 1) (.c0 f g) = some r) : q8U cx (.c0 f g) r := by
 rw [qmJ] at h
 obtain ⟨x1, h2, h⟩ := qaH h
 obtain ⟨x3, h4, h⟩ := qaH h
 have h := oinj h; subst h
 exact wkR [rg1, rgG [oo, oo, opI (.call [[2], [2], [0]] [(tl 2 f qaA), (tl 2 g qaA), (TV.c (T.fn 54))] (tl 2 x1 qaA)), opI (.call [[2]] [(tl 2 x1 qaA)] (tl 2 x3 qaA)), oo]] hn (aC (qg4 h2) <| aC (qbL h4) <| aN)
theorem q26 : ∀ K : Nat, q8V K
 | 0, c, r, h => by rw [qmJ] at h; cases h
 | K + 1, .c0 .., r, h => fun cx hn => zkI (q26 K) hn h
theorem qgE {K : Nat} {f : (List qaB)} {g : (List qaB)} {r : (List qaB)} (h : qiD K f g = some r) : qc5 prog 120 [(tl 2 f qaA), (tl 2 g qaA)] (tl 2 r qaA) :=
 qa0 [[2]] (by kernel_rfl) (by simp) fun cx hn => q26 K (.c0 f g) r h cx hn
def Ws (f : List qaB) : Prop := ∀ a ∈ f, Sm a
theorem q8I {f : List qaB} (h : Ws f) : Wf f := fun a ha => ⟨(h a ha).1, by have := (h a ha).2; omega⟩
theorem ztX : ∃ n : Nat, n = 17179869000 := ⟨_, rfl⟩
noncomputable def N0 : Nat := Classical.choose ztX
theorem zxY : N0 = 17179869000 := Classical.choose_spec ztX
theorem zuF {f : List qaB} (h : Ws f) (k : Nat) : -(4294967296 ^ N0) < co (pv f) k ∧ co (pv f) k < 4294967296 ^ N0 := by
  by_cases hk : k < f.length
  · have h1 := h _ (List.getElem_mem hk)
    have h2 := zpG h1.1
    have h3 := qq8 (show f[k].Abs.length ≤ N0 by rw [zxY]; exact h1.2)
    rw [zbI hk]
    generalize (4294967296 : Int) ^ N0 = A at *
    omega
  · rw [qdH (by rw [qf8]; omega)]
    have := qe2 N0
    generalize (4294967296 : Int) ^ N0 = A at *
    omega
def subL (n : Nat) (F G : List Int) : List Int := (List.range n).map fun k => co F k - co G k
def addL (n : Nat) (F G : List Int) : List Int := (List.range n).map fun k => co F k + co G k
theorem zjU {f g : List qaB} (hf : Ws f) (hg : Ws g) (n : Nat) (hn : n < 4398046511104) (hfl : f.length ≤ n) (hgl : g.length ≤ n) : ∀ (m i : Nat), i + m = n →
    Ev (fun K => qaK K (.c1 ⟨false, []⟩ ((mkP (subL n (pv f) (pv g))).take i ++ List.replicate (n - i) (⟨false, []⟩ : qaB)) f g n i)) (mkP (subL n (pv f) (pv g)))
  | 0, i, hi => by
    refine qaJ ?_
    simp only [qaK]
    refine ev_f (by simp; omega) (qeW (qaT _) ?_)
    exact qsX (by simp [mkP, subL]) (by omega)
  | m + 1, i, hi => by
    refine qaJ ?_
    simp only [qaK]
    refine ev_t (by simp; omega) ?_
    have hlen : n = (mkP (subL n (pv f) (pv g))).length := by simp [mkP, subL]
    have hx : (subL n (pv f) (pv g))[i]? = some (co (pv f) i - co (pv g) i) := by simp [subL, List.getElem?_range (show i < n by omega)]
    have next : ∀ a b : qaB, Sm a → Sm b → ival a = co (pv f) i → ival b = co (pv g) i →
        Ev (fun K => (qgQ K a b).bind fun x8 => (gi ((mkP (subL n (pv f) (pv g))).take i ++ List.replicate (n - i) (⟨false, []⟩ : qaB)) (i : Int)).bind fun _ =>
          qaK K (.c2 ⟨false, []⟩ (((mkP (subL n (pv f) (pv g))).take i ++ List.replicate (n - i) (⟨false, []⟩ : qaB)).set ((i : Int).toNat) x8) f g n i)) (mkP (subL n (pv f) (pv g))) := by
      intro a b sa sb ea eb
      have h1 := sa.2
      have h2 := sb.2
      have ho := qmS sa sb
      rw [ea, eb] at ho
      refine qaG ho (qa3 (qxV hlen (by omega)) ?_)
      rw [Int.toNat_natCast, qsW hlen (qsH hx)]
      refine qaJ ?_
      simp only [qaK]
      rw [qbR (by omega), show (i : Int) + 1 = ((i + 1 : Nat) : Int) by omega]
      exact zjU hf hg n hn hfl hgl m (i + 1) (by omega)
    by_cases h1 : i < f.length
    · refine ev_t (by simpa using h1) (qa3 (qbN h1) ?_)
      by_cases h2 : i < g.length
      · exact ev_t (by simpa using h2) (qa3 (qbN h2) (next _ _ (hf _ (List.getElem_mem h1)) (hg _ (List.getElem_mem h2)) (zbI h1).symm (zbI h2).symm))
      · exact ev_f (by simpa using h2) (next _ _ (hf _ (List.getElem_mem h1)) q28 (zbI h1).symm (by rw [qdH (by rw [qf8]; omega)]; rfl))
    · refine ev_f (by simpa using h1) ?_
      by_cases h2 : i < g.length
      · exact ev_t (by simpa using h2) (qa3 (qbN h2) (next _ _ q28 (hg _ (List.getElem_mem h2)) (by rw [qdH (by rw [qf8]; omega)]; rfl) (zbI h2).symm))
      · exact ev_f (by simpa using h2) (next _ _ q28 q28 (by rw [qdH (by rw [qf8]; omega)]; rfl) (by rw [qdH (by rw [qf8]; omega)]; rfl))
theorem q5I {f g : List qaB} (hf : Ws f) (hg : Ws g) (hfl : f.length < 4398046511104) (hgl : g.length < 4398046511104) : Ev (fun K => qjA K f g) (mkP (tz (subL (max f.length g.length) (pv f) (pv g)))) := by
  refine qaJ ?_
  simp only [qjA, qmH]
  have hc : Ev (fun K => qcM K f g) (mkP (subL (max f.length g.length) (pv f) (pv g))) := by
    refine qaJ ?_
    simp only [qcM, qaK]
    rw [show max (f.length : Int) (g.length : Int) = ((max f.length g.length : Nat) : Int) by omega, Int.toNat_natCast]
    refine qeZ (by omega) ?_
    have := zjU hf hg (max f.length g.length) (by omega) (by omega) (by omega) _ 0 (Nat.zero_add _)
    simpa using this
  refine qaG hc (qaG (qjR ?_ (by simp [subL]; omega)) (qaT _))
  intro a ha
  obtain ⟨x, hx, rfl⟩ := List.mem_map.1 ha
  obtain ⟨k, _, rfl⟩ := List.mem_map.1 hx
  have h1 := zuF hf k
  have h2 := zuF hg k
  have := qjD (z := co (pv f) k - co (pv g) k) (n := N0 + 1) (by rw [Int.pow_succ]; omega) (by rw [Int.pow_succ]; omega)
  exact ⟨qfZ _, by rw [zxY] at this; omega⟩
theorem zxQ {n : Nat} {F G : List Int} (hf : F.length ≤ n) (hg : G.length ≤ n) : co (subL n F G) = fun k => co F k - co G k := by
  funext k
  by_cases h : k < n
  · rw [qdP (by simp [subL]; exact h)]; simp [subL]
  · rw [qdH (by simp [subL]; omega), qdH (l := F) (by omega), qdH (l := G) (by omega)]; rfl
theorem zjV {f g : List qaB} (hf : Ws f) (hg : Ws g) (n : Nat) (hn : n < 4398046511104) (hfl : f.length ≤ n) (hgl : g.length ≤ n) : ∀ (m i : Nat), i + m = n →
    Ev (fun K => qaL K (.c1 ⟨false, []⟩ ((mkP (addL n (pv f) (pv g))).take i ++ List.replicate (n - i) (⟨false, []⟩ : qaB)) f g n i)) (mkP (addL n (pv f) (pv g)))
  | 0, i, hi => by
    refine qaJ ?_
    simp only [qaL]
    refine ev_f (by simp; omega) (qeW (qaT _) ?_)
    exact qsX (by simp [mkP, addL]) (by omega)
  | m + 1, i, hi => by
    refine qaJ ?_
    simp only [qaL]
    refine ev_t (by simp; omega) ?_
    have hlen : n = (mkP (addL n (pv f) (pv g))).length := by simp [mkP, addL]
    have hx : (addL n (pv f) (pv g))[i]? = some (co (pv f) i + co (pv g) i) := by simp [addL, List.getElem?_range (show i < n by omega)]
    have next : ∀ a b : qaB, Sm a → Sm b → ival a = co (pv f) i → ival b = co (pv g) i →
        Ev (fun K => (qiH K a b).bind fun x8 => (gi ((mkP (addL n (pv f) (pv g))).take i ++ List.replicate (n - i) (⟨false, []⟩ : qaB)) (i : Int)).bind fun _ =>
          qaL K (.c2 ⟨false, []⟩ (((mkP (addL n (pv f) (pv g))).take i ++ List.replicate (n - i) (⟨false, []⟩ : qaB)).set ((i : Int).toNat) x8) f g n i)) (mkP (addL n (pv f) (pv g))) := by
      intro a b sa sb ea eb
      have h1 := sa.2
      have h2 := sb.2
      have ho := qpQ sa.1 sb.1 (by omega) (by omega)
      rw [ea, eb] at ho
      refine qaG ho (qa3 (qxV hlen (by omega)) ?_)
      rw [Int.toNat_natCast, qsW hlen (qsH hx)]
      refine qaJ ?_
      simp only [qaL]
      rw [qbR (by omega), show (i : Int) + 1 = ((i + 1 : Nat) : Int) by omega]
      exact zjV hf hg n hn hfl hgl m (i + 1) (by omega)
    by_cases h1 : i < f.length
    · refine ev_t (by simpa using h1) (qa3 (qbN h1) ?_)
      by_cases h2 : i < g.length
      · exact ev_t (by simpa using h2) (qa3 (qbN h2) (next _ _ (hf _ (List.getElem_mem h1)) (hg _ (List.getElem_mem h2)) (zbI h1).symm (zbI h2).symm))
      · exact ev_f (by simpa using h2) (next _ _ (hf _ (List.getElem_mem h1)) q28 (zbI h1).symm (by rw [qdH (by rw [qf8]; omega)]; rfl))
    · refine ev_f (by simpa using h1) ?_
      by_cases h2 : i < g.length
      · exact ev_t (by simpa using h2) (qa3 (qbN h2) (next _ _ q28 (hg _ (List.getElem_mem h2)) (by rw [qdH (by rw [qf8]; omega)]; rfl) (zbI h2).symm))
      · exact ev_f (by simpa using h2) (next _ _ q28 q28 (by rw [qdH (by rw [qf8]; omega)]; rfl) (by rw [qdH (by rw [qf8]; omega)]; rfl))
theorem zkH {f g : List qaB} (hf : Ws f) (hg : Ws g) (hfl : f.length < 4398046511104) (hgl : g.length < 4398046511104) : Ev (fun K => qiD K f g) (mkP (tz (addL (max f.length g.length) (pv f) (pv g)))) := by
  refine qaJ ?_
  simp only [qiD, qmJ]
  have hc : Ev (fun K => qcN K f g) (mkP (addL (max f.length g.length) (pv f) (pv g))) := by
    refine qaJ ?_
    simp only [qcN, qaL]
    rw [show max (f.length : Int) (g.length : Int) = ((max f.length g.length : Nat) : Int) by omega, Int.toNat_natCast]
    refine qeZ (by omega) ?_
    have := zjV hf hg (max f.length g.length) (by omega) (by omega) (by omega) _ 0 (Nat.zero_add _)
    simpa using this
  refine qaG hc (qaG (qjR ?_ (by simp [addL]; omega)) (qaT _))
  intro a ha
  obtain ⟨x, hx, rfl⟩ := List.mem_map.1 ha
  obtain ⟨k, _, rfl⟩ := List.mem_map.1 hx
  have h1 := zuF hf k
  have h2 := zuF hg k
  have := qjD (z := co (pv f) k + co (pv g) k) (n := N0 + 1) (by rw [Int.pow_succ]; omega) (by rw [Int.pow_succ]; omega)
  exact ⟨qfZ _, by rw [zxY] at this; omega⟩
theorem znU {n : Nat} {F G : List Int} (hf : F.length ≤ n) (hg : G.length ≤ n) : co (addL n F G) = fun k => co F k + co G k := by
  funext k
  by_cases h : k < n
  · rw [qdP (by simp [addL]; exact h)]; simp [addL]
  · rw [qdH (by simp [addL]; omega), qdH (l := F) (by omega), qdH (l := G) (by omega)]; rfl
open Go.Proofs.Try (prog)
inductive qrJ where
 | c0 (f : (List qaB)) (g : (List qaB))
 | c1 (r28 : (List qaB)) (g : (List qaB)) (t29 : (List qaB)) (t30 : Int) (t31 : Int)
 | c2 (r28 : (List qaB)) (g : (List qaB)) (t29 : (List qaB)) (t30 : Int) (t31 : Int)
 | c3 (a : qaB) (r28 : (List qaB)) (g : (List qaB)) (i : Int) (t29 : (List qaB)) (t30 : Int) (t31 : Int) (t39 : (List qaB)) (t40 : Int) (t41 : Int)
def qbX : Nat → qrJ → Option (List qaB)
 | 0, _ => none
 | K + 1, .c0 f g =>
  (qeH K f).bind fun x1 =>
  (qeH K g).bind fun x3 =>
  bif (decide ((x1.length : Int) = (0 : Int))) then
   some []
  else
   bif (decide ((x3.length : Int) = (0 : Int))) then
    some []
   else
    gd (0 ≤ (wI6 ((wI6 ((x1.length : Int) + (x3.length : Int))) - (1 : Int))) ∧ (wI6 ((wI6 ((x1.length : Int) + (x3.length : Int))) - (1 : Int))) ≤ (wI6 ((wI6 ((x1.length : Int) + (x3.length : Int))) - (1 : Int))) ∧ (32 : Int) * (wI6 ((wI6 ((x1.length : Int) + (x3.length : Int))) - (1 : Int))) ≤ 140737488355328) <|
    qbX K (.c1 (List.replicate (wI6 ((wI6 ((x1.length : Int) + (x3.length : Int))) - (1 : Int))).toNat ((qaB.mk false []) : qaB)) x3 x1 (x1.length : Int) (0 : Int))
 | K + 1, .c1 r28 g t29 t30 t31 =>
  bif (decide (t31 < t30)) then
   (gi t29 t31).bind fun x2 =>
   (qj4 K x2).bind fun x4 =>
   bif (decide (x4 = (0 : Int))) then
    qbX K (.c2 r28 g t29 t30 t31)
   else
    qbX K (.c3 x2 r28 g t31 t29 t30 t31 g (g.length : Int) (0 : Int))
  else
   (qeH K r28).bind fun x2 =>
   some x2
 | K + 1, .c2 r28 g t29 t30 t31 =>
  qbX K (.c1 r28 g t29 t30 (wI6 (t31 + (1 : Int))))
 | K + 1, .c3 a r28 g i t29 t30 t31 t39 t40 t41 =>
  bif (decide (t41 < t40)) then
   (gi t39 t41).bind fun x2 =>
   (gi r28 (wI6 (i + t41))).bind fun x4 =>
   (qf0 K a x2).bind fun x6 =>
   (qiH K x4 x6).bind fun x8 =>
   (gi r28 (wI6 (i + t41))).bind fun _ =>
   qbX K (.c3 a (r28.set ((wI6 (i + t41)).toNat) x8) g i t29 t30 t31 t39 t40 (wI6 (t41 + (1 : Int))))
  else
   qbX K (.c2 r28 g t29 t30 t31)
def qlN (K : Nat) (f : (List qaB)) (g : (List qaB)) : Option (List qaB) := qbX K (.c0 f g)
noncomputable def qfO : Code := qbQ prog 50
noncomputable def zgR : qrJ → List Fr
 | .c0 .. => [.code qfO]
 | .c1 .. => [.code (.loop (atC qfO [1,1,1,1,0,1,0,0])), .blk 0, .code (atC qfO [1,1,1,1,1])]
 | .c2 .. => [.code (atC qfO [1,1,1,1,0,1,0,0,1,1,1]), .lp (atC qfO [1,1,1,1,0,1,0,0]), .blk 0, .code (atC qfO [1,1,1,1,1])]
 | .c3 .. => [.code (.loop (atC qfO [1,1,1,1,0,1,0,0,1,1,0,0,1,1,1,0,0])), .blk 2, .blk 1, .code (atC qfO [1,1,1,1,0,1,0,0,1,1,1]), .lp (atC qfO [1,1,1,1,0,1,0,0]), .blk 0, .code (atC qfO [1,1,1,1,1])]
def zkB : qrJ → St
 | .c0 f g => St.init [(tl 2 f qaA), (tl 2 g qaA)]
 | .c1 r28 g t29 t30 t31 => ⟨[(1, vl 2 g qaA), (5, .c (C.row 28 0 r28.length)), (29, vl 2 t29 qaA), (30, vi .i64 t30), (31, vi .i64 t31)], [(28, .row 45 2 (r28.map qaA) 0)], []⟩
 | .c2 r28 g t29 t30 t31 => ⟨[(1, vl 2 g qaA), (5, .c (C.row 28 0 r28.length)), (29, vl 2 t29 qaA), (30, vi .i64 t30), (31, vi .i64 t31)], [(28, .row 45 2 (r28.map qaA) 0)], []⟩
 | .c3 a r28 g i t29 t30 t31 t39 t40 t41 => ⟨[(1, vl 2 g qaA), (5, .c (C.row 28 0 r28.length)), (6, vi .i64 i), (7, .c (C.ptr 7 0)), (29, vl 2 t29 qaA), (30, vi .i64 t30), (31, vi .i64 t31), (39, vl 2 t39 qaA), (40, vi .i64 t40), (41, vi .i64 t41)], [(7, .var ((qaA a).map C.t)), (28, .row 45 2 (r28.map qaA) 0)], []⟩
def qrH (cx : Cx) (c : qrJ) (r : (List qaB)) : Prop := Wk prog cx (qc2 prog 50 [[2]] (tl 2 r qaA)) (zgR c) .normal (zkB c)
abbrev qrI (K : Nat) : Prop := ∀ c r, qbX K c = some r → ∀ cx : Cx, cx.n = 65 → qrH cx c r
theorem zkF {K} (ih : qrI K) {cx} (hn : cx.n = 65) {f g} {r} (h : qbX (K + 1) (.c0 f g) = some r) : qrH cx (.c0 f g) r := by
 rw [qbX] at h
 obtain ⟨x1, h2, h⟩ := qaH h
 obtain ⟨x3, h4, h⟩ := qaH h
 rcases qaQ h with ⟨h5, h⟩ | ⟨h5, h⟩
 ·have h := oinj h; subst h
  exact wkR [rg1, rgG [oo, opI (.call [[2]] [(tl 2 f qaA)] (tl 2 x1 qaA)), oo, opI (.call [[2]] [(tl 2 g qaA)] (tl 2 x3 qaA)), oo, oo], rgG [oo, opI (.ln (x1.length : Int)), oo, oo, .sb 17 true, oo, oo, oo, oo], bTr, rg1] hn (aC (qbL h2) <| aC (qbL h4) <| aC (qaX x1 qaA) <| aC h5 <| aC rt <| aN)
 ·rcases qaQ h with ⟨h6, h⟩ | ⟨h6, h⟩
  ·have h := oinj h; subst h
   exact wkR [rg1, rgG [oo, opI (.call [[2]] [(tl 2 f qaA)] (tl 2 x1 qaA)), oo, opI (.call [[2]] [(tl 2 g qaA)] (tl 2 x3 qaA)), oo, oo], rgG [oo, opI (.ln (x1.length : Int)), oo, oo, .sb 17 false, oo, opI (.ln (x3.length : Int)), oo, oo], bTr, rg1] hn (aC (qbL h2) <| aC (qbL h4) <| aC (qaX x1 qaA) <| aC h5 <| aC (qaX x3 qaA) <| aC h6 <| aN)
  ·obtain ⟨h7, h⟩ := qbI h
   exact wkG [rg1, rgG [oo, opI (.call [[2]] [(tl 2 f qaA)] (tl 2 x1 qaA)), oo, opI (.call [[2]] [(tl 2 g qaA)] (tl 2 x3 qaA)), oo, oo], rgG [oo, opI (.ln (x1.length : Int)), oo, oo, .sb 17 false, oo, opI (.ln (x3.length : Int)), oo, oo], bFa, rgG [oo, opI (.ln (x1.length : Int)), oo, opI (.ln (x3.length : Int)), oo, oo, opI (.mk (qaA (qaB.mk false [])) ((List.replicate (wI6 ((wI6 ((x1.length : Int) + (x3.length : Int))) - (1 : Int))).toNat ((qaB.mk false []) : qaB)).map qaA)), oo], rgG [oo, opI (.ln (x1.length : Int)), oo], .pre [.rl 5 0 (List.replicate (wI6 ((wI6 ((x1.length : Int) + (x3.length : Int))) - (1 : Int))).toNat ((qaB.mk false []) : qaB)).length, .keep [1,5,29,30,31] [28]]] hn (aC (qbL h2) <| aC (qbL h4) <| aC (qaX x1 qaA) <| aC h5 <| aC (qaX x3 qaA) <| aC h6 <| aC (qaX x1 qaA) <| aC (qaX x3 qaA) <| aC h7.1 <| aC h7.2.1 <| aC h7.2.2 <| aC (qgM _ _ _ : List.replicate (wI6 ((wI6 ((x1.length : Int) + (x3.length : Int))) - (1 : Int))).toNat (qaA (qaB.mk false [])) = (List.replicate (wI6 ((wI6 ((x1.length : Int) + (x3.length : Int))) - (1 : Int))).toNat ((qaB.mk false []) : qaB)).map qaA) <| aC (qaX x1 qaA) <| aC r0 <| aC (by simp : (wI6 ((wI6 ((x1.length : Int) + (x3.length : Int))) - (1 : Int))).toNat = (List.replicate (wI6 ((wI6 ((x1.length : Int) + (x3.length : Int))) - (1 : Int))).toNat ((qaB.mk false []) : qaB)).length) <| aN) (ih _ _ h cx hn)
theorem zkE {K} (ih : qrI K) {cx} (hn : cx.n = 65) {r28 g t29 t30 t31} {r} (h : qbX (K + 1) (.c1 r28 g t29 t30 t31) = some r) : qrH cx (.c1 r28 g t29 t30 t31) r := by
 rw [qbX] at h
 rcases qaQ h with ⟨h1, h⟩ | ⟨h1, h⟩
 ·obtain ⟨x2, h3, h⟩ := qaH h
  obtain ⟨x4, h5, h⟩ := qaH h
  rcases qaQ h with ⟨h6, h⟩ | ⟨h6, h⟩
  ·exact wkG [.go, rg1, bTr, rgG [oo, opI (.ix (qaA x2)), oo, oo, oo, oo], rgG [oo, opI (.call [[0,1]] [(TV.agg (qaA x2))] (ti .i64 x4)), oo], bTr, .pre [.rl 5 0 r28.length, .keep [1,5,29,30,31] [28]]] hn (aC h1 <| aC (qa1 h3) <| aC (qbS qaA h3) <| aC (qbH h5) <| aC h6 <| aC r0 <| aC (lq r28) <| aN) (ih _ _ h cx hn)
  ·exact wkG [.go, rg1, bTr, rgG [oo, opI (.ix (qaA x2)), oo, oo, oo, oo], rgG [oo, opI (.call [[0,1]] [(TV.agg (qaA x2))] (ti .i64 x4)), oo], bFa, rgG [oo, opI (.ln (g.length : Int)), oo], .pre [.rl 5 0 r28.length, .keep [1,5,6,7,29,30,31,39,40,41] [7,28]]] hn (aC h1 <| aC (qa1 h3) <| aC (qbS qaA h3) <| aC (qbH h5) <| aC h6 <| aC (qaX g qaA) <| aC r0 <| aC (lq r28) <| aN) (ih _ _ h cx hn)
 ·obtain ⟨x2, h3, h⟩ := qaH h
  have h := oinj h; subst h
  exact wkR [.go, rg1, bFa, rgG [oo, .snap 63 (max 0 (0 + r28.length)) (r28.map qaA), opI (.call [[2]] [(tl 2 r28 qaA)] (tl 2 x2 qaA)), oo]] hn (aC h1 <| aC (qbJ _ _ _ (by simp) : ((r28.map qaA).drop 0).take r28.length = r28.map qaA) <| aC (rfl : (max 0 (0 + r28.length)) = (max 0 (0 + r28.length))) <| aC (qbL h3) <| aN)
theorem zkD {K} (ih : qrI K) {cx} (hn : cx.n = 65) {r28 g t29 t30 t31} {r} (h : qbX (K + 1) (.c2 r28 g t29 t30 t31) = some r) : qrH cx (.c2 r28 g t29 t30 t31) r := by
 rw [qbX] at h
 exact wkG [rg2, .pre [.rl 5 0 r28.length, .keep [1,5,29,30,31] [28]]] hn (aC r0 <| aC (lq r28) <| aN) (ih _ _ h cx hn)
theorem zkC {K} (ih : qrI K) {cx} (hn : cx.n = 65) {a r28 g i t29 t30 t31 t39 t40 t41} {r} (h : qbX (K + 1) (.c3 a r28 g i t29 t30 t31 t39 t40 t41) = some r) : qrH cx (.c3 a r28 g i t29 t30 t31 t39 t40 t41) r := by
 rw [qbX] at h
 rcases qaQ h with ⟨h1, h⟩ | ⟨h1, h⟩
 ·obtain ⟨x2, h3, h⟩ := qaH h
  obtain ⟨x4, h5, h⟩ := qaH h
  obtain ⟨x6, h7, h⟩ := qaH h
  obtain ⟨x8, h9, h⟩ := qaH h
  obtain ⟨x10, h11, h⟩ := qaH h
  exact wkG [.go, rg1, bTr, rgG [oo, opI (.ix (qaA x2)), oo, oo, oo, oo], .draw [.p, .p, .p, .p, .p, .p, .p, .p, .ir, (.ld (qaA x4)), .p, .p, (.call [[0,1], [0,1]] [(TV.agg (qaA a)), (TV.agg (qaA x2))] (TV.agg (qaA x6))), (.call [[0,1], [0,1]] [(TV.agg (qaA x4)), (TV.agg (qaA x6))] (TV.agg (qaA x8)))] [.op .ir, opI (.st (qaA x10) ((r28.set ((wI6 (i + t41)).toNat) x8).map qaA))], rg2, .pre [.rl 5 0 (r28.set ((wI6 (i + t41)).toNat) x8).length, .keep [1,5,6,7,29,30,31,39,40,41] [7,28]]] hn (aC h1 <| aC (qa1 h3) <| aC (qbS qaA h3) <| aC (qa1 h5) <| aC (qcB h5 (by simp) : (wI6 (i + t41)) < ((r28.length : Nat) : Int)) <| aC (qcA qaA h5 : (r28.map qaA)[(0 + (wI6 (i + t41)).toNat)]? = some (qaA x4)) <| aC (qd9 h7) <| aC (qfA h9) <| aC (qa1 h11) <| aC (qcB h11 (by simp) : (wI6 (i + t41)) < ((r28.length : Nat) : Int)) <| aC (qcA qaA h11 : (r28.map qaA)[(0 + (wI6 (i + t41)).toNat)]? = some (qaA x10)) <| aC (qc4 _ _ x8 _ : (r28.map qaA).set (0 + (wI6 (i + t41)).toNat) (qbW (qaA x10) 0 [(T.bool x8.Neg), (T.sl 1 (x8.Abs.map qaC))]) = (r28.set ((wI6 (i + t41)).toNat) x8).map qaA) <| aC (Nat.zero_le _ : 0 ≤ (0 + (wI6 (i + t41)).toNat)) <| aC r0 <| aC (by simp : r28.length = (r28.set ((wI6 (i + t41)).toNat) x8).length) <| aN) (ih _ _ h cx hn)
 ·exact wkG [.go, rg1, bFa, .pre [.rl 5 0 r28.length, .keep [1,5,29,30,31] [28]]] hn (aC h1 <| aC r0 <| aC (lq r28) <| aN) (ih _ _ h cx hn)
theorem qnW : ∀ K : Nat, qrI K
 | 0, c, r, h => by rw [qbX] at h; cases h
 | K + 1, .c0 .., r, h => fun cx hn => zkF (qnW K) hn h
 | K + 1, .c1 .., r, h => fun cx hn => zkE (qnW K) hn h
 | K + 1, .c2 .., r, h => fun cx hn => zkD (qnW K) hn h
 | K + 1, .c3 .., r, h => fun cx hn => zkC (qnW K) hn h
theorem qfS {K : Nat} {f : (List qaB)} {g : (List qaB)} {r : (List qaB)} (h : qlN K f g = some r) : qc5 prog 50 [(tl 2 f qaA), (tl 2 g qaA)] (tl 2 r qaA) :=
 qa0 [[2]] (by kernel_rfl) (by simp) fun cx hn => qnW K (.c0 f g) r h cx hn
def mulL (F G : List Int) : List Int := (List.range (F.length + G.length)).map (lm F (co G))
theorem qs3 (F G : List Int) : co (mulL F G) = lm F (co G) := by
  funext k
  by_cases h : k < F.length + G.length
  · rw [qdP (by simp [mulL]; exact h)]; simp [mulL]
  · rw [qdH (by simp [mulL]; omega)]
    rcases zsZ F G k (by omega) with h1 | h1 | h1
    · exact h1.symm
    · subst h1; rfl
    · subst h1; rw [show co [] = fun _ => 0 by funext k; simp, zc5]
theorem zuW {l : List Int} {g : Nat → Int} {A C : Int} (hA : 0 ≤ A) (hC : 0 ≤ C) (h1 : ∀ x ∈ l, -A ≤ x ∧ x ≤ A) (h2 : ∀ k, -C ≤ g k ∧ g k ≤ C) : ∀ k, -((l.length : Int) * (A * C)) ≤ lm l g k ∧ lm l g k ≤ (l.length : Int) * (A * C) := by
  have hAC := Int.mul_nonneg hA hC
  induction l with
  | nil => intro k; simp [lm]
  | cons a l ih =>
    intro k
    have ih := ih fun x hx => h1 x (List.mem_cons_of_mem _ hx)
    have ha := h1 a (List.mem_cons_self ..)
    have hp : -(A * C) ≤ a * g k ∧ a * g k ≤ A * C := by
      have h3 : (a * g k).natAbs ≤ (A * C).natAbs := by
        rw [Int.natAbs_mul, Int.natAbs_mul]
        exact Nat.mul_le_mul (by omega) (by have := h2 k; omega)
      omega
    have e : ((a :: l).length : Int) * (A * C) = (l.length : Int) * (A * C) + A * C := by
      rw [List.length_cons, Int.natCast_add, Int.add_mul]; simp
    rw [e]
    simp only [lm]
    cases k with
    | zero =>
      have := Int.mul_nonneg (show (0 : Int) ≤ (l.length : Int) by omega) hAC
      simp only [xm]; omega
    | succ k => have := ih k; simp only [xm]; omega
def Bd (n : Nat) (l : List Int) : Prop := ∀ x ∈ l, -(4294967296 ^ n) < x ∧ x < 4294967296 ^ n
theorem zd0 {n : Nat} {l : List Int} (h : Bd n l) (k : Nat) : -(4294967296 ^ n) < co l k ∧ co l k < 4294967296 ^ n := by
  by_cases hk : k < l.length
  · rw [qdP hk]; exact h _ (List.getElem_mem hk)
  · rw [qdH (by omega)]; have := qe2 n; omega
theorem zf9 {n : Nat} {l : List Int} (h : Bd n l) : Bd n (tz l) := fun x hx => h x (q5Q hx)
theorem ztY {n : Nat} {l : List Int} (h : Bd n l) (i : Nat) : Bd n (l.take i) := fun x hx => h x (List.mem_of_mem_take hx)
theorem ztZ {m n : Nat} (hmn : m ≤ n) {l : List Int} (h : Bd m l) : Bd n l := fun x hx => by have := h x hx; have := qq8 hmn; omega
theorem qm3 {n : Nat} (hn : n ≤ 17179869000) {l : List Int} (h : Bd n l) : Ws (mkP l) := fun a ha => by
  obtain ⟨x, hx, rfl⟩ := List.mem_map.1 ha
  exact q1P hn (h x hx).1 (h x hx).2
theorem zs0 {F : List Int} {g : Nat → Int} {p q : Nat} (hF : Bd p F) (hg : ∀ k, -(4294967296 ^ q) < g k ∧ g k < 4294967296 ^ q) (hl : F.length < 4294967296) (k : Nat) : -(4294967296 ^ (p + q + 1)) < lm F g k ∧ lm F g k < 4294967296 ^ (p + q + 1) := by
  have hp := qe2 p
  have hq := qe2 q
  have h := zuW (g := g) (A := 4294967296 ^ p) (C := 4294967296 ^ q) (by omega) (by omega) (fun x hx => by have := hF x hx; omega) (fun k => by have := hg k; omega) k
  rw [← Int.pow_add] at h
  have h2 := Int.mul_lt_mul_of_pos_right (show (F.length : Int) < 4294967296 by omega) (qe2 (p + q))
  rw [Int.pow_succ, Int.mul_comm (4294967296 ^ (p + q))]
  omega
def part (F G : List Int) (i k j : Nat) : Int := lm (F.take i) (co G) j + co F i * xpow i (co (G.take k)) j
theorem zjW (l : List Int) (i k : Nat) : co (l.take i) k = if k < i then co l k else 0 := by
  simp only [co, List.getD_eq_getElem?_getD, List.getElem?_take]
  split <;> simp
theorem q81 (F G : List Int) (i j : Nat) : part F G i 0 j = lm (F.take i) (co G) j := by
  simp [part, xpow]
theorem zqO (F G : List Int) (i : Nat) (h : i < F.length) : part F G i G.length = lm (F.take (i + 1)) (co G) := by
  funext j
  rw [zoV F i h, part, List.take_length, qdP h]
theorem q82 (F G : List Int) (i k j : Nat) : part F G i (k + 1) j = part F G i k j + if j = i + k then co F i * co G k else 0 := by
  simp only [part, xpow, zjW]
  by_cases h1 : i ≤ j
  · simp only [h1, if_true]
    by_cases h2 : j = i + k
    · subst h2
      rw [if_pos (by omega), if_neg (by omega), if_pos rfl, Nat.add_sub_cancel_left]; omega
    · rw [if_neg h2]
      by_cases h3 : j - i < k
      · rw [if_pos (by omega), if_pos h3]; omega
      · rw [if_neg (by omega), if_neg h3]; omega
  · simp only [h1, if_false]
    rw [if_neg (by omega), Int.add_zero]
theorem q5L {f g : List qaB} (hf : Ws f) (hg : Ws g) {p q : Nat} (hp : Bd p (pv f)) (hq : Bd q (pv g)) (hpq : p + q ≤ 1000000000) (hfl : f.length < 2147483648) (hgl : g.length < 2147483648) (L : Nat) (hL : L + 1 = f.length + g.length) {res : List qaB}
    {t : List qaB} {t1 t2 : Int} (i : Nat) (hi : i < f.length)
    (hk : Ev (fun K => qbX K (.c2 (mkP ((List.range L).map (part (pv f) (pv g) i g.length))) g t t1 t2)) res) : ∀ (m k : Nat), k + m = g.length →
      Ev (fun K => qbX K (.c3 f[i] (mkP ((List.range L).map (part (pv f) (pv g) i k))) g i t t1 t2 g g.length k)) res
  | 0, k, hkm => by
    refine qaJ ?_
    simp only [qbX]
    have : k = g.length := by omega
    subst this
    exact ev_f (by simp) hk
  | m + 1, k, hkm => by
    refine qaJ ?_
    simp only [qbX]
    have hkg : k < g.length := by omega
    have sg := hg _ (List.getElem_mem hkg)
    have sf := hf _ (List.getElem_mem hi)
    have g1 := sg.2
    have f1 := sf.2
    refine ev_t (by simp; omega) (qa3 (qbN hkg) ?_)
    rw [qbR (by omega), show (i : Int) + k = ((i + k : Nat) : Int) by omega]
    have hik : i + k < L := by omega
    have hget : (mkP ((List.range L).map (part (pv f) (pv g) i k)))[i + k]? = some (mkI (part (pv f) (pv g) i k (i + k))) := qsH (by simp [List.getElem?_range hik])
    have hmul := qfQ sf.1 sg.1 (by omega)
    -- bounds
    have hFi := zd0 hp i
    have hGk := zd0 hq k
    have hb1 : ∀ k', -(2 * 4294967296 ^ (p + q + 1)) < part (pv f) (pv g) i k' (i + k) ∧ part (pv f) (pv g) i k' (i + k) < 2 * 4294967296 ^ (p + q + 1) := by
      intro k'
      have h1 := zs0 (ztY hp i) (zd0 hq) (by rw [List.length_take, qf8]; omega) (i + k)
      have h2 := zs0 (F := [co (pv f) i]) (p := p) (fun x hx => by simp at hx; subst hx; exact hFi) (g := xpow i (co ((pv g).take k'))) (q := q) (fun j => by
        unfold xpow; split
        · exact zd0 (ztY hq k') _
        · have := qe2 q; omega) (by simp) (i + k)
      have h3 : lm [co (pv f) i] (xpow i (co ((pv g).take k'))) (i + k) = co (pv f) i * xpow i (co ((pv g).take k')) (i + k) := by
        cases h : i + k <;> simp [lm, xm]
      rw [h3] at h2
      unfold part; omega
    have hlen : (mkI (part (pv f) (pv g) i k (i + k))).Abs.length ≤ p + q + 2 := by
      have := hb1 k
      exact qjD (by rw [Int.pow_succ]; omega) (by rw [Int.pow_succ]; omega)
    have hprod : ival f[i] * ival g[k] = co (pv f) i * co (pv g) k := by rw [zbI hi, zbI hkg]
    rw [hprod] at hmul
    have hps := q82 (pv f) (pv g) i k (i + k)
    rw [if_pos rfl] at hps
    have hlen2 : (mkI (co (pv f) i * co (pv g) k)).Abs.length ≤ p + q + 3 := by
      have h1 := hb1 k
      have h2 := hb1 (k + 1)
      refine qjD ?_ ?_
      · rw [Int.pow_succ, Int.pow_succ]; omega
      · rw [Int.pow_succ, Int.pow_succ]; omega
    have hadd := qpQ (qfZ (part (pv f) (pv g) i k (i + k))) (qfZ (co (pv f) i * co (pv g) k)) (by omega) (by omega)
    rw [qa2, qa2, ← hps] at hadd
    refine qa3 (qsV hget) (qaG hmul (qaG hadd (qa3 (qsV hget) ?_)))
    rw [Int.toNat_natCast, qbR (by omega), show (k : Int) + 1 = ((k + 1 : Nat) : Int) by omega]
    have hset : (mkP ((List.range L).map (part (pv f) (pv g) i k))).set (i + k) (mkI (part (pv f) (pv g) i (k + 1) (i + k))) = mkP ((List.range L).map (part (pv f) (pv g) i (k + 1))) := by
      apply List.ext_getElem?
      intro j
      rw [List.getElem?_set]
      by_cases hj : i + k = j
      · subst hj
        rw [if_pos rfl, if_pos (by simp [mkP]; exact hik), qsH (x := part (pv f) (pv g) i (k + 1) (i + k)) (by simp [List.getElem?_range hik])]
      · rw [if_neg hj]
        simp only [mkP, List.getElem?_map, List.map_map]
        by_cases hjL : j < L
        · rw [List.getElem?_range hjL]
          simp only [Option.map_some, Function.comp]
          rw [q82, if_neg (fun e => hj e.symm), Int.add_zero]
        · rw [List.getElem?_eq_none (by simp; omega)]; rfl
    rw [hset]
    exact q5L hf hg hp hq hpq hfl hgl L hL i hi hk m (k + 1) (by omega)
theorem q5M {f g : List qaB} (hf : Ws f) (hg : Ws g) {p q : Nat} (hp : Bd p (pv f)) (hq : Bd q (pv g)) (hpq : p + q ≤ 1000000000) (hfl : f.length < 2147483648) (hgl : g.length < 2147483648) (hf0 : 0 < f.length) (hg0 : 0 < g.length) (L : Nat) (hL : L + 1 = f.length + g.length) : ∀ (m i : Nat), i + m = f.length →
    Ev (fun K => qbX K (.c1 (mkP ((List.range L).map (lm ((pv f).take i) (co (pv g))))) g f f.length i)) (mkP (tz (mulL (pv f) (pv g))))
  | 0, i, hi => by
    refine qaJ ?_
    simp only [qbX]
    refine ev_f (by simp; omega) ?_
    rw [List.take_of_length_le (by rw [qf8]; omega)]
    have hw : Wf (mkP ((List.range L).map (lm (pv f) (co (pv g))))) := by
      refine zr6 (n := p + q + 1) (by omega) fun x hx => ?_
      obtain ⟨k, _, rfl⟩ := List.mem_map.1 hx
      exact zs0 hp (zd0 hq) (by rw [qf8]; omega) k
    have := qjR hw (by simp; omega)
    have e : tz ((List.range L).map (lm (pv f) (co (pv g)))) = tz (mulL (pv f) (pv g)) := by
      refine q8W _ _ ?_
      rw [qs3]
      funext k
      by_cases h : k < L
      · rw [qdP (by simp; exact h)]; simp
      · rw [qdH (by simp; omega)]
        rcases zsZ (pv f) (pv g) k (by rw [qf8, qf8]; omega) with h1 | h1 | h1
        · exact h1.symm
        · have : f.length = 0 := by rw [← qf8, h1]; rfl
          omega
        · have : g.length = 0 := by rw [← qf8, h1]; rfl
          omega
    rw [e] at this
    exact qaG this (qaT _)
  | m + 1, i, hi => by
    refine qaJ ?_
    simp only [qbX]
    have hif : i < f.length := by omega
    have sf := hf _ (List.getElem_mem hif)
    have f1 := sf.2
    have hc := qfX (ival f[i]) 0
    refine ev_t (by simp; omega) (qa3 (qbN hif) (qaG (qn6 sf.1 (by omega)) ?_))
    have next : Ev (fun K => qbX K (.c2 (mkP ((List.range L).map (part (pv f) (pv g) i g.length))) g f f.length i)) (mkP (tz (mulL (pv f) (pv g)))) := by
      refine qaJ ?_
      simp only [qbX]
      rw [qbR (by omega), show (i : Int) + 1 = ((i + 1 : Nat) : Int) by omega]
      have e := zqO (pv f) (pv g) i (by rw [qf8]; exact hif)
      rw [qf8] at e
      rw [e]
      exact q5M hf hg hp hq hpq hfl hgl hf0 hg0 L hL m (i + 1) (by omega)
    by_cases h0 : ival f[i] = 0
    · refine ev_t (by simp; omega) ?_
      have e : part (pv f) (pv g) i g.length = lm ((pv f).take i) (co (pv g)) := by
        funext j; simp [part, zbI hif, h0]
      rw [e] at next
      exact next
    · refine ev_f (by simp; omega) ?_
      have e : lm ((pv f).take i) (co (pv g)) = part (pv f) (pv g) i 0 := by funext j; rw [q81]
      rw [e]
      exact q5L hf hg hp hq hpq hfl hgl L hL i hif next g.length 0 (Nat.zero_add _)
theorem q5N {f g : List qaB} (hf : Ws f) (hg : Ws g) {p q : Nat} (hp : Bd p (pv f)) (hq : Bd q (pv g)) (hpq : p + q ≤ 1000000000) (hfl : f.length < 2147483648) (hgl : g.length < 2147483648) : Ev (fun K => qlN K f g) (mkP (tz (mulL (pv f) (pv g)))) := by
  refine qaJ ?_
  simp only [qlN, qbX]
  have lf := qrA (pv f)
  have lg := qrA (pv g)
  rw [qf8] at lf lg
  have hft : (f.take (tz (pv f)).length).length = (tz (pv f)).length := by rw [List.length_take]; omega
  have hgt : (g.take (tz (pv g)).length).length = (tz (pv g)).length := by rw [List.length_take]; omega
  have hpf : pv (f.take (tz (pv f)).length) = tz (pv f) := by rw [znF, ← qnX]
  have hpg : pv (g.take (tz (pv g)).length) = tz (pv g) := by rw [znF, ← qnX]
  have htz : tz (mulL (pv f) (pv g)) = tz (mulL (tz (pv f)) (tz (pv g))) := by
    refine q8W _ _ ?_
    rw [qs3, qs3, q0I, zh4 (q0I (pv f))]
  refine qaG (qeO (q8I hf) (by omega)) (qaG (qeO (q8I hg) (by omega)) ?_)
  rw [hft, hgt, htz]
  by_cases h1 : tz (pv f) = []
  · refine ev_t (by simp [h1]) (qeW (qaT _) ?_)
    rw [h1, (qwI _).2 fun k => by rw [qs3]; rfl]
    rfl
  · have p1 := List.length_pos_iff.2 h1
    refine ev_f (by simp [h1]) ?_
    by_cases h2 : tz (pv g) = []
    · refine ev_t (by simp [h2]) (qeW (qaT _) ?_)
      rw [h2, (qwI _).2 fun k => by rw [qs3, show co [] = fun _ => 0 by funext k; simp, zc5]]
      rfl
    · have p2 := List.length_pos_iff.2 h2
      refine ev_f (by simp [h2]) ?_
      rw [qbR (x := ((tz (pv f)).length : Int) + ((tz (pv g)).length : Int)) (by omega), qbR (by omega)]
      refine qeZ (by omega) ?_
      have hwf : Ws (f.take (tz (pv f)).length) := fun a ha => hf a (List.mem_of_mem_take ha)
      have hwg : Ws (g.take (tz (pv g)).length) := fun a ha => hg a (List.mem_of_mem_take ha)
      have := q5M hwf hwg (p := p) (q := q) (by rw [hpf]; exact zf9 hp) (by rw [hpg]; exact zf9 hq) hpq (by omega) (by omega) (by omega) (by omega) ((tz (pv f)).length + (tz (pv g)).length - 1) (by omega) _ 0 (Nat.zero_add _)
      rw [hpf, hpg, hft] at this
      have e : mkP ((List.range ((tz (pv f)).length + (tz (pv g)).length - 1)).map (lm ((tz (pv f)).take 0) (co (tz (pv g))))) = List.replicate (((tz (pv f)).length : Int) + ((tz (pv g)).length : Int) - 1).toNat (⟨false, []⟩ : qaB) := by
        rw [show (((tz (pv f)).length : Int) + ((tz (pv g)).length : Int) - 1).toNat = (tz (pv f)).length + (tz (pv g)).length - 1 by omega]
        apply List.ext_getElem?
        intro j
        simp only [mkP, List.map_map, List.getElem?_map, List.getElem?_replicate]
        by_cases hj : j < (tz (pv f)).length + (tz (pv g)).length - 1
        · rw [List.getElem?_range hj, if_pos hj]
          simp only [Option.map_some, Function.comp, List.take_zero]
          show some (mkI 0) = _
          rw [zh2]
        · rw [List.getElem?_eq_none (by simp; omega), if_neg hj]; rfl
      rw [e] at this
      exact this
open Go.Proofs.Try (prog)
inductive qoZ where
 | c0 (f : (List qaB)) (m : qaB)
 | c1 (m : qaB) (r14 : (List qaB)) (t15 : (List qaB)) (t16 : Int) (t17 : Int)
def qd0 : Nat → qoZ → Option ((List qaB) × Int)
 | 0, _ => none
 | K + 1, .c0 f m =>
  (qj4 K m).bind fun x1 =>
  bif (decide (x1 = (0 : Int))) then
   some ([], (2 : Int))
  else
   gd (0 ≤ (f.length : Int) ∧ (f.length : Int) ≤ (f.length : Int) ∧ (32 : Int) * (f.length : Int) ≤ 140737488355328) <|
   qd0 K (.c1 m (List.replicate (f.length : Int).toNat ((qaB.mk false []) : qaB)) f (f.length : Int) (0 : Int))
 | K + 1, .c1 m r14 t15 t16 t17 =>
  bif (decide (t17 < t16)) then
   (gi t15 t17).bind fun x2 =>
   (qf4 K x2 m).bind fun x4 =>
   (gi r14 t17).bind fun _ =>
   qd0 K (.c1 m (r14.set (t17.toNat) x4.1) t15 t16 (wI6 (t17 + (1 : Int))))
  else
   (qpM K r14).bind fun x2 =>
   some (x2, (0 : Int))
def qb5 (K : Nat) (f : (List qaB)) (m : qaB) : Option ((List qaB) × Int) := qd0 K (.c0 f m)
noncomputable def qsT : Code := qbQ prog 45
noncomputable def zdF : qoZ → List Fr
 | .c0 .. => [.code qsT]
 | .c1 .. => [.code (.loop (atC qsT [1,1,1,0,1,0,0])), .blk 0, .code (atC qsT [1,1,1,1])]
def zfM : qoZ → St
 | .c0 f m => St.init [(tl 2 f qaA), (TV.agg (qaA m))]
 | .c1 m r14 t15 t16 t17 => ⟨[(3, .c (C.ptr 3 0)), (6, .c (C.row 14 0 r14.length)), (15, vl 2 t15 qaA), (16, vi .i64 t16), (17, vi .i64 t17)], [(3, .var ((qaA m).map C.t)), (14, .row 45 2 (r14.map qaA) 0)], []⟩
def qxS (cx : Cx) (c : qoZ) (r : ((List qaB) × Int)) : Prop := Wk prog cx (qc2 prog 45 [[2], [0]] (TV.tup [(false, [(T.sl 2 (r.1.map qaA))]), (false, [(T.int .i64 r.2)])])) (zdF c) .normal (zfM c)
abbrev qxT (K : Nat) : Prop := ∀ c r, qd0 K c = some r → ∀ cx : Cx, cx.n = 34 → qxS cx c r
theorem zfO {K} (ih : qxT K) {cx} (hn : cx.n = 34) {f m} {r} (h : qd0 (K + 1) (.c0 f m) = some r) : qxS cx (.c0 f m) r := by
 rw [qd0] at h
 obtain ⟨x1, h2, h⟩ := qaH h
 rcases qaQ h with ⟨h3, h⟩ | ⟨h3, h⟩
 ·have h := oinj h; subst h
  exact wkR [rg3, rgG [oo, opI (.call [[0,1]] [(TV.agg (qaA m))] (ti .i64 x1)), oo], bTr, rg2] hn (aC (qbH h2) <| aC h3 <| aN)
 ·obtain ⟨h4, h⟩ := qbI h
  exact wkG [rg3, rgG [oo, opI (.call [[0,1]] [(TV.agg (qaA m))] (ti .i64 x1)), oo], bFa, rgG [oo, opI (.ln (f.length : Int)), opI (.mk (qaA (qaB.mk false [])) ((List.replicate (f.length : Int).toNat ((qaB.mk false []) : qaB)).map qaA)), oo], rgG [oo, opI (.ln (f.length : Int)), oo], .pre [.rl 6 0 (List.replicate (f.length : Int).toNat ((qaB.mk false []) : qaB)).length, .keep [3,6,15,16,17] [3,14]]] hn (aC (qbH h2) <| aC h3 <| aC (qaX f qaA) <| aC h4.1 <| aC h4.2.1 <| aC h4.2.2 <| aC (qgM _ _ _ : List.replicate (f.length : Int).toNat (qaA (qaB.mk false [])) = (List.replicate (f.length : Int).toNat ((qaB.mk false []) : qaB)).map qaA) <| aC (qaX f qaA) <| aC r0 <| aC (by simp : (f.length : Int).toNat = (List.replicate (f.length : Int).toNat ((qaB.mk false []) : qaB)).length) <| aN) (ih _ _ h cx hn)
theorem zfN {K} (ih : qxT K) {cx} (hn : cx.n = 34) {m r14 t15 t16 t17} {r} (h : qd0 (K + 1) (.c1 m r14 t15 t16 t17) = some r) : qxS cx (.c1 m r14 t15 t16 t17) r := by
 rw [qd0] at h
 rcases qaQ h with ⟨h1, h⟩ | ⟨h1, h⟩
 ·obtain ⟨x2, h3, h⟩ := qaH h
  obtain ⟨x4, h5, h⟩ := qaH h
  obtain ⟨x6, h7, h⟩ := qaH h
  exact wkG [.go, rg1, bTr, rgG [oo, opI (.ix (qaA x2)), oo, oo, oo, oo], rgG [oo, oo, oo, oo, opI (.call [[0,1], [0,1]] [(TV.agg (qaA x2)), (TV.agg (qaA m))] (TV.tup [(true, qaA x4.1), (false, [(T.int .i64 x4.2)])])), oo, oo, oo, .op .ir, opI (.st (qaA x6) ((r14.set (t17.toNat) x4.1).map qaA))], rg2, .pre [.rl 6 0 (r14.set (t17.toNat) x4.1).length, .keep [3,6,15,16,17] [3,14]]] hn (aC h1 <| aC (qa1 h3) <| aC (qbS qaA h3) <| aC (qgG h5) <| aC (qa1 h7) <| aC (qcB h7 (by simp) : t17 < ((r14.length : Nat) : Int)) <| aC (qcA qaA h7 : (r14.map qaA)[(0 + t17.toNat)]? = some (qaA x6)) <| aC (qc4 _ _ x4.1 _ : (r14.map qaA).set (0 + t17.toNat) (qbW (qaA x6) 0 [(T.bool x4.1.Neg), (T.sl 1 (x4.1.Abs.map qaC))]) = (r14.set (t17.toNat) x4.1).map qaA) <| aC (Nat.zero_le _ : 0 ≤ (0 + t17.toNat)) <| aC r0 <| aC (by simp : r14.length = (r14.set (t17.toNat) x4.1).length) <| aN) (ih _ _ h cx hn)
 ·obtain ⟨x2, h3, h⟩ := qaH h
  have h := oinj h; subst h
  exact wkR [.go, rg1, bFa, rgG [oo, .snap 32 (max 0 (0 + r14.length)) (r14.map qaA), opI (.call [[2]] [(tl 2 r14 qaA)] (tl 2 x2 qaA)), oo, oo]] hn (aC h1 <| aC (qbJ _ _ _ (by simp) : ((r14.map qaA).drop 0).take r14.length = r14.map qaA) <| aC (rfl : (max 0 (0 + r14.length)) = (max 0 (0 + r14.length))) <| aC (qvX h3) <| aN)
theorem qtZ : ∀ K : Nat, qxT K
 | 0, c, r, h => by rw [qd0] at h; cases h
 | K + 1, .c0 .., r, h => fun cx hn => zfO (qtZ K) hn h
 | K + 1, .c1 .., r, h => fun cx hn => zfN (qtZ K) hn h
theorem qa6 {K : Nat} {f : (List qaB)} {m : qaB} {r : ((List qaB) × Int)} (h : qb5 K f m = some r) : qc5 prog 45 [(tl 2 f qaA), (TV.agg (qaA m))] (TV.tup [(false, [(T.sl 2 (r.1.map qaA))]), (false, [(T.int .i64 r.2)])]) :=
 qa0 [[2], [0]] (by kernel_rfl) (by simp) fun cx hn => qtZ K (.c0 f m) r h cx hn
open Go.Proofs.Try (prog)
inductive qnR where
 | c0 (list : (List (List qaB))) (m : qaB)
 | c1 (m : qaB) (out : (List qaB)) (e_v : Int) (t17 : (List (List qaB))) (t18 : Int) (t19 : Int)
 | c2 (m : qaB) (out : (List qaB)) (e_v : Int) (t17 : (List (List qaB))) (t18 : Int) (t19 : Int)
def qbP : Nat → qnR → Option ((List qaB) × Int)
 | 0, _ => none
 | K + 1, .c0 list m =>
  (qiV K ([(1 : Int)] : List Int)).bind fun x1 =>
  (qb5 K x1 m).bind fun x3 =>
  qbP K (.c1 m x3.1 x3.2 list (list.length : Int) (0 : Int))
 | K + 1, .c1 m out e_v t17 t18 t19 =>
  bif (decide (t19 < t18)) then
   (gi t17 t19).bind fun x2 =>
   bif (decide (e_v = (0 : Int))) then
    (qlN K out x2).bind fun x5 =>
    (qb5 K x5 m).bind fun x7 =>
    qbP K (.c2 m x7.1 x7.2 t17 t18 t19)
   else
    qbP K (.c2 m out e_v t17 t18 t19)
  else
   some (out, e_v)
 | K + 1, .c2 m out e_v t17 t18 t19 =>
  qbP K (.c1 m out e_v t17 t18 (wI6 (t19 + (1 : Int))))
def qeT (K : Nat) (list : (List (List qaB))) (m : qaB) : Option ((List qaB) × Int) := qbP K (.c0 list m)
noncomputable def qhB : Code := qbQ prog 46
noncomputable def za9 : qnR → List Fr
 | .c0 .. => [.code qhB]
 | .c1 .. => [.code (.loop (atC qhB [1,1,0,1,0,0])), .blk 0, .code (atC qhB [1,1,1])]
 | .c2 .. => [.code (atC qhB [1,1,0,1,0,0,1,1,1]), .lp (atC qhB [1,1,0,1,0,0]), .blk 0, .code (atC qhB [1,1,1])]
def zdG : qnR → St
 | .c0 list m => St.init [(tl 1 list qaD), (TV.agg (qaA m))]
 | .c1 m out e_v t17 t18 t19 => ⟨[(3, .c (C.ptr 3 0)), (6, vl 2 out qaA), (7, vi .i64 e_v), (17, vl 1 t17 qaD), (18, vi .i64 t18), (19, vi .i64 t19)], [(3, .var ((qaA m).map C.t))], []⟩
 | .c2 m out e_v t17 t18 t19 => ⟨[(3, .c (C.ptr 3 0)), (6, vl 2 out qaA), (7, vi .i64 e_v), (17, vl 1 t17 qaD), (18, vi .i64 t18), (19, vi .i64 t19)], [(3, .var ((qaA m).map C.t))], []⟩
def qqK (cx : Cx) (c : qnR) (r : ((List qaB) × Int)) : Prop := Wk prog cx (qc2 prog 46 [[2], [0]] (TV.tup [(false, [(T.sl 2 (r.1.map qaA))]), (false, [(T.int .i64 r.2)])])) (za9 c) .normal (zdG c)
abbrev qqL (K : Nat) : Prop := ∀ c r, qbP K c = some r → ∀ cx : Cx, cx.n = 36 → qqK cx c r
theorem zdK {K} (ih : qqL K) {cx} (hn : cx.n = 36) {list m} {r} (h : qbP (K + 1) (.c0 list m) = some r) : qqK cx (.c0 list m) r := by
 rw [qbP] at h
 obtain ⟨x1, h2, h⟩ := qaH h
 obtain ⟨x3, h4, h⟩ := qaH h
 exact wkG [rg3, .draw [(.litT (([(1 : Int)] : List Int).map qd4)), (.call [[1]] [(TV.c (T.sl 1 (([(1 : Int)] : List Int).map qd4)))] (tl 2 x1 qaA)), .p, (.call [[2], [0,1]] [(tl 2 x1 qaA), (TV.agg (qaA m))] (TV.tup [(false, [(T.sl 2 (x3.1.map qaA))]), (false, [(T.int .i64 x3.2)])])), .p, .p, .p, .p] [.op .p], rgG [oo, opI (.ln (list.length : Int)), oo], .pre [.keep [3,6,7,17,18,19] [3]]] hn (aC (by kernel_rfl : [(T.int .i64 (1 : Int))] = (([(1 : Int)] : List Int).map qd4).flatten) <| aC (qeM h2) <| aC (qa6 h4) <| aC (qaX list qaD) <| aN) (ih _ _ h cx hn)
theorem zdJ {K} (ih : qqL K) {cx} (hn : cx.n = 36) {m out e_v t17 t18 t19} {r} (h : qbP (K + 1) (.c1 m out e_v t17 t18 t19) = some r) : qqK cx (.c1 m out e_v t17 t18 t19) r := by
 rw [qbP] at h
 rcases qaQ h with ⟨h1, h⟩ | ⟨h1, h⟩
 ·obtain ⟨x2, h3, h⟩ := qaH h
  rcases qaQ h with ⟨h4, h⟩ | ⟨h4, h⟩
  ·obtain ⟨x5, h6, h⟩ := qaH h
   obtain ⟨x7, h8, h⟩ := qaH h
   exact wkG [.go, rg1, bTr, rgG [opI (.ix (qaD x2)), oo, oo], rg2, bTr, .draw [.p, .p, (.call [[2], [2]] [(tl 2 out qaA), (tl 2 x2 qaA)] (tl 2 x5 qaA)), .p, (.call [[2], [0,1]] [(tl 2 x5 qaA), (TV.agg (qaA m))] (TV.tup [(false, [(T.sl 2 (x7.1.map qaA))]), (false, [(T.int .i64 x7.2)])])), .p, .p, .p, .p] [.op .p], .pre [.keep [3,6,7,17,18,19] [3]]] hn (aC h1 <| aC (qa1 h3) <| aC (qbS qaD h3) <| aC h4 <| aC (qfS h6) <| aC (qa6 h8) <| aN) (ih _ _ h cx hn)
  ·exact wkG [.go, rg1, bTr, rgG [opI (.ix (qaD x2)), oo, oo], rg2, bFa, .pre [.keep [3,6,7,17,18,19] [3]]] hn (aC h1 <| aC (qa1 h3) <| aC (qbS qaD h3) <| aC h4 <| aN) (ih _ _ h cx hn)
 ·have h := oinj h; subst h
  exact wkR [.go, rg1, bFa, rg4] hn (aC h1 <| aN)
theorem zdI {K} (ih : qqL K) {cx} (hn : cx.n = 36) {m out e_v t17 t18 t19} {r} (h : qbP (K + 1) (.c2 m out e_v t17 t18 t19) = some r) : qqK cx (.c2 m out e_v t17 t18 t19) r := by
 rw [qbP] at h
 exact zrC (fuel := 44) [rg2, .pre [.keep [3,6,7,17,18,19] [3]]] _ hn (by kernel_rfl) aN (ih _ _ h cx hn)
theorem qnQ : ∀ K : Nat, qqL K
 | 0, c, r, h => by rw [qbP] at h; cases h
 | K + 1, .c0 .., r, h => fun cx hn => zdK (qnQ K) hn h
 | K + 1, .c1 .., r, h => fun cx hn => zdJ (qnQ K) hn h
 | K + 1, .c2 .., r, h => fun cx hn => zdI (qnQ K) hn h
theorem qa5 {K : Nat} {list : (List (List qaB))} {m : qaB} {r : ((List qaB) × Int)} (h : qeT K list m = some r) : qc5 prog 46 [(tl 1 list qaD), (TV.agg (qaA m))] (TV.tup [(false, [(T.sl 2 (r.1.map qaA))]), (false, [(T.int .i64 r.2)])]) :=
 qa0 [[2], [0]] (by kernel_rfl) (by simp) fun cx hn => qnQ K (.c0 list m) r h cx hn
open Go.Proofs.Try (prog)
inductive qeR where
 | c0 (s : (List Int))
def qc7 : Nat → qeR → Option (List Int)
 | 0, _ => none
 | _ + 1, .c0 s =>
  gd (0 ≤ (s.length : Int) ∧ 0 ≤ (s.length : Int) ∧ (s.length : Int).toNat ≤ (s.length : Int).toNat ∧ (s.length : Int).toNat ≤ s.length) <|
  some (s.take ((s.length : Int).toNat))
def qfL (K : Nat) (s : (List Int)) : Option (List Int) := qc7 K (.c0 s)
noncomputable def qpB : Code := qbQ prog 152
noncomputable def qpN : qeR → List Fr
 | .c0 .. => [.code qpB]
def qqT : qeR → St
 | .c0 s => St.init [(tl 1 s qaC)]
def qjO (cx : Cx) (c : qeR) (r : (List Int)) : Prop := Wk prog cx (qc2 prog 152 [[1]] (tl 1 r qaC)) (qpN c) .normal (qqT c)
abbrev qjP (K : Nat) : Prop := ∀ c r, qc7 K c = some r → ∀ cx : Cx, cx.n = 9 → qjO cx c r
theorem qqU {K} (_ : qjP K) {cx} (hn : cx.n = 9) {s} {r} (h : qc7 (K + 1) (.c0 s) = some r) : qjO cx (.c0 s) r := by
 rw [qc7] at h
 obtain ⟨h1, h⟩ := qbI h
 have h := oinj h; subst h
 exact wkR [rg1, rgG [oo, oo, opI (.ln (s.length : Int)), oo, opI (.ln (s.length : Int)), opI (.slM 0 ((s.length : Int).toNat) ((s.length : Int).toNat) ((s.take ((s.length : Int).toNat)).map qaC)), oo]] hn (aC (qaX s qaC) <| aC (qaX s qaC) <| aC r0 <| aC (⟨h1.1, rfl⟩ : 0 ≤ (s.length : Int) ∧ (s.length : Int).toNat = (s.length : Int).toNat) <| aC (⟨h1.2.1, rfl⟩ : 0 ≤ (s.length : Int) ∧ (s.length : Int).toNat = (s.length : Int).toNat) <| aC (Nat.zero_le _ : 0 ≤ (s.length : Int).toNat) <| aC h1.2.2.1 <| aC (ze8 _ h1.2.2.2 : (s.length : Int).toNat ≤ (s.map qaC).length) <| aC (q27 _ _ _ : ((s.map qaC).take ((s.length : Int).toNat)).drop 0 = (s.take ((s.length : Int).toNat)).map qaC) <| aN)
theorem qiS : ∀ K : Nat, qjP K
 | 0, c, r, h => by rw [qc7] at h; cases h
 | K + 1, .c0 .., r, h => fun cx hn => qqU (qiS K) hn h
theorem qoJ {K : Nat} {s : (List Int)} {r : (List Int)} (h : qfL K s = some r) : qc5 prog 152 [(tl 1 s qaC)] (tl 1 r qaC) :=
 qa0 [[1]] (by kernel_rfl) (by simp) fun cx hn => qiS K (.c0 s) r h cx hn
open Go.Proofs.Try (prog)
inductive qp6 where
 | c0 (f : (List Int))
 | c1 (f : (List Int)) (n : Int)
 | c2 (f : (List Int)) (n : Int)
def qcU : Nat → qp6 → Option (List Int)
 | 0, _ => none
 | K + 1, .c0 f =>
  qcU K (.c1 f (f.length : Int))
 | K + 1, .c1 f n =>
  bif (decide ((0 : Int) < n)) then
   (gi f (wI6 (n - (1 : Int)))).bind fun x2 =>
   bif (decide (x2 = (0 : Int))) then
    qcU K (.c1 f (wI6 (n - (1 : Int))))
   else
    qcU K (.c2 f n)
  else
   qcU K (.c2 f n)
 | K + 1, .c2 f n =>
  gd (0 ≤ n ∧ 0 ≤ n.toNat ∧ n.toNat ≤ f.length) <|
  (qfL K (f.take n.toNat)).bind fun x2 =>
  some x2
def qhW (K : Nat) (f : (List Int)) : Option (List Int) := qcU K (.c0 f)
noncomputable def qkX : Code := qbQ prog 110
noncomputable def zeX : qp6 → List Fr
 | .c0 .. => [.code qkX]
 | .c1 .. => [.code (.loop (atC qkX [1,1,0,0,0])), .blk 0, .code (atC qkX [1,1,1])]
 | .c2 .. => [.code (atC qkX [1,1,1,0]), .code (atC qkX [1,1,1,1])]
def zhO : qp6 → St
 | .c0 f => St.init [(tl 1 f qaC)]
 | .c1 f n => ⟨[(0, vl 1 f qaC), (3, vi .i64 n)], [], []⟩
 | .c2 f n => ⟨[(0, vl 1 f qaC), (3, vi .i64 n)], [], []⟩
def quJ (cx : Cx) (c : qp6) (r : (List Int)) : Prop := Wk prog cx (qc2 prog 110 [[1]] (tl 1 r qaC)) (zeX c) .normal (zhO c)
abbrev quK (K : Nat) : Prop := ∀ c r, qcU K c = some r → ∀ cx : Cx, cx.n = 22 → quJ cx c r
theorem zhR {K} (ih : quK K) {cx} (hn : cx.n = 22) {f} {r} (h : qcU (K + 1) (.c0 f) = some r) : quJ cx (.c0 f) r := by
 rw [qcU] at h
 exact wkG [rg1, rgG [oo, opI (.ln (f.length : Int)), oo], .pre [.keep [0,3] []]] hn (aC (qaX f qaC) <| aN) (ih _ _ h cx hn)
theorem zhQ {K} (ih : quK K) {cx} (hn : cx.n = 22) {f n} {r} (h : qcU (K + 1) (.c1 f n) = some r) : quJ cx (.c1 f n) r := by
 rw [qcU] at h
 rcases qaQ h with ⟨h1, h⟩ | ⟨h1, h⟩
 ·obtain ⟨x2, h3, h⟩ := qaH h
  rcases qaQ h with ⟨h4, h⟩ | ⟨h4, h⟩
  ·exact wkG [.go, rgG [oo, oo, oo, .sb 8 true, oo, oo, oo, opI (.ix (qaC x2)), oo, oo, oo], bTr, rg3, .pre [.keep [0,3] []]] hn (aC h1 <| aC (qa1 h3) <| aC (qbS qaC h3) <| aC h4 <| aN) (ih _ _ h cx hn)
  ·exact wkG [.go, rgG [oo, oo, oo, .sb 8 true, oo, oo, oo, opI (.ix (qaC x2)), oo, oo, oo], bFa, .pre [.keep [0,3] []]] hn (aC h1 <| aC (qa1 h3) <| aC (qbS qaC h3) <| aC h4 <| aN) (ih _ _ h cx hn)
 ·exact wkG [.go, rgG [oo, oo, oo, .sb 8 false, oo, oo, oo, oo, oo, oo, oo], bFa, .pre [.keep [0,3] []]] hn (aC h1 <| aC rf <| aN) (ih _ _ h cx hn)
theorem zhP {K} (_ : quK K) {cx} (hn : cx.n = 22) {f n} {r} (h : qcU (K + 1) (.c2 f n) = some r) : quJ cx (.c2 f n) r := by
 rw [qcU] at h
 obtain ⟨h1, h⟩ := qbI h
 obtain ⟨x2, h3, h⟩ := qaH h
 have h := oinj h; subst h
 exact wkR [rgG [oo, oo, opI (.slT 0 n.toNat ((f.take n.toNat).map qaC)), opI (.call [[1]] [(TV.c (T.sl 1 ((f.take n.toNat).map qaC)))] (tl 1 x2 qaC)), oo]] hn (aC r0 <| aC (⟨h1.1, rfl⟩ : 0 ≤ n ∧ n.toNat = n.toNat) <| aC h1.2.1 <| aC (ze8 _ h1.2.2 : n.toNat ≤ (f.map qaC).length) <| aC (q27 _ _ _ : ((f.map qaC).take n.toNat).drop 0 = (f.take n.toNat).map qaC) <| aC (qoJ h3) <| aN)
theorem qp5 : ∀ K : Nat, quK K
 | 0, c, r, h => by rw [qcU] at h; cases h
 | K + 1, .c0 .., r, h => fun cx hn => zhR (qp5 K) hn h
 | K + 1, .c1 .., r, h => fun cx hn => zhQ (qp5 K) hn h
 | K + 1, .c2 .., r, h => fun cx hn => zhP (qp5 K) hn h
theorem qf2 {K : Nat} {f : (List Int)} {r : (List Int)} (h : qhW K f = some r) : qc5 prog 110 [(tl 1 f qaC)] (tl 1 r qaC) :=
 qa0 [[1]] (by kernel_rfl) (by simp) fun cx hn => qp5 K (.c0 f) r h cx hn
open Go.Proofs.Try (prog)
inductive qp4 where
 | c0 (m : Int)
def qkW : Nat → qp4 → Option Int
 | 0, _ => none
 | _ + 1, .c0 m =>
  some (wU6 (max m (1 : Int)))
def qlF (K : Nat) (m : Int) : Option Int := qkW K (.c0 m)
noncomputable def zcH : Code := qbQ prog 183
noncomputable def zeT : qp4 → List Fr
 | .c0 .. => [.code zcH]
def zhH : qp4 → St
 | .c0 m => St.init [(ti .u32 m)]
def q55 (cx : Cx) (c : qp4) (r : Int) : Prop := Wk prog cx (qc2 prog 183 [[0]] (ti .u64 r)) (zeT c) .normal (zhH c)
abbrev q56 (K : Nat) : Prop := ∀ c r, qkW K c = some r → ∀ cx : Cx, cx.n = 6 → q55 cx c r
theorem zhI {K} (_ : q56 K) {cx} (hn : cx.n = 6) {m} {r} (h : qkW (K + 1) (.c0 m) = some r) : q55 cx (.c0 m) r := by
 rw [qkW] at h
 have h := oinj h; subst h
 exact zn4 (fuel := 54) [rg1, rg4] _ hn (by kernel_rfl) aN
theorem q1V : ∀ K : Nat, q56 K
 | 0, c, r, h => by rw [qkW] at h; cases h
 | K + 1, .c0 .., r, h => fun cx hn => zhI (q1V K) hn h
theorem qh3 {K : Nat} {m : Int} {r : Int} (h : qlF K m = some r) : qc5 prog 183 [(ti .u32 m)] (ti .u64 r) :=
 qa0 [[0]] (by kernel_rfl) (by simp) fun cx hn => q1V K (.c0 m) r h cx hn
open Go.Proofs.Try (prog)
inductive qr5 where
 | c0 (a : Int) (b : Int) (m : Int)
def qmN : Nat → qr5 → Option Int
 | 0, _ => none
 | K + 1, .c0 a b m =>
  (qlF K m).bind fun x1 =>
  gd (x1 ≠ 0) <|
  some (wU3 (Int.tmod (wU6 ((wU6 a) + (wU6 b))) x1))
def qw6 (K : Nat) (a : Int) (b : Int) (m : Int) : Option Int := qmN K (.c0 a b m)
noncomputable def zeW : Code := qbQ prog 163
noncomputable def zhN : qr5 → List Fr
 | .c0 .. => [.code zeW]
def zlJ : qr5 → St
 | .c0 a b m => St.init [(ti .u32 a), (ti .u32 b), (ti .u32 m)]
def q9L (cx : Cx) (c : qr5) (r : Int) : Prop := Wk prog cx (qc2 prog 163 [[0]] (ti .u32 r)) (zhN c) .normal (zlJ c)
abbrev q9M (K : Nat) : Prop := ∀ c r, qmN K c = some r → ∀ cx : Cx, cx.n = 16 → q9L cx c r
theorem zlK {K} (_ : q9M K) {cx} (hn : cx.n = 16) {a b m} {r} (h : qmN (K + 1) (.c0 a b m) = some r) : q9L cx (.c0 a b m) r := by
 rw [qmN] at h
 obtain ⟨x1, h2, h⟩ := qaH h
 obtain ⟨h3, h⟩ := qbI h
 have h := oinj h; subst h
 exact wkR [rg1, rgG [oo, oo, oo, oo, oo, oo, opI (.call [[0]] [(ti .u32 m)] (ti .u64 x1)), .op .dv, oo, oo]] hn (aC (qh3 h2) <| aC h3 <| aN)
theorem q3I : ∀ K : Nat, q9M K
 | 0, c, r, h => by rw [qmN] at h; cases h
 | K + 1, .c0 .., r, h => fun cx hn => zlK (q3I K) hn h
theorem qzI {K : Nat} {a : Int} {b : Int} {m : Int} {r : Int} (h : qw6 K a b m = some r) : qc5 prog 163 [(ti .u32 a), (ti .u32 b), (ti .u32 m)] (ti .u32 r) :=
 qa0 [[0]] (by kernel_rfl) (by simp) fun cx hn => q3I K (.c0 a b m) r h cx hn
open Go.Proofs.Try (prog)
inductive qnJ where
 | c0 (f : (List Int)) (m : Int)
 | c1 (r9 : (List Int)) (f : (List Int)) (m : Int) (t11 : Int) (t12 : Int)
def qdV : Nat → qnJ → Option (List Int)
 | 0, _ => none
 | K + 1, .c0 f m =>
  gd (0 ≤ (f.length : Int) ∧ (f.length : Int) ≤ (f.length : Int) ∧ (4 : Int) * (f.length : Int) ≤ 140737488355328) <|
  qdV K (.c1 (List.replicate (f.length : Int).toNat ((0 : Int) : Int)) f m (f.length : Int) (0 : Int))
 | K + 1, .c1 r9 f m t11 t12 =>
  bif (decide (t12 < t11)) then
   (gi f t12).bind fun x2 =>
   (qw6 K x2 (0 : Int) m).bind fun x4 =>
   (gi r9 t12).bind fun _ =>
   qdV K (.c1 (r9.set (t12.toNat) x4) f m t11 (wI6 (t12 + (1 : Int))))
  else
   (qhW K r9).bind fun x2 =>
   some x2
def qeS (K : Nat) (f : (List Int)) (m : Int) : Option (List Int) := qdV K (.c0 f m)
noncomputable def qq3 : Code := qbQ prog 161
noncomputable def q9Z : qnJ → List Fr
 | .c0 .. => [.code qq3]
 | .c1 .. => [.code (.loop (atC qq3 [1,1,0,1,0,0])), .blk 0, .code (atC qq3 [1,1,1])]
def zcV : qnJ → St
 | .c0 f m => St.init [(tl 1 f qaC), (ti .u32 m)]
 | .c1 r9 f m t11 t12 => ⟨[(0, vl 1 f qaC), (1, vi .u32 m), (5, .c (C.row 9 0 r9.length)), (11, vi .i64 t11), (12, vi .i64 t12)], [(9, .row 101 1 (r9.map qaC) 0)], []⟩
def qvQ (cx : Cx) (c : qnJ) (r : (List Int)) : Prop := Wk prog cx (qc2 prog 161 [[1]] (tl 1 r qaC)) (q9Z c) .normal (zcV c)
abbrev qvR (K : Nat) : Prop := ∀ c r, qdV K c = some r → ∀ cx : Cx, cx.n = 27 → qvQ cx c r
theorem zcX {K} (ih : qvR K) {cx} (hn : cx.n = 27) {f m} {r} (h : qdV (K + 1) (.c0 f m) = some r) : qvQ cx (.c0 f m) r := by
 rw [qdV] at h
 obtain ⟨h1, h⟩ := qbI h
 exact wkG [rg1, rgG [oo, opI (.ln (f.length : Int)), opI (.mk (qaC (0 : Int)) ((List.replicate (f.length : Int).toNat ((0 : Int) : Int)).map qaC)), oo], rgG [oo, opI (.ln (f.length : Int)), oo], .pre [.rl 5 0 (List.replicate (f.length : Int).toNat ((0 : Int) : Int)).length, .keep [0,1,5,11,12] [9]]] hn (aC (qaX f qaC) <| aC h1.1 <| aC h1.2.1 <| aC h1.2.2 <| aC (qgM _ _ _ : List.replicate (f.length : Int).toNat (qaC (0 : Int)) = (List.replicate (f.length : Int).toNat ((0 : Int) : Int)).map qaC) <| aC (qaX f qaC) <| aC r0 <| aC (by simp : (f.length : Int).toNat = (List.replicate (f.length : Int).toNat ((0 : Int) : Int)).length) <| aN) (ih _ _ h cx hn)
theorem zcW {K} (ih : qvR K) {cx} (hn : cx.n = 27) {r9 f m t11 t12} {r} (h : qdV (K + 1) (.c1 r9 f m t11 t12) = some r) : qvQ cx (.c1 r9 f m t11 t12) r := by
 rw [qdV] at h
 rcases qaQ h with ⟨h1, h⟩ | ⟨h1, h⟩
 ·obtain ⟨x2, h3, h⟩ := qaH h
  obtain ⟨x4, h5, h⟩ := qaH h
  obtain ⟨x6, h7, h⟩ := qaH h
  exact wkG [.go, rg1, bTr, rg2, rgG [oo, oo, oo, oo, opI (.ix (qaC x2)), oo, oo, opI (.call [[0], [0], [0]] [(ti .u32 x2), (TV.c (T.int .u32 (0 : Int))), (ti .u32 m)] (ti .u32 x4)), .op .ir, opI (.st (qaC x6) ((r9.set (t12.toNat) x4).map qaC))], rg2, .pre [.rl 5 0 (r9.set (t12.toNat) x4).length, .keep [0,1,5,11,12] [9]]] hn (aC h1 <| aC (qa1 h3) <| aC (qbS qaC h3) <| aC (qzI h5) <| aC (qa1 h7) <| aC (qcB h7 (by simp) : t12 < ((r9.length : Nat) : Int)) <| aC (qcA qaC h7 : (r9.map qaC)[(0 + t12.toNat)]? = some (qaC x6)) <| aC (qc4 _ _ x4 _ : (r9.map qaC).set (0 + t12.toNat) (qbW (qaC x6) 0 [(T.int .u32 x4)]) = (r9.set (t12.toNat) x4).map qaC) <| aC (Nat.zero_le _ : 0 ≤ (0 + t12.toNat)) <| aC r0 <| aC (by simp : r9.length = (r9.set (t12.toNat) x4).length) <| aN) (ih _ _ h cx hn)
 ·obtain ⟨x2, h3, h⟩ := qaH h
  have h := oinj h; subst h
  exact wkR [.go, rg1, bFa, rgG [oo, .snap 25 (max 0 (0 + r9.length)) (r9.map qaC), opI (.call [[1]] [(tl 1 r9 qaC)] (tl 1 x2 qaC)), oo]] hn (aC h1 <| aC (qbJ _ _ _ (by simp) : ((r9.map qaC).drop 0).take r9.length = r9.map qaC) <| aC (rfl : (max 0 (0 + r9.length)) = (max 0 (0 + r9.length))) <| aC (qf2 h3) <| aN)
theorem qsB : ∀ K : Nat, qvR K
 | 0, c, r, h => by rw [qdV] at h; cases h
 | K + 1, .c0 .., r, h => fun cx hn => zcX (qsB K) hn h
 | K + 1, .c1 .., r, h => fun cx hn => zcW (qsB K) hn h
theorem qbU {K : Nat} {f : (List Int)} {m : Int} {r : (List Int)} (h : qeS K f m = some r) : qc5 prog 161 [(tl 1 f qaC), (ti .u32 m)] (tl 1 r qaC) :=
 qa0 [[1]] (by kernel_rfl) (by simp) fun cx hn => qsB K (.c0 f m) r h cx hn
open Go.Proofs.Try (prog)
inductive qnL where
 | c0 (f : (List Int)) (m : Int)
def qi2 : Nat → qnL → Option Int
 | 0, _ => none
 | K + 1, .c0 f m =>
  (qeS K f m).bind fun x1 =>
  some (wI6 ((x1.length : Int) - (1 : Int)))
def qmQ (K : Nat) (f : (List Int)) (m : Int) : Option Int := qi2 K (.c0 f m)
noncomputable def q7I : Code := qbQ prog 122
noncomputable def q94 : qnL → List Fr
 | .c0 .. => [.code q7I]
def zc1 : qnL → St
 | .c0 f m => St.init [(tl 1 f qaC), (ti .u32 m)]
def q14 (cx : Cx) (c : qnL) (r : Int) : Prop := Wk prog cx (qc2 prog 122 [[0]] (ti .i64 r)) (q94 c) .normal (zc1 c)
abbrev q15 (K : Nat) : Prop := ∀ c r, qi2 K c = some r → ∀ cx : Cx, cx.n = 10 → q14 cx c r
theorem zc2 {K} (_ : q15 K) {cx} (hn : cx.n = 10) {f m} {r} (h : qi2 (K + 1) (.c0 f m) = some r) : q14 cx (.c0 f m) r := by
 rw [qi2] at h
 obtain ⟨x1, h2, h⟩ := qaH h
 have h := oinj h; subst h
 exact wkR [rg1, rgG [oo, oo, opI (.call [[1], [0]] [(tl 1 f qaC), (ti .u32 m)] (tl 1 x1 qaC)), opI (.ln (x1.length : Int)), oo, oo]] hn (aC (qbU h2) <| aC (qaX x1 qaC) <| aN)
theorem qyK : ∀ K : Nat, q15 K
 | 0, c, r, h => by rw [qi2] at h; cases h
 | K + 1, .c0 .., r, h => fun cx hn => zc2 (qyK K) hn h
theorem qkJ {K : Nat} {f : (List Int)} {m : Int} {r : Int} (h : qmQ K f m = some r) : qc5 prog 122 [(tl 1 f qaC), (ti .u32 m)] (ti .i64 r) :=
 qa0 [[0]] (by kernel_rfl) (by simp) fun cx hn => qyK K (.c0 f m) r h cx hn
open Go.Proofs.Try (prog)
inductive qlS where
 | c0 (a : Int) (m : Int)
 | c1 (n : Int) (r_v : Int) (s : Int) (u : Int) (v : Int)
def qfH : Nat → qlS → Option (Int × Int)
 | 0, _ => none
 | K + 1, .c0 a m =>
  (qlF K m).bind fun x1 =>
  gd ((wI6 x1) ≠ 0) <|
  qfH K (.c1 (wI6 x1) (wI6 x1) (Int.tmod (wI6 a) (wI6 x1)) (0 : Int) (1 : Int))
 | K + 1, .c1 n r_v s u v =>
  bif (!decide (s = (0 : Int))) then
   gd (s ≠ 0) <|
   qfH K (.c1 n s (wI6 (r_v - (wI6 ((wI6 (Int.tdiv r_v s)) * s)))) v (wI6 (u - (wI6 ((wI6 (Int.tdiv r_v s)) * v)))))
  else
   bif (!decide (r_v = (1 : Int))) then
    some ((0 : Int), (5 : Int))
   else
    gd (n ≠ 0) <|
    gd (n ≠ 0) <|
    some ((wU3 (Int.tmod (wI6 ((Int.tmod u n) + n)) n)), (0 : Int))
def qb0 (K : Nat) (a : Int) (m : Int) : Option (Int × Int) := qfH K (.c0 a m)
noncomputable def qpG : Code := qbQ prog 159
noncomputable def q7E : qlS → List Fr
 | .c0 .. => [.code qpG]
 | .c1 .. => [.code (.loop (atC qpG [1,1,1,1,0,0,0])), .blk 0, .code (atC qpG [1,1,1,1,1])]
def q9I : qlS → St
 | .c0 a m => St.init [(ti .u32 a), (ti .u32 m)]
 | .c1 n r_v s u v => ⟨[(6, vi .i64 n), (7, vi .i64 r_v), (8, vi .i64 s), (9, vi .i64 u), (10, vi .i64 v)], [], []⟩
def qtQ (cx : Cx) (c : qlS) (r : (Int × Int)) : Prop := Wk prog cx (qc2 prog 159 [[0], [0]] (TV.tup [(false, [(T.int .u32 r.1)]), (false, [(T.int .i64 r.2)])])) (q7E c) .normal (q9I c)
abbrev qtR (K : Nat) : Prop := ∀ c r, qfH K c = some r → ∀ cx : Cx, cx.n = 47 → qtQ cx c r
theorem q9K {K} (ih : qtR K) {cx} (hn : cx.n = 47) {a m} {r} (h : qfH (K + 1) (.c0 a m) = some r) : qtQ cx (.c0 a m) r := by
 rw [qfH] at h
 obtain ⟨x1, h2, h⟩ := qaH h
 obtain ⟨h3, h⟩ := qbI h
 exact wkG [rg2, rgG [oo, opI (.call [[0]] [(ti .u32 m)] (ti .u64 x1)), oo, oo], .draw [.p, .p, .p, .p, .dv, .p] [.op .p], rg2, .pre [.keep [6,7,8,9,10] []]] hn (aC (qh3 h2) <| aC h3 <| aN) (ih _ _ h cx hn)
theorem q9J {K} (ih : qtR K) {cx} (hn : cx.n = 47) {n r_v s u v} {r} (h : qfH (K + 1) (.c1 n r_v s u v) = some r) : qtQ cx (.c1 n r_v s u v) r := by
 rw [qfH] at h
 rcases qaQ h with ⟨h1, h⟩ | ⟨h1, h⟩
 ·obtain ⟨h2, h⟩ := qbI h
  exact wkG [.go, rg2, bTr, rgG [oo, oo, .op .dv, oo], rgG [oo, oo, oo, oo, oo, oo, oo, oo], rgG [oo, oo, oo, oo, oo, oo, oo, oo], .pre [.keep [6,7,8,9,10] []]] hn (aC h1 <| aC h2 <| aN) (ih _ _ h cx hn)
 ·rcases qaQ h with ⟨h2, h⟩ | ⟨h2, h⟩
  ·have h := oinj h; subst h
   exact wkR [.go, rg2, bFa, rg2, bTr, rg2] hn (aC h1 <| aC h2 <| aN)
  ·obtain ⟨h3, h⟩ := qbI h
   obtain ⟨h4, h⟩ := qbI h
   have h := oinj h; subst h
   exact wkR [.go, rg2, bFa, rg2, bFa, rgG [oo, oo, .op .dv, oo, oo, oo, .op .dv, oo, oo, oo]] hn (aC h1 <| aC h2 <| aC h3 <| aC h4 <| aN)
theorem qqY : ∀ K : Nat, qtR K
 | 0, c, r, h => by rw [qfH] at h; cases h
 | K + 1, .c0 .., r, h => fun cx hn => q9K (qqY K) hn h
 | K + 1, .c1 .., r, h => fun cx hn => q9J (qqY K) hn h
theorem qdI {K : Nat} {a : Int} {m : Int} {r : (Int × Int)} (h : qb0 K a m = some r) : qc5 prog 159 [(ti .u32 a), (ti .u32 m)] (TV.tup [(false, [(T.int .u32 r.1)]), (false, [(T.int .i64 r.2)])]) :=
 qa0 [[0], [0]] (by kernel_rfl) (by simp) fun cx hn => qqY K (.c0 a m) r h cx hn
open Go.Proofs.Try (prog)
inductive qr4 where
 | c0 (a : Int) (b : Int) (m : Int)
def qmM : Nat → qr4 → Option Int
 | 0, _ => none
 | K + 1, .c0 a b m =>
  (qlF K m).bind fun x1 =>
  gd (x1 ≠ 0) <|
  some (wU3 (Int.tmod (wU6 ((wU6 a) * (wU6 b))) x1))
def qiF (K : Nat) (a : Int) (b : Int) (m : Int) : Option Int := qmM K (.c0 a b m)
noncomputable def zeV : Code := qbQ prog 164
noncomputable def zhM : qr4 → List Fr
 | .c0 .. => [.code zeV]
def zlH : qr4 → St
 | .c0 a b m => St.init [(ti .u32 a), (ti .u32 b), (ti .u32 m)]
def q9D (cx : Cx) (c : qr4) (r : Int) : Prop := Wk prog cx (qc2 prog 164 [[0]] (ti .u32 r)) (zhM c) .normal (zlH c)
abbrev q9E (K : Nat) : Prop := ∀ c r, qmM K c = some r → ∀ cx : Cx, cx.n = 16 → q9D cx c r
theorem zlI {K} (_ : q9E K) {cx} (hn : cx.n = 16) {a b m} {r} (h : qmM (K + 1) (.c0 a b m) = some r) : q9D cx (.c0 a b m) r := by
 rw [qmM] at h
 obtain ⟨x1, h2, h⟩ := qaH h
 obtain ⟨h3, h⟩ := qbI h
 have h := oinj h; subst h
 exact wkR [rg1, rgG [oo, oo, oo, oo, oo, oo, opI (.call [[0]] [(ti .u32 m)] (ti .u64 x1)), .op .dv, oo, oo]] hn (aC (qh3 h2) <| aC h3 <| aN)
theorem q3H : ∀ K : Nat, q9E K
 | 0, c, r, h => by rw [qmM] at h; cases h
 | K + 1, .c0 .., r, h => fun cx hn => zlI (q3H K) hn h
theorem qe7 {K : Nat} {a : Int} {b : Int} {m : Int} {r : Int} (h : qiF K a b m = some r) : qc5 prog 164 [(ti .u32 a), (ti .u32 b), (ti .u32 m)] (ti .u32 r) :=
 qa0 [[0]] (by kernel_rfl) (by simp) fun cx hn => q3H K (.c0 a b m) r h cx hn
open Go.Proofs.Try (prog)
inductive qr1 where
 | c0 (a : Int) (b : Int) (m : Int)
def qmL : Nat → qr1 → Option Int
 | 0, _ => none
 | K + 1, .c0 a b m =>
  (qlF K m).bind fun x1 =>
  gd (x1 ≠ 0) <|
  gd (x1 ≠ 0) <|
  gd (x1 ≠ 0) <|
  some (wU3 (Int.tmod (wU6 ((wU6 ((Int.tmod (wU6 a) x1) + x1)) - (Int.tmod (wU6 b) x1))) x1))
def qw5 (K : Nat) (a : Int) (b : Int) (m : Int) : Option Int := qmL K (.c0 a b m)
noncomputable def zeU : Code := qbQ prog 184
noncomputable def zhJ : qr1 → List Fr
 | .c0 .. => [.code zeU]
def zlB : qr1 → St
 | .c0 a b m => St.init [(ti .u32 a), (ti .u32 b), (ti .u32 m)]
def q9A (cx : Cx) (c : qr1) (r : Int) : Prop := Wk prog cx (qc2 prog 184 [[0]] (ti .u32 r)) (zhJ c) .normal (zlB c)
abbrev q9B (K : Nat) : Prop := ∀ c r, qmL K c = some r → ∀ cx : Cx, cx.n = 24 → q9A cx c r
theorem zlC {K} (_ : q9B K) {cx} (hn : cx.n = 24) {a b m} {r} (h : qmL (K + 1) (.c0 a b m) = some r) : q9A cx (.c0 a b m) r := by
 rw [qmL] at h
 obtain ⟨x1, h2, h⟩ := qaH h
 obtain ⟨h3, h⟩ := qbI h
 obtain ⟨h4, h⟩ := qbI h
 obtain ⟨h5, h⟩ := qbI h
 have h := oinj h; subst h
 exact wkR [rg1, rgG [oo, opI (.call [[0]] [(ti .u32 m)] (ti .u64 x1)), oo], .draw [.p, .p, .p, .dv, .p, .p, .p, .p, .p, .dv, .p, .p] [.op .dv, .op .p, .op .p]] hn (aC (qh3 h2) <| aC h3 <| aC h4 <| aC h5 <| aN)
theorem q3G : ∀ K : Nat, q9B K
 | 0, c, r, h => by rw [qmL] at h; cases h
 | K + 1, .c0 .., r, h => fun cx hn => zlC (q3G K) hn h
theorem qzH {K : Nat} {a : Int} {b : Int} {m : Int} {r : Int} (h : qw5 K a b m = some r) : qc5 prog 184 [(ti .u32 a), (ti .u32 b), (ti .u32 m)] (ti .u32 r) :=
 qa0 [[0]] (by kernel_rfl) (by simp) fun cx hn => q3G K (.c0 a b m) r h cx hn
open Go.Proofs.Try (prog)
inductive qnF where
 | c0 (f : (List Int)) (g : (List Int)) (p : Int)
 | c1 (r17 : (List Int)) (r45 : (List Int)) (g : (List Int)) (p : Int) (inv : Int) (k : Int)
 | c2 (r17 : (List Int)) (r45 : (List Int)) (g : (List Int)) (p : Int) (inv : Int) (k : Int) (c : Int) (t69 : Int) (t70 : Int)
def qbK : Nat → qnF → Option ((List Int) × (List Int))
 | 0, _ => none
 | K + 1, .c0 f g p =>
  gd (0 ≤ (f.length : Int) ∧ (f.length : Int) ≤ (f.length : Int) ∧ (4 : Int) * (f.length : Int) ≤ 140737488355328) <|
  gd (0 + (f.length : Int).toNat ≤ (List.replicate (f.length : Int).toNat ((0 : Int) : Int)).length) <|
  bif (decide ((f.length : Int) < (g.length : Int))) then
   (qhW K (qeV (List.replicate (f.length : Int).toNat ((0 : Int) : Int)) 0 ((f.length : Int).toNat) f)).bind fun x4 =>
   some ([], x4)
  else
   (gi g (wI6 ((g.length : Int) - (1 : Int)))).bind fun x4 =>
   (qb0 K x4 p).bind fun x6 =>
   gd (0 ≤ (wI6 ((wI6 ((f.length : Int) - (g.length : Int))) + (1 : Int))) ∧ (wI6 ((wI6 ((f.length : Int) - (g.length : Int))) + (1 : Int))) ≤ (wI6 ((wI6 ((f.length : Int) - (g.length : Int))) + (1 : Int))) ∧ (4 : Int) * (wI6 ((wI6 ((f.length : Int) - (g.length : Int))) + (1 : Int))) ≤ 140737488355328) <|
   qbK K (.c1 (qeV (List.replicate (f.length : Int).toNat ((0 : Int) : Int)) 0 ((f.length : Int).toNat) f) (List.replicate (wI6 ((wI6 ((f.length : Int) - (g.length : Int))) + (1 : Int))).toNat ((0 : Int) : Int)) g p x6.1 (wI6 ((((wI6 ((wI6 ((f.length : Int) - (g.length : Int))) + (1 : Int))).toNat : Nat) : Int) - (1 : Int))))
 | K + 1, .c1 r17 r45 g p inv k =>
  bif (decide ((0 : Int) ≤ k)) then
   (gi r17 (wI6 ((wI6 (k + (g.length : Int))) - (1 : Int)))).bind fun x2 =>
   (qiF K x2 inv p).bind fun x4 =>
   (gi r45 k).bind fun _ =>
   qbK K (.c2 r17 (r45.set (k.toNat) x4) g p inv k x4 (g.length : Int) (0 : Int))
  else
   (qhW K r45).bind fun x2 =>
   (qhW K r17).bind fun x4 =>
   some (x2, x4)
 | K + 1, .c2 r17 r45 g p inv k c t69 t70 =>
  bif (decide (t70 < t69)) then
   (gi r17 (wI6 (k + t70))).bind fun x2 =>
   (gi g t70).bind fun x4 =>
   (qiF K c x4 p).bind fun x6 =>
   (qw5 K x2 x6 p).bind fun x8 =>
   (gi r17 (wI6 (k + t70))).bind fun _ =>
   qbK K (.c2 (r17.set ((wI6 (k + t70)).toNat) x8) r45 g p inv k c t69 (wI6 (t70 + (1 : Int))))
  else
   qbK K (.c1 r17 r45 g p inv (wI6 (k - (1 : Int))))
def qc3 (K : Nat) (f : (List Int)) (g : (List Int)) (p : Int) : Option ((List Int) × (List Int)) := qbK K (.c0 f g p)
noncomputable def qgB : Code := qbQ prog 162
noncomputable def q9T : qnF → List Fr
 | .c0 .. => [.code qgB]
 | .c1 .. => [.code (.loop (atC qgB [1,1,1,1,1,1,0,1,0,0])), .blk 0, .code (atC qgB [1,1,1,1,1,1,1])]
 | .c2 .. => [.code (.loop (atC qgB [1,1,1,1,1,1,0,1,0,0,1,0,0,1,1,1,0,0])), .blk 2, .blk 1, .code (atC qgB [1,1,1,1,1,1,0,1,0,0,1,1]), .lp (atC qgB [1,1,1,1,1,1,0,1,0,0]), .blk 0, .code (atC qgB [1,1,1,1,1,1,1])]
def zcL : qnF → St
 | .c0 f g p => St.init [(tl 1 f qaC), (tl 1 g qaC), (ti .u32 p)]
 | .c1 r17 r45 g p inv k => ⟨[(1, vl 1 g qaC), (2, vi .u32 p), (8, .c (C.row 17 0 r17.length)), (9, vi .u32 inv), (11, .c (C.row 45 0 r45.length)), (12, vi .i64 k)], [(17, .row 101 1 (r17.map qaC) 0), (45, .row 101 1 (r45.map qaC) 0)], []⟩
 | .c2 r17 r45 g p inv k c t69 t70 => ⟨[(1, vl 1 g qaC), (2, vi .u32 p), (8, .c (C.row 17 0 r17.length)), (9, vi .u32 inv), (11, .c (C.row 45 0 r45.length)), (12, vi .i64 k), (13, vi .u32 c), (69, vi .i64 t69), (70, vi .i64 t70)], [(17, .row 101 1 (r17.map qaC) 0), (45, .row 101 1 (r45.map qaC) 0)], []⟩
def qp7 (cx : Cx) (c : qnF) (r : ((List Int) × (List Int))) : Prop := Wk prog cx (qc2 prog 162 [[1], [1]] (TV.tup [(false, [(T.sl 1 (r.1.map qaC))]), (false, [(T.sl 1 (r.2.map qaC))])])) (q9T c) .normal (zcL c)
abbrev qp8 (K : Nat) : Prop := ∀ c r, qbK K c = some r → ∀ cx : Cx, cx.n = 98 → qp7 cx c r
theorem zcO {K} (ih : qp8 K) {cx} (hn : cx.n = 98) {f g p} {r} (h : qbK (K + 1) (.c0 f g p) = some r) : qp7 cx (.c0 f g p) r := by
 rw [qbK] at h
 obtain ⟨h1, h⟩ := qbI h
 obtain ⟨h2, h⟩ := qbI h
 rcases qaQ h with ⟨h3, h⟩ | ⟨h3, h⟩
 ·obtain ⟨x4, h5, h⟩ := qaH h
  have h := oinj h; subst h
  exact wkR [rg2, rgG [oo, opI (.ln (f.length : Int)), opI (.mk (qaC (0 : Int)) ((List.replicate (f.length : Int).toNat ((0 : Int) : Int)).map qaC)), oo], rgG [oo, oo, opI (.cp (f.map qaC) ((qeV (List.replicate (f.length : Int).toNat ((0 : Int) : Int)) 0 ((f.length : Int).toNat) f).map qaC) ((min f.length ((f.length : Int).toNat) : Nat) : Int))], rgG [oo, opI (.ln (f.length : Int)), oo, opI (.ln (g.length : Int)), oo], bTr, rgG [oo, .snap 26 (max 0 (0 + (f.length : Int).toNat)) ((qeV (List.replicate (f.length : Int).toNat ((0 : Int) : Int)) 0 ((f.length : Int).toNat) f).map qaC), opI (.call [[1]] [(TV.c (T.sl 1 ((qeV (List.replicate (f.length : Int).toNat ((0 : Int) : Int)) 0 ((f.length : Int).toNat) f).map qaC)))] (tl 1 x4 qaC)), oo, oo]] hn (aC (qaX f qaC) <| aC h1.1 <| aC h1.2.1 <| aC h1.2.2 <| aC (qgM _ _ _ : List.replicate (f.length : Int).toNat (qaC (0 : Int)) = (List.replicate (f.length : Int).toNat ((0 : Int) : Int)).map qaC) <| aC (rfl : f.map qaC = f.map qaC) <| aC (qt9 _ _ _ _ _ h2 : qbW ((List.replicate (f.length : Int).toNat ((0 : Int) : Int)).map qaC) 0 ((f.map qaC).take (min (f.map qaC).length ((f.length : Int).toNat))) = (qeV (List.replicate (f.length : Int).toNat ((0 : Int) : Int)) 0 ((f.length : Int).toNat) f).map qaC) <| aC (by rw [qeF] : ((min (f.map qaC).length ((f.length : Int).toNat) : Nat) : Int) = ((min f.length ((f.length : Int).toNat) : Nat) : Int)) <| aC (qaX f qaC) <| aC (qaX g qaC) <| aC h3 <| aC (qbJ _ _ _ (by simp) : (((qeV (List.replicate (f.length : Int).toNat ((0 : Int) : Int)) 0 ((f.length : Int).toNat) f).map qaC).drop 0).take ((f.length : Int).toNat) = (qeV (List.replicate (f.length : Int).toNat ((0 : Int) : Int)) 0 ((f.length : Int).toNat) f).map qaC) <| aC (rfl : (max 0 (0 + (f.length : Int).toNat)) = (max 0 (0 + (f.length : Int).toNat))) <| aC (qf2 h5) <| aN)
 ·obtain ⟨x4, h5, h⟩ := qaH h
  obtain ⟨x6, h7, h⟩ := qaH h
  obtain ⟨h8, h⟩ := qbI h
  exact wkG [rg2, rgG [oo, opI (.ln (f.length : Int)), opI (.mk (qaC (0 : Int)) ((List.replicate (f.length : Int).toNat ((0 : Int) : Int)).map qaC)), oo], rgG [oo, oo, opI (.cp (f.map qaC) ((qeV (List.replicate (f.length : Int).toNat ((0 : Int) : Int)) 0 ((f.length : Int).toNat) f).map qaC) ((min f.length ((f.length : Int).toNat) : Nat) : Int))], rgG [oo, opI (.ln (f.length : Int)), oo, opI (.ln (g.length : Int)), oo], bFa, rgG [oo, oo, opI (.ln (g.length : Int)), oo, opI (.ix (qaC x4)), oo, oo, opI (.call [[0], [0]] [(ti .u32 x4), (ti .u32 p)] (TV.tup [(false, [(T.int .u32 x6.1)]), (false, [(T.int .i64 x6.2)])])), oo, oo, oo, oo, oo], rgG [oo, opI (.ln (f.length : Int)), oo, opI (.ln (g.length : Int)), oo, oo, opI (.mk (qaC (0 : Int)) ((List.replicate (wI6 ((wI6 ((f.length : Int) - (g.length : Int))) + (1 : Int))).toNat ((0 : Int) : Int)).map qaC)), oo], rg4, .pre [.rl 8 0 (qeV (List.replicate (f.length : Int).toNat ((0 : Int) : Int)) 0 ((f.length : Int).toNat) f).length, .rl 11 0 (List.replicate (wI6 ((wI6 ((f.length : Int) - (g.length : Int))) + (1 : Int))).toNat ((0 : Int) : Int)).length, .keep [1,2,8,9,11,12] [17,45]]] hn (aC (qaX f qaC) <| aC h1.1 <| aC h1.2.1 <| aC h1.2.2 <| aC (qgM _ _ _ : List.replicate (f.length : Int).toNat (qaC (0 : Int)) = (List.replicate (f.length : Int).toNat ((0 : Int) : Int)).map qaC) <| aC (rfl : f.map qaC = f.map qaC) <| aC (qt9 _ _ _ _ _ h2 : qbW ((List.replicate (f.length : Int).toNat ((0 : Int) : Int)).map qaC) 0 ((f.map qaC).take (min (f.map qaC).length ((f.length : Int).toNat))) = (qeV (List.replicate (f.length : Int).toNat ((0 : Int) : Int)) 0 ((f.length : Int).toNat) f).map qaC) <| aC (by rw [qeF] : ((min (f.map qaC).length ((f.length : Int).toNat) : Nat) : Int) = ((min f.length ((f.length : Int).toNat) : Nat) : Int)) <| aC (qaX f qaC) <| aC (qaX g qaC) <| aC h3 <| aC (qaX g qaC) <| aC (qa1 h5) <| aC (qbS qaC h5) <| aC (qdI h7) <| aC (qaX f qaC) <| aC (qaX g qaC) <| aC h8.1 <| aC h8.2.1 <| aC h8.2.2 <| aC (qgM _ _ _ : List.replicate (wI6 ((wI6 ((f.length : Int) - (g.length : Int))) + (1 : Int))).toNat (qaC (0 : Int)) = (List.replicate (wI6 ((wI6 ((f.length : Int) - (g.length : Int))) + (1 : Int))).toNat ((0 : Int) : Int)).map qaC) <| aC r0 <| aC (by simp : (f.length : Int).toNat = (qeV (List.replicate (f.length : Int).toNat ((0 : Int) : Int)) 0 ((f.length : Int).toNat) f).length) <| aC r0 <| aC (by simp : (wI6 ((wI6 ((f.length : Int) - (g.length : Int))) + (1 : Int))).toNat = (List.replicate (wI6 ((wI6 ((f.length : Int) - (g.length : Int))) + (1 : Int))).toNat ((0 : Int) : Int)).length) <| aN) (ih _ _ h cx hn)
theorem zcN {K} (ih : qp8 K) {cx} (hn : cx.n = 98) {r17 r45 g p inv k} {r} (h : qbK (K + 1) (.c1 r17 r45 g p inv k) = some r) : qp7 cx (.c1 r17 r45 g p inv k) r := by
 rw [qbK] at h
 rcases qaQ h with ⟨h1, h⟩ | ⟨h1, h⟩
 ·obtain ⟨x2, h3, h⟩ := qaH h
  obtain ⟨x4, h5, h⟩ := qaH h
  obtain ⟨x6, h7, h⟩ := qaH h
  exact wkG [.go, rg2, bTr, rgG [oo, oo, oo, opI (.ln (g.length : Int)), oo, oo, .op .ir, opI (.ld (qaC x2)), oo, oo, opI (.call [[0], [0], [0]] [(ti .u32 x2), (ti .u32 inv), (ti .u32 p)] (ti .u32 x4)), oo], rgG [oo, oo, oo, .op .ir, opI (.st (qaC x6) ((r45.set (k.toNat) x4).map qaC))], rgG [oo, opI (.ln (g.length : Int)), oo], .pre [.rl 8 0 r17.length, .rl 11 0 (r45.set (k.toNat) x4).length, .keep [1,2,8,9,11,12,13,69,70] [17,45]]] hn (aC h1 <| aC (qaX g qaC) <| aC (qa1 h3) <| aC (qcB h3 (by simp) : (wI6 ((wI6 (k + (g.length : Int))) - (1 : Int))) < ((r17.length : Nat) : Int)) <| aC (qcA qaC h3 : (r17.map qaC)[(0 + (wI6 ((wI6 (k + (g.length : Int))) - (1 : Int))).toNat)]? = some (qaC x2)) <| aC (qe7 h5) <| aC (qa1 h7) <| aC (qcB h7 (by simp) : k < ((r45.length : Nat) : Int)) <| aC (qcA qaC h7 : (r45.map qaC)[(0 + k.toNat)]? = some (qaC x6)) <| aC (qc4 _ _ x4 _ : (r45.map qaC).set (0 + k.toNat) (qbW (qaC x6) 0 [(T.int .u32 x4)]) = (r45.set (k.toNat) x4).map qaC) <| aC (Nat.zero_le _ : 0 ≤ (0 + k.toNat)) <| aC (qaX g qaC) <| aC r0 <| aC (lq r17) <| aC r0 <| aC (by simp : r45.length = (r45.set (k.toNat) x4).length) <| aN) (ih _ _ h cx hn)
 ·obtain ⟨x2, h3, h⟩ := qaH h
  obtain ⟨x4, h5, h⟩ := qaH h
  have h := oinj h; subst h
  exact wkR [.go, rg2, bFa, rgG [oo, .snap 94 (max 0 (0 + r45.length)) (r45.map qaC), opI (.call [[1]] [(tl 1 r45 qaC)] (tl 1 x2 qaC)), oo, .snap 96 (max 0 (0 + r17.length)) (r17.map qaC), opI (.call [[1]] [(tl 1 r17 qaC)] (tl 1 x4 qaC)), oo, oo]] hn (aC h1 <| aC (qbJ _ _ _ (by simp) : ((r45.map qaC).drop 0).take r45.length = r45.map qaC) <| aC (rfl : (max 0 (0 + r45.length)) = (max 0 (0 + r45.length))) <| aC (qf2 h3) <| aC (qbJ _ _ _ (by simp) : ((r17.map qaC).drop 0).take r17.length = r17.map qaC) <| aC (rfl : (max 0 (0 + r17.length)) = (max 0 (0 + r17.length))) <| aC (qf2 h5) <| aN)
theorem zcM {K} (ih : qp8 K) {cx} (hn : cx.n = 98) {r17 r45 g p inv k c t69 t70} {r} (h : qbK (K + 1) (.c2 r17 r45 g p inv k c t69 t70) = some r) : qp7 cx (.c2 r17 r45 g p inv k c t69 t70) r := by
 rw [qbK] at h
 rcases qaQ h with ⟨h1, h⟩ | ⟨h1, h⟩
 ·obtain ⟨x2, h3, h⟩ := qaH h
  obtain ⟨x4, h5, h⟩ := qaH h
  obtain ⟨x6, h7, h⟩ := qaH h
  obtain ⟨x8, h9, h⟩ := qaH h
  obtain ⟨x10, h11, h⟩ := qaH h
  exact wkG [.go, rg1, bTr, rg2, .draw [.p, .p, .p, .p, .p, .p, .p, .p, .ir, (.ld (qaC x2)), .p, .p, .p, (.ix (qaC x4)), .p, .p, (.call [[0], [0], [0]] [(ti .u32 c), (ti .u32 x4), (ti .u32 p)] (ti .u32 x6)), .p, (.call [[0], [0], [0]] [(ti .u32 x2), (ti .u32 x6), (ti .u32 p)] (ti .u32 x8))] [.op .ir, opI (.st (qaC x10) ((r17.set ((wI6 (k + t70)).toNat) x8).map qaC))], rg2, .pre [.rl 8 0 (r17.set ((wI6 (k + t70)).toNat) x8).length, .rl 11 0 r45.length, .keep [1,2,8,9,11,12,13,69,70] [17,45]]] hn (aC h1 <| aC (qa1 h3) <| aC (qcB h3 (by simp) : (wI6 (k + t70)) < ((r17.length : Nat) : Int)) <| aC (qcA qaC h3 : (r17.map qaC)[(0 + (wI6 (k + t70)).toNat)]? = some (qaC x2)) <| aC (qa1 h5) <| aC (qbS qaC h5) <| aC (qe7 h7) <| aC (qzH h9) <| aC (qa1 h11) <| aC (qcB h11 (by simp) : (wI6 (k + t70)) < ((r17.length : Nat) : Int)) <| aC (qcA qaC h11 : (r17.map qaC)[(0 + (wI6 (k + t70)).toNat)]? = some (qaC x10)) <| aC (qc4 _ _ x8 _ : (r17.map qaC).set (0 + (wI6 (k + t70)).toNat) (qbW (qaC x10) 0 [(T.int .u32 x8)]) = (r17.set ((wI6 (k + t70)).toNat) x8).map qaC) <| aC (Nat.zero_le _ : 0 ≤ (0 + (wI6 (k + t70)).toNat)) <| aC r0 <| aC (by simp : r17.length = (r17.set ((wI6 (k + t70)).toNat) x8).length) <| aC r0 <| aC (lq r45) <| aN) (ih _ _ h cx hn)
 ·exact wkG [.go, rg1, bFa, rg3, .pre [.rl 8 0 r17.length, .rl 11 0 r45.length, .keep [1,2,8,9,11,12] [17,45]]] hn (aC h1 <| aC r0 <| aC (lq r17) <| aC r0 <| aC (lq r45) <| aN) (ih _ _ h cx hn)
theorem qnE : ∀ K : Nat, qp8 K
 | 0, c, r, h => by rw [qbK] at h; cases h
 | K + 1, .c0 .., r, h => fun cx hn => zcO (qnE K) hn h
 | K + 1, .c1 .., r, h => fun cx hn => zcN (qnE K) hn h
 | K + 1, .c2 .., r, h => fun cx hn => zcM (qnE K) hn h
theorem qcY {K : Nat} {f : (List Int)} {g : (List Int)} {p : Int} {r : ((List Int) × (List Int))} (h : qc3 K f g p = some r) : qc5 prog 162 [(tl 1 f qaC), (tl 1 g qaC), (ti .u32 p)] (TV.tup [(false, [(T.sl 1 (r.1.map qaC))]), (false, [(T.sl 1 (r.2.map qaC))])]) :=
 qa0 [[1], [1]] (by kernel_rfl) (by simp) fun cx hn => qnE K (.c0 f g p) r h cx hn
open Go.Proofs.Try (prog)
inductive qoT where
 | c0 (f : (List Int)) (c : Int) (m : Int)
 | c1 (r12 : (List Int)) (c : Int) (m : Int) (t13 : (List Int)) (t14 : Int) (t15 : Int)
def qd7 : Nat → qoT → Option (List Int)
 | 0, _ => none
 | K + 1, .c0 f c m =>
  gd (0 ≤ (f.length : Int) ∧ (f.length : Int) ≤ (f.length : Int) ∧ (4 : Int) * (f.length : Int) ≤ 140737488355328) <|
  qd7 K (.c1 (List.replicate (f.length : Int).toNat ((0 : Int) : Int)) c m f (f.length : Int) (0 : Int))
 | K + 1, .c1 r12 c m t13 t14 t15 =>
  bif (decide (t15 < t14)) then
   (gi t13 t15).bind fun x2 =>
   (qiF K x2 c m).bind fun x4 =>
   (gi r12 t15).bind fun _ =>
   qd7 K (.c1 (r12.set (t15.toNat) x4) c m t13 t14 (wI6 (t15 + (1 : Int))))
  else
   (qhW K r12).bind fun x2 =>
   some x2
def qeC (K : Nat) (f : (List Int)) (c : Int) (m : Int) : Option (List Int) := qd7 K (.c0 f c m)
noncomputable def qr9 : Code := qbQ prog 156
noncomputable def zcQ : qoT → List Fr
 | .c0 .. => [.code qr9]
 | .c1 .. => [.code (.loop (atC qr9 [1,1,0,1,0,0])), .blk 0, .code (atC qr9 [1,1,1])]
def ze1 : qoT → St
 | .c0 f c m => St.init [(tl 1 f qaC), (ti .u32 c), (ti .u32 m)]
 | .c1 r12 c m t13 t14 t15 => ⟨[(1, vi .u32 c), (2, vi .u32 m), (7, .c (C.row 12 0 r12.length)), (13, vl 1 t13 qaC), (14, vi .i64 t14), (15, vi .i64 t15)], [(12, .row 101 1 (r12.map qaC) 0)], []⟩
def qxB (cx : Cx) (c : qoT) (r : (List Int)) : Prop := Wk prog cx (qc2 prog 156 [[1]] (tl 1 r qaC)) (zcQ c) .normal (ze1 c)
abbrev qxC (K : Nat) : Prop := ∀ c r, qd7 K c = some r → ∀ cx : Cx, cx.n = 30 → qxB cx c r
theorem ze3 {K} (ih : qxC K) {cx} (hn : cx.n = 30) {f c m} {r} (h : qd7 (K + 1) (.c0 f c m) = some r) : qxB cx (.c0 f c m) r := by
 rw [qd7] at h
 obtain ⟨h1, h⟩ := qbI h
 exact wkG [rg1, rgG [oo, opI (.ln (f.length : Int)), opI (.mk (qaC (0 : Int)) ((List.replicate (f.length : Int).toNat ((0 : Int) : Int)).map qaC)), oo], rgG [oo, opI (.ln (f.length : Int)), oo], .pre [.rl 7 0 (List.replicate (f.length : Int).toNat ((0 : Int) : Int)).length, .keep [1,2,7,13,14,15] [12]]] hn (aC (qaX f qaC) <| aC h1.1 <| aC h1.2.1 <| aC h1.2.2 <| aC (qgM _ _ _ : List.replicate (f.length : Int).toNat (qaC (0 : Int)) = (List.replicate (f.length : Int).toNat ((0 : Int) : Int)).map qaC) <| aC (qaX f qaC) <| aC r0 <| aC (by simp : (f.length : Int).toNat = (List.replicate (f.length : Int).toNat ((0 : Int) : Int)).length) <| aN) (ih _ _ h cx hn)
theorem ze2 {K} (ih : qxC K) {cx} (hn : cx.n = 30) {r12 c m t13 t14 t15} {r} (h : qd7 (K + 1) (.c1 r12 c m t13 t14 t15) = some r) : qxB cx (.c1 r12 c m t13 t14 t15) r := by
 rw [qd7] at h
 rcases qaQ h with ⟨h1, h⟩ | ⟨h1, h⟩
 ·obtain ⟨x2, h3, h⟩ := qaH h
  obtain ⟨x4, h5, h⟩ := qaH h
  obtain ⟨x6, h7, h⟩ := qaH h
  exact wkG [.go, rg1, bTr, rgG [oo, opI (.ix (qaC x2)), oo, oo, oo], rgG [oo, oo, oo, oo, oo, opI (.call [[0], [0], [0]] [(ti .u32 x2), (ti .u32 c), (ti .u32 m)] (ti .u32 x4)), .op .ir, opI (.st (qaC x6) ((r12.set (t15.toNat) x4).map qaC))], rg2, .pre [.rl 7 0 (r12.set (t15.toNat) x4).length, .keep [1,2,7,13,14,15] [12]]] hn (aC h1 <| aC (qa1 h3) <| aC (qbS qaC h3) <| aC (qe7 h5) <| aC (qa1 h7) <| aC (qcB h7 (by simp) : t15 < ((r12.length : Nat) : Int)) <| aC (qcA qaC h7 : (r12.map qaC)[(0 + t15.toNat)]? = some (qaC x6)) <| aC (qc4 _ _ x4 _ : (r12.map qaC).set (0 + t15.toNat) (qbW (qaC x6) 0 [(T.int .u32 x4)]) = (r12.set (t15.toNat) x4).map qaC) <| aC (Nat.zero_le _ : 0 ≤ (0 + t15.toNat)) <| aC r0 <| aC (by simp : r12.length = (r12.set (t15.toNat) x4).length) <| aN) (ih _ _ h cx hn)
 ·obtain ⟨x2, h3, h⟩ := qaH h
  have h := oinj h; subst h
  exact wkR [.go, rg1, bFa, rgG [oo, .snap 28 (max 0 (0 + r12.length)) (r12.map qaC), opI (.call [[1]] [(tl 1 r12 qaC)] (tl 1 x2 qaC)), oo]] hn (aC h1 <| aC (qbJ _ _ _ (by simp) : ((r12.map qaC).drop 0).take r12.length = r12.map qaC) <| aC (rfl : (max 0 (0 + r12.length)) = (max 0 (0 + r12.length))) <| aC (qf2 h3) <| aN)
theorem qtU : ∀ K : Nat, qxC K
 | 0, c, r, h => by rw [qd7] at h; cases h
 | K + 1, .c0 .., r, h => fun cx hn => ze3 (qtU K) hn h
 | K + 1, .c1 .., r, h => fun cx hn => ze2 (qtU K) hn h
theorem qdL {K : Nat} {f : (List Int)} {c : Int} {m : Int} {r : (List Int)} (h : qeC K f c m = some r) : qc5 prog 156 [(tl 1 f qaC), (ti .u32 c), (ti .u32 m)] (tl 1 r qaC) :=
 qa0 [[1]] (by kernel_rfl) (by simp) fun cx hn => qtU K (.c0 f c m) r h cx hn
open Go.Proofs.Try (prog)
inductive qoQ where
 | c0 (f : (List Int)) (p : Int)
def qg1 : Nat → qoQ → Option (List Int)
 | 0, _ => none
 | K + 1, .c0 f p =>
  bif (decide ((f.length : Int) = (0 : Int))) then
   some []
  else
   (gi f (wI6 ((f.length : Int) - (1 : Int)))).bind fun x2 =>
   (qb0 K x2 p).bind fun x4 =>
   (qeC K f x4.1 p).bind fun x6 =>
   some x6
def qj1 (K : Nat) (f : (List Int)) (p : Int) : Option (List Int) := qg1 K (.c0 f p)
noncomputable def q9N : Code := qbQ prog 179
noncomputable def zcK : qoQ → List Fr
 | .c0 .. => [.code q9N]
def zeY : qoQ → St
 | .c0 f p => St.init [(tl 1 f qaC), (ti .u32 p)]
def q3L (cx : Cx) (c : qoQ) (r : (List Int)) : Prop := Wk prog cx (qc2 prog 179 [[1]] (tl 1 r qaC)) (zcK c) .normal (zeY c)
abbrev q3M (K : Nat) : Prop := ∀ c r, qg1 K c = some r → ∀ cx : Cx, cx.n = 25 → q3L cx c r
theorem zeZ {K} (_ : q3M K) {cx} (hn : cx.n = 25) {f p} {r} (h : qg1 (K + 1) (.c0 f p) = some r) : q3L cx (.c0 f p) r := by
 rw [qg1] at h
 rcases qaQ h with ⟨h1, h⟩ | ⟨h1, h⟩
 ·have h := oinj h; subst h
  exact wkR [rg1, rgG [oo, opI (.ln (f.length : Int)), oo], bTr, rg1] hn (aC (qaX f qaC) <| aC h1 <| aN)
 ·obtain ⟨x2, h3, h⟩ := qaH h
  obtain ⟨x4, h5, h⟩ := qaH h
  obtain ⟨x6, h7, h⟩ := qaH h
  have h := oinj h; subst h
  exact wkR [rg1, rgG [oo, opI (.ln (f.length : Int)), oo], bFa, rgG [oo, oo, opI (.ln (f.length : Int)), oo, opI (.ix (qaC x2)), oo, oo, opI (.call [[0], [0]] [(ti .u32 x2), (ti .u32 p)] (TV.tup [(false, [(T.int .u32 x4.1)]), (false, [(T.int .i64 x4.2)])])), oo, oo, oo, oo, oo], rgG [oo, oo, oo, opI (.call [[1], [0], [0]] [(tl 1 f qaC), (ti .u32 x4.1), (ti .u32 p)] (tl 1 x6 qaC)), oo]] hn (aC (qaX f qaC) <| aC h1 <| aC (qaX f qaC) <| aC (qa1 h3) <| aC (qbS qaC h3) <| aC (qdI h5) <| aC (qdL h7) <| aN)
theorem qzJ : ∀ K : Nat, q3M K
 | 0, c, r, h => by rw [qg1] at h; cases h
 | K + 1, .c0 .., r, h => fun cx hn => zeZ (qzJ K) hn h
theorem qw7 {K : Nat} {f : (List Int)} {p : Int} {r : (List Int)} (h : qj1 K f p = some r) : qc5 prog 179 [(tl 1 f qaC), (ti .u32 p)] (tl 1 r qaC) :=
 qa0 [[1]] (by kernel_rfl) (by simp) fun cx hn => qzJ K (.c0 f p) r h cx hn
open Go.Proofs.Try (prog)
inductive qr7 where
 | c0 (f : (List Int)) (g : (List Int)) (p : Int)
 | c1 (f : (List Int)) (g : (List Int)) (p : Int)
def qe8 : Nat → qr7 → Option (List Int)
 | 0, _ => none
 | K + 1, .c0 f g p =>
  qe8 K (.c1 f g p)
 | K + 1, .c1 f g p =>
  bif (decide ((0 : Int) < (g.length : Int))) then
   (qc3 K f g p).bind fun x2 =>
   qe8 K (.c1 g x2.2 p)
  else
   (qj1 K f p).bind fun x2 =>
   some x2
def qw9 (K : Nat) (f : (List Int)) (g : (List Int)) (p : Int) : Option (List Int) := qe8 K (.c0 f g p)
noncomputable def qvM : Code := qbQ prog 165
noncomputable def zhS : qr7 → List Fr
 | .c0 .. => [.code qvM]
 | .c1 .. => [.code (.loop (atC qvM [1,0,0,0])), .blk 0, .code (atC qvM [1,1])]
def zlL : qr7 → St
 | .c0 f g p => St.init [(tl 1 f qaC), (tl 1 g qaC), (ti .u32 p)]
 | .c1 f g p => ⟨[(0, vl 1 f qaC), (1, vl 1 g qaC), (2, vi .u32 p)], [], []⟩
def q0Z (cx : Cx) (c : qr7) (r : (List Int)) : Prop := Wk prog cx (qc2 prog 165 [[1]] (tl 1 r qaC)) (zhS c) .normal (zlL c)
abbrev q00 (K : Nat) : Prop := ∀ c r, qe8 K c = some r → ∀ cx : Cx, cx.n = 24 → q0Z cx c r
theorem zlN {K} (ih : q00 K) {cx} (hn : cx.n = 24) {f g p} {r} (h : qe8 (K + 1) (.c0 f g p) = some r) : q0Z cx (.c0 f g p) r := by
 rw [qe8] at h
 exact zrC (fuel := 48) [rg1, .pre [.keep [0,1,2] []]] _ hn (by kernel_rfl) aN (ih _ _ h cx hn)
theorem zlM {K} (ih : q00 K) {cx} (hn : cx.n = 24) {f g p} {r} (h : qe8 (K + 1) (.c1 f g p) = some r) : q0Z cx (.c1 f g p) r := by
 rw [qe8] at h
 rcases qaQ h with ⟨h1, h⟩ | ⟨h1, h⟩
 ·obtain ⟨x2, h3, h⟩ := qaH h
  exact wkG [.go, rgG [oo, opI (.ln (g.length : Int)), oo], bTr, rgG [oo, oo, oo, opI (.call [[1], [1], [0]] [(tl 1 f qaC), (tl 1 g qaC), (ti .u32 p)] (TV.tup [(false, [(T.sl 1 (x2.1.map qaC))]), (false, [(T.sl 1 (x2.2.map qaC))])])), oo, oo, oo, oo, oo], rg4, .pre [.keep [0,1,2] []]] hn (aC (qaX g qaC) <| aC h1 <| aC (qcY h3) <| aN) (ih _ _ h cx hn)
 ·obtain ⟨x2, h3, h⟩ := qaH h
  have h := oinj h; subst h
  exact wkR [.go, rgG [oo, opI (.ln (g.length : Int)), oo], bFa, rgG [oo, oo, opI (.call [[1], [0]] [(tl 1 f qaC), (ti .u32 p)] (tl 1 x2 qaC)), oo]] hn (aC (qaX g qaC) <| aC h1 <| aC (qw7 h3) <| aN)
theorem qw8 : ∀ K : Nat, q00 K
 | 0, c, r, h => by rw [qe8] at h; cases h
 | K + 1, .c0 .., r, h => fun cx hn => zlN (qw8 K) hn h
 | K + 1, .c1 .., r, h => fun cx hn => zlM (qw8 K) hn h
theorem qk0 {K : Nat} {f : (List Int)} {g : (List Int)} {p : Int} {r : (List Int)} (h : qw9 K f g p = some r) : qc5 prog 165 [(tl 1 f qaC), (tl 1 g qaC), (ti .u32 p)] (tl 1 r qaC) :=
 qa0 [[1]] (by kernel_rfl) (by simp) fun cx hn => qw8 K (.c0 f g p) r h cx hn
open Go.Proofs.Try (prog)
inductive qr3 where
 | c0 (a : Int) (n : Int) (m : Int)
 | c1 (n : Int) (m : Int) (out : Int) (base : Int)
 | c2 (n : Int) (m : Int) (out : Int) (base : Int)
def qe6 : Nat → qr3 → Option Int
 | 0, _ => none
 | K + 1, .c0 a n m =>
  (qiF K (1 : Int) (1 : Int) m).bind fun x1 =>
  qe6 K (.c1 n m x1 a)
 | K + 1, .c1 n m out base =>
  bif (decide ((0 : Int) < n)) then
   bif (decide ((bits .and .u64 n (1 : Int)) = (1 : Int))) then
    (qiF K out base m).bind fun x3 =>
    (qiF K base base m).bind fun x5 =>
    qe6 K (.c2 n m x3 x5)
   else
    (qiF K base base m).bind fun x3 =>
    qe6 K (.c2 n m out x3)
  else
   some out
 | K + 1, .c2 n m out base =>
  qe6 K (.c1 (qd2 .u64 n (1 : Int)) m out base)
def zhL (K : Nat) (a : Int) (n : Int) (m : Int) : Option Int := qe6 K (.c0 a n m)
noncomputable def qjU : Code := qbQ prog 178
noncomputable def zhK : qr3 → List Fr
 | .c0 .. => [.code qjU]
 | .c1 .. => [.code (.loop (atC qjU [1,1,0,1,0,0])), .blk 0, .code (atC qjU [1,1,1])]
 | .c2 .. => [.code (atC qjU [1,1,0,1,0,0,1,1]), .lp (atC qjU [1,1,0,1,0,0]), .blk 0, .code (atC qjU [1,1,1])]
def zlD : qr3 → St
 | .c0 a n m => St.init [(ti .u32 a), (ti .u64 n), (ti .u32 m)]
 | .c1 n m out base => ⟨[(1, vi .u64 n), (2, vi .u32 m), (7, vi .u32 out), (8, vi .u32 base)], [], []⟩
 | .c2 n m out base => ⟨[(1, vi .u64 n), (2, vi .u32 m), (7, vi .u32 out), (8, vi .u32 base)], [], []⟩
def qwA (cx : Cx) (c : qr3) (r : Int) : Prop := Wk prog cx (qc2 prog 178 [[0]] (ti .u32 r)) (zhK c) .normal (zlD c)
abbrev qwB (K : Nat) : Prop := ∀ c r, qe6 K c = some r → ∀ cx : Cx, cx.n = 28 → qwA cx c r
theorem zlG {K} (ih : qwB K) {cx} (hn : cx.n = 28) {a n m} {r} (h : qe6 (K + 1) (.c0 a n m) = some r) : qwA cx (.c0 a n m) r := by
 rw [qe6] at h
 obtain ⟨x1, h2, h⟩ := qaH h
 exact wkG [rg1, rgG [oo, opI (.call [[0], [0], [0]] [(TV.c (T.int .u32 (1 : Int))), (TV.c (T.int .u32 (1 : Int))), (ti .u32 m)] (ti .u32 x1)), oo], rg2, .pre [.keep [1,2,7,8] []]] hn (aC (qe7 h2) <| aN) (ih _ _ h cx hn)
theorem zlF {K} (ih : qwB K) {cx} (hn : cx.n = 28) {n m out base} {r} (h : qe6 (K + 1) (.c1 n m out base) = some r) : qwA cx (.c1 n m out base) r := by
 rw [qe6] at h
 rcases qaQ h with ⟨h1, h⟩ | ⟨h1, h⟩
 ·rcases qaQ h with ⟨h2, h⟩ | ⟨h2, h⟩
  ·obtain ⟨x3, h4, h⟩ := qaH h
   obtain ⟨x5, h6, h⟩ := qaH h
   exact wkG [.go, rg2, bTr, rg3, bTr, rgG [oo, oo, oo, opI (.call [[0], [0], [0]] [(ti .u32 out), (ti .u32 base), (ti .u32 m)] (ti .u32 x3)), oo], rgG [oo, oo, oo, opI (.call [[0], [0], [0]] [(ti .u32 base), (ti .u32 base), (ti .u32 m)] (ti .u32 x5)), oo], .pre [.keep [1,2,7,8] []]] hn (aC h1 <| aC h2 <| aC (qe7 h4) <| aC (qe7 h6) <| aN) (ih _ _ h cx hn)
  ·obtain ⟨x3, h4, h⟩ := qaH h
   exact wkG [.go, rg2, bTr, rg3, bFa, rgG [oo, oo, oo, opI (.call [[0], [0], [0]] [(ti .u32 base), (ti .u32 base), (ti .u32 m)] (ti .u32 x3)), oo], .pre [.keep [1,2,7,8] []]] hn (aC h1 <| aC h2 <| aC (qe7 h4) <| aN) (ih _ _ h cx hn)
 ·have h := oinj h; subst h
  exact wkR [.go, rg2, bFa, rg2] hn (aC h1 <| aN)
theorem zlE {K} (ih : qwB K) {cx} (hn : cx.n = 28) {n m out base} {r} (h : qe6 (K + 1) (.c2 n m out base) = some r) : qwA cx (.c2 n m out base) r := by
 rw [qe6] at h
 exact zrC (fuel := 44) [rg3, .pre [.keep [1,2,7,8] []]] _ hn (by kernel_rfl) aN (ih _ _ h cx hn)
theorem qr2 : ∀ K : Nat, qwB K
 | 0, c, r, h => by rw [qe6] at h; cases h
 | K + 1, .c0 .., r, h => fun cx hn => zlG (qr2 K) hn h
 | K + 1, .c1 .., r, h => fun cx hn => zlF (qr2 K) hn h
 | K + 1, .c2 .., r, h => fun cx hn => zlE (qr2 K) hn h
theorem qoP {K : Nat} {a : Int} {n : Int} {m : Int} {r : Int} (h : zhL K a n m = some r) : qc5 prog 178 [(ti .u32 a), (ti .u64 n), (ti .u32 m)] (ti .u32 r) :=
 qa0 [[0]] (by kernel_rfl) (by simp) fun cx hn => qr2 K (.c0 a n m) r h cx hn
open Go.Proofs.Try (prog)
inductive qlQ where
 | c0 (n : Int) (d : Int) (s : Int) (b : Int)
 | c1 (n : Int) (x : Int) (t30 : Int) (t31 : Int)
def qfF : Nat → qlQ → Option Bool
 | 0, _ => none
 | K + 1, .c0 n d s b =>
  (zhL K b (wU6 d) n).bind fun x1 =>
  bif (decide (x1 = (1 : Int))) then
   some false
  else
   bif (decide (x1 = (wU3 (n - (1 : Int))))) then
    some false
   else
    gd (n ≠ 0) <|
    bif (decide ((Int.tmod b n) = (0 : Int))) then
     some false
    else
     qfF K (.c1 n x1 (wI6 (s - (1 : Int))) (0 : Int))
 | K + 1, .c1 n x t30 t31 =>
  bif (decide (t31 < t30)) then
   (qiF K x x n).bind fun x2 =>
   bif (decide (x2 = (wU3 (n - (1 : Int))))) then
    some false
   else
    qfF K (.c1 n x2 t30 (wI6 (t31 + (1 : Int))))
  else
   some true
def qr0 (K : Nat) (n : Int) (d : Int) (s : Int) (b : Int) : Option Bool := qfF K (.c0 n d s b)
noncomputable def qpE : Code := qbQ prog 153
noncomputable def q7B : qlQ → List Fr
 | .c0 .. => [.code qpE]
 | .c1 .. => [.code (.loop (atC qpE [1,1,1,0,1,0,0])), .blk 0, .code (atC qpE [1,1,1,1])]
def q87 : qlQ → St
 | .c0 n d s b => St.init [(ti .u32 n), (ti .u32 d), (ti .i64 s), (ti .u32 b)]
 | .c1 n x t30 t31 => ⟨[(0, vi .u32 n), (9, vi .u32 x), (30, vi .i64 t30), (31, vi .i64 t31)], [], []⟩
def qtM (cx : Cx) (c : qlQ) (r : Bool) : Prop := Wk prog cx (qc2 prog 153 [[0]] (TV.c (T.bool r))) (q7B c) .normal (q87 c)
abbrev qtN (K : Nat) : Prop := ∀ c r, qfF K c = some r → ∀ cx : Cx, cx.n = 42 → qtM cx c r
theorem q89 {K} (ih : qtN K) {cx} (hn : cx.n = 42) {n d s b} {r} (h : qfF (K + 1) (.c0 n d s b) = some r) : qtM cx (.c0 n d s b) r := by
 rw [qfF] at h
 obtain ⟨x1, h2, h⟩ := qaH h
 rcases qaQ h with ⟨h3, h⟩ | ⟨h3, h⟩
 ·have h := oinj h; subst h
  exact wkR [rg1, rgG [oo, oo, oo, oo, opI (.call [[0], [0], [0]] [(ti .u32 b), (TV.c (T.int .u64 (wU6 d))), (ti .u32 n)] (ti .u32 x1)), oo], rgG [oo, oo, oo, .sb 17 true, oo, oo, oo, oo, oo, oo, oo, oo, oo, oo, oo], bTr, rg1] hn (aC (qoP h2) <| aC h3 <| aC rt <| aN)
 ·rcases qaQ h with ⟨h4, h⟩ | ⟨h4, h⟩
  ·have h := oinj h; subst h
   exact wkR [rg1, rgG [oo, oo, oo, oo, opI (.call [[0], [0], [0]] [(ti .u32 b), (TV.c (T.int .u64 (wU6 d))), (ti .u32 n)] (ti .u32 x1)), oo], rgG [oo, oo, oo, .sb 17 false, oo, oo, oo, oo, oo, oo, .sb 23 true, oo, oo, oo, oo, oo], bTr, rg1] hn (aC (qoP h2) <| aC h3 <| aC h4 <| aC rt <| aN)
  ·obtain ⟨h5, h⟩ := qbI h
   rcases qaQ h with ⟨h6, h⟩ | ⟨h6, h⟩
   ·have h := oinj h; subst h
    exact wkR [rg1, rgG [oo, oo, oo, oo, opI (.call [[0], [0], [0]] [(ti .u32 b), (TV.c (T.int .u64 (wU6 d))), (ti .u32 n)] (ti .u32 x1)), oo], rgG [oo, oo, oo, .sb 17 false, oo, oo, oo, oo, oo, oo, .sb 23 false, oo, oo, .op .dv, oo, oo], bTr, rg1] hn (aC (qoP h2) <| aC h3 <| aC h4 <| aC h5 <| aC h6 <| aN)
   ·exact wkG [rg1, rgG [oo, oo, oo, oo, opI (.call [[0], [0], [0]] [(ti .u32 b), (TV.c (T.int .u64 (wU6 d))), (ti .u32 n)] (ti .u32 x1)), oo], rgG [oo, oo, oo, .sb 17 false, oo, oo, oo, oo, oo, oo, .sb 23 false, oo, oo, .op .dv, oo, oo], bFa, rg3, .pre [.keep [0,9,30,31] []]] hn (aC (qoP h2) <| aC h3 <| aC h4 <| aC h5 <| aC h6 <| aN) (ih _ _ h cx hn)
theorem q88 {K} (ih : qtN K) {cx} (hn : cx.n = 42) {n x t30 t31} {r} (h : qfF (K + 1) (.c1 n x t30 t31) = some r) : qtM cx (.c1 n x t30 t31) r := by
 rw [qfF] at h
 rcases qaQ h with ⟨h1, h⟩ | ⟨h1, h⟩
 ·obtain ⟨x2, h3, h⟩ := qaH h
  rcases qaQ h with ⟨h4, h⟩ | ⟨h4, h⟩
  ·have h := oinj h; subst h
   exact wkR [.go, rg1, bTr, rgG [oo, oo, oo, opI (.call [[0], [0], [0]] [(ti .u32 x), (ti .u32 x), (ti .u32 n)] (ti .u32 x2)), oo], rg4, bTr, rg1] hn (aC h1 <| aC (qe7 h3) <| aC h4 <| aN)
  ·exact wkG [.go, rg1, bTr, rgG [oo, oo, oo, opI (.call [[0], [0], [0]] [(ti .u32 x), (ti .u32 x), (ti .u32 n)] (ti .u32 x2)), oo], rg4, bFa, rg2, .pre [.keep [0,9,30,31] []]] hn (aC h1 <| aC (qe7 h3) <| aC h4 <| aN) (ih _ _ h cx hn)
 ·have h := oinj h; subst h
  exact wkR [.go, rg1, bFa, rg1] hn (aC h1 <| aN)
theorem qqW : ∀ K : Nat, qtN K
 | 0, c, r, h => by rw [qfF] at h; cases h
 | K + 1, .c0 .., r, h => fun cx hn => q89 (qqW K) hn h
 | K + 1, .c1 .., r, h => fun cx hn => q88 (qqW K) hn h
theorem qgF {K : Nat} {n : Int} {d : Int} {s : Int} {b : Int} {r : Bool} (h : qr0 K n d s b = some r) : qc5 prog 153 [(ti .u32 n), (ti .u32 d), (ti .i64 s), (ti .u32 b)] (TV.c (T.bool r)) :=
 qa0 [[0]] (by kernel_rfl) (by simp) fun cx hn => qqW K (.c0 n d s b) r h cx hn
open Go.Proofs.Try (prog)
inductive qlR where
 | c0 (n : Int)
 | c1 (n : Int) (d : Int) (s : Int)
def qfG : Nat → qlR → Option Bool
 | 0, _ => none
 | K + 1, .c0 n =>
  bif (decide (n < (4 : Int))) then
   bif (decide (n = (2 : Int))) then
    some true
   else
    some (decide (n = (3 : Int)))
  else
   bif (decide ((Int.tmod n (2 : Int)) = (0 : Int))) then
    bif (decide (n = (2 : Int))) then
     some true
    else
     some (decide (n = (3 : Int)))
   else
    qfG K (.c1 n (wU3 (n - (1 : Int))) (0 : Int))
 | K + 1, .c1 n d s =>
  bif (decide ((Int.tmod d (2 : Int)) = (0 : Int))) then
   qfG K (.c1 n (wU3 (Int.tdiv d (2 : Int))) (wI6 (s + (1 : Int))))
  else
   (qr0 K n d s (2 : Int)).bind fun x2 =>
   bif (!x2) then
    (qr0 K n d s (7 : Int)).bind fun x5 =>
    bif (!x5) then
     (qr0 K n d s (61 : Int)).bind fun x8 =>
     some (!x8)
    else
     some false
   else
    some false
def qhU (K : Nat) (n : Int) : Option Bool := qfG K (.c0 n)
noncomputable def qpF : Code := qbQ prog 111
noncomputable def q7D : qlR → List Fr
 | .c0 .. => [.code qpF]
 | .c1 .. => [.code (.loop (atC qpF [1,1,1,0,0,0])), .blk 0, .code (atC qpF [1,1,1,1])]
def q9F : qlR → St
 | .c0 n => St.init [(ti .u32 n)]
 | .c1 n d s => ⟨[(0, vi .u32 n), (3, vi .u32 d), (4, vi .i64 s)], [], []⟩
def qtO (cx : Cx) (c : qlR) (r : Bool) : Prop := Wk prog cx (qc2 prog 111 [[0]] (TV.c (T.bool r))) (q7D c) .normal (q9F c)
abbrev qtP (K : Nat) : Prop := ∀ c r, qfG K c = some r → ∀ cx : Cx, cx.n = 46 → qtO cx c r
theorem q9H {K} (ih : qtP K) {cx} (hn : cx.n = 46) {n} {r} (h : qfG (K + 1) (.c0 n) = some r) : qtO cx (.c0 n) r := by
 rw [qfG] at h
 rcases qaQ h with ⟨h1, h⟩ | ⟨h1, h⟩
 ·rcases qaQ h with ⟨h2, h⟩ | ⟨h2, h⟩
  ·have h := oinj h; subst h
   exact wkR [rg1, rgG [oo, oo, oo, .sb 7 true, oo, oo, oo, oo], bTr, rgG [oo, oo, oo, .sb 14 true, oo, oo, oo, oo]] hn (aC h1 <| aC rt <| aC h2 <| aN)
  ·have h := oinj h; subst h
   exact wkR [rg1, rgG [oo, oo, oo, .sb 7 true, oo, oo, oo, oo], bTr, rgG [oo, oo, oo, .sb 14 false, oo, oo, oo, oo]] hn (aC h1 <| aC rt <| aC h2 <| aN)
 ·rcases qaQ h with ⟨h2, h⟩ | ⟨h2, h⟩
  ·rcases qaQ h with ⟨h3, h⟩ | ⟨h3, h⟩
   ·have h := oinj h; subst h
    exact wkR [rg1, rgG [oo, oo, oo, .sb 7 false, oo, oo, oo, oo], bTr, rgG [oo, oo, oo, .sb 14 true, oo, oo, oo, oo]] hn (aC h1 <| aC h2 <| aC h3 <| aN)
   ·have h := oinj h; subst h
    exact wkR [rg1, rgG [oo, oo, oo, .sb 7 false, oo, oo, oo, oo], bTr, rgG [oo, oo, oo, .sb 14 false, oo, oo, oo, oo]] hn (aC h1 <| aC h2 <| aC h3 <| aN)
  ·exact wkG [rg1, rgG [oo, oo, oo, .sb 7 false, oo, oo, oo, oo], bFa, rg4, .pre [.keep [0,3,4] []]] hn (aC h1 <| aC h2 <| aN) (ih _ _ h cx hn)
theorem q9G {K} (ih : qtP K) {cx} (hn : cx.n = 46) {n d s} {r} (h : qfG (K + 1) (.c1 n d s) = some r) : qtO cx (.c1 n d s) r := by
 rw [qfG] at h
 rcases qaQ h with ⟨h1, h⟩ | ⟨h1, h⟩
 ·exact wkG [.go, rg3, bTr, rg6, .pre [.keep [0,3,4] []]] hn (aC h1 <| aN) (ih _ _ h cx hn)
 ·obtain ⟨x2, h3, h⟩ := qaH h
  rcases qaQ h with ⟨h4, h⟩ | ⟨h4, h⟩
  ·obtain ⟨x5, h6, h⟩ := qaH h
   rcases qaQ h with ⟨h7, h⟩ | ⟨h7, h⟩
   ·obtain ⟨x8, h9, h⟩ := qaH h
    have h := oinj h; subst h
    exact wkR [.go, rg3, bFa, rgG [oo, oo, oo, opI (.call [[0], [0], [0], [0]] [(ti .u32 n), (ti .u32 d), (ti .i64 s), (TV.c (T.int .u32 (2 : Int)))] (TV.c (T.bool x2))), oo, oo, .sb 32 true, oo, oo, oo, opI (.call [[0], [0], [0], [0]] [(ti .u32 n), (ti .u32 d), (ti .i64 s), (TV.c (T.int .u32 (7 : Int)))] (TV.c (T.bool x5))), oo, oo, oo, .sb 39 true, oo, oo, oo, opI (.call [[0], [0], [0], [0]] [(ti .u32 n), (ti .u32 d), (ti .i64 s), (TV.c (T.int .u32 (61 : Int)))] (TV.c (T.bool x8))), oo, oo, oo]] hn (aC h1 <| aC (qgF h3) <| aC h4 <| aC (qgF h6) <| aC h7 <| aC (qgF h9) <| aN)
   ·have h := oinj h; subst h
    exact wkR [.go, rg3, bFa, rgG [oo, oo, oo, opI (.call [[0], [0], [0], [0]] [(ti .u32 n), (ti .u32 d), (ti .i64 s), (TV.c (T.int .u32 (2 : Int)))] (TV.c (T.bool x2))), oo, oo, .sb 32 true, oo, oo, oo, opI (.call [[0], [0], [0], [0]] [(ti .u32 n), (ti .u32 d), (ti .i64 s), (TV.c (T.int .u32 (7 : Int)))] (TV.c (T.bool x5))), oo, oo, oo, .sb 39 false, oo, oo, oo, oo, oo, oo, oo]] hn (aC h1 <| aC (qgF h3) <| aC h4 <| aC (qgF h6) <| aC h7 <| aN)
  ·have h := oinj h; subst h
   exact wkR [.go, rg3, bFa, rgG [oo, oo, oo, opI (.call [[0], [0], [0], [0]] [(ti .u32 n), (ti .u32 d), (ti .i64 s), (TV.c (T.int .u32 (2 : Int)))] (TV.c (T.bool x2))), oo, oo, .sb 32 false, oo, oo, oo, oo, oo, oo, oo, oo, oo, oo, oo, oo, oo, oo]] hn (aC h1 <| aC (qgF h3) <| aC h4 <| aN)
theorem qqX : ∀ K : Nat, qtP K
 | 0, c, r, h => by rw [qfG] at h; cases h
 | K + 1, .c0 .., r, h => fun cx hn => q9H (qqX K) hn h
 | K + 1, .c1 .., r, h => fun cx hn => q9G (qqX K) hn h
theorem qbT {K : Nat} {n : Int} {r : Bool} (h : qhU K n = some r) : qc5 prog 111 [(ti .u32 n)] (TV.c (T.bool r)) :=
 qa0 [[0]] (by kernel_rfl) (by simp) fun cx hn => qqX K (.c0 n) r h cx hn
open Go.Proofs.Try (prog)
inductive qsF where
 | c0 (f : (List Int)) (g : (List Int)) (p : Int)
def qmP : Nat → qsF → Option ((List Int) × Int)
 | 0, _ => none
 | K + 1, .c0 f g p =>
  (qhU K p).bind fun x1 =>
  bif (!x1) then
   some ([], (1 : Int))
  else
   (qeS K f p).bind fun x4 =>
   (qeS K g p).bind fun x6 =>
   (qw9 K x4 x6 p).bind fun x8 =>
   some (x8, (0 : Int))
def qtV (K : Nat) (f : (List Int)) (g : (List Int)) (p : Int) : Option ((List Int) × Int) := qmP K (.c0 f g p)
noncomputable def ze7 : Code := qbQ prog 121
noncomputable def zh1 : qsF → List Fr
 | .c0 .. => [.code ze7]
def zlW : qsF → St
 | .c0 f g p => St.init [(tl 1 f qaC), (tl 1 g qaC), (ti .u32 p)]
def q91 (cx : Cx) (c : qsF) (r : ((List Int) × Int)) : Prop := Wk prog cx (qc2 prog 121 [[1], [0]] (TV.tup [(false, [(T.sl 1 (r.1.map qaC))]), (false, [(T.int .i64 r.2)])])) (zh1 c) .normal (zlW c)
abbrev q92 (K : Nat) : Prop := ∀ c r, qmP K c = some r → ∀ cx : Cx, cx.n = 19 → q91 cx c r
theorem zlX {K} (_ : q92 K) {cx} (hn : cx.n = 19) {f g p} {r} (h : qmP (K + 1) (.c0 f g p) = some r) : q91 cx (.c0 f g p) r := by
 rw [qmP] at h
 obtain ⟨x1, h2, h⟩ := qaH h
 rcases qaQ h with ⟨h3, h⟩ | ⟨h3, h⟩
 ·have h := oinj h; subst h
  exact wkR [rg2, rgG [oo, opI (.call [[0]] [(ti .u32 p)] (TV.c (T.bool x1))), oo], bTr, rg2] hn (aC (qbT h2) <| aC h3 <| aN)
 ·obtain ⟨x4, h5, h⟩ := qaH h
  obtain ⟨x6, h7, h⟩ := qaH h
  obtain ⟨x8, h9, h⟩ := qaH h
  have h := oinj h; subst h
  exact wkR [rg2, rgG [oo, opI (.call [[0]] [(ti .u32 p)] (TV.c (T.bool x1))), oo], bFa, rgG [oo, oo, opI (.call [[1], [0]] [(tl 1 f qaC), (ti .u32 p)] (tl 1 x4 qaC)), oo, oo, opI (.call [[1], [0]] [(tl 1 g qaC), (ti .u32 p)] (tl 1 x6 qaC)), oo, opI (.call [[1], [1], [0]] [(tl 1 x4 qaC), (tl 1 x6 qaC), (ti .u32 p)] (tl 1 x8 qaC)), oo, oo]] hn (aC (qbT h2) <| aC h3 <| aC (qbU h5) <| aC (qbU h7) <| aC (qk0 h9) <| aN)
theorem q3S : ∀ K : Nat, q92 K
 | 0, c, r, h => by rw [qmP] at h; cases h
 | K + 1, .c0 .., r, h => fun cx hn => zlX (q3S K) hn h
theorem qoW {K : Nat} {f : (List Int)} {g : (List Int)} {p : Int} {r : ((List Int) × Int)} (h : qtV K f g p = some r) : qc5 prog 121 [(tl 1 f qaC), (tl 1 g qaC), (ti .u32 p)] (TV.tup [(false, [(T.sl 1 (r.1.map qaC))]), (false, [(T.int .i64 r.2)])]) :=
 qa0 [[1], [0]] (by kernel_rfl) (by simp) fun cx hn => q3S K (.c0 f g p) r h cx hn
open Go.Proofs.Try (prog)
inductive qqJ where
 | c0 (list : (List (List Int))) (p : Int)
 | c1 (list : (List (List Int))) (p : Int) (t13 : (List (List Int))) (t14 : Int) (t15 : Int)
 | c2 (list : (List (List Int))) (p : Int) (t24 : (List (List Int))) (t25 : Int) (t26 : Int)
 | c3 (list : (List (List Int))) (p : Int) (g : (List Int)) (t24 : (List (List Int))) (t25 : Int) (t26 : Int) (t33 : (List (List Int))) (t34 : Int) (t35 : Int)
def qbM : Nat → qqJ → Option Int
 | 0, _ => none
 | K + 1, .c0 list p =>
  qbM K (.c1 list p list (list.length : Int) (0 : Int))
 | K + 1, .c1 list p t13 t14 t15 =>
  bif (decide (t15 < t14)) then
   (gi t13 t15).bind fun x2 =>
   (qmQ K x2 p).bind fun x4 =>
   bif (decide (x4 < (1 : Int))) then
    some (12 : Int)
   else
    qbM K (.c1 list p t13 t14 (wI6 (t15 + (1 : Int))))
  else
   qbM K (.c2 list p list (list.length : Int) (0 : Int))
 | K + 1, .c2 list p t24 t25 t26 =>
  bif (decide (t26 < t25)) then
   (gi t24 t26).bind fun x2 =>
   gd (0 ≤ t26 ∧ 0 ≤ t26.toNat ∧ t26.toNat ≤ list.length) <|
   qbM K (.c3 list p x2 t24 t25 t26 (list.take t26.toNat) ((list.take t26.toNat).length : Int) (0 : Int))
  else
   some (0 : Int)
 | K + 1, .c3 list p g t24 t25 t26 t33 t34 t35 =>
  bif (decide (t35 < t34)) then
   (gi t33 t35).bind fun x2 =>
   (qtV K g x2 p).bind fun x4 =>
   bif (decide ((1 : Int) < (x4.1.length : Int))) then
    some (5 : Int)
   else
    qbM K (.c3 list p g t24 t25 t26 t33 t34 (wI6 (t35 + (1 : Int))))
  else
   qbM K (.c2 list p t24 t25 (wI6 (t26 + (1 : Int))))
def qyR (K : Nat) (list : (List (List Int))) (p : Int) : Option Int := qbM K (.c0 list p)
noncomputable def qfU : Code := qbQ prog 112
noncomputable def zfL : qqJ → List Fr
 | .c0 .. => [.code qfU]
 | .c1 .. => [.code (.loop (atC qfU [1,0,1,0,0])), .blk 0, .code (atC qfU [1,1])]
 | .c2 .. => [.code (.loop (atC qfU [1,1,0,1,0,0])), .blk 2, .code (atC qfU [1,1,1])]
 | .c3 .. => [.code (.loop (atC qfU [1,1,0,1,0,0,1,1,0,0,1,1,0,0])), .blk 4, .blk 3, .code (atC qfU [1,1,0,1,0,0,1,1,1]), .lp (atC qfU [1,1,0,1,0,0]), .blk 2, .code (atC qfU [1,1,1])]
def ziU : qqJ → St
 | .c0 list p => St.init [(tl 1 list qaF), (ti .u32 p)]
 | .c1 list p t13 t14 t15 => ⟨[(0, vl 1 list qaF), (1, vi .u32 p), (13, vl 1 t13 qaF), (14, vi .i64 t14), (15, vi .i64 t15)], [], []⟩
 | .c2 list p t24 t25 t26 => ⟨[(0, vl 1 list qaF), (1, vi .u32 p), (24, vl 1 t24 qaF), (25, vi .i64 t25), (26, vi .i64 t26)], [], []⟩
 | .c3 list p g t24 t25 t26 t33 t34 t35 => ⟨[(0, vl 1 list qaF), (1, vi .u32 p), (8, vl 1 g qaC), (24, vl 1 t24 qaF), (25, vi .i64 t25), (26, vi .i64 t26), (33, vl 1 t33 qaF), (34, vi .i64 t34), (35, vi .i64 t35)], [], []⟩
def qpR (cx : Cx) (c : qqJ) (r : Int) : Prop := Wk prog cx (qc2 prog 112 [[0]] (ti .i64 r)) (zfL c) .normal (ziU c)
abbrev qpS (K : Nat) : Prop := ∀ c r, qbM K c = some r → ∀ cx : Cx, cx.n = 51 → qpR cx c r
theorem ziY {K} (ih : qpS K) {cx} (hn : cx.n = 51) {list p} {r} (h : qbM (K + 1) (.c0 list p) = some r) : qpR cx (.c0 list p) r := by
 rw [qbM] at h
 exact wkG [rg1, rgG [oo, opI (.ln (list.length : Int)), oo], .pre [.keep [0,1,13,14,15] []]] hn (aC (qaX list qaF) <| aN) (ih _ _ h cx hn)
theorem ziX {K} (ih : qpS K) {cx} (hn : cx.n = 51) {list p t13 t14 t15} {r} (h : qbM (K + 1) (.c1 list p t13 t14 t15) = some r) : qpR cx (.c1 list p t13 t14 t15) r := by
 rw [qbM] at h
 rcases qaQ h with ⟨h1, h⟩ | ⟨h1, h⟩
 ·obtain ⟨x2, h3, h⟩ := qaH h
  obtain ⟨x4, h5, h⟩ := qaH h
  rcases qaQ h with ⟨h6, h⟩ | ⟨h6, h⟩
  ·have h := oinj h; subst h
   exact wkR [.go, rg1, bTr, rgG [opI (.ix (qaF x2)), oo, oo], rgG [oo, oo, opI (.call [[1], [0]] [(tl 1 x2 qaC), (ti .u32 p)] (ti .i64 x4)), oo], bTr, rg1] hn (aC h1 <| aC (qa1 h3) <| aC (qbS qaF h3) <| aC (qkJ h5) <| aC h6 <| aN)
  ·exact wkG [.go, rg1, bTr, rgG [opI (.ix (qaF x2)), oo, oo], rgG [oo, oo, opI (.call [[1], [0]] [(tl 1 x2 qaC), (ti .u32 p)] (ti .i64 x4)), oo], bFa, rg2, .pre [.keep [0,1,13,14,15] []]] hn (aC h1 <| aC (qa1 h3) <| aC (qbS qaF h3) <| aC (qkJ h5) <| aC h6 <| aN) (ih _ _ h cx hn)
 ·exact wkG [.go, rg1, bFa, rgG [oo, opI (.ln (list.length : Int)), oo], .pre [.keep [0,1,24,25,26] []]] hn (aC h1 <| aC (qaX list qaF) <| aN) (ih _ _ h cx hn)
theorem ziW {K} (ih : qpS K) {cx} (hn : cx.n = 51) {list p t24 t25 t26} {r} (h : qbM (K + 1) (.c2 list p t24 t25 t26) = some r) : qpR cx (.c2 list p t24 t25 t26) r := by
 rw [qbM] at h
 rcases qaQ h with ⟨h1, h⟩ | ⟨h1, h⟩
 ·obtain ⟨x2, h3, h⟩ := qaH h
  obtain ⟨h4, h⟩ := qbI h
  exact wkG [.go, rg1, bTr, rgG [oo, opI (.ix (qaF x2)), oo, oo, oo], rgG [oo, oo, opI (.slT 0 t26.toNat ((list.take t26.toNat).map qaF)), opI (.ln ((list.take t26.toNat).length : Int)), oo], .pre [.keep [0,1,8,24,25,26,33,34,35] []]] hn (aC h1 <| aC (qa1 h3) <| aC (qbS qaF h3) <| aC r0 <| aC (⟨h4.1, rfl⟩ : 0 ≤ t26 ∧ t26.toNat = t26.toNat) <| aC h4.2.1 <| aC (ze8 _ h4.2.2 : t26.toNat ≤ (list.map qaF).length) <| aC (q27 _ _ _ : ((list.map qaF).take t26.toNat).drop 0 = (list.take t26.toNat).map qaF) <| aC (qaX (list.take t26.toNat) qaF) <| aN) (ih _ _ h cx hn)
 ·have h := oinj h; subst h
  exact wkR [.go, rg1, bFa, rg1] hn (aC h1 <| aN)
theorem ziV {K} (ih : qpS K) {cx} (hn : cx.n = 51) {list p g t24 t25 t26 t33 t34 t35} {r} (h : qbM (K + 1) (.c3 list p g t24 t25 t26 t33 t34 t35) = some r) : qpR cx (.c3 list p g t24 t25 t26 t33 t34 t35) r := by
 rw [qbM] at h
 rcases qaQ h with ⟨h1, h⟩ | ⟨h1, h⟩
 ·obtain ⟨x2, h3, h⟩ := qaH h
  obtain ⟨x4, h5, h⟩ := qaH h
  rcases qaQ h with ⟨h6, h⟩ | ⟨h6, h⟩
  ·have h := oinj h; subst h
   exact wkR [.go, rg1, bTr, rgG [opI (.ix (qaF x2)), oo, oo], rgG [oo, oo, oo, opI (.call [[1], [1], [0]] [(tl 1 g qaC), (tl 1 x2 qaC), (ti .u32 p)] (TV.tup [(false, [(T.sl 1 (x4.1.map qaC))]), (false, [(T.int .i64 x4.2)])])), oo, oo, oo, oo, oo], rgG [oo, opI (.ln (x4.1.length : Int)), oo], bTr, rg1] hn (aC h1 <| aC (qa1 h3) <| aC (qbS qaF h3) <| aC (qoW h5) <| aC (qaX x4.1 qaC) <| aC h6 <| aN)
  ·exact wkG [.go, rg1, bTr, rgG [opI (.ix (qaF x2)), oo, oo], rgG [oo, oo, oo, opI (.call [[1], [1], [0]] [(tl 1 g qaC), (tl 1 x2 qaC), (ti .u32 p)] (TV.tup [(false, [(T.sl 1 (x4.1.map qaC))]), (false, [(T.int .i64 x4.2)])])), oo, oo, oo, oo, oo], rgG [oo, opI (.ln (x4.1.length : Int)), oo], bFa, rg2, .pre [.keep [0,1,8,24,25,26,33,34,35] []]] hn (aC h1 <| aC (qa1 h3) <| aC (qbS qaF h3) <| aC (qoW h5) <| aC (qaX x4.1 qaC) <| aC h6 <| aN) (ih _ _ h cx hn)
 ·exact wkG [.go, rg1, bFa, rg2, .pre [.keep [0,1,24,25,26] []]] hn (aC h1 <| aN) (ih _ _ h cx hn)
theorem qmD : ∀ K : Nat, qpS K
 | 0, c, r, h => by rw [qbM] at h; cases h
 | K + 1, .c0 .., r, h => fun cx hn => ziY (qmD K) hn h
 | K + 1, .c1 .., r, h => fun cx hn => ziX (qmD K) hn h
 | K + 1, .c2 .., r, h => fun cx hn => ziW (qmD K) hn h
 | K + 1, .c3 .., r, h => fun cx hn => ziV (qmD K) hn h
theorem qsS {K : Nat} {list : (List (List Int))} {p : Int} {r : Int} (h : qyR K list p = some r) : qc5 prog 112 [(tl 1 list qaF), (ti .u32 p)] (ti .i64 r) :=
 qa0 [[0]] (by kernel_rfl) (by simp) fun cx hn => qmD K (.c0 list p) r h cx hn
open Go.Proofs.Try (prog)
inductive qnK where
 | c0 (f : (List Int)) (g : (List Int)) (p : Int)
def qi1 : Nat → qnK → Option ((List Int) × (List Int) × Int)
 | 0, _ => none
 | K + 1, .c0 f g p =>
  (qhU K p).bind fun x1 =>
  bif (!x1) then
   some ([], [], (1 : Int))
  else
   (qeS K f p).bind fun x4 =>
   (qeS K g p).bind fun x6 =>
   bif (decide ((x6.length : Int) = (0 : Int))) then
    some ([], [], (2 : Int))
   else
    (qc3 K x4 x6 p).bind fun x9 =>
    some (x9.1, x9.2, (0 : Int))
def qdR (K : Nat) (f : (List Int)) (g : (List Int)) (p : Int) : Option ((List Int) × (List Int) × Int) := qi1 K (.c0 f g p)
noncomputable def q7H : Code := qbQ prog 118
noncomputable def q93 : qnK → List Fr
 | .c0 .. => [.code q7H]
def zcZ : qnK → St
 | .c0 f g p => St.init [(tl 1 f qaC), (tl 1 g qaC), (ti .u32 p)]
def q12 (cx : Cx) (c : qnK) (r : ((List Int) × (List Int) × Int)) : Prop := Wk prog cx (qc2 prog 118 [[1], [1], [0]] (TV.tup [(false, [(T.sl 1 (r.1.map qaC))]), (false, [(T.sl 1 (r.2.1.map qaC))]), (false, [(T.int .i64 r.2.2)])])) (q93 c) .normal (zcZ c)
abbrev q13 (K : Nat) : Prop := ∀ c r, qi1 K c = some r → ∀ cx : Cx, cx.n = 32 → q12 cx c r
theorem zc0 {K} (_ : q13 K) {cx} (hn : cx.n = 32) {f g p} {r} (h : qi1 (K + 1) (.c0 f g p) = some r) : q12 cx (.c0 f g p) r := by
 rw [qi1] at h
 obtain ⟨x1, h2, h⟩ := qaH h
 rcases qaQ h with ⟨h3, h⟩ | ⟨h3, h⟩
 ·have h := oinj h; subst h
  exact wkR [rg3, rgG [oo, opI (.call [[0]] [(ti .u32 p)] (TV.c (T.bool x1))), oo], bTr, rg3] hn (aC (qbT h2) <| aC h3 <| aN)
 ·obtain ⟨x4, h5, h⟩ := qaH h
  obtain ⟨x6, h7, h⟩ := qaH h
  rcases qaQ h with ⟨h8, h⟩ | ⟨h8, h⟩
  ·have h := oinj h; subst h
   exact wkR [rg3, rgG [oo, opI (.call [[0]] [(ti .u32 p)] (TV.c (T.bool x1))), oo], bFa, rgG [oo, oo, opI (.call [[1], [0]] [(tl 1 f qaC), (ti .u32 p)] (tl 1 x4 qaC)), oo, oo, opI (.call [[1], [0]] [(tl 1 g qaC), (ti .u32 p)] (tl 1 x6 qaC)), oo, oo], rgG [oo, opI (.ln (x6.length : Int)), oo], bTr, rg3] hn (aC (qbT h2) <| aC h3 <| aC (qbU h5) <| aC (qbU h7) <| aC (qaX x6 qaC) <| aC h8 <| aN)
  ·obtain ⟨x9, h10, h⟩ := qaH h
   have h := oinj h; subst h
   exact wkR [rg3, rgG [oo, opI (.call [[0]] [(ti .u32 p)] (TV.c (T.bool x1))), oo], bFa, rgG [oo, oo, opI (.call [[1], [0]] [(tl 1 f qaC), (ti .u32 p)] (tl 1 x4 qaC)), oo, oo, opI (.call [[1], [0]] [(tl 1 g qaC), (ti .u32 p)] (tl 1 x6 qaC)), oo, oo], rgG [oo, opI (.ln (x6.length : Int)), oo], bFa, rgG [oo, oo, oo, opI (.call [[1], [1], [0]] [(tl 1 x4 qaC), (tl 1 x6 qaC), (ti .u32 p)] (TV.tup [(false, [(T.sl 1 (x9.1.map qaC))]), (false, [(T.sl 1 (x9.2.map qaC))])])), oo, oo, oo, oo, oo], rg5] hn (aC (qbT h2) <| aC h3 <| aC (qbU h5) <| aC (qbU h7) <| aC (qaX x6 qaC) <| aC h8 <| aC (qcY h10) <| aN)
theorem qyJ : ∀ K : Nat, q13 K
 | 0, c, r, h => by rw [qi1] at h; cases h
 | K + 1, .c0 .., r, h => fun cx hn => zc0 (qyJ K) hn h
theorem qdC {K : Nat} {f : (List Int)} {g : (List Int)} {p : Int} {r : ((List Int) × (List Int) × Int)} (h : qdR K f g p = some r) : qc5 prog 118 [(tl 1 f qaC), (tl 1 g qaC), (ti .u32 p)] (TV.tup [(false, [(T.sl 1 (r.1.map qaC))]), (false, [(T.sl 1 (r.2.1.map qaC))]), (false, [(T.int .i64 r.2.2)])]) :=
 qa0 [[1], [1], [0]] (by kernel_rfl) (by simp) fun cx hn => qyJ K (.c0 f g p) r h cx hn
open Go.Proofs.Try (prog)
inductive qsD where
 | c0 (f : (List Int)) (g : (List Int)) (m : Int)
 | c1 (r26 : (List Int)) (g : (List Int)) (m : Int) (t27 : (List Int)) (t28 : Int) (t29 : Int)
 | c2 (r26 : (List Int)) (g : (List Int)) (m : Int) (i : Int) (a : Int) (t27 : (List Int)) (t28 : Int) (t29 : Int) (t34 : (List Int)) (t35 : Int) (t36 : Int)
def qcR : Nat → qsD → Option (List Int)
 | 0, _ => none
 | K + 1, .c0 f g m =>
  bif (decide ((f.length : Int) = (0 : Int))) then
   some []
  else
   bif (decide ((g.length : Int) = (0 : Int))) then
    some []
   else
    gd (0 ≤ (wI6 ((wI6 ((f.length : Int) + (g.length : Int))) - (1 : Int))) ∧ (wI6 ((wI6 ((f.length : Int) + (g.length : Int))) - (1 : Int))) ≤ (wI6 ((wI6 ((f.length : Int) + (g.length : Int))) - (1 : Int))) ∧ (4 : Int) * (wI6 ((wI6 ((f.length : Int) + (g.length : Int))) - (1 : Int))) ≤ 140737488355328) <|
    qcR K (.c1 (List.replicate (wI6 ((wI6 ((f.length : Int) + (g.length : Int))) - (1 : Int))).toNat ((0 : Int) : Int)) g m f (f.length : Int) (0 : Int))
 | K + 1, .c1 r26 g m t27 t28 t29 =>
  bif (decide (t29 < t28)) then
   (gi t27 t29).bind fun x2 =>
   qcR K (.c2 r26 g m t29 x2 t27 t28 t29 g (g.length : Int) (0 : Int))
  else
   (qhW K r26).bind fun x2 =>
   some x2
 | K + 1, .c2 r26 g m i a t27 t28 t29 t34 t35 t36 =>
  bif (decide (t36 < t35)) then
   (gi t34 t36).bind fun x2 =>
   (gi r26 (wI6 (i + t36))).bind fun x4 =>
   (qiF K a x2 m).bind fun x6 =>
   (qw6 K x4 x6 m).bind fun x8 =>
   (gi r26 (wI6 (i + t36))).bind fun _ =>
   qcR K (.c2 (r26.set ((wI6 (i + t36)).toNat) x8) g m i a t27 t28 t29 t34 t35 (wI6 (t36 + (1 : Int))))
  else
   qcR K (.c1 r26 g m t27 t28 (wI6 (t29 + (1 : Int))))
def qdO (K : Nat) (f : (List Int)) (g : (List Int)) (m : Int) : Option (List Int) := qcR K (.c0 f g m)
noncomputable def qiG : Code := qbQ prog 119
noncomputable def zh0 : qsD → List Fr
 | .c0 .. => [.code qiG]
 | .c1 .. => [.code (.loop (atC qiG [1,1,1,0,1,0,0])), .blk 0, .code (atC qiG [1,1,1,1])]
 | .c2 .. => [.code (.loop (atC qiG [1,1,1,0,1,0,0,1,1,0,0,1,1,0,0])), .blk 2, .blk 1, .code (atC qiG [1,1,1,0,1,0,0,1,1,1]), .lp (atC qiG [1,1,1,0,1,0,0]), .blk 0, .code (atC qiG [1,1,1,1])]
def zlS : qsD → St
 | .c0 f g m => St.init [(tl 1 f qaC), (tl 1 g qaC), (ti .u32 m)]
 | .c1 r26 g m t27 t28 t29 => ⟨[(1, vl 1 g qaC), (2, vi .u32 m), (7, .c (C.row 26 0 r26.length)), (27, vl 1 t27 qaC), (28, vi .i64 t28), (29, vi .i64 t29)], [(26, .row 101 1 (r26.map qaC) 0)], []⟩
 | .c2 r26 g m i a t27 t28 t29 t34 t35 t36 => ⟨[(1, vl 1 g qaC), (2, vi .u32 m), (7, .c (C.row 26 0 r26.length)), (8, vi .i64 i), (9, vi .u32 a), (27, vl 1 t27 qaC), (28, vi .i64 t28), (29, vi .i64 t29), (34, vl 1 t34 qaC), (35, vi .i64 t35), (36, vi .i64 t36)], [(26, .row 101 1 (r26.map qaC) 0)], []⟩
def qwC (cx : Cx) (c : qsD) (r : (List Int)) : Prop := Wk prog cx (qc2 prog 119 [[1]] (tl 1 r qaC)) (zh0 c) .normal (zlS c)
abbrev qwD (K : Nat) : Prop := ∀ c r, qcR K c = some r → ∀ cx : Cx, cx.n = 62 → qwC cx c r
theorem zlV {K} (ih : qwD K) {cx} (hn : cx.n = 62) {f g m} {r} (h : qcR (K + 1) (.c0 f g m) = some r) : qwC cx (.c0 f g m) r := by
 rw [qcR] at h
 rcases qaQ h with ⟨h1, h⟩ | ⟨h1, h⟩
 ·have h := oinj h; subst h
  exact wkR [rg1, rgG [oo, opI (.ln (f.length : Int)), oo, oo, .sb 15 true, oo, oo, oo, oo], bTr, rg1] hn (aC (qaX f qaC) <| aC h1 <| aC rt <| aN)
 ·rcases qaQ h with ⟨h2, h⟩ | ⟨h2, h⟩
  ·have h := oinj h; subst h
   exact wkR [rg1, rgG [oo, opI (.ln (f.length : Int)), oo, oo, .sb 15 false, oo, opI (.ln (g.length : Int)), oo, oo], bTr, rg1] hn (aC (qaX f qaC) <| aC h1 <| aC (qaX g qaC) <| aC h2 <| aN)
  ·obtain ⟨h3, h⟩ := qbI h
   exact wkG [rg1, rgG [oo, opI (.ln (f.length : Int)), oo, oo, .sb 15 false, oo, opI (.ln (g.length : Int)), oo, oo], bFa, rgG [oo, opI (.ln (f.length : Int)), oo, opI (.ln (g.length : Int)), oo, oo, opI (.mk (qaC (0 : Int)) ((List.replicate (wI6 ((wI6 ((f.length : Int) + (g.length : Int))) - (1 : Int))).toNat ((0 : Int) : Int)).map qaC)), oo], rgG [oo, opI (.ln (f.length : Int)), oo], .pre [.rl 7 0 (List.replicate (wI6 ((wI6 ((f.length : Int) + (g.length : Int))) - (1 : Int))).toNat ((0 : Int) : Int)).length, .keep [1,2,7,27,28,29] [26]]] hn (aC (qaX f qaC) <| aC h1 <| aC (qaX g qaC) <| aC h2 <| aC (qaX f qaC) <| aC (qaX g qaC) <| aC h3.1 <| aC h3.2.1 <| aC h3.2.2 <| aC (qgM _ _ _ : List.replicate (wI6 ((wI6 ((f.length : Int) + (g.length : Int))) - (1 : Int))).toNat (qaC (0 : Int)) = (List.replicate (wI6 ((wI6 ((f.length : Int) + (g.length : Int))) - (1 : Int))).toNat ((0 : Int) : Int)).map qaC) <| aC (qaX f qaC) <| aC r0 <| aC (by simp : (wI6 ((wI6 ((f.length : Int) + (g.length : Int))) - (1 : Int))).toNat = (List.replicate (wI6 ((wI6 ((f.length : Int) + (g.length : Int))) - (1 : Int))).toNat ((0 : Int) : Int)).length) <| aN) (ih _ _ h cx hn)
theorem zlU {K} (ih : qwD K) {cx} (hn : cx.n = 62) {r26 g m t27 t28 t29} {r} (h : qcR (K + 1) (.c1 r26 g m t27 t28 t29) = some r) : qwC cx (.c1 r26 g m t27 t28 t29) r := by
 rw [qcR] at h
 rcases qaQ h with ⟨h1, h⟩ | ⟨h1, h⟩
 ·obtain ⟨x2, h3, h⟩ := qaH h
  exact wkG [.go, rg1, bTr, rgG [oo, opI (.ix (qaC x2)), oo, oo, oo], rgG [oo, opI (.ln (g.length : Int)), oo], .pre [.rl 7 0 r26.length, .keep [1,2,7,8,9,27,28,29,34,35,36] [26]]] hn (aC h1 <| aC (qa1 h3) <| aC (qbS qaC h3) <| aC (qaX g qaC) <| aC r0 <| aC (lq r26) <| aN) (ih _ _ h cx hn)
 ·obtain ⟨x2, h3, h⟩ := qaH h
  have h := oinj h; subst h
  exact wkR [.go, rg1, bFa, rgG [oo, .snap 60 (max 0 (0 + r26.length)) (r26.map qaC), opI (.call [[1]] [(tl 1 r26 qaC)] (tl 1 x2 qaC)), oo]] hn (aC h1 <| aC (qbJ _ _ _ (by simp) : ((r26.map qaC).drop 0).take r26.length = r26.map qaC) <| aC (rfl : (max 0 (0 + r26.length)) = (max 0 (0 + r26.length))) <| aC (qf2 h3) <| aN)
theorem zlT {K} (ih : qwD K) {cx} (hn : cx.n = 62) {r26 g m i a t27 t28 t29 t34 t35 t36} {r} (h : qcR (K + 1) (.c2 r26 g m i a t27 t28 t29 t34 t35 t36) = some r) : qwC cx (.c2 r26 g m i a t27 t28 t29 t34 t35 t36) r := by
 rw [qcR] at h
 rcases qaQ h with ⟨h1, h⟩ | ⟨h1, h⟩
 ·obtain ⟨x2, h3, h⟩ := qaH h
  obtain ⟨x4, h5, h⟩ := qaH h
  obtain ⟨x6, h7, h⟩ := qaH h
  obtain ⟨x8, h9, h⟩ := qaH h
  obtain ⟨x10, h11, h⟩ := qaH h
  exact wkG [.go, rg1, bTr, rgG [oo, opI (.ix (qaC x2)), oo, oo, oo], .draw [.p, .p, .p, .p, .p, .p, .p, .p, .ir, (.ld (qaC x4)), .p, .p, .p, (.call [[0], [0], [0]] [(ti .u32 a), (ti .u32 x2), (ti .u32 m)] (ti .u32 x6)), .p, (.call [[0], [0], [0]] [(ti .u32 x4), (ti .u32 x6), (ti .u32 m)] (ti .u32 x8))] [.op .ir, opI (.st (qaC x10) ((r26.set ((wI6 (i + t36)).toNat) x8).map qaC))], rg2, .pre [.rl 7 0 (r26.set ((wI6 (i + t36)).toNat) x8).length, .keep [1,2,7,8,9,27,28,29,34,35,36] [26]]] hn (aC h1 <| aC (qa1 h3) <| aC (qbS qaC h3) <| aC (qa1 h5) <| aC (qcB h5 (by simp) : (wI6 (i + t36)) < ((r26.length : Nat) : Int)) <| aC (qcA qaC h5 : (r26.map qaC)[(0 + (wI6 (i + t36)).toNat)]? = some (qaC x4)) <| aC (qe7 h7) <| aC (qzI h9) <| aC (qa1 h11) <| aC (qcB h11 (by simp) : (wI6 (i + t36)) < ((r26.length : Nat) : Int)) <| aC (qcA qaC h11 : (r26.map qaC)[(0 + (wI6 (i + t36)).toNat)]? = some (qaC x10)) <| aC (qc4 _ _ x8 _ : (r26.map qaC).set (0 + (wI6 (i + t36)).toNat) (qbW (qaC x10) 0 [(T.int .u32 x8)]) = (r26.set ((wI6 (i + t36)).toNat) x8).map qaC) <| aC (Nat.zero_le _ : 0 ≤ (0 + (wI6 (i + t36)).toNat)) <| aC r0 <| aC (by simp : r26.length = (r26.set ((wI6 (i + t36)).toNat) x8).length) <| aN) (ih _ _ h cx hn)
 ·exact wkG [.go, rg1, bFa, rg2, .pre [.rl 7 0 r26.length, .keep [1,2,7,27,28,29] [26]]] hn (aC h1 <| aC r0 <| aC (lq r26) <| aN) (ih _ _ h cx hn)
theorem qsC : ∀ K : Nat, qwD K
 | 0, c, r, h => by rw [qcR] at h; cases h
 | K + 1, .c0 .., r, h => fun cx hn => zlV (qsC K) hn h
 | K + 1, .c1 .., r, h => fun cx hn => zlU (qsC K) hn h
 | K + 1, .c2 .., r, h => fun cx hn => zlT (qsC K) hn h
theorem qcF {K : Nat} {f : (List Int)} {g : (List Int)} {m : Int} {r : (List Int)} (h : qdO K f g m = some r) : qc5 prog 119 [(tl 1 f qaC), (tl 1 g qaC), (ti .u32 m)] (tl 1 r qaC) :=
 qa0 [[1]] (by kernel_rfl) (by simp) fun cx hn => qsC K (.c0 f g m) r h cx hn
open Go.Proofs.Try (prog)
inductive quL where
 | c0 (f : (List Int)) (i : Int)
def qoR : Nat → quL → Option Int
 | 0, _ => none
 | _ + 1, .c0 f i =>
  bif (decide (i < (f.length : Int))) then
   (gi f i).bind fun x2 =>
   some x2
  else
   some (0 : Int)
def qzM (K : Nat) (f : (List Int)) (i : Int) : Option Int := qoR K (.c0 f i)
noncomputable def zhT : Code := qbQ prog 191
noncomputable def zlO : quL → List Fr
 | .c0 .. => [.code zhT]
def znJ : quL → St
 | .c0 f i => St.init [(tl 1 f qaC), (ti .i64 i)]
def zd8 (cx : Cx) (c : quL) (r : Int) : Prop := Wk prog cx (qc2 prog 191 [[0]] (ti .u32 r)) (zlO c) .normal (znJ c)
abbrev zd9 (K : Nat) : Prop := ∀ c r, qoR K c = some r → ∀ cx : Cx, cx.n = 13 → zd8 cx c r
theorem znK {K} (_ : zd9 K) {cx} (hn : cx.n = 13) {f i} {r} (h : qoR (K + 1) (.c0 f i) = some r) : zd8 cx (.c0 f i) r := by
 rw [qoR] at h
 rcases qaQ h with ⟨h1, h⟩ | ⟨h1, h⟩
 ·obtain ⟨x2, h3, h⟩ := qaH h
  have h := oinj h; subst h
  exact wkR [rg1, rgG [oo, oo, opI (.ln (f.length : Int)), oo], bTr, rgG [oo, oo, opI (.ix (qaC x2)), oo, oo]] hn (aC (qaX f qaC) <| aC h1 <| aC (qa1 h3) <| aC (qbS qaC h3) <| aN)
 ·have h := oinj h; subst h
  exact wkR [rg1, rgG [oo, oo, opI (.ln (f.length : Int)), oo], bFa, rg1] hn (aC (qaX f qaC) <| aC h1 <| aN)
theorem q59 : ∀ K : Nat, zd9 K
 | 0, c, r, h => by rw [qoR] at h; cases h
 | K + 1, .c0 .., r, h => fun cx hn => znK (q59 K) hn h
theorem q1Y {K : Nat} {f : (List Int)} {i : Int} {r : Int} (h : qzM K f i = some r) : qc5 prog 191 [(tl 1 f qaC), (ti .i64 i)] (ti .u32 r) :=
 qa0 [[0]] (by kernel_rfl) (by simp) fun cx hn => q59 K (.c0 f i) r h cx hn
open Go.Proofs.Try (prog)
inductive qr8 where
 | c0 (f : (List Int)) (g : (List Int)) (m : Int)
 | c1 (r14 : (List Int)) (f : (List Int)) (g : (List Int)) (m : Int) (t16 : Int) (t17 : Int)
def qe9 : Nat → qr8 → Option (List Int)
 | 0, _ => none
 | K + 1, .c0 f g m =>
  gd (0 ≤ (max (f.length : Int) (g.length : Int)) ∧ (max (f.length : Int) (g.length : Int)) ≤ (max (f.length : Int) (g.length : Int)) ∧ (4 : Int) * (max (f.length : Int) (g.length : Int)) ≤ 140737488355328) <|
  qe9 K (.c1 (List.replicate (max (f.length : Int) (g.length : Int)).toNat ((0 : Int) : Int)) f g m (((max (f.length : Int) (g.length : Int)).toNat : Nat) : Int) (0 : Int))
 | K + 1, .c1 r14 f g m t16 t17 =>
  bif (decide (t17 < t16)) then
   (qzM K f t17).bind fun x2 =>
   (qzM K g t17).bind fun x4 =>
   (qw5 K x2 x4 m).bind fun x6 =>
   (gi r14 t17).bind fun _ =>
   qe9 K (.c1 (r14.set (t17.toNat) x6) f g m t16 (wI6 (t17 + (1 : Int))))
  else
   (qhW K r14).bind fun x2 =>
   some x2
def qn3 (K : Nat) (f : (List Int)) (g : (List Int)) (m : Int) : Option (List Int) := qe9 K (.c0 f g m)
noncomputable def qvN : Code := qbQ prog 182
noncomputable def zhW : qr8 → List Fr
 | .c0 .. => [.code qvN]
 | .c1 .. => [.code (.loop (atC qvN [1,1,0,1,0,0])), .blk 0, .code (atC qvN [1,1,1])]
def zlP : qr8 → St
 | .c0 f g m => St.init [(tl 1 f qaC), (tl 1 g qaC), (ti .u32 m)]
 | .c1 r14 f g m t16 t17 => ⟨[(0, vl 1 f qaC), (1, vl 1 g qaC), (2, vi .u32 m), (7, .c (C.row 14 0 r14.length)), (16, vi .i64 t16), (17, vi .i64 t17)], [(14, .row 101 1 (r14.map qaC) 0)], []⟩
def q01 (cx : Cx) (c : qr8) (r : (List Int)) : Prop := Wk prog cx (qc2 prog 182 [[1]] (tl 1 r qaC)) (zhW c) .normal (zlP c)
abbrev q02 (K : Nat) : Prop := ∀ c r, qe9 K c = some r → ∀ cx : Cx, cx.n = 34 → q01 cx c r
theorem zlR {K} (ih : q02 K) {cx} (hn : cx.n = 34) {f g m} {r} (h : qe9 (K + 1) (.c0 f g m) = some r) : q01 cx (.c0 f g m) r := by
 rw [qe9] at h
 obtain ⟨h1, h⟩ := qbI h
 exact wkG [rg1, rgG [oo, opI (.ln (f.length : Int)), oo, opI (.ln (g.length : Int)), oo, opI (.mk (qaC (0 : Int)) ((List.replicate (max (f.length : Int) (g.length : Int)).toNat ((0 : Int) : Int)).map qaC)), oo], rg3, .pre [.rl 7 0 (List.replicate (max (f.length : Int) (g.length : Int)).toNat ((0 : Int) : Int)).length, .keep [0,1,2,7,16,17] [14]]] hn (aC (qaX f qaC) <| aC (qaX g qaC) <| aC h1.1 <| aC h1.2.1 <| aC h1.2.2 <| aC (qgM _ _ _ : List.replicate (max (f.length : Int) (g.length : Int)).toNat (qaC (0 : Int)) = (List.replicate (max (f.length : Int) (g.length : Int)).toNat ((0 : Int) : Int)).map qaC) <| aC r0 <| aC (by simp : (max (f.length : Int) (g.length : Int)).toNat = (List.replicate (max (f.length : Int) (g.length : Int)).toNat ((0 : Int) : Int)).length) <| aN) (ih _ _ h cx hn)
theorem zlQ {K} (ih : q02 K) {cx} (hn : cx.n = 34) {r14 f g m t16 t17} {r} (h : qe9 (K + 1) (.c1 r14 f g m t16 t17) = some r) : q01 cx (.c1 r14 f g m t16 t17) r := by
 rw [qe9] at h
 rcases qaQ h with ⟨h1, h⟩ | ⟨h1, h⟩
 ·obtain ⟨x2, h3, h⟩ := qaH h
  obtain ⟨x4, h5, h⟩ := qaH h
  obtain ⟨x6, h7, h⟩ := qaH h
  obtain ⟨x8, h9, h⟩ := qaH h
  exact wkG [.go, rg1, bTr, rg2, rgG [oo, oo, oo, oo, opI (.call [[1], [0]] [(tl 1 f qaC), (ti .i64 t17)] (ti .u32 x2)), oo, oo, opI (.call [[1], [0]] [(tl 1 g qaC), (ti .i64 t17)] (ti .u32 x4)), oo, opI (.call [[0], [0], [0]] [(ti .u32 x2), (ti .u32 x4), (ti .u32 m)] (ti .u32 x6)), .op .ir, opI (.st (qaC x8) ((r14.set (t17.toNat) x6).map qaC))], rg2, .pre [.rl 7 0 (r14.set (t17.toNat) x6).length, .keep [0,1,2,7,16,17] [14]]] hn (aC h1 <| aC (q1Y h3) <| aC (q1Y h5) <| aC (qzH h7) <| aC (qa1 h9) <| aC (qcB h9 (by simp) : t17 < ((r14.length : Nat) : Int)) <| aC (qcA qaC h9 : (r14.map qaC)[(0 + t17.toNat)]? = some (qaC x8)) <| aC (qc4 _ _ x6 _ : (r14.map qaC).set (0 + t17.toNat) (qbW (qaC x8) 0 [(T.int .u32 x6)]) = (r14.set (t17.toNat) x6).map qaC) <| aC (Nat.zero_le _ : 0 ≤ (0 + t17.toNat)) <| aC r0 <| aC (by simp : r14.length = (r14.set (t17.toNat) x6).length) <| aN) (ih _ _ h cx hn)
 ·obtain ⟨x2, h3, h⟩ := qaH h
  have h := oinj h; subst h
  exact wkR [.go, rg1, bFa, rgG [oo, .snap 32 (max 0 (0 + r14.length)) (r14.map qaC), opI (.call [[1]] [(tl 1 r14 qaC)] (tl 1 x2 qaC)), oo]] hn (aC h1 <| aC (qbJ _ _ _ (by simp) : ((r14.map qaC).drop 0).take r14.length = r14.map qaC) <| aC (rfl : (max 0 (0 + r14.length)) = (max 0 (0 + r14.length))) <| aC (qf2 h3) <| aN)
theorem qxA : ∀ K : Nat, q02 K
 | 0, c, r, h => by rw [qe9] at h; cases h
 | K + 1, .c0 .., r, h => fun cx hn => zlR (qxA K) hn h
 | K + 1, .c1 .., r, h => fun cx hn => zlQ (qxA K) hn h
theorem qoS {K : Nat} {f : (List Int)} {g : (List Int)} {m : Int} {r : (List Int)} (h : qn3 K f g m = some r) : qc5 prog 182 [(tl 1 f qaC), (tl 1 g qaC), (ti .u32 m)] (tl 1 r qaC) :=
 qa0 [[1]] (by kernel_rfl) (by simp) fun cx hn => qxA K (.c0 f g m) r h cx hn
open Go.Proofs.Try (prog)
inductive qlT where
 | c0 (f : (List Int)) (g : (List Int)) (p : Int)
 | c1 (r26 : (List Int)) (g : (List Int)) (p : Int) (a : (List Int)) (b : (List Int))
 | c2 (r26 : (List Int)) (fz26 : Nat) (g : (List Int)) (p : Int) (a : (List Int)) (b : (List Int)) (u : (List Int))
 | c3 (g : (List Int)) (p : Int) (a : (List Int)) (b : (List Int)) (u : (List Int)) (v : (List Int))
def qbD : Nat → qlT → Option (List Int)
 | 0, _ => none
 | K + 1, .c0 f g p =>
  (qc3 K f g p).bind fun x1 =>
  qbD K (.c1 ([(1 : Int)] : List Int) g p x1.2 g)
 | K + 1, .c1 r26 g p a b =>
  bif (decide ((1 : Int) < (a.length : Int))) then
   (qc3 K b a p).bind fun x2 =>
   (qdO K x2.1 r26 p).bind fun x4 =>
   (qn3 K [] x4 p).bind fun x6 =>
   qbD K (.c2 r26 (max 0 (0 + r26.length)) g p x2.2 a x6)
  else
   (gi a (0 : Int)).bind fun x2 =>
   (qb0 K x2 p).bind fun x4 =>
   (qeC K r26 x4.1 p).bind fun x6 =>
   (qc3 K x6 g p).bind fun x8 =>
   some x8.2
 | K + 1, .c2 r26 _ g p a b u =>
  bif (decide ((1 : Int) < (a.length : Int))) then
   (qc3 K b a p).bind fun x2 =>
   (qdO K x2.1 u p).bind fun x4 =>
   (qn3 K r26 x4 p).bind fun x6 =>
   qbD K (.c3 g p x2.2 a x6 u)
  else
   (gi a (0 : Int)).bind fun x2 =>
   (qb0 K x2 p).bind fun x4 =>
   (qeC K u x4.1 p).bind fun x6 =>
   (qc3 K x6 g p).bind fun x8 =>
   some x8.2
 | K + 1, .c3 g p a b u v =>
  bif (decide ((1 : Int) < (a.length : Int))) then
   (qc3 K b a p).bind fun x2 =>
   (qdO K x2.1 u p).bind fun x4 =>
   (qn3 K v x4 p).bind fun x6 =>
   qbD K (.c3 g p x2.2 a x6 u)
  else
   (gi a (0 : Int)).bind fun x2 =>
   (qb0 K x2 p).bind fun x4 =>
   (qeC K u x4.1 p).bind fun x6 =>
   (qc3 K x6 g p).bind fun x8 =>
   some x8.2
def qr6 (K : Nat) (f : (List Int)) (g : (List Int)) (p : Int) : Option (List Int) := qbD K (.c0 f g p)
noncomputable def qfY : Code := qbQ prog 181
noncomputable def q7F : qlT → List Fr
 | .c0 .. => [.code qfY]
 | .c1 .. => [.code (.loop (atC qfY [1,1,1,1,0,0,0])), .blk 0, .code (atC qfY [1,1,1,1,1])]
 | .c2 .. => [.code (.loop (atC qfY [1,1,1,1,0,0,0])), .blk 0, .code (atC qfY [1,1,1,1,1])]
 | .c3 .. => [.code (.loop (atC qfY [1,1,1,1,0,0,0])), .blk 0, .code (atC qfY [1,1,1,1,1])]
def q9O : qlT → St
 | .c0 f g p => St.init [(tl 1 f qaC), (tl 1 g qaC), (ti .u32 p)]
 | .c1 r26 g p a b => ⟨[(1, vl 1 g qaC), (2, vi .u32 p), (8, vl 1 a qaC), (9, vl 1 b qaC), (10, .c (C.row 26 0 r26.length)), (11, .c (C.nil))], [(26, .row 101 1 (r26.map qaC) 0)], []⟩
 | .c2 r26 fz26 g p a b u => ⟨[(1, vl 1 g qaC), (2, vi .u32 p), (8, vl 1 a qaC), (9, vl 1 b qaC), (10, vl 1 u qaC), (11, .c (C.row 26 0 r26.length))], [(26, .row 101 1 (r26.map qaC) fz26)], []⟩
 | .c3 g p a b u v => ⟨[(1, vl 1 g qaC), (2, vi .u32 p), (8, vl 1 a qaC), (9, vl 1 b qaC), (10, vl 1 u qaC), (11, vl 1 v qaC)], [], []⟩
def qkY (cx : Cx) (c : qlT) (r : (List Int)) : Prop := Wk prog cx (qc2 prog 181 [[1]] (tl 1 r qaC)) (q7F c) .normal (q9O c)
abbrev qkZ (K : Nat) : Prop := ∀ c r, qbD K c = some r → ∀ cx : Cx, cx.n = 66 → qkY cx c r
theorem q9S {K} (ih : qkZ K) {cx} (hn : cx.n = 66) {f g p} {r} (h : qbD (K + 1) (.c0 f g p) = some r) : qkY cx (.c0 f g p) r := by
 rw [qbD] at h
 obtain ⟨x1, h2, h⟩ := qaH h
 exact wkG [rg1, rgG [oo, oo, oo, opI (.call [[1], [1], [0]] [(tl 1 f qaC), (tl 1 g qaC), (ti .u32 p)] (TV.tup [(false, [(T.sl 1 (x1.1.map qaC))]), (false, [(T.sl 1 (x1.2.map qaC))])])), oo, oo, oo, oo, oo], rg2, rgG [opI (.lit (([(1 : Int)] : List Int).map qaC)), oo, oo], .pre [.rl 10 0 ([(1 : Int)] : List Int).length, .keep [1,2,8,9,10,11] [26]]] hn (aC (qcY h2) <| aC (by kernel_rfl : [(T.int .u32 (1 : Int))] = (([(1 : Int)] : List Int).map qaC).flatten) <| aC r0 <| aC (by simp : 1 = ([(1 : Int)] : List Int).length) <| aN) (ih _ _ h cx hn)
theorem q9R {K} (ih : qkZ K) {cx} (hn : cx.n = 66) {r26 g p a b} {r} (h : qbD (K + 1) (.c1 r26 g p a b) = some r) : qkY cx (.c1 r26 g p a b) r := by
 rw [qbD] at h
 rcases qaQ h with ⟨h1, h⟩ | ⟨h1, h⟩
 ·obtain ⟨x2, h3, h⟩ := qaH h
  obtain ⟨x4, h5, h⟩ := qaH h
  obtain ⟨x6, h7, h⟩ := qaH h
  exact wkG [.go, rgG [oo, opI (.ln (a.length : Int)), oo], bTr, rgG [oo, oo, oo, opI (.call [[1], [1], [0]] [(tl 1 b qaC), (tl 1 a qaC), (ti .u32 p)] (TV.tup [(false, [(T.sl 1 (x2.1.map qaC))]), (false, [(T.sl 1 (x2.2.map qaC))])])), oo, oo, oo, oo, oo], rg4, rgG [oo, oo, oo, oo, .snap 41 (max 0 (0 + r26.length)) (r26.map qaC), opI (.call [[1], [1], [0]] [(tl 1 x2.1 qaC), (tl 1 r26 qaC), (ti .u32 p)] (tl 1 x4 qaC)), oo, opI (.call [[1], [1], [0]] [(TV.c (T.sl 1 ([].map qaC))), (tl 1 x4 qaC), (ti .u32 p)] (tl 1 x6 qaC)), oo, oo, oo], .pre [.rl 11 0 r26.length, .keep [1,2,8,9,10,11] [26]]] hn (aC (qaX a qaC) <| aC h1 <| aC (qcY h3) <| aC (qbJ _ _ _ (by simp) : ((r26.map qaC).drop 0).take r26.length = r26.map qaC) <| aC (rfl : (max 0 (0 + r26.length)) = (max 0 (0 + r26.length))) <| aC (qcF h5) <| aC (qoS h7) <| aC r0 <| aC (lq r26) <| aN) (ih _ _ h cx hn)
 ·obtain ⟨x2, h3, h⟩ := qaH h
  obtain ⟨x4, h5, h⟩ := qaH h
  obtain ⟨x6, h7, h⟩ := qaH h
  obtain ⟨x8, h9, h⟩ := qaH h
  have h := oinj h; subst h
  exact wkR [.go, rgG [oo, opI (.ln (a.length : Int)), oo], bFa, rgG [oo, opI (.ix (qaC x2)), oo, oo, opI (.call [[0], [0]] [(ti .u32 x2), (ti .u32 p)] (TV.tup [(false, [(T.int .u32 x4.1)]), (false, [(T.int .i64 x4.2)])])), oo, oo, oo, oo, oo], rgG [oo, oo, oo, .snap 56 (max 0 (0 + r26.length)) (r26.map qaC), opI (.call [[1], [0], [0]] [(tl 1 r26 qaC), (ti .u32 x4.1), (ti .u32 p)] (tl 1 x6 qaC)), oo, oo, opI (.call [[1], [1], [0]] [(tl 1 x6 qaC), (tl 1 g qaC), (ti .u32 p)] (TV.tup [(false, [(T.sl 1 (x8.1.map qaC))]), (false, [(T.sl 1 (x8.2.map qaC))])])), oo, oo, oo, oo, oo], rg2] hn (aC (qaX a qaC) <| aC h1 <| aC (qa1 h3) <| aC (qbS qaC h3) <| aC (qdI h5) <| aC (qbJ _ _ _ (by simp) : ((r26.map qaC).drop 0).take r26.length = r26.map qaC) <| aC (rfl : (max 0 (0 + r26.length)) = (max 0 (0 + r26.length))) <| aC (qdL h7) <| aC (qcY h9) <| aN)
theorem q9Q {K} (ih : qkZ K) {cx} (hn : cx.n = 66) {r26 fz26 g p a b u} {r} (h : qbD (K + 1) (.c2 r26 fz26 g p a b u) = some r) : qkY cx (.c2 r26 fz26 g p a b u) r := by
 rw [qbD] at h
 rcases qaQ h with ⟨h1, h⟩ | ⟨h1, h⟩
 ·obtain ⟨x2, h3, h⟩ := qaH h
  obtain ⟨x4, h5, h⟩ := qaH h
  obtain ⟨x6, h7, h⟩ := qaH h
  exact wkG [.go, rgG [oo, opI (.ln (a.length : Int)), oo], bTr, rgG [oo, oo, oo, opI (.call [[1], [1], [0]] [(tl 1 b qaC), (tl 1 a qaC), (ti .u32 p)] (TV.tup [(false, [(T.sl 1 (x2.1.map qaC))]), (false, [(T.sl 1 (x2.2.map qaC))])])), oo, oo, oo, oo, oo], rg4, rgG [oo, oo, oo, oo, opI (.call [[1], [1], [0]] [(tl 1 x2.1 qaC), (tl 1 u qaC), (ti .u32 p)] (tl 1 x4 qaC)), oo, .snap 39 (max fz26 (0 + r26.length)) (r26.map qaC), opI (.call [[1], [1], [0]] [(tl 1 r26 qaC), (tl 1 x4 qaC), (ti .u32 p)] (tl 1 x6 qaC)), oo, oo, oo], .pre [.keep [1,2,8,9,10,11] []]] hn (aC (qaX a qaC) <| aC h1 <| aC (qcY h3) <| aC (qcF h5) <| aC (qbJ _ _ _ (by simp) : ((r26.map qaC).drop 0).take r26.length = r26.map qaC) <| aC (rfl : (max fz26 (0 + r26.length)) = (max fz26 (0 + r26.length))) <| aC (qoS h7) <| aN) (ih _ _ h cx hn)
 ·obtain ⟨x2, h3, h⟩ := qaH h
  obtain ⟨x4, h5, h⟩ := qaH h
  obtain ⟨x6, h7, h⟩ := qaH h
  obtain ⟨x8, h9, h⟩ := qaH h
  have h := oinj h; subst h
  exact wkR [.go, rgG [oo, opI (.ln (a.length : Int)), oo], bFa, rgG [oo, opI (.ix (qaC x2)), oo, oo, opI (.call [[0], [0]] [(ti .u32 x2), (ti .u32 p)] (TV.tup [(false, [(T.int .u32 x4.1)]), (false, [(T.int .i64 x4.2)])])), oo, oo, oo, oo, oo], rgG [oo, oo, oo, opI (.call [[1], [0], [0]] [(tl 1 u qaC), (ti .u32 x4.1), (ti .u32 p)] (tl 1 x6 qaC)), oo, oo, opI (.call [[1], [1], [0]] [(tl 1 x6 qaC), (tl 1 g qaC), (ti .u32 p)] (TV.tup [(false, [(T.sl 1 (x8.1.map qaC))]), (false, [(T.sl 1 (x8.2.map qaC))])])), oo, oo, oo, oo, oo], rg2] hn (aC (qaX a qaC) <| aC h1 <| aC (qa1 h3) <| aC (qbS qaC h3) <| aC (qdI h5) <| aC (qdL h7) <| aC (qcY h9) <| aN)
theorem q9P {K} (ih : qkZ K) {cx} (hn : cx.n = 66) {g p a b u v} {r} (h : qbD (K + 1) (.c3 g p a b u v) = some r) : qkY cx (.c3 g p a b u v) r := by
 rw [qbD] at h
 rcases qaQ h with ⟨h1, h⟩ | ⟨h1, h⟩
 ·obtain ⟨x2, h3, h⟩ := qaH h
  obtain ⟨x4, h5, h⟩ := qaH h
  obtain ⟨x6, h7, h⟩ := qaH h
  exact wkG [.go, rgG [oo, opI (.ln (a.length : Int)), oo], bTr, rgG [oo, oo, oo, opI (.call [[1], [1], [0]] [(tl 1 b qaC), (tl 1 a qaC), (ti .u32 p)] (TV.tup [(false, [(T.sl 1 (x2.1.map qaC))]), (false, [(T.sl 1 (x2.2.map qaC))])])), oo, oo, oo, oo, oo], rg4, rgG [oo, oo, oo, oo, opI (.call [[1], [1], [0]] [(tl 1 x2.1 qaC), (tl 1 u qaC), (ti .u32 p)] (tl 1 x4 qaC)), oo, opI (.call [[1], [1], [0]] [(tl 1 v qaC), (tl 1 x4 qaC), (ti .u32 p)] (tl 1 x6 qaC)), oo, oo, oo], .pre [.keep [1,2,8,9,10,11] []]] hn (aC (qaX a qaC) <| aC h1 <| aC (qcY h3) <| aC (qcF h5) <| aC (qoS h7) <| aN) (ih _ _ h cx hn)
 ·obtain ⟨x2, h3, h⟩ := qaH h
  obtain ⟨x4, h5, h⟩ := qaH h
  obtain ⟨x6, h7, h⟩ := qaH h
  obtain ⟨x8, h9, h⟩ := qaH h
  have h := oinj h; subst h
  exact wkR [.go, rgG [oo, opI (.ln (a.length : Int)), oo], bFa, rgG [oo, opI (.ix (qaC x2)), oo, oo, opI (.call [[0], [0]] [(ti .u32 x2), (ti .u32 p)] (TV.tup [(false, [(T.int .u32 x4.1)]), (false, [(T.int .i64 x4.2)])])), oo, oo, oo, oo, oo], rgG [oo, oo, oo, opI (.call [[1], [0], [0]] [(tl 1 u qaC), (ti .u32 x4.1), (ti .u32 p)] (tl 1 x6 qaC)), oo, oo, opI (.call [[1], [1], [0]] [(tl 1 x6 qaC), (tl 1 g qaC), (ti .u32 p)] (TV.tup [(false, [(T.sl 1 (x8.1.map qaC))]), (false, [(T.sl 1 (x8.2.map qaC))])])), oo, oo, oo, oo, oo], rg2] hn (aC (qaX a qaC) <| aC h1 <| aC (qa1 h3) <| aC (qbS qaC h3) <| aC (qdI h5) <| aC (qdL h7) <| aC (qcY h9) <| aN)
theorem qjC : ∀ K : Nat, qkZ K
 | 0, c, r, h => by rw [qbD] at h; cases h
 | K + 1, .c0 .., r, h => fun cx hn => q9S (qjC K) hn h
 | K + 1, .c1 .., r, h => fun cx hn => q9R (qjC K) hn h
 | K + 1, .c2 .., r, h => fun cx hn => q9Q (qjC K) hn h
 | K + 1, .c3 .., r, h => fun cx hn => q9P (qjC K) hn h
theorem q3N {K : Nat} {f : (List Int)} {g : (List Int)} {p : Int} {r : (List Int)} (h : qr6 K f g p = some r) : qc5 prog 181 [(tl 1 f qaC), (tl 1 g qaC), (ti .u32 p)] (tl 1 r qaC) :=
 qa0 [[1]] (by kernel_rfl) (by simp) fun cx hn => qjC K (.c0 f g p) r h cx hn
open Go.Proofs.Try (prog)
inductive qp9 where
 | c0 (f : (List Int)) (g : (List Int)) (p : Int)
def qk2 : Nat → qp9 → Option ((List Int) × (List Int) × (List Int) × Int)
 | 0, _ => none
 | K + 1, .c0 f g p =>
  (qhU K p).bind fun x1 =>
  bif (!x1) then
   some ([], [], [], (1 : Int))
  else
   (qeS K f p).bind fun x4 =>
   (qeS K g p).bind fun x6 =>
   (qw9 K x4 x6 p).bind fun x8 =>
   bif (decide ((x6.length : Int) = (0 : Int))) then
    bif (decide ((x4.length : Int) = (0 : Int))) then
     some ([], [], [], (0 : Int))
    else
     (gi x4 (wI6 ((x4.length : Int) - (1 : Int)))).bind fun x12 =>
     (qb0 K x12 p).bind fun x14 =>
     some (x8, ([x14.1] : List Int), [], (0 : Int))
   else
    (qc3 K x6 x8 p).bind fun x11 =>
    bif (decide ((x11.1.length : Int) = (1 : Int))) then
     (gi x6 (wI6 ((x6.length : Int) - (1 : Int)))).bind fun x14 =>
     (qb0 K x14 p).bind fun x16 =>
     some (x8, [], ([x16.1] : List Int), (0 : Int))
    else
     (qc3 K x4 x8 p).bind fun x14 =>
     (qr6 K x14.1 x11.1 p).bind fun x16 =>
     (qdO K x16 x4 p).bind fun x18 =>
     (qn3 K x8 x18 p).bind fun x20 =>
     (qc3 K x20 x6 p).bind fun x22 =>
     some (x8, x16, x22.1, (0 : Int))
def qlG (K : Nat) (f : (List Int)) (g : (List Int)) (p : Int) : Option ((List Int) × (List Int) × (List Int) × Int) := qk2 K (.c0 f g p)
noncomputable def zcP : Code := qbQ prog 158
noncomputable def ze0 : qp9 → List Fr
 | .c0 .. => [.code zcP]
def zhU : qp9 → St
 | .c0 f g p => St.init [(tl 1 f qaC), (tl 1 g qaC), (ti .u32 p)]
def q6A (cx : Cx) (c : qp9) (r : ((List Int) × (List Int) × (List Int) × Int)) : Prop := Wk prog cx (qc2 prog 158 [[1], [1], [1], [0]] (TV.tup [(false, [(T.sl 1 (r.1.map qaC))]), (false, [(T.sl 1 (r.2.1.map qaC))]), (false, [(T.sl 1 (r.2.2.1.map qaC))]), (false, [(T.int .i64 r.2.2.2)])])) (ze0 c) .normal (zhU c)
abbrev q6B (K : Nat) : Prop := ∀ c r, qk2 K c = some r → ∀ cx : Cx, cx.n = 106 → q6A cx c r
theorem zhV {K} (_ : q6B K) {cx} (hn : cx.n = 106) {f g p} {r} (h : qk2 (K + 1) (.c0 f g p) = some r) : q6A cx (.c0 f g p) r := by
 rw [qk2] at h
 obtain ⟨x1, h2, h⟩ := qaH h
 rcases qaQ h with ⟨h3, h⟩ | ⟨h3, h⟩
 ·have h := oinj h; subst h
  exact wkR [rg4, rgG [oo, opI (.call [[0]] [(ti .u32 p)] (TV.c (T.bool x1))), oo], bTr, rg4] hn (aC (qbT h2) <| aC h3 <| aN)
 ·obtain ⟨x4, h5, h⟩ := qaH h
  obtain ⟨x6, h7, h⟩ := qaH h
  obtain ⟨x8, h9, h⟩ := qaH h
  rcases qaQ h with ⟨h10, h⟩ | ⟨h10, h⟩
  ·rcases qaQ h with ⟨h11, h⟩ | ⟨h11, h⟩
   ·have h := oinj h; subst h
    exact wkR [rg4, rgG [oo, opI (.call [[0]] [(ti .u32 p)] (TV.c (T.bool x1))), oo], bFa, rgG [oo, oo, opI (.call [[1], [0]] [(tl 1 f qaC), (ti .u32 p)] (tl 1 x4 qaC)), oo, oo, opI (.call [[1], [0]] [(tl 1 g qaC), (ti .u32 p)] (tl 1 x6 qaC)), oo, oo], rgG [oo, oo, oo, opI (.call [[1], [1], [0]] [(tl 1 x4 qaC), (tl 1 x6 qaC), (ti .u32 p)] (tl 1 x8 qaC)), oo], rgG [oo, opI (.ln (x6.length : Int)), oo], bTr, rgG [oo, opI (.ln (x4.length : Int)), oo], bTr, rg4] hn (aC (qbT h2) <| aC h3 <| aC (qbU h5) <| aC (qbU h7) <| aC (qk0 h9) <| aC (qaX x6 qaC) <| aC h10 <| aC (qaX x4 qaC) <| aC h11 <| aN)
   ·obtain ⟨x12, h13, h⟩ := qaH h
    obtain ⟨x14, h15, h⟩ := qaH h
    have h := oinj h; subst h
    exact wkR [rg4, rgG [oo, opI (.call [[0]] [(ti .u32 p)] (TV.c (T.bool x1))), oo], bFa, rgG [oo, oo, opI (.call [[1], [0]] [(tl 1 f qaC), (ti .u32 p)] (tl 1 x4 qaC)), oo, oo, opI (.call [[1], [0]] [(tl 1 g qaC), (ti .u32 p)] (tl 1 x6 qaC)), oo, oo], rgG [oo, oo, oo, opI (.call [[1], [1], [0]] [(tl 1 x4 qaC), (tl 1 x6 qaC), (ti .u32 p)] (tl 1 x8 qaC)), oo], rgG [oo, opI (.ln (x6.length : Int)), oo], bTr, rgG [oo, opI (.ln (x4.length : Int)), oo], bFa, rgG [oo, oo, opI (.ln (x4.length : Int)), oo, opI (.ix (qaC x12)), oo, oo, opI (.call [[0], [0]] [(ti .u32 x12), (ti .u32 p)] (TV.tup [(false, [(T.int .u32 x14.1)]), (false, [(T.int .i64 x14.2)])])), oo, oo, oo, oo, oo], rgG [oo, oo, opI (.lit (([x14.1] : List Int).map qaC)), oo, oo, oo, oo, .snap 7 (max 0 (0 + 1)) (([x14.1] : List Int).map qaC)]] hn (aC (qbT h2) <| aC h3 <| aC (qbU h5) <| aC (qbU h7) <| aC (qk0 h9) <| aC (qaX x6 qaC) <| aC h10 <| aC (qaX x4 qaC) <| aC h11 <| aC (qaX x4 qaC) <| aC (qa1 h13) <| aC (qbS qaC h13) <| aC (qdI h15) <| aC (by kernel_rfl : [(T.int .u32 x14.1)] = (([x14.1] : List Int).map qaC).flatten) <| aC (qbJ _ _ _ (by simp) : ((([x14.1] : List Int).map qaC).drop 0).take 1 = ([x14.1] : List Int).map qaC) <| aC (rfl : (max 0 (0 + 1)) = (max 0 (0 + 1))) <| aN)
  ·obtain ⟨x11, h12, h⟩ := qaH h
   rcases qaQ h with ⟨h13, h⟩ | ⟨h13, h⟩
   ·obtain ⟨x14, h15, h⟩ := qaH h
    obtain ⟨x16, h17, h⟩ := qaH h
    have h := oinj h; subst h
    exact wkR [rg4, rgG [oo, opI (.call [[0]] [(ti .u32 p)] (TV.c (T.bool x1))), oo], bFa, rgG [oo, oo, opI (.call [[1], [0]] [(tl 1 f qaC), (ti .u32 p)] (tl 1 x4 qaC)), oo, oo, opI (.call [[1], [0]] [(tl 1 g qaC), (ti .u32 p)] (tl 1 x6 qaC)), oo, oo], rgG [oo, oo, oo, opI (.call [[1], [1], [0]] [(tl 1 x4 qaC), (tl 1 x6 qaC), (ti .u32 p)] (tl 1 x8 qaC)), oo], rgG [oo, opI (.ln (x6.length : Int)), oo], bFa, rgG [oo, oo, oo, opI (.call [[1], [1], [0]] [(tl 1 x6 qaC), (tl 1 x8 qaC), (ti .u32 p)] (TV.tup [(false, [(T.sl 1 (x11.1.map qaC))]), (false, [(T.sl 1 (x11.2.map qaC))])])), oo, oo, oo, oo, oo], rgG [oo, opI (.ln (x11.1.length : Int)), oo], bTr, rgG [oo, oo, opI (.ln (x6.length : Int)), oo, opI (.ix (qaC x14)), oo, oo, opI (.call [[0], [0]] [(ti .u32 x14), (ti .u32 p)] (TV.tup [(false, [(T.int .u32 x16.1)]), (false, [(T.int .i64 x16.2)])])), oo, oo, oo, oo, oo], rgG [oo, oo, opI (.lit (([x16.1] : List Int).map qaC)), oo, oo, oo, oo, .snap 8 (max 0 (0 + 1)) (([x16.1] : List Int).map qaC)]] hn (aC (qbT h2) <| aC h3 <| aC (qbU h5) <| aC (qbU h7) <| aC (qk0 h9) <| aC (qaX x6 qaC) <| aC h10 <| aC (qcY h12) <| aC (qaX x11.1 qaC) <| aC h13 <| aC (qaX x6 qaC) <| aC (qa1 h15) <| aC (qbS qaC h15) <| aC (qdI h17) <| aC (by kernel_rfl : [(T.int .u32 x16.1)] = (([x16.1] : List Int).map qaC).flatten) <| aC (qbJ _ _ _ (by simp) : ((([x16.1] : List Int).map qaC).drop 0).take 1 = ([x16.1] : List Int).map qaC) <| aC (rfl : (max 0 (0 + 1)) = (max 0 (0 + 1))) <| aN)
   ·obtain ⟨x14, h15, h⟩ := qaH h
    obtain ⟨x16, h17, h⟩ := qaH h
    obtain ⟨x18, h19, h⟩ := qaH h
    obtain ⟨x20, h21, h⟩ := qaH h
    obtain ⟨x22, h23, h⟩ := qaH h
    have h := oinj h; subst h
    exact wkR [rg4, rgG [oo, opI (.call [[0]] [(ti .u32 p)] (TV.c (T.bool x1))), oo], bFa, rgG [oo, oo, opI (.call [[1], [0]] [(tl 1 f qaC), (ti .u32 p)] (tl 1 x4 qaC)), oo, oo, opI (.call [[1], [0]] [(tl 1 g qaC), (ti .u32 p)] (tl 1 x6 qaC)), oo, oo], rgG [oo, oo, oo, opI (.call [[1], [1], [0]] [(tl 1 x4 qaC), (tl 1 x6 qaC), (ti .u32 p)] (tl 1 x8 qaC)), oo], rgG [oo, opI (.ln (x6.length : Int)), oo], bFa, rgG [oo, oo, oo, opI (.call [[1], [1], [0]] [(tl 1 x6 qaC), (tl 1 x8 qaC), (ti .u32 p)] (TV.tup [(false, [(T.sl 1 (x11.1.map qaC))]), (false, [(T.sl 1 (x11.2.map qaC))])])), oo, oo, oo, oo, oo], rgG [oo, opI (.ln (x11.1.length : Int)), oo], bFa, rgG [oo, oo, oo, opI (.call [[1], [1], [0]] [(tl 1 x4 qaC), (tl 1 x8 qaC), (ti .u32 p)] (TV.tup [(false, [(T.sl 1 (x14.1.map qaC))]), (false, [(T.sl 1 (x14.2.map qaC))])])), oo, oo, oo, oo, oo], rgG [oo, oo, oo, opI (.call [[1], [1], [0]] [(tl 1 x14.1 qaC), (tl 1 x11.1 qaC), (ti .u32 p)] (tl 1 x16 qaC)), oo], rgG [oo, oo, oo, oo, opI (.call [[1], [1], [0]] [(tl 1 x16 qaC), (tl 1 x4 qaC), (ti .u32 p)] (tl 1 x18 qaC)), oo, opI (.call [[1], [1], [0]] [(tl 1 x8 qaC), (tl 1 x18 qaC), (ti .u32 p)] (tl 1 x20 qaC)), oo], rgG [oo, oo, oo, opI (.call [[1], [1], [0]] [(tl 1 x20 qaC), (tl 1 x6 qaC), (ti .u32 p)] (TV.tup [(false, [(T.sl 1 (x22.1.map qaC))]), (false, [(T.sl 1 (x22.2.map qaC))])])), oo, oo, oo, oo], rgG [oo, oo, oo, oo, oo, oo, oo]] hn (aC (qbT h2) <| aC h3 <| aC (qbU h5) <| aC (qbU h7) <| aC (qk0 h9) <| aC (qaX x6 qaC) <| aC h10 <| aC (qcY h12) <| aC (qaX x11.1 qaC) <| aC h13 <| aC (qcY h15) <| aC (q3N h17) <| aC (qcF h19) <| aC (qoS h21) <| aC (qcY h23) <| aN)
theorem q1Z : ∀ K : Nat, q6B K
 | 0, c, r, h => by rw [qk2] at h; cases h
 | K + 1, .c0 .., r, h => fun cx hn => zhV (q1Z K) hn h
theorem qnG {K : Nat} {f : (List Int)} {g : (List Int)} {p : Int} {r : ((List Int) × (List Int) × (List Int) × Int)} (h : qlG K f g p = some r) : qc5 prog 158 [(tl 1 f qaC), (tl 1 g qaC), (ti .u32 p)] (TV.tup [(false, [(T.sl 1 (r.1.map qaC))]), (false, [(T.sl 1 (r.2.1.map qaC))]), (false, [(T.sl 1 (r.2.2.1.map qaC))]), (false, [(T.int .i64 r.2.2.2)])]) :=
 qa0 [[1], [1], [1], [0]] (by kernel_rfl) (by simp) fun cx hn => q1Z K (.c0 f g p) r h cx hn
open Go.Proofs.Try (prog)
inductive qkM where
 | c0 (list : (List (List Int))) (p : Int)
 | c1 (list : (List (List Int))) (p : Int) (t20 : (List (List Int))) (t21 : Int) (t22 : Int)
 | c2 (r27 : (List Int)) (list : (List (List Int))) (p : Int) (i : Int) (g : (List Int)) (t20 : (List (List Int))) (t21 : Int) (t22 : Int) (t28 : (List (List Int))) (t29 : Int) (t30 : Int)
 | c3 (list : (List (List Int))) (p : Int) (i : Int) (g : (List Int)) (others : (List Int)) (t20 : (List (List Int))) (t21 : Int) (t22 : Int) (t28 : (List (List Int))) (t29 : Int) (t30 : Int)
 | c4 (r27 : (List Int)) (list : (List (List Int))) (p : Int) (i : Int) (g : (List Int)) (t20 : (List (List Int))) (t21 : Int) (t22 : Int) (t28 : (List (List Int))) (t29 : Int) (t30 : Int)
 | c5 (r74 : (List (List Int))) (list : (List (List Int))) (p : Int) (t20 : (List (List Int))) (t21 : Int) (t22 : Int)
 | c6 (list : (List (List Int))) (p : Int) (i : Int) (g : (List Int)) (others : (List Int)) (t20 : (List (List Int))) (t21 : Int) (t22 : Int) (t28 : (List (List Int))) (t29 : Int) (t30 : Int)
 | c7 (r27 : (List Int)) (r74 : (List (List Int))) (list : (List (List Int))) (p : Int) (i : Int) (g : (List Int)) (t20 : (List (List Int))) (t21 : Int) (t22 : Int) (t28 : (List (List Int))) (t29 : Int) (t30 : Int)
 | c8 (r74 : (List (List Int))) (list : (List (List Int))) (p : Int) (i : Int) (g : (List Int)) (others : (List Int)) (t20 : (List (List Int))) (t21 : Int) (t22 : Int) (t28 : (List (List Int))) (t29 : Int) (t30 : Int)
 | c9 (r27 : (List Int)) (r74 : (List (List Int))) (list : (List (List Int))) (p : Int) (i : Int) (g : (List Int)) (t20 : (List (List Int))) (t21 : Int) (t22 : Int) (t28 : (List (List Int))) (t29 : Int) (t30 : Int)
 | c10 (r74 : (List (List Int))) (list : (List (List Int))) (p : Int) (i : Int) (g : (List Int)) (others : (List Int)) (t20 : (List (List Int))) (t21 : Int) (t22 : Int) (t28 : (List (List Int))) (t29 : Int) (t30 : Int)
def qaI : Nat → qkM → Option (List (List Int))
 | 0, _ => none
 | K + 1, .c0 list p =>
  qaI K (.c1 list p list (list.length : Int) (0 : Int))
 | K + 1, .c1 list p t20 t21 t22 =>
  bif (decide (t22 < t21)) then
   (gi t20 t22).bind fun x2 =>
   qaI K (.c2 ([(1 : Int)] : List Int) list p t22 x2 t20 t21 t22 list (list.length : Int) (0 : Int))
  else
   some []
 | K + 1, .c2 r27 list p i g t20 t21 t22 t28 t29 t30 =>
  bif (decide (t30 < t29)) then
   (gi t28 t30).bind fun x2 =>
   bif (!decide (i = t30)) then
    (qdO K r27 x2 p).bind fun x5 =>
    qaI K (.c3 list p i g x5 t20 t21 t22 t28 t29 t30)
   else
    qaI K (.c4 r27 list p i g t20 t21 t22 t28 t29 t30)
  else
   (qlG K r27 g p).bind fun x2 =>
   (gi x2.1 (0 : Int)).bind fun x4 =>
   (qb0 K x4 p).bind fun x6 =>
   (qeC K x2.2.1 x6.1 p).bind fun x8 =>
   (qdR K x8 g p).bind fun x10 =>
   qaI K (.c5 ([x10.2.1] : List (List Int)) list p t20 t21 (wI6 (t22 + (1 : Int))))
 | K + 1, .c3 list p i g others t20 t21 t22 t28 t29 t30 =>
  qaI K (.c6 list p i g others t20 t21 t22 t28 t29 (wI6 (t30 + (1 : Int))))
 | K + 1, .c4 r27 list p i g t20 t21 t22 t28 t29 t30 =>
  qaI K (.c2 r27 list p i g t20 t21 t22 t28 t29 (wI6 (t30 + (1 : Int))))
 | K + 1, .c5 r74 list p t20 t21 t22 =>
  bif (decide (t22 < t21)) then
   (gi t20 t22).bind fun x2 =>
   qaI K (.c7 ([(1 : Int)] : List Int) r74 list p t22 x2 t20 t21 t22 list (list.length : Int) (0 : Int))
  else
   some r74
 | K + 1, .c6 list p i g others t20 t21 t22 t28 t29 t30 =>
  bif (decide (t30 < t29)) then
   (gi t28 t30).bind fun x2 =>
   bif (!decide (i = t30)) then
    (qdO K others x2 p).bind fun x5 =>
    qaI K (.c3 list p i g x5 t20 t21 t22 t28 t29 t30)
   else
    qaI K (.c3 list p i g others t20 t21 t22 t28 t29 t30)
  else
   (qlG K others g p).bind fun x2 =>
   (gi x2.1 (0 : Int)).bind fun x4 =>
   (qb0 K x4 p).bind fun x6 =>
   (qeC K x2.2.1 x6.1 p).bind fun x8 =>
   (qdR K x8 g p).bind fun x10 =>
   qaI K (.c5 ([x10.2.1] : List (List Int)) list p t20 t21 (wI6 (t22 + (1 : Int))))
 | K + 1, .c7 r27 r74 list p i g t20 t21 t22 t28 t29 t30 =>
  bif (decide (t30 < t29)) then
   (gi t28 t30).bind fun x2 =>
   bif (!decide (i = t30)) then
    (qdO K r27 x2 p).bind fun x5 =>
    qaI K (.c8 r74 list p i g x5 t20 t21 t22 t28 t29 t30)
   else
    qaI K (.c9 r27 r74 list p i g t20 t21 t22 t28 t29 t30)
  else
   (qlG K r27 g p).bind fun x2 =>
   (gi x2.1 (0 : Int)).bind fun x4 =>
   (qb0 K x4 p).bind fun x6 =>
   (qeC K x2.2.1 x6.1 p).bind fun x8 =>
   (qdR K x8 g p).bind fun x10 =>
   gd ((r74 ++ ([x10.2.1] : List (List Int))).length * 24 ≤ 140737488355328) <|
   qaI K (.c5 (r74 ++ ([x10.2.1] : List (List Int))) list p t20 t21 (wI6 (t22 + (1 : Int))))
 | K + 1, .c8 r74 list p i g others t20 t21 t22 t28 t29 t30 =>
  qaI K (.c10 r74 list p i g others t20 t21 t22 t28 t29 (wI6 (t30 + (1 : Int))))
 | K + 1, .c9 r27 r74 list p i g t20 t21 t22 t28 t29 t30 =>
  qaI K (.c7 r27 r74 list p i g t20 t21 t22 t28 t29 (wI6 (t30 + (1 : Int))))
 | K + 1, .c10 r74 list p i g others t20 t21 t22 t28 t29 t30 =>
  bif (decide (t30 < t29)) then
   (gi t28 t30).bind fun x2 =>
   bif (!decide (i = t30)) then
    (qdO K others x2 p).bind fun x5 =>
    qaI K (.c8 r74 list p i g x5 t20 t21 t22 t28 t29 t30)
   else
    qaI K (.c8 r74 list p i g others t20 t21 t22 t28 t29 t30)
  else
   (qlG K others g p).bind fun x2 =>
   (gi x2.1 (0 : Int)).bind fun x4 =>
   (qb0 K x4 p).bind fun x6 =>
   (qeC K x2.2.1 x6.1 p).bind fun x8 =>
   (qdR K x8 g p).bind fun x10 =>
   gd ((r74 ++ ([x10.2.1] : List (List Int))).length * 24 ≤ 140737488355328) <|
   qaI K (.c5 (r74 ++ ([x10.2.1] : List (List Int))) list p t20 t21 (wI6 (t22 + (1 : Int))))
def qqI (K : Nat) (list : (List (List Int))) (p : Int) : Option (List (List Int)) := qaI K (.c0 list p)
noncomputable def qaR : Code := qbQ prog 115
noncomputable def q47 : qkM → List Fr
 | .c0 .. => [.code qaR]
 | .c1 .. => [.code (.loop (atC qaR [1,1,0,1,0,0])), .blk 0, .code (atC qaR [1,1,1])]
 | .c2 .. => [.code (.loop (atC qaR [1,1,0,1,0,0,1,1,0,0,1,1,0,1,0,0])), .blk 2, .code (atC qaR [1,1,0,1,0,0,1,1,0,0,1,1,1]), .blk 1, .code (atC qaR [1,1,0,1,0,0,1,1,1]), .lp (atC qaR [1,1,0,1,0,0]), .blk 0, .code (atC qaR [1,1,1])]
 | .c3 .. => [.code (atC qaR [1,1,0,1,0,0,1,1,0,0,1,1,0,1,0,0,1,1,1]), .lp (atC qaR [1,1,0,1,0,0,1,1,0,0,1,1,0,1,0,0]), .blk 2, .code (atC qaR [1,1,0,1,0,0,1,1,0,0,1,1,1]), .blk 1, .code (atC qaR [1,1,0,1,0,0,1,1,1]), .lp (atC qaR [1,1,0,1,0,0]), .blk 0, .code (atC qaR [1,1,1])]
 | .c4 .. => [.code (atC qaR [1,1,0,1,0,0,1,1,0,0,1,1,0,1,0,0,1,1,1]), .lp (atC qaR [1,1,0,1,0,0,1,1,0,0,1,1,0,1,0,0]), .blk 2, .code (atC qaR [1,1,0,1,0,0,1,1,0,0,1,1,1]), .blk 1, .code (atC qaR [1,1,0,1,0,0,1,1,1]), .lp (atC qaR [1,1,0,1,0,0]), .blk 0, .code (atC qaR [1,1,1])]
 | .c5 .. => [.code (.loop (atC qaR [1,1,0,1,0,0])), .blk 0, .code (atC qaR [1,1,1])]
 | .c6 .. => [.code (.loop (atC qaR [1,1,0,1,0,0,1,1,0,0,1,1,0,1,0,0])), .blk 2, .code (atC qaR [1,1,0,1,0,0,1,1,0,0,1,1,1]), .blk 1, .code (atC qaR [1,1,0,1,0,0,1,1,1]), .lp (atC qaR [1,1,0,1,0,0]), .blk 0, .code (atC qaR [1,1,1])]
 | .c7 .. => [.code (.loop (atC qaR [1,1,0,1,0,0,1,1,0,0,1,1,0,1,0,0])), .blk 2, .code (atC qaR [1,1,0,1,0,0,1,1,0,0,1,1,1]), .blk 1, .code (atC qaR [1,1,0,1,0,0,1,1,1]), .lp (atC qaR [1,1,0,1,0,0]), .blk 0, .code (atC qaR [1,1,1])]
 | .c8 .. => [.code (atC qaR [1,1,0,1,0,0,1,1,0,0,1,1,0,1,0,0,1,1,1]), .lp (atC qaR [1,1,0,1,0,0,1,1,0,0,1,1,0,1,0,0]), .blk 2, .code (atC qaR [1,1,0,1,0,0,1,1,0,0,1,1,1]), .blk 1, .code (atC qaR [1,1,0,1,0,0,1,1,1]), .lp (atC qaR [1,1,0,1,0,0]), .blk 0, .code (atC qaR [1,1,1])]
 | .c9 .. => [.code (atC qaR [1,1,0,1,0,0,1,1,0,0,1,1,0,1,0,0,1,1,1]), .lp (atC qaR [1,1,0,1,0,0,1,1,0,0,1,1,0,1,0,0]), .blk 2, .code (atC qaR [1,1,0,1,0,0,1,1,0,0,1,1,1]), .blk 1, .code (atC qaR [1,1,0,1,0,0,1,1,1]), .lp (atC qaR [1,1,0,1,0,0]), .blk 0, .code (atC qaR [1,1,1])]
 | .c10 .. => [.code (.loop (atC qaR [1,1,0,1,0,0,1,1,0,0,1,1,0,1,0,0])), .blk 2, .code (atC qaR [1,1,0,1,0,0,1,1,0,0,1,1,1]), .blk 1, .code (atC qaR [1,1,0,1,0,0,1,1,1]), .lp (atC qaR [1,1,0,1,0,0]), .blk 0, .code (atC qaR [1,1,1])]
def q7S : qkM → St
 | .c0 list p => St.init [(tl 1 list qaF), (ti .u32 p)]
 | .c1 list p t20 t21 t22 => ⟨[(0, vl 1 list qaF), (1, vi .u32 p), (5, .c (C.nil)), (20, vl 1 t20 qaF), (21, vi .i64 t21), (22, vi .i64 t22)], [], []⟩
 | .c2 r27 list p i g t20 t21 t22 t28 t29 t30 => ⟨[(0, vl 1 list qaF), (1, vi .u32 p), (5, .c (C.nil)), (6, vi .i64 i), (7, vl 1 g qaC), (8, .c (C.row 27 0 r27.length)), (20, vl 1 t20 qaF), (21, vi .i64 t21), (22, vi .i64 t22), (28, vl 1 t28 qaF), (29, vi .i64 t29), (30, vi .i64 t30)], [(27, .row 101 1 (r27.map qaC) 0)], []⟩
 | .c3 list p i g others t20 t21 t22 t28 t29 t30 => ⟨[(0, vl 1 list qaF), (1, vi .u32 p), (5, .c (C.nil)), (6, vi .i64 i), (7, vl 1 g qaC), (8, vl 1 others qaC), (20, vl 1 t20 qaF), (21, vi .i64 t21), (22, vi .i64 t22), (28, vl 1 t28 qaF), (29, vi .i64 t29), (30, vi .i64 t30)], [], []⟩
 | .c4 r27 list p i g t20 t21 t22 t28 t29 t30 => ⟨[(0, vl 1 list qaF), (1, vi .u32 p), (5, .c (C.nil)), (6, vi .i64 i), (7, vl 1 g qaC), (8, .c (C.row 27 0 r27.length)), (20, vl 1 t20 qaF), (21, vi .i64 t21), (22, vi .i64 t22), (28, vl 1 t28 qaF), (29, vi .i64 t29), (30, vi .i64 t30)], [(27, .row 101 1 (r27.map qaC) 0)], []⟩
 | .c5 r74 list p t20 t21 t22 => ⟨[(0, vl 1 list qaF), (1, vi .u32 p), (5, .c (C.row 74 0 r74.length)), (20, vl 1 t20 qaF), (21, vi .i64 t21), (22, vi .i64 t22)], [(74, .row 114 1 (r74.map qaF) 0)], []⟩
 | .c6 list p i g others t20 t21 t22 t28 t29 t30 => ⟨[(0, vl 1 list qaF), (1, vi .u32 p), (5, .c (C.nil)), (6, vi .i64 i), (7, vl 1 g qaC), (8, vl 1 others qaC), (20, vl 1 t20 qaF), (21, vi .i64 t21), (22, vi .i64 t22), (28, vl 1 t28 qaF), (29, vi .i64 t29), (30, vi .i64 t30)], [], []⟩
 | .c7 r27 r74 list p i g t20 t21 t22 t28 t29 t30 => ⟨[(0, vl 1 list qaF), (1, vi .u32 p), (5, .c (C.row 74 0 r74.length)), (6, vi .i64 i), (7, vl 1 g qaC), (8, .c (C.row 27 0 r27.length)), (20, vl 1 t20 qaF), (21, vi .i64 t21), (22, vi .i64 t22), (28, vl 1 t28 qaF), (29, vi .i64 t29), (30, vi .i64 t30)], [(27, .row 101 1 (r27.map qaC) 0), (74, .row 114 1 (r74.map qaF) 0)], []⟩
 | .c8 r74 list p i g others t20 t21 t22 t28 t29 t30 => ⟨[(0, vl 1 list qaF), (1, vi .u32 p), (5, .c (C.row 74 0 r74.length)), (6, vi .i64 i), (7, vl 1 g qaC), (8, vl 1 others qaC), (20, vl 1 t20 qaF), (21, vi .i64 t21), (22, vi .i64 t22), (28, vl 1 t28 qaF), (29, vi .i64 t29), (30, vi .i64 t30)], [(74, .row 114 1 (r74.map qaF) 0)], []⟩
 | .c9 r27 r74 list p i g t20 t21 t22 t28 t29 t30 => ⟨[(0, vl 1 list qaF), (1, vi .u32 p), (5, .c (C.row 74 0 r74.length)), (6, vi .i64 i), (7, vl 1 g qaC), (8, .c (C.row 27 0 r27.length)), (20, vl 1 t20 qaF), (21, vi .i64 t21), (22, vi .i64 t22), (28, vl 1 t28 qaF), (29, vi .i64 t29), (30, vi .i64 t30)], [(27, .row 101 1 (r27.map qaC) 0), (74, .row 114 1 (r74.map qaF) 0)], []⟩
 | .c10 r74 list p i g others t20 t21 t22 t28 t29 t30 => ⟨[(0, vl 1 list qaF), (1, vi .u32 p), (5, .c (C.row 74 0 r74.length)), (6, vi .i64 i), (7, vl 1 g qaC), (8, vl 1 others qaC), (20, vl 1 t20 qaF), (21, vi .i64 t21), (22, vi .i64 t22), (28, vl 1 t28 qaF), (29, vi .i64 t29), (30, vi .i64 t30)], [(74, .row 114 1 (r74.map qaF) 0)], []⟩
def qdY (cx : Cx) (c : qkM) (r : (List (List Int))) : Prop := Wk prog cx (qc2 prog 115 [[1]] (tl 1 r qaF)) (q47 c) .normal (q7S c)
abbrev qdZ (K : Nat) : Prop := ∀ c r, qaI K c = some r → ∀ cx : Cx, cx.n = 77 → qdY cx c r
theorem q72 {K} (ih : qdZ K) {cx} (hn : cx.n = 77) {list p} {r} (h : qaI (K + 1) (.c0 list p) = some r) : qdY cx (.c0 list p) r := by
 rw [qaI] at h
 exact wkG [rg1, rg1, rgG [oo, opI (.ln (list.length : Int)), oo], .pre [.keep [0,1,5,20,21,22] []]] hn (aC (qaX list qaF) <| aN) (ih _ _ h cx hn)
theorem q71 {K} (ih : qdZ K) {cx} (hn : cx.n = 77) {list p t20 t21 t22} {r} (h : qaI (K + 1) (.c1 list p t20 t21 t22) = some r) : qdY cx (.c1 list p t20 t21 t22) r := by
 rw [qaI] at h
 rcases qaQ h with ⟨h1, h⟩ | ⟨h1, h⟩
 ·obtain ⟨x2, h3, h⟩ := qaH h
  exact wkG [.go, rg1, bTr, rgG [oo, opI (.ix (qaF x2)), oo, oo, oo], rgG [opI (.lit (([(1 : Int)] : List Int).map qaC)), oo], rgG [oo, opI (.ln (list.length : Int)), oo], .pre [.rl 8 0 ([(1 : Int)] : List Int).length, .keep [0,1,5,6,7,8,20,21,22,28,29,30] [27]]] hn (aC h1 <| aC (qa1 h3) <| aC (qbS qaF h3) <| aC (by kernel_rfl : [(T.int .u32 (1 : Int))] = (([(1 : Int)] : List Int).map qaC).flatten) <| aC (qaX list qaF) <| aC r0 <| aC (by simp : 1 = ([(1 : Int)] : List Int).length) <| aN) (ih _ _ h cx hn)
 ·have h := oinj h; subst h
  exact wkR [.go, rg1, bFa, rg2] hn (aC h1 <| aN)
theorem q70 {K} (ih : qdZ K) {cx} (hn : cx.n = 77) {r27 list p i g t20 t21 t22 t28 t29 t30} {r} (h : qaI (K + 1) (.c2 r27 list p i g t20 t21 t22 t28 t29 t30) = some r) : qdY cx (.c2 r27 list p i g t20 t21 t22 t28 t29 t30) r := by
 rw [qaI] at h
 rcases qaQ h with ⟨h1, h⟩ | ⟨h1, h⟩
 ·obtain ⟨x2, h3, h⟩ := qaH h
  rcases qaQ h with ⟨h4, h⟩ | ⟨h4, h⟩
  ·obtain ⟨x5, h6, h⟩ := qaH h
   exact wkG [.go, rg1, bTr, rgG [oo, opI (.ix (qaF x2)), oo, oo, oo], rg3, bTr, rgG [oo, oo, oo, .snap 38 (max 0 (0 + r27.length)) (r27.map qaC), opI (.call [[1], [1], [0]] [(tl 1 r27 qaC), (tl 1 x2 qaC), (ti .u32 p)] (tl 1 x5 qaC)), oo], .pre [.keep [0,1,5,6,7,8,20,21,22,28,29,30] []]] hn (aC h1 <| aC (qa1 h3) <| aC (qbS qaF h3) <| aC h4 <| aC (qbJ _ _ _ (by simp) : ((r27.map qaC).drop 0).take r27.length = r27.map qaC) <| aC (rfl : (max 0 (0 + r27.length)) = (max 0 (0 + r27.length))) <| aC (qcF h6) <| aN) (ih _ _ h cx hn)
  ·exact wkG [.go, rg1, bTr, rgG [oo, opI (.ix (qaF x2)), oo, oo, oo], rg3, bFa, .pre [.rl 8 0 r27.length, .keep [0,1,5,6,7,8,20,21,22,28,29,30] [27]]] hn (aC h1 <| aC (qa1 h3) <| aC (qbS qaF h3) <| aC h4 <| aC r0 <| aC (lq r27) <| aN) (ih _ _ h cx hn)
 ·obtain ⟨x2, h3, h⟩ := qaH h
  obtain ⟨x4, h5, h⟩ := qaH h
  obtain ⟨x6, h7, h⟩ := qaH h
  obtain ⟨x8, h9, h⟩ := qaH h
  obtain ⟨x10, h11, h⟩ := qaH h
  exact wkG [.go, rg1, bFa, rgG [oo, oo, oo, .snap 44 (max 0 (0 + r27.length)) (r27.map qaC), opI (.call [[1], [1], [0]] [(tl 1 r27 qaC), (tl 1 g qaC), (ti .u32 p)] (TV.tup [(false, [(T.sl 1 (x2.1.map qaC))]), (false, [(T.sl 1 (x2.2.1.map qaC))]), (false, [(T.sl 1 (x2.2.2.1.map qaC))]), (false, [(T.int .i64 x2.2.2.2)])])), oo, oo, oo, oo, oo, oo, oo, oo, oo], rgG [oo, opI (.ix (qaC x4)), oo, oo, opI (.call [[0], [0]] [(ti .u32 x4), (ti .u32 p)] (TV.tup [(false, [(T.int .u32 x6.1)]), (false, [(T.int .i64 x6.2)])])), oo, oo, oo, oo, oo], rgG [oo, oo, oo, opI (.call [[1], [0], [0]] [(TV.c (T.sl 1 (x2.2.1.map qaC))), (ti .u32 x6.1), (ti .u32 p)] (tl 1 x8 qaC)), oo, oo, opI (.call [[1], [1], [0]] [(tl 1 x8 qaC), (tl 1 g qaC), (ti .u32 p)] (TV.tup [(false, [(T.sl 1 (x10.1.map qaC))]), (false, [(T.sl 1 (x10.2.1.map qaC))]), (false, [(T.int .i64 x10.2.2)])])), oo, oo, oo, oo, oo, oo, oo], rgG [oo, oo, opI (.lit (([x10.2.1] : List (List Int)).map qaF)), opI (.appN (([x10.2.1] : List (List Int)).map qaF)), oo], rg2, .pre [.rl 5 0 ([x10.2.1] : List (List Int)).length, .keep [0,1,5,20,21,22] [74]]] hn (aC h1 <| aC (qbJ _ _ _ (by simp) : ((r27.map qaC).drop 0).take r27.length = r27.map qaC) <| aC (rfl : (max 0 (0 + r27.length)) = (max 0 (0 + r27.length))) <| aC (qnG h3) <| aC (qa1 h5) <| aC (qbS qaC h5) <| aC (qdI h7) <| aC (qdL h9) <| aC (qdC h11) <| aC (by kernel_rfl : [(T.sl 1 (x10.2.1.map qaC))] = (([x10.2.1] : List (List Int)).map qaF).flatten) <| aC (qbJ _ _ _ (by simp) : ((([x10.2.1] : List (List Int)).map qaF).drop 0).take 1 = ([x10.2.1] : List (List Int)).map qaF) <| aC (by simp : 0 < (([x10.2.1] : List (List Int)).map qaF).length) <| aC (by simp : (([x10.2.1] : List (List Int)).map qaF).length * 24 ≤ 140737488355328) <| aC (by simp [maxLen] : (([x10.2.1] : List (List Int)).map qaF).length ≤ maxLen) <| aC r0 <| aC (by simp : (([x10.2.1] : List (List Int)).map qaF).length = ([x10.2.1] : List (List Int)).length) <| aN) (ih _ _ h cx hn)
theorem q7Z {K} (ih : qdZ K) {cx} (hn : cx.n = 77) {list p i g others t20 t21 t22 t28 t29 t30} {r} (h : qaI (K + 1) (.c3 list p i g others t20 t21 t22 t28 t29 t30) = some r) : qdY cx (.c3 list p i g others t20 t21 t22 t28 t29 t30) r := by
 rw [qaI] at h
 exact zrC (fuel := 44) [rg2, .pre [.keep [0,1,5,6,7,8,20,21,22,28,29,30] []]] _ hn (by kernel_rfl) aN (ih _ _ h cx hn)
theorem q7Y {K} (ih : qdZ K) {cx} (hn : cx.n = 77) {r27 list p i g t20 t21 t22 t28 t29 t30} {r} (h : qaI (K + 1) (.c4 r27 list p i g t20 t21 t22 t28 t29 t30) = some r) : qdY cx (.c4 r27 list p i g t20 t21 t22 t28 t29 t30) r := by
 rw [qaI] at h
 exact wkG [rg2, .pre [.rl 8 0 r27.length, .keep [0,1,5,6,7,8,20,21,22,28,29,30] [27]]] hn (aC r0 <| aC (lq r27) <| aN) (ih _ _ h cx hn)
theorem q7X {K} (ih : qdZ K) {cx} (hn : cx.n = 77) {r74 list p t20 t21 t22} {r} (h : qaI (K + 1) (.c5 r74 list p t20 t21 t22) = some r) : qdY cx (.c5 r74 list p t20 t21 t22) r := by
 rw [qaI] at h
 rcases qaQ h with ⟨h1, h⟩ | ⟨h1, h⟩
 ·obtain ⟨x2, h3, h⟩ := qaH h
  exact wkG [.go, rg1, bTr, rgG [oo, opI (.ix (qaF x2)), oo, oo, oo], rgG [opI (.lit (([(1 : Int)] : List Int).map qaC)), oo], rgG [oo, opI (.ln (list.length : Int)), oo], .pre [.rl 5 0 r74.length, .rl 8 0 ([(1 : Int)] : List Int).length, .keep [0,1,5,6,7,8,20,21,22,28,29,30] [27,74]]] hn (aC h1 <| aC (qa1 h3) <| aC (qbS qaF h3) <| aC (by kernel_rfl : [(T.int .u32 (1 : Int))] = (([(1 : Int)] : List Int).map qaC).flatten) <| aC (qaX list qaF) <| aC r0 <| aC (lq r74) <| aC r0 <| aC (by simp : 1 = ([(1 : Int)] : List Int).length) <| aN) (ih _ _ h cx hn)
 ·have h := oinj h; subst h
  exact wkR [.go, rg1, bFa, rgG [oo, oo, .snap 4 (max 0 (0 + r74.length)) (r74.map qaF)]] hn (aC h1 <| aC (qbJ _ _ _ (by simp) : ((r74.map qaF).drop 0).take r74.length = r74.map qaF) <| aC (rfl : (max 0 (0 + r74.length)) = (max 0 (0 + r74.length))) <| aN)
theorem q7W {K} (ih : qdZ K) {cx} (hn : cx.n = 77) {list p i g others t20 t21 t22 t28 t29 t30} {r} (h : qaI (K + 1) (.c6 list p i g others t20 t21 t22 t28 t29 t30) = some r) : qdY cx (.c6 list p i g others t20 t21 t22 t28 t29 t30) r := by
 rw [qaI] at h
 rcases qaQ h with ⟨h1, h⟩ | ⟨h1, h⟩
 ·obtain ⟨x2, h3, h⟩ := qaH h
  rcases qaQ h with ⟨h4, h⟩ | ⟨h4, h⟩
  ·obtain ⟨x5, h6, h⟩ := qaH h
   exact wkG [.go, rg1, bTr, rgG [oo, opI (.ix (qaF x2)), oo, oo, oo], rg3, bTr, rgG [oo, oo, oo, opI (.call [[1], [1], [0]] [(tl 1 others qaC), (tl 1 x2 qaC), (ti .u32 p)] (tl 1 x5 qaC)), oo], .pre [.keep [0,1,5,6,7,8,20,21,22,28,29,30] []]] hn (aC h1 <| aC (qa1 h3) <| aC (qbS qaF h3) <| aC h4 <| aC (qcF h6) <| aN) (ih _ _ h cx hn)
  ·exact wkG [.go, rg1, bTr, rgG [oo, opI (.ix (qaF x2)), oo, oo, oo], rg3, bFa, .pre [.keep [0,1,5,6,7,8,20,21,22,28,29,30] []]] hn (aC h1 <| aC (qa1 h3) <| aC (qbS qaF h3) <| aC h4 <| aN) (ih _ _ h cx hn)
 ·obtain ⟨x2, h3, h⟩ := qaH h
  obtain ⟨x4, h5, h⟩ := qaH h
  obtain ⟨x6, h7, h⟩ := qaH h
  obtain ⟨x8, h9, h⟩ := qaH h
  obtain ⟨x10, h11, h⟩ := qaH h
  exact wkG [.go, rg1, bFa, rgG [oo, oo, oo, opI (.call [[1], [1], [0]] [(tl 1 others qaC), (tl 1 g qaC), (ti .u32 p)] (TV.tup [(false, [(T.sl 1 (x2.1.map qaC))]), (false, [(T.sl 1 (x2.2.1.map qaC))]), (false, [(T.sl 1 (x2.2.2.1.map qaC))]), (false, [(T.int .i64 x2.2.2.2)])])), oo, oo, oo, oo, oo, oo, oo, oo, oo], rgG [oo, opI (.ix (qaC x4)), oo, oo, opI (.call [[0], [0]] [(ti .u32 x4), (ti .u32 p)] (TV.tup [(false, [(T.int .u32 x6.1)]), (false, [(T.int .i64 x6.2)])])), oo, oo, oo, oo, oo], rgG [oo, oo, oo, opI (.call [[1], [0], [0]] [(TV.c (T.sl 1 (x2.2.1.map qaC))), (ti .u32 x6.1), (ti .u32 p)] (tl 1 x8 qaC)), oo, oo, opI (.call [[1], [1], [0]] [(tl 1 x8 qaC), (tl 1 g qaC), (ti .u32 p)] (TV.tup [(false, [(T.sl 1 (x10.1.map qaC))]), (false, [(T.sl 1 (x10.2.1.map qaC))]), (false, [(T.int .i64 x10.2.2)])])), oo, oo, oo, oo, oo, oo, oo], rgG [oo, oo, opI (.lit (([x10.2.1] : List (List Int)).map qaF)), opI (.appN (([x10.2.1] : List (List Int)).map qaF)), oo], rg2, .pre [.rl 5 0 ([x10.2.1] : List (List Int)).length, .keep [0,1,5,20,21,22] [74]]] hn (aC h1 <| aC (qnG h3) <| aC (qa1 h5) <| aC (qbS qaC h5) <| aC (qdI h7) <| aC (qdL h9) <| aC (qdC h11) <| aC (by kernel_rfl : [(T.sl 1 (x10.2.1.map qaC))] = (([x10.2.1] : List (List Int)).map qaF).flatten) <| aC (qbJ _ _ _ (by simp) : ((([x10.2.1] : List (List Int)).map qaF).drop 0).take 1 = ([x10.2.1] : List (List Int)).map qaF) <| aC (by simp : 0 < (([x10.2.1] : List (List Int)).map qaF).length) <| aC (by simp : (([x10.2.1] : List (List Int)).map qaF).length * 24 ≤ 140737488355328) <| aC (by simp [maxLen] : (([x10.2.1] : List (List Int)).map qaF).length ≤ maxLen) <| aC r0 <| aC (by simp : (([x10.2.1] : List (List Int)).map qaF).length = ([x10.2.1] : List (List Int)).length) <| aN) (ih _ _ h cx hn)
theorem q7V {K} (ih : qdZ K) {cx} (hn : cx.n = 77) {r27 r74 list p i g t20 t21 t22 t28 t29 t30} {r} (h : qaI (K + 1) (.c7 r27 r74 list p i g t20 t21 t22 t28 t29 t30) = some r) : qdY cx (.c7 r27 r74 list p i g t20 t21 t22 t28 t29 t30) r := by
 rw [qaI] at h
 rcases qaQ h with ⟨h1, h⟩ | ⟨h1, h⟩
 ·obtain ⟨x2, h3, h⟩ := qaH h
  rcases qaQ h with ⟨h4, h⟩ | ⟨h4, h⟩
  ·obtain ⟨x5, h6, h⟩ := qaH h
   exact wkG [.go, rg1, bTr, rgG [oo, opI (.ix (qaF x2)), oo, oo, oo], rg3, bTr, rgG [oo, oo, oo, .snap 38 (max 0 (0 + r27.length)) (r27.map qaC), opI (.call [[1], [1], [0]] [(tl 1 r27 qaC), (tl 1 x2 qaC), (ti .u32 p)] (tl 1 x5 qaC)), oo], .pre [.rl 5 0 r74.length, .keep [0,1,5,6,7,8,20,21,22,28,29,30] [74]]] hn (aC h1 <| aC (qa1 h3) <| aC (qbS qaF h3) <| aC h4 <| aC (qbJ _ _ _ (by simp) : ((r27.map qaC).drop 0).take r27.length = r27.map qaC) <| aC (rfl : (max 0 (0 + r27.length)) = (max 0 (0 + r27.length))) <| aC (qcF h6) <| aC r0 <| aC (lq r74) <| aN) (ih _ _ h cx hn)
  ·exact wkG [.go, rg1, bTr, rgG [oo, opI (.ix (qaF x2)), oo, oo, oo], rg3, bFa, .pre [.rl 5 0 r74.length, .rl 8 0 r27.length, .keep [0,1,5,6,7,8,20,21,22,28,29,30] [27,74]]] hn (aC h1 <| aC (qa1 h3) <| aC (qbS qaF h3) <| aC h4 <| aC r0 <| aC (lq r74) <| aC r0 <| aC (lq r27) <| aN) (ih _ _ h cx hn)
 ·obtain ⟨x2, h3, h⟩ := qaH h
  obtain ⟨x4, h5, h⟩ := qaH h
  obtain ⟨x6, h7, h⟩ := qaH h
  obtain ⟨x8, h9, h⟩ := qaH h
  obtain ⟨x10, h11, h⟩ := qaH h
  obtain ⟨h12, h⟩ := qbI h
  exact wkG [.go, rg1, bFa, rgG [oo, oo, oo, .snap 44 (max 0 (0 + r27.length)) (r27.map qaC), opI (.call [[1], [1], [0]] [(tl 1 r27 qaC), (tl 1 g qaC), (ti .u32 p)] (TV.tup [(false, [(T.sl 1 (x2.1.map qaC))]), (false, [(T.sl 1 (x2.2.1.map qaC))]), (false, [(T.sl 1 (x2.2.2.1.map qaC))]), (false, [(T.int .i64 x2.2.2.2)])])), oo, oo, oo, oo, oo, oo, oo, oo, oo], rgG [oo, opI (.ix (qaC x4)), oo, oo, opI (.call [[0], [0]] [(ti .u32 x4), (ti .u32 p)] (TV.tup [(false, [(T.int .u32 x6.1)]), (false, [(T.int .i64 x6.2)])])), oo, oo, oo, oo, oo], rgG [oo, oo, oo, opI (.call [[1], [0], [0]] [(TV.c (T.sl 1 (x2.2.1.map qaC))), (ti .u32 x6.1), (ti .u32 p)] (tl 1 x8 qaC)), oo, oo, opI (.call [[1], [1], [0]] [(tl 1 x8 qaC), (tl 1 g qaC), (ti .u32 p)] (TV.tup [(false, [(T.sl 1 (x10.1.map qaC))]), (false, [(T.sl 1 (x10.2.1.map qaC))]), (false, [(T.int .i64 x10.2.2)])])), oo, oo, oo, oo, oo, oo, oo], .pre [.keep [0,1,5,18,20,21,22] [74]], rgG [oo, oo, opI (.lit (([x10.2.1] : List (List Int)).map qaF)), .appR (([x10.2.1] : List (List Int)).map qaF) ((r74 ++ ([x10.2.1] : List (List Int))).map qaF), oo], rg2, .pre [.rl 5 0 (r74 ++ ([x10.2.1] : List (List Int))).length, .keep [0,1,5,20,21,22] [74]]] hn (aC h1 <| aC (qbJ _ _ _ (by simp) : ((r27.map qaC).drop 0).take r27.length = r27.map qaC) <| aC (rfl : (max 0 (0 + r27.length)) = (max 0 (0 + r27.length))) <| aC (qnG h3) <| aC (qa1 h5) <| aC (qbS qaC h5) <| aC (qdI h7) <| aC (qdL h9) <| aC (qdC h11) <| aC (by kernel_rfl : [(T.sl 1 (x10.2.1.map qaC))] = (([x10.2.1] : List (List Int)).map qaF).flatten) <| aC (by simp : r74.length = (r74.map qaF).length) <| aC (qbJ _ _ _ (by simp) : ((([x10.2.1] : List (List Int)).map qaF).drop 0).take 1 = ([x10.2.1] : List (List Int)).map qaF) <| aC (qs5 _ _ _ : r74.map qaF ++ ([x10.2.1] : List (List Int)).map qaF = (r74 ++ ([x10.2.1] : List (List Int))).map qaF) <| aC ((qeF _ _).symm ▸ h12 : ((r74 ++ ([x10.2.1] : List (List Int))).map qaF).length * 24 ≤ 140737488355328) <| aC ((qeF _ _).symm ▸ room (by decide) h12 : ((r74 ++ ([x10.2.1] : List (List Int))).map qaF).length ≤ maxLen) <| aC r0 <| aC (by simp : ((r74 ++ ([x10.2.1] : List (List Int))).map qaF).length = (r74 ++ ([x10.2.1] : List (List Int))).length) <| aN) (ih _ _ h cx hn)
theorem q7U {K} (ih : qdZ K) {cx} (hn : cx.n = 77) {r74 list p i g others t20 t21 t22 t28 t29 t30} {r} (h : qaI (K + 1) (.c8 r74 list p i g others t20 t21 t22 t28 t29 t30) = some r) : qdY cx (.c8 r74 list p i g others t20 t21 t22 t28 t29 t30) r := by
 rw [qaI] at h
 exact wkG [rg2, .pre [.rl 5 0 r74.length, .keep [0,1,5,6,7,8,20,21,22,28,29,30] [74]]] hn (aC r0 <| aC (lq r74) <| aN) (ih _ _ h cx hn)
theorem q7T {K} (ih : qdZ K) {cx} (hn : cx.n = 77) {r27 r74 list p i g t20 t21 t22 t28 t29 t30} {r} (h : qaI (K + 1) (.c9 r27 r74 list p i g t20 t21 t22 t28 t29 t30) = some r) : qdY cx (.c9 r27 r74 list p i g t20 t21 t22 t28 t29 t30) r := by
 rw [qaI] at h
 exact wkG [rg2, .pre [.rl 5 0 r74.length, .rl 8 0 r27.length, .keep [0,1,5,6,7,8,20,21,22,28,29,30] [27,74]]] hn (aC r0 <| aC (lq r74) <| aC r0 <| aC (lq r27) <| aN) (ih _ _ h cx hn)
theorem q48 {K} (ih : qdZ K) {cx} (hn : cx.n = 77) {r74 list p i g others t20 t21 t22 t28 t29 t30} {r} (h : qaI (K + 1) (.c10 r74 list p i g others t20 t21 t22 t28 t29 t30) = some r) : qdY cx (.c10 r74 list p i g others t20 t21 t22 t28 t29 t30) r := by
 rw [qaI] at h
 rcases qaQ h with ⟨h1, h⟩ | ⟨h1, h⟩
 ·obtain ⟨x2, h3, h⟩ := qaH h
  rcases qaQ h with ⟨h4, h⟩ | ⟨h4, h⟩
  ·obtain ⟨x5, h6, h⟩ := qaH h
   exact wkG [.go, rg1, bTr, rgG [oo, opI (.ix (qaF x2)), oo, oo, oo], rg3, bTr, rgG [oo, oo, oo, opI (.call [[1], [1], [0]] [(tl 1 others qaC), (tl 1 x2 qaC), (ti .u32 p)] (tl 1 x5 qaC)), oo], .pre [.rl 5 0 r74.length, .keep [0,1,5,6,7,8,20,21,22,28,29,30] [74]]] hn (aC h1 <| aC (qa1 h3) <| aC (qbS qaF h3) <| aC h4 <| aC (qcF h6) <| aC r0 <| aC (lq r74) <| aN) (ih _ _ h cx hn)
  ·exact wkG [.go, rg1, bTr, rgG [oo, opI (.ix (qaF x2)), oo, oo, oo], rg3, bFa, .pre [.rl 5 0 r74.length, .keep [0,1,5,6,7,8,20,21,22,28,29,30] [74]]] hn (aC h1 <| aC (qa1 h3) <| aC (qbS qaF h3) <| aC h4 <| aC r0 <| aC (lq r74) <| aN) (ih _ _ h cx hn)
 ·obtain ⟨x2, h3, h⟩ := qaH h
  obtain ⟨x4, h5, h⟩ := qaH h
  obtain ⟨x6, h7, h⟩ := qaH h
  obtain ⟨x8, h9, h⟩ := qaH h
  obtain ⟨x10, h11, h⟩ := qaH h
  obtain ⟨h12, h⟩ := qbI h
  exact wkG [.go, rg1, bFa, rgG [oo, oo, oo, opI (.call [[1], [1], [0]] [(tl 1 others qaC), (tl 1 g qaC), (ti .u32 p)] (TV.tup [(false, [(T.sl 1 (x2.1.map qaC))]), (false, [(T.sl 1 (x2.2.1.map qaC))]), (false, [(T.sl 1 (x2.2.2.1.map qaC))]), (false, [(T.int .i64 x2.2.2.2)])])), oo, oo, oo, oo, oo, oo, oo, oo, oo], rgG [oo, opI (.ix (qaC x4)), oo, oo, opI (.call [[0], [0]] [(ti .u32 x4), (ti .u32 p)] (TV.tup [(false, [(T.int .u32 x6.1)]), (false, [(T.int .i64 x6.2)])])), oo, oo, oo, oo, oo], rgG [oo, oo, oo, opI (.call [[1], [0], [0]] [(TV.c (T.sl 1 (x2.2.1.map qaC))), (ti .u32 x6.1), (ti .u32 p)] (tl 1 x8 qaC)), oo, oo, opI (.call [[1], [1], [0]] [(tl 1 x8 qaC), (tl 1 g qaC), (ti .u32 p)] (TV.tup [(false, [(T.sl 1 (x10.1.map qaC))]), (false, [(T.sl 1 (x10.2.1.map qaC))]), (false, [(T.int .i64 x10.2.2)])])), oo, oo, oo, oo, oo, oo, oo], .pre [.keep [0,1,5,18,20,21,22] [74]], rgG [oo, oo, opI (.lit (([x10.2.1] : List (List Int)).map qaF)), .appR (([x10.2.1] : List (List Int)).map qaF) ((r74 ++ ([x10.2.1] : List (List Int))).map qaF), oo], rg2, .pre [.rl 5 0 (r74 ++ ([x10.2.1] : List (List Int))).length, .keep [0,1,5,20,21,22] [74]]] hn (aC h1 <| aC (qnG h3) <| aC (qa1 h5) <| aC (qbS qaC h5) <| aC (qdI h7) <| aC (qdL h9) <| aC (qdC h11) <| aC (by kernel_rfl : [(T.sl 1 (x10.2.1.map qaC))] = (([x10.2.1] : List (List Int)).map qaF).flatten) <| aC (by simp : r74.length = (r74.map qaF).length) <| aC (qbJ _ _ _ (by simp) : ((([x10.2.1] : List (List Int)).map qaF).drop 0).take 1 = ([x10.2.1] : List (List Int)).map qaF) <| aC (qs5 _ _ _ : r74.map qaF ++ ([x10.2.1] : List (List Int)).map qaF = (r74 ++ ([x10.2.1] : List (List Int))).map qaF) <| aC ((qeF _ _).symm ▸ h12 : ((r74 ++ ([x10.2.1] : List (List Int))).map qaF).length * 24 ≤ 140737488355328) <| aC ((qeF _ _).symm ▸ room (by decide) h12 : ((r74 ++ ([x10.2.1] : List (List Int))).map qaF).length ≤ maxLen) <| aC r0 <| aC (by simp : ((r74 ++ ([x10.2.1] : List (List Int))).map qaF).length = (r74 ++ ([x10.2.1] : List (List Int))).length) <| aN) (ih _ _ h cx hn)
theorem qdD : ∀ K : Nat, qdZ K
 | 0, c, r, h => by rw [qaI] at h; cases h
 | K + 1, .c0 .., r, h => fun cx hn => q72 (qdD K) hn h
 | K + 1, .c1 .., r, h => fun cx hn => q71 (qdD K) hn h
 | K + 1, .c2 .., r, h => fun cx hn => q70 (qdD K) hn h
 | K + 1, .c3 .., r, h => fun cx hn => q7Z (qdD K) hn h
 | K + 1, .c4 .., r, h => fun cx hn => q7Y (qdD K) hn h
 | K + 1, .c5 .., r, h => fun cx hn => q7X (qdD K) hn h
 | K + 1, .c6 .., r, h => fun cx hn => q7W (qdD K) hn h
 | K + 1, .c7 .., r, h => fun cx hn => q7V (qdD K) hn h
 | K + 1, .c8 .., r, h => fun cx hn => q7U (qdD K) hn h
 | K + 1, .c9 .., r, h => fun cx hn => q7T (qdD K) hn h
 | K + 1, .c10 .., r, h => fun cx hn => q48 (qdD K) hn h
theorem q2Q {K : Nat} {list : (List (List Int))} {p : Int} {r : (List (List Int))} (h : qqI K list p = some r) : qc5 prog 115 [(tl 1 list qaF), (ti .u32 p)] (tl 1 r qaF) :=
 qa0 [[1]] (by kernel_rfl) (by simp) fun cx hn => qdD K (.c0 list p) r h cx hn
open Go.Proofs.Try (prog)
inductive qo2 where
 | c0 (a : qaB) (b : qaB)
 | c1 (a : qaB) (b : qaB) (g : qaB) (x : qaB) (y : qaB) (r_v : qaB) (s : qaB) (u : qaB) (v : qaB)
def qdE : Nat → qo2 → Option (qaB × qaB × qaB)
 | 0, _ => none
 | K + 1, .c0 a b =>
  (qgS K b).bind fun x1 =>
  bif x1 then
   (qhA K a).bind fun x4 =>
   (qj4 K a).bind fun x6 =>
   (qiA K x6).bind fun x8 =>
   some (x4, x8, (qaB.mk false []))
  else
   (qj9 K a).bind fun x4 =>
   (qj9 K b).bind fun x6 =>
   (qiA K (1 : Int)).bind fun x8 =>
   qdE K (.c1 a b (qaB.mk false []) (qaB.mk false []) (qaB.mk false []) x4 x6 x8 (qaB.mk false []))
 | K + 1, .c1 a b g x y r_v s u v =>
  (qgS K s).bind fun x1 =>
  bif (!x1) then
   (qoA K r_v s).bind fun x4 =>
   (qf0 K x4.1 v).bind fun x6 =>
   (qgQ K u x6).bind fun x8 =>
   qdE K (.c1 a b g x y s x4.2.1 v x8)
  else
   (qhA K r_v).bind fun x4 =>
   bif r_v.Neg then
    (q06 K u).bind fun x7 =>
    (qhA K b).bind fun x9 =>
    (qeU K x9 x4).bind fun x11 =>
    (qf4 K x7 x11.1).bind fun x13 =>
    (qf0 K x13.1 a).bind fun x15 =>
    (qgQ K x4 x15).bind fun x17 =>
    (qeU K x17 b).bind fun x19 =>
    some (x4, x13.1, x19.1)
   else
    (qhA K b).bind fun x7 =>
    (qeU K x7 x4).bind fun x9 =>
    (qf4 K u x9.1).bind fun x11 =>
    (qf0 K x11.1 a).bind fun x13 =>
    (qgQ K x4 x13).bind fun x15 =>
    (qeU K x15 b).bind fun x17 =>
    some (x4, x11.1, x17.1)
def qo3 (K : Nat) (a : qaB) (b : qaB) : Option (qaB × qaB × qaB) := qdE K (.c0 a b)
noncomputable def qsY : Code := qbQ prog 157
noncomputable def zdQ : qo2 → List Fr
 | .c0 .. => [.code qsY]
 | .c1 .. => [.code (.loop (atC qsY [1,1,1,1,0,0,0])), .blk 0, .code (atC qsY [1,1,1,1,1])]
def zf3 : qo2 → St
 | .c0 a b => St.init [(TV.agg (qaA a)), (TV.agg (qaA b))]
 | .c1 a b g x y r_v s u v => ⟨[(2, .c (C.ptr 2 0)), (3, .c (C.ptr 3 0)), (4, .c (C.ptr 4 0)), (5, .c (C.ptr 5 0)), (6, .c (C.ptr 6 0)), (7, .c (C.ptr 7 0)), (8, .c (C.ptr 8 0)), (9, .c (C.ptr 9 0)), (10, .c (C.ptr 10 0))], [(2, .var ((qaA a).map C.t)), (3, .var ((qaA b).map C.t)), (4, .var ((qaA g).map C.t)), (5, .var ((qaA x).map C.t)), (6, .var ((qaA y).map C.t)), (7, .var ((qaA r_v).map C.t)), (8, .var ((qaA s).map C.t)), (9, .var ((qaA u).map C.t)), (10, .var ((qaA v).map C.t))], []⟩
def qxX (cx : Cx) (c : qo2) (r : (qaB × qaB × qaB)) : Prop := Wk prog cx (qc2 prog 157 [[0,1], [0,1], [0,1]] (TV.tup [(true, qaA r.1), (true, qaA r.2.1), (true, qaA r.2.2)])) (zdQ c) .normal (zf3 c)
abbrev qxY (K : Nat) : Prop := ∀ c r, qdE K c = some r → ∀ cx : Cx, cx.n = 80 → qxX cx c r
theorem zf6 {K} (ih : qxY K) {cx} (hn : cx.n = 80) {a b} {r} (h : qdE (K + 1) (.c0 a b) = some r) : qxX cx (.c0 a b) r := by
 rw [qdE] at h
 obtain ⟨x1, h2, h⟩ := qaH h
 rcases qaQ h with ⟨h3, h⟩ | ⟨h3, h⟩
 ·obtain ⟨x4, h5, h⟩ := qaH h
  obtain ⟨x6, h7, h⟩ := qaH h
  obtain ⟨x8, h9, h⟩ := qaH h
  have h := oinj h; subst h
  exact wkR [rg5, rgG [oo, opI (.call [[0,1]] [(TV.agg (qaA b))] (TV.c (T.bool x1)))], bTr, .draw [.p, (.call [[0,1]] [(TV.agg (qaA a))] (TV.agg (qaA x4))), .p, (.call [[0,1]] [(TV.agg (qaA a))] (ti .i64 x6)), (.call [[0]] [(ti .i64 x6)] (TV.agg (qaA x8))), .p, .p, .p] [.op .p]] hn (aC (qcC h2) <| aC h3 <| aC (qdW h5) <| aC (qbH h7) <| aC (qd8 h9) <| aN)
 ·obtain ⟨x4, h5, h⟩ := qaH h
  obtain ⟨x6, h7, h⟩ := qaH h
  obtain ⟨x8, h9, h⟩ := qaH h
  exact wkG [rg5, rgG [oo, opI (.call [[0,1]] [(TV.agg (qaA b))] (TV.c (T.bool x1)))], bFa, .draw [.p, (.call [[0,1]] [(TV.agg (qaA a))] (TV.agg (qaA x4))), .p, (.call [[0,1]] [(TV.agg (qaA b))] (TV.agg (qaA x6))), .p, .p] [.op .p, .op .p], rgG [opI (.call [[0]] [(TV.c (T.int .i64 (1 : Int)))] (TV.agg (qaA x8))), oo, oo, oo, oo, oo], .pre [.tellB 4 [0,1], .tellB 5 [0,1], .tellB 6 [0,1], .tellB 10 [0,1], .keep [2,3,4,5,6,7,8,9,10] [2,3,4,5,6,7,8,9,10]]] hn (aC (qcC h2) <| aC h3 <| aC (qkL h5) <| aC (qkL h7) <| aC (qd8 h9) <| aN) (ih _ _ h cx hn)
theorem zf5 {K} (ih : qxY K) {cx} (hn : cx.n = 80) {a b g x y r_v s u v} {r} (h : qdE (K + 1) (.c1 a b g x y r_v s u v) = some r) : qxX cx (.c1 a b g x y r_v s u v) r := by
 rw [qdE] at h
 obtain ⟨x1, h2, h⟩ := qaH h
 rcases qaQ h with ⟨h3, h⟩ | ⟨h3, h⟩
 ·obtain ⟨x4, h5, h⟩ := qaH h
  obtain ⟨x6, h7, h⟩ := qaH h
  obtain ⟨x8, h9, h⟩ := qaH h
  exact wkG [.go, rgG [oo, opI (.call [[0,1]] [(TV.agg (qaA s))] (TV.c (T.bool x1))), oo], bTr, rgG [oo, oo, opI (.call [[0,1], [0,1]] [(TV.agg (qaA r_v)), (TV.agg (qaA s))] (TV.tup [(true, qaA x4.1), (true, qaA x4.2.1), (false, [(T.int .i64 x4.2.2)])])), oo, oo, oo, oo, oo, oo, oo, oo, oo], .draw [.p, .p, .p] [.op .p], .draw [.p, .p, .p, .p, (.call [[0,1], [0,1]] [(TV.agg (qaA x4.1)), (TV.agg (qaA v))] (TV.agg (qaA x6))), (.call [[0,1], [0,1]] [(TV.agg (qaA u)), (TV.agg (qaA x6))] (TV.agg (qaA x8)))] [.op .p, .op .p], .pre [.keep [2,3,4,5,6,7,8,9,10] [2,3,4,5,6,7,8,9,10]]] hn (aC (qcC h2) <| aC h3 <| aC (qfJ h5) <| aC (qd9 h7) <| aC (qfT h9) <| aN) (ih _ _ h cx hn)
 ·obtain ⟨x4, h5, h⟩ := qaH h
  rcases qaQ h with ⟨h6, h⟩ | ⟨h6, h⟩
  ·obtain ⟨x7, h8, h⟩ := qaH h
   obtain ⟨x9, h10, h⟩ := qaH h
   obtain ⟨x11, h12, h⟩ := qaH h
   obtain ⟨x13, h14, h⟩ := qaH h
   obtain ⟨x15, h16, h⟩ := qaH h
   obtain ⟨x17, h18, h⟩ := qaH h
   obtain ⟨x19, h20, h⟩ := qaH h
   have h := oinj h; subst h
   exact wkR [.go, rgG [oo, opI (.call [[0,1]] [(TV.agg (qaA s))] (TV.c (T.bool x1))), oo], bFa, rgG [oo, opI (.call [[0,1]] [(TV.agg (qaA r_v))] (TV.agg (qaA x4))), oo], rg2, bTr, rgG [oo, opI (.call [[0,1]] [(TV.agg (qaA u))] (TV.agg (qaA x7))), oo], .draw [.p, (.call [[0,1]] [(TV.agg (qaA b))] (TV.agg (qaA x9))), .p, (.call [[0,1], [0,1]] [(TV.agg (qaA x9)), (TV.agg (qaA x4))] (TV.tup [(true, qaA x11.1), (false, [(T.int .i64 x11.2)])])), .p, .p, .p, .p, .p] [.op .p], rgG [oo, oo, opI (.call [[0,1], [0,1]] [(TV.agg (qaA x7)), (TV.agg (qaA x11.1))] (TV.tup [(true, qaA x13.1), (false, [(T.int .i64 x13.2)])])), oo, oo, oo, oo], .draw [.p, .p, .p, (.call [[0,1], [0,1]] [(TV.agg (qaA x13.1)), (TV.agg (qaA a))] (TV.agg (qaA x15))), (.call [[0,1], [0,1]] [(TV.agg (qaA x4)), (TV.agg (qaA x15))] (TV.agg (qaA x17))), .p, (.call [[0,1], [0,1]] [(TV.agg (qaA x17)), (TV.agg (qaA b))] (TV.tup [(true, qaA x19.1), (false, [(T.int .i64 x19.2)])])), .p, .p, .p, .p] [], .draw [.p, .p, .p, .p, .p] [.op .p]] hn (aC (qcC h2) <| aC h3 <| aC (qdW h5) <| aC h6 <| aC (zdD h8) <| aC (qdW h10) <| aC (qfD h12) <| aC (qgG h14) <| aC (qd9 h16) <| aC (qfT h18) <| aC (qfD h20) <| aN)
  ·obtain ⟨x7, h8, h⟩ := qaH h
   obtain ⟨x9, h10, h⟩ := qaH h
   obtain ⟨x11, h12, h⟩ := qaH h
   obtain ⟨x13, h14, h⟩ := qaH h
   obtain ⟨x15, h16, h⟩ := qaH h
   obtain ⟨x17, h18, h⟩ := qaH h
   have h := oinj h; subst h
   exact wkR [.go, rgG [oo, opI (.call [[0,1]] [(TV.agg (qaA s))] (TV.c (T.bool x1))), oo], bFa, rgG [oo, opI (.call [[0,1]] [(TV.agg (qaA r_v))] (TV.agg (qaA x4))), oo], rg2, bFa, .draw [.p, (.call [[0,1]] [(TV.agg (qaA b))] (TV.agg (qaA x7))), .p, (.call [[0,1], [0,1]] [(TV.agg (qaA x7)), (TV.agg (qaA x4))] (TV.tup [(true, qaA x9.1), (false, [(T.int .i64 x9.2)])])), .p, .p, .p, .p, .p] [.op .p], rgG [oo, oo, opI (.call [[0,1], [0,1]] [(TV.agg (qaA u)), (TV.agg (qaA x9.1))] (TV.tup [(true, qaA x11.1), (false, [(T.int .i64 x11.2)])])), oo, oo, oo, oo], .draw [.p, .p, .p, (.call [[0,1], [0,1]] [(TV.agg (qaA x11.1)), (TV.agg (qaA a))] (TV.agg (qaA x13))), (.call [[0,1], [0,1]] [(TV.agg (qaA x4)), (TV.agg (qaA x13))] (TV.agg (qaA x15))), .p, (.call [[0,1], [0,1]] [(TV.agg (qaA x15)), (TV.agg (qaA b))] (TV.tup [(true, qaA x17.1), (false, [(T.int .i64 x17.2)])])), .p, .p, .p, .p] [], .draw [.p, .p, .p, .p, .p] [.op .p]] hn (aC (qcC h2) <| aC h3 <| aC (qdW h5) <| aC h6 <| aC (qdW h8) <| aC (qfD h10) <| aC (qgG h12) <| aC (qd9 h14) <| aC (qfT h16) <| aC (qfD h18) <| aN)
theorem qt3 : ∀ K : Nat, qxY K
 | 0, c, r, h => by rw [qdE] at h; cases h
 | K + 1, .c0 .., r, h => fun cx hn => zf6 (qt3 K) hn h
 | K + 1, .c1 .., r, h => fun cx hn => zf5 (qt3 K) hn h
theorem qxW {K : Nat} {a : qaB} {b : qaB} {r : (qaB × qaB × qaB)} (h : qo3 K a b = some r) : qc5 prog 157 [(TV.agg (qaA a)), (TV.agg (qaA b))] (TV.tup [(true, qaA r.1), (true, qaA r.2.1), (true, qaA r.2.2)]) :=
 qa0 [[0,1], [0,1], [0,1]] (by kernel_rfl) (by simp) fun cx hn => qt3 K (.c0 a b) r h cx hn
open Go.Proofs.Try (prog)
inductive qoV where
 | c0 (f : (List Int)) (p : Int)
def qjV : Nat → qoV → Option ((List Int) × Int)
 | 0, _ => none
 | K + 1, .c0 f p =>
  (qhU K p).bind fun x1 =>
  bif (!x1) then
   some ([], (1 : Int))
  else
   (qeS K f p).bind fun x4 =>
   (qj1 K x4 p).bind fun x6 =>
   some (x6, (0 : Int))
def qsE (K : Nat) (f : (List Int)) (p : Int) : Option ((List Int) × Int) := qjV K (.c0 f p)
noncomputable def q90 : Code := qbQ prog 154
noncomputable def zcY : qoV → List Fr
 | .c0 .. => [.code q90]
def ze5 : qoV → St
 | .c0 f p => St.init [(tl 1 f qaC), (ti .u32 p)]
def q3Q (cx : Cx) (c : qoV) (r : ((List Int) × Int)) : Prop := Wk prog cx (qc2 prog 154 [[1], [0]] (TV.tup [(false, [(T.sl 1 (r.1.map qaC))]), (false, [(T.int .i64 r.2)])])) (zcY c) .normal (ze5 c)
abbrev q3R (K : Nat) : Prop := ∀ c r, qjV K c = some r → ∀ cx : Cx, cx.n = 14 → q3Q cx c r
theorem ze6 {K} (_ : q3R K) {cx} (hn : cx.n = 14) {f p} {r} (h : qjV (K + 1) (.c0 f p) = some r) : q3Q cx (.c0 f p) r := by
 rw [qjV] at h
 obtain ⟨x1, h2, h⟩ := qaH h
 rcases qaQ h with ⟨h3, h⟩ | ⟨h3, h⟩
 ·have h := oinj h; subst h
  exact wkR [rg2, rgG [oo, opI (.call [[0]] [(ti .u32 p)] (TV.c (T.bool x1))), oo], bTr, rg2] hn (aC (qbT h2) <| aC h3 <| aN)
 ·obtain ⟨x4, h5, h⟩ := qaH h
  obtain ⟨x6, h7, h⟩ := qaH h
  have h := oinj h; subst h
  exact wkR [rg2, rgG [oo, opI (.call [[0]] [(ti .u32 p)] (TV.c (T.bool x1))), oo], bFa, rgG [oo, oo, opI (.call [[1], [0]] [(tl 1 f qaC), (ti .u32 p)] (tl 1 x4 qaC)), oo, opI (.call [[1], [0]] [(tl 1 x4 qaC), (ti .u32 p)] (tl 1 x6 qaC)), oo, oo]] hn (aC (qbT h2) <| aC h3 <| aC (qbU h5) <| aC (qw7 h7) <| aN)
theorem qzQ : ∀ K : Nat, q3R K
 | 0, c, r, h => by rw [qjV] at h; cases h
 | K + 1, .c0 .., r, h => fun cx hn => ze6 (qzQ K) hn h
theorem qxD {K : Nat} {f : (List Int)} {p : Int} {r : ((List Int) × Int)} (h : qsE K f p = some r) : qc5 prog 154 [(tl 1 f qaC), (ti .u32 p)] (TV.tup [(false, [(T.sl 1 (r.1.map qaC))]), (false, [(T.int .i64 r.2)])]) :=
 qa0 [[1], [0]] (by kernel_rfl) (by simp) fun cx hn => qzQ K (.c0 f p) r h cx hn
open Go.Proofs.Try (prog)
inductive qnD where
 | c0 (a : qaB) (m : Int)
def qi0 : Nat → qnD → Option Int
 | 0, _ => none
 | K + 1, .c0 a m =>
  (qmA K a.Abs (max m (1 : Int))).bind fun x1 =>
  bif a.Neg then
   bif (decide ((0 : Int) < x1.2.1)) then
    some (wU3 ((max m (1 : Int)) - x1.2.1))
   else
    some x1.2.1
  else
   some x1.2.1
def qdQ (K : Nat) (a : qaB) (m : Int) : Option Int := qi0 K (.c0 a m)
noncomputable def q7C : Code := qbQ prog 64
noncomputable def q9C : qnD → List Fr
 | .c0 .. => [.code q7C]
def zcI : qnD → St
 | .c0 a m => St.init [(TV.agg (qaA a)), (ti .u32 m)]
def q1W (cx : Cx) (c : qnD) (r : Int) : Prop := Wk prog cx (qc2 prog 64 [[0]] (ti .u32 r)) (q9C c) .normal (zcI c)
abbrev q1X (K : Nat) : Prop := ∀ c r, qi0 K c = some r → ∀ cx : Cx, cx.n = 28 → q1W cx c r
theorem zcJ {K} (_ : q1X K) {cx} (hn : cx.n = 28) {a m} {r} (h : qi0 (K + 1) (.c0 a m) = some r) : q1W cx (.c0 a m) r := by
 rw [qi0] at h
 obtain ⟨x1, h2, h⟩ := qaH h
 rcases qaQ h with ⟨h3, h⟩ | ⟨h3, h⟩
 ·rcases qaQ h with ⟨h4, h⟩ | ⟨h4, h⟩
  ·have h := oinj h; subst h
   exact wkR [rg2, rgG [oo, oo, oo, oo, opI (.call [[1], [0]] [(TV.c (T.sl 1 (a.Abs.map qaC))), (TV.c (T.int .u32 (max m (1 : Int))))] (TV.tup [(false, [(T.sl 1 (x1.1.map qaC))]), (false, [(T.int .u32 x1.2.1)]), (false, [(T.bool x1.2.2)])])), oo, oo, oo, oo, oo, oo, oo], rgG [oo, oo, oo, .sb 19 true, oo, oo, oo], bTr, rg5, rg2] hn (aC (qjL h2) <| aC h3 <| aC h4 <| aN)
  ·have h := oinj h; subst h
   exact wkR [rg2, rgG [oo, oo, oo, oo, opI (.call [[1], [0]] [(TV.c (T.sl 1 (a.Abs.map qaC))), (TV.c (T.int .u32 (max m (1 : Int))))] (TV.tup [(false, [(T.sl 1 (x1.1.map qaC))]), (false, [(T.int .u32 x1.2.1)]), (false, [(T.bool x1.2.2)])])), oo, oo, oo, oo, oo, oo, oo], rgG [oo, oo, oo, .sb 19 true, oo, oo, oo], bFa, rg2] hn (aC (qjL h2) <| aC h3 <| aC h4 <| aN)
 ·have h := oinj h; subst h
  exact wkR [rg2, rgG [oo, oo, oo, oo, opI (.call [[1], [0]] [(TV.c (T.sl 1 (a.Abs.map qaC))), (TV.c (T.int .u32 (max m (1 : Int))))] (TV.tup [(false, [(T.sl 1 (x1.1.map qaC))]), (false, [(T.int .u32 x1.2.1)]), (false, [(T.bool x1.2.2)])])), oo, oo, oo, oo, oo, oo, oo], rgG [oo, oo, oo, .sb 19 false, oo, oo, oo], bFa, rg2] hn (aC (qjL h2) <| aC h3 <| aC rf <| aN)
theorem qyH : ∀ K : Nat, q1X K
 | 0, c, r, h => by rw [qi0] at h; cases h
 | K + 1, .c0 .., r, h => fun cx hn => zcJ (qyH K) hn h
theorem qa8 {K : Nat} {a : qaB} {m : Int} {r : Int} (h : qdQ K a m = some r) : qc5 prog 64 [(TV.agg (qaA a)), (ti .u32 m)] (ti .u32 r) :=
 qa0 [[0]] (by kernel_rfl) (by simp) fun cx hn => qyH K (.c0 a m) r h cx hn
open Go.Proofs.Try (prog)
inductive qnI where
 | c0 (f : (List qaB)) (m : Int)
 | c1 (r10 : (List Int)) (m : Int) (t11 : (List qaB)) (t12 : Int) (t13 : Int)
def qdU : Nat → qnI → Option (List Int)
 | 0, _ => none
 | K + 1, .c0 f m =>
  gd (0 ≤ (f.length : Int) ∧ (f.length : Int) ≤ (f.length : Int) ∧ (4 : Int) * (f.length : Int) ≤ 140737488355328) <|
  qdU K (.c1 (List.replicate (f.length : Int).toNat ((0 : Int) : Int)) m f (f.length : Int) (0 : Int))
 | K + 1, .c1 r10 m t11 t12 t13 =>
  bif (decide (t13 < t12)) then
   (gi t11 t13).bind fun x2 =>
   (qdQ K x2 m).bind fun x4 =>
   (gi r10 t13).bind fun _ =>
   qdU K (.c1 (r10.set (t13.toNat) x4) m t11 t12 (wI6 (t13 + (1 : Int))))
  else
   (qhW K r10).bind fun x2 =>
   some x2
def qhF (K : Nat) (f : (List qaB)) (m : Int) : Option (List Int) := qdU K (.c0 f m)
noncomputable def qq2 : Code := qbQ prog 60
noncomputable def q9Y : qnI → List Fr
 | .c0 .. => [.code qq2]
 | .c1 .. => [.code (.loop (atC qq2 [1,1,0,1,0,0])), .blk 0, .code (atC qq2 [1,1,1])]
def zcS : qnI → St
 | .c0 f m => St.init [(tl 2 f qaA), (ti .u32 m)]
 | .c1 r10 m t11 t12 t13 => ⟨[(1, vi .u32 m), (5, .c (C.row 10 0 r10.length)), (11, vl 2 t11 qaA), (12, vi .i64 t12), (13, vi .i64 t13)], [(10, .row 101 1 (r10.map qaC) 0)], []⟩
def qvO (cx : Cx) (c : qnI) (r : (List Int)) : Prop := Wk prog cx (qc2 prog 60 [[1]] (tl 1 r qaC)) (q9Y c) .normal (zcS c)
abbrev qvP (K : Nat) : Prop := ∀ c r, qdU K c = some r → ∀ cx : Cx, cx.n = 27 → qvO cx c r
theorem zcU {K} (ih : qvP K) {cx} (hn : cx.n = 27) {f m} {r} (h : qdU (K + 1) (.c0 f m) = some r) : qvO cx (.c0 f m) r := by
 rw [qdU] at h
 obtain ⟨h1, h⟩ := qbI h
 exact wkG [rg1, rgG [oo, opI (.ln (f.length : Int)), opI (.mk (qaC (0 : Int)) ((List.replicate (f.length : Int).toNat ((0 : Int) : Int)).map qaC)), oo], rgG [oo, opI (.ln (f.length : Int)), oo], .pre [.rl 5 0 (List.replicate (f.length : Int).toNat ((0 : Int) : Int)).length, .keep [1,5,11,12,13] [10]]] hn (aC (qaX f qaA) <| aC h1.1 <| aC h1.2.1 <| aC h1.2.2 <| aC (qgM _ _ _ : List.replicate (f.length : Int).toNat (qaC (0 : Int)) = (List.replicate (f.length : Int).toNat ((0 : Int) : Int)).map qaC) <| aC (qaX f qaA) <| aC r0 <| aC (by simp : (f.length : Int).toNat = (List.replicate (f.length : Int).toNat ((0 : Int) : Int)).length) <| aN) (ih _ _ h cx hn)
theorem zcT {K} (ih : qvP K) {cx} (hn : cx.n = 27) {r10 m t11 t12 t13} {r} (h : qdU (K + 1) (.c1 r10 m t11 t12 t13) = some r) : qvO cx (.c1 r10 m t11 t12 t13) r := by
 rw [qdU] at h
 rcases qaQ h with ⟨h1, h⟩ | ⟨h1, h⟩
 ·obtain ⟨x2, h3, h⟩ := qaH h
  obtain ⟨x4, h5, h⟩ := qaH h
  obtain ⟨x6, h7, h⟩ := qaH h
  exact wkG [.go, rg1, bTr, rgG [oo, opI (.ix (qaA x2)), oo, oo, oo, oo], rgG [oo, oo, oo, oo, opI (.call [[0,1], [0]] [(TV.agg (qaA x2)), (ti .u32 m)] (ti .u32 x4)), .op .ir, opI (.st (qaC x6) ((r10.set (t13.toNat) x4).map qaC))], rg2, .pre [.rl 5 0 (r10.set (t13.toNat) x4).length, .keep [1,5,11,12,13] [10]]] hn (aC h1 <| aC (qa1 h3) <| aC (qbS qaA h3) <| aC (qa8 h5) <| aC (qa1 h7) <| aC (qcB h7 (by simp) : t13 < ((r10.length : Nat) : Int)) <| aC (qcA qaC h7 : (r10.map qaC)[(0 + t13.toNat)]? = some (qaC x6)) <| aC (qc4 _ _ x4 _ : (r10.map qaC).set (0 + t13.toNat) (qbW (qaC x6) 0 [(T.int .u32 x4)]) = (r10.set (t13.toNat) x4).map qaC) <| aC (Nat.zero_le _ : 0 ≤ (0 + t13.toNat)) <| aC r0 <| aC (by simp : r10.length = (r10.set (t13.toNat) x4).length) <| aN) (ih _ _ h cx hn)
 ·obtain ⟨x2, h3, h⟩ := qaH h
  have h := oinj h; subst h
  exact wkR [.go, rg1, bFa, rgG [oo, .snap 25 (max 0 (0 + r10.length)) (r10.map qaC), opI (.call [[1]] [(tl 1 r10 qaC)] (tl 1 x2 qaC)), oo]] hn (aC h1 <| aC (qbJ _ _ _ (by simp) : ((r10.map qaC).drop 0).take r10.length = r10.map qaC) <| aC (rfl : (max 0 (0 + r10.length)) = (max 0 (0 + r10.length))) <| aC (qf2 h3) <| aN)
theorem qsA : ∀ K : Nat, qvP K
 | 0, c, r, h => by rw [qdU] at h; cases h
 | K + 1, .c0 .., r, h => fun cx hn => zcU (qsA K) hn h
 | K + 1, .c1 .., r, h => fun cx hn => zcT (qsA K) hn h
theorem qfC {K : Nat} {f : (List qaB)} {m : Int} {r : (List Int)} (h : qhF K f m = some r) : qc5 prog 60 [(tl 2 f qaA), (ti .u32 m)] (tl 1 r qaC) :=
 qa0 [[1]] (by kernel_rfl) (by simp) fun cx hn => qsA K (.c0 f m) r h cx hn
open Go.Proofs.Try (prog)
inductive qlU where
 | c0 (x : (List Int)) (y : (List Int))
 | c1 (x : (List Int)) (y : (List Int)) (i : Int)
def qcE : Nat → qlU → Option Int
 | 0, _ => none
 | K + 1, .c0 x y =>
  bif (!decide ((x.length : Int) = (y.length : Int))) then
   bif (decide ((x.length : Int) < (y.length : Int))) then
    some (-1 : Int)
   else
    some (1 : Int)
  else
   qcE K (.c1 x y (wI6 ((x.length : Int) - (1 : Int))))
 | K + 1, .c1 x y i =>
  bif (decide ((0 : Int) ≤ i)) then
   (gi x i).bind fun x2 =>
   (gi y i).bind fun x4 =>
   bif (decide (x2 < x4)) then
    some (-1 : Int)
   else
    (gi x i).bind fun x7 =>
    (gi y i).bind fun x9 =>
    bif (decide (x9 < x7)) then
     some (1 : Int)
    else
     qcE K (.c1 x y (wI6 (i - (1 : Int))))
  else
   some (0 : Int)
def qk1 (K : Nat) (x : (List Int)) (y : (List Int)) : Option Int := qcE K (.c0 x y)
noncomputable def qpH : Code := qbQ prog 190
noncomputable def q7G : qlU → List Fr
 | .c0 .. => [.code qpH]
 | .c1 .. => [.code (.loop (atC qpH [1,1,0,1,0,0])), .blk 0, .code (atC qpH [1,1,1])]
def q9U : qlU → St
 | .c0 x y => St.init [(tl 1 x qaC), (tl 1 y qaC)]
 | .c1 x y i => ⟨[(0, vl 1 x qaC), (1, vl 1 y qaC), (5, vi .i64 i)], [], []⟩
def qtS (cx : Cx) (c : qlU) (r : Int) : Prop := Wk prog cx (qc2 prog 190 [[0]] (ti .i64 r)) (q7G c) .normal (q9U c)
abbrev qtT (K : Nat) : Prop := ∀ c r, qcE K c = some r → ∀ cx : Cx, cx.n = 41 → qtS cx c r
theorem q9W {K} (ih : qtT K) {cx} (hn : cx.n = 41) {x y} {r} (h : qcE (K + 1) (.c0 x y) = some r) : qtS cx (.c0 x y) r := by
 rw [qcE] at h
 rcases qaQ h with ⟨h1, h⟩ | ⟨h1, h⟩
 ·rcases qaQ h with ⟨h2, h⟩ | ⟨h2, h⟩
  ·have h := oinj h; subst h
   exact wkR [rg1, rgG [oo, opI (.ln (x.length : Int)), oo, opI (.ln (y.length : Int)), oo], bTr, rgG [oo, opI (.ln (x.length : Int)), oo, opI (.ln (y.length : Int)), oo], bTr, rg1] hn (aC (qaX x qaC) <| aC (qaX y qaC) <| aC h1 <| aC (qaX x qaC) <| aC (qaX y qaC) <| aC h2 <| aN)
  ·have h := oinj h; subst h
   exact wkR [rg1, rgG [oo, opI (.ln (x.length : Int)), oo, opI (.ln (y.length : Int)), oo], bTr, rgG [oo, opI (.ln (x.length : Int)), oo, opI (.ln (y.length : Int)), oo], bFa, rg1] hn (aC (qaX x qaC) <| aC (qaX y qaC) <| aC h1 <| aC (qaX x qaC) <| aC (qaX y qaC) <| aC h2 <| aN)
 ·exact wkG [rg1, rgG [oo, opI (.ln (x.length : Int)), oo, opI (.ln (y.length : Int)), oo], bFa, rgG [oo, opI (.ln (x.length : Int)), oo, oo], .pre [.keep [0,1,5] []]] hn (aC (qaX x qaC) <| aC (qaX y qaC) <| aC h1 <| aC (qaX x qaC) <| aN) (ih _ _ h cx hn)
theorem q9V {K} (ih : qtT K) {cx} (hn : cx.n = 41) {x y i} {r} (h : qcE (K + 1) (.c1 x y i) = some r) : qtS cx (.c1 x y i) r := by
 rw [qcE] at h
 rcases qaQ h with ⟨h1, h⟩ | ⟨h1, h⟩
 ·obtain ⟨x2, h3, h⟩ := qaH h
  obtain ⟨x4, h5, h⟩ := qaH h
  rcases qaQ h with ⟨h6, h⟩ | ⟨h6, h⟩
  ·have h := oinj h; subst h
   exact wkR [.go, rg2, bTr, .draw [.p, .p, (.ix (qaC x2)), .p, .p, .p, (.ix (qaC x4)), .p] [.op .p], bTr, rg1] hn (aC h1 <| aC (qa1 h3) <| aC (qbS qaC h3) <| aC (qa1 h5) <| aC (qbS qaC h5) <| aC h6 <| aN)
  ·obtain ⟨x7, h8, h⟩ := qaH h
   obtain ⟨x9, h10, h⟩ := qaH h
   rcases qaQ h with ⟨h11, h⟩ | ⟨h11, h⟩
   ·have h := oinj h; subst h
    exact wkR [.go, rg2, bTr, .draw [.p, .p, (.ix (qaC x2)), .p, .p, .p, (.ix (qaC x4)), .p] [.op .p], bFa, .draw [.p, .p, (.ix (qaC x7)), .p, .p, .p, (.ix (qaC x9)), .p] [.op .p], bTr, rg1] hn (aC h1 <| aC (qa1 h3) <| aC (qbS qaC h3) <| aC (qa1 h5) <| aC (qbS qaC h5) <| aC h6 <| aC (qa1 h8) <| aC (qbS qaC h8) <| aC (qa1 h10) <| aC (qbS qaC h10) <| aC h11 <| aN)
   ·exact wkG [.go, rg2, bTr, .draw [.p, .p, (.ix (qaC x2)), .p, .p, .p, (.ix (qaC x4)), .p] [.op .p], bFa, .draw [.p, .p, (.ix (qaC x7)), .p, .p, .p, (.ix (qaC x9)), .p] [.op .p], bFa, rg3, .pre [.keep [0,1,5] []]] hn (aC h1 <| aC (qa1 h3) <| aC (qbS qaC h3) <| aC (qa1 h5) <| aC (qbS qaC h5) <| aC h6 <| aC (qa1 h8) <| aC (qbS qaC h8) <| aC (qa1 h10) <| aC (qbS qaC h10) <| aC h11 <| aN) (ih _ _ h cx hn)
 ·have h := oinj h; subst h
  exact wkR [.go, rg2, bFa, rg1] hn (aC h1 <| aN)
theorem qqZ : ∀ K : Nat, qtT K
 | 0, c, r, h => by rw [qcE] at h; cases h
 | K + 1, .c0 .., r, h => fun cx hn => q9W (qqZ K) hn h
 | K + 1, .c1 .., r, h => fun cx hn => q9V (qqZ K) hn h
theorem q3O {K : Nat} {x : (List Int)} {y : (List Int)} {r : Int} (h : qk1 K x y = some r) : qc5 prog 190 [(tl 1 x qaC), (tl 1 y qaC)] (ti .i64 r) :=
 qa0 [[0]] (by kernel_rfl) (by simp) fun cx hn => qqZ K (.c0 x y) r h cx hn
open Go.Proofs.Try (prog)
inductive qlV where
 | c0 (f : (List Int)) (g : (List Int)) (m : Int)
def qh4 : Nat → qlV → Option Int
 | 0, _ => none
 | K + 1, .c0 f g m =>
  (qeS K f m).bind fun x1 =>
  (qeS K g m).bind fun x3 =>
  (qk1 K x1 x3).bind fun x5 =>
  some x5
def qsG (K : Nat) (f : (List Int)) (g : (List Int)) (m : Int) : Option Int := qh4 K (.c0 f g m)
noncomputable def q40 : Code := qbQ prog 180
noncomputable def q7J : qlV → List Fr
 | .c0 .. => [.code q40]
def q95 : qlV → St
 | .c0 f g m => St.init [(tl 1 f qaC), (tl 1 g qaC), (ti .u32 m)]
def qzS (cx : Cx) (c : qlV) (r : Int) : Prop := Wk prog cx (qc2 prog 180 [[0]] (ti .i64 r)) (q7J c) .normal (q95 c)
abbrev qzT (K : Nat) : Prop := ∀ c r, qh4 K c = some r → ∀ cx : Cx, cx.n = 14 → qzS cx c r
theorem q96 {K} (_ : qzT K) {cx} (hn : cx.n = 14) {f g m} {r} (h : qh4 (K + 1) (.c0 f g m) = some r) : qzS cx (.c0 f g m) r := by
 rw [qh4] at h
 obtain ⟨x1, h2, h⟩ := qaH h
 obtain ⟨x3, h4, h⟩ := qaH h
 obtain ⟨x5, h6, h⟩ := qaH h
 have h := oinj h; subst h
 exact wkR [rg1, rgG [oo, oo, opI (.call [[1], [0]] [(tl 1 f qaC), (ti .u32 m)] (tl 1 x1 qaC)), oo, oo, opI (.call [[1], [0]] [(tl 1 g qaC), (ti .u32 m)] (tl 1 x3 qaC)), opI (.call [[1], [1]] [(tl 1 x1 qaC), (tl 1 x3 qaC)] (ti .i64 x5)), oo]] hn (aC (qbU h2) <| aC (qbU h4) <| aC (q3O h6) <| aN)
theorem qxE : ∀ K : Nat, qzT K
 | 0, c, r, h => by rw [qh4] at h; cases h
 | K + 1, .c0 .., r, h => fun cx hn => q96 (qxE K) hn h
theorem q3T {K : Nat} {f : (List Int)} {g : (List Int)} {m : Int} {r : Int} (h : qsG K f g m = some r) : qc5 prog 180 [(tl 1 f qaC), (tl 1 g qaC), (ti .u32 m)] (ti .i64 r) :=
 qa0 [[0]] (by kernel_rfl) (by simp) fun cx hn => qxE K (.c0 f g m) r h cx hn
open Go.Proofs.Try (prog)
inductive qqB where
 | c0 (f : (List Int)) (g : (List Int)) (m : Int)
def qk3 : Nat → qqB → Option Bool
 | 0, _ => none
 | K + 1, .c0 f g m =>
  (qsG K f g m).bind fun x1 =>
  some (decide (x1 = (0 : Int)))
def qrC (K : Nat) (f : (List Int)) (g : (List Int)) (m : Int) : Option Bool := qk3 K (.c0 f g m)
noncomputable def zcR : Code := qbQ prog 155
noncomputable def ze4 : qqB → List Fr
 | .c0 .. => [.code zcR]
def zhX : qqB → St
 | .c0 f g m => St.init [(tl 1 f qaC), (tl 1 g qaC), (ti .u32 m)]
def q6E (cx : Cx) (c : qqB) (r : Bool) : Prop := Wk prog cx (qc2 prog 155 [[0]] (TV.c (T.bool r))) (ze4 c) .normal (zhX c)
abbrev q6F (K : Nat) : Prop := ∀ c r, qk3 K c = some r → ∀ cx : Cx, cx.n = 12 → q6E cx c r
theorem zhZ {K} (_ : q6F K) {cx} (hn : cx.n = 12) {f g m} {r} (h : qk3 (K + 1) (.c0 f g m) = some r) : q6E cx (.c0 f g m) r := by
 rw [qk3] at h
 obtain ⟨x1, h2, h⟩ := qaH h
 have h := oinj h; subst h
 exact wkR [rg1, rgG [oo, oo, oo, opI (.call [[1], [1], [0]] [(tl 1 f qaC), (tl 1 g qaC), (ti .u32 m)] (ti .i64 x1)), oo, oo]] hn (aC (q3T h2) <| aN)
theorem q11 : ∀ K : Nat, q6F K
 | 0, c, r, h => by rw [qk3] at h; cases h
 | K + 1, .c0 .., r, h => fun cx hn => zhZ (q11 K) hn h
theorem qnH {K : Nat} {f : (List Int)} {g : (List Int)} {m : Int} {r : Bool} (h : qrC K f g m = some r) : qc5 prog 155 [(tl 1 f qaC), (tl 1 g qaC), (ti .u32 m)] (TV.c (T.bool r)) :=
 qa0 [[0]] (by kernel_rfl) (by simp) fun cx hn => q11 K (.c0 f g m) r h cx hn
open Go.Proofs.Try (prog)
inductive qqH where
 | c0 (f : (List qaB)) (list : (List (List Int))) (p : Int) (top : qaB)
 | c1 (top : qaB) (lead : qaB) (r29 : (List Int)) (f : (List qaB)) (p : Int) (t30 : (List (List Int))) (t31 : Int) (t32 : Int)
 | c2 (top : qaB) (lead : qaB) (r45 : (List (List Int))) (f : (List qaB)) (p : Int) (product : (List Int)) (t30 : (List (List Int))) (t31 : Int) (t32 : Int)
def qcV : Nat → qqH → Option ((List qaB) × (List (List Int)) × Int)
 | 0, _ => none
 | K + 1, .c0 f list p top =>
  (qlE K f).bind fun x1 =>
  (qdQ K x1 p).bind fun x3 =>
  bif (decide (x3 = (0 : Int))) then
   some ([], [], (3 : Int))
  else
   qcV K (.c1 top x1 ([(1 : Int)] : List Int) f p list (list.length : Int) (0 : Int))
 | K + 1, .c1 top lead r29 f p t30 t31 t32 =>
  bif (decide (t32 < t31)) then
   (gi t30 t32).bind fun x2 =>
   (qsE K x2 p).bind fun x4 =>
   (qdO K r29 x4.1 p).bind fun x7 =>
   qcV K (.c2 top lead ([x4.1] : List (List Int)) f p x7 t30 t31 (wI6 (t32 + (1 : Int))))
  else
   (qhF K f p).bind fun x2 =>
   (qdQ K lead p).bind fun x4 =>
   (qeC K r29 x4 p).bind fun x6 =>
   (qrC K x2 x6 p).bind fun x8 =>
   bif (!x8) then
    some ([], [], (3 : Int))
   else
    (qo3 K lead top).bind fun x11 =>
    (qeK K f x11.2.1).bind fun x13 =>
    (qb5 K x13 top).bind fun x15 =>
    some (x15.1, [], (0 : Int))
 | K + 1, .c2 top lead r45 f p product t30 t31 t32 =>
  bif (decide (t32 < t31)) then
   (gi t30 t32).bind fun x2 =>
   (qsE K x2 p).bind fun x4 =>
   gd ((r45 ++ ([x4.1] : List (List Int))).length * 24 ≤ 140737488355328) <|
   (qdO K product x4.1 p).bind fun x7 =>
   qcV K (.c2 top lead (r45 ++ ([x4.1] : List (List Int))) f p x7 t30 t31 (wI6 (t32 + (1 : Int))))
  else
   (qhF K f p).bind fun x2 =>
   (qdQ K lead p).bind fun x4 =>
   (qeC K product x4 p).bind fun x6 =>
   (qrC K x2 x6 p).bind fun x8 =>
   bif (!x8) then
    some ([], [], (3 : Int))
   else
    (qo3 K lead top).bind fun x11 =>
    (qeK K f x11.2.1).bind fun x13 =>
    (qb5 K x13 top).bind fun x15 =>
    some (x15.1, r45, (0 : Int))
def qyQ (K : Nat) (f : (List qaB)) (list : (List (List Int))) (p : Int) (top : qaB) : Option ((List qaB) × (List (List Int)) × Int) := qcV K (.c0 f list p top)
noncomputable def qk8 : Code := qbQ prog 114
noncomputable def zfK : qqH → List Fr
 | .c0 .. => [.code qk8]
 | .c1 .. => [.code (.loop (atC qk8 [1,1,1,1,1,0,1,0,0])), .blk 0, .code (atC qk8 [1,1,1,1,1,1])]
 | .c2 .. => [.code (.loop (atC qk8 [1,1,1,1,1,0,1,0,0])), .blk 0, .code (atC qk8 [1,1,1,1,1,1])]
def ziQ : qqH → St
 | .c0 f list p top => St.init [(tl 2 f qaA), (tl 1 list qaF), (ti .u32 p), (TV.agg (qaA top))]
 | .c1 top lead r29 f p t30 t31 t32 => ⟨[(0, vl 2 f qaA), (2, vi .u32 p), (7, .c (C.ptr 7 0)), (11, .c (C.ptr 11 0)), (12, .c (C.row 29 0 r29.length)), (13, .c (C.nil)), (30, vl 1 t30 qaF), (31, vi .i64 t31), (32, vi .i64 t32)], [(7, .var ((qaA top).map C.t)), (11, .var ((qaA lead).map C.t)), (29, .row 101 1 (r29.map qaC) 0)], []⟩
 | .c2 top lead r45 f p product t30 t31 t32 => ⟨[(0, vl 2 f qaA), (2, vi .u32 p), (7, .c (C.ptr 7 0)), (11, .c (C.ptr 11 0)), (12, vl 1 product qaC), (13, .c (C.row 45 0 r45.length)), (30, vl 1 t30 qaF), (31, vi .i64 t31), (32, vi .i64 t32)], [(7, .var ((qaA top).map C.t)), (11, .var ((qaA lead).map C.t)), (45, .row 114 1 (r45.map qaF) 0)], []⟩
def quN (cx : Cx) (c : qqH) (r : ((List qaB) × (List (List Int)) × Int)) : Prop := Wk prog cx (qc2 prog 114 [[2], [1], [0]] (TV.tup [(false, [(T.sl 2 (r.1.map qaA))]), (false, [(T.sl 1 (r.2.1.map qaF))]), (false, [(T.int .i64 r.2.2)])])) (zfK c) .normal (ziQ c)
abbrev quO (K : Nat) : Prop := ∀ c r, qcV K c = some r → ∀ cx : Cx, cx.n = 80 → quN cx c r
theorem ziT {K} (ih : quO K) {cx} (hn : cx.n = 80) {f list p top} {r} (h : qcV (K + 1) (.c0 f list p top) = some r) : quN cx (.c0 f list p top) r := by
 rw [qcV] at h
 obtain ⟨x1, h2, h⟩ := qaH h
 obtain ⟨x3, h4, h⟩ := qaH h
 rcases qaQ h with ⟨h5, h⟩ | ⟨h5, h⟩
 ·have h := oinj h; subst h
  exact wkR [rg4, rgG [oo, opI (.call [[2]] [(tl 2 f qaA)] (TV.agg (qaA x1))), oo, oo], rgG [oo, oo, opI (.call [[0,1], [0]] [(TV.agg (qaA x1)), (ti .u32 p)] (ti .u32 x3)), oo], bTr, rg3] hn (aC (qm5 h2) <| aC (qa8 h4) <| aC h5 <| aN)
 ·exact wkG [rg4, rgG [oo, opI (.call [[2]] [(tl 2 f qaA)] (TV.agg (qaA x1))), oo, oo], rgG [oo, oo, opI (.call [[0,1], [0]] [(TV.agg (qaA x1)), (ti .u32 p)] (ti .u32 x3)), oo], bFa, rgG [opI (.lit (([(1 : Int)] : List Int).map qaC)), oo], rg1, rgG [oo, opI (.ln (list.length : Int)), oo], .pre [.rl 12 0 ([(1 : Int)] : List Int).length, .keep [0,2,7,11,12,13,30,31,32] [7,11,29]]] hn (aC (qm5 h2) <| aC (qa8 h4) <| aC h5 <| aC (by kernel_rfl : [(T.int .u32 (1 : Int))] = (([(1 : Int)] : List Int).map qaC).flatten) <| aC (qaX list qaF) <| aC r0 <| aC (by simp : 1 = ([(1 : Int)] : List Int).length) <| aN) (ih _ _ h cx hn)
theorem ziS {K} (ih : quO K) {cx} (hn : cx.n = 80) {top lead r29 f p t30 t31 t32} {r} (h : qcV (K + 1) (.c1 top lead r29 f p t30 t31 t32) = some r) : quN cx (.c1 top lead r29 f p t30 t31 t32) r := by
 rw [qcV] at h
 rcases qaQ h with ⟨h1, h⟩ | ⟨h1, h⟩
 ·obtain ⟨x2, h3, h⟩ := qaH h
  obtain ⟨x4, h5, h⟩ := qaH h
  obtain ⟨x7, h8, h⟩ := qaH h
  exact wkG [.go, rg1, bTr, rgG [opI (.ix (qaF x2)), oo, oo], rgG [oo, oo, opI (.call [[1], [0]] [(tl 1 x2 qaC), (ti .u32 p)] (TV.tup [(false, [(T.sl 1 (x4.1.map qaC))]), (false, [(T.int .i64 x4.2)])])), oo, oo, oo, oo, oo], rgG [oo, oo, opI (.lit (([x4.1] : List (List Int)).map qaF)), opI (.appN (([x4.1] : List (List Int)).map qaF)), oo], rgG [oo, oo, oo, .snap 46 (max 0 (0 + r29.length)) (r29.map qaC), opI (.call [[1], [1], [0]] [(tl 1 r29 qaC), (tl 1 x4.1 qaC), (ti .u32 p)] (tl 1 x7 qaC)), oo], rg2, .pre [.rl 13 0 ([x4.1] : List (List Int)).length, .keep [0,2,7,11,12,13,30,31,32] [7,11,45]]] hn (aC h1 <| aC (qa1 h3) <| aC (qbS qaF h3) <| aC (qxD h5) <| aC (by kernel_rfl : [(T.sl 1 (x4.1.map qaC))] = (([x4.1] : List (List Int)).map qaF).flatten) <| aC (qbJ _ _ _ (by simp) : ((([x4.1] : List (List Int)).map qaF).drop 0).take 1 = ([x4.1] : List (List Int)).map qaF) <| aC (by simp : 0 < (([x4.1] : List (List Int)).map qaF).length) <| aC (by simp : (([x4.1] : List (List Int)).map qaF).length * 24 ≤ 140737488355328) <| aC (by simp [maxLen] : (([x4.1] : List (List Int)).map qaF).length ≤ maxLen) <| aC (qbJ _ _ _ (by simp) : ((r29.map qaC).drop 0).take r29.length = r29.map qaC) <| aC (rfl : (max 0 (0 + r29.length)) = (max 0 (0 + r29.length))) <| aC (qcF h8) <| aC r0 <| aC (by simp : (([x4.1] : List (List Int)).map qaF).length = ([x4.1] : List (List Int)).length) <| aN) (ih _ _ h cx hn)
 ·obtain ⟨x2, h3, h⟩ := qaH h
  obtain ⟨x4, h5, h⟩ := qaH h
  obtain ⟨x6, h7, h⟩ := qaH h
  obtain ⟨x8, h9, h⟩ := qaH h
  rcases qaQ h with ⟨h10, h⟩ | ⟨h10, h⟩
  ·have h := oinj h; subst h
   exact wkR [.go, rg1, bFa, .pre [.snap 12 (max 0 (0 + r29.length)) (r29.map qaC)], .draw [.p, .p, (.call [[2], [0]] [(tl 2 f qaA), (ti .u32 p)] (tl 1 x2 qaC)), .p, .p, .p, (.call [[0,1], [0]] [(TV.agg (qaA lead)), (ti .u32 p)] (ti .u32 x4)), .p, (.call [[1], [0], [0]] [(tl 1 r29 qaC), (ti .u32 x4), (ti .u32 p)] (tl 1 x6 qaC)), .p] [opI (.call [[1], [1], [0]] [(tl 1 x2 qaC), (tl 1 x6 qaC), (ti .u32 p)] (TV.c (T.bool x8))), .op .p], bTr, rg3] hn (aC h1 <| aC (qbJ _ _ _ (by simp) : ((r29.map qaC).drop 0).take r29.length = r29.map qaC) <| aC (rfl : (max 0 (0 + r29.length)) = (max 0 (0 + r29.length))) <| aC (qfC h3) <| aC (qa8 h5) <| aC (qdL h7) <| aC (qnH h9) <| aC h10 <| aN)
  ·obtain ⟨x11, h12, h⟩ := qaH h
   obtain ⟨x13, h14, h⟩ := qaH h
   obtain ⟨x15, h16, h⟩ := qaH h
   have h := oinj h; subst h
   exact wkR [.go, rg1, bFa, .pre [.snap 12 (max 0 (0 + r29.length)) (r29.map qaC)], .draw [.p, .p, (.call [[2], [0]] [(tl 2 f qaA), (ti .u32 p)] (tl 1 x2 qaC)), .p, .p, .p, (.call [[0,1], [0]] [(TV.agg (qaA lead)), (ti .u32 p)] (ti .u32 x4)), .p, (.call [[1], [0], [0]] [(tl 1 r29 qaC), (ti .u32 x4), (ti .u32 p)] (tl 1 x6 qaC)), .p] [opI (.call [[1], [1], [0]] [(tl 1 x2 qaC), (tl 1 x6 qaC), (ti .u32 p)] (TV.c (T.bool x8))), .op .p], bFa, rgG [oo, oo, opI (.call [[0,1], [0,1]] [(TV.agg (qaA lead)), (TV.agg (qaA top))] (TV.tup [(true, qaA x11.1), (true, qaA x11.2.1), (true, qaA x11.2.2)])), oo, oo, oo, oo, oo, oo, oo, oo, oo, oo], .draw [.p, .p, (.call [[2], [0,1]] [(tl 2 f qaA), (TV.agg (qaA x11.2.1))] (tl 2 x13 qaA)), .p, (.call [[2], [0,1]] [(tl 2 x13 qaA), (TV.agg (qaA top))] (TV.tup [(false, [(T.sl 2 (x15.1.map qaA))]), (false, [(T.int .i64 x15.2)])])), .p, .p, .p, .p] [.op .p], rg5] hn (aC h1 <| aC (qbJ _ _ _ (by simp) : ((r29.map qaC).drop 0).take r29.length = r29.map qaC) <| aC (rfl : (max 0 (0 + r29.length)) = (max 0 (0 + r29.length))) <| aC (qfC h3) <| aC (qa8 h5) <| aC (qdL h7) <| aC (qnH h9) <| aC h10 <| aC (qxW h12) <| aC (qd1 h14) <| aC (qa6 h16) <| aN)
theorem ziR {K} (ih : quO K) {cx} (hn : cx.n = 80) {top lead r45 f p product t30 t31 t32} {r} (h : qcV (K + 1) (.c2 top lead r45 f p product t30 t31 t32) = some r) : quN cx (.c2 top lead r45 f p product t30 t31 t32) r := by
 rw [qcV] at h
 rcases qaQ h with ⟨h1, h⟩ | ⟨h1, h⟩
 ·obtain ⟨x2, h3, h⟩ := qaH h
  obtain ⟨x4, h5, h⟩ := qaH h
  obtain ⟨h6, h⟩ := qbI h
  obtain ⟨x7, h8, h⟩ := qaH h
  exact wkG [.go, rg1, bTr, rgG [opI (.ix (qaF x2)), oo, oo], rgG [oo, oo, opI (.call [[1], [0]] [(tl 1 x2 qaC), (ti .u32 p)] (TV.tup [(false, [(T.sl 1 (x4.1.map qaC))]), (false, [(T.int .i64 x4.2)])])), oo, oo, oo, oo, oo], .pre [.keep [0,2,7,11,12,13,16,30,31,32] [7,11,45]], rgG [oo, oo, opI (.lit (([x4.1] : List (List Int)).map qaF)), .appR (([x4.1] : List (List Int)).map qaF) ((r45 ++ ([x4.1] : List (List Int))).map qaF), oo], rgG [oo, oo, oo, opI (.call [[1], [1], [0]] [(tl 1 product qaC), (tl 1 x4.1 qaC), (ti .u32 p)] (tl 1 x7 qaC)), oo], rg2, .pre [.rl 13 0 (r45 ++ ([x4.1] : List (List Int))).length, .keep [0,2,7,11,12,13,30,31,32] [7,11,45]]] hn (aC h1 <| aC (qa1 h3) <| aC (qbS qaF h3) <| aC (qxD h5) <| aC (by kernel_rfl : [(T.sl 1 (x4.1.map qaC))] = (([x4.1] : List (List Int)).map qaF).flatten) <| aC (by simp : r45.length = (r45.map qaF).length) <| aC (qbJ _ _ _ (by simp) : ((([x4.1] : List (List Int)).map qaF).drop 0).take 1 = ([x4.1] : List (List Int)).map qaF) <| aC (qs5 _ _ _ : r45.map qaF ++ ([x4.1] : List (List Int)).map qaF = (r45 ++ ([x4.1] : List (List Int))).map qaF) <| aC ((qeF _ _).symm ▸ h6 : ((r45 ++ ([x4.1] : List (List Int))).map qaF).length * 24 ≤ 140737488355328) <| aC ((qeF _ _).symm ▸ room (by decide) h6 : ((r45 ++ ([x4.1] : List (List Int))).map qaF).length ≤ maxLen) <| aC (qcF h8) <| aC r0 <| aC (by simp : ((r45 ++ ([x4.1] : List (List Int))).map qaF).length = (r45 ++ ([x4.1] : List (List Int))).length) <| aN) (ih _ _ h cx hn)
 ·obtain ⟨x2, h3, h⟩ := qaH h
  obtain ⟨x4, h5, h⟩ := qaH h
  obtain ⟨x6, h7, h⟩ := qaH h
  obtain ⟨x8, h9, h⟩ := qaH h
  rcases qaQ h with ⟨h10, h⟩ | ⟨h10, h⟩
  ·have h := oinj h; subst h
   exact wkR [.go, rg1, bFa, .draw [.p, .p, (.call [[2], [0]] [(tl 2 f qaA), (ti .u32 p)] (tl 1 x2 qaC)), .p, .p, .p, (.call [[0,1], [0]] [(TV.agg (qaA lead)), (ti .u32 p)] (ti .u32 x4)), .p, (.call [[1], [0], [0]] [(tl 1 product qaC), (ti .u32 x4), (ti .u32 p)] (tl 1 x6 qaC)), .p] [opI (.call [[1], [1], [0]] [(tl 1 x2 qaC), (tl 1 x6 qaC), (ti .u32 p)] (TV.c (T.bool x8))), .op .p], bTr, rg3] hn (aC h1 <| aC (qfC h3) <| aC (qa8 h5) <| aC (qdL h7) <| aC (qnH h9) <| aC h10 <| aN)
  ·obtain ⟨x11, h12, h⟩ := qaH h
   obtain ⟨x13, h14, h⟩ := qaH h
   obtain ⟨x15, h16, h⟩ := qaH h
   have h := oinj h; subst h
   exact wkR [.go, rg1, bFa, .draw [.p, .p, (.call [[2], [0]] [(tl 2 f qaA), (ti .u32 p)] (tl 1 x2 qaC)), .p, .p, .p, (.call [[0,1], [0]] [(TV.agg (qaA lead)), (ti .u32 p)] (ti .u32 x4)), .p, (.call [[1], [0], [0]] [(tl 1 product qaC), (ti .u32 x4), (ti .u32 p)] (tl 1 x6 qaC)), .p] [opI (.call [[1], [1], [0]] [(tl 1 x2 qaC), (tl 1 x6 qaC), (ti .u32 p)] (TV.c (T.bool x8))), .op .p], bFa, rgG [oo, oo, opI (.call [[0,1], [0,1]] [(TV.agg (qaA lead)), (TV.agg (qaA top))] (TV.tup [(true, qaA x11.1), (true, qaA x11.2.1), (true, qaA x11.2.2)])), oo, oo, oo, oo, oo, oo, oo, oo, oo, oo], .draw [.p, .p, (.call [[2], [0,1]] [(tl 2 f qaA), (TV.agg (qaA x11.2.1))] (tl 2 x13 qaA)), .p, (.call [[2], [0,1]] [(tl 2 x13 qaA), (TV.agg (qaA top))] (TV.tup [(false, [(T.sl 2 (x15.1.map qaA))]), (false, [(T.int .i64 x15.2)])])), .p, .p, .p, .p] [.op .p], rgG [oo, oo, oo, oo, oo, .snap 9 (max 0 (0 + r45.length)) (r45.map qaF)]] hn (aC h1 <| aC (qfC h3) <| aC (qa8 h5) <| aC (qdL h7) <| aC (qnH h9) <| aC h10 <| aC (qxW h12) <| aC (qd1 h14) <| aC (qa6 h16) <| aC (qbJ _ _ _ (by simp) : ((r45.map qaF).drop 0).take r45.length = r45.map qaF) <| aC (rfl : (max 0 (0 + r45.length)) = (max 0 (0 + r45.length))) <| aN)
theorem qqG : ∀ K : Nat, quO K
 | 0, c, r, h => by rw [qcV] at h; cases h
 | K + 1, .c0 .., r, h => fun cx hn => ziT (qqG K) hn h
 | K + 1, .c1 .., r, h => fun cx hn => ziS (qqG K) hn h
 | K + 1, .c2 .., r, h => fun cx hn => ziR (qqG K) hn h
theorem qyP {K : Nat} {f : (List qaB)} {list : (List (List Int))} {p : Int} {top : qaB} {r : ((List qaB) × (List (List Int)) × Int)} (h : qyQ K f list p top = some r) : qc5 prog 114 [(tl 2 f qaA), (tl 1 list qaF), (ti .u32 p), (TV.agg (qaA top))] (TV.tup [(false, [(T.sl 2 (r.1.map qaA))]), (false, [(T.sl 1 (r.2.1.map qaF))]), (false, [(T.int .i64 r.2.2)])]) :=
 qa0 [[2], [1], [0]] (by kernel_rfl) (by simp) fun cx hn => qqG K (.c0 f list p top) r h cx hn
open Go.Proofs.Try (prog)
inductive qj0 where
 | c0 (a : Int) (m : Int)
def qgY : Nat → qj0 → Option Int
 | 0, _ => none
 | K + 1, .c0 a m =>
  (qlF K m).bind fun x1 =>
  gd ((wI6 x1) ≠ 0) <|
  bif (decide ((wI6 x1) < (wI6 ((2 : Int) * (Int.tmod (wI6 a) (wI6 x1)))))) then
   some (wI6 ((Int.tmod (wI6 a) (wI6 x1)) - (wI6 x1)))
  else
   some (Int.tmod (wI6 a) (wI6 x1))
def qoO (K : Nat) (a : Int) (m : Int) : Option Int := qgY K (.c0 a m)
noncomputable def q2P : Code := qbQ prog 160
noncomputable def q3F : qj0 → List Fr
 | .c0 .. => [.code q2P]
def q4U : qj0 → St
 | .c0 a m => St.init [(ti .u32 a), (ti .u32 m)]
def qw3 (cx : Cx) (c : qj0) (r : Int) : Prop := Wk prog cx (qc2 prog 160 [[0]] (ti .i64 r)) (q3F c) .normal (q4U c)
abbrev qw4 (K : Nat) : Prop := ∀ c r, qgY K c = some r → ∀ cx : Cx, cx.n = 22 → qw3 cx c r
theorem q4W {K} (_ : qw4 K) {cx} (hn : cx.n = 22) {a m} {r} (h : qgY (K + 1) (.c0 a m) = some r) : qw3 cx (.c0 a m) r := by
 rw [qgY] at h
 obtain ⟨x1, h2, h⟩ := qaH h
 obtain ⟨h3, h⟩ := qbI h
 rcases qaQ h with ⟨h4, h⟩ | ⟨h4, h⟩
 ·have h := oinj h; subst h
  exact wkR [rg1, rgG [oo, opI (.call [[0]] [(ti .u32 m)] (ti .u64 x1)), oo, oo], rgG [oo, oo, oo, .op .dv, oo], rg4, bTr, rg4, rg2] hn (aC (qh3 h2) <| aC h3 <| aC h4 <| aN)
 ·have h := oinj h; subst h
  exact wkR [rg1, rgG [oo, opI (.call [[0]] [(ti .u32 m)] (ti .u64 x1)), oo, oo], rgG [oo, oo, oo, .op .dv, oo], rg4, bFa, rg2] hn (aC (qh3 h2) <| aC h3 <| aC h4 <| aN)
theorem quT : ∀ K : Nat, qw4 K
 | 0, c, r, h => by rw [qgY] at h; cases h
 | K + 1, .c0 .., r, h => fun cx hn => q4W (quT K) hn h
theorem q0Y {K : Nat} {a : Int} {m : Int} {r : Int} (h : qoO K a m = some r) : qc5 prog 160 [(ti .u32 a), (ti .u32 m)] (ti .i64 r) :=
 qa0 [[0]] (by kernel_rfl) (by simp) fun cx hn => quT K (.c0 a m) r h cx hn
open Go.Proofs.Try (prog)
inductive qj2 where
 | c0 (f : (List Int)) (m : Int)
 | c1 (r10 : (List qaB)) (m : Int) (t11 : (List Int)) (t12 : Int) (t13 : Int)
def qcZ : Nat → qj2 → Option (List qaB)
 | 0, _ => none
 | K + 1, .c0 f m =>
  gd (0 ≤ (f.length : Int) ∧ (f.length : Int) ≤ (f.length : Int) ∧ (32 : Int) * (f.length : Int) ≤ 140737488355328) <|
  qcZ K (.c1 (List.replicate (f.length : Int).toNat ((qaB.mk false []) : qaB)) m f (f.length : Int) (0 : Int))
 | K + 1, .c1 r10 m t11 t12 t13 =>
  bif (decide (t13 < t12)) then
   (gi t11 t13).bind fun x2 =>
   (qoO K x2 m).bind fun x4 =>
   (qiA K x4).bind fun x6 =>
   (gi r10 t13).bind fun _ =>
   qcZ K (.c1 (r10.set (t13.toNat) x6) m t11 t12 (wI6 (t13 + (1 : Int))))
  else
   (qpM K r10).bind fun x2 =>
   some x2
def qdJ (K : Nat) (f : (List Int)) (m : Int) : Option (List qaB) := qcZ K (.c0 f m)
noncomputable def qm0 : Code := qbQ prog 116
noncomputable def q3P : qj2 → List Fr
 | .c0 .. => [.code qm0]
 | .c1 .. => [.code (.loop (atC qm0 [1,1,0,1,0,0])), .blk 0, .code (atC qm0 [1,1,1])]
def q4X : qj2 → St
 | .c0 f m => St.init [(tl 1 f qaC), (ti .u32 m)]
 | .c1 r10 m t11 t12 t13 => ⟨[(1, vi .u32 m), (5, .c (C.row 10 0 r10.length)), (11, vl 1 t11 qaC), (12, vi .i64 t12), (13, vi .i64 t13)], [(10, .row 45 2 (r10.map qaA) 0)], []⟩
def qq0 (cx : Cx) (c : qj2) (r : (List qaB)) : Prop := Wk prog cx (qc2 prog 116 [[2]] (tl 2 r qaA)) (q3P c) .normal (q4X c)
abbrev qq1 (K : Nat) : Prop := ∀ c r, qcZ K c = some r → ∀ cx : Cx, cx.n = 28 → qq0 cx c r
theorem q4Z {K} (ih : qq1 K) {cx} (hn : cx.n = 28) {f m} {r} (h : qcZ (K + 1) (.c0 f m) = some r) : qq0 cx (.c0 f m) r := by
 rw [qcZ] at h
 obtain ⟨h1, h⟩ := qbI h
 exact wkG [rg1, rgG [oo, opI (.ln (f.length : Int)), opI (.mk (qaA (qaB.mk false [])) ((List.replicate (f.length : Int).toNat ((qaB.mk false []) : qaB)).map qaA)), oo], rgG [oo, opI (.ln (f.length : Int)), oo], .pre [.rl 5 0 (List.replicate (f.length : Int).toNat ((qaB.mk false []) : qaB)).length, .keep [1,5,11,12,13] [10]]] hn (aC (qaX f qaC) <| aC h1.1 <| aC h1.2.1 <| aC h1.2.2 <| aC (qgM _ _ _ : List.replicate (f.length : Int).toNat (qaA (qaB.mk false [])) = (List.replicate (f.length : Int).toNat ((qaB.mk false []) : qaB)).map qaA) <| aC (qaX f qaC) <| aC r0 <| aC (by simp : (f.length : Int).toNat = (List.replicate (f.length : Int).toNat ((qaB.mk false []) : qaB)).length) <| aN) (ih _ _ h cx hn)
theorem q4Y {K} (ih : qq1 K) {cx} (hn : cx.n = 28) {r10 m t11 t12 t13} {r} (h : qcZ (K + 1) (.c1 r10 m t11 t12 t13) = some r) : qq0 cx (.c1 r10 m t11 t12 t13) r := by
 rw [qcZ] at h
 rcases qaQ h with ⟨h1, h⟩ | ⟨h1, h⟩
 ·obtain ⟨x2, h3, h⟩ := qaH h
  obtain ⟨x4, h5, h⟩ := qaH h
  obtain ⟨x6, h7, h⟩ := qaH h
  obtain ⟨x8, h9, h⟩ := qaH h
  exact wkG [.go, rg1, bTr, rgG [oo, opI (.ix (qaC x2)), oo, oo, oo], rgG [oo, oo, oo, oo, opI (.call [[0], [0]] [(ti .u32 x2), (ti .u32 m)] (ti .i64 x4)), opI (.call [[0]] [(ti .i64 x4)] (TV.agg (qaA x6))), .op .ir, opI (.st (qaA x8) ((r10.set (t13.toNat) x6).map qaA))], rg2, .pre [.rl 5 0 (r10.set (t13.toNat) x6).length, .keep [1,5,11,12,13] [10]]] hn (aC h1 <| aC (qa1 h3) <| aC (qbS qaC h3) <| aC (q0Y h5) <| aC (qd8 h7) <| aC (qa1 h9) <| aC (qcB h9 (by simp) : t13 < ((r10.length : Nat) : Int)) <| aC (qcA qaA h9 : (r10.map qaA)[(0 + t13.toNat)]? = some (qaA x8)) <| aC (qc4 _ _ x6 _ : (r10.map qaA).set (0 + t13.toNat) (qbW (qaA x8) 0 [(T.bool x6.Neg), (T.sl 1 (x6.Abs.map qaC))]) = (r10.set (t13.toNat) x6).map qaA) <| aC (Nat.zero_le _ : 0 ≤ (0 + t13.toNat)) <| aC r0 <| aC (by simp : r10.length = (r10.set (t13.toNat) x6).length) <| aN) (ih _ _ h cx hn)
 ·obtain ⟨x2, h3, h⟩ := qaH h
  have h := oinj h; subst h
  exact wkR [.go, rg1, bFa, rgG [oo, .snap 26 (max 0 (0 + r10.length)) (r10.map qaA), opI (.call [[2]] [(tl 2 r10 qaA)] (tl 2 x2 qaA)), oo]] hn (aC h1 <| aC (qbJ _ _ _ (by simp) : ((r10.map qaA).drop 0).take r10.length = r10.map qaA) <| aC (rfl : (max 0 (0 + r10.length)) = (max 0 (0 + r10.length))) <| aC (qvX h3) <| aN)
theorem qn2 : ∀ K : Nat, qq1 K
 | 0, c, r, h => by rw [qcZ] at h; cases h
 | K + 1, .c0 .., r, h => fun cx hn => q4Z (qn2 K) hn h
 | K + 1, .c1 .., r, h => fun cx hn => q4Y (qn2 K) hn h
theorem qdG {K : Nat} {f : (List Int)} {m : Int} {r : (List qaB)} (h : qdJ K f m = some r) : qc5 prog 116 [(tl 1 f qaC), (ti .u32 m)] (tl 2 r qaA) :=
 qa0 [[2]] (by kernel_rfl) (by simp) fun cx hn => qn2 K (.c0 f m) r h cx hn
end Go.Am.X
